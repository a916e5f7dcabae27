/- Joined: RuSeat -/
import Derived.Test.YtmmdpjliknmhgaaGreatDoorCards
import Derived.Test.YtmmdpjliknmhgaaGreatDoorTie
import Derived.Test.YtmmdpjliknmhgaaGreatDoorJRA
import Derived.Test.YtmmdpjliknmhgaaGreatDoorJRN
import Derived.Stop.LaidTwo
import Derived.Shelf.Vars
import Derived.Lay
/- The seat's closed facts on its laid variables, a start that fits, and the arguments opened: layer 14. -/
namespace Go.Proofs.YtmmdpjliknmhgaaGreatDoor
open Go.RowKit Go.ChangeShapes Go.WideShapes Go.ChangeAt Go.Deep
theorem own : ownKnob Tryz.prog.godebug = none := by kernel_rfl
theorem gLaidOut : laidOutB Tryz.prog = true := by kernel_rfl
abbrev lT : String × DataW Unit := ("math/bits.deBruijn64tab", Rows.laid_math_bits_deBruijn64tab)
abbrev lR : String × DataW Unit := ("unicode/utf8.acceptRanges", Rows.laid_unicode_utf8_acceptRanges)
abbrev lE : String × DataW Unit := ("errors.errorType", Rows.laid_errors_errorType)
abbrev lC : String × DataW Unit := ("plimsoll/cats.errCats", Rows.laid_plimsoll_cats_errCats)
abbrev lF : String × DataW Unit := ("plimsoll/filter.errFilter", Rows.laid_plimsoll_filter_errFilter)
abbrev lU : String × DataW Unit := ("unicode/utf8.first", Rows.laid_unicode_utf8_first)
theorem gT : Tryz.prog.globalNamed "math/bits.deBruijn64tab" = some 2 := by kernel_rfl
theorem gTT : (Tryz.prog.globals[2]?).map (·.type) = some 196 := by kernel_rfl
theorem gU8 : Tryz.prog.cellsOf 5 = 1 := by kernel_rfl
theorem gTab : (Rows.laid_math_bits_deBruijn64tab : DataW Unit) = .agg ((Lib.deBruijn64tab.map Int.ofNat).map fun z => DataW.lit (.int .u8 z)) := by rfl
theorem gET : Tryz.prog.globalNamed "errors.errorType" = some 0 := by kernel_rfl
theorem gRT : (Tryz.prog.cutTypes.find? (·.1 == "internal/reflectlite.rtype")).map (·.2) = some 145 := by kernel_rfl
theorem gSize : Tryz.prog.types.size = 269 := by kernel_rfl
theorem gOne : ((List.range 269).filter fun t => Tryz.prog.rowNamed t [101, 114, 114, 111, 114]) = [50] := by kernel_rfl
theorem gHandle : typeHandle Tryz.prog 50 = .pointer (some ⟨7, 50, none⟩) := by kernel_rfl
theorem gE : Tryz.prog.globalNamed "plimsoll/filter.errFilter" = some 1 := by kernel_rfl
theorem gEType : (Tryz.prog.globals[1]?).map (·.type) = some 50 := by kernel_rfl
theorem gECells : Tryz.prog.cellsOf 257 = 1 := by kernel_rfl
theorem gSCells : Tryz.prog.cellsOf 9 = 1 := by kernel_rfl
theorem gStar : "*" ++ "errors.errorString" = "*errors.errorString" := by decide
theorem gRow (u : TypeId) (h : Tryz.prog.typeName? 3 u = some "*errors.errorString") : u = 238 :=
  typeName_ptr_named (nm := "errors.errorString") (by rw [gStar]; kernel_rfl) (by kernel_rfl) (by decide) u (by rw [gStar]; exact h)
theorem laidMet_tail {P : Program} {x : String × DataW Unit} {r : List (String × DataW Unit)} {W : World} (h : laidMet P (x :: r) W) : laidMet P r W := by
  obtain ⟨ps, ⟨g, t, cs, fuel, p, q, hg, ht, hvar, hd, hr, e⟩, hnd, hrows⟩ := h
  subst e
  exact ⟨q, hr, (List.nodup_append.1 hnd).2.1, fun b off hm => hrows b off (List.mem_append_right _ hm)⟩
theorem laid_parts {W : World} (h : laidMetH Tryz.prog [lT, lR, lE, lC, lF, lU] W) : laidMet Tryz.prog [lT, lR, lC, lF, lU] W ∧ handlesMet Tryz.prog [lE] W := h
theorem tab_of {W : World} (h : laidMet Tryz.prog [lT, lR, lC, lF, lU] W) : Tab W := by
  obtain ⟨ps, ⟨g, t, cs, fuel, p, q, hg, ht, hvar, hd, _, _⟩, _⟩ := h
  obtain rfl := Option.some.inj (gT.symm.trans hg)
  obtain rfl := Option.some.inj (gTT.symm.trans ht)
  rw [gTab] at hd
  have := arr_of_trod Tryz.underlying196 Tryz.underlying5 gU8 hd
  intro j hj
  have hj' : j < 64 := hj
  obtain ⟨z, h1, h2⟩ := this j hj'
  have hc := World.var?_cell gT hvar j
  rw [List.getElem?_map] at h1
  have e : Lib.deBruijn64tab[j]? = some (Lib.deBruijn64tab.getD j 0) := by rw [List.getD_eq_getElem?_getD, List.getElem?_eq_getElem hj]; rfl
  rw [e] at h1
  simp only [Option.map_some, Option.some.injEq] at h1
  subst h1
  simpa using hc.trans (by simpa using h2)
theorem errT_of {W : World} (h : handlesMet Tryz.prog [lE] W) : ErrT W := by
  obtain ⟨name, u, ty, e1, e2, e3, e4, e5⟩ := h _ (List.mem_singleton.2 rfl)
  have en : name = [101, 114, 114, 111, 114] := (Option.some.inj e1).symm
  subst en
  obtain rfl := Option.some.inj (gRT.symm.trans e2)
  have hm : ty ∈ (List.range 269).filter fun t => Tryz.prog.rowNamed t [101, 114, 114, 111, 114] := List.mem_filter.2 ⟨List.mem_range.2 (by rw [← gSize]; exact e3), e4⟩
  rw [gOne] at hm
  obtain rfl := List.mem_singleton.1 hm
  rw [gHandle] at e5
  simpa using World.var?_cell gET e5 0
theorem sentinel {W : World} (h : laidMet Tryz.prog [lT, lR, lC, lF, lU] W) : ∃ ea, W.cell? ⟨1, 0, none⟩ = some (eV ea) := by
  have h2 : laidMet Tryz.prog [lF, lU] W := laidMet_tail (laidMet_tail (laidMet_tail h))
  obtain ⟨a0, s0, hv0, -, -, -⟩ := laid_sentinel h2 gE gEType Tryz.underlying50 gRow Tryz.underlying238 Tryz.underlying257 rfl rfl Tryz.underlying9 gECells gSCells
  exact ⟨a0, by simpa using World.var?_cell gE hv0 0⟩
theorem glob_of {W : World} (h : laidMetH Tryz.prog [lT, lR, lE, lC, lF, lU] W) (hs : W.ShapedOpen Tryz.prog) : ∃ ea mx, Glob ea mx W := by
  obtain ⟨h1, h2⟩ := laid_parts h
  obtain ⟨ea, hge⟩ := sentinel h1
  obtain ⟨mx, hm⟩ := cell_of_shapedOpen_int (g := 3) (t := 3) (zero := #[.int .i64 0]) hs (by decide +kernel) (by kernel_rfl) rfl (by kernel_rfl) (by kernel_rfl) Tryz.underlying3
  exact ⟨ea, mx, hge, tab_of h1, errT_of h2, hm⟩
noncomputable abbrev door (os : Os) : World := World.doorLaid Tryz.prog 100 os
/-- the door's world, the pinned table laid into it -/
noncomputable abbrev start (os : Os) : World := (door os).layVars Tryz.prog [lU]
theorem start_os (os : Os) : (start os).os = os := World.layVars_os _ _ _
noncomputable abbrev blocksB (os : Os) : List Nat := (List.range (door os).heap.size).filter fun k => k != 4
theorem plain_met (os : Os) (args : Array Value) : laidMet Tryz.prog ([lT, lR, lE, lC, lF, lU].filter fun x => x.2.handleName?.isNone) ((start os).forCall (fun _ _ => 0) ⟨#[], args, []⟩).memory := by
  have h : laidMet Tryz.prog ([lT, lR, lE, lC, lF, lU].filter fun x => x.2.handleName?.isNone) (start os) :=
    laidMet_layVars (w0 := door os) ["unicode/utf8.first"] (blocksB os) (by kernel_rfl) (by kernel_rfl) (by kernel_rfl) (LaidIn.of_run (blocksB os) 8 (by kernel_rfl) (by kernel_rfl) (by kernel_rfl) (by kernel_rfl))
  exact h.of_heap (by simp [World.memory, World.forCall, Input.heap])
theorem door_met (os : Os) (args : Array Value) : laidMetH Tryz.prog [lT, lR, lE, lC, lF, lU] ((start os).forCall (fun _ _ => 0) ⟨#[], args, []⟩).memory :=
  laidMetH_of_parts3 (fuel := 8) (plain_met os args) (by kernel_rfl) (by kernel_rfl)
theorem wf_u64 {n : Int} (h : (Lit.int .u64 n).wf = true) : ∃ S : Nat, n = S ∧ S < 18446744073709551616 := by
  simp [Lit.wf, IntKind.min, IntKind.max, IntKind.bits, IntKind.signed] at h
  exact ⟨n.toNat, by omega, by omega⟩
theorem wf_i64 {n : Int} (h : (Lit.int .i64 n).wf = true) : -9223372036854775808 ≤ n ∧ n ≤ 9223372036854775807 := by
  simp [Lit.wf, IntKind.min, IntKind.max, IntKind.bits, IntKind.signed] at h
  omega
theorem Rows.both {α : Type} {E : α → List Value → Prop} {Q : α → Prop} : ∀ {l : List α} {cs : List Value}, Rows (fun x c => E x c ∧ Q x) l cs → Rows E l cs ∧ ∀ x ∈ l, Q x
  | [], _, h => ⟨h, fun x hx => by cases hx⟩
  | x :: l, _, ⟨c, r, e, h1, h2⟩ => by
    obtain ⟨i1, i2⟩ := Rows.both h2
    refine ⟨⟨c, r, e, h1.1, i1⟩, fun y hy => ?_⟩
    rcases List.mem_cons.1 hy with rfl | hy
    · exact h1.2
    · exact i2 y hy
theorem cIntC : Tryz.prog.cellsOf 3 = 1 := by kernel_rfl
theorem cU64C : Tryz.prog.cellsOf 34 = 1 := by kernel_rfl
theorem cLabC : Tryz.prog.cellsOf 36 = 3 := by kernel_rfl
theorem cFilC : Tryz.prog.cellsOf 38 = 3 := by kernel_rfl
theorem cRulC : Tryz.prog.cellsOf 40 = 11 := by kernel_rfl
theorem len11 {cs : List Value} (h : cs.length = 11) : ∃ a b c d e f g i j k l, cs = [a, b, c, d, e, f, g, i, j, k, l] := by
  match cs, h with
  | [a, b, c, d, e, f, g, i, j, k, l], _ => exact ⟨a, b, c, d, e, f, g, i, j, k, l, rfl⟩
section
variable {H : Type} {enc : TypeId × Value → H} {w : World} {base : Nat} {spare : Nat → Bool} {held : Bool} {r : Reach} {b0 : Nat} {v : Value} {d : DataW H} {p : List MemPlace}
theorem trod_struct5 {P : Program} {t : TypeId} {f0 f1 f2 f3 f4 : Field} {fuel : Nat} {cs : List Value} {x : DataW H × List MemPlace} (ht : P.underlying t = some (.struct #[f0, f1, f2, f3, f4])) (h : DataW.trod enc P w base spare held fuel t cs = some x) :
    ∃ y0 y1 y2 y3 y4 n, fuel = n + 1 ∧ cs.length = P.cellsOf t ∧ DataW.trod enc P w base spare held n f0.type ((cs.drop f0.offset).take (P.cellsOf f0.type)) = some y0 ∧ DataW.trod enc P w base spare held n f1.type ((cs.drop f1.offset).take (P.cellsOf f1.type)) = some y1 ∧
      DataW.trod enc P w base spare held n f2.type ((cs.drop f2.offset).take (P.cellsOf f2.type)) = some y2 ∧ DataW.trod enc P w base spare held n f3.type ((cs.drop f3.offset).take (P.cellsOf f3.type)) = some y3 ∧ DataW.trod enc P w base spare held n f4.type ((cs.drop f4.offset).take (P.cellsOf f4.type)) = some y4 := by
  obtain ⟨xs, n, rfl, -, hl, hlen, hf⟩ := DataW.trod_struct ht h
  match xs, hlen with
  | [y0, y1, y2, y3, y4], _ => exact ⟨y0, y1, y2, y3, y4, n, rfl, hl, by simpa using hf 0 f0 rfl, by simpa using hf 1 f1 rfl, by simpa using hf 2 f2 rfl, by simpa using hf 3 f3 rfl, by simpa using hf 4 f4 rfl⟩
set_option maxRecDepth 100000 in
theorem lab_open {fuel : Nat} {cs : List Value} {y : DataW H × List MemPlace} (h : DataW.trod enc Tryz.prog w base spare held fuel 36 cs = some y) : ∃ (l : Int) (S : Nat) (i : Int), cs = [.int .i64 l, .int .u64 S, .int .i64 i] ∧ S < 18446744073709551616 := by
  obtain ⟨y0, y1, y2, n, -, hl, h0, h1, h2⟩ := trod_struct3 Tryz.underlying36 h
  rw [cLabC] at hl
  match cs, hl with
  | [a, b, c], _ =>
    simp only [cIntC, cU64C] at h0 h1 h2
    simp at h0 h1 h2
    obtain ⟨l, e0, -⟩ := int_open Tryz.underlying3 h0
    obtain ⟨m, e1, w1⟩ := int_open Tryz.underlying34 h1
    obtain ⟨i, e2, -⟩ := int_open Tryz.underlying3 h2
    cases e0; cases e1; cases e2
    obtain ⟨S, rfl, hS⟩ := wf_u64 w1
    exact ⟨l, S, i, rfl, hS⟩
set_option maxRecDepth 100000 in
theorem fil_open {fuel : Nat} {cs : List Value} {y : DataW H × List MemPlace} (h : DataW.trod enc Tryz.prog w base spare held fuel 38 cs = some y) : ∃ (k m : Int) (form : List UInt8), cs = [.int .i64 k, .int .i64 m, .string ⟨form.toArray⟩] ∧ form.length ≤ maxLen := by
  obtain ⟨y0, y1, y2, n, -, hl, h0, h1, h2⟩ := trod_struct3 Tryz.underlying38 h
  rw [cFilC] at hl
  match cs, hl with
  | [a, b, c], _ =>
    simp only [cIntC, gSCells] at h0 h1 h2
    simp at h0 h1 h2
    obtain ⟨l, e0, -⟩ := int_open Tryz.underlying3 h0
    obtain ⟨m, e1, -⟩ := int_open Tryz.underlying3 h1
    obtain ⟨s, e2, hs⟩ := str_open Tryz.underlying9 h2
    cases e0; cases e1; cases e2
    exact ⟨l, m, s, rfl, hs⟩
def OkA (r : RuT) : Prop := (r.src.2.1 < 18446744073709551616 ∧ r.dst.2.1 < 18446744073709551616) ∧ r.what.2.2.length ≤ maxLen
set_option maxRecDepth 100000 in
theorem rule_open {fuel : Nat} {cs : List Value} {x : DataW H × List MemPlace} (h : DataW.trod enc Tryz.prog w base spare held fuel 40 cs = some x) : ∃ r : RuT, cs = ruC r ∧ OkA r := by
  obtain ⟨y0, y1, y2, y3, y4, n, -, hl, h0, h1, h2, h3, h4⟩ := trod_struct5 Tryz.underlying40 h
  rw [cRulC] at hl
  obtain ⟨c0, c1, c2, c3, c4, c5, c6, c7, c8, c9, c10, rfl⟩ := len11 hl
  simp only [cIntC, cLabC, cFilC] at h0 h1 h2 h3 h4
  simp at h0 h1 h2 h3 h4
  obtain ⟨i0, e0, -⟩ := int_open Tryz.underlying3 h0
  obtain ⟨l1, S1, i1, e1, hS1⟩ := lab_open h1
  obtain ⟨l2, S2, i2, e2, hS2⟩ := lab_open h2
  obtain ⟨b3, e3, -⟩ := int_open Tryz.underlying3 h3
  obtain ⟨k, m, form, e4, hf⟩ := fil_open h4
  cases e0; cases e1; cases e2; cases e3; cases e4
  exact ⟨⟨i0, (l1, S1, i1), (l2, S2, i2), b3, (k, m, form)⟩, rfl, ⟨hS1, hS2⟩, hf⟩
set_option maxRecDepth 100000 in
theorem open_rules (hv : Value.okWide Tryz.prog w r b0 22 v) (h : DataW.Trod enc Tryz.prog w base spare held 22 v d p) : ∃ l : List RuT, RulesV w v l ∧ l.length ≤ maxLen ∧ ∀ x ∈ l, OkA x := by
  obtain ⟨a, n, c, rfl⟩ := okWide_slice Tryz.underlying22 hv
  obtain ⟨fuel, hf⟩ := h
  obtain ⟨v', l, css, e, h1, h2, h3⟩ := slR_open (α := RuT) (k := 11) (fun x c => c = ruC x ∧ OkA x) Tryz.underlying22 cRulC (by omega) (fun n cs' y hy => rule_open hy) (fun x c hc => by rw [hc.1]; rfl) hf
  cases e
  obtain ⟨h4, h5⟩ := Rows.both h2
  have e : css = rusC l := by
    clear h1 h2 h3 h5
    induction l generalizing css with
    | nil => exact h4
    | cons s l ih =>
      obtain ⟨c, r, e, e2, h3⟩ := h4
      rw [e, e2, ih r h3]; simp [rusC]
  rw [e] at h1
  exact ⟨l, h1, h3, h5⟩
set_option maxRecDepth 100000 in
theorem open_label (hv : Value.okWide Tryz.prog w r b0 36 v) (h : DataW.Trod enc Tryz.prog w base spare held 36 v d p) :
    ∃ a : LaT, v = .agg #[.int .i64 a.1, .int .u64 a.2.1, .int .i64 a.2.2] ∧ a.2.1 < 18446744073709551616 := by
  obtain ⟨c0, c1, c2, y0, y1, y2, n, rfl, -, -, hy0, hy1, hy2⟩ := Go.Joins.open_agg3 Tryz.underlying36 (by kernel_rfl) (by kernel_rfl) hv h
  obtain ⟨k, e0, -, wk⟩ := DataW.trod_int Tryz.underlying3 hy0
  obtain ⟨m, e1, -, wm⟩ := DataW.trod_int Tryz.underlying34 hy1
  obtain ⟨s, e2, -, ws⟩ := DataW.trod_int Tryz.underlying3 hy2
  simp at e0 e1 e2
  subst e0 e1 e2
  obtain ⟨S, rfl, hS⟩ := wf_u64 wm
  exact ⟨(k, S, s), rfl, hS⟩
set_option maxRecDepth 100000 in
theorem open_str (hv : Value.okWide Tryz.prog w r b0 9 v) (h : DataW.Trod enc Tryz.prog w base spare held 9 v d p) : ∃ l : List UInt8, v = .string ⟨l.toArray⟩ ∧ l.length ≤ maxLen := by
  obtain ⟨s, rfl, -, -, ws⟩ := ChangeMaps.open_string Tryz.underlying9 hv h
  refine ⟨s.data.toList, by cases s; simp, ?_⟩
  exact ws
end
end Go.Proofs.YtmmdpjliknmhgaaGreatDoor
