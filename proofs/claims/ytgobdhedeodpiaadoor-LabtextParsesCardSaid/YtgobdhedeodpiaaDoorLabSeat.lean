/- The seat's closed facts on its laid variables, and a start that fits. -/
import Derived.Test.YtgobdhedeodpiaaDoorCards
import Derived.Test.YtgobdhedeodpiaaDoorTie
import Derived.Test.YtgobdhedeodpiaaDoorLaidArr
import Derived.Test.YtgobdhedeodpiaaDoorRow
import Derived.Test.YtgobdhedeodpiaaDoorLabLaw
namespace Go.Proofs.YtgobdhedeodpiaaDoor
open Go.RowKit Go.ChangeShapes Go.WideShapes Go.ChangeAt
theorem own : ownKnob Tryd.prog.godebug = none := by kernel_rfl
theorem gLaidOut : laidOutB Tryd.prog = true := by kernel_rfl
abbrev lT : String × DataW Unit := ("math/bits.deBruijn64tab", Rows.laid_math_bits_deBruijn64tab)
abbrev lE : String × DataW Unit := ("errors.errorType", Rows.laid_errors_errorType)
abbrev lC : String × DataW Unit := ("plimsoll/cats.errCats", Rows.laid_plimsoll_cats_errCats)
theorem gT : Tryd.prog.globalNamed "math/bits.deBruijn64tab" = some 1 := by kernel_rfl
theorem gTT : (Tryd.prog.globals[1]?).map (·.type) = some 107 := by kernel_rfl
theorem gU8 : Tryd.prog.cellsOf 5 = 1 := by kernel_rfl
theorem gTab : (Rows.laid_math_bits_deBruijn64tab : DataW Unit) = .agg ((Lib.deBruijn64tab.map Int.ofNat).map fun z => DataW.lit (.int .u8 z)) := by rfl
theorem gET : Tryd.prog.globalNamed "errors.errorType" = some 0 := by kernel_rfl
theorem gRT : (Tryd.prog.cutTypes.find? (·.1 == "internal/reflectlite.rtype")).map (·.2) = some 112 := by kernel_rfl
theorem gSize : Tryd.prog.types.size = 164 := by kernel_rfl
theorem gOne : ((List.range 164).filter fun t => Tryd.prog.rowNamed t [101, 114, 114, 111, 114]) = [51] := by kernel_rfl
theorem gHandle : typeHandle Tryd.prog 51 = .pointer (some ⟨4, 51, none⟩) := by kernel_rfl
theorem laid_parts {W : World} (h : laidMetH Tryd.prog [lT, lE, lC] W) : laidMet Tryd.prog [lT, lC] W ∧ handlesMet Tryd.prog [lE] W := h
theorem tab_of {W : World} (h : laidMet Tryd.prog [lT, lC] W) : Tab W := by
  obtain ⟨ps, ⟨g, t, cs, fuel, p, q, hg, ht, hvar, hd, _, _⟩, _⟩ := h
  obtain rfl := Option.some.inj (gT.symm.trans hg)
  obtain rfl := Option.some.inj (gTT.symm.trans ht)
  rw [gTab] at hd
  have := arr_of_trod Tryd.underlying107 Tryd.underlying5 gU8 hd
  intro j hj
  have hj' : j < 64 := hj
  obtain ⟨z, h1, h2⟩ := this j hj'
  have hc := World.var?_cell gT hvar j
  rw [List.getElem?_map] at h1
  have e : Lib.deBruijn64tab[j]? = some (Lib.deBruijn64tab.getD j 0) := by rw [List.getD_eq_getElem?_getD, List.getElem?_eq_getElem hj]; rfl
  rw [e] at h1
  simp only [Option.map_some, Option.some.injEq] at h1
  subst h1
  simpa using hc.trans (by simpa using h2)
theorem errT_of {W : World} (h : handlesMet Tryd.prog [lE] W) : ErrT W := by
  obtain ⟨name, u, ty, e1, e2, e3, e4, e5⟩ := h _ (List.mem_singleton.2 rfl)
  have en : name = [101, 114, 114, 111, 114] := (Option.some.inj e1).symm
  subst en
  obtain rfl := Option.some.inj (gRT.symm.trans e2)
  have hm : ty ∈ (List.range 164).filter fun t => Tryd.prog.rowNamed t [101, 114, 114, 111, 114] := List.mem_filter.2 ⟨List.mem_range.2 (by rw [← gSize]; exact e3), e4⟩
  rw [gOne] at hm
  obtain rfl := List.mem_singleton.1 hm
  rw [gHandle] at e5
  simpa using World.var?_cell gET e5 0
theorem door_met (os : Os) (args : Array Value) : laidMetH Tryd.prog [lT, lE, lC] ((World.doorLaid Tryd.prog 100 os).forCall (fun _ _ => 0) ⟨#[], args, []⟩).memory :=
  laidMetH_of_parts3 (fuel := 8) (laidMet_of_run' 8 (by kernel_rfl) (by kernel_rfl)) (by kernel_rfl) (by kernel_rfl)
theorem list_of (s : ByteArray) : ∃ l : List UInt8, s = ⟨l.toArray⟩ ∧ l.length = s.size := ⟨s.data.toList, by cases s; simp, Array.length_toList⟩
section
variable {H : Type} {enc : TypeId × Value → H} {w : World} {base : Nat} {spare : Nat → Bool} {held : Bool} {r : Reach} {b0 : Nat} {v : Value} {d : DataW H} {p : List MemPlace}
set_option maxRecDepth 100000 in
theorem open_str (hv : Value.okWide Tryd.prog w r b0 9 v) (h : DataW.Trod enc Tryd.prog w base spare held 9 v d p) : ∃ l : List UInt8, v = .string ⟨l.toArray⟩ ∧ l.length ≤ maxLen := by
  obtain ⟨s, rfl, -, -, ws⟩ := ChangeMaps.open_string Tryd.underlying9 hv h
  obtain ⟨l, rfl, hl⟩ := list_of s
  exact ⟨l, rfl, Nat.le_trans (Nat.le_of_eq hl) ws⟩
theorem wf_u64 {n : Int} (h : (Lit.int .u64 n).wf = true) : ∃ S : Nat, n = S ∧ S < 18446744073709551616 := by
  simp [Lit.wf, IntKind.min, IntKind.max, IntKind.bits, IntKind.signed] at h
  exact ⟨n.toNat, by omega, by omega⟩
set_option maxRecDepth 100000 in
theorem open_label (hv : Value.okWide Tryd.prog w r b0 24 v) (h : DataW.Trod enc Tryd.prog w base spare held 24 v d p) :
    ∃ (lv ig : Int) (S : Nat), v = labV lv S ig ∧ S < 18446744073709551616 := by
  obtain ⟨c0, c1, c2, y0, y1, y2, n, rfl, -, -, hy0, hy1, hy2⟩ := Go.Joins.open_agg3 Tryd.underlying24 (by kernel_rfl) (by kernel_rfl) hv h
  obtain ⟨k, e0, -, wk⟩ := DataW.trod_int Tryd.underlying3 hy0
  obtain ⟨m, e1, -, wm⟩ := DataW.trod_int Tryd.underlying22 hy1
  obtain ⟨s, e2, -, ws⟩ := DataW.trod_int Tryd.underlying3 hy2
  simp at e0 e1 e2
  subst e0 e1 e2
  obtain ⟨S, rfl, hS⟩ := wf_u64 wm
  exact ⟨k, s, S, rfl, hS⟩
theorem wf_i64 {n : Int} (h : (Lit.int .i64 n).wf = true) : -9223372036854775808 ≤ n ∧ n ≤ 9223372036854775807 := by
  simp [Lit.wf, IntKind.min, IntKind.max, IntKind.bits, IntKind.signed] at h
  omega
end
end Go.Proofs.YtgobdhedeodpiaaDoor
