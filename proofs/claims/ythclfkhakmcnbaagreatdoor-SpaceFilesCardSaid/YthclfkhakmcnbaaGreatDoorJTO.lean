/- Joined: Row; TenSeat -/
import Derived.Test.YthclfkhakmcnbaaGreatDoorJTA
import Derived.Carry
import Derived.ChangeSame
import Derived.WideKeyArgs
import Derived.ProofKit
import Derived.Deep.DeepHandedRow
import Derived.Deep.DeepWitnessRowRef
import Derived.LaidMore
import Derived.Stop.LaidErr
import Derived.Test.YthclfkhakmcnbaaGreatDoorCards
import Derived.Test.YthclfkhakmcnbaaGreatDoorTie
import Derived.Test.YthclfkhakmcnbaaGreatDoorJTN
import Derived.Test.YthclfkhakmcnbaaGreatDoorJTG
import Derived.Stop.LaidTwo
/- A law's row: its post, where the call's old heap stays and the result is true. On no program. -/
namespace Go.Proofs.YthclfkhakmcnbaaGreatDoor
open Go.RowKit Go.ChangeShapes Go.WideShapes Go.ChangeAt
theorem trodAll_stays {H : Type} {enc : TypeId × Value → H} {P : Program} (hl : laidOutB P = true) {W W' : World} {sp : Nat → Bool} :
    ∀ {ts : List TypeId} {vs : List Value} {ds : List (DataW H)} {ps : List MemPlace}, (∀ t ∈ ts, P.readableRec t = true ∧ t < P.types.size) → DataW.TrodAll enc P W 0 (fun _ => true) true ts vs ds ps → (∀ p ∈ ps, W.sameAt W' p) → (∀ p ∈ ps, sp p.block = true) →
      DataW.TrodAll enc P W' 0 sp true ts vs ds ps
  | [], vs, ds, ps, _, h, _, _ => by
    obtain ⟨rfl, rfl, rfl⟩ := trodAll_nil h
    exact trodAll_mk0
  | t :: ts, vs, ds, ps, ht, h, hs, hp => by
    obtain ⟨v, vs1, d, ds1, a, b, rfl, rfl, rfl, h1, h2⟩ := trodAll_cons h
    exact trodAll_cons_mk (WideElems.Trod_stays hl (ht t (by simp)).1 (ht t (by simp)).2 h1 (fun p m => hs p (by simp [m])) (fun p m => hp p (by simp [m])))
      (trodAll_stays hl (fun u m => ht u (by simp [m])) h2 (fun p m => hs p (by simp [m])) (fun p m => hp p (by simp [m])))

/-- THE POST OF A LAW: the old heap stays, true comes back, each argument reads as it did. -/
theorem post_true {H : Type} {enc : TypeId × Value → H} {P : Program} {f : Func} {s : ChangeSpec} {apart fresh handsOn again : Bool} {W W' : World} {args : Array Value} {ds gs : List (DataW H)} {before : List MemPlace} {t : TypeId}
    (hW : DataW.Whole enc P f.params.toList s.vars apart W args.toList ds gs before) (hb : Below W.heap.size W W') (hv : s.vars = []) (hs : s.fn H (ds ++ gs) = { results := [.lit (.bool true)], args := ds })
    (hrt : f.resultTypes = #[t]) (ht : P.underlying t = some .bool) (hl : laidOutB P = true) (hrb : (f.params.toList.all fun t => P.readableRec t && decide (t < P.types.size)) = true) :
    s.post enc P f apart fresh handsOn again W args (.bool true) W' := by
  have hr : ∀ t ∈ f.params.toList, P.readableRec t = true ∧ t < P.types.size := fun t ht => by simpa using List.all_eq_true.1 hrb t ht
  have hlt := fun p hp => hW.lt p hp
  have hW' := hW
  obtain ⟨p, q, hA, hV, rfl, hz, hn⟩ := hW
  rw [hv] at hV
  obtain ⟨rfl, rfl⟩ := trodVars_none hV
  have hsame : ∀ x ∈ p, W.sameAt W' x := fun x hx => hb.same (hlt x (by simp [hx]))
  have hsp : ∀ x ∈ p, (fun b => decide (b < W.heap.size)) x.block = true := fun x hx => by simpa using hlt x (by simp [hx])
  have hres : ∀ (b : Nat) (sp : Nat → Bool) (hd : Bool), DataW.TrodAll enc P W' b sp hd f.resultTypes.toList ((Value.bool true).resultList f.resultTypes.size) (s.fn H (ds ++ [])).results [] := by
    intro b sp hd
    rw [hs, hrt]
    exact trodAll_cons_mk (shut_bool ht _) trodAll_mk0
  have hargs : ∀ sp : Nat → Bool, (∀ x ∈ p, sp x.block = true) → DataW.TrodAll enc P W' 0 sp true f.params.toList args.toList (s.fn H (ds ++ [])).args p := by
    intro sp h
    rw [hs]
    exact trodAll_stays hl hr hA hsame h
  have hvars : ∀ sp : Nat → Bool, DataW.TrodVars enc P W' sp s.vars (s.fn H (ds ++ [])).vars [] := by
    intro sp; rw [hv, hs]; rfl
  refine ⟨ds, [], _, [], p, [], hW', hres _ _ _, hargs _ hsp, hvars _, hb.frame _, fun _ => ?_⟩
  refine ⟨ok_one hrt rfl (okWide_bool_mk ht _), _, _, ([] ++ p) ++ [], ⟨[] ++ p, [], trodAll_append (hargs _ (fun _ _ => rfl)) (hres _ _ _), hvars _, rfl, ?_, ?_⟩, ?_⟩
  · intro b off hp
    have hp' : MemPlace.cell b off ∈ p ++ [] := by simpa using hp
    exact (hb.frozen (p := ⟨b, off, none⟩) (hlt _ hp')).trans (hz b off hp')
  · intro ha
    simpa using hn ha
  · intro x hx _
    simpa using hx
end Go.Proofs.YthclfkhakmcnbaaGreatDoor
/- The seat's closed facts on its laid variables, a start that fits, and the arguments opened. -/
namespace Go.Proofs.YthclfkhakmcnbaaGreatDoor
open Go.RowKit Go.ChangeShapes Go.WideShapes Go.ChangeAt Go.Deep
theorem own : ownKnob Tryz.prog.godebug = none := by kernel_rfl
theorem gLaidOut : laidOutB Tryz.prog = true := by kernel_rfl
abbrev lE : String × DataW Unit := ("errors.errorType", Rows.laid_errors_errorType)
abbrev lA : String × DataW Unit := ("plimsoll/ring.errArg", Rows.laid_plimsoll_ring_errArg)
abbrev lF : String × DataW Unit := ("plimsoll/ring.errFull", Rows.laid_plimsoll_ring_errFull)
abbrev lM : String × DataW Unit := ("plimsoll/ring.errEmpty", Rows.laid_plimsoll_ring_errEmpty)
theorem gE : Tryz.prog.globalNamed "plimsoll/ring.errArg" = some 0 := by kernel_rfl
theorem gEType : (Tryz.prog.globals[0]?).map (·.type) = some 69 := by kernel_rfl
theorem gECells : Tryz.prog.cellsOf 195 = 1 := by kernel_rfl
theorem gSCells : Tryz.prog.cellsOf 9 = 1 := by kernel_rfl
theorem gStar : "*" ++ "errors.errorString" = "*errors.errorString" := by decide
theorem gRow (u : TypeId) (h : Tryz.prog.typeName? 3 u = some "*errors.errorString") : u = 174 :=
  typeName_ptr_named (nm := "errors.errorString") (by rw [gStar]; kernel_rfl) (by kernel_rfl) (by decide) u (by rw [gStar]; exact h)
theorem gET : Tryz.prog.globalNamed "errors.errorType" = some 4 := by kernel_rfl
theorem gRT : (Tryz.prog.cutTypes.find? (·.1 == "internal/reflectlite.rtype")).map (·.2) = some 159 := by kernel_rfl
theorem gSize : Tryz.prog.types.size = 207 := by kernel_rfl
theorem gOne : ((List.range 207).filter fun t => Tryz.prog.rowNamed t [101, 114, 114, 111, 114]) = [69] := by kernel_rfl
theorem gHandle : typeHandle Tryz.prog 69 = .pointer (some ⟨5, 69, none⟩) := by kernel_rfl
theorem laid_parts {W : World} (h : laidMetH Tryz.prog [lE, lA, lF, lM] W) : laidMet Tryz.prog [lA, lF, lM] W ∧ handlesMet Tryz.prog [lE] W := h
theorem sentinel {W : World} (h : laidMet Tryz.prog [lA, lF, lM] W) : ∃ ea, W.cell? ⟨0, 0, none⟩ = some (errV8 ea) := by
  obtain ⟨a0, s0, hv0, -, -, -⟩ := laid_sentinel h gE gEType Tryz.underlying69 gRow Tryz.underlying174 Tryz.underlying195 rfl rfl Tryz.underlying9 gECells gSCells
  exact ⟨a0, by simpa using World.var?_cell gE hv0 0⟩
theorem errT_of {W : World} (h : handlesMet Tryz.prog [lE] W) : ErrT W := by
  obtain ⟨name, u, ty, e1, e2, e3, e4, e5⟩ := h _ (List.mem_singleton.2 rfl)
  have en : name = [101, 114, 114, 111, 114] := (Option.some.inj e1).symm
  subst en
  obtain rfl := Option.some.inj (gRT.symm.trans e2)
  have hm : ty ∈ (List.range 207).filter fun t => Tryz.prog.rowNamed t [101, 114, 114, 111, 114] := List.mem_filter.2 ⟨List.mem_range.2 (by rw [← gSize]; exact e3), e4⟩
  rw [gOne] at hm
  obtain rfl := List.mem_singleton.1 hm
  rw [gHandle] at e5
  simpa using World.var?_cell gET e5 0
theorem door_met (os : Os) (args : Array Value) : laidMetH Tryz.prog [lE, lA, lF, lM] ((World.doorLaid Tryz.prog 100 os).forCall (fun _ _ => 0) ⟨#[], args, []⟩).memory :=
  laidMetH_of_parts3 (fuel := 8) (laidMet_of_run' 8 (by kernel_rfl) (by kernel_rfl)) (by kernel_rfl) (by kernel_rfl)
theorem wf_u64 {n : Int} (h : (Lit.int .u64 n).wf = true) : ∃ S : Nat, n = S ∧ S < 18446744073709551616 := by
  simp [Lit.wf, IntKind.min, IntKind.max, IntKind.bits, IntKind.signed] at h
  exact ⟨n.toNat, by omega, by omega⟩
theorem wf_i64 {n : Int} (h : (Lit.int .i64 n).wf = true) : -9223372036854775808 ≤ n ∧ n ≤ 9223372036854775807 := by
  simp [Lit.wf, IntKind.min, IntKind.max, IntKind.bits, IntKind.signed] at h
  omega
theorem Rows.both {α : Type} {E : α → List Value → Prop} {Q : α → Prop} : ∀ {l : List α} {cs : List Value}, Rows (fun x c => E x c ∧ Q x) l cs → Rows E l cs ∧ ∀ x ∈ l, Q x
  | [], _, h => ⟨h, fun x hx => by cases hx⟩
  | x :: l, _, ⟨c, r, e, h1, h2⟩ => by
    obtain ⟨i1, i2⟩ := Rows.both h2
    refine ⟨⟨c, r, e, h1.1, i1⟩, fun y hy => ?_⟩
    rcases List.mem_cons.1 hy with rfl | hy
    · exact h1.2
    · exact i2 y hy
theorem cIntC : Tryz.prog.cellsOf 3 = 1 := by kernel_rfl
theorem cStrsC : Tryz.prog.cellsOf 42 = 1 := by kernel_rfl
theorem cObjsC : Tryz.prog.cellsOf 22 = 1 := by kernel_rfl
theorem cRingC : Tryz.prog.cellsOf 46 = 2 := by kernel_rfl
theorem cObjC : Tryz.prog.cellsOf 48 = 5 := by kernel_rfl
theorem len2 {cs : List Value} (h : cs.length = 2) : ∃ a b, cs = [a, b] := by match cs, h with | [a, b], _ => exact ⟨a, b, rfl⟩
theorem len3 {cs : List Value} (h : cs.length = 3) : ∃ a b c, cs = [a, b, c] := by match cs, h with | [a, b, c], _ => exact ⟨a, b, c, rfl⟩
theorem len4 {cs : List Value} (h : cs.length = 4) : ∃ a b c d, cs = [a, b, c, d] := by match cs, h with | [a, b, c, d], _ => exact ⟨a, b, c, d, rfl⟩
theorem len5 {cs : List Value} (h : cs.length = 5) : ∃ a b c d e, cs = [a, b, c, d, e] := by match cs, h with | [a, b, c, d, e], _ => exact ⟨a, b, c, d, e, rfl⟩
section
variable {H : Type} {enc : TypeId × Value → H} {w : World} {base : Nat} {spare : Nat → Bool} {held : Bool} {r : Reach} {b0 : Nat} {v : Value} {d : DataW H} {p : List MemPlace}
set_option maxRecDepth 100000 in
theorem strs_open2 {fuel : Nat} {cs : List Value} {x : DataW H × List MemPlace} (h : DataW.trod enc Tryz.prog w base spare held fuel 42 cs = some x) : ∃ v l, cs = [v] ∧ StrsV w v l ∧ l.length ≤ maxLen ∧ ∀ s ∈ l, s.length ≤ maxLen := by
  obtain ⟨v, l, css, rfl, h1, h2, h3⟩ := slR_open (α := List UInt8) (k := 1) (fun s c => c = [.string ⟨s.toArray⟩] ∧ s.length ≤ maxLen) Tryz.underlying42 gSCells (by omega) (fun n cs' y hy => by
    obtain ⟨s, rfl, hs⟩ := str_open Tryz.underlying9 hy; exact ⟨s, rfl, hs⟩) (fun x c hc => by rw [hc.1]; rfl) h
  obtain ⟨h4, h5⟩ := Rows.both h2
  refine ⟨v, l, rfl, ?_, h3, h5⟩
  have e : css = strsC l := by
    clear h1 h h3 h2 h5
    induction l generalizing css with
    | nil => exact h4
    | cons s l ih =>
      obtain ⟨c, r, e, e2, h3⟩ := h4
      rw [e, e2, ih r h3]; rfl
  rw [e] at h1
  exact h1
set_option maxRecDepth 100000 in
theorem obj_open {fuel : Nat} {cs : List Value} {x : DataW H × List MemPlace} (h : DataW.trod enc Tryz.prog w base spare held fuel 48 cs = some x) : ∃ o : ObjD, ObjC w o cs ∧ OkO o := by
  obtain ⟨y0, y1, y2, y3, n, -, hl, h0, h1, h2, h3⟩ := Go.Joins.trod_struct4 Tryz.underlying48 h
  rw [cObjC] at hl
  obtain ⟨c0, c1, c2, c3, c4, rfl⟩ := len5 hl
  simp only [gSCells, cIntC, cRingC] at h0 h1 h2 h3
  obtain ⟨z0, z1, m, -, hl2, k0, k1⟩ := trod_struct2 Tryz.underlying46 h3
  simp only [cIntC, cStrsC] at k0 k1
  simp at h0 h1 h2 k0 k1
  obtain ⟨s0, e0, w0⟩ := str_open Tryz.underlying9 h0
  obtain ⟨i1, e1, -⟩ := int_open Tryz.underlying3 h1
  obtain ⟨s2, e2, w2⟩ := str_open Tryz.underlying9 h2
  obtain ⟨i3, e3, -⟩ := int_open Tryz.underlying3 k0
  obtain ⟨v4, l4, e4, o4, w4, w5⟩ := strs_open2 k1
  cases e0; cases e1; cases e2; cases e3; cases e4
  exact ⟨⟨s0, i1, s2, i3, l4⟩, ⟨_, rfl, o4⟩, w0, w2, w4, w5⟩
set_option maxRecDepth 100000 in
theorem objs_open2 {fuel : Nat} {cs : List Value} {x : DataW H × List MemPlace} (h : DataW.trod enc Tryz.prog w base spare held fuel 22 cs = some x) : ∃ v l, cs = [v] ∧ ObjsV w v l ∧ l.length ≤ maxLen ∧ ∀ o ∈ l, OkO o := by
  obtain ⟨v, l, css, rfl, h1, h2, h3⟩ := slR_open (α := ObjD) (k := 5) (fun o c => ObjC w o c ∧ OkO o) Tryz.underlying22 cObjC (by omega) (fun n cs' y hy => obj_open hy) (fun x c hc => hc.1.len) h
  obtain ⟨h4, h5⟩ := Rows.both h2
  exact ⟨v, l, rfl, ⟨css, h1, h4⟩, h3, h5⟩
set_option maxRecDepth 100000 in
theorem open_objs (hv : Value.okWide Tryz.prog w r b0 22 v) (h : DataW.Trod enc Tryz.prog w base spare held 22 v d p) : ∃ l, ObjsV w v l ∧ l.length ≤ maxLen ∧ ∀ x ∈ l, OkO x := by
  obtain ⟨a, n, c, rfl⟩ := okWide_slice Tryz.underlying22 hv
  obtain ⟨fuel, hf⟩ := h
  obtain ⟨v', l, e, h1, h2, h3⟩ := objs_open2 hf
  cases e
  exact ⟨l, h1, h2, h3⟩
set_option maxRecDepth 100000 in
theorem open_str (hv : Value.okWide Tryz.prog w r b0 9 v) (h : DataW.Trod enc Tryz.prog w base spare held 9 v d p) : ∃ l : List UInt8, v = .string ⟨l.toArray⟩ ∧ l.length ≤ maxLen := by
  obtain ⟨s, rfl, -, -, ws⟩ := ChangeMaps.open_string Tryz.underlying9 hv h
  refine ⟨s.data.toList, by cases s; simp, ?_⟩
  exact ws
end
end Go.Proofs.YthclfkhakmcnbaaGreatDoor
