/- The seat's closed facts on its laid sentinel, and a start that fits. -/
import Derived.Test.YtcgffokejpgbdaaDoorCards
import Derived.Test.YtcgffokejpgbdaaDoorTie
import Derived.Test.YtcgffokejpgbdaaDoorErr
import Derived.Test.YtcgffokejpgbdaaDoorRow
namespace Go.Proofs.YtcgffokejpgbdaaDoor
open Go.RowKit Go.ChangeShapes Go.WideShapes Go.ChangeAt
theorem own : ownKnob Tryd.prog.godebug = none := by kernel_rfl
theorem gE : Tryd.prog.globalNamed "plimsoll/filter.errFilter" = some 0 := by kernel_rfl
theorem gEType : (Tryd.prog.globals[0]?).map (·.type) = some 44 := by kernel_rfl
theorem gECells : Tryd.prog.cellsOf 160 = 1 := by kernel_rfl
theorem gSCells : Tryd.prog.cellsOf 9 = 1 := by kernel_rfl
theorem gLaidOut : laidOutB Tryd.prog = true := by kernel_rfl
theorem gStar : "*" ++ "errors.errorString" = "*errors.errorString" := by decide
theorem gRow (u : TypeId) (h : Tryd.prog.typeName? 3 u = some "*errors.errorString") : u = 135 :=
  typeName_ptr_named (nm := "errors.errorString") (by rw [gStar]; kernel_rfl) (by kernel_rfl) (by decide) u (by rw [gStar]; exact h)
abbrev laidL : List (String × DataW Unit) := [("plimsoll/filter.errFilter", Rows.laid_plimsoll_filter_errFilter)]
theorem sentinel {W : World} (h : laidMetH Tryd.prog laidL W) : ∃ ea, W.cell? ⟨0, 0, none⟩ = some (eV ea) := by
  rw [MakeChecks.laidMetH_plain _ _ _ (by kernel_rfl)] at h
  obtain ⟨a0, s0, hv0, -, -, -⟩ := laid_sentinel h gE gEType Tryd.underlying44 gRow Tryd.underlying135 Tryd.underlying160 rfl rfl Tryd.underlying9 gECells gSCells
  exact ⟨a0, by simpa using World.var?_cell gE hv0 0⟩
theorem door_met (os : Os) (args : Array Value) : laidMetH Tryd.prog laidL ((World.doorLaid Tryd.prog 100 os).forCall (fun _ _ => 0) ⟨#[], args, []⟩).memory :=
  laidMetH_of_parts3 (fuel := 8) (laidMet_of_run' 8 (by kernel_rfl) (by kernel_rfl)) (by kernel_rfl) (by kernel_rfl)
theorem list_of (s : ByteArray) : ∃ l : List UInt8, s = ⟨l.toArray⟩ ∧ l.length = s.size := ⟨s.data.toList, by cases s; simp, Array.length_toList⟩
section
variable {H : Type} {enc : TypeId × Value → H} {w : World} {base : Nat} {spare : Nat → Bool} {held : Bool} {r : Reach} {b0 : Nat} {v : Value} {d : DataW H} {p : List MemPlace}
set_option maxRecDepth 100000 in
theorem open_str (hv : Value.okWide Tryd.prog w r b0 9 v) (h : DataW.Trod enc Tryd.prog w base spare held 9 v d p) : ∃ l : List UInt8, v = .string ⟨l.toArray⟩ ∧ l.length ≤ maxLen := by
  obtain ⟨s, rfl, -, -, ws⟩ := ChangeMaps.open_string Tryd.underlying9 hv h
  obtain ⟨l, rfl, hl⟩ := list_of s
  exact ⟨l, rfl, Nat.le_trans (Nat.le_of_eq hl) ws⟩
set_option maxRecDepth 100000 in
theorem open_filter (hv : Value.okWide Tryd.prog w r b0 23 v) (h : DataW.Trod enc Tryd.prog w base spare held 23 v d p) :
    ∃ (k m : Int) (form : List UInt8), v = .agg #[.int .i64 k, .int .i64 m, .string ⟨form.toArray⟩] ∧ (Lit.int .i64 k).wf = true ∧ (Lit.int .i64 m).wf = true ∧ form.length ≤ maxLen := by
  obtain ⟨c0, c1, c2, y0, y1, y2, n, rfl, -, -, hy0, hy1, hy2⟩ := Go.Joins.open_agg3 Tryd.underlying23 (by kernel_rfl) (by kernel_rfl) hv h
  obtain ⟨k, e0, -, wk⟩ := DataW.trod_int Tryd.underlying3 hy0
  obtain ⟨m, e1, -, wm⟩ := DataW.trod_int Tryd.underlying3 hy1
  obtain ⟨s, e2, -, ws⟩ := DataW.trod_string Tryd.underlying9 hy2
  simp at e0 e1 e2
  subst e0 e1 e2
  obtain ⟨l, rfl, hl⟩ := list_of s
  exact ⟨k, m, l, rfl, wk, wm, Nat.le_trans (Nat.le_of_eq hl) ws⟩
end
end Go.Proofs.YtcgffokejpgbdaaDoor
