/- errors.Is at a sentinel of errors.New's make, and at nil. (Turned from the worked Sentry texts.) -/
import Derived.Test.YtcgffokejpgbdaaDoorKit
import Derived.LaidEql
import Derived.Stop.Asserts
import Derived.RowKitTokens
namespace Go.Proofs.YtcgffokejpgbdaaDoor
open Go.RowKit Go.Extern.Stop Go.Stop Go.Extern
/-- The error's value: a pointer to what errors.New made. -/
abbrev eV (a : Addr) : Value := .iface 135 (.pointer (some a))
theorem is_typeOf (v : Value) (w : World) : (callFunc 52 #[.iface 135 v]).run Tryd.prog w = .ok (.value (.iface 102 (.agg #[.pointer (some ⟨2, 135, none⟩)]))) w := by kernel_rfl
theorem is_comparable (w : World) : (callFunc 108 #[.agg #[.pointer (some ⟨2, 135, none⟩)]]).run Tryd.prog w = .ok (.value (.bool true)) w := by kernel_rfl
theorem is_methodComparable (v : Value) (w : World) : (Go.method 271 102 v "Comparable").run Tryd.prog w = .ok (108, v) w := by kernel_rfl
theorem is_comp : (Tryd.prog.info? 135).map (·.comparable) = some true := by kernel_rfl
theorem is_size : (Tryd.prog.info? 160).map (·.size) = some 1 := by kernel_rfl
set_option maxRecDepth 100000 in
set_option maxHeartbeats 1000000 in
theorem is_same (a : Addr) (w : World) :
    Calls Tryd.prog 44 #[eV a, eV a] w fun e w' => e = .returned (.bool true) ∧ w = w' := by
  obtain ⟨i, hi, hcmp⟩ := Option.map_eq_some_iff.1 is_comp
  obtain ⟨j, hj, hjs⟩ := Option.map_eq_some_iff.1 is_size
  have tT := is_typeOf
  have cT := is_comparable
  have mR := is_methodComparable
  have heq := run_eql_iface_ptr_same (P := Tryd.prog) w a Tryd.underlying44 Tryd.underlying135 hi hcmp hj
  go_enter Tryd.func44, Tryd.ntmps44
  go_wp2
  refine wp_loop_rounds 1 ?_
  rw [rounds_succ]
  go_wp2
  go_ret
  exact ⟨rfl, rfl⟩
theorem is_nil (b : Addr) (w : World) :
    Calls Tryd.prog 44 #[.nilIface, eV b] w fun e w' => e = .returned (.bool false) ∧ w = w' := by
  have hn := run_eql_iface_nil_left (P := Tryd.prog) w 135 (.pointer (some b)) Tryd.underlying44
  go_enter Tryd.func44, Tryd.ntmps44
  go_wp2
  go_ret
  exact ⟨rfl, rfl⟩
end Go.Proofs.YtcgffokejpgbdaaDoor
