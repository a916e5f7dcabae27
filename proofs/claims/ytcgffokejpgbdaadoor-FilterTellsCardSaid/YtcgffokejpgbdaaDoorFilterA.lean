/- Walks of layer 13: the functions over strings alone. -/
import Derived.Test.YtcgffokejpgbdaaDoorKit
import Derived.Test.YtcgffokejpgbdaaDoorFilterPlain
namespace Go.Proofs.YtcgffokejpgbdaaDoor
open Go.RowKit
set_option maxHeartbeats 400000 in
theorem isClass_any (l : List UInt8) (w : World) (hs : l.length ≤ maxLen) :
    Calls Tryd.prog 40 #[.string ⟨l.toArray⟩] w fun e w' => e = .returned (.bool (clsB l)) ∧ ∃ n, w' = w.drewN n := by
  unfold maxLen at hs
  by_cases h0 : l = []
  · subst h0
    go_enter Tryd.func40, Tryd.ntmps40
    go_wp2
    go_ret
    exact ⟨rfl, 0, rfl⟩
  have he : l.isEmpty = false := by simpa using h0
  by_cases h2 : l.length % 2 = 1
  · have hB : clsB l = false := by rw [clsB, clsL_odd l h2]; simp
    have HB := Lib.hid hB; clear hB
    have hp : ((l.length : Int) % 2 == 1) = true := by simp; omega
    go_enter Tryd.func40, Tryd.ntmps40
    go_wp2
    go_ret
    exact ⟨ret_bool HB.out.symm, 0, rfl⟩
  · have hp : ((l.length : Int) % 2 == 1) = false := by simp; omega
    have H2 : Hid (l.length % 2 = 0) := by show l.length % 2 = 0; omega
    clear h2
    have hB : clsB l = clsL l := by simp [clsB, h0]
    have HB := Lib.hid hB; clear hB
    go_enter Tryd.func40, Tryd.ntmps40
    go_wp2
    go_loopw [3] (fun i wr => ∃ k n : Nat, k ≤ l.length ∧ Hid (k % 2 = 0) ∧ i = .int .i64 k ∧ wr = w.drewN n ∧ Hid (clsL (l.drop k) = clsL l)) (fun i _ => l.length - (intOf i).toNat)
    case atStart => exact ⟨0, 0, Nat.zero_le _, rfl, rfl, rfl, rfl⟩
    case round =>
      obtain ⟨k, n, hk, hk2, rfl, rfl, hc⟩ := hrel
      by_cases hlt : k < l.length
      · have hlt2 : k + 1 < l.length := by have := H2.out; have := hk2.out; omega
        have HC : Hid (clsL l = (!(decide ((l[k].toNat : Int) < 33)) && !(decide (126 < (l[k+1].toNat : Int))) && !(decide ((l[k+1].toNat : Int) < l[k].toNat)) && clsL (l.drop (k + 2)))) := by
          show clsL l = _
          rw [← hc.out, drop_cons l k hlt, drop_cons l (k+1) hlt2]; rfl
        clear hc
        by_cases h1 : (l[k].toNat : Int) < 33
        · go_wp2
          go_quiet (fail)
          go_wp2
          go_ret
          exact ⟨ret_bool (by rw [HB.out, HC.out]; simp [h1]), _, World.drewN_drewN _ _ _⟩
        · have h1' : decide ((l[k].toNat : Int) < 33) = false := by simpa using h1
          by_cases h2 : 126 < (l[k+1].toNat : Int)
          · obtain ⟨w1, w2, w3⟩ := sum_i k 1 (k+1) (by omega) (by omega); have w4 : (k : Int) + 1 < l.length := by clear w1 w3; omega
            go_wp2
            go_quiet (fail)
            clear w1
            go_wp2
            go_ret
            exact ⟨ret_bool (by rw [HB.out, HC.out]; simp [h2]), _, World.drewN_drewN _ _ _⟩
          · have h2' : decide (126 < (l[k+1].toNat : Int)) = false := by simpa using h2
            by_cases h3 : (l[k+1].toNat : Int) < l[k].toNat
            · obtain ⟨w1, w2, w3⟩ := sum_i k 1 (k+1) (by omega) (by omega); have w4 : (k : Int) + 1 < l.length := by clear w1 w3; omega
              go_wp2
              go_quiet (fail)
              clear w1
              go_wp2
              go_ret
              exact ⟨ret_bool (by rw [HB.out, HC.out]; simp [h3]), _, World.drewN_drewN _ _ _⟩
            · have h3' : decide ((l[k+1].toNat : Int) < l[k].toNat) = false := by simpa using h3
              obtain ⟨w1, w2, w3⟩ := sum_i k 1 (k+1) (by omega) (by omega); have w4 : (k : Int) + 1 < l.length := by clear w1 w3; omega
              go_wp2
              go_quiet (fail)
              clear w1
              go_wp2
              go_roundw
              case rel => exact ⟨k + 2, _, by omega, by have := hk2.out; show (k+2)%2=0; omega, by go_num, rfl, by show clsL _ = _; rw [HC.out, h1', h2', h3']; rfl⟩
              case measure => simp [intOf]; omega
      · go_wp2
        go_ret
        exact ⟨ret_bool (by rw [HB.out, ← hc.out, List.drop_of_length_le (by omega)]; rfl), _, rfl⟩
end Go.Proofs.YtcgffokejpgbdaaDoor
