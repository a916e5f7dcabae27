/- Walks of the document's answer for layer 5: do digits begin a number's? -/
import Derived.Test.YtgobdhedeodpiaaDoorLabQ3
namespace Go.Proofs.YtgobdhedeodpiaaDoor
open Go.RowKit Go.Shelf
attribute [local go_sem] Oper.semAt_some
set_option maxRecDepth 100000 in
set_option maxHeartbeats 2000000 in
theorem canR_any (n lo hi : Nat) (h1 : lo ≤ hi) (h2 : hi ≤ 63) (hn : n ≤ 1000) (w : World) :
    Calls Tryd.prog 41 #[.int .i64 n, .int .i64 lo, .int .i64 hi] w fun e w' => e = .returned (.bool (canP lo hi n)) ∧ w = w' := by
  rw [← canI_eq lo hi n h1]
  have hmax : max (0 : Int) (lo : Int) = lo := by omega
  go_enter Tryd.func41, Tryd.ntmps41
  go_wp2_with fail
  go_loop [7, 8] (fun i _ => ∃ k : Nat, lo ≤ k ∧ i = .int .i64 k ∧ Hid (canI lo hi n = canI k hi n) ∧ k ≤ 64) (fun i _ => hi + 1 - (intOf i).toNat)
  case atStart => exact ⟨lo, Nat.le_refl _, rfl, rfl, by omega⟩
  case round =>
    obtain ⟨k, hk, rfl, hc, hk64⟩ := hrel
    by_cases hlt : k ≤ hi
    · have HC : Hid (canI lo hi n = (hitB n k || canI (k + 1) hi n)) := by show _ = _; rw [hc.out, canI_step k hi n hlt]
      have hlt' : (k : Int) ≤ hi := by omega
      clear hc
      by_cases hkn : n < k ∧ 10 ≤ k
      · obtain ⟨ha, hb⟩ := hkn
        have hit : hitB n k = ((k / 10 : Nat) == n) := by unfold hitB; simp [hb, show k ≠ n by omega]
        rw [hit] at HC
        have ha' : (n : Int) < k := by omega
        have hb' : (10 : Int) ≤ k := by omega
        have hq2 : (k : Int) / 10 < 10 := by omega
        have hq4 : (0 : Int) ≤ (k : Int) / 10 := by omega
        cases he : ((k / 10 : Nat) == n) with
        | true =>
          rw [he] at HC
          have he2 : ((k : Int) / 10 == (n : Int)) = true := by have := beq_iff_eq.1 he; rw [beq_iff_eq]; omega
          go_wp2_with fail
          refine wp_loop_rounds 2 ?_
          rw [rounds_succ]
          go_wp2_with fail
          rw [rounds_succ]
          go_wp2_with fail
          all_goals
            go_ret
            exact ⟨by rw [HC.out]; rfl, rfl⟩
        | false =>
          rw [he] at HC
          have he2 : ((k : Int) / 10 == (n : Int)) = false := by have := beq_eq_false_iff_ne.1 he; rw [beq_eq_false_iff_ne]; omega
          go_wp2_with fail
          refine wp_loop_rounds 2 ?_
          rw [rounds_succ]
          go_wp2_with fail
          rw [rounds_succ]
          go_wp2_with fail
          all_goals
            go_round
            case rel => exact ⟨k + 1, by omega, by go_num, by show _ = _; rw [HC.out]; rfl, by omega⟩
            case measure => simp [intOf]; omega
      · have hit : hitB n k = (k == n) := by unfold hitB; rw [Bool.eq_iff_iff]; simp; omega
        rw [hit] at HC
        have hgo : (k : Int) ≤ n ∨ ((n : Int) < k ∧ (k : Int) < 10) := by omega
        cases he : (k == n) with
        | true =>
          rw [he] at HC
          have he2 : ((k : Int) == (n : Int)) = true := by have := beq_iff_eq.1 he; rw [beq_iff_eq]; omega
          have hgo2 : (k : Int) ≤ n := by have := beq_iff_eq.1 he; omega
          clear hgo he
          go_wp2_with fail
          refine wp_loop_rounds 1 ?_
          rw [rounds_succ]
          go_wp2_with fail
          go_ret
          exact ⟨by rw [HC.out]; rfl, rfl⟩
        | false =>
          rw [he] at HC
          have he2 : ((k : Int) == (n : Int)) = false := by have := beq_eq_false_iff_ne.1 he; rw [beq_eq_false_iff_ne]; omega
          clear he
          rcases hgo with hgo | ⟨hgo, hgo2⟩
          all_goals
            go_wp2_with fail
            refine wp_loop_rounds 1 ?_
            rw [rounds_succ]
            go_wp2_with fail
            go_round
            case rel => exact ⟨k + 1, by omega, by go_num, by show _ = _; rw [HC.out]; rfl, by omega⟩
            case measure => simp [intOf]; omega
    · have HC : Hid (canI lo hi n = false) := by show _ = _; rw [hc.out, canI_end k hi n (by omega)]
      clear hc
      go_wp2_with fail
      go_ret
      exact ⟨by rw [HC.out]; rfl, rfl⟩
end Go.Proofs.YtgobdhedeodpiaaDoor
