/- Walks of layer 1: a set's categories, in a list; a set with one. -/
import Derived.Test.YtgobdhedeodpiaaDoorLabPlain
import Derived.Shelf.Spec.TrailingZeros
namespace Go.Proofs.YtgobdhedeodpiaaDoor
open Go.RowKit Go.Shelf
attribute [local go_sem] Oper.semAt_some
/-! ### the lowest category, and the others -/
theorem low_bits (k m i : Nat) : (2 ^ k * (2 * m + 1)).testBit i = (decide (k ≤ i) && (2 * m + 1).testBit (i - k)) ∧
    ((2 ^ k * (2 * m + 1)) &&& (2 ^ k * (2 * m + 1) - 1)).testBit i = ((2 ^ k * (2 * m + 1)).testBit i && decide (i ≠ k)) := by
  have h1 : (2 ^ k * (2 * m + 1)).testBit i = (decide (k ≤ i) && (2 * m + 1).testBit (i - k)) := by
    rw [Nat.mul_comm, Nat.testBit_mul_two_pow]
  refine ⟨h1, ?_⟩
  rw [Nat.testBit_and, h1]
  have e : 2 ^ k * (2 * m + 1) - 1 = 2 ^ k * (2 * m) + (2 ^ k - 1) := by
    have := Nat.two_pow_pos k
    rw [Nat.mul_add, Nat.mul_one]; omega
  rw [e, Nat.testBit_two_pow_mul_add _ (by have := Nat.two_pow_pos k; omega)]
  by_cases hk : i < k
  · simp [show ¬ k ≤ i by omega]
  · rw [if_neg hk]
    by_cases he : i = k
    · subst he; simp
    · obtain ⟨t, ht⟩ : ∃ t, i - k = t + 1 := ⟨i - k - 1, by omega⟩
      rw [ht, Nat.testBit_succ, Nat.testBit_succ, show (2 * m + 1) / 2 = m by omega, show 2 * m / 2 = m by omega]
      simp [he, show k ≤ i by omega]
theorem catsL_step (x : Nat) (h0 : x ≠ 0) (h : x < 18446744073709551616) : catsL x = Lib.ctz 64 x :: catsL (x &&& (x - 1)) ∧ (x &&& (x - 1)) < x := by
  obtain ⟨m, hm, hlt⟩ := Lib.ctzFrom_spec 64 x (by omega) h
  have hc : Lib.ctz 64 x = Lib.ctzFrom 64 x := by unfold Lib.ctz; rw [if_neg h0]
  rw [hc]
  generalize Lib.ctzFrom 64 x = k at *
  subst hm
  have hb := low_bits k m
  generalize hy : (2 ^ k * (2 * m + 1)) &&& (2 ^ k * (2 * m + 1) - 1) = y at *
  generalize hx : 2 ^ k * (2 * m + 1) = x at *
  have hyx : y ≤ x - 1 := by rw [← hy]; exact Nat.and_le_right
  refine ⟨?_, by omega⟩
  have hlow : ∀ i ∈ catsL y, k < i ∧ i < 64 := by
    intro i hi
    simp only [catsL, List.mem_filter, List.mem_range] at hi
    have h2 := (hb i).2
    rw [hi.2, (hb i).1] at h2
    simp at h2
    omega
  have hf : foldB 0 (k :: catsL y) = x := by
    refine Nat.eq_of_testBit_eq fun i => ?_
    rw [foldB_bit]
    simp only [Nat.zero_testBit, Bool.false_or, List.mem_cons, catsL, List.mem_filter, List.mem_range, (hb i).2]
    by_cases he : i = k
    · subst he; rw [(hb i).1]; simp
    · by_cases hi : i < 64
      · cases hxi : x.testBit i <;> simp [he, hi]
      · have : x.testBit i = false := Nat.testBit_lt_two_pow (Nat.lt_of_lt_of_le h (Nat.pow_le_pow_right (n := 2) (by omega) (show 64 ≤ i by omega)))
        simp [he, this]
  have := catsL_fold (k :: catsL y) (List.pairwise_cons.2 ⟨fun i hi => (hlow i hi).1, catsL_asc y⟩) (fun n hn => by
    rcases List.mem_cons.1 hn with rfl | hn
    · exact hlt
    · exact (hlow n hn).2)
  rw [hf] at this
  exact this
theorem catsL_zero : catsL 0 = [] := by simp [catsL]

/-! ### bits.TrailingZeros64 -/
abbrev Tab (w : World) : Prop := TabAt 1 Lib.deBruijn64tab w
set_option maxHeartbeats 1000000 in
theorem tz_core (x k idx : Nat) (w : World) (hx0 : ((x : Int) == 0) = false)
    (key : IntKind.u64.wrap (bits BinOp.and IntKind.u64 (x : Int) (IntKind.u64.wrap (-(x : Int))) * 285870213051353865) / 288230376151711744 = (idx : Int))
    (hi : idx < 64) (hk : k < 64) (hcell : w.cell? ⟨1, idx, none⟩ = some (.int .u8 k)) :
    Calls Tryd.prog 43 #[.int .u64 x] w fun e w' => e = .returned (.int .i64 k) ∧ w = w' := by
  go_enter Tryd.func43, Tryd.ntmps43
  go_wp2_with (simp only [key])
  go_ret
  exact ⟨rfl, rfl⟩
theorem tz_any (x : Nat) (h0 : x ≠ 0) (hx : x < 18446744073709551616) (w : World) (hT : Tab w) :
    Calls Tryd.prog 43 #[.int .u64 x] w fun e w' => e = .returned (.int .i64 (Lib.ctz 64 x)) ∧ w = w' := by
  obtain ⟨hlow, hk⟩ := Lib.lowest_bit 64 x h0 hx
  obtain ⟨hi, htab⟩ := Lib.deBruijn64_at _ hk
  have hcell := hT _ hi
  rw [htab] at hcell
  exact tz_core x _ _ w (by simp; omega) (tz64_key x _ hx h0 hlow) hi hk hcell
end Go.Proofs.YtgobdhedeodpiaaDoor
