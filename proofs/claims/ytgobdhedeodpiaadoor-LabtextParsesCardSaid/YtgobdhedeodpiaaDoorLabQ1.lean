/- Walks of the document's answer for layers 1, 2 and 5: Right, Has, List, Digits. -/
import Derived.Test.YtgobdhedeodpiaaDoorLabB
namespace Go.Proofs.YtgobdhedeodpiaaDoor
open Go.RowKit Go.Shelf
attribute [local go_sem] Oper.semAt_some
theorem rightR_any (lv ig : Int) (S : Nat) (w : World) :
    Calls Tryd.prog 21 #[labV lv S ig] w fun e w' => e = .returned (.bool (labB lv ig)) ∧ Below w.heap.size w w' := by
  have H : Hid (∀ b : Bool, (b = true ↔ (0 ≤ lv ∧ lv ≤ 15 ∧ 0 ≤ ig ∧ ig ≤ 7)) → b = labB lv ig) := by
    show ∀ b : Bool, _ → _
    intro b h; rw [Bool.eq_iff_iff, labB_iff]; exact h
  go_enter Tryd.func21, Tryd.ntmps21
  by_cases h1 : 0 ≤ lv
  · by_cases h2 : lv ≤ 15
    · by_cases h3 : 0 ≤ ig
      · go_wp2
        go_ret
        exact ⟨ret_bool (H.out _ (by simp; omega)), (Below.refl _ w).alloc (Nat.le_refl _) _⟩
      · go_wp2
        go_ret
        exact ⟨ret_bool (H.out _ (by simp; omega)), (Below.refl _ w).alloc (Nat.le_refl _) _⟩
    · go_wp2
      go_ret
      exact ⟨ret_bool (H.out _ (by simp; omega)), (Below.refl _ w).alloc (Nat.le_refl _) _⟩
  · go_wp2
    go_ret
    exact ⟨ret_bool (H.out _ (by simp; omega)), (Below.refl _ w).alloc (Nat.le_refl _) _⟩
theorem bit_eq (S i : Nat) : (((S : Int) / 2 ^ i) % 2 == 1) = S.testBit i := by
  rw [Nat.testBit_eq_decide_div_mod_eq, Bool.eq_iff_iff, beq_iff_eq, decide_eq_true_eq]
  have e : (S : Int) / 2 ^ i = ((S / 2 ^ i : Nat) : Int) := by
    rw [show ((2 : Int) ^ i) = ((2 ^ i : Nat) : Int) from (Int.natCast_pow 2 i).symm]; rfl
  rw [e]; omega
theorem hasR_any (S i : Nat) (hi : i < 64) (hS : S < 18446744073709551616) (w : World) :
    Calls Tryd.prog 35 #[.int .u64 S, .int .i64 i] w fun e w' => e = .returned (.bool (S.testBit i)) ∧ w = w' := by
  have hi0 : (0 : Int) ≤ (i : Int) := by omega
  have hi1 : (i : Int) < 64 := by omega
  have hq : (0 : Int) ≤ (S : Int) / 2 ^ i := Int.ediv_nonneg (by omega) (Int.pow_nonneg (by omega))
  have HB := Lib.hid (bit_eq S i)
  go_enter Tryd.func35, Tryd.ntmps35
  go_wp2
  go_ret
  exact ⟨by rw [← HB.out]; rfl, rfl⟩
theorem digL_stepQ (n : Nat) (h : ¬ n < 10) : digL n = digL (n / 10 : Nat) ++ digL (n % 10 : Nat) := by
  rw [digL_lt10 (n % 10) (by omega)]
  have e : dch (n % 10) = dch n := by simp [dch]
  rw [e, digL, if_neg (by omega), Int.toNat_natCast, revD, if_neg h, digL, if_neg (by omega), Int.toNat_natCast, List.reverse_cons]
set_option maxRecDepth 100000 in
set_option maxHeartbeats 1000000 in
theorem digitsR_nat : ∀ (b n : Nat), n < b → (n : Int) ≤ 9223372036854775807 → ∀ (w : World), Calls Tryd.prog 13 #[.int .i64 n] w fun e w' => e = .returned (.string ⟨(digL n).toArray⟩) ∧ Below w.heap.size w w'
  | 0, n, h, _, w => absurd h (by omega)
  | b + 1, n, h, hn, w => by
    by_cases hs : n < 10
    · have HD := Lib.hid (digL_lt10 n hs)
      have hd := dch_nat n
      have hd1 : (dch n).toNat = 48 + n := by omega
      have hc := conv_byte1 (P := Tryd.prog) w 46 9 5 (dch n) Tryd.underlying46 Tryd.underlying5 Tryd.underlying9
      rw [hd1] at hc
      have hs' : (n : Int) < 10 := by omega
      have w1 : IntKind.i64.wrap (48 + (n : Int)) = 48 + n := IntWalk.i64_in _ (by omega)
      have w2 : IntKind.u8.wrap (48 + (n : Int)) = 48 + n := IntWalk.u8_in _ (by omega)
      push_cast at hc
      clear hd hd1 hs
      go_enter Tryd.func13, Tryd.ntmps13
      go_wp2
      go_ret
      exact ⟨ret_str HD.out.symm, (Below.refl _ w).alloc (Nat.le_refl _) _⟩
    · have HQ := fun u => digitsR_nat b (n / 10) (by omega) (by omega) u
      have HM := fun u => digitsR_nat b (n % 10) (by omega) (by omega) u
      have HD := Lib.hid (digL_stepQ n hs)
      have hs' : ¬ ((n : Int) < 10) := by omega
      have hl1 := digL_len ((n / 10 : Nat) : Int) (by omega)
      have hl2 := digL_len ((n % 10 : Nat) : Int) (by omega)
      generalize digL ((n / 10 : Nat) : Int) = DQ at *
      generalize digL ((n % 10 : Nat) : Int) = DM at *
      push_cast at HQ HM
      clear hs
      go_enter Tryd.func13, Tryd.ntmps13
      go_wp2_with fail
      refine (HQ _).mono ?_
      rintro e w1 ⟨rfl, hb1⟩
      go_wp2_with fail
      refine (HM _).mono ?_
      rintro e w2 ⟨rfl, hb2⟩
      go_wp2_with fail
      go_ret
      exact ⟨ret_str HD.out.symm, hb1.trans (hb2.mono hb1.size)⟩
theorem digitsR_any (n : Int) (h : n ≤ 9223372036854775807) (w : World) : Calls Tryd.prog 13 #[.int .i64 n] w fun e w' => e = .returned (.string ⟨(digL n).toArray⟩) ∧ Below w.heap.size w w' := by
  rcases Int.lt_or_le n 0 with h0 | h0
  · have hd : digL n = [] := by rw [digL, if_pos h0]
    rw [hd]
    go_enter Tryd.func13, Tryd.ntmps13
    go_wp2
    go_ret
    exact ⟨rfl, Below.refl _ _⟩
  · obtain ⟨k, rfl⟩ := Int.eq_ofNat_of_zero_le h0
    exact digitsR_nat (k + 1) k (by omega) h w
theorem row_grow0 {W2 W W1 : World} {e : TypeId} {v : Value} {k : Nat} {xs : List Value} {o : Obj} (hbr : Below W2.heap.size W2 W) (hown : W.ownsRow W2.heap.size e 1 v k xs) (hgrow : (W.alloc o).grownBy W1 v.ownBlock) : Below W2.heap.size W2 W1 :=
  row_grow hbr (Below.refl _ _) hown hgrow
/-- the categories below k -/
def catsTo (S k : Nat) : List Nat := (List.range k).filter (S.testBit ·)
theorem catsTo_step (S k : Nat) : catsTo S (k + 1) = if S.testBit k then catsTo S k ++ [k] else catsTo S k := by
  unfold catsTo
  rw [List.range_succ, List.filter_append]
  cases h : S.testBit k <;> simp [h]
theorem catsTo_len (S k : Nat) : (catsTo S k).length ≤ k := by unfold catsTo; exact Nat.le_trans (List.length_filter_le _ _) (by simp)
set_option maxRecDepth 100000 in
set_option maxHeartbeats 2000000 in
theorem listR_any (S : Nat) (hS : S < 18446744073709551616) (w : World) :
    Calls Tryd.prog 22 #[.int .u64 S] w fun e w' => RowOf w.heap.size 3 (catsL S).length (intsV (catsL S)) e w' ∧ Below w.heap.size w w' := by
  obtain ⟨i0, hi, hz0, hz1, hz2⟩ := info_parts infoI
  go_enter Tryd.func22, Tryd.ntmps22
  go_wp2_with fail
  go_loopw [3, 4] (fun v i wr => ∃ k : Nat, k ≤ 64 ∧ i = .int .i64 k ∧ wr.ownsRow w.heap.size 3 1 v (catsTo S k).length (intsV (catsTo S k)) ∧ Below w.heap.size w wr) (fun _ i _ => 64 - (intOf i).toNat)
  case atStart => exact ⟨0, by omega, rfl, World.ownsRow_nil _ _ _ _, Below.refl _ _⟩
  case round =>
    obtain ⟨k, hk, rfl, hown, hbr⟩ := hrel
    by_cases hlt : k < 64
    · have HH := fun u => hasR_any S k hlt hS u
      have HC := Lib.hid (catsTo_step S k)
      have hcl := catsTo_len S k
      have hlt' : (k : Int) < 64 := by omega
      cases hb : S.testBit k with
      | false =>
        have HC' : Hid (catsTo S (k + 1) = catsTo S k) := by show _ = _; rw [HC.out, hb]; rfl
        rw [hb] at HH
        clear HC hb
        go_wp2_with (go_at_call 35; refine (HH _).mono ?_; rintro e w' ⟨rfl, rfl⟩)
        go_roundw
        case rel => exact ⟨k + 1, by omega, by go_num, by rw [HC'.out]; exact hown, hbr⟩
        case measure => simp [intOf]; omega
      | true =>
        have HC' : Hid (catsTo S (k + 1) = catsTo S k ++ [k]) := by show _ = _; rw [HC.out, hb]; rfl
        rw [hb] at HH
        clear HC hb
        have hz := hbr.size
        go_wp2_with (first
          | (go_at_call 35; refine (HH _).mono ?_; rintro e w' ⟨rfl, rfl⟩)
          | (at_builtin; refine wpList_append_own _ rfl _ _ 40 rfl w.heap.size 3 i0 (.int .i64 0) 1 8 Tryd.underlying40 hi hz0 hz1 hz2 rfl (by decide) _ _ _ rfl (hown.alloc _) ⟨wr.heap.size, 0, none⟩ 1 1 [.int .i64 k] rfl rfl (cell_one_new _ _ _) (by simp [Value.oneCell']) (by unfold maxLen; omega) (by omega) (by simp; omega) ?_; intro v' w1' hown' hgrow _))
        go_roundw
        case rel => exact ⟨k + 1, by omega, by go_num, by rw [HC'.out]; simpa [intsV] using hown', row_grow0 hbr hown hgrow⟩
        case measure => simp [intOf]; omega
    · obtain rfl : k = 64 := by omega
      have HC : Hid (catsTo S 64 = catsL S) := rfl
      go_wp2_with fail
      go_ret
      exact ⟨⟨_, rfl, hown⟩, hbr⟩
end Go.Proofs.YtgobdhedeodpiaaDoor
