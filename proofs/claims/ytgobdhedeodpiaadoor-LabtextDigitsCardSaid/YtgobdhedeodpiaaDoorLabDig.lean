/- LabtextDigits: its walk. -/
import Derived.Test.YtgobdhedeodpiaaDoorLabLaw
namespace Go.Proofs.YtgobdhedeodpiaaDoor
open Go.RowKit Go.Shelf
attribute [local go_sem] Oper.semAt_some
theorem digL_step (n : Nat) (h : ¬ n < 10) : digL n = digL (n / 10 : Nat) ++ digL (n % 10 : Nat) := by
  rw [digL_lt10 (n % 10) (by omega)]
  have e : dch (n % 10) = dch n := by simp [dch]
  rw [e, digL, if_neg (by omega), Int.toNat_natCast, revD, if_neg h, digL, if_neg (by omega), Int.toNat_natCast, List.reverse_cons]
set_option maxHeartbeats 2000000 in
set_option maxRecDepth 100000 in
theorem digits_law (n : Int) (hn : -9223372036854775808 ≤ n ∧ n ≤ 9223372036854775807) (w : World) (hT : Tab w) (hg : ErrT w) :
    Calls Tryd.prog 8 #[.int .i64 n] w fun e w' => e = .returned (.bool true) ∧ Below w.heap.size w w' := by
  obtain ⟨_, h1⟩ := hn
  have HS := Lib.hid (shown_any w hT hg)
  rcases Int.lt_or_le n 0 with h0 | h0
  · have HD := fun u => Digits_neg n u h0
    have e0 : digL n = [] := by rw [digL, if_pos h0]
    rw [e0] at HD
    clear e0
    go_enter Tryd.func8, Tryd.ntmps8
    go_wp2_with fail
    refine HS.out.mono ?_
    rintro e w1 ⟨rfl, hb1⟩
    go_wp2_with fail
    refine (HD _).mono ?_
    rintro e w2 ⟨rfl, hb2⟩
    go_wp2_with fail
    go_ret
    exact ⟨rfl, hb1.trans (hb2.mono hb1.size)⟩
  obtain ⟨k, rfl⟩ := Int.eq_ofNat_of_zero_le h0
  by_cases h10 : k < 10
  · have HD := fun u => Digits_pos k u h1
    rw [digL_lt10 k h10] at HD
    have hd := dch_nat k
    have hd1 : ((dch k).toNat : Int) = 48 + k := by omega
    have w1 : IntKind.i64.wrap (48 + (k : Int)) = 48 + k := IntWalk.i64_in _ (by omega)
    have w2 : IntKind.u8.wrap (48 + (k : Int)) = 48 + k := IntWalk.u8_in _ (by omega)
    have h10' : (k : Int) < 10 := by omega
    clear hd h0
    generalize dch k = c at *
    go_enter Tryd.func8, Tryd.ntmps8
    go_wp2_with fail
    refine HS.out.mono ?_
    rintro e w1 ⟨rfl, hb1⟩
    go_wp2_with fail
    refine (HD _).mono ?_
    rintro e w2 ⟨rfl, hb2⟩
    go_wp2_with fail
    go_ret
    exact ⟨rfl, hb1.trans (hb2.mono hb1.size)⟩
  · have HD := fun u => Digits_pos k u h1
    have HQ := fun u => Digits_pos (k / 10) u (by omega)
    have HM := fun u => Digits_pos (k % 10) u (by omega)
    have l1 := digL_len ((k / 10 : Nat) : Int) (by omega)
    have l2 := digL_len ((k % 10 : Nat) : Int) (by omega)
    rw [digL_step k h10] at HD
    have hs := sadd (P := Tryd.prog) (digL ((k / 10 : Nat) : Int)) (digL ((k % 10 : Nat) : Int)) (by omega)
    generalize digL ((k / 10 : Nat) : Int) = DQ at *
    generalize digL ((k % 10 : Nat) : Int) = DM at *
    have h10' : ¬ (k : Int) < 10 := by omega
    push_cast at HQ HM
    clear h10 l1 l2
    go_enter Tryd.func8, Tryd.ntmps8
    go_wp2_with fail
    refine HS.out.mono ?_
    rintro e w1 ⟨rfl, hb1⟩
    go_wp2_with fail
    refine (HD _).mono ?_
    rintro e w2 ⟨rfl, hb2⟩
    go_wp2_with fail
    refine (HQ _).mono ?_
    rintro e w3 ⟨rfl, hb3⟩
    go_wp2_with fail
    refine (HM _).mono ?_
    rintro e w4 ⟨rfl, hb4⟩
    go_wp2_with fail
    go_ret
    exact ⟨rfl, hb1.trans ((hb2.trans ((hb3.trans (hb4.mono hb3.size)).mono hb2.size)).mono hb1.size)⟩
end Go.Proofs.YtgobdhedeodpiaaDoor
