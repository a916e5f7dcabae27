/- Walks of the document's answer for layers 5 and 13: Digits, word, Print. -/
import Derived.Test.YtcgffokejpgbdaaDoorFilterR3
import Derived.Deep.RegionWith
import Derived.Deep.DeepCutAuto
namespace Go.Proofs.YtcgffokejpgbdaaDoor
open Go.RowKit Go.Maps
theorem digL_small (n : Nat) (h : n < 10) : digL n = [dch n] := by
  rw [digL, if_neg (by omega), Int.toNat_natCast, revD, if_pos h]; rfl
theorem digL_step (n : Nat) (h : ¬ n < 10) : digL n = digL (n / 10 : Nat) ++ digL (n % 10 : Nat) := by
  rw [digL_small (n % 10) (by omega)]
  have e : dch (n % 10) = dch n := by simp [dch]
  rw [e, digL, if_neg (by omega), Int.toNat_natCast, revD, if_neg h, digL, if_neg (by omega), Int.toNat_natCast, List.reverse_cons]
set_option maxRecDepth 100000 in
set_option maxHeartbeats 1000000 in
theorem digitsR_nat : ∀ (b n : Nat), n < b → n ≤ 100000 → ∀ (w : World), Calls Tryd.prog 36 #[.int .i64 n] w fun e w' => e = .returned (.string ⟨(digL n).toArray⟩) ∧ Below w.heap.size w w'
  | 0, n, h, _, w => absurd h (by omega)
  | b + 1, n, h, hn, w => by
    by_cases hs : n < 10
    · have HD := Lib.hid (digL_small n hs)
      have hd := dch_nat n
      have hd1 : (dch n).toNat = 48 + n := by omega
      have hc := conv_byte1 (P := Tryd.prog) w 81 9 5 (dch n) Tryd.underlying81 Tryd.underlying5 Tryd.underlying9
      rw [hd1] at hc
      have hs' : (n : Int) < 10 := by omega
      have w1 : IntKind.i64.wrap (48 + (n : Int)) = 48 + n := IntWalk.i64_in _ (by omega)
      have w2 : IntKind.u8.wrap (48 + (n : Int)) = 48 + n := IntWalk.u8_in _ (by omega)
      push_cast at hc
      clear hd hd1 hs
      go_enter Tryd.func36, Tryd.ntmps36
      go_wp2
      go_ret
      exact ⟨ret_str HD.out.symm, (Below.refl _ w).alloc (Nat.le_refl _) _⟩
    · have HQ := fun u => digitsR_nat b (n / 10) (by omega) (by omega) u
      have HM := fun u => digitsR_nat b (n % 10) (by omega) (by omega) u
      have HD := Lib.hid (digL_step n hs)
      have hs' : ¬ ((n : Int) < 10) := by omega
      have hl1 := digL_len ((n / 10 : Nat) : Int) (by omega)
      have hl2 := digL_len ((n % 10 : Nat) : Int) (by omega)
      generalize digL ((n / 10 : Nat) : Int) = DQ at *
      generalize digL ((n % 10 : Nat) : Int) = DM at *
      push_cast at HQ HM
      clear hs
      go_enter Tryd.func36, Tryd.ntmps36
      go_wp2_with fail
      refine (HQ _).mono ?_
      rintro e w1 ⟨rfl, hb1⟩
      go_wp2_with fail
      refine (HM _).mono ?_
      rintro e w2 ⟨rfl, hb2⟩
      go_wp2_with fail
      go_ret
      exact ⟨ret_str HD.out.symm, hb1.trans (hb2.mono hb1.size)⟩
theorem digitsR_any (n : Int) (h0 : 0 ≤ n) (h : n ≤ 100000) (w : World) : Calls Tryd.prog 36 #[.int .i64 n] w fun e w' => e = .returned (.string ⟨(digL n).toArray⟩) ∧ Below w.heap.size w w' := by
  obtain ⟨k, rfl⟩ := Int.eq_ofNat_of_zero_le h0
  exact digitsR_nat (k + 1) k (by omega) (by omega) w
theorem word_any (k : Int) (w : World) : Calls Tryd.prog 35 #[.int .i64 k] w fun e w' => e = .returned (.string ⟨(wordOf k ++ [32]).toArray⟩) ∧ w = w' := by
  by_cases h1 : k = 1
  · subst h1
    go_enter Tryd.func35, Tryd.ntmps35
    go_wp2
    go_ret
    exact ⟨rfl, rfl⟩
  · by_cases h2 : k = 2
    · subst h2
      go_enter Tryd.func35, Tryd.ntmps35
      go_wp2
      go_ret
      exact ⟨rfl, rfl⟩
    · have e1 : (k == 1) = false := by simpa using h1
      have e2 : (k == 2) = false := by simpa using h2
      have HW : Hid (wordOf k = wForm) := by show _ = _; rw [wordOf, if_neg h1, if_neg h2]
      clear h1 h2
      go_enter Tryd.func35, Tryd.ntmps35
      go_wp2
      go_ret
      exact ⟨by rw [HW.out]; rfl, rfl⟩
set_option maxRecDepth 100000 in
set_option maxHeartbeats 2000000 in
theorem printR_any (k m : Int) (form : List UInt8) (hl : form.length ≤ 1000) (w : World) :
    Calls Tryd.prog 23 #[fV k m form] w fun e w' => e = .returned (.tuple #[.string ⟨(printA k m form).toArray⟩, .int .i64 (errE k m form)]) ∧ Below w.heap.size w w' := by
  have hB0 := (Below.refl w.heap.size w).alloc (Nat.le_refl _) (.cells #[.int .i64 k, .int .i64 m, .string ⟨form.toArray⟩] 23)
  have b0 := Blk.new w #[.int .i64 k, .int .i64 m, .string ⟨form.toArray⟩] 23
  have HR := rightR_any k m form hl (w.alloc (.cells #[.int .i64 k, .int .i64 m, .string ⟨form.toArray⟩] 23))
  cases hr : rightB k m form with
  | false =>
    have HZ : Hid (printA k m form = [] ∧ errE k m form = 130) := by show _ ∧ _; rw [printA, errE, hr]; exact ⟨rfl, rfl⟩
    rw [hr] at HR
    clear hr
    go_enter Tryd.func23, Tryd.ntmps23
    go_wp2_with (go_at_call 21; refine HR.mono ?_; rintro e w1 ⟨rfl, hb1⟩)
    go_ret2
    exact ⟨by rw [HZ.out.1, HZ.out.2]; rfl, hB0.trans (hb1.mono hB0.size)⟩
  | true =>
    have HZ : Hid (printA k m form = (wordOf k ++ 32 :: digL m) ++ (if k = 1 then [] else 32 :: form) ∧ errE k m form = 0) := by
      show _ ∧ _; rw [printA, errE, hr, if_pos rfl, if_pos rfl, printL]; exact ⟨rfl, rfl⟩
    have hf := right_facts hr
    have HD := fun u => digitsR_any m hf.1 (by omega) u
    have HW := fun u => word_any k u
    have hwl := (word_ok k).2
    have hdl := digL_len m (by omega)
    rw [hr] at HR
    clear hr
    generalize wordOf k = WK at *
    generalize digL m = DM at *
    go_enter Tryd.func23, Tryd.ntmps23
    go_wp2_with fail
    refine HR.mono ?_
    rintro e w1 ⟨rfl, hb1⟩
    have hB1 := hB0.trans (hb1.mono hB0.size)
    have b1 := b0.below hb1 b0.lt
    have b10 := b1.cell 0
    have b11 := b1.cell 1
    have b12 := b1.cell 2
    have b1x := b1.cell 0
    simp at b10 b11 b12 b1x
    have hold := fun W (h : Below w1.heap.size w1 W) => (b1.below h b1.lt)
    clear HR hb1 b0
    go_upto_region 3 with fail
    go_cut [4] (fun x wx => x = .string ⟨(WK ++ 32 :: DM).toArray⟩ ∧ Below w1.heap.size w1 wx)
    case first =>
      go_region_with (first
        | (go_at_call 35; refine (HW _).mono ?_; rintro e w' ⟨rfl, rfl⟩)
        | (go_at_call 36; refine (HD _).mono ?_; rintro e w' ⟨rfl, hbx⟩; have bx := hold w' ((Below.refl _ _).drew.trans hbx); have bx0 := bx.cell 0; simp at bx0))
      all_goals (go_wp2_with fail; go_meet)
      all_goals exact ⟨rfl, (Below.refl _ _).drew.trans hbx⟩
    case rest =>
      obtain ⟨rfl, hb2⟩ := hcut
      have hB2 := hB1.trans (hb2.mono hB1.size)
      have b2 := b1.below hb2 b1.lt
      have b20 := b2.cell 0
      have b22 := b2.cell 2
      simp at b20 b22
      clear b10 b11 b12 b1x HD HW hold
      by_cases hk : k = 1
      · have hk' : (k != 1) = false := by simpa using hk
        have HP : Hid (printA k m form = WK ++ 32 :: DM) := by show _ = _; rw [HZ.out.1, if_pos hk]; simp
        clear hk
        go_wp2_with fail
        go_ret2
        exact ⟨by rw [HP.out, HZ.out.2]; rfl, hB2⟩
      · have hk' : (k != 1) = true := by simpa using hk
        have HP : Hid (printA k m form = WK ++ 32 :: (DM ++ 32 :: form)) := by show _ = _; rw [HZ.out.1, if_neg hk]; simp
        clear hk
        go_wp2_with fail
        go_ret2
        exact ⟨by rw [HP.out, HZ.out.2]; simp, hB2⟩
end Go.Proofs.YtcgffokejpgbdaaDoor
