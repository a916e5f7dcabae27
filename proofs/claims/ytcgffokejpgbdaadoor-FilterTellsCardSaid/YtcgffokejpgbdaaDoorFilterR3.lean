/- Walks of the document's answer for layer 13: Right, Size. -/
import Derived.Test.YtcgffokejpgbdaaDoorFilterR2
namespace Go.Proofs.YtcgffokejpgbdaaDoor
open Go.RowKit
set_option maxHeartbeats 2000000 in
theorem rightR_any (k m : Int) (form : List UInt8) (hl : form.length ≤ 1000) (w : World) :
    Calls Tryd.prog 21 #[fV k m form] w fun e w' => e = .returned (.bool (rightB k m form)) ∧ Below w.heap.size w w' := by
  have hB0 := (Below.refl w.heap.size w).alloc (Nat.le_refl _) (.cells #[.int .i64 k, .int .i64 m, .string ⟨form.toArray⟩] 23)
  by_cases h1 : m < 0
  · have HB : Hid (rightB k m form = false) := by
      show _ = _
      have : decide (0 ≤ m) = false := by simpa using h1
      simp [rightB, this]
    go_enter Tryd.func21, Tryd.ntmps21
    go_wp2
    go_ret
    exact ⟨ret_bool HB.out.symm, hB0⟩
  · by_cases h2 : 200 < m
    · have HB : Hid (rightB k m form = false) := by
        show _ = _
        have : decide (m ≤ 200) = false := by simpa using h2
        simp [rightB, this]
      go_enter Tryd.func21, Tryd.ntmps21
      go_wp2
      go_ret
      exact ⟨ret_bool HB.out.symm, hB0⟩
    · by_cases h3 : 40 < (form.length : Int)
      · have HB : Hid (rightB k m form = false) := by
          show _ = _
          have : decide (form.length ≤ 40) = false := by simp; omega
          simp [rightB, this]
        go_enter Tryd.func21, Tryd.ntmps21
        go_wp2
        go_ret
        exact ⟨ret_bool HB.out.symm, hB0⟩
      · have HB : Hid (rightB k m form = ((k == 1 && form.isEmpty) || (k == 2 && clsB form) || (k == 3 && recOk form))) := by
          show _ = _
          have a1 : decide (0 ≤ m) = true := by simp; omega
          have a2 : decide (m ≤ 200) = true := by simp; omega
          have a3 : decide (form.length ≤ 40) = true := by simp; omega
          simp [rightB, a1, a2, a3]
        by_cases k1 : k = 1
        · subst k1
          have HB2 : Hid (rightB 1 m form = form.isEmpty) := by show _ = _; rw [HB.out]; simp
          clear HB
          cases hf : form with
          | nil =>
            subst hf
            go_enter Tryd.func21, Tryd.ntmps21
            go_wp2
            go_ret
            exact ⟨ret_bool HB2.out.symm, hB0⟩
          | cons x r =>
            subst hf
            have hne : ((x :: r) == ([] : List UInt8)) = false := rfl
            go_enter Tryd.func21, Tryd.ntmps21
            go_wp2
            go_ret
            exact ⟨ret_bool HB2.out.symm, hB0⟩
        · by_cases k2 : k = 2
          · subst k2
            have HB2 : Hid (rightB 2 m form = clsB form) := by show _ = _; rw [HB.out]; simp
            clear HB k1
            have HC := fun u => class_any form hl u
            generalize clsB form = CB at *
            go_enter Tryd.func21, Tryd.ntmps21
            go_wp2_with (go_at_call 32; refine (HC _).mono ?_; rintro e w' ⟨rfl, n, rfl⟩)
            go_ret
            exact ⟨ret_bool HB2.out.symm, below_drewN hB0 _⟩
          · by_cases k3 : k = 3
            · subst k3
              have HB2 : Hid (rightB 3 m form = recOk form) := by show _ = _; rw [HB.out]; simp
              clear HB k1 k2
              have HC := fun u => spread_any form hl u
              generalize recOk form = CB at *
              generalize sprS form = SS at *
              go_enter Tryd.func21, Tryd.ntmps21
              go_wp2_with (go_at_call 29; refine (HC _).mono ?_; rintro e w' ⟨rfl, rfl⟩)
              go_ret
              exact ⟨ret_bool HB2.out.symm, hB0⟩
            · have HB2 : Hid (rightB k m form = false) := by show _ = _; rw [HB.out]; simp [k1, k2, k3]
              clear HB
              have e1 : (k == 1) = false := by simpa using k1
              have e2 : (k == 2) = false := by simpa using k2
              have e3 : (k == 3) = false := by simpa using k3
              go_enter Tryd.func21, Tryd.ntmps21
              go_wp2
              go_ret
              exact ⟨ret_bool HB2.out.symm, hB0⟩
theorem right_spr {m : Int} {form : List UInt8} (h : rightB 3 m form = true) : sprS form = (spr form).1 := by
  have := right_form h
  simp only [recOk, Bool.and_eq_true] at this
  rw [sprS, this.2]; rfl
set_option maxHeartbeats 2000000 in
theorem sizeR_any (k m : Int) (form : List UInt8) (hl : form.length ≤ 1000) (w : World) :
    Calls Tryd.prog 19 #[fV k m form] w fun e w' => e = .returned (.tuple #[.int .i64 (sizeA k m form), .bool (sizeO k m form)]) ∧ Below w.heap.size w w' := by
  have hB0 := (Below.refl w.heap.size w).alloc (Nat.le_refl _) (.cells #[.int .i64 k, .int .i64 m, .string ⟨form.toArray⟩] 23)
  have b0 := Blk.new w #[.int .i64 k, .int .i64 m, .string ⟨form.toArray⟩] 23
  by_cases hk : k = 3
  · subst hk
    have HR := rightR_any 3 m form hl (w.alloc (.cells #[.int .i64 3, .int .i64 m, .string ⟨form.toArray⟩] 23))
    have HS := fun u => spread_any form hl u
    cases hr : rightB 3 m form with
    | false =>
      have HZ : Hid (sizeA 3 m form = 0 ∧ sizeO 3 m form = false) := by show _ ∧ _; rw [sizeA, sizeO, hr]; exact ⟨rfl, rfl⟩
      rw [hr] at HR
      clear hr
      go_enter Tryd.func19, Tryd.ntmps19
      go_wp2_with (go_at_call 21; refine HR.mono ?_; rintro e w1 ⟨rfl, hb1⟩)
      go_ret2
      exact ⟨by rw [HZ.out.1, HZ.out.2]; rfl, hB0.trans (hb1.mono hB0.size)⟩
    | true =>
      have HZ : Hid (sizeA 3 m form = ((sprS form).length : Nat) ∧ sizeO 3 m form = true) := by
        have h1 := size_form hr
        show _ ∧ _
        rw [sizeA, sizeO, hr, right_spr hr]
        exact ⟨by simp [sizeOf], by simp; omega⟩
      rw [hr] at HR
      clear hr
      generalize sprS form = SS at *
      go_enter Tryd.func19, Tryd.ntmps19
      go_wp2_with fail
      refine HR.mono ?_
      rintro e w1 ⟨rfl, hb1⟩
      have b1 := b0.below hb1 b0.lt
      have b12 := b1.cell 2
      simp at b12
      go_wp2_with (go_at_call 29; refine (HS _).mono ?_; rintro e w' ⟨rfl, rfl⟩)
      go_ret2
      exact ⟨by rw [HZ.out.1, HZ.out.2]; rfl, hB0.trans (hb1.mono hB0.size)⟩
  · have hk' : (k != 3) = true := by simpa using hk
    have HZ : Hid (sizeA k m form = 0 ∧ sizeO k m form = false) := by
      have e : sizeOf k form = 0 := by rw [sizeOf, if_neg hk]
      show _ ∧ _; rw [sizeA, sizeO, e]; simp
    clear hk
    go_enter Tryd.func19, Tryd.ntmps19
    go_wp2_with fail
    go_ret2
    exact ⟨by rw [HZ.out.1, HZ.out.2]; rfl, hB0⟩
end Go.Proofs.YtcgffokejpgbdaaDoor
