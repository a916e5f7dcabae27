/- Walks of layer 13: Right, Place, Pass, Size. -/
import Derived.Test.YtcgffokejpgbdaaDoorFilterG
namespace Go.Proofs.YtcgffokejpgbdaaDoor
open Go.RowKit
theorem told_any (ea : Addr) (w : World) (hge : w.cell? ⟨0, 0, none⟩ = some (eV ea)) :
    Calls Tryd.prog 27 #[eV ea] w fun e w' => e = .returned (.int .i64 130) ∧ w = w' := by
  go_enter Tryd.func27, Tryd.ntmps27
  go_wp2_with (go_at_call 44; refine (is_same ea _).mono ?_; rintro e w' ⟨rfl, rfl⟩)
  go_ret
  exact ⟨rfl, rfl⟩

def placeI (k m : Int) (form l : List UInt8) : Int := if firstL (predsOf k m form) 0 l < 0 ∧ l.length < sizeOf k form then l.length else firstL (predsOf k m form) 0 l

theorem predsOf_len (k m : Int) (form : List UInt8) : (predsOf k m form).length ≤ 100 := by
  unfold predsOf; split
  · simp
  · split <;> simp
theorem firstL_lo (ps : List (Nat → UInt8 → Bool)) : ∀ (l : List UInt8) (k : Nat), firstL ps k l = -1 ∨ (k : Int) ≤ firstL ps k l ∧ firstL ps k l < k + l.length
  | [], _ => .inl rfl
  | c :: r, k => by
    rw [firstL]; split
    · rcases firstL_lo ps r (k + 1) with h | h
      · exact .inl h
      · right; simp at h ⊢; omega
    · right; simp; omega

set_option maxHeartbeats 1000000 in
theorem right_any (k m : Int) (form : List UInt8) (hl : form.length ≤ maxLen) (ea : Addr) (w : World) (hge : w.cell? ⟨0, 0, none⟩ = some (eV ea)) :
    Calls Tryd.prog 20 #[fV k m form] w fun e w' => e = .returned (.bool (rightB k m form)) ∧ Below w.heap.size w w' := by
  have hgs : 0 < w.heap.size := World.block_lt_of_cell? w _ hge
  have hB0 := (Below.refl w.heap.size w).alloc (Nat.le_refl _) (.cells #[.int .i64 k, .int .i64 m, .string ⟨form.toArray⟩] 23)
  have hg1 := (hB0.cell (p := ⟨0, 0, none⟩) hgs).trans hge
  have HC := checked_any k m form hl ea _ hg1
  rw [World.size_alloc] at HC
  go_enter Tryd.func20, Tryd.ntmps20
  go_wp2_with fail
  refine HC.mono ?_
  rintro e w1 ⟨⟨tv, sz, ev, rfl, (⟨hr, rfl, rfl, -⟩ | ⟨hr, rfl⟩)⟩, hb1⟩
  all_goals
    have HR := Lib.hid hr; clear hr
    go_wp2
    go_ret
    exact ⟨ret_bool HR.out.symm, hB0.trans (hb1.mono (by omega))⟩

set_option maxHeartbeats 1000000 in
theorem size_any (k m : Int) (form : List UInt8) (hl : form.length ≤ maxLen) (ea : Addr) (w : World) (hge : w.cell? ⟨0, 0, none⟩ = some (eV ea)) :
    Calls Tryd.prog 18 #[fV k m form] w fun e w' => e = .returned (if rightB k m form && !(sizeOf k form == 0) then .tuple #[.int .i64 (sizeOf k form), .bool true] else .tuple #[.int .i64 0, .bool false]) ∧ Below w.heap.size w w' := by
  have hgs : 0 < w.heap.size := World.block_lt_of_cell? w _ hge
  have hB0 := (Below.refl w.heap.size w).alloc (Nat.le_refl _) (.cells #[.int .i64 k, .int .i64 m, .string ⟨form.toArray⟩] 23)
  have hg1 := (hB0.cell (p := ⟨0, 0, none⟩) hgs).trans hge
  have HC := checked_any k m form hl ea _ hg1
  rw [World.size_alloc] at HC
  obtain ⟨R, hR⟩ : ∃ R : Ending, R = .returned (if rightB k m form && !(sizeOf k form == 0) then .tuple #[.int .i64 (sizeOf k form), .bool true] else .tuple #[.int .i64 0, .bool false]) := ⟨_, rfl⟩
  rw [← hR]
  have HRR := Lib.hid hR; clear hR
  go_enter Tryd.func18, Tryd.ntmps18
  go_wp2_with fail
  refine HC.mono ?_
  rintro e w1 ⟨⟨tv, sz, ev, rfl, (⟨hr, rfl, rfl, -⟩ | ⟨hr, rfl⟩)⟩, hb1⟩
  · have HR := Lib.hid hr; clear hr HC
    by_cases hz : sizeOf k form = 0
    · have hz' : ((sizeOf k form : Int) == 0) = true := by simp [hz]
      have HX : Hid (R = .returned (.tuple #[.int .i64 0, .bool false])) := by show R = _; rw [HRR.out, HR.out, hz]; rfl
      clear hz
      go_wp2
      go_ret2
      exact ⟨HX.out.symm, hB0.trans (hb1.mono (by omega))⟩
    · have hz' : ((sizeOf k form : Int) == 0) = false := by simp [hz]
      have hz2 : (sizeOf k form == 0) = false := by simp [hz]
      have HX : Hid (R = .returned (.tuple #[.int .i64 (sizeOf k form), .bool true])) := by show R = _; rw [HRR.out, HR.out, hz2]; rfl
      clear hz hz2
      go_wp2
      go_ret2
      exact ⟨HX.out.symm, hB0.trans (hb1.mono (by omega))⟩
  · have HX : Hid (R = .returned (.tuple #[.int .i64 0, .bool false])) := by show R = _; rw [HRR.out, hr]; rfl
    clear hr HC HRR
    go_wp2
    go_ret2
    exact ⟨HX.out.symm, hB0.trans (hb1.mono (by omega))⟩

set_option maxHeartbeats 1000000 in
theorem place_any (k m : Int) (form l : List UInt8) (hl : form.length ≤ maxLen) (hll : l.length ≤ 100000) (ea : Addr) (w : World) (hge : w.cell? ⟨0, 0, none⟩ = some (eV ea)) :
    Calls Tryd.prog 16 #[fV k m form, .string ⟨l.toArray⟩] w fun e w' => e = .returned (if rightB k m form then .tuple #[.int .i64 (placeI k m form l), .int .i64 0] else .tuple #[.int .i64 0, .int .i64 130]) ∧ Below w.heap.size w w' := by
  have hgs : 0 < w.heap.size := World.block_lt_of_cell? w _ hge
  have hB0 := (Below.refl w.heap.size w).alloc (Nat.le_refl _) (.cells #[.int .i64 k, .int .i64 m, .string ⟨form.toArray⟩] 23)
  have hg1 := (hB0.cell (p := ⟨0, 0, none⟩) hgs).trans hge
  have HC := checked_any k m form hl ea _ hg1
  rw [World.size_alloc] at HC
  obtain ⟨R, hR⟩ : ∃ R : Ending, R = .returned (if rightB k m form then .tuple #[.int .i64 (placeI k m form l), .int .i64 0] else .tuple #[.int .i64 0, .int .i64 130]) := ⟨_, rfl⟩
  rw [← hR]
  have HRR := Lib.hid hR; clear hR
  have hpl := predsOf_len k m form
  go_enter Tryd.func16, Tryd.ntmps16
  go_wp2_with fail
  refine HC.mono ?_
  rintro e w1 ⟨⟨tv, sz, ev, rfl, (⟨hr, rfl, rfl, ts, hts, hps⟩ | ⟨hr, rfl⟩)⟩, hb1⟩
  · have HX : Hid (R = .returned (.tuple #[.int .i64 (placeI k m form l), .int .i64 0])) := by show R = _; rw [HRR.out, hr]; rfl
    have HF := first_any l hll tv ts (by rw [← List.length_map (f := Prod.snd), hps]; exact hpl) w1 hts
    rw [hps] at HF
    have hlo := firstL_lo (predsOf k m form) l 0
    have HPD : Hid (placeI k m form l = if firstL (predsOf k m form) 0 l < 0 ∧ l.length < sizeOf k form then (l.length : Int) else firstL (predsOf k m form) 0 l) := rfl
    generalize placeI k m form l = PI at HX HPD
    generalize firstL (predsOf k m form) 0 l = FL at HF hlo HPD
    generalize sizeOf k form = SZ at *
    clear hr HRR hps hpl hts
    have hz1 := hb1.size
    rw [World.size_alloc] at hz1
    go_wp2_with (go_at_call 28; refine HF.mono ?_; rintro e w2 ⟨rfl, hb2⟩)
    all_goals
      go_ret2
      refine ⟨?_, hB0.trans ((hb1.mono (by omega)).trans (hb2.mono (by omega)))⟩
      rw [HX.out, HPD.out]
    · rw [if_pos ⟨by assumption, by assumption⟩]; rfl
    · rw [if_neg (by omega)]; rfl
    · rw [if_neg (by omega)]; rfl
  · have HX : Hid (R = .returned (.tuple #[.int .i64 0, .int .i64 130])) := by show R = _; rw [HRR.out, hr]; rfl
    clear hr HC HRR
    have hg2 := (hb1.cell (p := ⟨0, 0, none⟩) (by show 0 < _; omega)).trans hg1
    go_wp2_with (go_at_call 27; refine (told_any ea _ hg2).mono ?_; rintro e w' ⟨rfl, rfl⟩)
    go_ret2
    exact ⟨HX.out.symm, hB0.trans (hb1.mono (by omega))⟩

/-- What Pass hands back. -/
def passI (k m : Int) (form l : List UInt8) : Bool := decide (placeI k m form l < 0)

set_option maxHeartbeats 1000000 in
theorem pass_any (k m : Int) (form l : List UInt8) (hl : form.length ≤ maxLen) (hll : l.length ≤ 100000) (ea : Addr) (w : World) (hge : w.cell? ⟨0, 0, none⟩ = some (eV ea)) :
    Calls Tryd.prog 13 #[fV k m form, .string ⟨l.toArray⟩] w fun e w' => e = .returned (if rightB k m form then .tuple #[.bool (passI k m form l), .int .i64 0] else .tuple #[.bool false, .int .i64 130]) ∧ Below w.heap.size w w' := by
  have hgs : 0 < w.heap.size := World.block_lt_of_cell? w _ hge
  have hB0 := (Below.refl w.heap.size w).alloc (Nat.le_refl _) (.cells #[.int .i64 k, .int .i64 m, .string ⟨form.toArray⟩] 23)
  have hg1 := (hB0.cell (p := ⟨0, 0, none⟩) hgs).trans hge
  have HC := place_any k m form l hl hll ea _ hg1
  rw [World.size_alloc] at HC
  cases hr : rightB k m form with
  | true =>
    rw [hr] at HC
    simp only [if_true] at HC ⊢
    have HP : Hid (passI k m form l = decide (placeI k m form l < 0)) := rfl
    generalize placeI k m form l = PI at HC HP
    generalize passI k m form l = PA at HP ⊢
    clear hr
    go_enter Tryd.func13, Tryd.ntmps13
    go_wp2_with (go_at_call 16; refine HC.mono ?_; rintro e w1 ⟨rfl, hb1⟩)
    go_ret2
    exact ⟨by rw [HP.out]; rfl, hB0.trans (hb1.mono (by omega))⟩
  | false =>
    rw [hr] at HC
    simp only [Bool.false_eq_true, if_false] at HC ⊢
    clear hr
    go_enter Tryd.func13, Tryd.ntmps13
    go_wp2_with (go_at_call 16; refine HC.mono ?_; rintro e w1 ⟨rfl, hb1⟩)
    go_ret2
    exact ⟨rfl, hB0.trans (hb1.mono (by omega))⟩
end Go.Proofs.YtcgffokejpgbdaaDoor
