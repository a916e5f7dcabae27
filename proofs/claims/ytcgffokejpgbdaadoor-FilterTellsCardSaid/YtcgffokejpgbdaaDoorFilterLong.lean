/- FilterLong: its walk and its plain law. -/
import Derived.Test.YtcgffokejpgbdaaDoorFilterLaw
namespace Go.Proofs.YtcgffokejpgbdaaDoor
open Go.RowKit
theorem predsOf_short (k m : Int) (form : List UInt8) (i : Nat) (c : UInt8) (h : m ≤ i) : passB (predsOf k m form) i c = false := by
  have : decide ((i : Int) < m) = false := by simpa using h
  unfold predsOf passB; split
  · simp [this]
  · split <;> simp [this]
theorem firstL_hi (k m : Int) (form : List UInt8) : ∀ (l : List UInt8) (i : Nat), (i : Int) ≤ m → m < i + l.length → (i : Int) ≤ firstL (predsOf k m form) i l ∧ firstL (predsOf k m form) i l ≤ m
  | [], i, h1, h2 => by simp at h2; omega
  | c :: r, i, h1, h2 => by
    rw [firstL]; split
    · rename_i h
      have hi : (i : Int) < m := by
        rcases Int.lt_or_le (i : Int) m with h' | h'
        · exact h'
        · rw [predsOf_short k m form i c h'] at h; cases h
      have := firstL_hi k m form r (i + 1) (by omega) (by simp at h2; omega)
      omega
    · omega
theorem place_long (k m : Int) (form l : List UInt8) (h0 : 0 ≤ m) (h : m < l.length) : 0 ≤ placeI k m form l ∧ placeI k m form l ≤ m := by
  have := firstL_hi k m form l 0 (by simpa using h0) (by simpa using h)
  unfold placeI
  rw [if_neg (by omega)]
  simpa using this
set_option maxHeartbeats 1000000 in
theorem long_any (k m : Int) (form l : List UInt8) (ea : Addr) (w : World) (hge : w.cell? ⟨0, 0, none⟩ = some (eV ea)) :
    Calls Tryd.prog 10 #[fV k m form, .string ⟨l.toArray⟩] w fun e w' => e = .returned (.bool true) ∧ Below w.heap.size w w' := by
  have hgs : 0 < w.heap.size := World.block_lt_of_cell? w _ hge
  have hB0 := (Below.refl w.heap.size w).alloc (Nat.le_refl _) (.cells #[.int .i64 k, .int .i64 m, .string ⟨form.toArray⟩] 23)
  have b0 := Blk.new w #[.int .i64 k, .int .i64 m, .string ⟨form.toArray⟩] 23
  have HS := Lib.hid (shown_any ea _ ((hB0.cell (p := ⟨0, 0, none⟩) hgs).trans hge))
  have HFew := few_any k m form
  have HCut := cut210_any l
  have hFm : (form.take 50).length ≤ maxLen := by simp [maxLen]; omega
  have hLm : (l.take 210).length ≤ 100000 := by simp; omega
  generalize form.take 50 = F at HFew hFm
  generalize l.take 210 = L at HCut hLm
  have hlong := place_long k m F L
  have hr0 := @right_facts k m F
  go_enter Tryd.func10, Tryd.ntmps10
  go_wp2_with fail
  refine HS.out.mono ?_
  rintro e w1 ⟨rfl, hb1⟩
  clear HS
  have hB1 := hB0.trans (hb1.mono hB0.size)
  have b1 := b0.below hb1 b0.lt
  have b10 := b1.cell 0
  have b11 := b1.cell 1
  have b12 := b1.cell 2
  simp at b10 b11 b12
  go_wp2_with fail
  refine (HFew w1).mono ?_
  rintro e w2 ⟨rfl, hb2⟩
  have hB2 := hB1.trans (hb2.mono hB1.size)
  have b2 := b1.below hb2 b1.lt
  clear b10 b11 b12 HFew
  have b20 := b2.cell 0
  have b21 := b2.cell 1
  have b22 := b2.cell 2
  have f20 := b2.frozen 0
  have f21 := b2.frozen 1
  have f22 := b2.frozen 2
  simp at b20 b21 b22
  have b3 := ((b2.set 0 (.int .i64 k)).set 1 (.int .i64 m)).set 2 (.string ⟨F.toArray⟩)
  simp at b3
  have hB3 := ((hB2.setCell (p := ⟨w.heap.size, 0, none⟩) (Nat.le_refl _) (.int .i64 k)).setCell (p := ⟨w.heap.size, 1, none⟩) (Nat.le_refl _) (.int .i64 m)).setCell (p := ⟨w.heap.size, 2, none⟩) (Nat.le_refl _) (.string ⟨F.toArray⟩)
  have HP := Lib.hid (place_any k m F L hFm hLm ea _ ((hB3.cell (p := ⟨0, 0, none⟩) hgs).trans hge))
  go_wp2_with (go_at_call 14; refine (HCut _).mono ?_; rintro e w' ⟨rfl, rfl⟩)
  refine HP.out.mono ?_
  rintro e w4 ⟨rfl, hb4⟩
  clear HP HCut
  have hB4 := hB3.trans (hb4.mono hB3.size)
  have b4 := b3.below hb4 b3.lt
  have b40 := b4.cell 0
  have b41 := b4.cell 1
  have b42 := b4.cell 2
  simp at b40 b41 b42
  have HR := Lib.hid (right_any k m F hFm ea _ ((hB4.cell (p := ⟨0, 0, none⟩) hgs).trans hge))
  clear b20 b21 b22 f20 f21 f22 b0 b1 b2 b3 hB0 hB1 hB2 hB3
  cases hr : rightB k m F with
  | false =>
    rw [hr] at HR
    simp only [Bool.false_eq_true, if_false]
    go_wp2_with (go_at_call 20; refine HR.out.mono ?_; rintro e w5 ⟨rfl, hb5⟩)
    go_ret
    exact ⟨rfl, hB4.trans (hb5.mono hB4.size)⟩
  | true =>
    rw [hr] at HR
    simp only [if_true]
    have hlong' := hlong (hr0 hr).1
    clear hr0 hlong
    go_wp2_with (go_at_call 20; refine HR.out.mono ?_; rintro e w5 ⟨rfl, hb5⟩)
    · go_ret
      exact ⟨rfl, hB4.trans (hb5.mono hB4.size)⟩
    · go_ret
      exact ⟨rfl, hB4⟩
end Go.Proofs.YtcgffokejpgbdaaDoor
