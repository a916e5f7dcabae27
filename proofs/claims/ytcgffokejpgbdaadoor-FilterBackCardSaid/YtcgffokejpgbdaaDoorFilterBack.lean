/- FilterBack: its walk. -/
import Derived.Test.YtcgffokejpgbdaaDoorFilterRound
import Derived.Deep.RegionWith
import Derived.Deep.DeepCutAuto
namespace Go.Proofs.YtcgffokejpgbdaaDoor
open Go.RowKit Go.Maps
set_option maxRecDepth 100000 in
set_option maxHeartbeats 2000000 in
theorem back_any (k m : Int) (form l : List UInt8) (ea : Addr) (w : World) (hge : w.cell? ⟨0, 0, none⟩ = some (eV ea)) :
    Calls Tryd.prog 5 #[fV k m form, .string ⟨l.toArray⟩] w fun e w' => e = .returned (.bool true) ∧ Below w.heap.size w w' := by
  have hgs : 0 < w.heap.size := World.block_lt_of_cell? w _ hge
  have hB0 := (Below.refl w.heap.size w).alloc (Nat.le_refl _) (.cells #[.int .i64 k, .int .i64 m, .string ⟨form.toArray⟩] 23)
  have b0 := Blk.new w #[.int .i64 k, .int .i64 m, .string ⟨form.toArray⟩] 23
  have HS := Lib.hid (shown_any ea _ ((hB0.cell (p := ⟨0, 0, none⟩) hgs).trans hge))
  have HFew := few_any k m form
  have HCut := cut210_any l
  have hFm : (form.take 50).length ≤ maxLen := by simp [maxLen]; omega
  have hLm : (l.take 210).length ≤ 1000000 := by simp; omega
  generalize form.take 50 = F at HFew hFm
  generalize l.take 210 = L at HCut hLm
  go_enter Tryd.func5, Tryd.ntmps5
  go_wp2_with fail
  refine HS.out.mono ?_
  rintro e w1 ⟨rfl, hb1⟩
  clear HS
  have hB1 := hB0.trans (hb1.mono hB0.size)
  have b1 := b0.below hb1 b0.lt
  have b10 := b1.cell 0
  have b11 := b1.cell 1
  have b12 := b1.cell 2
  simp at b10 b11 b12
  go_wp2_with fail
  refine (HFew w1).mono ?_
  rintro e w2 ⟨rfl, hb2⟩
  have hB2 := hB1.trans (hb2.mono hB1.size)
  have b2 := b1.below hb2 b1.lt
  clear b10 b11 b12 HFew
  have b20 := b2.cell 0
  have b21 := b2.cell 1
  have b22 := b2.cell 2
  have f20 := b2.frozen 0
  have f21 := b2.frozen 1
  have f22 := b2.frozen 2
  simp at b20 b21 b22
  have b3 := ((b2.set 0 (.int .i64 k)).set 1 (.int .i64 m)).set 2 (.string ⟨F.toArray⟩)
  simp at b3
  have b30 := b3.cell 0
  have b31 := b3.cell 1
  have b32 := b3.cell 2
  simp at b30 b31 b32
  have hB3 := ((hB2.setCell (p := ⟨w.heap.size, 0, none⟩) (Nat.le_refl _) (.int .i64 k)).setCell (p := ⟨w.heap.size, 1, none⟩) (Nat.le_refl _) (.int .i64 m)).setCell (p := ⟨w.heap.size, 2, none⟩) (Nat.le_refl _) (.string ⟨F.toArray⟩)
  have HPr := Lib.hid (print2 k m F hFm ea _ ((hB3.cell (p := ⟨0, 0, none⟩) hgs).trans hge))
  have HPa := fun u hu => parse2 (printA k m F) (by have := printA_len k m F; omega) ea u hu
  have HPa2 := fun u hu => parse2 L hLm ea u hu
  have HPr2 := fun u hu => print2 (parK L) (parM L) (parF L) (by have := parF_len L; unfold maxLen; omega) ea u hu
  have HR := fun u hu => right_any k m F hFm ea u hu
  have hbt := Lib.hid (back_there k m F)
  have hbh := Lib.hid (back_here L)
  have hA0 := Lib.hid (show rightB k m F = false → printA k m F = [] ∧ errE k m F = 130 from fun h => by rw [printA, errE, h]; exact ⟨rfl, rfl⟩)
  have hA1 := Lib.hid (show rightB k m F = true → errE k m F = 0 from fun h => by rw [errE, h]; rfl)
  generalize hPAe : printA k m F = PA at *
  generalize errE k m F = ER at *
  generalize rightB k m F = RB at *
  generalize parK PA = K1 at *
  generalize parM PA = M1 at *
  generalize parF PA = F1 at *
  generalize parE PA = E1 at *
  generalize parE L = E2 at *
  generalize errE (parK L) (parM L) (parF L) = E3 at *
  generalize printA (parK L) (parM L) (parF L) = P3 at *
  generalize parK L = K2 at *
  generalize parM L = M2 at *
  generalize parF L = F2 at *
  clear hPAe hFm hLm
  go_wp2_with fail
  refine HPr.out.mono ?_
  rintro e w4 ⟨rfl, hb4⟩
  clear HPr b20 b21 b22 f20 f21 f22 b0 b1 b2 b30 b31 b32
  have hB4 := hB3.trans (hb4.mono hB3.size)
  have b4 := b3.below hb4 b3.lt
  have b40 := b4.cell 0
  have b41 := b4.cell 1
  have b42 := b4.cell 2
  simp at b40 b41 b42
  go_wp2_with fail
  refine (HPa _ ((hB4.cell (p := ⟨0, 0, none⟩) hgs).trans hge)).mono ?_
  rintro e w5 ⟨rfl, hb5⟩
  clear HPa b3 b40 b41 b42
  have hB5 := hB4.trans (hb5.mono hB4.size)
  have b5 := b4.below hb5 b4.lt
  have b50 := b5.cell 0
  have b51 := b5.cell 1
  have b52 := b5.cell 2
  simp at b50 b51 b52
  have hlt5 := b5.lt
  have hB6 := hB5.alloc hB5.size (.cells #[.int .i64 K1, .int .i64 M1, .string ⟨F1.toArray⟩] 23)
  have b6 := b5.alloc (.cells #[.int .i64 K1, .int .i64 M1, .string ⟨F1.toArray⟩] 23)
  have b60 := b6.cell 0
  have b61 := b6.cell 1
  have b62 := b6.cell 2
  simp at b60 b61 b62
  cases RB with
  | false =>
    obtain ⟨rfl, rfl⟩ := hA0.out rfl
    clear hbt hA0 hA1
    go_wp2_with (go_at_call 14; refine (HCut _).mono ?_; rintro e w' ⟨rfl, rfl⟩)
    refine (HPa2 _ ((hB6.cell (p := ⟨0, 0, none⟩) hgs).trans hge)).mono ?_
    rintro e w7 ⟨rfl, hb7⟩
    clear HPa2 b60 b61 b62
    have hB7 := hB6.trans (hb7.mono hB6.size)
    have b7 := b6.below hb7 b6.lt
    have hlt7 := b7.lt
    have hB8 := hB7.alloc hB7.size (.cells #[.int .i64 K2, .int .i64 M2, .string ⟨F2.toArray⟩] 23)
    have b8 := b7.alloc (.cells #[.int .i64 K2, .int .i64 M2, .string ⟨F2.toArray⟩] 23)
    go_wp2_with fail
    refine (HPr2 _ ((hB8.cell (p := ⟨0, 0, none⟩) hgs).trans hge)).mono ?_
    rintro e w9 ⟨rfl, hb9⟩
    have hB9 := hB8.trans (hb9.mono hB8.size)
    have b9 := b8.below hb9 b8.lt
    have b90 := b9.cell 0
    have b91 := b9.cell 1
    have b92 := b9.cell 2
    simp at b90 b91 b92
    have HR9 := Lib.hid (HR w9 ((hB9.cell (p := ⟨0, 0, none⟩) hgs).trans hge))
    clear HPr2 b4 b5 b6 b7 b8 HR hB0 hB1 hB2 hB3 hB4 hB5 hB6 hB7 hB8
    rcases hbh.out with rfl | ⟨rfl, rfl, rfl⟩
    all_goals clear hbh
    all_goals go_wp2_with (first | (go_at_call 20; refine HR9.out.mono ?_; rintro e w10 ⟨rfl, hb10⟩) | (go_at_call 14; refine (HCut _).mono ?_; rintro e w' ⟨rfl, rfl⟩))
    all_goals go_ret
    all_goals exact ⟨rfl, hB9.trans (hb10.mono hB9.size)⟩
  | true =>
    obtain rfl := hA1.out rfl
    obtain ⟨rfl, rfl, rfl, rfl⟩ := hbt.out rfl
    clear hbt hA0 hA1
    go_wp2_with (go_at_call 14; refine (HCut _).mono ?_; rintro e w' ⟨rfl, rfl⟩)
    refine (HPa2 _ ((hB6.cell (p := ⟨0, 0, none⟩) hgs).trans hge)).mono ?_
    rintro e w7 ⟨rfl, hb7⟩
    clear HPa2 b60 b61 b62
    have hB7 := hB6.trans (hb7.mono hB6.size)
    have b7 := b6.below hb7 b6.lt
    have hlt7 := b7.lt
    have hB8 := hB7.alloc hB7.size (.cells #[.int .i64 K2, .int .i64 M2, .string ⟨F2.toArray⟩] 23)
    have b8 := b7.alloc (.cells #[.int .i64 K2, .int .i64 M2, .string ⟨F2.toArray⟩] 23)
    go_wp2_with fail
    refine (HPr2 _ ((hB8.cell (p := ⟨0, 0, none⟩) hgs).trans hge)).mono ?_
    rintro e w9 ⟨rfl, hb9⟩
    have hB9 := hB8.trans (hb9.mono hB8.size)
    have b9 := b8.below hb9 b8.lt
    have b90 := b9.cell 0
    have b91 := b9.cell 1
    have b92 := b9.cell 2
    simp at b90 b91 b92
    have HR9 := Lib.hid (HR w9 ((hB9.cell (p := ⟨0, 0, none⟩) hgs).trans hge))
    clear HPr2 b4 b5 b6 b7 b8 HR hB0 hB1 hB2 hB3 hB4 hB5 hB6 hB7 hB8
    rcases hbh.out with rfl | ⟨rfl, rfl, rfl⟩
    all_goals clear hbh
    all_goals go_wp2_with (first | (go_at_call 20; refine HR9.out.mono ?_; rintro e w10 ⟨rfl, hb10⟩) | (go_at_call 14; refine (HCut _).mono ?_; rintro e w' ⟨rfl, rfl⟩))
    all_goals go_ret
    all_goals exact ⟨rfl, hB9.trans (hb10.mono hB9.size)⟩
end Go.Proofs.YtcgffokejpgbdaaDoor
