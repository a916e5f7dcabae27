/- FilterPrints: its walk. -/
import Derived.Test.YtcgffokejpgbdaaDoorFilterR6
import Derived.Deep.RegionWith
import Derived.Deep.DeepCutAuto
namespace Go.Proofs.YtcgffokejpgbdaaDoor
open Go.RowKit Go.Maps
set_option maxRecDepth 100000 in
set_option maxHeartbeats 2000000 in
theorem prints_any (k m : Int) (form l : List UInt8) (ea : Addr) (w : World) (hge : w.cell? ⟨0, 0, none⟩ = some (eV ea)) :
    Calls Tryd.prog 4 #[fV k m form, .string ⟨l.toArray⟩] w fun e w' => e = .returned (.bool true) ∧ Below w.heap.size w w' := by
  have hgs : 0 < w.heap.size := World.block_lt_of_cell? w _ hge
  have hB0 := (Below.refl w.heap.size w).alloc (Nat.le_refl _) (.cells #[.int .i64 k, .int .i64 m, .string ⟨form.toArray⟩] 23)
  have b0 := Blk.new w #[.int .i64 k, .int .i64 m, .string ⟨form.toArray⟩] 23
  have HS := Lib.hid (shown_any ea _ ((hB0.cell (p := ⟨0, 0, none⟩) hgs).trans hge))
  have HFew := few_any k m form
  have HCut := cut210_any l
  have hFm : (form.take 50).length ≤ 1000 := by simp; omega
  have hLm : (l.take 210).length ≤ 1000 := by simp; omega
  generalize form.take 50 = F at HFew hFm
  generalize l.take 210 = L at HCut hLm
  go_enter Tryd.func4, Tryd.ntmps4
  go_wp2_with fail
  refine HS.out.mono ?_
  rintro e w1 ⟨rfl, hb1⟩
  clear HS
  have hB1 := hB0.trans (hb1.mono hB0.size)
  have b1 := b0.below hb1 b0.lt
  have b10 := b1.cell 0
  have b11 := b1.cell 1
  have b12 := b1.cell 2
  simp at b10 b11 b12
  go_wp2_with fail
  refine (HFew w1).mono ?_
  rintro e w2 ⟨rfl, hb2⟩
  have hB2 := hB1.trans (hb2.mono hB1.size)
  have b2 := b1.below hb2 b1.lt
  clear b10 b11 b12 HFew
  have b20 := b2.cell 0
  have b21 := b2.cell 1
  have b22 := b2.cell 2
  have f20 := b2.frozen 0
  have f21 := b2.frozen 1
  have f22 := b2.frozen 2
  simp at b20 b21 b22
  have b3 := ((b2.set 0 (.int .i64 k)).set 1 (.int .i64 m)).set 2 (.string ⟨F.toArray⟩)
  simp at b3
  have b30 := b3.cell 0
  have b31 := b3.cell 1
  have b32 := b3.cell 2
  simp at b30 b31 b32
  have hB3 := ((hB2.setCell (p := ⟨w.heap.size, 0, none⟩) (Nat.le_refl _) (.int .i64 k)).setCell (p := ⟨w.heap.size, 1, none⟩) (Nat.le_refl _) (.int .i64 m)).setCell (p := ⟨w.heap.size, 2, none⟩) (Nat.le_refl _) (.string ⟨F.toArray⟩)
  have HPr := Lib.hid (print2 k m F (by unfold maxLen; omega) ea _ ((hB3.cell (p := ⟨0, 0, none⟩) hgs).trans hge))
  have HPr2 := fun u => printR_any k m F hFm u
  have HPa := fun u hu => parse2 L (by omega) ea u hu
  have HPa2 := fun u => parseR_any L hLm u
  generalize printA k m F = PA at *
  generalize errE k m F = ER at *
  generalize parE L = E2 at *
  generalize parK L = K2 at *
  generalize parM L = M2 at *
  generalize parF L = F2 at *
  go_wp2_with fail
  refine HPr.out.mono ?_
  rintro e w4 ⟨rfl, hb4⟩
  clear HPr b20 b21 b22 f20 f21 f22 b0 b1 b2 b30 b31 b32
  have hB4 := hB3.trans (hb4.mono hB3.size)
  have b4 := b3.below hb4 b3.lt
  have b40 := b4.cell 0
  have b41 := b4.cell 1
  have b42 := b4.cell 2
  simp at b40 b41 b42
  go_wp2_with fail
  refine (HPr2 _).mono ?_
  rintro e w5 ⟨rfl, hb5⟩
  clear HPr2 b3 b40 b41 b42
  have hB5 := hB4.trans (hb5.mono hB4.size)
  have b5 := b4.below hb5 b4.lt
  have b50 := b5.cell 0
  have b51 := b5.cell 1
  have b52 := b5.cell 2
  simp at b50 b51 b52
  go_wp2_with (go_at_call 14; refine (HCut _).mono ?_; rintro e w' ⟨rfl, rfl⟩)
  refine (HPa _ ((hB5.cell (p := ⟨0, 0, none⟩) hgs).trans hge)).mono ?_
  rintro e w6 ⟨rfl, hb6⟩
  have hB6 := hB5.trans (hb6.mono hB5.size)
  have hB7 := hB6.alloc hB6.size (.cells #[.int .i64 K2, .int .i64 M2, .string ⟨F2.toArray⟩] 23)
  have c7 := Blk.new w6 #[.int .i64 K2, .int .i64 M2, .string ⟨F2.toArray⟩] 23
  clear HPa b4 b50 b51 b52
  go_wp2_with (go_at_call 14; refine (HCut _).mono ?_; rintro e w' ⟨rfl, rfl⟩)
  refine (HPa2 _).mono ?_
  rintro e w8 ⟨rfl, hb8⟩
  have hB8 := hB7.trans (hb8.mono hB7.size)
  have c8 := c7.below hb8 c7.lt
  have hlt8 := c8.lt
  have hB9 := hB8.alloc hB8.size (.cells #[.int .i64 K2, .int .i64 M2, .string ⟨F2.toArray⟩] 23)
  have c9 := c8.alloc (.cells #[.int .i64 K2, .int .i64 M2, .string ⟨F2.toArray⟩] 23)
  have c90 := c9.cell 0
  have c91 := c9.cell 1
  have c92 := c9.cell 2
  simp at c90 c91 c92
  clear HPa2 HCut
  go_wp2_with fail
  go_ret
  exact ⟨rfl, hB9⟩
end Go.Proofs.YtcgffokejpgbdaaDoor
