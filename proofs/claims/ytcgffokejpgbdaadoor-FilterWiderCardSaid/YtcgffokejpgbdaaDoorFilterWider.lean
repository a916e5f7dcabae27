/- FilterWider: its walk. -/
import Derived.Test.YtcgffokejpgbdaaDoorFilterForms
import Derived.Deep.RegionWith
import Derived.Deep.DeepCutAuto
namespace Go.Proofs.YtcgffokejpgbdaaDoor
open Go.RowKit Go.Maps
set_option maxRecDepth 100000 in
set_option maxHeartbeats 2000000 in
theorem wider_any (k m : Int) (form l : List UInt8) (n : Int) (ea : Addr) (w : World) (hge : w.cell? ⟨0, 0, none⟩ = some (eV ea)) :
    Calls Tryd.prog 6 #[fV k m form, .string ⟨l.toArray⟩, .int .i64 n] w fun e w' => e = .returned (.bool true) ∧ Below w.heap.size w w' := by
  have hgs : 0 < w.heap.size := World.block_lt_of_cell? w _ hge
  have hB0 := (Below.refl w.heap.size w).alloc (Nat.le_refl _) (.cells #[.int .i64 k, .int .i64 m, .string ⟨form.toArray⟩] 23)
  have b0 := Blk.new w #[.int .i64 k, .int .i64 m, .string ⟨form.toArray⟩] 23
  have HS := Lib.hid (shown_any ea _ ((hB0.cell (p := ⟨0, 0, none⟩) hgs).trans hge))
  have HFew := few_any k m form
  have HCut := cut210_any l
  have hFm : (form.take 50).length ≤ maxLen := by simp [maxLen]; omega
  have hLm : (l.take 210).length ≤ 100000 := by simp; omega
  generalize form.take 50 = F at HFew hFm
  generalize l.take 210 = L at HCut hLm
  go_enter Tryd.func6, Tryd.ntmps6
  go_wp2_with fail
  refine HS.out.mono ?_
  rintro e w1 ⟨rfl, hb1⟩
  clear HS
  have hB1 := hB0.trans (hb1.mono hB0.size)
  have b1 := b0.below hb1 b0.lt
  have b10 := b1.cell 0
  have b11 := b1.cell 1
  have b12 := b1.cell 2
  simp at b10 b11 b12
  go_wp2_with fail
  refine (HFew w1).mono ?_
  rintro e w2 ⟨rfl, hb2⟩
  have hB2 := hB1.trans (hb2.mono hB1.size)
  have b2 := b1.below hb2 b1.lt
  clear b10 b11 b12 HFew
  have b20 := b2.cell 0
  have b21 := b2.cell 1
  have b22 := b2.cell 2
  have f20 := b2.frozen 0
  have f21 := b2.frozen 1
  have f22 := b2.frozen 2
  simp at b20 b21 b22
  have b3 := ((b2.set 0 (.int .i64 k)).set 1 (.int .i64 m)).set 2 (.string ⟨F.toArray⟩)
  simp at b3
  have b30 := b3.cell 0
  have b31 := b3.cell 1
  have b32 := b3.cell 2
  simp at b30 b31 b32
  have hB3 := ((hB2.setCell (p := ⟨w.heap.size, 0, none⟩) (Nat.le_refl _) (.int .i64 k)).setCell (p := ⟨w.heap.size, 1, none⟩) (Nat.le_refl _) (.int .i64 m)).setCell (p := ⟨w.heap.size, 2, none⟩) (Nat.le_refl _) (.string ⟨F.toArray⟩)
  have hE : Hid (errE k m F = if rightB k m F then 0 else 130) := rfl
  have hPR := Lib.hid (show passA k m F L = true → rightB k m F = true from fun h => by simp only [passA, Bool.and_eq_true] at h; exact h.1)
  have hmx := Lib.hid (@right_facts k m F)
  have hlaw := Lib.hid (wider_law k m (max m (min n 200)) F L)
  have HP := fun u hu => pass2 k m F L hFm hLm ea u hu
  have HR := fun u hu => right_any k m F hFm ea u hu
  have HP2 := fun u hu => pass2 k (max m (min n 200)) F L hFm hLm ea u hu
  have HP3 := fun u hu => pass2 1 m [] L (by decide) hLm ea u hu
  generalize passA k m F L = PA at *
  generalize errE k m F = ER at *
  generalize rightB k m F = RB at *
  generalize passA k (max m (min n 200)) F L = PA2 at *
  generalize errE k (max m (min n 200)) F = ER2 at *
  generalize passA 1 m [] L = PA3 at *
  generalize errE 1 m [] = ER3 at *
  go_upto_region 3 with fail
  go_cut [8, 9] (fun x8 x9 wx => x8 = .bool PA ∧ x9 = .int .i64 ER ∧ Below (((w2.setCell ⟨w.heap.size, 0, none⟩ (.int .i64 k)).setCell ⟨w.heap.size, 1, none⟩ (.int .i64 m)).setCell ⟨w.heap.size, 2, none⟩ (.string ⟨F.toArray⟩)).heap.size (((w2.setCell ⟨w.heap.size, 0, none⟩ (.int .i64 k)).setCell ⟨w.heap.size, 1, none⟩ (.int .i64 m)).setCell ⟨w.heap.size, 2, none⟩ (.string ⟨F.toArray⟩)) wx)
  case first =>
    go_region_with (first | (go_at_call 14; refine (HCut _).mono ?_; rintro e w' ⟨rfl, rfl⟩) | (go_at_call 13; refine (HP (((w2.setCell ⟨w.heap.size, 0, none⟩ (.int .i64 k)).setCell ⟨w.heap.size, 1, none⟩ (.int .i64 m)).setCell ⟨w.heap.size, 2, none⟩ (.string ⟨F.toArray⟩)).drew ((hB3.cell (p := ⟨0, 0, none⟩) hgs).trans hge)).mono ?_; rintro e w' ⟨rfl, hbx⟩))
    all_goals (go_wp2_with fail; go_meet)
    all_goals exact ⟨rfl, rfl, (Below.refl _ _).drew.trans hbx⟩
  case rest =>
    obtain ⟨rfl, rfl, hb4⟩ := hcut
    clear b30 b31 b32
    have hB4 := hB3.trans (hb4.mono hB3.size)
    have b4 := b3.below hb4 b3.lt
    have b40 := b4.cell 0
    have b41 := b4.cell 1
    have b42 := b4.cell 2
    simp at b40 b41 b42
    clear b20 b21 b22 f20 f21 f22 b0 b1 b2 b3
    have HR5 := Lib.hid (HR wc ((hB4.cell (p := ⟨0, 0, none⟩) hgs).trans hge))
    clear HP HR
    cases PA with
    | false =>
      clear hlaw HP2 HP3 hPR
      cases RB with
      | true =>
        obtain rfl : ER = 0 := hE.out
        clear hE hmx
        go_wp2_with fail
        go_ret
        exact ⟨rfl, hB4⟩
      | false =>
        obtain rfl : ER = 130 := hE.out
        clear hE hmx
        go_wp2_with (go_at_call 20; refine HR5.out.mono ?_; rintro e w6 ⟨rfl, hb6⟩)
        go_ret
        exact ⟨rfl, hB4.trans (hb6.mono hB4.size)⟩
    | true =>
      obtain rfl := hPR.out rfl
      obtain ⟨rfl, rfl, rfl, rfl, rfl, h6⟩ := hlaw.out rfl (by omega) (by have := hmx.out rfl; omega)
      have hlt4 := b4.lt
      clear hPR HR5 hE hmx
      have b5 := b4.alloc (.cells #[.int .i64 k, .int .i64 (max m (min n 200)), .string ⟨F.toArray⟩] 23)
      have hB5 := hB4.alloc (by omega) (.cells #[.int .i64 k, .int .i64 (max m (min n 200)), .string ⟨F.toArray⟩] 23)
      have b50 := b5.cell 0
      have b51 := b5.cell 1
      have b52 := b5.cell 2
      simp at b50 b51 b52
      go_upto_region 8 with fail
      go_cut [11, 12] (fun x11 x12 wx => x11 = .bool true ∧ x12 = .int .i64 0 ∧ Below (wc.alloc (.cells #[.int .i64 k, .int .i64 (max m (min n 200)), .string ⟨F.toArray⟩] 23)).heap.size (wc.alloc (.cells #[.int .i64 k, .int .i64 (max m (min n 200)), .string ⟨F.toArray⟩] 23)) wx)
      case first =>
        go_region_with (first | (go_at_call 14; refine (HCut _).mono ?_; rintro e w' ⟨rfl, rfl⟩) | (go_at_call 13; refine (HP2 (wc.alloc (.cells #[.int .i64 k, .int .i64 (max m (min n 200)), .string ⟨F.toArray⟩] 23)).drew ((hB5.cell (p := ⟨0, 0, none⟩) hgs).trans hge)).mono ?_; rintro e w' ⟨rfl, hbx⟩))
        all_goals (go_wp2_with fail; go_meet)
        all_goals exact ⟨rfl, rfl, (Below.refl _ _).drew.trans hbx⟩
      case rest =>
        obtain ⟨rfl, rfl, hb6⟩ := hcut
        clear b50 b51 b52
        have hB6 := hB5.trans (hb6.mono hB5.size)
        have b6 := b5.below hb6 b5.lt
        have b60 := b6.cell 0
        have b61 := b6.cell 1
        have b62 := b6.cell 2
        simp at b60 b61 b62
        clear b5 b4 b40 b41 b42 HP2
        go_upto_region 9 with fail
        go_cut [13, 14] (fun x13 x14 wx => x13 = .bool true ∧ x14 = .int .i64 0 ∧ Below wc.heap.size wc wx)
        case first =>
          go_region_with (first | (go_at_call 14; refine (HCut _).mono ?_; rintro e w' ⟨rfl, rfl⟩) | (go_at_call 13; refine (HP3 wc.drew ((hB6.cell (p := ⟨0, 0, none⟩) hgs).trans hge)).mono ?_; rintro e w' ⟨rfl, hbx⟩))
          all_goals (go_wp2_with fail; go_meet)
          all_goals exact ⟨rfl, rfl, (Below.refl _ _).drew.trans hbx⟩
        case rest =>
          obtain ⟨rfl, rfl, hb7⟩ := hcut
          clear b60 b61 b62
          have hB7 := hB6.trans (hb7.mono hB6.size)
          have b7 := b6.below hb7 b6.lt
          have b70 := b7.cell 0
          have b71 := b7.cell 1
          have b72 := b7.cell 2
          simp at b70 b71 b72
          clear HP3 b6
          go_upto_region 10 with fail
          go_quiet (first | (go_at_call 14; exact Calls.quiet_of_same ((HCut _).mono fun _ _ h => ⟨h.1, h.2.symm⟩)))
          go_wp2_with fail
          go_ret
          exact ⟨rfl, below_drewN hB7 _⟩
end Go.Proofs.YtcgffokejpgbdaaDoor
