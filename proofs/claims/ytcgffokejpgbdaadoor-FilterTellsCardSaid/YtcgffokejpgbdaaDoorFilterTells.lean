/- FilterTells: its walk. -/
import Derived.Test.YtcgffokejpgbdaaDoorFilterR4
import Derived.Deep.RegionHeld3
import Derived.Deep.RegionWith
import Derived.Deep.RegionHeld3
import Derived.Deep.DeepCutAuto
namespace Go.Proofs.YtcgffokejpgbdaaDoor
open Go.RowKit Go.Maps
set_option maxRecDepth 100000 in
set_option maxHeartbeats 100000000 in
theorem tells_any (k m : Int) (form l : List UInt8) (ea : Addr) (w : World) (hge : w.cell? ⟨0, 0, none⟩ = some (eV ea)) :
    Calls Tryd.prog 3 #[fV k m form, .string ⟨l.toArray⟩] w fun e w' => e = .returned (.bool true) ∧ Below w.heap.size w w' := by
  have hgs : 0 < w.heap.size := World.block_lt_of_cell? w _ hge
  have hB0 := (Below.refl w.heap.size w).alloc (Nat.le_refl _) (.cells #[.int .i64 k, .int .i64 m, .string ⟨form.toArray⟩] 23)
  have b0 := Blk.new w #[.int .i64 k, .int .i64 m, .string ⟨form.toArray⟩] 23
  have HS := Lib.hid (shown_any ea _ ((hB0.cell (p := ⟨0, 0, none⟩) hgs).trans hge))
  have HFew := few_any k m form
  have HCut := cut210_any l
  have hFm : (form.take 50).length ≤ 1000 := by simp; omega
  have hLm : (l.take 210).length ≤ 100000 := by simp; omega
  generalize form.take 50 = F at HFew hFm
  generalize l.take 210 = L at HCut hLm
  go_enter Tryd.func3, Tryd.ntmps3
  go_wp2_with fail
  refine HS.out.mono ?_
  rintro e w1 ⟨rfl, hb1⟩
  clear HS
  have hB1 := hB0.trans (hb1.mono hB0.size)
  have b1 := b0.below hb1 b0.lt
  have b10 := b1.cell 0
  have b11 := b1.cell 1
  have b12 := b1.cell 2
  simp at b10 b11 b12
  go_wp2_with fail
  refine (HFew w1).mono ?_
  rintro e w2 ⟨rfl, hb2⟩
  have hB2 := hB1.trans (hb2.mono hB1.size)
  have b2 := b1.below hb2 b1.lt
  clear b10 b11 b12 HFew
  have b20 := b2.cell 0
  have b21 := b2.cell 1
  have b22 := b2.cell 2
  have f20 := b2.frozen 0
  have f21 := b2.frozen 1
  have f22 := b2.frozen 2
  simp at b20 b21 b22
  have b3 := ((b2.set 0 (.int .i64 k)).set 1 (.int .i64 m)).set 2 (.string ⟨F.toArray⟩)
  simp at b3
  have b30 := b3.cell 0
  have b31 := b3.cell 1
  have b32 := b3.cell 2
  simp at b30 b31 b32
  have hB3 := ((hB2.setCell (p := ⟨w.heap.size, 0, none⟩) (Nat.le_refl _) (.int .i64 k)).setCell (p := ⟨w.heap.size, 1, none⟩) (Nat.le_refl _) (.int .i64 m)).setCell (p := ⟨w.heap.size, 2, none⟩) (Nat.le_refl _) (.string ⟨F.toArray⟩)
  have HP := fun u hu => pass2 k m F L (by unfold maxLen; omega) hLm ea u hu
  have HPR := fun u => passR_any k m F L hFm hLm u
  have HK := fun u hu => place2 k m F L (by unfold maxLen; omega) hLm ea u hu
  have HKR := fun u => placeR_any k m F L hFm hLm u
  have HZ := fun u hu => size2 k m F (by unfold maxLen; omega) ea u hu
  have HZR := fun u => sizeR_any k m F hFm u
  have HR := fun u hu => right_any k m F (by unfold maxLen; omega) ea u hu
  have HRR := fun u => rightR_any k m F hFm u
  generalize passA k m F L = PA at *
  generalize placeA k m F L = PK at *
  generalize errE k m F = ER at *
  generalize sizeA k m F = SA at *
  generalize sizeO k m F = SO at *
  generalize rightB k m F = RB at *
  go_upto_region 3 with fail
  go_cut [6, 7] (fun x6 x7 wx => x6 = .bool PA ∧ x7 = .int .i64 ER ∧ Below (((w2.setCell ⟨w.heap.size, 0, none⟩ (.int .i64 k)).setCell ⟨w.heap.size, 1, none⟩ (.int .i64 m)).setCell ⟨w.heap.size, 2, none⟩ (.string ⟨F.toArray⟩)).heap.size (((w2.setCell ⟨w.heap.size, 0, none⟩ (.int .i64 k)).setCell ⟨w.heap.size, 1, none⟩ (.int .i64 m)).setCell ⟨w.heap.size, 2, none⟩ (.string ⟨F.toArray⟩)) wx)
  case first =>
    go_region_with (first | (go_at_call 14; refine (HCut _).mono ?_; rintro e w' ⟨rfl, rfl⟩) | (go_at_call 13; refine (HP (((w2.setCell ⟨w.heap.size, 0, none⟩ (.int .i64 k)).setCell ⟨w.heap.size, 1, none⟩ (.int .i64 m)).setCell ⟨w.heap.size, 2, none⟩ (.string ⟨F.toArray⟩)).drew ((hB3.cell (p := ⟨0, 0, none⟩) hgs).trans hge)).mono ?_; rintro e w' ⟨rfl, hbx⟩))
    all_goals (go_wp2_with fail; go_meet)
    all_goals exact ⟨rfl, rfl, (Below.refl _ _).drew.trans hbx⟩
  case rest =>
    obtain ⟨rfl, rfl, hb4⟩ := hcut
    clear b30 b31 b32
    have hB4 := hB3.trans (hb4.mono hB3.size)
    have b4 := b3.below hb4 b3.lt
    have b40 := b4.cell 0
    have b41 := b4.cell 1
    have b42 := b4.cell 2
    simp at b40 b41 b42
    clear b20 b21 b22 f20 f21 f22 b0 b1 b2 b3 HP
    go_upto_region 4 with fail
    go_cut [8, 9] (fun x8 x9 wx => x8 = .bool PA ∧ x9 = .int .i64 ER ∧ Below wc.heap.size wc wx)
    case first =>
      go_region_with (first | (go_at_call 14; refine (HCut _).mono ?_; rintro e w' ⟨rfl, rfl⟩) | (go_at_call 15; refine (HPR wc.drew).mono ?_; rintro e w' ⟨rfl, hbx⟩))
      all_goals (go_wp2_with fail; go_meet)
      all_goals exact ⟨rfl, rfl, (Below.refl _ _).drew.trans hbx⟩
    case rest =>
      obtain ⟨rfl, rfl, hb5⟩ := hcut
      clear b40 b41 b42
      have hB5 := hB4.trans (hb5.mono hB4.size)
      have b5 := b4.below hb5 b4.lt
      have b50 := b5.cell 0
      have b51 := b5.cell 1
      have b52 := b5.cell 2
      simp at b50 b51 b52
      go_upto_region 5 with fail
      go_cut [10, 11] (fun x10 x11 wx => x10 = .int .i64 PK ∧ x11 = .int .i64 ER ∧ Below wc.heap.size wc wx)
      case first =>
        go_region_with (first | (go_at_call 14; refine (HCut _).mono ?_; rintro e w' ⟨rfl, rfl⟩) | (go_at_call 16; refine (HK wc.drew ((hB5.cell (p := ⟨0, 0, none⟩) hgs).trans hge)).mono ?_; rintro e w' ⟨rfl, hbx⟩))
        all_goals (go_wp2_with fail; go_meet)
        all_goals exact ⟨rfl, rfl, (Below.refl _ _).drew.trans hbx⟩
      case rest =>
        obtain ⟨rfl, rfl, hb6⟩ := hcut
        clear b50 b51 b52
        have hB6 := hB5.trans (hb6.mono hB5.size)
        have b6 := b5.below hb6 b5.lt
        have b60 := b6.cell 0
        have b61 := b6.cell 1
        have b62 := b6.cell 2
        simp at b60 b61 b62
        go_upto_region 6 with fail
        go_cut [12, 13] (fun x12 x13 wx => x12 = .int .i64 PK ∧ x13 = .int .i64 ER ∧ Below wc.heap.size wc wx)
        case first =>
          go_region_with (first | (go_at_call 14; refine (HCut _).mono ?_; rintro e w' ⟨rfl, rfl⟩) | (go_at_call 17; refine (HKR wc.drew).mono ?_; rintro e w' ⟨rfl, hbx⟩))
          all_goals (go_wp2_with fail; go_meet)
          all_goals exact ⟨rfl, rfl, (Below.refl _ _).drew.trans hbx⟩
        case rest =>
          obtain ⟨rfl, rfl, hb7⟩ := hcut
          clear b60 b61 b62
          have hB7 := hB6.trans (hb7.mono hB6.size)
          have b7 := b6.below hb7 b6.lt
          have b70 := b7.cell 0
          have b71 := b7.cell 1
          have b72 := b7.cell 2
          simp at b70 b71 b72
          clear HPR HK HKR HCut b4 b5 b6
          go_wp2_with fail
          refine (HZ _ ((hB7.cell (p := ⟨0, 0, none⟩) hgs).trans hge)).mono ?_
          rintro e w8 ⟨rfl, hb8⟩
          clear HZ b70 b71 b72
          have hB8 := hB7.trans (hb8.mono hB7.size)
          have b8 := b7.below hb8 b7.lt
          have b80 := b8.cell 0
          have b81 := b8.cell 1
          have b82 := b8.cell 2
          simp at b80 b81 b82
          go_wp2_with fail
          refine (HZR _).mono ?_
          rintro e w9 ⟨rfl, hb9⟩
          clear HZR b80 b81 b82
          have hB9 := hB8.trans (hb9.mono hB8.size)
          have b9 := b8.below hb9 b8.lt
          have b90 := b9.cell 0
          have b91 := b9.cell 1
          have b92 := b9.cell 2
          simp at b90 b91 b92
          have holdR := fun W (h : Below w9.heap.size w9 W) => (hB9.trans (h.mono hB9.size)).cell (p := ⟨0, 0, none⟩) hgs |>.trans hge
          have holdB := fun W (h : Below w9.heap.size w9 W) => b9.below h b9.lt
          go_upto_region 9 with fail
          go_cut [4] (fun x wx => x = .bool true ∧ Below w9.heap.size w9 wx)
          case first =>
            go_region_held3 (fun u => u.cell? ⟨w.heap.size, 0, none⟩ = some (.int .i64 k) ∧ u.cell? ⟨w.heap.size, 1, none⟩ = some (.int .i64 m) ∧ u.cell? ⟨w.heap.size, 2, none⟩ = some (.string ⟨F.toArray⟩)) (first | go_keep | exact ⟨d100, d101, d102⟩ | exact ⟨d110, d111, d112⟩)
              (first
              | (go_at_call 20; refine (HR _ ?_).mono ?_; (first | exact holdR _ (Below.refl _ _).drew | exact holdR _ hh11); rintro e w10 ⟨rfl, hb10⟩; have hh10 : Below w9.heap.size w9 w10 := (by first | exact (Below.refl _ _).drew.trans hb10 | exact hh11.trans (hb10.mono hh11.size)); have d10 := holdB w10 hh10; have d100 := d10.cell 0; have d101 := d10.cell 1; have d102 := d10.cell 2; simp at d100 d101 d102)
              | (go_at_call 21; refine (HRR _).mono ?_; rintro e w11 ⟨rfl, hb11⟩; have hh11 : Below w9.heap.size w9 w11 := (by first | exact (Below.refl _ _).drew.trans hb11 | exact hh10.trans (hb11.mono hh10.size)); have d11 := holdB w11 hh11; have d110 := d11.cell 0; have d111 := d11.cell 1; have d112 := d11.cell 2; simp at d110 d111 d112))
            all_goals (go_wp2_with fail; go_meet)
            all_goals first | exact ⟨rfl, hh10⟩ | exact ⟨rfl, hh11⟩
          case rest =>
            obtain ⟨rfl, hb12⟩ := hcut
            go_wp2_with fail
            go_ret
            exact ⟨rfl, hB9.trans (hb12.mono hB9.size)⟩
end Go.Proofs.YtcgffokejpgbdaaDoor
