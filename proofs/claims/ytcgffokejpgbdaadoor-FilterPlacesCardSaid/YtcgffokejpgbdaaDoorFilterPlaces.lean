/- FilterPlaces: its walk. -/
import Derived.Test.YtcgffokejpgbdaaDoorFilterLaws
import Derived.Deep.RegionWith
import Derived.Deep.DeepCutAuto
namespace Go.Proofs.YtcgffokejpgbdaaDoor
open Go.RowKit Go.Maps
set_option maxRecDepth 100000 in
set_option maxHeartbeats 1000000 in
theorem places_any (k m : Int) (form l : List UInt8) (ea : Addr) (w : World) (hge : w.cell? ⟨0, 0, none⟩ = some (eV ea)) :
    Calls Tryd.prog 7 #[fV k m form, .string ⟨l.toArray⟩] w fun e w' => e = .returned (.bool true) ∧ Below w.heap.size w w' := by
  have hgs : 0 < w.heap.size := World.block_lt_of_cell? w _ hge
  have hB0 := (Below.refl w.heap.size w).alloc (Nat.le_refl _) (.cells #[.int .i64 k, .int .i64 m, .string ⟨form.toArray⟩] 23)
  have b0 := Blk.new w #[.int .i64 k, .int .i64 m, .string ⟨form.toArray⟩] 23
  have HS := Lib.hid (shown_any ea _ ((hB0.cell (p := ⟨0, 0, none⟩) hgs).trans hge))
  have HFew := few_any k m form
  have HCut := cut210_any l
  have hFm : (form.take 50).length ≤ maxLen := by simp [maxLen]; omega
  have hLm : (l.take 210).length ≤ 100000 := by simp; omega
  generalize form.take 50 = F at HFew hFm
  generalize l.take 210 = L at HCut hLm
  go_enter Tryd.func7, Tryd.ntmps7
  go_wp2_with fail
  refine HS.out.mono ?_
  rintro e w1 ⟨rfl, hb1⟩
  clear HS
  have hB1 := hB0.trans (hb1.mono hB0.size)
  have b1 := b0.below hb1 b0.lt
  have b10 := b1.cell 0
  have b11 := b1.cell 1
  have b12 := b1.cell 2
  simp at b10 b11 b12
  go_wp2_with fail
  refine (HFew w1).mono ?_
  rintro e w2 ⟨rfl, hb2⟩
  have hB2 := hB1.trans (hb2.mono hB1.size)
  have b2 := b1.below hb2 b1.lt
  clear b10 b11 b12 HFew
  have b20 := b2.cell 0
  have b21 := b2.cell 1
  have b22 := b2.cell 2
  have f20 := b2.frozen 0
  have f21 := b2.frozen 1
  have f22 := b2.frozen 2
  simp at b20 b21 b22
  have b3 := ((b2.set 0 (.int .i64 k)).set 1 (.int .i64 m)).set 2 (.string ⟨F.toArray⟩)
  simp at b3
  have hB3 := ((hB2.setCell (p := ⟨w.heap.size, 0, none⟩) (Nat.le_refl _) (.int .i64 k)).setCell (p := ⟨w.heap.size, 1, none⟩) (Nat.le_refl _) (.int .i64 m)).setCell (p := ⟨w.heap.size, 2, none⟩) (Nat.le_refl _) (.string ⟨F.toArray⟩)
  have HP := Lib.hid (place_any k m F L hFm hLm ea _ ((hB3.cell (p := ⟨0, 0, none⟩) hgs).trans hge))
  go_wp2_with (go_at_call 14; refine (HCut _).mono ?_; rintro e w' ⟨rfl, rfl⟩)
  refine HP.out.mono ?_
  rintro e w4 ⟨rfl, hb4⟩
  clear HP HCut
  have hB4 := hB3.trans (hb4.mono hB3.size)
  have b4 := b3.below hb4 b3.lt
  have b40 := b4.cell 0
  have b41 := b4.cell 1
  have b42 := b4.cell 2
  simp at b40 b41 b42
  have HR := Lib.hid (pass_any k m F L hFm hLm ea _ ((hB4.cell (p := ⟨0, 0, none⟩) hgs).trans hge))
  clear b20 b21 b22 f20 f21 f22 b0 b1 b2 b3 hB0 hB1 hB2 hB3
  cases hr : rightB k m F with
  | false =>
    rw [hr] at HR
    simp only [Bool.false_eq_true, if_false] at HR ⊢
    go_wp2_with fail
    refine HR.out.mono ?_
    rintro e w5 ⟨rfl, hb5⟩
    go_wp2_with fail
    go_ret
    exact ⟨rfl, hB4.trans (hb5.mono hB4.size)⟩
  | true =>
    rw [hr] at HR
    simp only [if_true] at HR ⊢
    have hon := place_on k m F L
    have hneg := place_neg k m F L
    have hPA : passI k m F L = decide (placeI k m F L < 0) := rfl
    have HP2 := pass_any k m F (L.take (placeI k m F L).toNat) hFm (by simp; omega) ea
    have HK2 := place_any k m F (L.take (placeI k m F L).toNat) hFm (by simp; omega) ea
    rw [hr] at HP2 HK2
    simp only [if_true] at HP2 HK2
    generalize passI k m F L = PA at *
    generalize placeI k m F L = PI at *
    by_cases hn : PI < 0
    · obtain rfl := hneg hn
      obtain rfl : PA = true := by rw [hPA]; rfl
      clear hon hneg hPA HP2 HK2
      go_wp2_with fail
      refine HR.out.mono ?_
      rintro e w5 ⟨rfl, hb5⟩
      go_wp2_with fail
      go_ret
      exact ⟨rfl, hB4.trans (hb5.mono hB4.size)⟩
    · obtain rfl : PA = false := by rw [hPA]; simpa using hn
      obtain ⟨ho1, ho2, ho3⟩ := hon (by omega)
      generalize hPT : L.take PI.toNat = PT at *
      generalize passI k m F PT = PB at *
      generalize placeI k m F PT = PK at *
      go_wp2_with fail
      refine HR.out.mono ?_
      rintro e w5 ⟨rfl, hb5⟩
      clear HR hPA b40 b41 b42
      have hB5 := hB4.trans (hb5.mono hB4.size)
      have b5 := b4.below hb5 b4.lt
      have b50 := b5.cell 0
      have b51 := b5.cell 1
      have b52 := b5.cell 2
      simp at b50 b51 b52
      have HP3 := Lib.hid (HP2 w5.drew ((hB5.cell (p := ⟨0, 0, none⟩) hgs).trans hge))
      have hPIl : PI ≤ L.length := by omega
      have hPIn : 0 ≤ PI := by omega
      go_upto_region 12 with fail
      go_cut [10, 11] (fun v10 v11 wx => v10 = .bool PB ∧ v11 = .int .i64 0 ∧ Below w5.heap.size w5 wx)
      case first =>
        go_region_with (go_at_call 13; refine HP3.out.mono ?_; rintro e w6 ⟨rfl, hb6⟩)
        all_goals (go_wp2_with fail; go_meet)
        all_goals exact ⟨rfl, rfl, (Below.refl _ _).drew.trans hb6⟩
      case rest =>
        obtain ⟨rfl, rfl, hb6⟩ := hcut
        clear HP3 b50 b51 b52
        have hB6 := hB5.trans (hb6.mono hB5.size)
        have b6 := b5.below hb6 b5.lt
        have b60 := b6.cell 0
        have b61 := b6.cell 1
        have b62 := b6.cell 2
        simp at b60 b61 b62
        have HK3 := Lib.hid (HK2 wc.drew ((hB6.cell (p := ⟨0, 0, none⟩) hgs).trans hge))
        go_upto_region 13 with fail
        go_cut [12, 13] (fun v10 v11 wx => v10 = .int .i64 PK ∧ v11 = .int .i64 0 ∧ Below wc.heap.size wc wx)
        case first =>
          go_region_with (go_at_call 16; refine HK3.out.mono ?_; rintro e w7 ⟨rfl, hb7⟩)
          all_goals (go_wp2_with fail; go_meet)
          all_goals exact ⟨rfl, rfl, (Below.refl _ _).drew.trans hb7⟩
        case rest =>
          obtain ⟨rfl, rfl, hb7⟩ := hcut
          clear HK3 b60 b61 b62
          have hB7 := hB6.trans (hb7.mono hB6.size)
          have b7 := b6.below hb7 b6.lt
          have b70 := b7.cell 0
          simp at b70
          go_wp2_with fail
          all_goals go_ret
          all_goals first | exact ⟨rfl, hB7⟩ | (rcases ho2 with h | h <;> exact absurd h (by assumption)) | (rcases ho3 with h | h; exact absurd h (by assumption); exact ⟨ret_bool (by simpa using h), hB7⟩)
end Go.Proofs.YtcgffokejpgbdaaDoor
