/- FilterJoins: its walk. -/
import Derived.Test.YtcgffokejpgbdaaDoorFilterForms
namespace Go.Proofs.YtcgffokejpgbdaaDoor
open Go.RowKit Go.Maps
set_option maxRecDepth 100000 in
set_option maxHeartbeats 2000000 in
theorem joins_any (k m : Int) (form : List UInt8) (k1 m1 : Int) (form1 : List UInt8) (l l1 : List UInt8) (ea : Addr) (w : World) (hge : w.cell? ⟨0, 0, none⟩ = some (eV ea)) :
    Calls Tryd.prog 9 #[fV k m form, fV k1 m1 form1, .string ⟨l.toArray⟩, .string ⟨l1.toArray⟩] w fun e w' => e = .returned (.bool true) ∧ Below w.heap.size w w' := by
  have hgs : 0 < w.heap.size := World.block_lt_of_cell? w _ hge
  have hB0 := ((Below.refl w.heap.size w).alloc (Nat.le_refl _) (.cells #[.int .i64 k, .int .i64 m, .string ⟨form.toArray⟩] 23)).alloc (by simp) (.cells #[.int .i64 k1, .int .i64 m1, .string ⟨form1.toArray⟩] 23)
  have b0 : Blk ((w.alloc (.cells #[.int .i64 k, .int .i64 m, .string ⟨form.toArray⟩] 23)).alloc (.cells #[.int .i64 k1, .int .i64 m1, .string ⟨form1.toArray⟩] 23)) w.heap.size #[.int .i64 k, .int .i64 m, .string ⟨form.toArray⟩] 23 := (Blk.new w _ _).alloc _
  have c0 : Blk ((w.alloc (.cells #[.int .i64 k, .int .i64 m, .string ⟨form.toArray⟩] 23)).alloc (.cells #[.int .i64 k1, .int .i64 m1, .string ⟨form1.toArray⟩] 23)) (w.heap.size + 1) #[.int .i64 k1, .int .i64 m1, .string ⟨form1.toArray⟩] 23 := Blk_at (by simp)
  have HS := Lib.hid (shown_any ea _ ((hB0.cell (p := ⟨0, 0, none⟩) hgs).trans hge))
  have HFew := few_any k m form
  have HFew1 := few_any k1 m1 form1
  have hFm : (form.take 50).length ≤ 1000 := by simp; omega
  have hFm1 : (form1.take 50).length ≤ 1000 := by simp; omega
  generalize form.take 50 = F at HFew hFm
  generalize form1.take 50 = F1 at HFew1 hFm1
  have hS : (List.take (min (l.length : Int) 100).toNat l).length ≤ 100 := by simp; omega
  have hS1 : (List.take (min (l1.length : Int) 100).toNat l1).length ≤ 100 := by simp; omega
  have HP := fun u hu => pass2 k m F (List.take (min (l.length : Int) 100).toNat l) (by unfold maxLen; omega) (by omega) ea u hu
  have HP1 := fun u hu => pass2 k1 m1 F1 (List.take (min (l1.length : Int) 100).toNat l1) (by unfold maxLen; omega) (by omega) ea u hu
  have HP2 := fun u hu => pass2 3 200 (F ++ F1) (List.take (min (l.length : Int) 100).toNat l ++ List.take (min (l1.length : Int) 100).toNat l1) (by simp [maxLen]; omega) (by rw [List.length_append]; omega) ea u hu
  have HZ := fun u hu => size2 3 200 (F ++ F1) (by simp [maxLen]; omega) ea u hu
  have hlaw := Lib.hid (joins_law m m1 F F1 (List.take (min (l.length : Int) 100).toNat l) (List.take (min (l1.length : Int) 100).toNat l1))
  go_enter Tryd.func9, Tryd.ntmps9
  go_wp2_with fail
  refine HS.out.mono ?_
  rintro e w1 ⟨rfl, hb1⟩
  clear HS
  have hB1 := hB0.trans (hb1.mono hB0.size)
  have b1 := b0.below hb1 b0.lt
  have c1 := c0.below hb1 c0.lt
  have b10 := b1.cell 0
  have b11 := b1.cell 1
  have b12 := b1.cell 2
  simp at b10 b11 b12
  go_wp2_with fail
  refine (HFew w1).mono ?_
  rintro e w2 ⟨rfl, hb2⟩
  have hB2 := hB1.trans (hb2.mono hB1.size)
  have b2 := b1.below hb2 b1.lt
  have c2 := c1.below hb2 c1.lt
  clear b10 b11 b12 HFew
  have b20 := b2.cell 0
  have b21 := b2.cell 1
  have b22 := b2.cell 2
  have f20 := b2.frozen 0
  have f21 := b2.frozen 1
  have f22 := b2.frozen 2
  simp at b20 b21 b22
  have b3 := ((b2.set 0 (.int .i64 k)).set 1 (.int .i64 m)).set 2 (.string ⟨F.toArray⟩)
  simp at b3
  have c3 := ((c2.other (b' := w.heap.size) 0 (.int .i64 k) (by omega)).other (b' := w.heap.size) 1 (.int .i64 m) (by omega)).other (b' := w.heap.size) 2 (.string ⟨F.toArray⟩) (by omega)
  have c30 := c3.cell 0
  have c31 := c3.cell 1
  have c32 := c3.cell 2
  have b30 := b3.cell 0
  simp only [List.getElem?_toArray] at c30 c31 c32
  have hB3 := ((hB2.setCell (p := ⟨w.heap.size, 0, none⟩) (Nat.le_refl _) (.int .i64 k)).setCell (p := ⟨w.heap.size, 1, none⟩) (Nat.le_refl _) (.int .i64 m)).setCell (p := ⟨w.heap.size, 2, none⟩) (Nat.le_refl _) (.string ⟨F.toArray⟩)
  go_wp2_with fail
  refine (HFew1 _).mono ?_
  rintro e w4 ⟨rfl, hb4⟩
  have hB4 := hB3.trans (hb4.mono hB3.size)
  have b4 := b3.below hb4 b3.lt
  have c4 := c3.below hb4 c3.lt
  clear b20 b21 b22 f20 f21 f22 c30 c31 c32 b30 HFew1
  have c40 := c4.cell 0
  have c41 := c4.cell 1
  have c42 := c4.cell 2
  have g40 := c4.frozen 0
  have g41 := c4.frozen 1
  have g42 := c4.frozen 2
  simp at c40 c41 c42
  have c5 := ((c4.set 0 (.int .i64 k1)).set 1 (.int .i64 m1)).set 2 (.string ⟨F1.toArray⟩)
  simp at c5
  have b5 := ((b4.other (b' := w.heap.size + 1) 0 (.int .i64 k1) (by omega)).other (b' := w.heap.size + 1) 1 (.int .i64 m1) (by omega)).other (b' := w.heap.size + 1) 2 (.string ⟨F1.toArray⟩) (by omega)
  have b50 := b5.cell 0
  have b51 := b5.cell 1
  have b52 := b5.cell 2
  simp only [List.getElem?_toArray, List.getElem?_cons_zero, List.getElem?_cons_succ] at b50 b51 b52
  have hB5 := ((hB4.setCell (p := ⟨w.heap.size + 1, 0, none⟩) (Nat.le_succ _) (.int .i64 k1)).setCell (p := ⟨w.heap.size + 1, 1, none⟩) (Nat.le_succ _) (.int .i64 m1)).setCell (p := ⟨w.heap.size + 1, 2, none⟩) (Nat.le_succ _) (.string ⟨F1.toArray⟩)
  have hn0 : (0 : Int) ≤ min (l.length : Int) 100 ∧ min (l.length : Int) 100 ≤ l.length := by omega
  have hn1 : (0 : Int) ≤ min (l1.length : Int) 100 ∧ min (l1.length : Int) 100 ≤ l1.length := by omega
  go_wp2_with fail
  refine (HP _ ((hB5.cell (p := ⟨0, 0, none⟩) hgs).trans hge)).mono ?_
  rintro e w6 ⟨rfl, hb6⟩
  have hB6 := hB5.trans (hb6.mono hB5.size)
  have b6 := b5.below hb6 b5.lt
  have c6 := c5.below hb6 c5.lt
  clear c40 c41 c42 g40 g41 g42 b50 b51 b52 HP
  have c60 := c6.cell 0
  have c61 := c6.cell 1
  have c62 := c6.cell 2
  simp at c60 c61 c62
  go_wp2_with fail
  refine (HP1 _ ((hB6.cell (p := ⟨0, 0, none⟩) hgs).trans hge)).mono ?_
  rintro e w7 ⟨rfl, hb7⟩
  have hB7 := hB6.trans (hb7.mono hB6.size)
  have b7 := b6.below hb7 b6.lt
  have c7 := c6.below hb7 c6.lt
  clear c60 c61 c62 HP1 b0 b1 b2 b3 b4 b5 b6 c0 c1 c2 c3 c4 c5 c6 hB0 hB1 hB2 hB3 hB4 hB5 hB6
  have c70 := c7.cell 0
  have c71 := c7.cell 1
  have c72 := c7.cell 2
  have b70 := b7.cell 0
  have b71 := b7.cell 1
  have b72 := b7.cell 2
  have hltb := b7.lt
  have hltc := c7.lt
  simp at c70 c71 c72 b70 b71 b72
  generalize List.take (min (l.length : Int) 100).toNat l = S at *
  generalize List.take (min (l1.length : Int) 100).toNat l1 = T at *
  go_upto_region 9 with fail
  have hB8 := hB7.alloc (by omega) (.cells #[.int .i64 3, .int .i64 200, .string ⟨(F ++ F1).toArray⟩] 23)
  have b8 := b7.alloc (.cells #[.int .i64 3, .int .i64 200, .string ⟨(F ++ F1).toArray⟩] 23)
  have c8 := c7.alloc (.cells #[.int .i64 3, .int .i64 200, .string ⟨(F ++ F1).toArray⟩] 23)
  have b80 := b8.cell 0
  have c80 := c8.cell 0
  simp at b80 c80
  clear b70 b71 b72 c70 c71 c72 b7 c7 b8 c8
  generalize hpa : passA k m F S = PA at *
  generalize hpb : passA k1 m1 F1 T = PB at *
  have HPA := Lib.hid hpa
  have HPB := Lib.hid hpb
  clear hpa hpb
  cases PA with
  | false =>
    go_wp2_with fail
    go_ret
    exact ⟨rfl, hB8⟩
  | true =>
    cases PB with
    | false =>
      go_wp2_with fail
      go_ret
      exact ⟨rfl, hB8⟩
    | true =>
      by_cases hk : k = 3
      · subst hk
        by_cases hk1 : k1 = 3
        · subst hk1
          by_cases hlen : F.length + F1.length ≤ 40
          · obtain ⟨h1, h2, h3, h4⟩ := hlaw.out HPA.out HPB.out (by simpa using hlen) hS hS1
            rw [h1, h2] at HP2
            rw [h3, h4] at HZ
            clear h1 h2 h3 h4 hlaw HPA HPB
            have d8 := Blk.new w7 #[.int .i64 3, .int .i64 200, .string ⟨(F ++ F1).toArray⟩] 23
            obtain ⟨y1, y2, y3⟩ := sum_i S.length (T.length : Int) (S.length + T.length) (by omega) (by omega)
            clear y3
            go_wp2_with fail
            refine (HP2 _ ((hB8.cell (p := ⟨0, 0, none⟩) hgs).trans hge)).mono ?_
            rintro e w9 ⟨rfl, hb9⟩
            have hB9 := hB8.trans (hb9.mono hB8.size)
            have d9 := d8.below hb9 d8.lt
            have d90 := d9.cell 0
            have d91 := d9.cell 1
            have d92 := d9.cell 2
            simp at d90 d91 d92
            clear HP2 d8 b80 c80
            go_wp2_with fail
            refine (HZ _ ((hB9.cell (p := ⟨0, 0, none⟩) hgs).trans hge)).mono ?_
            rintro e w10 ⟨rfl, hb10⟩
            have hB10 := hB9.trans (hb10.mono hB9.size)
            clear HZ d90 d91 d92
            go_wp2_with fail
            go_ret
            exact ⟨rfl, hB10⟩
          · go_wp2_with fail
            go_ret
            exact ⟨rfl, hB8⟩
        · have hk1' : (k1 != 3) = true := by simpa using hk1
          go_wp2_with fail
          go_ret
          exact ⟨rfl, hB8⟩
      · have hk' : (k != 3) = true := by simpa using hk
        go_wp2_with fail
        go_ret
        exact ⟨rfl, hB8⟩
end Go.Proofs.YtcgffokejpgbdaaDoor
