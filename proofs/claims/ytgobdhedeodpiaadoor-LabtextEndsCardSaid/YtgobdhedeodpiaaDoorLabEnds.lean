/- LabtextEnds: its walk and its plain law. -/
import Derived.Test.YtgobdhedeodpiaaDoorLabLaw
namespace Go.Proofs.YtgobdhedeodpiaaDoor
open Go.RowKit Go.Shelf
attribute [local go_sem] Oper.semAt_some
theorem labT_lenE (lv ig : Int) (S : Nat) (h1 : lv ≤ 15) (h2 : ig ≤ 7) : (labT lv S ig).length ≤ 1500 := by
  have := digL_len lv (by omega)
  have := digL_len ig (by omega)
  have := setT_len S
  simp [labT]; omega
theorem ends_plain (lv ig : Int) (S : Nat) (hS : S < 18446744073709551616) (h : labB lv ig = true) (n : Nat) (hn : n < (labT lv S ig).length) :
    parL ((labT lv S ig).take n) = (0, 0, 0) ∧ parAt ((labT lv S ig).take n) = n ∧ parE ((labT lv S ig).take n) = 50 ∧ parAt (labT lv S ig ++ [120]) = (labT lv S ig).length ∧ parE (labT lv S ig ++ [120]) = 50 := by
  obtain ⟨h1, h2, h3, h4⟩ := (labB_iff lv ig).1 h
  have ht := ptext_text lv ig S h1 h2 h3 h4 hS
  have hm := ptext_more lv ig S 120 [] h1 h2 h3 h4 hS
  have hd : (labT lv S ig).drop n ≠ [] := by
    intro e; have := congrArg List.length e; simp at this; omega
  have hnone : (ptext ((labT lv S ig).take n)).1 = none := by
    rcases hp : ptext ((labT lv S ig).take n) with ⟨_ | ⟨lv', S', ig'⟩, r⟩
    · rfl
    · obtain ⟨k1, _, k2, k3, k4, k5, k6⟩ := ptext_back hp
      obtain ⟨c, q, hcq⟩ : ∃ c q, (labT lv S ig).drop n = c :: q := by
        cases hx : (labT lv S ig).drop n with
        | nil => exact absurd hx hd
        | cons c q => exact ⟨c, q, rfl⟩
      have hm' := ptext_more lv' ig' S' c q k2 k3 k4 k5 k6
      rw [← k1, ← hcq, List.take_append_drop, ht] at hm'
      cases hm'
  have ha := text_ahead ((labT lv S ig).take n) ((labT lv S ig).drop n) (lv, S, ig) (by rw [List.take_append_drop]; exact ht) hd hnone
  have hl : ((labT lv S ig).take n).length = n := by rw [List.length_take]; omega
  unfold parL parAt parE
  rw [ha, hm]
  refine ⟨rfl, ?_, rfl, ?_, rfl⟩
  · show (((labT lv S ig).take n).length : Int) - (([] : List UInt8).length : Int) = n
    rw [hl]; simp
  · show ((labT lv S ig ++ [120]).length : Int) - (([120] : List UInt8).length : Int) = _
    simp
set_option maxHeartbeats 4000000 in
set_option maxRecDepth 100000 in
theorem ends_law (lv ig : Int) (S : Nat) (hS : S < 18446744073709551616) (n : Int) (hn : -9223372036854775808 ≤ n ∧ n ≤ 9223372036854775807) (w : World) (hT : Tab w) (hg : ErrT w) :
    Calls Tryd.prog 6 #[labV lv S ig, .int .i64 n] w fun e w' => e = .returned (.bool true) ∧ Below w.heap.size w w' := by
  have hgl := World.block_lt_of_cell? w _ hg
  have hTl := hT.lt
  have hB0 := (Below.refl w.heap.size w).alloc (Nat.le_refl _) (.cells #[.int .i64 lv, .int .u64 S, .int .i64 ig] 24)
  have b0 := label_box w lv S ig
  have HS := Lib.hid (shown_any _ (hT.same (hB0.block _ hTl)) ((hB0.cell (p := ⟨0, 0, none⟩) hgl).trans hg))
  have HP := fun u hu => print_any lv ig S hS u hu
  cases hb : labB lv ig with
  | false =>
    have e1 : printL lv S ig = [] := by rw [printL, hb]; rfl
    have e2 : labE lv ig = 20 := by rw [labE, hb]; rfl
    rw [e1, e2] at HP
    clear e1 e2 hb
    go_enter Tryd.func6, Tryd.ntmps6
    go_wp2_with fail
    refine HS.out.mono ?_
    rintro e w1 ⟨rfl, hb1⟩
    have hB1 := hB0.trans (hb1.mono hB0.size)
    have b1 := b0.below hb1 b0.lt
    have b10 := b1.cell 0
    have b11 := b1.cell 1
    have b12 := b1.cell 2
    simp at b10 b11 b12
    go_wp2_with fail
    refine (HP _ (hT.same (hB1.block _ hTl))).mono ?_
    rintro e w2 ⟨rfl, hb2⟩
    have hB2 := hB1.trans (hb2.mono hB1.size)
    clear b10 b11 b12
    go_wp2_with fail
    go_ret
    exact ⟨rfl, hB2⟩
  | true =>
    obtain ⟨h1, h2, h3, h4⟩ := (labB_iff lv ig).1 hb
    have hTL := labT_lenE lv ig S h2 h4
    have e1 : printL lv S ig = labT lv S ig := by rw [printL, hb]; rfl
    have e2 : labE lv ig = 0 := by rw [labE, hb]; rfl
    have hpl := fun k hk => ends_plain lv ig S hS hb k hk
    rw [e1, e2] at HP
    clear e1 e2 hb
    generalize labT lv S ig = T at *
    by_cases hr : n < 0 ∨ (T.length : Int) ≤ n
    · rcases hr with hr | hr
      all_goals
        clear hpl
        go_enter Tryd.func6, Tryd.ntmps6
        go_wp2_with fail
        refine HS.out.mono ?_
        rintro e w1 ⟨rfl, hb1⟩
        have hB1 := hB0.trans (hb1.mono hB0.size)
        have b1 := b0.below hb1 b0.lt
        have b10 := b1.cell 0
        have b11 := b1.cell 1
        have b12 := b1.cell 2
        simp at b10 b11 b12
        go_wp2_with fail
        refine (HP _ (hT.same (hB1.block _ hTl))).mono ?_
        rintro e w2 ⟨rfl, hb2⟩
        have hB2 := hB1.trans (hb2.mono hB1.size)
        clear b10 b11 b12
        go_wp2_with fail
        go_ret
        exact ⟨rfl, hB2⟩
    · obtain ⟨k, rfl⟩ := Int.eq_ofNat_of_zero_le (show 0 ≤ n by omega)
      have hk : k < T.length := by omega
      obtain ⟨q1, q2, q3, q4, q5⟩ := hpl k hk
      have HA := fun u hu => parse_any (T.take k) (by simp; omega) u hu
      have HX := fun u hu => parse_any (T ++ [120]) (by simp; omega) u hu
      rw [q1, q2, q3] at HA
      rw [q4, q5] at HX
      have hs := sadd (P := Tryd.prog) T [120] (by simp; omega)
      have hk1 : ¬ ((k : Int) < 0) := by omega
      have hk2 : (k : Int) < T.length := by omega
      have hk3 : (k : Int) ≤ T.length := by omega
      clear hr hpl q1 q2 q3 q4 q5
      generalize T ++ [120] = TX at *
      generalize parL TX = PX at *
      obtain ⟨x1, x2, x3⟩ := PX
      generalize hTk : T.take k = TK at *
      have hTk' := Lib.hid hTk
      go_enter Tryd.func6, Tryd.ntmps6
      go_wp2_with fail
      refine HS.out.mono ?_
      rintro e w1 ⟨rfl, hb1⟩
      have hB1 := hB0.trans (hb1.mono hB0.size)
      have b1 := b0.below hb1 b0.lt
      have b10 := b1.cell 0
      have b11 := b1.cell 1
      have b12 := b1.cell 2
      simp at b10 b11 b12
      go_wp2_with fail
      refine (HP _ (hT.same (hB1.block _ hTl))).mono ?_
      rintro e w2 ⟨rfl, hb2⟩
      have hB2 := hB1.trans (hb2.mono hB1.size)
      clear b10 b11 b12
      go_wp2_with fail
      refine (HA _ ((hB2.cell (p := ⟨0, 0, none⟩) hgl).trans hg)).mono ?_
      rintro e w3 ⟨rfl, hb3⟩
      have hB3 := hB2.trans (hb3.mono hB2.size)
      have a3 := label_box w3 0 0 0
      have hB3' := hB3.alloc hB3.size (.cells #[.int .i64 0, .int .u64 (0 : Nat), .int .i64 0] 24)
      go_wp2_with fail
      refine (HX _ ((hB3'.cell (p := ⟨0, 0, none⟩) hgl).trans hg)).mono ?_
      rintro e w4 ⟨rfl, hb4⟩
      have a4 := (a3.below hb4 a3.lt).alloc (.cells #[.int .i64 x1, .int .u64 x2, .int .i64 x3] 24)
      have hB4 := hB3'.trans (hb4.mono hB3'.size)
      have hB4' := hB4.alloc hB4.size (.cells #[.int .i64 x1, .int .u64 x2, .int .i64 x3] 24)
      have a40 := a4.cell 0
      have a41 := a4.cell 1
      have a42 := a4.cell 2
      simp at a40 a41 a42
      go_wp2_with fail
      go_ret
      exact ⟨rfl, hB4'⟩
end Go.Proofs.YtgobdhedeodpiaaDoor
