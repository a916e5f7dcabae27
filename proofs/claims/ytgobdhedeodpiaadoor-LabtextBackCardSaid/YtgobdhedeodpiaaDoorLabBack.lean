/- LabtextBack: its walk and its plain law. -/
import Derived.Test.YtgobdhedeodpiaaDoorLabLaw
namespace Go.Proofs.YtgobdhedeodpiaaDoor
open Go.RowKit Go.Shelf
attribute [local go_sem] Oper.semAt_some
theorem back_there (lv ig : Int) (S : Nat) (hS : S < 18446744073709551616) (h : labB lv ig = true) : printL lv S ig = labT lv S ig ∧ labE lv ig = 0 ∧ parL (labT lv S ig) = (lv, S, ig) ∧ parAt (labT lv S ig) = 0 ∧ parE (labT lv S ig) = 0 := by
  obtain ⟨h1, h2, h3, h4⟩ := (labB_iff lv ig).1 h
  have := ptext_text lv ig S h1 h2 h3 h4 hS
  unfold printL labE parL parAt parE
  rw [h, this]
  exact ⟨rfl, rfl, rfl, rfl, rfl⟩
theorem back_here (s : List UInt8) : (parE s = 50 ∧ parL s = (0, 0, 0)) ∨ (parE s = 0 ∧ labB (parL s).1 (parL s).2.2 = true ∧ labT (parL s).1 (parL s).2.1 (parL s).2.2 = s ∧ (parL s).2.1 < 18446744073709551616) := by
  unfold parE parL
  rcases h : ptext s with ⟨_ | ⟨lv, S, ig⟩, r⟩
  · exact .inl ⟨rfl, rfl⟩
  · obtain ⟨h1, _, h2, h3, h4, h5, h6⟩ := ptext_back h
    exact .inr ⟨rfl, (labB_iff lv ig).2 ⟨h2, h3, h4, h5⟩, h1.symm, h6⟩
theorem labT_len (lv ig : Int) (S : Nat) (h1 : lv ≤ 15) (h2 : ig ≤ 7) : (labT lv S ig).length ≤ 1500 := by
  have := digL_len lv (by omega)
  have := digL_len ig (by omega)
  have := setT_len S
  simp [labT]; omega
theorem printL_len (lv ig : Int) (S : Nat) : (printL lv S ig).length ≤ 1500 := by
  unfold printL; split
  · rename_i h; have := (labB_iff lv ig).1 h; exact labT_len lv ig S (by omega) (by omega)
  · simp
set_option maxHeartbeats 4000000 in
set_option maxRecDepth 100000 in
theorem back_law (lv ig : Int) (S : Nat) (hS : S < 18446744073709551616) (l : List UInt8) (w : World) (hT : Tab w) (hg : ErrT w) :
    Calls Tryd.prog 5 #[labV lv S ig, .string ⟨l.toArray⟩] w fun e w' => e = .returned (.bool true) ∧ Below w.heap.size w w' := by
  have hgl := World.block_lt_of_cell? w _ hg
  have hTl := hT.lt
  have hB0 := (Below.refl w.heap.size w).alloc (Nat.le_refl _) (.cells #[.int .i64 lv, .int .u64 S, .int .i64 ig] 24)
  have b0 := label_box w lv S ig
  have HS := Lib.hid (shown_any _ (hT.same (hB0.block _ hTl)) ((hB0.cell (p := ⟨0, 0, none⟩) hgl).trans hg))
  have HP := fun u hu => print_any lv ig S hS u hu
  have HPa := fun u hu => parse_any (printL lv S ig) (by have := printL_len lv ig S; omega) u hu
  have HCut := cut_any l
  have HL : (l.take 300).length ≤ 1000000 := by simp; omega
  generalize l.take 300 = L at HCut HL
  cases hb : labB lv ig with
  | false =>
    have HR := fun u => labRight_any lv ig S u
    have e1 : printL lv S ig = [] := by rw [printL, hb]; rfl
    have e2 : labE lv ig = 20 := by rw [labE, hb]; rfl
    rw [e1] at HP HPa
    rw [e2] at HP
    rw [hb] at HR
    clear e1 e2 hb
    go_enter Tryd.func5, Tryd.ntmps5
    go_wp2_with fail
    refine HS.out.mono ?_
    rintro e w1 ⟨rfl, hb1⟩
    have hB1 := hB0.trans (hb1.mono hB0.size)
    have b1 := b0.below hb1 b0.lt
    have b10 := b1.cell 0
    have b11 := b1.cell 1
    have b12 := b1.cell 2
    simp at b10 b11 b12
    go_wp2_with fail
    refine (HP _ (hT.same (hB1.block _ hTl))).mono ?_
    rintro e w2 ⟨rfl, hb2⟩
    have hB2 := hB1.trans (hb2.mono hB1.size)
    have b2 := b1.below hb2 b1.lt
    clear b10 b11 b12
    go_wp2_with fail
    refine (HPa _ ((hB2.cell (p := ⟨0, 0, none⟩) hgl).trans hg)).mono ?_
    rintro e w3 ⟨rfl, hb3⟩
    have hB3 := hB2.trans (hb3.mono hB2.size)
    have b3 := b2.below hb3 b2.lt
    generalize hPL : parL [] = PL at *
    obtain ⟨p1, p2, p3⟩ := PL
    have b3' := b3.alloc (.cells #[.int .i64 p1, .int .u64 p2, .int .i64 p3] 24)
    have hB3' := hB3.alloc hB3.size (.cells #[.int .i64 p1, .int .u64 p2, .int .i64 p3] 24)
    have c30 := b3'.cell 0
    have c31 := b3'.cell 1
    have c32 := b3'.cell 2
    simp at c30 c31 c32
    go_wp2_with (go_at_call 17; refine (HR _).mono ?_; rintro e w4 ⟨rfl, hb4⟩)
    go_ret
    exact ⟨rfl, hB3'.trans (hb4.mono hB3'.size)⟩
  | true =>
    obtain ⟨e1, e2, e3, e4, e5⟩ := back_there lv ig S hS hb
    rw [e1] at HPa HP
    rw [e2] at HP
    rw [e3, e4, e5] at HPa
    generalize labT lv S ig = T at *
    clear e1 e2 e3 e4 e5 hb
    have HPb := fun u hu => parse_any L HL u hu
    have hh := back_here L
    generalize hPL : parL L = PL at *
    obtain ⟨p1, p2, p3⟩ := PL
    go_enter Tryd.func5, Tryd.ntmps5
    go_wp2_with fail
    refine HS.out.mono ?_
    rintro e w1 ⟨rfl, hb1⟩
    have hB1 := hB0.trans (hb1.mono hB0.size)
    have b1 := b0.below hb1 b0.lt
    have b10 := b1.cell 0
    have b11 := b1.cell 1
    have b12 := b1.cell 2
    simp at b10 b11 b12
    go_wp2_with fail
    refine (HP _ (hT.same (hB1.block _ hTl))).mono ?_
    rintro e w2 ⟨rfl, hb2⟩
    have hB2 := hB1.trans (hb2.mono hB1.size)
    have b2 := b1.below hb2 b1.lt
    clear b10 b11 b12
    go_wp2_with fail
    refine (HPa _ ((hB2.cell (p := ⟨0, 0, none⟩) hgl).trans hg)).mono ?_
    rintro e w3 ⟨rfl, hb3⟩
    have hB3 := hB2.trans (hb3.mono hB2.size)
    have b3 := (b2.below hb3 b2.lt).alloc (.cells #[.int .i64 lv, .int .u64 S, .int .i64 ig] 24)
    have hB3' := hB3.alloc hB3.size (.cells #[.int .i64 lv, .int .u64 S, .int .i64 ig] 24)
    have a3 := label_box w3 lv S ig
    go_wp2_with (go_at_call 15; refine (HCut _).mono ?_; rintro e w' ⟨rfl, rfl⟩)
    refine (HPb _ ((hB3'.cell (p := ⟨0, 0, none⟩) hgl).trans hg)).mono ?_
    rintro e w4 ⟨rfl, hb4⟩
    have hB4 := hB3'.trans (hb4.mono hB3'.size)
    have b4 := (b3.below hb4 b3.lt).alloc (.cells #[.int .i64 p1, .int .u64 p2, .int .i64 p3] 24)
    have a4 := (a3.below hb4 a3.lt).alloc (.cells #[.int .i64 p1, .int .u64 p2, .int .i64 p3] 24)
    have d4 := label_box w4 p1 p2 p3
    have hB4' := hB4.alloc hB4.size (.cells #[.int .i64 p1, .int .u64 p2, .int .i64 p3] 24)
    have hTw : Tab (w4.alloc (.cells #[.int .i64 p1, .int .u64 p2, .int .i64 p3] 24)) := hT.same (hB4'.block _ hTl)
    have hlast : ∃ (g h : Int) (U : List UInt8), parE L = g ∧ labE p1 p3 = h ∧ printL p1 p2 p3 = U ∧ p2 < 18446744073709551616 ∧ (g = 50 ∨ g = 0 ∧ h = 0 ∧ U = L) := by
      refine ⟨_, _, _, rfl, rfl, rfl, ?_⟩
      rcases hh with ⟨k1, k2⟩ | ⟨k1, k2, k3, k4⟩
      · cases k2; exact ⟨by omega, .inl k1⟩
      · exact ⟨k4, .inr ⟨k1, by rw [labE, k2]; rfl, by rw [printL, k2]; exact k3⟩⟩
    obtain ⟨g, h, U, eg, eh, eU, hp2, hlast⟩ := hlast
    have HP2 := print_any p1 p3 p2 hp2 _ hTw
    rw [eh, eU] at HP2
    rw [eg]
    have HP2H := Lib.hid HP2
    have Hg := Lib.hid hlast
    clear hlast HP2 eg eh eU hh hPL HPb HPa HP
    go_wp2_with fail
    refine HP2H.out.mono ?_
    rintro e w5 ⟨rfl, hb5⟩
    have b5 := b4.below hb5 b4.lt
    have a5 := a4.below hb5 a4.lt
    have hB5 := hB4'.trans (hb5.mono hB4'.size)
    have b50 := b5.cell 0
    have b51 := b5.cell 1
    have b52 := b5.cell 2
    have a50 := a5.cell 0
    have a51 := a5.cell 1
    have a52 := a5.cell 2
    simp at b50 b51 b52 a50 a51 a52
    rcases Hg.out with rfl | ⟨rfl, rfl, rfl⟩
    · clear Hg
      go_wp2_with fail
      go_ret
      exact ⟨rfl, hB5⟩
    · clear Hg
      go_wp2_with (go_at_call 15; refine (HCut _).mono ?_; rintro e w' ⟨rfl, rfl⟩)
      go_ret
      exact ⟨rfl, hB5⟩
end Go.Proofs.YtgobdhedeodpiaaDoor
