/- LabtextPrints: its walk. -/
import Derived.Test.YtgobdhedeodpiaaDoorLabLaw
import Derived.Test.YtgobdhedeodpiaaDoorLabQ2
namespace Go.Proofs.YtgobdhedeodpiaaDoor
open Go.RowKit Go.Shelf
attribute [local go_sem] Oper.semAt_some
theorem printL_len2 (lv ig : Int) (S : Nat) : (printL lv S ig).length ≤ 1500 := by
  unfold printL; split
  · rename_i h
    obtain ⟨_, h1, _, h2⟩ := (labB_iff lv ig).1 h
    have := digL_len lv (by omega)
    have := digL_len ig (by omega)
    have := setT_len S
    simp [labT]; omega
  · simp
set_option maxHeartbeats 4000000 in
set_option maxRecDepth 100000 in
theorem prints_law (lv ig : Int) (S : Nat) (hS : S < 18446744073709551616) (n : Int) (hn : -9223372036854775808 ≤ n ∧ n ≤ 9223372036854775807) (w : World) (hT : Tab w) (hg : ErrT w) :
    Calls Tryd.prog 3 #[labV lv S ig, .int .i64 n] w fun e w' => e = .returned (.bool true) ∧ Below w.heap.size w w' := by
  have hgl := World.block_lt_of_cell? w _ hg
  have hTl := hT.lt
  have hB0 := (Below.refl w.heap.size w).alloc (Nat.le_refl _) (.cells #[.int .i64 lv, .int .u64 S, .int .i64 ig] 24)
  have b0 := label_box w lv S ig
  have HS := Lib.hid (shown_any _ (hT.same (hB0.block _ hTl)) ((hB0.cell (p := ⟨0, 0, none⟩) hgl).trans hg))
  have HP := fun u hu => print_any lv ig S hS u hu
  have HR := fun u => printR_any lv ig S hS u
  have HD := fun u => Digits_any n u hn.2
  have HE := fun u => digitsR_any n hn.2 u
  generalize printL lv S ig = T at *
  generalize labE lv ig = E at *
  generalize digL n = D at *
  go_enter Tryd.func3, Tryd.ntmps3
  go_wp2_with fail
  refine HS.out.mono ?_
  rintro e w1 ⟨rfl, hb1⟩
  have hB1 := hB0.trans (hb1.mono hB0.size)
  have b1 := b0.below hb1 b0.lt
  have b10 := b1.cell 0
  have b11 := b1.cell 1
  have b12 := b1.cell 2
  simp at b10 b11 b12
  go_wp2_with fail
  refine (HP _ (hT.same (hB1.block _ hTl))).mono ?_
  rintro e w2 ⟨rfl, hb2⟩
  have hB2 := hB1.trans (hb2.mono hB1.size)
  have b2 := b1.below hb2 b1.lt
  have b20 := b2.cell 0
  have b21 := b2.cell 1
  have b22 := b2.cell 2
  simp at b20 b21 b22
  clear b10 b11 b12
  go_wp2_with fail
  refine (HR _).mono ?_
  rintro e w3 ⟨rfl, hb3⟩
  have hB3 := hB2.trans (hb3.mono hB2.size)
  clear b20 b21 b22
  go_wp2_with fail
  refine (HD _).mono ?_
  rintro e w4 ⟨rfl, hb4⟩
  have hB4 := hB3.trans (hb4.mono hB3.size)
  go_wp2_with fail
  refine (HE _).mono ?_
  rintro e w5 ⟨rfl, hb5⟩
  have hB5 := hB4.trans (hb5.mono hB4.size)
  go_wp2_with fail
  go_ret
  exact ⟨rfl, hB5⟩
end Go.Proofs.YtgobdhedeodpiaaDoor
