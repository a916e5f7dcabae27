/- Walks of layer 13's law: cut, Few, shown. -/
import Derived.Test.YtcgffokejpgbdaaDoorFilterL
namespace Go.Proofs.YtcgffokejpgbdaaDoor
open Go.RowKit
theorem take_min {n : Nat} {N : Int} (h : N = n) (l : List UInt8) : List.take (min (l.length : Int) N).toNat l = l.take n := by
  subst h
  rw [show (min (l.length : Int) (n : Int)).toNat = min l.length n by omega, List.take_eq_take_iff]; simp [Nat.min_comm]
theorem cut210_any (l : List UInt8) (w : World) :
    Calls Tryd.prog 14 #[.string ⟨l.toArray⟩] w fun e w' => e = .returned (.string ⟨(l.take 210).toArray⟩) ∧ w = w' := by
  have HT := Lib.hid (take_min (n := 210) (N := 210) rfl l)
  go_enter Tryd.func14, Tryd.ntmps14
  go_wp2
  go_ret
  exact ⟨ret_str HT.out, rfl⟩
theorem few_any (k m : Int) (form : List UInt8) (w : World) :
    Calls Tryd.prog 12 #[fV k m form] w fun e w' => e = .returned (fV k m (form.take 50)) ∧ Below w.heap.size w w' := by
  have HT := Lib.hid (take_min (n := 50) (N := 50) rfl form)
  go_enter Tryd.func12, Tryd.ntmps12
  go_wp2
  refine bodyPost_ret (v := fV k m (form.take 50)) (by rw [HT.out]; simp [results, Tryd.results12, go_sem]) rfl ⟨rfl, ((Below.refl _ w).alloc (Nat.le_refl _) _).alloc (by simp) _⟩
theorem sh1 : parseV [99, 108, 97, 115, 115, 32, 53, 32, 97, 122, 65, 70] = .returned (.tuple #[fV 2 5 [97, 122, 65, 70], .int .i64 0]) := by kernel_rfl
theorem sh2 : parseV [102, 111, 114, 109, 32, 57, 32, 100, 52, 45, 100, 50] = .returned (.tuple #[fV 3 9 [100, 52, 45, 100, 50], .int .i64 0]) := by kernel_rfl
theorem sh3 : rightB 2 5 [97, 122, 65, 70] = true := by kernel_rfl
theorem sh4 : rightB 3 9 [100, 52, 45, 100, 50] = true := by kernel_rfl
theorem sh5 : passI 2 5 [97, 122, 65, 70] [97, 98, 70] = true := by kernel_rfl
theorem sh6 : placeI 2 5 [97, 122, 65, 70] [97, 98, 71] = 2 := by kernel_rfl
theorem sh7 : passI 3 9 [100, 52, 45, 100, 50] [50, 48, 50, 54, 45, 49, 49] = true := by kernel_rfl
theorem sh8 : sizeOf 3 [100, 52, 45, 100, 50] = 7 := by kernel_rfl
set_option maxHeartbeats 1000000 in
set_option maxRecDepth 100000 in
theorem shown_any (ea : Addr) (w : World) (hge : w.cell? ⟨0, 0, none⟩ = some (eV ea)) :
    Calls Tryd.prog 11 #[] w fun e w' => e = .returned (.bool true) ∧ Below w.heap.size w w' := by
  have hgs : 0 < w.heap.size := World.block_lt_of_cell? w _ hge
  have H1 := Lib.hid (parse_any [99, 108, 97, 115, 115, 32, 53, 32, 97, 122, 65, 70] (by decide) ea w hge)
  go_enter Tryd.func11, Tryd.ntmps11
  go_wp2_with fail
  refine H1.out.mono ?_
  rintro e w1 ⟨he, hb1⟩
  cases he.trans sh1
  clear he H1
  have hB1 := hb1.alloc hb1.size (.cells #[.int .i64 2, .int .i64 5, .string ⟨#[97, 122, 65, 70]⟩] 23)
  have b1 := Blk.new w1 #[.int .i64 2, .int .i64 5, .string ⟨#[97, 122, 65, 70]⟩] 23
  have hz1 := hb1.size
  have H2 := Lib.hid (parse_any [102, 111, 114, 109, 32, 57, 32, 100, 52, 45, 100, 50] (by decide) ea _ ((hB1.cell (p := ⟨0, 0, none⟩) hgs).trans hge))
  go_wp2_with fail
  refine H2.out.mono ?_
  rintro e w2 ⟨he, hb2⟩
  cases he.trans sh2
  clear he H2
  have hz2 := hb2.size
  simp at hz2
  have b2 := (b1.below hb2 b1.lt).alloc (.cells #[.int .i64 3, .int .i64 9, .string ⟨#[100, 52, 45, 100, 50]⟩] 23)
  have c1 := Blk.new w2 #[.int .i64 3, .int .i64 9, .string ⟨#[100, 52, 45, 100, 50]⟩] 23
  have hB2 := (hB1.trans (hb2.mono hB1.size)).alloc (by omega) (.cells #[.int .i64 3, .int .i64 9, .string ⟨#[100, 52, 45, 100, 50]⟩] 23)
  have b20 := b2.cell 0
  have b21 := b2.cell 1
  have b22 := b2.cell 2
  have b23 := b2.frozen 0
  have b24 := b2.frozen 1
  have b25 := b2.frozen 2
  have c10 := c1.cell 0
  have c11 := c1.cell 1
  have c12 := c1.cell 2
  simp at b20 b21 b22 c10 c11 c12
  have H3 := Lib.hid (pass_any 2 5 [97, 122, 65, 70] [97, 98, 70] (by decide) (by decide) ea _ ((hB2.cell (p := ⟨0, 0, none⟩) hgs).trans hge))
  go_wp2_with fail
  refine H3.out.mono ?_
  rintro e w3 ⟨rfl, hb3⟩
  clear H3
  rw [if_pos sh3, sh5]
  have b3 := b2.below hb3 b2.lt
  have c3 := c1.below hb3 c1.lt
  have hB3 := hB2.trans (hb3.mono hB2.size)
  have b30 := b3.cell 0
  have b31 := b3.cell 1
  have b32 := b3.cell 2
  have c30 := c3.cell 0
  have c31 := c3.cell 1
  have c32 := c3.cell 2
  simp at b30 b31 b32 c30 c31 c32
  have H4 := Lib.hid (place_any 2 5 [97, 122, 65, 70] [97, 98, 71] (by decide) (by decide) ea _ ((hB3.cell (p := ⟨0, 0, none⟩) hgs).trans hge))
  go_wp2_with fail
  refine H4.out.mono ?_
  rintro e w4 ⟨rfl, hb4⟩
  clear H4 b30 b31 b32 c30 c31 c32
  rw [if_pos sh3, sh6]
  have b4 := b3.below hb4 b3.lt
  have c4 := c3.below hb4 c3.lt
  have hB4 := hB3.trans (hb4.mono hB3.size)
  have c40 := c4.cell 0
  have c41 := c4.cell 1
  have c42 := c4.cell 2
  simp at c40 c41 c42
  have H5 := Lib.hid (pass_any 3 9 [100, 52, 45, 100, 50] [50, 48, 50, 54, 45, 49, 49] (by decide) (by decide) ea _ ((hB4.cell (p := ⟨0, 0, none⟩) hgs).trans hge))
  go_wp2_with fail
  refine H5.out.mono ?_
  rintro e w5 ⟨rfl, hb5⟩
  clear H5 c40 c41 c42
  rw [if_pos sh4, sh7]
  have b5 := b4.below hb5 b4.lt
  have c5 := c4.below hb5 c4.lt
  have hB5 := hB4.trans (hb5.mono hB4.size)
  have c50 := c5.cell 0
  have c51 := c5.cell 1
  have c52 := c5.cell 2
  simp at c50 c51 c52
  have H6 := Lib.hid (size_any 3 9 [100, 52, 45, 100, 50] (by decide) ea _ ((hB5.cell (p := ⟨0, 0, none⟩) hgs).trans hge))
  go_wp2_with fail
  refine H6.out.mono ?_
  rintro e w6 ⟨rfl, hb6⟩
  clear H6 c50 c51 c52
  rw [sh4, sh8]
  have b6 := b5.below hb6 b5.lt
  have hB6 := hB5.trans (hb6.mono hB5.size)
  have b60 := b6.cell 0
  have b61 := b6.cell 1
  have b62 := b6.cell 2
  simp at b60 b61 b62
  go_wp2_with fail
  go_ret
  exact ⟨rfl, hB6⟩
end Go.Proofs.YtcgffokejpgbdaaDoor
