/- Walks of layer 5's law: cut, shown. -/
import Derived.Test.YtgobdhedeodpiaaDoorLabP
namespace Go.Proofs.YtgobdhedeodpiaaDoor
open Go.RowKit Go.Shelf
attribute [local go_sem] Oper.semAt_some
theorem take_min {n : Nat} {N : Int} (h : N = n) (l : List UInt8) : List.take (min (l.length : Int) N).toNat l = l.take n := by
  subst h
  rw [show (min (l.length : Int) (n : Int)).toNat = min l.length n by omega, List.take_eq_take_iff]; simp [Nat.min_comm]
theorem cut_any (l : List UInt8) (w : World) :
    Calls Tryd.prog 15 #[.string ⟨l.toArray⟩] w fun e w' => e = .returned (.string ⟨(l.take 300).toArray⟩) ∧ w = w' := by
  have HT := Lib.hid (take_min (n := 300) (N := 300) rfl l)
  go_enter Tryd.func15, Tryd.ntmps15
  go_wp2
  go_ret
  exact ⟨ret_str HT.out, rfl⟩
theorem bottom_any (w : World) : Calls Tryd.prog 18 #[] w fun e w' => e = .returned (labV 0 0 7) ∧ Below w.heap.size w w' := by
  go_enter Tryd.func18, Tryd.ntmps18
  go_wp2
  exact bodyPost_ret (v := labV 0 0 7) (by simp [results, Tryd.results18, go_sem]) rfl ⟨rfl, (Below.refl _ w).alloc (Nat.le_refl _) _⟩
theorem print_any (lv ig : Int) (S : Nat) (hS : S < 18446744073709551616) (w : World) (hT : Tab w) :
    Calls Tryd.prog 10 #[labV lv S ig] w fun e w' => e = .returned (.tuple #[.string ⟨(printL lv S ig).toArray⟩, .int .i64 (labE lv ig)]) ∧ Below w.heap.size w w' := by
  cases hb : labB lv ig with
  | true =>
    obtain ⟨h1, h2, h3, h4⟩ := (labB_iff lv ig).1 hb
    rw [printL, labE, hb]
    exact print_yes lv ig S hS w hT h1 h2 h3 h4
  | false =>
    have HR := fun W => labRight_any lv ig S W
    rw [hb] at HR
    have HZ : Hid (printL lv S ig = [] ∧ labE lv ig = 20) := by show _ ∧ _; rw [printL, labE, hb]; exact ⟨rfl, rfl⟩
    have hB0 := (Below.refl w.heap.size w).alloc (Nat.le_refl _) (.cells #[.int .i64 lv, .int .u64 S, .int .i64 ig] 24)
    clear hb
    go_enter Tryd.func10, Tryd.ntmps10
    go_wp2_with fail
    refine (HR _).mono ?_
    rintro e w1 ⟨rfl, hb1⟩
    go_wp2_with fail
    go_ret2
    exact ⟨by rw [HZ.out.1, HZ.out.2]; rfl, hB0.trans (hb1.mono hB0.size)⟩
theorem sh1 : printL 3 4097 5 = [76, 51, 123, 48, 44, 49, 50, 125, 73, 53] := by kernel_rfl
theorem sh2 : labE 3 5 = 0 := by kernel_rfl
theorem sh3 : parL [76, 48, 73, 55] = (0, 0, 7) := by kernel_rfl
theorem sh4 : parAt [76, 48, 73, 55] = 0 := by kernel_rfl
theorem sh5 : parE [76, 48, 73, 55] = 0 := by kernel_rfl
theorem sh6 : parAt [76, 51, 123, 50, 44, 49, 125, 73, 53] = 6 := by kernel_rfl
theorem sh7 : parE [76, 51, 123, 50, 44, 49, 125, 73, 53] = 50 := by kernel_rfl
theorem sh9 : parL [76, 51, 123, 50, 44, 49, 125, 73, 53] = (0, 0, 0) := by kernel_rfl
theorem sh8 : digL 120 = [49, 50, 48] := by kernel_rfl
set_option maxHeartbeats 2000000 in
set_option maxRecDepth 100000 in
theorem shown_any (w : World) (hT : Tab w) (hg : ErrT w) :
    Calls Tryd.prog 9 #[] w fun e w' => e = .returned (.bool true) ∧ Below w.heap.size w w' := by
  have hgl := World.block_lt_of_cell? w _ hg
  have hTl := hT.lt
  have H1 := print_any 3 5 4097 (by omega) w hT
  rw [sh1, sh2] at H1
  have H2 := fun u hu => parse_any [76, 48, 73, 55] (by decide) u hu
  rw [sh3, sh4, sh5] at H2
  have H3 := fun u hu => parse_any [76, 51, 123, 50, 44, 49, 125, 73, 53] (by decide) u hu
  rw [sh6, sh7, sh9] at H3
  have H4 := fun u => Digits_any 120 u (by omega)
  rw [sh8] at H4
  have H1H := Lib.hid H1
  clear H1
  go_enter Tryd.func9, Tryd.ntmps9
  go_wp2_with fail
  refine H1H.out.mono ?_
  rintro e w1 ⟨rfl, hb1⟩
  go_wp2_with fail
  refine (H2 _ ((hb1.cell (p := ⟨0, 0, none⟩) hgl).trans hg)).mono ?_
  rintro e w2 ⟨rfl, hb2⟩
  have hB2 := hb1.trans (hb2.mono hb1.size)
  go_wp2_with fail
  have a2 := Blk.new w2 #[.int .i64 0, .int .u64 0, .int .i64 7] 24
  have hB2' := hB2.alloc hB2.size (.cells #[.int .i64 0, .int .u64 0, .int .i64 7] 24)
  refine (H3 _ ((hB2'.cell (p := ⟨0, 0, none⟩) hgl).trans hg)).mono ?_
  rintro e w3 ⟨rfl, hb3⟩
  have a3 := a2.below hb3 a2.lt
  have hB3 := hB2'.trans (hb3.mono hB2'.size)
  have c30 := a3.cell 0
  have c31 := a3.cell 1
  have c32 := a3.cell 2
  simp at c30 c31 c32
  clear H1H H2 H3 a2
  have hB3' := hB3.alloc hB3.size (.cells #[.int .i64 0, .int .u64 0, .int .i64 0] 24)
  have a3' := a3.alloc (.cells #[.int .i64 0, .int .u64 0, .int .i64 0] 24)
  go_wp2_with fail
  have HBo := fun u => bottom_any u
  obtain ⟨w4, hw4⟩ : ∃ u, w3.alloc (.cells #[.int .i64 0, .int .u64 0, .int .i64 0] 24) = u := ⟨_, rfl⟩
  rw [hw4] at hB3' a3' ⊢
  have c40 := a3'.cell 0
  have c41 := a3'.cell 1
  have c42 := a3'.cell 2
  simp at c40 c41 c42
  clear c30 c31 c32 hw4
  go_region_held3 (fun u => u.cell? ⟨w2.heap.size, 0, none⟩ = some (.int .i64 0) ∧ u.cell? ⟨w2.heap.size, 1, none⟩ = some (.int .u64 0) ∧ u.cell? ⟨w2.heap.size, 2, none⟩ = some (.int .i64 7)) (first | go_keep | exact ⟨k50, k51, k52⟩ | exact ⟨k60, k61, k62⟩)
    (first
      | (go_at_call 18; (with_reducible refine (HBo _).mono ?_); rintro e w5 ⟨rfl, hb5⟩; have hh5 := (Below.refl w4.heap.size w4).drew.trans hb5; have a5 := a3'.below hh5 a3'.lt; have k50 := a5.cell 0; have k51 := a5.cell 1; have k52 := a5.cell 2; simp at k50 k51 k52)
      | (go_at_call 12; (with_reducible refine (H4 _).mono ?_); rintro e w6 ⟨rfl, hb6⟩; have hh6 := hh5.trans (hb6.mono hh5.size); have a6 := a3'.below hh6 a3'.lt; have k60 := a6.cell 0; have k61 := a6.cell 1; have k62 := a6.cell 2; simp at k60 k61 k62))
  all_goals go_wp2_with fail
  all_goals go_ret
  all_goals exact ⟨rfl, hB3'.trans (hh6.mono hB3'.size)⟩
end Go.Proofs.YtgobdhedeodpiaaDoor
