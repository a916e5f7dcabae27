/- Joined: RuR; RuG -/
import Derived.Test.YtmmdpjliknmhgaaGreatDoorJRH
import Derived.Test.YtmmdpjliknmhgaaGreatDoorJRI
import Derived.Test.YtmmdpjliknmhgaaGreatDoorJRC
import Derived.Lib.AppendZeros
/- Walks of layer 14: rule. -/
namespace Go.Proofs.YtmmdpjliknmhgaaGreatDoor
open Go.RowKit Go.Shelf
attribute [local go_sem] Oper.semAt_some
theorem jump_retU {l : Nat} {J : Act → World → Prop} {Q : Exit → Act → World → Prop} {a : Act} {w : World} : Exit.jump l J Q .ret a w = Q .ret a w := rfl
/-- the words behind a store elsewhere -/
theorem word_store {W : World} {b q j i : Nat} {u v : Value} (h : W.cell? ⟨b, j, none⟩ = some u) (hne : b ≠ q) : (W.setCell ⟨q, i, none⟩ v).cell? ⟨b, j, none⟩ = some u := (World.cell?_of_block (w := W) (a := ⟨b, j, none⟩) (Below.heap_setCell _ ⟨q, i, none⟩ _ b hne)).trans h
def WordsAt (W : World) (b : Nat) (w1 w2 w3 w4 w5 : List UInt8) : Prop := W.cell? ⟨b, 1, none⟩ = some (.string ⟨w1.toArray⟩) ∧ W.cell? ⟨b, 2, none⟩ = some (.string ⟨w2.toArray⟩) ∧ W.cell? ⟨b, 3, none⟩ = some (.string ⟨w3.toArray⟩) ∧ W.cell? ⟨b, 4, none⟩ = some (.string ⟨w4.toArray⟩) ∧ W.cell? ⟨b, 5, none⟩ = some (.string ⟨w5.toArray⟩)
theorem WordsAt.keep {W W2 : World} {b : Nat} {w1 w2 w3 w4 w5 : List UInt8} (h : WordsAt W b w1 w2 w3 w4 w5) (k : KeepC W W2) : WordsAt W2 b w1 w2 w3 w4 w5 := ⟨k.2 _ _ _ h.1, k.2 _ _ _ h.2.1, k.2 _ _ _ h.2.2.1, k.2 _ _ _ h.2.2.2.1, k.2 _ _ _ h.2.2.2.2⟩
theorem WordsAt.store {W : World} {b q i : Nat} {v : Value} {w1 w2 w3 w4 w5 : List UInt8} (h : WordsAt W b w1 w2 w3 w4 w5) (hne : b ≠ q) : WordsAt (W.setCell ⟨q, i, none⟩ v) b w1 w2 w3 w4 w5 := ⟨word_store h.1 hne, word_store h.2.1 hne, word_store h.2.2.1 hne, word_store h.2.2.2.1 hne, word_store h.2.2.2.2 hne⟩
set_option maxRecDepth 100000 in
set_option maxHeartbeats 8000000 in
theorem ruRule_any (s : List UInt8) (hs : s.length ≤ 1000000) (m : Int) (ea : Addr) (w : World) (hge : w.cell? ⟨1, 0, none⟩ = some (eV ea)) (hT : Tab w) (hET : ErrT w) (hm : w.cell? ⟨3, 0, none⟩ = some (.int .i64 m)) :
    Calls Tryz.prog 49 #[.string ⟨s.toArray⟩] w fun e w' => e = .returned (.tuple #[ruV ((readX labK filK 1000 s).getD zRu), .bool (readX labK filK 1000 s).isSome]) ∧ Below w.heap.size w w' := by
  have HS := fun W (h : KeepC w W) => split_any s hs m W (h.2 _ _ _ hm)
  have B0 := (Below.refl _ w).alloc (Nat.le_refl _) (.cells #[.int .i64 0, .int .i64 0, .int .u64 0, .int .i64 0, .int .i64 0, .int .u64 0, .int .i64 0, .int .i64 0, .int .i64 0, .int .i64 0, .string ⟨#[]⟩] 40)
  have r0 := Blk.new w #[.int .i64 0, .int .i64 0, .int .u64 0, .int .i64 0, .int .i64 0, .int .u64 0, .int .i64 0, .int .i64 0, .int .i64 0, .int .i64 0, .string ⟨#[]⟩] 40
  have B01 := B0.alloc B0.size (.cells #[.int .i64 0, .int .i64 0, .int .u64 0, .int .i64 0, .int .i64 0, .int .u64 0, .int .i64 0, .int .i64 0, .int .i64 0, .int .i64 0, .string ⟨#[]⟩] 40)
  have r01 := r0.alloc (.cells #[.int .i64 0, .int .i64 0, .int .u64 0, .int .i64 0, .int .i64 0, .int .u64 0, .int .i64 0, .int .i64 0, .int .i64 0, .int .i64 0, .string ⟨#[]⟩] 40)
  have o01 := Blk.new (w.alloc (.cells #[.int .i64 0, .int .i64 0, .int .u64 0, .int .i64 0, .int .i64 0, .int .u64 0, .int .i64 0, .int .i64 0, .int .i64 0, .int .i64 0, .string ⟨#[]⟩] 40)) #[.int .i64 0, .int .i64 0, .int .u64 0, .int .i64 0, .int .i64 0, .int .u64 0, .int .i64 0, .int .i64 0, .int .i64 0, .int .i64 0, .string ⟨#[]⟩] 40
  have hz1 : (w.alloc (.cells #[.int .i64 0, .int .i64 0, .int .u64 0, .int .i64 0, .int .i64 0, .int .u64 0, .int .i64 0, .int .i64 0, .int .i64 0, .int .i64 0, .string ⟨#[]⟩] 40)).heap.size = w.heap.size + 1 := by simp
  rw [hz1] at o01
  have hzz : ((w.alloc (.cells #[.int .i64 0, .int .i64 0, .int .u64 0, .int .i64 0, .int .i64 0, .int .u64 0, .int .i64 0, .int .i64 0, .int .i64 0, .int .i64 0, .string ⟨#[]⟩] 40)).alloc (.cells #[.int .i64 0, .int .i64 0, .int .u64 0, .int .i64 0, .int .i64 0, .int .u64 0, .int .i64 0, .int .i64 0, .int .i64 0, .int .i64 0, .string ⟨#[]⟩] 40)).heap.size = w.heap.size + 1 + 1 := by simp
  obtain ⟨W0, hW0⟩ : ∃ W0, w.alloc (.cells #[.int .i64 0, .int .i64 0, .int .u64 0, .int .i64 0, .int .i64 0, .int .u64 0, .int .i64 0, .int .i64 0, .int .i64 0, .int .i64 0, .string ⟨#[]⟩] 40) = W0 := ⟨_, rfl⟩
  rw [hW0] at B0 r0 B01 r01 o01 hz1 hzz
  obtain ⟨W1, hW1⟩ : ∃ W1, W0.alloc (.cells #[.int .i64 0, .int .i64 0, .int .u64 0, .int .i64 0, .int .i64 0, .int .u64 0, .int .i64 0, .int .i64 0, .int .i64 0, .int .i64 0, .string ⟨#[]⟩] 40) = W1 := ⟨_, rfl⟩
  rw [hW1] at B01 r01 o01 hzz
  have HSx := HS W1 (KeepC.of_below B01)
  clear HS hm
  by_cases h6 : (splitW 5 s).length < 6
  · rw [readX_short h6]
    replace HSx : Calls Tryz.prog 74 #[.string ⟨s.toArray⟩, .string ⟨#[32]⟩, .int .i64 6] W1 fun e w' => ∃ b c, e = .returned (.slice (some ⟨b, 0, none⟩) (splitW 5 s).length c) ∧ Below W1.heap.size W1 w' := HSx.mono fun e w' ⟨b, c, h1, _, _, h2⟩ => ⟨b, c, h1, h2⟩
    have h6z : ((splitW 5 s).length : Int) < 6 := by omega
    generalize (splitW 5 s).length = ln at *
    go_enter Tryz.func49, Tryz.ntmps49
    go_wp2_with fail
    refine wp_scope_jumps (l := 0) (J := fun x W => Blk W w.heap.size #[.int .i64 0, .int .i64 0, .int .u64 0, .int .i64 0, .int .i64 0, .int .u64 0, .int .i64 0, .int .i64 0, .int .i64 0, .int .i64 0, .string ⟨#[]⟩] 40 ∧ Below w.heap.size w W ∧ ∃ u0 u1 u3 u4 u5 u6 u7 u8 u9 u10 u11 u12 u13 u14 u15 u16 u17 u18 u19 u20 u21 u22 u23 u24 u25 u26 u27 u28 u29 u30 u31 u32 u33 u34 u35 u36 u37 u38 u39 u40 u41 u42 u43 u44 u45 u46 u47 u48 u49 u50 u51 u52 u53 u54 u55 u56 u57 : Value, x = { tmps := #[u0, u1, Value.pointer (some ⟨w.heap.size, 0, none⟩), u3, u4, u5, u6, u7, u8, u9, u10, u11, u12, u13, u14, u15, u16, u17, u18, u19, u20, u21, u22, u23, u24, u25, u26, u27, u28, u29, u30, u31, u32, u33, u34, u35, u36, u37, u38, u39, u40, u41, u42, u43, u44, u45, u46, u47, u48, u49, u50, u51, u52, u53, u54, u55, u56, u57], defers := [] }) (μ := fun _ _ => 0) rfl ?first ?pass
    case pass =>
      rintro x W ⟨r3, B3, u0, u1, u3, u4, u5, u6, u7, u8, u9, u10, u11, u12, u13, u14, u15, u16, u17, u18, u19, u20, u21, u22, u23, u24, u25, u26, u27, u28, u29, u30, u31, u32, u33, u34, u35, u36, u37, u38, u39, u40, u41, u42, u43, u44, u45, u46, u47, u48, u49, u50, u51, u52, u53, u54, u55, u56, u57, rfl⟩
      have pf0 : W.frozen? ⟨w.heap.size, 0, none⟩ = false := r3.frozen 0
      have px0 : W.cell? ⟨w.heap.size, 0, none⟩ = some (.int .i64 0) := (r3.cell 0).trans rfl
      have pf1 : W.frozen? ⟨w.heap.size, 1, none⟩ = false := r3.frozen 1
      have px1 : W.cell? ⟨w.heap.size, 1, none⟩ = some (.int .i64 0) := (r3.cell 1).trans rfl
      have pf2 : W.frozen? ⟨w.heap.size, 2, none⟩ = false := r3.frozen 2
      have px2 : W.cell? ⟨w.heap.size, 2, none⟩ = some (.int .u64 0) := (r3.cell 2).trans rfl
      have pf3 : W.frozen? ⟨w.heap.size, 3, none⟩ = false := r3.frozen 3
      have px3 : W.cell? ⟨w.heap.size, 3, none⟩ = some (.int .i64 0) := (r3.cell 3).trans rfl
      have pf4 : W.frozen? ⟨w.heap.size, 4, none⟩ = false := r3.frozen 4
      have px4 : W.cell? ⟨w.heap.size, 4, none⟩ = some (.int .i64 0) := (r3.cell 4).trans rfl
      have pf5 : W.frozen? ⟨w.heap.size, 5, none⟩ = false := r3.frozen 5
      have px5 : W.cell? ⟨w.heap.size, 5, none⟩ = some (.int .u64 0) := (r3.cell 5).trans rfl
      have pf6 : W.frozen? ⟨w.heap.size, 6, none⟩ = false := r3.frozen 6
      have px6 : W.cell? ⟨w.heap.size, 6, none⟩ = some (.int .i64 0) := (r3.cell 6).trans rfl
      have pf7 : W.frozen? ⟨w.heap.size, 7, none⟩ = false := r3.frozen 7
      have px7 : W.cell? ⟨w.heap.size, 7, none⟩ = some (.int .i64 0) := (r3.cell 7).trans rfl
      have pf8 : W.frozen? ⟨w.heap.size, 8, none⟩ = false := r3.frozen 8
      have px8 : W.cell? ⟨w.heap.size, 8, none⟩ = some (.int .i64 0) := (r3.cell 8).trans rfl
      have pf9 : W.frozen? ⟨w.heap.size, 9, none⟩ = false := r3.frozen 9
      have px9 : W.cell? ⟨w.heap.size, 9, none⟩ = some (.int .i64 0) := (r3.cell 9).trans rfl
      have pf10 : W.frozen? ⟨w.heap.size, 10, none⟩ = false := r3.frozen 10
      have px10 : W.cell? ⟨w.heap.size, 10, none⟩ = some (.string ⟨#[]⟩) := (r3.cell 10).trans rfl
      go_wp2_with fail
      rw [jump_retU]
      have r9 := (((((((((((r3.set 0 (.int .i64 0)).set 1 (.int .i64 0)).set 2 (.int .u64 0)).set 3 (.int .i64 0)).set 4 (.int .i64 0)).set 5 (.int .u64 0)).set 6 (.int .i64 0)).set 7 (.int .i64 0)).set 8 (.int .i64 0)).set 9 (.int .i64 0)).set 10 (.string ⟨#[]⟩))
      have B9 := (((((((((((B3.setCell (p := ⟨w.heap.size, 0, none⟩) (Nat.le_refl _) (.int .i64 0)).setCell (p := ⟨w.heap.size, 1, none⟩) (Nat.le_refl _) (.int .i64 0)).setCell (p := ⟨w.heap.size, 2, none⟩) (Nat.le_refl _) (.int .u64 0)).setCell (p := ⟨w.heap.size, 3, none⟩) (Nat.le_refl _) (.int .i64 0)).setCell (p := ⟨w.heap.size, 4, none⟩) (Nat.le_refl _) (.int .i64 0)).setCell (p := ⟨w.heap.size, 5, none⟩) (Nat.le_refl _) (.int .u64 0)).setCell (p := ⟨w.heap.size, 6, none⟩) (Nat.le_refl _) (.int .i64 0)).setCell (p := ⟨w.heap.size, 7, none⟩) (Nat.le_refl _) (.int .i64 0)).setCell (p := ⟨w.heap.size, 8, none⟩) (Nat.le_refl _) (.int .i64 0)).setCell (p := ⟨w.heap.size, 9, none⟩) (Nat.le_refl _) (.int .i64 0)).setCell (p := ⟨w.heap.size, 10, none⟩) (Nat.le_refl _) (.string ⟨#[]⟩))
      simp only [List.setIfInBounds_toArray, List.set_cons_zero, List.set_cons_succ] at r9
      generalize ((((((((((W.setCell ⟨w.heap.size, 0, none⟩ (.int .i64 0)).setCell ⟨w.heap.size, 1, none⟩ (.int .i64 0)).setCell ⟨w.heap.size, 2, none⟩ (.int .u64 0)).setCell ⟨w.heap.size, 3, none⟩ (.int .i64 0)).setCell ⟨w.heap.size, 4, none⟩ (.int .i64 0)).setCell ⟨w.heap.size, 5, none⟩ (.int .u64 0)).setCell ⟨w.heap.size, 6, none⟩ (.int .i64 0)).setCell ⟨w.heap.size, 7, none⟩ (.int .i64 0)).setCell ⟨w.heap.size, 8, none⟩ (.int .i64 0)).setCell ⟨w.heap.size, 9, none⟩ (.int .i64 0)).setCell ⟨w.heap.size, 10, none⟩ (.string ⟨#[]⟩) = W9 at *
      have q0 : W9.cell? ⟨w.heap.size, 0, none⟩ = some (.int .i64 0) := (r9.cell 0).trans rfl
      have q1 : W9.cell? ⟨w.heap.size, 1, none⟩ = some (.int .i64 0) := (r9.cell 1).trans rfl
      have q2 : W9.cell? ⟨w.heap.size, 2, none⟩ = some (.int .u64 0) := (r9.cell 2).trans rfl
      have q3 : W9.cell? ⟨w.heap.size, 3, none⟩ = some (.int .i64 0) := (r9.cell 3).trans rfl
      have q4 : W9.cell? ⟨w.heap.size, 4, none⟩ = some (.int .i64 0) := (r9.cell 4).trans rfl
      have q5 : W9.cell? ⟨w.heap.size, 5, none⟩ = some (.int .u64 0) := (r9.cell 5).trans rfl
      have q6 : W9.cell? ⟨w.heap.size, 6, none⟩ = some (.int .i64 0) := (r9.cell 6).trans rfl
      have q7 : W9.cell? ⟨w.heap.size, 7, none⟩ = some (.int .i64 0) := (r9.cell 7).trans rfl
      have q8 : W9.cell? ⟨w.heap.size, 8, none⟩ = some (.int .i64 0) := (r9.cell 8).trans rfl
      have q9 : W9.cell? ⟨w.heap.size, 9, none⟩ = some (.int .i64 0) := (r9.cell 9).trans rfl
      have q10 : W9.cell? ⟨w.heap.size, 10, none⟩ = some (.string ⟨#[]⟩) := (r9.cell 10).trans rfl
      exact bodyPost_ret (v := .tuple #[.agg #[.int .i64 0, .int .i64 0, .int .u64 0, .int .i64 0, .int .i64 0, .int .u64 0, .int .i64 0, .int .i64 0, .int .i64 0, .int .i64 0, .string ⟨#[]⟩], .bool false]) (by simp [results, Tryz.results49, go_sem, q0, q1, q2, q3, q4, q5, q6, q7, q8, q9, q10]) rfl ⟨rfl, B9⟩
    case first =>
      go_wp2_with fail
      with_reducible refine HSx.mono ?_
      rintro e w1 ⟨b, c, rfl, b1⟩
      go_wp2_with fail
      refine wp_goto ⟨rfl, r01.below b1 r01.lt, B01.trans (b1.mono B01.size), ?_⟩
      exact ⟨_, _, _, _, _, _, _, _, _, _, _, _, _, _, _, _, _, _, _, _, _, _, _, _, _, _, _, _, _, _, _, _, _, _, _, _, _, _, _, _, _, _, _, _, _, _, _, _, _, _, _, _, _, _, _, _, _, rfl⟩
  · obtain ⟨w0, w1, w2, w3, w4, w5, h5⟩ := split_six h6
    have hle := splitW_le 5 s
    rw [h5] at hle
    rw [readX_six h5]
    rw [h5] at HSx
    have HN1 := fun W => ruNumber_any w1 W
    have HN4 := fun W => ruNumber_any w4 W
    have HP2 := fun W (h : KeepC w W) => parse_any w2 (Nat.le_trans (hle w2 (by simp)) hs) W (h.2 _ _ _ hET)
    have HP3 := fun W (h : KeepC w W) => parse_any w3 (Nat.le_trans (hle w3 (by simp)) hs) W (h.2 _ _ _ hET)
    have HP5 := fun W (h : KeepC w W) => parse2 w5 (Nat.le_trans (hle w5 (by simp)) hs) ea W (h.2 _ _ _ hge)
    have hl2 := parL_lt w2
    have hl3 := parL_lt w3
    have hl5 := parF_len w5
    generalize numW 1000 0 w1 = n1 at *
    generalize numW 1000 0 w4 = n4 at *
    generalize parL w2 = a2 at *
    generalize parL w3 = a3 at *
    generalize parK w5 = fk at *
    generalize parM w5 = fm at *
    generalize parF w5 = ff at *
    obtain ⟨l1, S1, i1⟩ := a2
    obtain ⟨l2, S2, i2⟩ := a3
    dsimp only at *
    have hok : OkR ⟨n1, (l1, S1, i1), (l2, S2, i2), n4, (fk, fm, ff)⟩ := ⟨hl2, hl3, Nat.le_trans hl5 (by omega)⟩
    have HI := fun W (h : KeepC w W) => isRule_any ⟨n1, (l1, S1, i1), (l2, S2, i2), n4, (fk, fm, ff)⟩ hok ea W (h.2 _ _ _ hge)
    have hTl := hT.lt
    have HL := fun hi W (h : Below w.heap.size w W) => line_any ⟨n1, (l1, S1, i1), (l2, S2, i2), n4, (fk, fm, ff)⟩ hok hi ea W ((KeepC.of_below h).2 _ _ _ hge) (hT.same (h.block _ hTl))
    have hzs : ¬ (9223372036854775807 < s.length + 1) := by omega
    have hz0 := ba_size s
    generalize isRX labK filK ⟨n1, (l1, S1, i1), (l2, S2, i2), n4, (fk, fm, ff)⟩ = ir at *
    generalize lineX labK filK ⟨n1, (l1, S1, i1), (l2, S2, i2), n4, (fk, fm, ff)⟩ = LX at *
    clear hle hge hET hT hok hl2 hl3 hl5 h6 h5
    go_enter Tryz.func49, Tryz.ntmps49
    go_wp2_with fail
    refine wp_scope_straight ?_
    go_wp2_with fail
    with_reducible refine HSx.mono ?_
    rintro e v1 ⟨b, c, rfl, hbw, hcells, b1⟩
    have hbq : b ≠ w.heap.size + 1 := by omega
    have hbq0 : b ≠ w.heap.size := by omega
    have Wd : WordsAt v1 b w1 w2 w3 w4 w5 := ⟨hcells 1 (by simp), hcells 2 (by simp), hcells 3 (by simp), hcells 4 (by simp), hcells 5 (by simp)⟩
    have r1 := r01.below b1 r01.lt
    have o1 := o01.below b1 o01.lt
    have B1 := B01.trans (b1.mono B01.size)
    clear hcells HSx b1 r01 o01 B01 hbw
    simp only [List.length_cons, List.length_nil, Nat.reduceAdd, Nat.zero_add]
    go_wp2_with fail
    have D1 : Below v1.heap.size v1 v1.drew := (Below.refl _ v1).drew
    have Wd1 := Wd.keep (KeepC.of_below D1)
    refine wp_region_noPanic ?_
    refine wp_region_held_drew (S := (fun u => u.cell? ⟨b, 1, none⟩ = some (.string ⟨w1.toArray⟩) ∧ u.cell? ⟨b, 4, none⟩ = some (.string ⟨w4.toArray⟩))) (by kernel_rfl) ?_ (fun hHeld => ?_)
    · exact ⟨Wd1.1, Wd1.2.2.2.1⟩
    refine wpAnyH_take (i := 0) (oi := _) (v := ?_) (nth_at rfl) (by kernel_rfl) (by kernel_rfl) (by kernel_rfl) (fun _ _ _ h => h) (Or.inl ⟨by rfl, ?_⟩) (by assumption) ?_
    rotate_left 1
    · intro w hSw; (try dsimp only at hSw); (go_simp <;> with_reducible rfl)
    try simp only [Act.put, List.setIfInBounds_toArray, List.set_cons_zero, List.set_cons_succ]
    refine wpAnyH_take (i := 1) (oi := _) (v := ?_) (nth_at rfl) (by kernel_rfl) (by kernel_rfl) (by kernel_rfl) (fun _ _ _ h => h) (Or.inl ⟨by rfl, ?_⟩) (by assumption) ?_
    rotate_left 1
    · intro w hSw; (try dsimp only at hSw); (go_simp <;> with_reducible rfl)
    try simp only [Act.put, List.setIfInBounds_toArray, List.set_cons_zero, List.set_cons_succ]
    refine wpAnyH_take (i := 2) (oi := _) (v := ?_) (nth_at rfl) (by kernel_rfl) (by kernel_rfl) (by kernel_rfl) (fun _ _ _ h => h) (Or.inl ⟨by rfl, ?_⟩) (by assumption) ?_
    rotate_left 1
    · intro w hSw; (try dsimp only at hSw); (go_simp <;> with_reducible rfl)
    try simp only [Act.put, List.setIfInBounds_toArray, List.set_cons_zero, List.set_cons_succ]
    refine wpAnyH_take (i := 4) (oi := _) (v := ?_) (nth_at rfl) (by kernel_rfl) (by kernel_rfl) (by kernel_rfl) (fun _ _ _ h => h) (Or.inl ⟨by rfl, ?_⟩) (by assumption) ?_
    rotate_left 1
    · intro w hSw; (try dsimp only at hSw); (go_simp <;> with_reducible rfl)
    try simp only [Act.put, List.setIfInBounds_toArray, List.set_cons_zero, List.set_cons_succ]
    refine wpAnyH_take (i := 5) (oi := _) (v := ?_) (nth_at rfl) (by kernel_rfl) (by kernel_rfl) (by kernel_rfl) (fun _ _ _ h => h) (Or.inl ⟨by rfl, ?_⟩) (by assumption) ?_
    rotate_left 1
    · intro w hSw; (try dsimp only at hSw); (go_simp <;> with_reducible rfl)
    try simp only [Act.put, List.setIfInBounds_toArray, List.set_cons_zero, List.set_cons_succ]
    refine wpAnyH_take (i := 6) (oi := _) (v := ?_) (nth_at rfl) (by kernel_rfl) (by kernel_rfl) (by kernel_rfl) (fun _ _ _ h => h) (Or.inl ⟨by rfl, ?_⟩) (by assumption) ?_
    rotate_left 1
    · intro w hSw; (try dsimp only at hSw); (go_simp <;> with_reducible rfl)
    try simp only [Act.put, List.setIfInBounds_toArray, List.set_cons_zero, List.set_cons_succ]
    refine wpAnyH_ready (rs := [3]) (by kernel_rfl) (by simp) ?_
    refine AllReadyH.cons (o := _) (nth_at rfl) (fun K hK => ?_) AllReadyH.nil
    go_simp
    with_reducible refine (HN1 _).mono ?_
    rintro e v2 ⟨rfl, b2⟩
    have D2 := D1.trans (b2.mono D1.size)
    have Wd2 := Wd.keep (KeepC.of_below D2)
    try clear hHeld
    refine hK.out _ _ ?_ (fun hHeld => ?_)
    · exact ⟨Wd2.1, Wd2.2.2.2.1⟩
    clear hK K
    try simp only [Act.put, List.setIfInBounds_toArray, List.set_cons_zero, List.set_cons_succ]
    refine wpAnyH_take (i := 8) (oi := _) (v := ?_) (nth_at rfl) (by kernel_rfl) (by kernel_rfl) (by kernel_rfl) (fun _ _ _ h => h) (Or.inl ⟨by rfl, ?_⟩) (by assumption) ?_
    rotate_left 1
    · intro w hSw; (try dsimp only at hSw); (go_simp <;> with_reducible rfl)
    try simp only [Act.put, List.setIfInBounds_toArray, List.set_cons_zero, List.set_cons_succ]
    refine wpAnyH_ready (rs := [7]) (by kernel_rfl) (by simp) ?_
    refine AllReadyH.cons (o := _) (nth_at rfl) (fun K hK => ?_) AllReadyH.nil
    go_simp
    with_reducible refine (HN4 _).mono ?_
    rintro e v3 ⟨rfl, b3⟩
    have D3 := D2.trans (b3.mono D2.size)
    have Wd3 := Wd.keep (KeepC.of_below D3)
    have o3 := o1.below D3 o1.lt
    have r3 := r1.below D3 r1.lt
    have B3 := B1.trans (D3.mono B1.size)
    have g0 : v3.frozen? ⟨w.heap.size + 1, 0, none⟩ = false := o3.frozen 0
    have y0 : v3.cell? ⟨w.heap.size + 1, 0, none⟩ = some (.int .i64 0) := (o3.cell 0).trans rfl
    have o4 := o3.set 0 (.int .i64 n1)
    have g7 : (v3.setCell ⟨w.heap.size + 1, 0, none⟩ (.int .i64 n1)).frozen? ⟨w.heap.size + 1, 7, none⟩ = false := o4.frozen 7
    have y7 : (v3.setCell ⟨w.heap.size + 1, 0, none⟩ (.int .i64 n1)).cell? ⟨w.heap.size + 1, 7, none⟩ = some (.int .i64 0) := (o4.cell 7).trans rfl
    try clear hHeld
    refine hK.out _ _ ?_ (fun hHeld => ?_)
    · exact ⟨Wd3.1, Wd3.2.2.2.1⟩
    clear hK K
    try simp only [Act.put, List.setIfInBounds_toArray, List.set_cons_zero, List.set_cons_succ]
    refine wpAnyH_ready (rs := [9]) (by kernel_rfl) (by simp) ?_
    refine AllReadyH.cons (o := _) (nth_at rfl) (fun K hK => ?_) AllReadyH.nil
    go_simp
    try clear hHeld
    refine hK.out _ _ ?_ (fun hHeld => ?_)
    · exact ⟨word_store Wd3.1 hbq, word_store Wd3.2.2.2.1 hbq⟩
    clear hK K
    try simp only [Act.put, List.setIfInBounds_toArray, List.set_cons_zero, List.set_cons_succ]
    refine wpAnyH_take (i := 10) (oi := _) (v := ?_) (nth_at rfl) (by kernel_rfl) (by kernel_rfl) (by kernel_rfl) (fun _ _ _ h => h) (Or.inl ⟨by rfl, ?_⟩) (by assumption) ?_
    rotate_left 1
    · intro w hSw; (try dsimp only at hSw); (go_simp <;> with_reducible rfl)
    try simp only [Act.put, List.setIfInBounds_toArray, List.set_cons_zero, List.set_cons_succ]
    refine wpAnyH_ready (rs := [11]) (by kernel_rfl) (by simp) ?_
    refine AllReadyH.cons (o := _) (nth_at rfl) (fun K hK => ?_) AllReadyH.nil
    go_simp
    try clear hHeld
    refine hK.out _ _ ?_ (fun hHeld => ?_)
    · exact ⟨word_store (word_store Wd3.1 hbq) hbq, word_store (word_store Wd3.2.2.2.1 hbq) hbq⟩
    clear hK K
    try simp only [Act.put, List.setIfInBounds_toArray, List.set_cons_zero, List.set_cons_succ]
    refine wpAnyH_done (by kernel_rfl) ?_ _
    refine NoPanic.normal ?_
    try clear hHeld
    have o5 := o4.set 7 (.int .i64 n4)
    simp only [List.setIfInBounds_toArray, List.set_cons_zero, List.set_cons_succ] at o5
    have Wd5 : WordsAt ((v3.setCell ⟨w.heap.size + 1, 0, none⟩ (.int .i64 n1)).setCell ⟨w.heap.size + 1, 7, none⟩ (.int .i64 n4)) b w1 w2 w3 w4 w5 := (Wd3.store hbq).store hbq
    have r5 := (r3.other (b' := w.heap.size + 1) 0 (.int .i64 n1) (by omega)).other (b' := w.heap.size + 1) 7 (.int .i64 n4) (by omega)
    have B5 := (B3.setCell (p := ⟨w.heap.size + 1, 0, none⟩) (by show w.heap.size ≤ w.heap.size + 1; omega) (.int .i64 n1)).setCell (p := ⟨w.heap.size + 1, 7, none⟩) (by show w.heap.size ≤ w.heap.size + 1; omega) (.int .i64 n4)
    generalize (v3.setCell ⟨w.heap.size + 1, 0, none⟩ (.int .i64 n1)).setCell ⟨w.heap.size + 1, 7, none⟩ (.int .i64 n4) = v5 at *
    clear g0 y0 g7 y7 o4 o3 r3 B3 D3 b3 D2 b2 Wd3 Wd2 Wd1 D1 Wd r1 o1 B1 HN1 HN4
    have wd2 := Wd5.2.1
    go_wp2_with fail
    with_reducible refine (HP2 _ (KeepC.of_below B5)).mono ?_
    rintro e v6 ⟨rfl, b6⟩
    clear wd2
    have o6 := o5.below b6 o5.lt
    have r6 := r5.below b6 r5.lt
    have B6 := B5.trans (b6.mono B5.size)
    have Wd6 := Wd5.keep (KeepC.of_below b6)
    have g60 : (v6).frozen? ⟨w.heap.size + 1, 1, none⟩ = false := (o6).frozen 1
    have y60 : (v6).cell? ⟨w.heap.size + 1, 1, none⟩ = some (.int .i64 0) := ((o6).cell 1).trans rfl
    have g61 : ((v6).setCell ⟨w.heap.size + 1, 1, none⟩ (.int .i64 l1)).frozen? ⟨w.heap.size + 1, 2, none⟩ = false := ((o6).set 1 (.int .i64 l1)).frozen 2
    have y61 : ((v6).setCell ⟨w.heap.size + 1, 1, none⟩ (.int .i64 l1)).cell? ⟨w.heap.size + 1, 2, none⟩ = some (.int .u64 0) := (((o6).set 1 (.int .i64 l1)).cell 2).trans rfl
    have g62 : (((v6).setCell ⟨w.heap.size + 1, 1, none⟩ (.int .i64 l1)).setCell ⟨w.heap.size + 1, 2, none⟩ (.int .u64 S1)).frozen? ⟨w.heap.size + 1, 3, none⟩ = false := (((o6).set 1 (.int .i64 l1)).set 2 (.int .u64 S1)).frozen 3
    have y62 : (((v6).setCell ⟨w.heap.size + 1, 1, none⟩ (.int .i64 l1)).setCell ⟨w.heap.size + 1, 2, none⟩ (.int .u64 S1)).cell? ⟨w.heap.size + 1, 3, none⟩ = some (.int .i64 0) := ((((o6).set 1 (.int .i64 l1)).set 2 (.int .u64 S1)).cell 3).trans rfl
    obtain ⟨v7, hv7⟩ : ∃ v7, (((v6).setCell ⟨w.heap.size + 1, 1, none⟩ (.int .i64 l1)).setCell ⟨w.heap.size + 1, 2, none⟩ (.int .u64 S1)).setCell ⟨w.heap.size + 1, 3, none⟩ (.int .i64 i1) = v7 := ⟨_, rfl⟩
    have o7 := (((o6).set 1 (.int .i64 l1)).set 2 (.int .u64 S1)).set 3 (.int .i64 i1)
    have r7 := (((r6).other (b' := w.heap.size + 1) 1 (.int .i64 l1) (by omega)).other (b' := w.heap.size + 1) 2 (.int .u64 S1) (by omega)).other (b' := w.heap.size + 1) 3 (.int .i64 i1) (by omega)
    have B7 := (((B6).setCell (p := ⟨w.heap.size + 1, 1, none⟩) (by show w.heap.size ≤ w.heap.size + 1; omega) (.int .i64 l1)).setCell (p := ⟨w.heap.size + 1, 2, none⟩) (by show w.heap.size ≤ w.heap.size + 1; omega) (.int .u64 S1)).setCell (p := ⟨w.heap.size + 1, 3, none⟩) (by show w.heap.size ≤ w.heap.size + 1; omega) (.int .i64 i1)
    have Wd7 : WordsAt ((((v6).setCell ⟨w.heap.size + 1, 1, none⟩ (.int .i64 l1)).setCell ⟨w.heap.size + 1, 2, none⟩ (.int .u64 S1)).setCell ⟨w.heap.size + 1, 3, none⟩ (.int .i64 i1)) b w1 w2 w3 w4 w5 := (((Wd6).store hbq).store hbq).store hbq
    rw [hv7] at o7 r7 B7 Wd7
    simp only [List.setIfInBounds_toArray, List.set_cons_zero, List.set_cons_succ] at o7
    clear o6 r6 B6 Wd6 b6
    have wd3 := Wd7.2.2.1
    go_wp2_with fail
    with_reducible refine (HP3 _ (KeepC.of_below B7)).mono ?_
    rintro e v8 ⟨rfl, b8⟩
    clear wd3
    have o8 := o7.below b8 o7.lt
    have r8 := r7.below b8 r7.lt
    have B8 := B7.trans (b8.mono B7.size)
    have Wd8 := Wd7.keep (KeepC.of_below b8)
    have g80 : (v8).frozen? ⟨w.heap.size + 1, 4, none⟩ = false := (o8).frozen 4
    have y80 : (v8).cell? ⟨w.heap.size + 1, 4, none⟩ = some (.int .i64 0) := ((o8).cell 4).trans rfl
    have g81 : ((v8).setCell ⟨w.heap.size + 1, 4, none⟩ (.int .i64 l2)).frozen? ⟨w.heap.size + 1, 5, none⟩ = false := ((o8).set 4 (.int .i64 l2)).frozen 5
    have y81 : ((v8).setCell ⟨w.heap.size + 1, 4, none⟩ (.int .i64 l2)).cell? ⟨w.heap.size + 1, 5, none⟩ = some (.int .u64 0) := (((o8).set 4 (.int .i64 l2)).cell 5).trans rfl
    have g82 : (((v8).setCell ⟨w.heap.size + 1, 4, none⟩ (.int .i64 l2)).setCell ⟨w.heap.size + 1, 5, none⟩ (.int .u64 S2)).frozen? ⟨w.heap.size + 1, 6, none⟩ = false := (((o8).set 4 (.int .i64 l2)).set 5 (.int .u64 S2)).frozen 6
    have y82 : (((v8).setCell ⟨w.heap.size + 1, 4, none⟩ (.int .i64 l2)).setCell ⟨w.heap.size + 1, 5, none⟩ (.int .u64 S2)).cell? ⟨w.heap.size + 1, 6, none⟩ = some (.int .i64 0) := ((((o8).set 4 (.int .i64 l2)).set 5 (.int .u64 S2)).cell 6).trans rfl
    obtain ⟨v9, hv9⟩ : ∃ v9, (((v8).setCell ⟨w.heap.size + 1, 4, none⟩ (.int .i64 l2)).setCell ⟨w.heap.size + 1, 5, none⟩ (.int .u64 S2)).setCell ⟨w.heap.size + 1, 6, none⟩ (.int .i64 i2) = v9 := ⟨_, rfl⟩
    have o9 := (((o8).set 4 (.int .i64 l2)).set 5 (.int .u64 S2)).set 6 (.int .i64 i2)
    have r9 := (((r8).other (b' := w.heap.size + 1) 4 (.int .i64 l2) (by omega)).other (b' := w.heap.size + 1) 5 (.int .u64 S2) (by omega)).other (b' := w.heap.size + 1) 6 (.int .i64 i2) (by omega)
    have B9 := (((B8).setCell (p := ⟨w.heap.size + 1, 4, none⟩) (by show w.heap.size ≤ w.heap.size + 1; omega) (.int .i64 l2)).setCell (p := ⟨w.heap.size + 1, 5, none⟩) (by show w.heap.size ≤ w.heap.size + 1; omega) (.int .u64 S2)).setCell (p := ⟨w.heap.size + 1, 6, none⟩) (by show w.heap.size ≤ w.heap.size + 1; omega) (.int .i64 i2)
    have Wd9 : WordsAt ((((v8).setCell ⟨w.heap.size + 1, 4, none⟩ (.int .i64 l2)).setCell ⟨w.heap.size + 1, 5, none⟩ (.int .u64 S2)).setCell ⟨w.heap.size + 1, 6, none⟩ (.int .i64 i2)) b w1 w2 w3 w4 w5 := (((Wd8).store hbq).store hbq).store hbq
    rw [hv9] at o9 r9 B9 Wd9
    simp only [List.setIfInBounds_toArray, List.set_cons_zero, List.set_cons_succ] at o9
    clear o8 r8 B8 Wd8 b8
    have wd5 := Wd9.2.2.2.2
    go_wp2_with fail
    with_reducible refine (HP5 _ (KeepC.of_below B9)).mono ?_
    rintro e va ⟨rfl, ba⟩
    clear wd5
    have oa := o9.below ba o9.lt
    have ra := r9.below ba r9.lt
    have Ba := B9.trans (ba.mono B9.size)
    have Wda := Wd9.keep (KeepC.of_below ba)
    have ga0 : (va).frozen? ⟨w.heap.size + 1, 8, none⟩ = false := (oa).frozen 8
    have ya0 : (va).cell? ⟨w.heap.size + 1, 8, none⟩ = some (.int .i64 0) := ((oa).cell 8).trans rfl
    have ga1 : ((va).setCell ⟨w.heap.size + 1, 8, none⟩ (.int .i64 fk)).frozen? ⟨w.heap.size + 1, 9, none⟩ = false := ((oa).set 8 (.int .i64 fk)).frozen 9
    have ya1 : ((va).setCell ⟨w.heap.size + 1, 8, none⟩ (.int .i64 fk)).cell? ⟨w.heap.size + 1, 9, none⟩ = some (.int .i64 0) := (((oa).set 8 (.int .i64 fk)).cell 9).trans rfl
    have ga2 : (((va).setCell ⟨w.heap.size + 1, 8, none⟩ (.int .i64 fk)).setCell ⟨w.heap.size + 1, 9, none⟩ (.int .i64 fm)).frozen? ⟨w.heap.size + 1, 10, none⟩ = false := (((oa).set 8 (.int .i64 fk)).set 9 (.int .i64 fm)).frozen 10
    have ya2 : (((va).setCell ⟨w.heap.size + 1, 8, none⟩ (.int .i64 fk)).setCell ⟨w.heap.size + 1, 9, none⟩ (.int .i64 fm)).cell? ⟨w.heap.size + 1, 10, none⟩ = some (.string ⟨#[]⟩) := ((((oa).set 8 (.int .i64 fk)).set 9 (.int .i64 fm)).cell 10).trans rfl
    obtain ⟨vb, hvb⟩ : ∃ vb, (((va).setCell ⟨w.heap.size + 1, 8, none⟩ (.int .i64 fk)).setCell ⟨w.heap.size + 1, 9, none⟩ (.int .i64 fm)).setCell ⟨w.heap.size + 1, 10, none⟩ (.string ⟨ff.toArray⟩) = vb := ⟨_, rfl⟩
    have ob := (((oa).set 8 (.int .i64 fk)).set 9 (.int .i64 fm)).set 10 (.string ⟨ff.toArray⟩)
    have rb := (((ra).other (b' := w.heap.size + 1) 8 (.int .i64 fk) (by omega)).other (b' := w.heap.size + 1) 9 (.int .i64 fm) (by omega)).other (b' := w.heap.size + 1) 10 (.string ⟨ff.toArray⟩) (by omega)
    have Bb := (((Ba).setCell (p := ⟨w.heap.size + 1, 8, none⟩) (by show w.heap.size ≤ w.heap.size + 1; omega) (.int .i64 fk)).setCell (p := ⟨w.heap.size + 1, 9, none⟩) (by show w.heap.size ≤ w.heap.size + 1; omega) (.int .i64 fm)).setCell (p := ⟨w.heap.size + 1, 10, none⟩) (by show w.heap.size ≤ w.heap.size + 1; omega) (.string ⟨ff.toArray⟩)
    have Wdb : WordsAt ((((va).setCell ⟨w.heap.size + 1, 8, none⟩ (.int .i64 fk)).setCell ⟨w.heap.size + 1, 9, none⟩ (.int .i64 fm)).setCell ⟨w.heap.size + 1, 10, none⟩ (.string ⟨ff.toArray⟩)) b w1 w2 w3 w4 w5 := (((Wda).store hbq).store hbq).store hbq
    rw [hvb] at ob rb Bb Wdb
    simp only [List.setIfInBounds_toArray, List.set_cons_zero, List.set_cons_succ] at ob
    clear oa ra Ba Wda ba
    have k0 : vb.cell? ⟨w.heap.size + 1, 0, none⟩ = some (.int .i64 n1) := (ob.cell 0).trans rfl
    have k1 : vb.cell? ⟨w.heap.size + 1, 1, none⟩ = some (.int .i64 l1) := (ob.cell 1).trans rfl
    have k2 : vb.cell? ⟨w.heap.size + 1, 2, none⟩ = some (.int .u64 S1) := (ob.cell 2).trans rfl
    have k3 : vb.cell? ⟨w.heap.size + 1, 3, none⟩ = some (.int .i64 i1) := (ob.cell 3).trans rfl
    have k4 : vb.cell? ⟨w.heap.size + 1, 4, none⟩ = some (.int .i64 l2) := (ob.cell 4).trans rfl
    have k5 : vb.cell? ⟨w.heap.size + 1, 5, none⟩ = some (.int .u64 S2) := (ob.cell 5).trans rfl
    have k6 : vb.cell? ⟨w.heap.size + 1, 6, none⟩ = some (.int .i64 i2) := (ob.cell 6).trans rfl
    have k7 : vb.cell? ⟨w.heap.size + 1, 7, none⟩ = some (.int .i64 n4) := (ob.cell 7).trans rfl
    have k8 : vb.cell? ⟨w.heap.size + 1, 8, none⟩ = some (.int .i64 fk) := (ob.cell 8).trans rfl
    have k9 : vb.cell? ⟨w.heap.size + 1, 9, none⟩ = some (.int .i64 fm) := (ob.cell 9).trans rfl
    have k10 : vb.cell? ⟨w.heap.size + 1, 10, none⟩ = some (.string ⟨ff.toArray⟩) := (ob.cell 10).trans rfl
    go_wp2_with fail
    with_reducible refine (HI _ (KeepC.of_below Bb)).mono ?_
    rintro e vc ⟨rfl, bc⟩
    have oc := ob.below bc ob.lt
    have rc := rb.below bc rb.lt
    have Bc := Bb.trans (bc.mono Bb.size)
    clear k0 k1 k2 k3 k4 k5 k6 k7 k8 k9 k10
    cases ir with
    | false =>
      try dsimp only
      have pf0 : vc.frozen? ⟨w.heap.size, 0, none⟩ = false := rc.frozen 0
      have px0 : vc.cell? ⟨w.heap.size, 0, none⟩ = some (.int .i64 0) := (rc.cell 0).trans rfl
      have pf1 : vc.frozen? ⟨w.heap.size, 1, none⟩ = false := rc.frozen 1
      have px1 : vc.cell? ⟨w.heap.size, 1, none⟩ = some (.int .i64 0) := (rc.cell 1).trans rfl
      have pf2 : vc.frozen? ⟨w.heap.size, 2, none⟩ = false := rc.frozen 2
      have px2 : vc.cell? ⟨w.heap.size, 2, none⟩ = some (.int .u64 0) := (rc.cell 2).trans rfl
      have pf3 : vc.frozen? ⟨w.heap.size, 3, none⟩ = false := rc.frozen 3
      have px3 : vc.cell? ⟨w.heap.size, 3, none⟩ = some (.int .i64 0) := (rc.cell 3).trans rfl
      have pf4 : vc.frozen? ⟨w.heap.size, 4, none⟩ = false := rc.frozen 4
      have px4 : vc.cell? ⟨w.heap.size, 4, none⟩ = some (.int .i64 0) := (rc.cell 4).trans rfl
      have pf5 : vc.frozen? ⟨w.heap.size, 5, none⟩ = false := rc.frozen 5
      have px5 : vc.cell? ⟨w.heap.size, 5, none⟩ = some (.int .u64 0) := (rc.cell 5).trans rfl
      have pf6 : vc.frozen? ⟨w.heap.size, 6, none⟩ = false := rc.frozen 6
      have px6 : vc.cell? ⟨w.heap.size, 6, none⟩ = some (.int .i64 0) := (rc.cell 6).trans rfl
      have pf7 : vc.frozen? ⟨w.heap.size, 7, none⟩ = false := rc.frozen 7
      have px7 : vc.cell? ⟨w.heap.size, 7, none⟩ = some (.int .i64 0) := (rc.cell 7).trans rfl
      have pf8 : vc.frozen? ⟨w.heap.size, 8, none⟩ = false := rc.frozen 8
      have px8 : vc.cell? ⟨w.heap.size, 8, none⟩ = some (.int .i64 0) := (rc.cell 8).trans rfl
      have pf9 : vc.frozen? ⟨w.heap.size, 9, none⟩ = false := rc.frozen 9
      have px9 : vc.cell? ⟨w.heap.size, 9, none⟩ = some (.int .i64 0) := (rc.cell 9).trans rfl
      have pf10 : vc.frozen? ⟨w.heap.size, 10, none⟩ = false := rc.frozen 10
      have px10 : vc.cell? ⟨w.heap.size, 10, none⟩ = some (.string ⟨#[]⟩) := (rc.cell 10).trans rfl
      go_wp2_with fail
      refine wp_label ?_
      go_wp2_with fail
      simp only [Exit.noGoto_ret]
      have r9 := (((((((((((rc.set 0 (.int .i64 0)).set 1 (.int .i64 0)).set 2 (.int .u64 0)).set 3 (.int .i64 0)).set 4 (.int .i64 0)).set 5 (.int .u64 0)).set 6 (.int .i64 0)).set 7 (.int .i64 0)).set 8 (.int .i64 0)).set 9 (.int .i64 0)).set 10 (.string ⟨#[]⟩))
      have B9 := (((((((((((Bc.setCell (p := ⟨w.heap.size, 0, none⟩) (Nat.le_refl _) (.int .i64 0)).setCell (p := ⟨w.heap.size, 1, none⟩) (Nat.le_refl _) (.int .i64 0)).setCell (p := ⟨w.heap.size, 2, none⟩) (Nat.le_refl _) (.int .u64 0)).setCell (p := ⟨w.heap.size, 3, none⟩) (Nat.le_refl _) (.int .i64 0)).setCell (p := ⟨w.heap.size, 4, none⟩) (Nat.le_refl _) (.int .i64 0)).setCell (p := ⟨w.heap.size, 5, none⟩) (Nat.le_refl _) (.int .u64 0)).setCell (p := ⟨w.heap.size, 6, none⟩) (Nat.le_refl _) (.int .i64 0)).setCell (p := ⟨w.heap.size, 7, none⟩) (Nat.le_refl _) (.int .i64 0)).setCell (p := ⟨w.heap.size, 8, none⟩) (Nat.le_refl _) (.int .i64 0)).setCell (p := ⟨w.heap.size, 9, none⟩) (Nat.le_refl _) (.int .i64 0)).setCell (p := ⟨w.heap.size, 10, none⟩) (Nat.le_refl _) (.string ⟨#[]⟩))
      simp only [List.setIfInBounds_toArray, List.set_cons_zero, List.set_cons_succ] at r9
      generalize ((((((((((vc.setCell ⟨w.heap.size, 0, none⟩ (.int .i64 0)).setCell ⟨w.heap.size, 1, none⟩ (.int .i64 0)).setCell ⟨w.heap.size, 2, none⟩ (.int .u64 0)).setCell ⟨w.heap.size, 3, none⟩ (.int .i64 0)).setCell ⟨w.heap.size, 4, none⟩ (.int .i64 0)).setCell ⟨w.heap.size, 5, none⟩ (.int .u64 0)).setCell ⟨w.heap.size, 6, none⟩ (.int .i64 0)).setCell ⟨w.heap.size, 7, none⟩ (.int .i64 0)).setCell ⟨w.heap.size, 8, none⟩ (.int .i64 0)).setCell ⟨w.heap.size, 9, none⟩ (.int .i64 0)).setCell ⟨w.heap.size, 10, none⟩ (.string ⟨#[]⟩) = W9 at *
      have q0 : W9.cell? ⟨w.heap.size, 0, none⟩ = some (.int .i64 0) := (r9.cell 0).trans rfl
      have q1 : W9.cell? ⟨w.heap.size, 1, none⟩ = some (.int .i64 0) := (r9.cell 1).trans rfl
      have q2 : W9.cell? ⟨w.heap.size, 2, none⟩ = some (.int .u64 0) := (r9.cell 2).trans rfl
      have q3 : W9.cell? ⟨w.heap.size, 3, none⟩ = some (.int .i64 0) := (r9.cell 3).trans rfl
      have q4 : W9.cell? ⟨w.heap.size, 4, none⟩ = some (.int .i64 0) := (r9.cell 4).trans rfl
      have q5 : W9.cell? ⟨w.heap.size, 5, none⟩ = some (.int .u64 0) := (r9.cell 5).trans rfl
      have q6 : W9.cell? ⟨w.heap.size, 6, none⟩ = some (.int .i64 0) := (r9.cell 6).trans rfl
      have q7 : W9.cell? ⟨w.heap.size, 7, none⟩ = some (.int .i64 0) := (r9.cell 7).trans rfl
      have q8 : W9.cell? ⟨w.heap.size, 8, none⟩ = some (.int .i64 0) := (r9.cell 8).trans rfl
      have q9 : W9.cell? ⟨w.heap.size, 9, none⟩ = some (.int .i64 0) := (r9.cell 9).trans rfl
      have q10 : W9.cell? ⟨w.heap.size, 10, none⟩ = some (.string ⟨#[]⟩) := (r9.cell 10).trans rfl
      exact bodyPost_ret (v := .tuple #[.agg #[.int .i64 0, .int .i64 0, .int .u64 0, .int .i64 0, .int .i64 0, .int .u64 0, .int .i64 0, .int .i64 0, .int .i64 0, .int .i64 0, .string ⟨#[]⟩], .bool false]) (by simp [results, Tryz.results49, go_sem, q0, q1, q2, q3, q4, q5, q6, q7, q8, q9, q10]) rfl ⟨rfl, B9⟩
    | true =>
      have k0 : vc.cell? ⟨w.heap.size + 1, 0, none⟩ = some (.int .i64 n1) := (oc.cell 0).trans rfl
      have k1 : vc.cell? ⟨w.heap.size + 1, 1, none⟩ = some (.int .i64 l1) := (oc.cell 1).trans rfl
      have k2 : vc.cell? ⟨w.heap.size + 1, 2, none⟩ = some (.int .u64 S1) := (oc.cell 2).trans rfl
      have k3 : vc.cell? ⟨w.heap.size + 1, 3, none⟩ = some (.int .i64 i1) := (oc.cell 3).trans rfl
      have k4 : vc.cell? ⟨w.heap.size + 1, 4, none⟩ = some (.int .i64 l2) := (oc.cell 4).trans rfl
      have k5 : vc.cell? ⟨w.heap.size + 1, 5, none⟩ = some (.int .u64 S2) := (oc.cell 5).trans rfl
      have k6 : vc.cell? ⟨w.heap.size + 1, 6, none⟩ = some (.int .i64 i2) := (oc.cell 6).trans rfl
      have k7 : vc.cell? ⟨w.heap.size + 1, 7, none⟩ = some (.int .i64 n4) := (oc.cell 7).trans rfl
      have k8 : vc.cell? ⟨w.heap.size + 1, 8, none⟩ = some (.int .i64 fk) := (oc.cell 8).trans rfl
      have k9 : vc.cell? ⟨w.heap.size + 1, 9, none⟩ = some (.int .i64 fm) := (oc.cell 9).trans rfl
      have k10 : vc.cell? ⟨w.heap.size + 1, 10, none⟩ = some (.string ⟨ff.toArray⟩) := (oc.cell 10).trans rfl
      have HLx := HL rfl vc Bc
      go_wp2_with fail
      with_reducible refine HLx.mono ?_
      rintro e vd ⟨rfl, bd⟩
      have od := oc.below bd oc.lt
      have rd := rc.below bd rc.lt
      have Bd := Bc.trans (bd.mono Bc.size)
      clear k0 k1 k2 k3 k4 k5 k6 k7 k8 k9 k10
      have pf0 : vd.frozen? ⟨w.heap.size, 0, none⟩ = false := rd.frozen 0
      have px0 : vd.cell? ⟨w.heap.size, 0, none⟩ = some (.int .i64 0) := (rd.cell 0).trans rfl
      have pf1 : vd.frozen? ⟨w.heap.size, 1, none⟩ = false := rd.frozen 1
      have px1 : vd.cell? ⟨w.heap.size, 1, none⟩ = some (.int .i64 0) := (rd.cell 1).trans rfl
      have pf2 : vd.frozen? ⟨w.heap.size, 2, none⟩ = false := rd.frozen 2
      have px2 : vd.cell? ⟨w.heap.size, 2, none⟩ = some (.int .u64 0) := (rd.cell 2).trans rfl
      have pf3 : vd.frozen? ⟨w.heap.size, 3, none⟩ = false := rd.frozen 3
      have px3 : vd.cell? ⟨w.heap.size, 3, none⟩ = some (.int .i64 0) := (rd.cell 3).trans rfl
      have pf4 : vd.frozen? ⟨w.heap.size, 4, none⟩ = false := rd.frozen 4
      have px4 : vd.cell? ⟨w.heap.size, 4, none⟩ = some (.int .i64 0) := (rd.cell 4).trans rfl
      have pf5 : vd.frozen? ⟨w.heap.size, 5, none⟩ = false := rd.frozen 5
      have px5 : vd.cell? ⟨w.heap.size, 5, none⟩ = some (.int .u64 0) := (rd.cell 5).trans rfl
      have pf6 : vd.frozen? ⟨w.heap.size, 6, none⟩ = false := rd.frozen 6
      have px6 : vd.cell? ⟨w.heap.size, 6, none⟩ = some (.int .i64 0) := (rd.cell 6).trans rfl
      have pf7 : vd.frozen? ⟨w.heap.size, 7, none⟩ = false := rd.frozen 7
      have px7 : vd.cell? ⟨w.heap.size, 7, none⟩ = some (.int .i64 0) := (rd.cell 7).trans rfl
      have pf8 : vd.frozen? ⟨w.heap.size, 8, none⟩ = false := rd.frozen 8
      have px8 : vd.cell? ⟨w.heap.size, 8, none⟩ = some (.int .i64 0) := (rd.cell 8).trans rfl
      have pf9 : vd.frozen? ⟨w.heap.size, 9, none⟩ = false := rd.frozen 9
      have px9 : vd.cell? ⟨w.heap.size, 9, none⟩ = some (.int .i64 0) := (rd.cell 9).trans rfl
      have pf10 : vd.frozen? ⟨w.heap.size, 10, none⟩ = false := rd.frozen 10
      have px10 : vd.cell? ⟨w.heap.size, 10, none⟩ = some (.string ⟨#[]⟩) := (rd.cell 10).trans rfl
      by_cases hLX : LX = s ++ [10]
      · have hb : (LX == s ++ [10]) = true := by simpa using hLX
        try dsimp only
        have k0 : vd.cell? ⟨w.heap.size + 1, 0, none⟩ = some (.int .i64 n1) := (od.cell 0).trans rfl
        have k1 : vd.cell? ⟨w.heap.size + 1, 1, none⟩ = some (.int .i64 l1) := (od.cell 1).trans rfl
        have k2 : vd.cell? ⟨w.heap.size + 1, 2, none⟩ = some (.int .u64 S1) := (od.cell 2).trans rfl
        have k3 : vd.cell? ⟨w.heap.size + 1, 3, none⟩ = some (.int .i64 i1) := (od.cell 3).trans rfl
        have k4 : vd.cell? ⟨w.heap.size + 1, 4, none⟩ = some (.int .i64 l2) := (od.cell 4).trans rfl
        have k5 : vd.cell? ⟨w.heap.size + 1, 5, none⟩ = some (.int .u64 S2) := (od.cell 5).trans rfl
        have k6 : vd.cell? ⟨w.heap.size + 1, 6, none⟩ = some (.int .i64 i2) := (od.cell 6).trans rfl
        have k7 : vd.cell? ⟨w.heap.size + 1, 7, none⟩ = some (.int .i64 n4) := (od.cell 7).trans rfl
        have k8 : vd.cell? ⟨w.heap.size + 1, 8, none⟩ = some (.int .i64 fk) := (od.cell 8).trans rfl
        have k9 : vd.cell? ⟨w.heap.size + 1, 9, none⟩ = some (.int .i64 fm) := (od.cell 9).trans rfl
        have k10 : vd.cell? ⟨w.heap.size + 1, 10, none⟩ = some (.string ⟨ff.toArray⟩) := (od.cell 10).trans rfl
        go_wp2_with fail
        simp only [Exit.noGoto_ret]
        have r9 := (((((((((((rd.set 0 (.int .i64 n1)).set 1 (.int .i64 l1)).set 2 (.int .u64 S1)).set 3 (.int .i64 i1)).set 4 (.int .i64 l2)).set 5 (.int .u64 S2)).set 6 (.int .i64 i2)).set 7 (.int .i64 n4)).set 8 (.int .i64 fk)).set 9 (.int .i64 fm)).set 10 (.string ⟨ff.toArray⟩))
        have B9 := (((((((((((Bd.setCell (p := ⟨w.heap.size, 0, none⟩) (Nat.le_refl _) (.int .i64 n1)).setCell (p := ⟨w.heap.size, 1, none⟩) (Nat.le_refl _) (.int .i64 l1)).setCell (p := ⟨w.heap.size, 2, none⟩) (Nat.le_refl _) (.int .u64 S1)).setCell (p := ⟨w.heap.size, 3, none⟩) (Nat.le_refl _) (.int .i64 i1)).setCell (p := ⟨w.heap.size, 4, none⟩) (Nat.le_refl _) (.int .i64 l2)).setCell (p := ⟨w.heap.size, 5, none⟩) (Nat.le_refl _) (.int .u64 S2)).setCell (p := ⟨w.heap.size, 6, none⟩) (Nat.le_refl _) (.int .i64 i2)).setCell (p := ⟨w.heap.size, 7, none⟩) (Nat.le_refl _) (.int .i64 n4)).setCell (p := ⟨w.heap.size, 8, none⟩) (Nat.le_refl _) (.int .i64 fk)).setCell (p := ⟨w.heap.size, 9, none⟩) (Nat.le_refl _) (.int .i64 fm)).setCell (p := ⟨w.heap.size, 10, none⟩) (Nat.le_refl _) (.string ⟨ff.toArray⟩))
        simp only [List.setIfInBounds_toArray, List.set_cons_zero, List.set_cons_succ] at r9
        generalize ((((((((((vd.setCell ⟨w.heap.size, 0, none⟩ (.int .i64 n1)).setCell ⟨w.heap.size, 1, none⟩ (.int .i64 l1)).setCell ⟨w.heap.size, 2, none⟩ (.int .u64 S1)).setCell ⟨w.heap.size, 3, none⟩ (.int .i64 i1)).setCell ⟨w.heap.size, 4, none⟩ (.int .i64 l2)).setCell ⟨w.heap.size, 5, none⟩ (.int .u64 S2)).setCell ⟨w.heap.size, 6, none⟩ (.int .i64 i2)).setCell ⟨w.heap.size, 7, none⟩ (.int .i64 n4)).setCell ⟨w.heap.size, 8, none⟩ (.int .i64 fk)).setCell ⟨w.heap.size, 9, none⟩ (.int .i64 fm)).setCell ⟨w.heap.size, 10, none⟩ (.string ⟨ff.toArray⟩) = W9 at *
        have q0 : W9.cell? ⟨w.heap.size, 0, none⟩ = some (.int .i64 n1) := (r9.cell 0).trans rfl
        have q1 : W9.cell? ⟨w.heap.size, 1, none⟩ = some (.int .i64 l1) := (r9.cell 1).trans rfl
        have q2 : W9.cell? ⟨w.heap.size, 2, none⟩ = some (.int .u64 S1) := (r9.cell 2).trans rfl
        have q3 : W9.cell? ⟨w.heap.size, 3, none⟩ = some (.int .i64 i1) := (r9.cell 3).trans rfl
        have q4 : W9.cell? ⟨w.heap.size, 4, none⟩ = some (.int .i64 l2) := (r9.cell 4).trans rfl
        have q5 : W9.cell? ⟨w.heap.size, 5, none⟩ = some (.int .u64 S2) := (r9.cell 5).trans rfl
        have q6 : W9.cell? ⟨w.heap.size, 6, none⟩ = some (.int .i64 i2) := (r9.cell 6).trans rfl
        have q7 : W9.cell? ⟨w.heap.size, 7, none⟩ = some (.int .i64 n4) := (r9.cell 7).trans rfl
        have q8 : W9.cell? ⟨w.heap.size, 8, none⟩ = some (.int .i64 fk) := (r9.cell 8).trans rfl
        have q9 : W9.cell? ⟨w.heap.size, 9, none⟩ = some (.int .i64 fm) := (r9.cell 9).trans rfl
        have q10 : W9.cell? ⟨w.heap.size, 10, none⟩ = some (.string ⟨ff.toArray⟩) := (r9.cell 10).trans rfl
        exact bodyPost_ret (v := .tuple #[.agg #[.int .i64 n1, .int .i64 l1, .int .u64 S1, .int .i64 i1, .int .i64 l2, .int .u64 S2, .int .i64 i2, .int .i64 n4, .int .i64 fk, .int .i64 fm, .string ⟨ff.toArray⟩], .bool true]) (by simp [results, Tryz.results49, go_sem, q0, q1, q2, q3, q4, q5, q6, q7, q8, q9, q10]) rfl ⟨by rw [hb]; rfl, B9⟩
      · have hb : (LX == s ++ [10]) = false := by simpa using hLX
        try dsimp only
        go_wp2_with fail
        refine wp_label ?_
        go_wp2_with fail
        simp only [Exit.noGoto_ret]
        have r9 := (((((((((((rd.set 0 (.int .i64 0)).set 1 (.int .i64 0)).set 2 (.int .u64 0)).set 3 (.int .i64 0)).set 4 (.int .i64 0)).set 5 (.int .u64 0)).set 6 (.int .i64 0)).set 7 (.int .i64 0)).set 8 (.int .i64 0)).set 9 (.int .i64 0)).set 10 (.string ⟨#[]⟩))
        have B9 := (((((((((((Bd.setCell (p := ⟨w.heap.size, 0, none⟩) (Nat.le_refl _) (.int .i64 0)).setCell (p := ⟨w.heap.size, 1, none⟩) (Nat.le_refl _) (.int .i64 0)).setCell (p := ⟨w.heap.size, 2, none⟩) (Nat.le_refl _) (.int .u64 0)).setCell (p := ⟨w.heap.size, 3, none⟩) (Nat.le_refl _) (.int .i64 0)).setCell (p := ⟨w.heap.size, 4, none⟩) (Nat.le_refl _) (.int .i64 0)).setCell (p := ⟨w.heap.size, 5, none⟩) (Nat.le_refl _) (.int .u64 0)).setCell (p := ⟨w.heap.size, 6, none⟩) (Nat.le_refl _) (.int .i64 0)).setCell (p := ⟨w.heap.size, 7, none⟩) (Nat.le_refl _) (.int .i64 0)).setCell (p := ⟨w.heap.size, 8, none⟩) (Nat.le_refl _) (.int .i64 0)).setCell (p := ⟨w.heap.size, 9, none⟩) (Nat.le_refl _) (.int .i64 0)).setCell (p := ⟨w.heap.size, 10, none⟩) (Nat.le_refl _) (.string ⟨#[]⟩))
        simp only [List.setIfInBounds_toArray, List.set_cons_zero, List.set_cons_succ] at r9
        generalize ((((((((((vd.setCell ⟨w.heap.size, 0, none⟩ (.int .i64 0)).setCell ⟨w.heap.size, 1, none⟩ (.int .i64 0)).setCell ⟨w.heap.size, 2, none⟩ (.int .u64 0)).setCell ⟨w.heap.size, 3, none⟩ (.int .i64 0)).setCell ⟨w.heap.size, 4, none⟩ (.int .i64 0)).setCell ⟨w.heap.size, 5, none⟩ (.int .u64 0)).setCell ⟨w.heap.size, 6, none⟩ (.int .i64 0)).setCell ⟨w.heap.size, 7, none⟩ (.int .i64 0)).setCell ⟨w.heap.size, 8, none⟩ (.int .i64 0)).setCell ⟨w.heap.size, 9, none⟩ (.int .i64 0)).setCell ⟨w.heap.size, 10, none⟩ (.string ⟨#[]⟩) = W9 at *
        have q0 : W9.cell? ⟨w.heap.size, 0, none⟩ = some (.int .i64 0) := (r9.cell 0).trans rfl
        have q1 : W9.cell? ⟨w.heap.size, 1, none⟩ = some (.int .i64 0) := (r9.cell 1).trans rfl
        have q2 : W9.cell? ⟨w.heap.size, 2, none⟩ = some (.int .u64 0) := (r9.cell 2).trans rfl
        have q3 : W9.cell? ⟨w.heap.size, 3, none⟩ = some (.int .i64 0) := (r9.cell 3).trans rfl
        have q4 : W9.cell? ⟨w.heap.size, 4, none⟩ = some (.int .i64 0) := (r9.cell 4).trans rfl
        have q5 : W9.cell? ⟨w.heap.size, 5, none⟩ = some (.int .u64 0) := (r9.cell 5).trans rfl
        have q6 : W9.cell? ⟨w.heap.size, 6, none⟩ = some (.int .i64 0) := (r9.cell 6).trans rfl
        have q7 : W9.cell? ⟨w.heap.size, 7, none⟩ = some (.int .i64 0) := (r9.cell 7).trans rfl
        have q8 : W9.cell? ⟨w.heap.size, 8, none⟩ = some (.int .i64 0) := (r9.cell 8).trans rfl
        have q9 : W9.cell? ⟨w.heap.size, 9, none⟩ = some (.int .i64 0) := (r9.cell 9).trans rfl
        have q10 : W9.cell? ⟨w.heap.size, 10, none⟩ = some (.string ⟨#[]⟩) := (r9.cell 10).trans rfl
        exact bodyPost_ret (v := .tuple #[.agg #[.int .i64 0, .int .i64 0, .int .u64 0, .int .i64 0, .int .i64 0, .int .u64 0, .int .i64 0, .int .i64 0, .int .i64 0, .int .i64 0, .string ⟨#[]⟩], .bool false]) (by simp [results, Tryz.results49, go_sem, q0, q1, q2, q3, q4, q5, q6, q7, q8, q9, q10]) rfl ⟨by rw [hb]; rfl, B9⟩
end Go.Proofs.YtmmdpjliknmhgaaGreatDoor
/- Appending to a slice that is full: a row of its own. On no program. -/
namespace Go.Proofs.YtmmdpjliknmhgaaGreatDoor
open Go.RowKit
/-- l[:n:n] -/
theorem sliced_full (a : Option Addr) (n s : Nat) {k : Nat} {W : World} {cap : Nat} {cs : List Value} (h : SlR k W (.slice a n cap) n cs) : sliced a 0 n n s = .slice a n n := by
  rcases Nat.eq_zero_or_pos n with rfl | h0
  · simp [sliced]
  · obtain ⟨b, o, c, e, -⟩ := SlR.pos h h0
    injection e with e
    subst e
    have : (⟨b, o, none⟩ : Addr).add 0 = ⟨b, o, none⟩ := Addr.add_lit b o 0
    simp [sliced, this]
theorem SlR.full {k : Nat} {W : World} {a : Option Addr} {n cap : Nat} {cs : List Value} (h : SlR k W (.slice a n cap) n cs) : SlR k W (.slice a n n) n cs := by
  obtain ⟨h1, a', cap', e, h3, h4⟩ := h
  injection e with e
  subst e
  exact ⟨h1, a, n, rfl, Nat.le_refl _, h4⟩
theorem run_append3 {P : Program} {w : World} {size bytes n : Nat} {a : Option Addr} {olds : List Value} (t ty e : TypeId) (i : TypeInfo) (z : Value) (ht : P.underlying t = some (.slice e)) (hi : P.info? e = some i) (hz : i.zero = some z)
    (hs : i.size = size) (hby : i.bytes = bytes) (hb : bytes ≤ 1000) (hn : n ≤ 1000000) (hS : SlR size w (.slice a n n) n olds) (ad : Addr) (c : Nat) (news : List Value) (hl : news.length = size) (hnews : ∀ j u, news[j]? = some u → w.cell? (ad.add j) = some u) :
    ∃ a' c' w', (Builtin.append_ #[t, t] ty #[.slice a n n, .slice (some ad) 1 c]).run P w = .ok (.slice a' (n + 1) c') w' ∧ Below w.heap.size w w' ∧ SlR size w' (.slice a' (n + 1) c') (n + 1) (olds ++ news) := by
  subst hs hby
  have hlo : olds.length = n * i.size := hS.1
  have hbb : (n + 1) * i.bytes ≤ 140737488355328 := by
    have : (n + 1) * i.bytes ≤ 1000001 * 1000 := Nat.mul_le_mul (by omega) hb
    omega
  have fin : ∀ (cap : Nat) (arr : Array Value), n + 1 ≤ cap → (∃ zs : Array Value, arr = olds.toArray ++ news.toArray ++ zs) → Below w.heap.size w (w.drew.alloc (.cells arr e)) ∧ SlR i.size (w.drew.alloc (.cells arr e)) (.slice (some ⟨w.heap.size, 0, none⟩) (n + 1) cap) (n + 1) (olds ++ news) := by
    rintro cap arr hcap ⟨zs, rfl⟩
    refine ⟨((Below.refl _ w).drew).alloc (Nat.le_refl _) _, ?_, _, _, rfl, hcap, .inr ⟨w.heap.size, 0, rfl, ?_, fun j hj => ?_⟩⟩
    · rw [List.length_append, hlo, hl, Nat.add_mul]; omega
    · rw [World.size_alloc]; exact Nat.lt_succ_self _
    · have hb := Blk.new w.drew (olds.toArray ++ news.toArray ++ zs) e
      have := hb.cell j
      have e2 : (olds.toArray ++ news.toArray ++ zs)[j]? = some (olds ++ news)[j] := by
        have : olds.toArray ++ news.toArray = (olds ++ news).toArray := by simp
        rw [this, Array.getElem?_append_left (by simpa using hj)]
        simp only [List.getElem?_toArray]
        exact List.getElem?_eq_getElem hj
      rw [Nat.zero_add]
      exact this.trans e2
  cases a with
  | none =>
    have h0 : n = 0 := by
      rcases Nat.eq_zero_or_pos n with h | h
      · exact h
      · obtain ⟨b, o, c, e, -⟩ := SlR.pos hS h
        injection e with e; cases e
    subst h0
    have hol : olds = [] := List.eq_nil_of_length_eq_zero (by simpa using hlo)
    subst hol
    have hr := run_append_nil (P := P) (w := w) t ty e i z ht hi hz ad 1 c news (by simpa using hl) hnews (by omega) (by omega) (by omega)
    exact ⟨_, _, _, hr, fin _ _ (grownCap_ge _ _ _ _) ⟨_, by simp; rfl⟩⟩
  | some b =>
    have hol : ∀ j v, olds[j]? = some v → w.cell? (b.add j) = some v := by
      intro j v hj
      rcases Nat.eq_zero_or_pos n with h | h
      · subst h
        have : olds = [] := List.eq_nil_of_length_eq_zero (by simpa using hlo)
        subst this; simp at hj
      · obtain ⟨b', o, c, e, -, -, hc⟩ := SlR.pos hS h
        injection e with e
        injection e with e
        subst e
        obtain ⟨hlt, rfl⟩ := List.getElem?_eq_some_iff.1 hj
        rw [Addr.add_lit]
        exact hc j hlt
    have hr := run_append_grow (P := P) (w := w) t ty e i z ht hi hz b n n olds hlo hol ad 1 c news (by simpa using hl) hnews (by omega) (by omega) (growslice_fits (by omega) hbb)
    exact ⟨_, _, _, hr, fin _ _ (grownCap_ge _ _ _ _) ⟨_, rfl⟩⟩
theorem ruBlk_srcs {W : World} {b : Nat} {cs : Array Value} {t : TypeId} (h : Blk W b cs t) : ∀ j u, cs.toList[j]? = some u → W.cell? ((⟨b, 0, none⟩ : Addr).add j) = some u := fun j u hu => by
  rw [Addr.add_lit, Nat.zero_add, h.cell, ← Array.getElem?_toList]; exact hu
end Go.Proofs.YtmmdpjliknmhgaaGreatDoor
