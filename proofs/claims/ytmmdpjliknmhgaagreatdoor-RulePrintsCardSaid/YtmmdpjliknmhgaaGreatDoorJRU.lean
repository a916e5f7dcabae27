/- Joined: RqG -/
import Derived.Test.YtmmdpjliknmhgaaGreatDoorJRS
import Derived.Test.YtmmdpjliknmhgaaGreatDoorJRT
import Derived.Test.YtmmdpjliknmhgaaGreatDoorJRI
/- Walks of the reference, layer 14: read. -/
namespace Go.Proofs.YtmmdpjliknmhgaaGreatDoor
open Go.RowKit Go.Shelf
attribute [local go_sem] Oper.semAt_some
theorem wordP_cutL : ∀ s : List UInt8, wordP s = ((cutL 32 s).1, (cutL 32 s).2.1)
  | [] => by simp [wordP, cutB, cutL]
  | c :: r => by
    have ih := wordP_cutL r
    unfold wordP at ih ⊢
    rw [cutL_step]
    by_cases h : c = 32
    · subst h; simp [cutB]
    · rw [if_neg h]
      simp only [cutB, if_neg h]
      cases e : cutB r with
      | none => rw [e] at ih; simp only [Option.map_none] at ih ⊢; rw [Prod.mk.injEq] at ih; rw [← ih.1, ← ih.2]
      | some p => rw [e] at ih; simp only [Option.map_some] at ih ⊢; rw [ih]
theorem cutL_lens (c : UInt8) : ∀ s : List UInt8, (cutL c s).1.length ≤ s.length ∧ (cutL c s).2.1.length ≤ s.length
  | [] => by simp [cutL]
  | d :: r => by
    obtain ⟨h1, h2⟩ := cutL_lens c r
    rw [cutL_step]
    split
    · simp
    · simp only [List.length_cons]; omega
set_option maxRecDepth 100000 in
set_option maxHeartbeats 8000000 in
theorem ruReadR_any (s : List UInt8) (hs : s.length ≤ 1000) (w : World) :
    Calls Tryz.prog 33 #[.string ⟨s.toArray⟩] w fun e w' => e = .returned (.tuple #[ruV (ruleR labK filK s), .bool (okR labK filK s)]) ∧ Below w.heap.size w w' := by
  have HW0 := fun W => ruWord_any 32 32 rfl s (by omega) W
  have g0 := cutL_lens 32 s
  have e1 : rest1 s = (cutL 32 s).2.1 := by unfold rest1; rw [wordP_cutL]
  have e2 : rest2 s = (cutL 32 (rest1 s)).2.1 := by unfold rest2; rw [wordP_cutL]
  have e3 : rest3 s = (cutL 32 (rest2 s)).2.1 := by unfold rest3; rw [wordP_cutL]
  have e4 : rest4 s = (cutL 32 (rest3 s)).2.1 := by unfold rest4; rw [wordP_cutL]
  have eR : ruleR labK filK s = ⟨numW 10000 0 (cutL 32 (rest1 s)).1, parL (cutL 32 (rest2 s)).1, parL (cutL 32 (rest3 s)).1, numW 10000 0 (cutL 32 (rest4 s)).1, (parK (cutL 32 (rest4 s)).2.1, parM (cutL 32 (rest4 s)).2.1, parF (cutL 32 (rest4 s)).2.1)⟩ := by
    unfold ruleR ruleX
    rw [wordP_cutL (rest1 s), wordP_cutL (rest2 s), wordP_cutL (rest3 s), wordP_cutL (rest4 s)]
    rfl
  have eO : okR labK filK s = (isRX labK filK (ruleR labK filK s) && (lineX labK filK (ruleR labK filK s) == s ++ [10])) := rfl
  rw [eO, eR]
  rw [← e1] at HW0 g0
  generalize rest1 s = q1 at *
  have HW1 := fun W => ruWord_any 32 32 rfl q1 (by omega) W
  have g1 := cutL_lens 32 q1
  rw [← e2] at HW1 g1
  generalize rest2 s = q2 at *
  have HW2 := fun W => ruWord_any 32 32 rfl q2 (by omega) W
  have g2 := cutL_lens 32 q2
  rw [← e3] at HW2 g2
  generalize rest3 s = q3 at *
  have HW3 := fun W => ruWord_any 32 32 rfl q3 (by omega) W
  have g3 := cutL_lens 32 q3
  rw [← e4] at HW3 g3
  generalize rest4 s = q4 at *
  have HW4 := fun W => ruWord_any 32 32 rfl q4 (by omega) W
  have g4 := cutL_lens 32 q4
  generalize (cutL 32 s).1 = I0 at *
  generalize (cutL 32 q1).1 = I1 at *
  generalize (cutL 32 q2).1 = I2 at *
  generalize (cutL 32 q3).1 = I3 at *
  generalize (cutL 32 q4).1 = I4 at *
  generalize (cutL 32 q4).2.1 = I5 at *
  have HN1 := fun W => ruNumR_any I1 (by omega) W
  have HN4 := fun W => ruNumR_any I4 (by omega) W
  have HP2 := fun W => parseR_any I2 (by omega) W
  have HP3 := fun W => parseR_any I3 (by omega) W
  have HP5 := fun W => fparseR_any I5 (by omega) W
  have hl2 := parL_lt I2
  have hl3 := parL_lt I3
  have hl5 := parF_len I5
  clear e1 e2 e3 e4 eR eO g0 g1 g2 g3 g4
  generalize numW 10000 0 I1 = n1 at *
  generalize numW 10000 0 I4 = n4 at *
  generalize parL I2 = a2 at *
  generalize parL I3 = a3 at *
  generalize parK I5 = fk at *
  generalize parM I5 = fm at *
  generalize parF I5 = ff at *
  generalize parAt I2 = y1 at *
  generalize parAt I3 = y2 at *
  generalize parE I2 = y3 at *
  generalize parE I3 = y4 at *
  generalize fparE I5 = y5 at *
  obtain ⟨l1, S1, i1⟩ := a2
  obtain ⟨l2, S2, i2⟩ := a3
  try dsimp only [labA] at *
  have hok : OkQ ⟨n1, (l1, S1, i1), (l2, S2, i2), n4, (fk, fm, ff)⟩ := ⟨hl2, hl3, hl5⟩
  have HI := fun W => ruIs_any ⟨n1, (l1, S1, i1), (l2, S2, i2), n4, (fk, fm, ff)⟩ hok W
  have HL := fun hi W => ruLineR_any ⟨n1, (l1, S1, i1), (l2, S2, i2), n4, (fk, fm, ff)⟩ hok hi W
  have hzs : ¬ (9223372036854775807 < s.length + 1) := by omega
  have hz0 := ba_size s
  generalize isRX labK filK ⟨n1, (l1, S1, i1), (l2, S2, i2), n4, (fk, fm, ff)⟩ = ir at *
  generalize lineX labK filK ⟨n1, (l1, S1, i1), (l2, S2, i2), n4, (fk, fm, ff)⟩ = LX at *
  try dsimp only at *
  clear hok hl2 hl3 hl5
  have B0 := (Below.refl _ w).alloc (Nat.le_refl _) (.cells #[.int .i64 0, .int .i64 0, .int .u64 0, .int .i64 0, .int .i64 0, .int .u64 0, .int .i64 0, .int .i64 0, .int .i64 0, .int .i64 0, .string ⟨#[]⟩] 40)
  have r0 := Blk.new w #[.int .i64 0, .int .i64 0, .int .u64 0, .int .i64 0, .int .i64 0, .int .u64 0, .int .i64 0, .int .i64 0, .int .i64 0, .int .i64 0, .string ⟨#[]⟩] 40
  go_enter Tryz.func33, Tryz.ntmps33
  go_wp2_with fail
  generalize w.alloc (.cells #[.int .i64 0, .int .i64 0, .int .u64 0, .int .i64 0, .int .i64 0, .int .u64 0, .int .i64 0, .int .i64 0, .int .i64 0, .int .i64 0, .string ⟨#[]⟩] 40) = w0 at *
  with_reducible refine (HW0 _).mono ?_
  rintro e w1 ⟨rfl, b1⟩
  have B1 := B0.trans (b1.mono B0.size)
  have r1 := r0.below b1 r0.lt
  clear HW0 b1
  go_wp2_with fail
  with_reducible refine (HW1 _).mono ?_
  rintro e w2 ⟨rfl, b2⟩
  have B2 := B1.trans (b2.mono B1.size)
  have r2 := r1.below b2 r1.lt
  clear HW1 b2
  go_wp2_with fail
  with_reducible refine (HW2 _).mono ?_
  rintro e w3 ⟨rfl, b3⟩
  have B3 := B2.trans (b3.mono B2.size)
  have r3 := r2.below b3 r2.lt
  clear HW2 b3
  go_wp2_with fail
  with_reducible refine (HW3 _).mono ?_
  rintro e w4 ⟨rfl, b4⟩
  have B4 := B3.trans (b4.mono B3.size)
  have r4 := r3.below b4 r3.lt
  clear HW3 b4
  go_wp2_with fail
  with_reducible refine (HW4 _).mono ?_
  rintro e w5 ⟨rfl, b5⟩
  have B5 := B4.trans (b5.mono B4.size)
  have r5 := r4.below b5 r4.lt
  clear HW4 b5
  go_wp2_with fail
  with_reducible refine (HP2 _).mono ?_
  rintro e w6 ⟨rfl, b6⟩
  have B6 := B5.trans (b6.mono B5.size)
  have r6 := r5.below b6 r5.lt
  go_wp2_with fail
  have D6 := B6.alloc B6.size (.cells #[.int .i64 l1, .int .u64 S1, .int .i64 i1] 36)
  have n6 := Blk.new w6 #[.int .i64 l1, .int .u64 S1, .int .i64 i1] 36
  have bb6 := (Below.refl _ w6).alloc (Nat.le_refl _) (.cells #[.int .i64 l1, .int .u64 S1, .int .i64 i1] 36)
  generalize w6.alloc (.cells #[.int .i64 l1, .int .u64 S1, .int .i64 i1] 36) = W6 at *
  have r6x := r6.below bb6 r6.lt
  generalize w6.heap.size = x1 at *
  with_reducible refine (HP3 _).mono ?_
  rintro e w7 ⟨rfl, b7⟩
  have B7 := D6.trans (b7.mono D6.size)
  have r7 := r6x.below b7 r6x.lt
  have m1 := n6.below b7 n6.lt
  go_wp2_with fail
  have D7 := B7.alloc B7.size (.cells #[.int .i64 l2, .int .u64 S2, .int .i64 i2] 36)
  have n7 := Blk.new w7 #[.int .i64 l2, .int .u64 S2, .int .i64 i2] 36
  have bb7 := (Below.refl _ w7).alloc (Nat.le_refl _) (.cells #[.int .i64 l2, .int .u64 S2, .int .i64 i2] 36)
  generalize w7.alloc (.cells #[.int .i64 l2, .int .u64 S2, .int .i64 i2] 36) = W7 at *
  have r7x := r7.below bb7 r7.lt
  have m1x := m1.below bb7 m1.lt
  generalize w7.heap.size = x2 at *
  with_reducible refine (HP5 _).mono ?_
  rintro e w8 ⟨rfl, b8⟩
  have B8 := D7.trans (b8.mono D7.size)
  have r8 := r7x.below b8 r7x.lt
  have m1 := m1x.below b8 m1x.lt
  have m2 := n7.below b8 n7.lt
  clear HP2 HP3 HP5
  go_upto_region 9 with fail
  have D8 := B8.alloc B8.size (.cells #[.int .i64 fk, .int .i64 fm, .string ⟨ff.toArray⟩] 38)
  have n8 := Blk.new w8 #[.int .i64 fk, .int .i64 fm, .string ⟨ff.toArray⟩] 38
  have bb8 := (Below.refl _ w8).alloc (Nat.le_refl _) (.cells #[.int .i64 fk, .int .i64 fm, .string ⟨ff.toArray⟩] 38)
  generalize w8.alloc (.cells #[.int .i64 fk, .int .i64 fm, .string ⟨ff.toArray⟩] 38) = W8 at *
  have r8x := r8.below bb8 r8.lt
  have m1x := m1.below bb8 m1.lt
  have m2x := m2.below bb8 m2.lt
  generalize w8.heap.size = x3 at *
  have sS : ∀ u, Below W8.heap.size W8 u →  (u.cell? ⟨x1, 0, none⟩ = some (.int .i64 l1) ∧ u.cell? ⟨x1, 1, none⟩ = some (.int .u64 S1) ∧ u.cell? ⟨x1, 2, none⟩ = some (.int .i64 i1)) ∧ (u.cell? ⟨x2, 0, none⟩ = some (.int .i64 l2) ∧ u.cell? ⟨x2, 1, none⟩ = some (.int .u64 S2) ∧ u.cell? ⟨x2, 2, none⟩ = some (.int .i64 i2)) ∧ (u.cell? ⟨x3, 0, none⟩ = some (.int .i64 fk) ∧ u.cell? ⟨x3, 1, none⟩ = some (.int .i64 fm) ∧ u.cell? ⟨x3, 2, none⟩ = some (.string ⟨ff.toArray⟩)) := fun u h => ⟨⟨((m1x.below h m1x.lt).cell 0).trans rfl, ((m1x.below h m1x.lt).cell 1).trans rfl, ((m1x.below h m1x.lt).cell 2).trans rfl⟩, ⟨((m2x.below h m2x.lt).cell 0).trans rfl, ((m2x.below h m2x.lt).cell 1).trans rfl, ((m2x.below h m2x.lt).cell 2).trans rfl⟩, ⟨((n8.below h n8.lt).cell 0).trans rfl, ((n8.below h n8.lt).cell 1).trans rfl, ((n8.below h n8.lt).cell 2).trans rfl⟩⟩
  have SS := Lib.hid sS
  have hS := sS _ (Below.refl W8.heap.size W8).drew
  have bSa := (Below.refl W8.heap.size W8).drew.alloc (by exact Nat.le_refl _) (.cells #[.int .i64 0, .int .i64 0, .int .u64 0, .int .i64 0, .int .i64 0, .int .u64 0, .int .i64 0, .int .i64 0, .int .i64 0, .int .i64 0, .string ⟨#[]⟩] 40)
  have nA := Blk.new W8.drew #[.int .i64 0, .int .i64 0, .int .u64 0, .int .i64 0, .int .i64 0, .int .u64 0, .int .i64 0, .int .i64 0, .int .i64 0, .int .i64 0, .string ⟨#[]⟩] 40
  obtain ⟨Wa, hWa⟩ : ∃ Wa, W8.drew.alloc (.cells #[.int .i64 0, .int .i64 0, .int .u64 0, .int .i64 0, .int .i64 0, .int .u64 0, .int .i64 0, .int .i64 0, .int .i64 0, .int .i64 0, .string ⟨#[]⟩] 40) = Wa := ⟨_, rfl⟩
  rw [hWa] at bSa nA
  have hSa := sS _ bSa
  have nA' : Blk Wa W8.heap.size #[.int .i64 0, .int .i64 0, .int .u64 0, .int .i64 0, .int .i64 0, .int .u64 0, .int .i64 0, .int .i64 0, .int .i64 0, .int .i64 0, .string ⟨#[]⟩] 40 := nA
  clear sS nA r0 r1 r2 r3 r4 r5 r6 r6x r7 r7x r8 m1 m1x m2 m2x n6 n7 n8 bb6 bb7 bb8 B0 B1 B2 B3 B4 B5 B6 B7 B8 D6 D7
  have r8y := r8x
  go_cut [19] (fun x19 wx => ∃ xb, x19 = .pointer (some ⟨xb, 0, none⟩) ∧ Blk wx xb #[.int .i64 n1, .int .i64 l1, .int .u64 S1, .int .i64 i1, .int .i64 l2, .int .u64 S2, .int .i64 i2, .int .i64 n4, .int .i64 fk, .int .i64 fm, .string ⟨ff.toArray⟩] 40 ∧ Blk wx w.heap.size #[.int .i64 0, .int .i64 0, .int .u64 0, .int .i64 0, .int .i64 0, .int .u64 0, .int .i64 0, .int .i64 0, .int .i64 0, .int .i64 0, .string ⟨#[]⟩] 40 ∧ Below w.heap.size w wx ∧ xb ≠ w.heap.size)
  case first =>
    refine wp_region_noPanic ?_
    refine wp_region_held_drew (S := (fun u => (u.cell? ⟨x1, 0, none⟩ = some (.int .i64 l1) ∧ u.cell? ⟨x1, 1, none⟩ = some (.int .u64 S1) ∧ u.cell? ⟨x1, 2, none⟩ = some (.int .i64 i1)) ∧ (u.cell? ⟨x2, 0, none⟩ = some (.int .i64 l2) ∧ u.cell? ⟨x2, 1, none⟩ = some (.int .u64 S2) ∧ u.cell? ⟨x2, 2, none⟩ = some (.int .i64 i2)) ∧ (u.cell? ⟨x3, 0, none⟩ = some (.int .i64 fk) ∧ u.cell? ⟨x3, 1, none⟩ = some (.int .i64 fm) ∧ u.cell? ⟨x3, 2, none⟩ = some (.string ⟨ff.toArray⟩)))) (by kernel_rfl) ?_ (fun hHeld => ?_)
    · exact hS
    refine wpAnyH_take (i := 0) (oi := _) (v := ?_) (nth_at rfl) (by kernel_rfl) (by kernel_rfl) (by kernel_rfl) (fun _ _ _ h => h) (Or.inl ⟨by rfl, ?_⟩) (by assumption) ?_
    rotate_left 1
    · intro w hSw; (try dsimp only at hSw); (go_simp <;> with_reducible rfl)
    try simp only [Act.put, List.setIfInBounds_toArray, List.set_cons_zero, List.set_cons_succ]
    refine wpAnyH_take (i := 2) (oi := _) (v := ?_) (nth_at rfl) (by kernel_rfl) (by kernel_rfl) (by kernel_rfl) (fun _ _ _ h => h) (Or.inl ⟨by rfl, ?_⟩) (by assumption) ?_
    rotate_left 1
    · intro w hSw; (try dsimp only at hSw); (go_simp <;> with_reducible rfl)
    try simp only [Act.put, List.setIfInBounds_toArray, List.set_cons_zero, List.set_cons_succ]
    refine wpAnyH_take (i := 3) (oi := _) (v := ?_) (nth_at rfl) (by kernel_rfl) (by kernel_rfl) (by kernel_rfl) (fun _ _ _ h => h) (Or.inl ⟨by rfl, ?_⟩) (by assumption) ?_
    rotate_left 1
    · intro w hSw; (try dsimp only at hSw); (go_simp <;> with_reducible rfl)
    try simp only [Act.put, List.setIfInBounds_toArray, List.set_cons_zero, List.set_cons_succ]
    refine wpAnyH_take (i := 4) (oi := _) (v := ?_) (nth_at rfl) (by kernel_rfl) (by kernel_rfl) (by kernel_rfl) (fun _ _ _ h => h) (Or.inl ⟨by rfl, ?_⟩) (by assumption) ?_
    rotate_left 1
    · intro w hSw; (try dsimp only at hSw); (go_simp <;> with_reducible rfl)
    try simp only [Act.put, List.setIfInBounds_toArray, List.set_cons_zero, List.set_cons_succ]
    refine wpAnyH_take (i := 6) (oi := _) (v := ?_) (nth_at rfl) (by kernel_rfl) (by kernel_rfl) (by kernel_rfl) (fun _ _ _ h => h) (Or.inl ⟨by rfl, ?_⟩) (by assumption) ?_
    rotate_left 1
    · intro w hSw; (try dsimp only at hSw); (go_simp <;> with_reducible rfl)
    try simp only [Act.put, List.setIfInBounds_toArray, List.set_cons_zero, List.set_cons_succ]
    refine wpAnyH_ready (rs := [1, 8]) (by kernel_rfl) (by simp) ?_
    refine AllReadyH.cons (o := _) (nth_at rfl) (fun K hK => ?_) ?_
    · go_simp
      with_reducible refine (HN1 _).mono ?_
      rintro e w' ⟨rfl, rfl⟩
      try clear hHeld
      refine hK.out _ _ ?_ (fun hHeld => ?_)
      · exact hS
      clear hK K
      try simp only [Act.put, List.setIfInBounds_toArray, List.set_cons_zero, List.set_cons_succ]
      refine wpAnyH_ready (rs := [5, 8]) (by kernel_rfl) (by simp) ?_
      refine AllReadyH.cons (o := _) (nth_at rfl) (fun K hK => ?_) ?_
      · go_simp
        with_reducible refine (HN4 _).mono ?_
        rintro e w' ⟨rfl, rfl⟩
        try clear hHeld
        refine hK.out _ _ ?_ (fun hHeld => ?_)
        · exact hS
        clear hK K
        try simp only [Act.put, List.setIfInBounds_toArray, List.set_cons_zero, List.set_cons_succ]
        refine wpAnyH_take (i := 7) (oi := _) (v := ?_) (nth_at rfl) (by kernel_rfl) (by kernel_rfl) (by kernel_rfl) (fun _ _ _ h => h) (Or.inl ⟨by rfl, ?_⟩) (by assumption) ?_
        rotate_left 1
        · intro w hSw; (try dsimp only at hSw); (go_simp <;> with_reducible rfl)
        try simp only [Act.put, List.setIfInBounds_toArray, List.set_cons_zero, List.set_cons_succ]
        refine wpAnyH_ready (rs := [8]) (by kernel_rfl) (by simp) ?_
        refine AllReadyH.cons (o := _) (nth_at rfl) (fun K hK => ?_) AllReadyH.nil
        go_simp
        try rw [hWa]
        have f0 : Wa.frozen? ⟨W8.heap.size, 0, none⟩ = false := nA'.frozen 0
        have f1 : Wa.frozen? ⟨W8.heap.size, 1, none⟩ = false := nA'.frozen 1
        have f2 : Wa.frozen? ⟨W8.heap.size, 2, none⟩ = false := nA'.frozen 2
        have f3 : Wa.frozen? ⟨W8.heap.size, 3, none⟩ = false := nA'.frozen 3
        have f4 : Wa.frozen? ⟨W8.heap.size, 4, none⟩ = false := nA'.frozen 4
        have f5 : Wa.frozen? ⟨W8.heap.size, 5, none⟩ = false := nA'.frozen 5
        have f6 : Wa.frozen? ⟨W8.heap.size, 6, none⟩ = false := nA'.frozen 6
        have f7 : Wa.frozen? ⟨W8.heap.size, 7, none⟩ = false := nA'.frozen 7
        have f8 : Wa.frozen? ⟨W8.heap.size, 8, none⟩ = false := nA'.frozen 8
        have f9 : Wa.frozen? ⟨W8.heap.size, 9, none⟩ = false := nA'.frozen 9
        have f10 : Wa.frozen? ⟨W8.heap.size, 10, none⟩ = false := nA'.frozen 10
        have z0 : Wa.cell? ⟨W8.heap.size, 0, none⟩ = some (.int .i64 0) := (nA'.cell 0).trans rfl
        have z1 : Wa.cell? ⟨W8.heap.size, 1, none⟩ = some (.int .i64 0) := (nA'.cell 1).trans rfl
        have z2 : Wa.cell? ⟨W8.heap.size, 2, none⟩ = some (.int .u64 0) := (nA'.cell 2).trans rfl
        have z3 : Wa.cell? ⟨W8.heap.size, 3, none⟩ = some (.int .i64 0) := (nA'.cell 3).trans rfl
        have z4 : Wa.cell? ⟨W8.heap.size, 4, none⟩ = some (.int .i64 0) := (nA'.cell 4).trans rfl
        have z5 : Wa.cell? ⟨W8.heap.size, 5, none⟩ = some (.int .u64 0) := (nA'.cell 5).trans rfl
        have z6 : Wa.cell? ⟨W8.heap.size, 6, none⟩ = some (.int .i64 0) := (nA'.cell 6).trans rfl
        have z7 : Wa.cell? ⟨W8.heap.size, 7, none⟩ = some (.int .i64 0) := (nA'.cell 7).trans rfl
        have z8 : Wa.cell? ⟨W8.heap.size, 8, none⟩ = some (.int .i64 0) := (nA'.cell 8).trans rfl
        have z9 : Wa.cell? ⟨W8.heap.size, 9, none⟩ = some (.int .i64 0) := (nA'.cell 9).trans rfl
        have z10 : Wa.cell? ⟨W8.heap.size, 10, none⟩ = some (.string ⟨#[]⟩) := (nA'.cell 10).trans rfl
        try clear hHeld
        refine hK.out _ _ ?_ (fun hHeld => ?_)
        · exact hSa
        clear hK K
        try simp only [Act.put, List.setIfInBounds_toArray, List.set_cons_zero, List.set_cons_succ]
        refine wpAnyH_ready (rs := [9]) (by kernel_rfl) (by simp) ?_
        refine AllReadyH.cons (o := _) (nth_at rfl) (fun K hK => ?_) AllReadyH.nil
        go_simp
        have r9 := (((((((((((nA'.set 0 (.int .i64 n1)).set 1 (.int .i64 l1)).set 2 (.int .u64 S1)).set 3 (.int .i64 i1)).set 4 (.int .i64 l2)).set 5 (.int .u64 S2)).set 6 (.int .i64 i2)).set 7 (.int .i64 n4)).set 8 (.int .i64 fk)).set 9 (.int .i64 fm)).set 10 (.string ⟨ff.toArray⟩))
        have bS9 := (((((((((((bSa.setCell (p := ⟨W8.heap.size, 0, none⟩) (Nat.le_refl _) (.int .i64 n1)).setCell (p := ⟨W8.heap.size, 1, none⟩) (Nat.le_refl _) (.int .i64 l1)).setCell (p := ⟨W8.heap.size, 2, none⟩) (Nat.le_refl _) (.int .u64 S1)).setCell (p := ⟨W8.heap.size, 3, none⟩) (Nat.le_refl _) (.int .i64 i1)).setCell (p := ⟨W8.heap.size, 4, none⟩) (Nat.le_refl _) (.int .i64 l2)).setCell (p := ⟨W8.heap.size, 5, none⟩) (Nat.le_refl _) (.int .u64 S2)).setCell (p := ⟨W8.heap.size, 6, none⟩) (Nat.le_refl _) (.int .i64 i2)).setCell (p := ⟨W8.heap.size, 7, none⟩) (Nat.le_refl _) (.int .i64 n4)).setCell (p := ⟨W8.heap.size, 8, none⟩) (Nat.le_refl _) (.int .i64 fk)).setCell (p := ⟨W8.heap.size, 9, none⟩) (Nat.le_refl _) (.int .i64 fm)).setCell (p := ⟨W8.heap.size, 10, none⟩) (Nat.le_refl _) (.string ⟨ff.toArray⟩))
        simp only [List.setIfInBounds_toArray, List.set_cons_zero, List.set_cons_succ] at r9
        generalize (((((((((((Wa.setCell ⟨W8.heap.size, 0, none⟩ (.int .i64 n1)).setCell ⟨W8.heap.size, 1, none⟩ (.int .i64 l1)).setCell ⟨W8.heap.size, 2, none⟩ (.int .u64 S1)).setCell ⟨W8.heap.size, 3, none⟩ (.int .i64 i1)).setCell ⟨W8.heap.size, 4, none⟩ (.int .i64 l2)).setCell ⟨W8.heap.size, 5, none⟩ (.int .u64 S2)).setCell ⟨W8.heap.size, 6, none⟩ (.int .i64 i2)).setCell ⟨W8.heap.size, 7, none⟩ (.int .i64 n4)).setCell ⟨W8.heap.size, 8, none⟩ (.int .i64 fk)).setCell ⟨W8.heap.size, 9, none⟩ (.int .i64 fm)).setCell ⟨W8.heap.size, 10, none⟩ (.string ⟨ff.toArray⟩)) = W9 at *
        have hS9 := SS.out _ bS9
        try clear hHeld
        refine hK.out _ _ ?_ (fun hHeld => ?_)
        · exact hS9
        clear hK K
        try simp only [Act.put, List.setIfInBounds_toArray, List.set_cons_zero, List.set_cons_succ]
        refine wpAnyH_done (by kernel_rfl) ?_ _
        refine NoPanic.normal ?_
        try clear hHeld
        go_wp2_with fail
        go_meet
        exact ⟨_, rfl, r9, r8y.below bS9 r8y.lt, D8.trans (bS9.mono D8.size), Nat.ne_of_gt r8y.lt⟩
      refine AllReadyH.cons (o := _) (nth_at rfl) (fun K hK => ?_) AllReadyH.nil
      go_simp
      try rw [hWa]
      have f0 : Wa.frozen? ⟨W8.heap.size, 0, none⟩ = false := nA'.frozen 0
      have f1 : Wa.frozen? ⟨W8.heap.size, 1, none⟩ = false := nA'.frozen 1
      have f2 : Wa.frozen? ⟨W8.heap.size, 2, none⟩ = false := nA'.frozen 2
      have f3 : Wa.frozen? ⟨W8.heap.size, 3, none⟩ = false := nA'.frozen 3
      have f4 : Wa.frozen? ⟨W8.heap.size, 4, none⟩ = false := nA'.frozen 4
      have f5 : Wa.frozen? ⟨W8.heap.size, 5, none⟩ = false := nA'.frozen 5
      have f6 : Wa.frozen? ⟨W8.heap.size, 6, none⟩ = false := nA'.frozen 6
      have f7 : Wa.frozen? ⟨W8.heap.size, 7, none⟩ = false := nA'.frozen 7
      have f8 : Wa.frozen? ⟨W8.heap.size, 8, none⟩ = false := nA'.frozen 8
      have f9 : Wa.frozen? ⟨W8.heap.size, 9, none⟩ = false := nA'.frozen 9
      have f10 : Wa.frozen? ⟨W8.heap.size, 10, none⟩ = false := nA'.frozen 10
      have z0 : Wa.cell? ⟨W8.heap.size, 0, none⟩ = some (.int .i64 0) := (nA'.cell 0).trans rfl
      have z1 : Wa.cell? ⟨W8.heap.size, 1, none⟩ = some (.int .i64 0) := (nA'.cell 1).trans rfl
      have z2 : Wa.cell? ⟨W8.heap.size, 2, none⟩ = some (.int .u64 0) := (nA'.cell 2).trans rfl
      have z3 : Wa.cell? ⟨W8.heap.size, 3, none⟩ = some (.int .i64 0) := (nA'.cell 3).trans rfl
      have z4 : Wa.cell? ⟨W8.heap.size, 4, none⟩ = some (.int .i64 0) := (nA'.cell 4).trans rfl
      have z5 : Wa.cell? ⟨W8.heap.size, 5, none⟩ = some (.int .u64 0) := (nA'.cell 5).trans rfl
      have z6 : Wa.cell? ⟨W8.heap.size, 6, none⟩ = some (.int .i64 0) := (nA'.cell 6).trans rfl
      have z7 : Wa.cell? ⟨W8.heap.size, 7, none⟩ = some (.int .i64 0) := (nA'.cell 7).trans rfl
      have z8 : Wa.cell? ⟨W8.heap.size, 8, none⟩ = some (.int .i64 0) := (nA'.cell 8).trans rfl
      have z9 : Wa.cell? ⟨W8.heap.size, 9, none⟩ = some (.int .i64 0) := (nA'.cell 9).trans rfl
      have z10 : Wa.cell? ⟨W8.heap.size, 10, none⟩ = some (.string ⟨#[]⟩) := (nA'.cell 10).trans rfl
      try clear hHeld
      refine hK.out _ _ ?_ (fun hHeld => ?_)
      · exact hSa
      clear hK K
      try simp only [Act.put, List.setIfInBounds_toArray, List.set_cons_zero, List.set_cons_succ]
      refine wpAnyH_ready (rs := [5]) (by kernel_rfl) (by simp) ?_
      refine AllReadyH.cons (o := _) (nth_at rfl) (fun K hK => ?_) AllReadyH.nil
      go_simp
      with_reducible refine (HN4 _).mono ?_
      rintro e w' ⟨rfl, rfl⟩
      try clear hHeld
      refine hK.out _ _ ?_ (fun hHeld => ?_)
      · exact hSa
      clear hK K
      try simp only [Act.put, List.setIfInBounds_toArray, List.set_cons_zero, List.set_cons_succ]
      refine wpAnyH_take (i := 7) (oi := _) (v := ?_) (nth_at rfl) (by kernel_rfl) (by kernel_rfl) (by kernel_rfl) (fun _ _ _ h => h) (Or.inl ⟨by rfl, ?_⟩) (by assumption) ?_
      rotate_left 1
      · intro w hSw; (try dsimp only at hSw); (go_simp <;> with_reducible rfl)
      try simp only [Act.put, List.setIfInBounds_toArray, List.set_cons_zero, List.set_cons_succ]
      refine wpAnyH_ready (rs := [9]) (by kernel_rfl) (by simp) ?_
      refine AllReadyH.cons (o := _) (nth_at rfl) (fun K hK => ?_) AllReadyH.nil
      go_simp
      have r9 := (((((((((((nA'.set 0 (.int .i64 n1)).set 1 (.int .i64 l1)).set 2 (.int .u64 S1)).set 3 (.int .i64 i1)).set 4 (.int .i64 l2)).set 5 (.int .u64 S2)).set 6 (.int .i64 i2)).set 7 (.int .i64 n4)).set 8 (.int .i64 fk)).set 9 (.int .i64 fm)).set 10 (.string ⟨ff.toArray⟩))
      have bS9 := (((((((((((bSa.setCell (p := ⟨W8.heap.size, 0, none⟩) (Nat.le_refl _) (.int .i64 n1)).setCell (p := ⟨W8.heap.size, 1, none⟩) (Nat.le_refl _) (.int .i64 l1)).setCell (p := ⟨W8.heap.size, 2, none⟩) (Nat.le_refl _) (.int .u64 S1)).setCell (p := ⟨W8.heap.size, 3, none⟩) (Nat.le_refl _) (.int .i64 i1)).setCell (p := ⟨W8.heap.size, 4, none⟩) (Nat.le_refl _) (.int .i64 l2)).setCell (p := ⟨W8.heap.size, 5, none⟩) (Nat.le_refl _) (.int .u64 S2)).setCell (p := ⟨W8.heap.size, 6, none⟩) (Nat.le_refl _) (.int .i64 i2)).setCell (p := ⟨W8.heap.size, 7, none⟩) (Nat.le_refl _) (.int .i64 n4)).setCell (p := ⟨W8.heap.size, 8, none⟩) (Nat.le_refl _) (.int .i64 fk)).setCell (p := ⟨W8.heap.size, 9, none⟩) (Nat.le_refl _) (.int .i64 fm)).setCell (p := ⟨W8.heap.size, 10, none⟩) (Nat.le_refl _) (.string ⟨ff.toArray⟩))
      simp only [List.setIfInBounds_toArray, List.set_cons_zero, List.set_cons_succ] at r9
      generalize (((((((((((Wa.setCell ⟨W8.heap.size, 0, none⟩ (.int .i64 n1)).setCell ⟨W8.heap.size, 1, none⟩ (.int .i64 l1)).setCell ⟨W8.heap.size, 2, none⟩ (.int .u64 S1)).setCell ⟨W8.heap.size, 3, none⟩ (.int .i64 i1)).setCell ⟨W8.heap.size, 4, none⟩ (.int .i64 l2)).setCell ⟨W8.heap.size, 5, none⟩ (.int .u64 S2)).setCell ⟨W8.heap.size, 6, none⟩ (.int .i64 i2)).setCell ⟨W8.heap.size, 7, none⟩ (.int .i64 n4)).setCell ⟨W8.heap.size, 8, none⟩ (.int .i64 fk)).setCell ⟨W8.heap.size, 9, none⟩ (.int .i64 fm)).setCell ⟨W8.heap.size, 10, none⟩ (.string ⟨ff.toArray⟩)) = W9 at *
      have hS9 := SS.out _ bS9
      try clear hHeld
      refine hK.out _ _ ?_ (fun hHeld => ?_)
      · exact hS9
      clear hK K
      try simp only [Act.put, List.setIfInBounds_toArray, List.set_cons_zero, List.set_cons_succ]
      refine wpAnyH_done (by kernel_rfl) ?_ _
      refine NoPanic.normal ?_
      try clear hHeld
      go_wp2_with fail
      go_meet
      exact ⟨_, rfl, r9, r8y.below bS9 r8y.lt, D8.trans (bS9.mono D8.size), Nat.ne_of_gt r8y.lt⟩
    refine AllReadyH.cons (o := _) (nth_at rfl) (fun K hK => ?_) AllReadyH.nil
    go_simp
    try rw [hWa]
    have f0 : Wa.frozen? ⟨W8.heap.size, 0, none⟩ = false := nA'.frozen 0
    have f1 : Wa.frozen? ⟨W8.heap.size, 1, none⟩ = false := nA'.frozen 1
    have f2 : Wa.frozen? ⟨W8.heap.size, 2, none⟩ = false := nA'.frozen 2
    have f3 : Wa.frozen? ⟨W8.heap.size, 3, none⟩ = false := nA'.frozen 3
    have f4 : Wa.frozen? ⟨W8.heap.size, 4, none⟩ = false := nA'.frozen 4
    have f5 : Wa.frozen? ⟨W8.heap.size, 5, none⟩ = false := nA'.frozen 5
    have f6 : Wa.frozen? ⟨W8.heap.size, 6, none⟩ = false := nA'.frozen 6
    have f7 : Wa.frozen? ⟨W8.heap.size, 7, none⟩ = false := nA'.frozen 7
    have f8 : Wa.frozen? ⟨W8.heap.size, 8, none⟩ = false := nA'.frozen 8
    have f9 : Wa.frozen? ⟨W8.heap.size, 9, none⟩ = false := nA'.frozen 9
    have f10 : Wa.frozen? ⟨W8.heap.size, 10, none⟩ = false := nA'.frozen 10
    have z0 : Wa.cell? ⟨W8.heap.size, 0, none⟩ = some (.int .i64 0) := (nA'.cell 0).trans rfl
    have z1 : Wa.cell? ⟨W8.heap.size, 1, none⟩ = some (.int .i64 0) := (nA'.cell 1).trans rfl
    have z2 : Wa.cell? ⟨W8.heap.size, 2, none⟩ = some (.int .u64 0) := (nA'.cell 2).trans rfl
    have z3 : Wa.cell? ⟨W8.heap.size, 3, none⟩ = some (.int .i64 0) := (nA'.cell 3).trans rfl
    have z4 : Wa.cell? ⟨W8.heap.size, 4, none⟩ = some (.int .i64 0) := (nA'.cell 4).trans rfl
    have z5 : Wa.cell? ⟨W8.heap.size, 5, none⟩ = some (.int .u64 0) := (nA'.cell 5).trans rfl
    have z6 : Wa.cell? ⟨W8.heap.size, 6, none⟩ = some (.int .i64 0) := (nA'.cell 6).trans rfl
    have z7 : Wa.cell? ⟨W8.heap.size, 7, none⟩ = some (.int .i64 0) := (nA'.cell 7).trans rfl
    have z8 : Wa.cell? ⟨W8.heap.size, 8, none⟩ = some (.int .i64 0) := (nA'.cell 8).trans rfl
    have z9 : Wa.cell? ⟨W8.heap.size, 9, none⟩ = some (.int .i64 0) := (nA'.cell 9).trans rfl
    have z10 : Wa.cell? ⟨W8.heap.size, 10, none⟩ = some (.string ⟨#[]⟩) := (nA'.cell 10).trans rfl
    try clear hHeld
    refine hK.out _ _ ?_ (fun hHeld => ?_)
    · exact hSa
    clear hK K
    try simp only [Act.put, List.setIfInBounds_toArray, List.set_cons_zero, List.set_cons_succ]
    refine wpAnyH_ready (rs := [1]) (by kernel_rfl) (by simp) ?_
    refine AllReadyH.cons (o := _) (nth_at rfl) (fun K hK => ?_) AllReadyH.nil
    go_simp
    with_reducible refine (HN1 _).mono ?_
    rintro e w' ⟨rfl, rfl⟩
    try clear hHeld
    refine hK.out _ _ ?_ (fun hHeld => ?_)
    · exact hSa
    clear hK K
    try simp only [Act.put, List.setIfInBounds_toArray, List.set_cons_zero, List.set_cons_succ]
    refine wpAnyH_ready (rs := [5]) (by kernel_rfl) (by simp) ?_
    refine AllReadyH.cons (o := _) (nth_at rfl) (fun K hK => ?_) AllReadyH.nil
    go_simp
    with_reducible refine (HN4 _).mono ?_
    rintro e w' ⟨rfl, rfl⟩
    try clear hHeld
    refine hK.out _ _ ?_ (fun hHeld => ?_)
    · exact hSa
    clear hK K
    try simp only [Act.put, List.setIfInBounds_toArray, List.set_cons_zero, List.set_cons_succ]
    refine wpAnyH_take (i := 7) (oi := _) (v := ?_) (nth_at rfl) (by kernel_rfl) (by kernel_rfl) (by kernel_rfl) (fun _ _ _ h => h) (Or.inl ⟨by rfl, ?_⟩) (by assumption) ?_
    rotate_left 1
    · intro w hSw; (try dsimp only at hSw); (go_simp <;> with_reducible rfl)
    try simp only [Act.put, List.setIfInBounds_toArray, List.set_cons_zero, List.set_cons_succ]
    refine wpAnyH_ready (rs := [9]) (by kernel_rfl) (by simp) ?_
    refine AllReadyH.cons (o := _) (nth_at rfl) (fun K hK => ?_) AllReadyH.nil
    go_simp
    have r9 := (((((((((((nA'.set 0 (.int .i64 n1)).set 1 (.int .i64 l1)).set 2 (.int .u64 S1)).set 3 (.int .i64 i1)).set 4 (.int .i64 l2)).set 5 (.int .u64 S2)).set 6 (.int .i64 i2)).set 7 (.int .i64 n4)).set 8 (.int .i64 fk)).set 9 (.int .i64 fm)).set 10 (.string ⟨ff.toArray⟩))
    have bS9 := (((((((((((bSa.setCell (p := ⟨W8.heap.size, 0, none⟩) (Nat.le_refl _) (.int .i64 n1)).setCell (p := ⟨W8.heap.size, 1, none⟩) (Nat.le_refl _) (.int .i64 l1)).setCell (p := ⟨W8.heap.size, 2, none⟩) (Nat.le_refl _) (.int .u64 S1)).setCell (p := ⟨W8.heap.size, 3, none⟩) (Nat.le_refl _) (.int .i64 i1)).setCell (p := ⟨W8.heap.size, 4, none⟩) (Nat.le_refl _) (.int .i64 l2)).setCell (p := ⟨W8.heap.size, 5, none⟩) (Nat.le_refl _) (.int .u64 S2)).setCell (p := ⟨W8.heap.size, 6, none⟩) (Nat.le_refl _) (.int .i64 i2)).setCell (p := ⟨W8.heap.size, 7, none⟩) (Nat.le_refl _) (.int .i64 n4)).setCell (p := ⟨W8.heap.size, 8, none⟩) (Nat.le_refl _) (.int .i64 fk)).setCell (p := ⟨W8.heap.size, 9, none⟩) (Nat.le_refl _) (.int .i64 fm)).setCell (p := ⟨W8.heap.size, 10, none⟩) (Nat.le_refl _) (.string ⟨ff.toArray⟩))
    simp only [List.setIfInBounds_toArray, List.set_cons_zero, List.set_cons_succ] at r9
    generalize (((((((((((Wa.setCell ⟨W8.heap.size, 0, none⟩ (.int .i64 n1)).setCell ⟨W8.heap.size, 1, none⟩ (.int .i64 l1)).setCell ⟨W8.heap.size, 2, none⟩ (.int .u64 S1)).setCell ⟨W8.heap.size, 3, none⟩ (.int .i64 i1)).setCell ⟨W8.heap.size, 4, none⟩ (.int .i64 l2)).setCell ⟨W8.heap.size, 5, none⟩ (.int .u64 S2)).setCell ⟨W8.heap.size, 6, none⟩ (.int .i64 i2)).setCell ⟨W8.heap.size, 7, none⟩ (.int .i64 n4)).setCell ⟨W8.heap.size, 8, none⟩ (.int .i64 fk)).setCell ⟨W8.heap.size, 9, none⟩ (.int .i64 fm)).setCell ⟨W8.heap.size, 10, none⟩ (.string ⟨ff.toArray⟩)) = W9 at *
    have hS9 := SS.out _ bS9
    try clear hHeld
    refine hK.out _ _ ?_ (fun hHeld => ?_)
    · exact hS9
    clear hK K
    try simp only [Act.put, List.setIfInBounds_toArray, List.set_cons_zero, List.set_cons_succ]
    refine wpAnyH_done (by kernel_rfl) ?_ _
    refine NoPanic.normal ?_
    try clear hHeld
    go_wp2_with fail
    go_meet
    exact ⟨_, rfl, r9, r8y.below bS9 r8y.lt, D8.trans (bS9.mono D8.size), Nat.ne_of_gt r8y.lt⟩
  case rest =>
    obtain ⟨xb, rfl, nr, nz, BB, hne⟩ := hcut
    have hd := (Below.refl wc.heap.size wc).drew
    have nrd := nr.below hd nr.lt
    clear HN1 HN4
    cases ir with
    | false =>
      clear HL
      try simp only [Bool.false_and]
      go_wp2_with fail
      refine wp_region_noPanic ?_
      refine wp_region_held_drew (S := (fun u => u.cell? ⟨xb, 0, none⟩ = some (.int .i64 n1) ∧ u.cell? ⟨xb, 1, none⟩ = some (.int .i64 l1) ∧ u.cell? ⟨xb, 2, none⟩ = some (.int .u64 S1) ∧ u.cell? ⟨xb, 3, none⟩ = some (.int .i64 i1) ∧ u.cell? ⟨xb, 4, none⟩ = some (.int .i64 l2) ∧ u.cell? ⟨xb, 5, none⟩ = some (.int .u64 S2) ∧ u.cell? ⟨xb, 6, none⟩ = some (.int .i64 i2) ∧ u.cell? ⟨xb, 7, none⟩ = some (.int .i64 n4) ∧ u.cell? ⟨xb, 8, none⟩ = some (.int .i64 fk) ∧ u.cell? ⟨xb, 9, none⟩ = some (.int .i64 fm) ∧ u.cell? ⟨xb, 10, none⟩ = some (.string ⟨ff.toArray⟩))) (by kernel_rfl) ?_ (fun hHeld => ?_)
      · exact ⟨(nrd.cell 0).trans rfl, (nrd.cell 1).trans rfl, (nrd.cell 2).trans rfl, (nrd.cell 3).trans rfl, (nrd.cell 4).trans rfl, (nrd.cell 5).trans rfl, (nrd.cell 6).trans rfl, (nrd.cell 7).trans rfl, (nrd.cell 8).trans rfl, (nrd.cell 9).trans rfl, (nrd.cell 10).trans rfl⟩
      refine wpAnyH_take (i := 0) (oi := _) (v := ?_) (nth_at rfl) (by kernel_rfl) (by kernel_rfl) (by kernel_rfl) (fun _ _ _ h => h) (Or.inl ⟨by rfl, ?_⟩) (by assumption) ?_
      rotate_left 1
      · intro w hSw; (try dsimp only at hSw); (go_simp <;> with_reducible rfl)
      try simp only [Act.put, List.setIfInBounds_toArray, List.set_cons_zero, List.set_cons_succ]
      refine wpAnyH_take (i := 1) (oi := _) (v := ?_) (nth_at rfl) (by kernel_rfl) (by kernel_rfl) (by kernel_rfl) (fun _ _ _ h => h) (Or.inl ⟨by rfl, ?_⟩) (by assumption) ?_
      rotate_left 1
      · intro w hSw; (try dsimp only at hSw); (go_simp <;> with_reducible rfl)
      try simp only [Act.put, List.setIfInBounds_toArray, List.set_cons_zero, List.set_cons_succ]
      refine wpAnyH_ready (rs := [2]) (by kernel_rfl) (by simp) ?_
      refine AllReadyH.cons (o := _) (nth_at rfl) (fun K hK => ?_) AllReadyH.nil
      go_simp
      with_reducible refine (HI _).mono ?_
      rintro e w10 ⟨rfl, b10⟩
      have c10 := hd.trans (b10.mono hd.size)
      have k10 := nr.below c10 nr.lt
      have t10 := nz.below c10 nz.lt
      have f0 : w10.frozen? ⟨w.heap.size, 0, none⟩ = false := t10.frozen 0
      have f1 : w10.frozen? ⟨w.heap.size, 1, none⟩ = false := t10.frozen 1
      have f2 : w10.frozen? ⟨w.heap.size, 2, none⟩ = false := t10.frozen 2
      have f3 : w10.frozen? ⟨w.heap.size, 3, none⟩ = false := t10.frozen 3
      have f4 : w10.frozen? ⟨w.heap.size, 4, none⟩ = false := t10.frozen 4
      have f5 : w10.frozen? ⟨w.heap.size, 5, none⟩ = false := t10.frozen 5
      have f6 : w10.frozen? ⟨w.heap.size, 6, none⟩ = false := t10.frozen 6
      have f7 : w10.frozen? ⟨w.heap.size, 7, none⟩ = false := t10.frozen 7
      have f8 : w10.frozen? ⟨w.heap.size, 8, none⟩ = false := t10.frozen 8
      have f9 : w10.frozen? ⟨w.heap.size, 9, none⟩ = false := t10.frozen 9
      have f10 : w10.frozen? ⟨w.heap.size, 10, none⟩ = false := t10.frozen 10
      have z0 : w10.cell? ⟨w.heap.size, 0, none⟩ = some (.int .i64 0) := (t10.cell 0).trans rfl
      have z1 : w10.cell? ⟨w.heap.size, 1, none⟩ = some (.int .i64 0) := (t10.cell 1).trans rfl
      have z2 : w10.cell? ⟨w.heap.size, 2, none⟩ = some (.int .u64 0) := (t10.cell 2).trans rfl
      have z3 : w10.cell? ⟨w.heap.size, 3, none⟩ = some (.int .i64 0) := (t10.cell 3).trans rfl
      have z4 : w10.cell? ⟨w.heap.size, 4, none⟩ = some (.int .i64 0) := (t10.cell 4).trans rfl
      have z5 : w10.cell? ⟨w.heap.size, 5, none⟩ = some (.int .u64 0) := (t10.cell 5).trans rfl
      have z6 : w10.cell? ⟨w.heap.size, 6, none⟩ = some (.int .i64 0) := (t10.cell 6).trans rfl
      have z7 : w10.cell? ⟨w.heap.size, 7, none⟩ = some (.int .i64 0) := (t10.cell 7).trans rfl
      have z8 : w10.cell? ⟨w.heap.size, 8, none⟩ = some (.int .i64 0) := (t10.cell 8).trans rfl
      have z9 : w10.cell? ⟨w.heap.size, 9, none⟩ = some (.int .i64 0) := (t10.cell 9).trans rfl
      have z10 : w10.cell? ⟨w.heap.size, 10, none⟩ = some (.string ⟨#[]⟩) := (t10.cell 10).trans rfl
      refine hK.out _ _ ?_ (fun hHeld => ?_)
      · exact ⟨(k10.cell 0).trans rfl, (k10.cell 1).trans rfl, (k10.cell 2).trans rfl, (k10.cell 3).trans rfl, (k10.cell 4).trans rfl, (k10.cell 5).trans rfl, (k10.cell 6).trans rfl, (k10.cell 7).trans rfl, (k10.cell 8).trans rfl, (k10.cell 9).trans rfl, (k10.cell 10).trans rfl⟩
      clear hK K
      try simp only [Act.put, List.setIfInBounds_toArray, List.set_cons_zero, List.set_cons_succ]
      refine wpAnyH_take (i := 3) (oi := _) (v := ?_) (nth_at rfl) (by kernel_rfl) (by kernel_rfl) (by kernel_rfl) (fun _ _ _ h => h) (Or.inl ⟨by rfl, ?_⟩) (by assumption) ?_
      rotate_left 1
      · intro w hSw; (try dsimp only at hSw); (go_simp <;> with_reducible rfl)
      try simp only [Act.put, List.setIfInBounds_toArray, List.set_cons_zero, List.set_cons_succ]
      refine wpAnyH_take (i := 4) (oi := _) (v := undef) (nth_at rfl) (by kernel_rfl) (by kernel_rfl) (by kernel_rfl) (fun _ _ _ h => h) (Or.inr ⟨by rfl, rfl⟩) (by assumption) ?_
      try simp only [Act.put, List.setIfInBounds_toArray, List.set_cons_zero, List.set_cons_succ]
      refine wpAnyH_take (i := 5) (oi := _) (v := undef) (nth_at rfl) (by kernel_rfl) (by kernel_rfl) (by kernel_rfl) (fun _ _ _ h => h) (Or.inr ⟨by rfl, rfl⟩) (by assumption) ?_
      try simp only [Act.put, List.setIfInBounds_toArray, List.set_cons_zero, List.set_cons_succ]
      refine wpAnyH_take (i := 6) (oi := _) (v := undef) (nth_at rfl) (by kernel_rfl) (by kernel_rfl) (by kernel_rfl) (fun _ _ _ h => h) (Or.inr ⟨by rfl, rfl⟩) (by assumption) ?_
      try simp only [Act.put, List.setIfInBounds_toArray, List.set_cons_zero, List.set_cons_succ]
      refine wpAnyH_take (i := 7) (oi := _) (v := undef) (nth_at rfl) (by kernel_rfl) (by kernel_rfl) (by kernel_rfl) (fun _ _ _ h => h) (Or.inr ⟨by rfl, rfl⟩) (by assumption) ?_
      try simp only [Act.put, List.setIfInBounds_toArray, List.set_cons_zero, List.set_cons_succ]
      refine wpAnyH_take (i := 8) (oi := _) (v := undef) (nth_at rfl) (by kernel_rfl) (by kernel_rfl) (by kernel_rfl) (fun _ _ _ h => h) (Or.inr ⟨by rfl, rfl⟩) (by assumption) ?_
      try simp only [Act.put, List.setIfInBounds_toArray, List.set_cons_zero, List.set_cons_succ]
      refine wpAnyH_take (i := 9) (oi := _) (v := ?_) (nth_at rfl) (by kernel_rfl) (by kernel_rfl) (by kernel_rfl) (fun _ _ _ h => h) (Or.inl ⟨by rfl, ?_⟩) (by assumption) ?_
      rotate_left 1
      · intro w hSw; (try dsimp only at hSw); (go_simp <;> with_reducible rfl)
      try simp only [Act.put, List.setIfInBounds_toArray, List.set_cons_zero, List.set_cons_succ]
      refine wpAnyH_ready (rs := [10]) (by kernel_rfl) (by simp) ?_
      refine AllReadyH.cons (o := _) (nth_at rfl) (fun K hK => ?_) AllReadyH.nil
      go_simp
      have BB1 := BB.trans (c10.mono BB.size)
      have k9 := (Blk.other 10 (.string ⟨ff.toArray⟩) (Blk.other 9 (.int .i64 fm) (Blk.other 8 (.int .i64 fk) (Blk.other 7 (.int .i64 n4) (Blk.other 6 (.int .i64 i2) (Blk.other 5 (.int .u64 S2) (Blk.other 4 (.int .i64 l2) (Blk.other 3 (.int .i64 i1) (Blk.other 2 (.int .u64 S1) (Blk.other 1 (.int .i64 l1) (Blk.other 0 (.int .i64 n1) k10 hne) hne) hne) hne) hne) hne) hne) hne) hne) hne) hne)
      have r9 := (((((((((((t10.set 0 (.int .i64 n1)).set 1 (.int .i64 l1)).set 2 (.int .u64 S1)).set 3 (.int .i64 i1)).set 4 (.int .i64 l2)).set 5 (.int .u64 S2)).set 6 (.int .i64 i2)).set 7 (.int .i64 n4)).set 8 (.int .i64 fk)).set 9 (.int .i64 fm)).set 10 (.string ⟨ff.toArray⟩))
      have B9 := (((((((((((BB1.setCell (p := ⟨w.heap.size, 0, none⟩) (Nat.le_refl _) (.int .i64 n1)).setCell (p := ⟨w.heap.size, 1, none⟩) (Nat.le_refl _) (.int .i64 l1)).setCell (p := ⟨w.heap.size, 2, none⟩) (Nat.le_refl _) (.int .u64 S1)).setCell (p := ⟨w.heap.size, 3, none⟩) (Nat.le_refl _) (.int .i64 i1)).setCell (p := ⟨w.heap.size, 4, none⟩) (Nat.le_refl _) (.int .i64 l2)).setCell (p := ⟨w.heap.size, 5, none⟩) (Nat.le_refl _) (.int .u64 S2)).setCell (p := ⟨w.heap.size, 6, none⟩) (Nat.le_refl _) (.int .i64 i2)).setCell (p := ⟨w.heap.size, 7, none⟩) (Nat.le_refl _) (.int .i64 n4)).setCell (p := ⟨w.heap.size, 8, none⟩) (Nat.le_refl _) (.int .i64 fk)).setCell (p := ⟨w.heap.size, 9, none⟩) (Nat.le_refl _) (.int .i64 fm)).setCell (p := ⟨w.heap.size, 10, none⟩) (Nat.le_refl _) (.string ⟨ff.toArray⟩))
      simp only [List.setIfInBounds_toArray, List.set_cons_zero, List.set_cons_succ] at r9
      generalize (((((((((((w10.setCell ⟨w.heap.size, 0, none⟩ (.int .i64 n1)).setCell ⟨w.heap.size, 1, none⟩ (.int .i64 l1)).setCell ⟨w.heap.size, 2, none⟩ (.int .u64 S1)).setCell ⟨w.heap.size, 3, none⟩ (.int .i64 i1)).setCell ⟨w.heap.size, 4, none⟩ (.int .i64 l2)).setCell ⟨w.heap.size, 5, none⟩ (.int .u64 S2)).setCell ⟨w.heap.size, 6, none⟩ (.int .i64 i2)).setCell ⟨w.heap.size, 7, none⟩ (.int .i64 n4)).setCell ⟨w.heap.size, 8, none⟩ (.int .i64 fk)).setCell ⟨w.heap.size, 9, none⟩ (.int .i64 fm)).setCell ⟨w.heap.size, 10, none⟩ (.string ⟨ff.toArray⟩)) = W9 at *
      refine hK.out _ _ ?_ (fun hHeld => ?_)
      · exact ⟨(k9.cell 0).trans rfl, (k9.cell 1).trans rfl, (k9.cell 2).trans rfl, (k9.cell 3).trans rfl, (k9.cell 4).trans rfl, (k9.cell 5).trans rfl, (k9.cell 6).trans rfl, (k9.cell 7).trans rfl, (k9.cell 8).trans rfl, (k9.cell 9).trans rfl, (k9.cell 10).trans rfl⟩
      clear hK K
      try simp only [Act.put, List.setIfInBounds_toArray, List.set_cons_zero, List.set_cons_succ]
      refine wpAnyH_take (i := 11) (oi := _) (v := ?_) (nth_at rfl) (by kernel_rfl) (by kernel_rfl) (by kernel_rfl) (fun _ _ _ h => h) (Or.inl ⟨by rfl, ?_⟩) (by assumption) ?_
      rotate_left 1
      · intro w hSw; (try dsimp only at hSw); (go_simp <;> with_reducible rfl)
      try simp only [Act.put, List.setIfInBounds_toArray, List.set_cons_zero, List.set_cons_succ]
      refine wpAnyH_done (by kernel_rfl) ?_ _
      refine NoPanic.normal ?_
      go_wp2_with fail
      have q0 : W9.cell? ⟨w.heap.size, 0, none⟩ = some (.int .i64 n1) := (r9.cell 0).trans rfl
      have q1 : W9.cell? ⟨w.heap.size, 1, none⟩ = some (.int .i64 l1) := (r9.cell 1).trans rfl
      have q2 : W9.cell? ⟨w.heap.size, 2, none⟩ = some (.int .u64 S1) := (r9.cell 2).trans rfl
      have q3 : W9.cell? ⟨w.heap.size, 3, none⟩ = some (.int .i64 i1) := (r9.cell 3).trans rfl
      have q4 : W9.cell? ⟨w.heap.size, 4, none⟩ = some (.int .i64 l2) := (r9.cell 4).trans rfl
      have q5 : W9.cell? ⟨w.heap.size, 5, none⟩ = some (.int .u64 S2) := (r9.cell 5).trans rfl
      have q6 : W9.cell? ⟨w.heap.size, 6, none⟩ = some (.int .i64 i2) := (r9.cell 6).trans rfl
      have q7 : W9.cell? ⟨w.heap.size, 7, none⟩ = some (.int .i64 n4) := (r9.cell 7).trans rfl
      have q8 : W9.cell? ⟨w.heap.size, 8, none⟩ = some (.int .i64 fk) := (r9.cell 8).trans rfl
      have q9 : W9.cell? ⟨w.heap.size, 9, none⟩ = some (.int .i64 fm) := (r9.cell 9).trans rfl
      have q10 : W9.cell? ⟨w.heap.size, 10, none⟩ = some (.string ⟨ff.toArray⟩) := (r9.cell 10).trans rfl
      exact bodyPost_ret (v := .tuple #[.agg #[.int .i64 n1, .int .i64 l1, .int .u64 S1, .int .i64 i1, .int .i64 l2, .int .u64 S2, .int .i64 i2, .int .i64 n4, .int .i64 fk, .int .i64 fm, .string ⟨ff.toArray⟩], .bool false]) (by simp [results, Tryz.results33, go_sem, q0, q1, q2, q3, q4, q5, q6, q7, q8, q9, q10]) rfl ⟨by first | rfl | (simp only [hb, Bool.true_and]; done) | (simp only [hb, Bool.true_and]; rfl), B9⟩
    | true =>
      have HLt := HL rfl
      clear HL
      try simp only [Bool.true_and]
      by_cases hLX : LX = s ++ [10]
      · have hb : (LX == s ++ [10]) = true := by simpa using hLX
        try rw [hb]
        clear hLX
        go_wp2_with fail
        refine wp_region_noPanic ?_
        refine wp_region_held_drew (S := (fun u => u.cell? ⟨xb, 0, none⟩ = some (.int .i64 n1) ∧ u.cell? ⟨xb, 1, none⟩ = some (.int .i64 l1) ∧ u.cell? ⟨xb, 2, none⟩ = some (.int .u64 S1) ∧ u.cell? ⟨xb, 3, none⟩ = some (.int .i64 i1) ∧ u.cell? ⟨xb, 4, none⟩ = some (.int .i64 l2) ∧ u.cell? ⟨xb, 5, none⟩ = some (.int .u64 S2) ∧ u.cell? ⟨xb, 6, none⟩ = some (.int .i64 i2) ∧ u.cell? ⟨xb, 7, none⟩ = some (.int .i64 n4) ∧ u.cell? ⟨xb, 8, none⟩ = some (.int .i64 fk) ∧ u.cell? ⟨xb, 9, none⟩ = some (.int .i64 fm) ∧ u.cell? ⟨xb, 10, none⟩ = some (.string ⟨ff.toArray⟩))) (by kernel_rfl) ?_ (fun hHeld => ?_)
        · exact ⟨(nrd.cell 0).trans rfl, (nrd.cell 1).trans rfl, (nrd.cell 2).trans rfl, (nrd.cell 3).trans rfl, (nrd.cell 4).trans rfl, (nrd.cell 5).trans rfl, (nrd.cell 6).trans rfl, (nrd.cell 7).trans rfl, (nrd.cell 8).trans rfl, (nrd.cell 9).trans rfl, (nrd.cell 10).trans rfl⟩
        refine wpAnyH_take (i := 0) (oi := _) (v := ?_) (nth_at rfl) (by kernel_rfl) (by kernel_rfl) (by kernel_rfl) (fun _ _ _ h => h) (Or.inl ⟨by rfl, ?_⟩) (by assumption) ?_
        rotate_left 1
        · intro w hSw; (try dsimp only at hSw); (go_simp <;> with_reducible rfl)
        try simp only [Act.put, List.setIfInBounds_toArray, List.set_cons_zero, List.set_cons_succ]
        refine wpAnyH_take (i := 1) (oi := _) (v := ?_) (nth_at rfl) (by kernel_rfl) (by kernel_rfl) (by kernel_rfl) (fun _ _ _ h => h) (Or.inl ⟨by rfl, ?_⟩) (by assumption) ?_
        rotate_left 1
        · intro w hSw; (try dsimp only at hSw); (go_simp <;> with_reducible rfl)
        try simp only [Act.put, List.setIfInBounds_toArray, List.set_cons_zero, List.set_cons_succ]
        refine wpAnyH_ready (rs := [2]) (by kernel_rfl) (by simp) ?_
        refine AllReadyH.cons (o := _) (nth_at rfl) (fun K hK => ?_) AllReadyH.nil
        go_simp
        with_reducible refine (HI _).mono ?_
        rintro e w10 ⟨rfl, b10⟩
        have c10 := hd.trans (b10.mono hd.size)
        have k10 := nr.below c10 nr.lt
        have t10 := nz.below c10 nz.lt
        refine hK.out _ _ ?_ (fun hHeld => ?_)
        · exact ⟨(k10.cell 0).trans rfl, (k10.cell 1).trans rfl, (k10.cell 2).trans rfl, (k10.cell 3).trans rfl, (k10.cell 4).trans rfl, (k10.cell 5).trans rfl, (k10.cell 6).trans rfl, (k10.cell 7).trans rfl, (k10.cell 8).trans rfl, (k10.cell 9).trans rfl, (k10.cell 10).trans rfl⟩
        clear hK K
        try simp only [Act.put, List.setIfInBounds_toArray, List.set_cons_zero, List.set_cons_succ]
        refine wpAnyH_take (i := 3) (oi := _) (v := ?_) (nth_at rfl) (by kernel_rfl) (by kernel_rfl) (by kernel_rfl) (fun _ _ _ h => h) (Or.inl ⟨by rfl, ?_⟩) (by assumption) ?_
        rotate_left 1
        · intro w hSw; (try dsimp only at hSw); (go_simp <;> with_reducible rfl)
        try simp only [Act.put, List.setIfInBounds_toArray, List.set_cons_zero, List.set_cons_succ]
        refine wpAnyH_take (i := 4) (oi := _) (v := ?_) (nth_at rfl) (by kernel_rfl) (by kernel_rfl) (by kernel_rfl) (fun _ _ _ h => h) (Or.inl ⟨by rfl, ?_⟩) (by assumption) ?_
        rotate_left 1
        · intro w hSw; (try dsimp only at hSw); (go_simp <;> with_reducible rfl)
        try simp only [Act.put, List.setIfInBounds_toArray, List.set_cons_zero, List.set_cons_succ]
        refine wpAnyH_take (i := 6) (oi := _) (v := ?_) (nth_at rfl) (by kernel_rfl) (by kernel_rfl) (by kernel_rfl) (fun _ _ _ h => h) (Or.inl ⟨by rfl, ?_⟩) (by assumption) ?_
        rotate_left 1
        · intro w hSw; (try dsimp only at hSw); (go_simp <;> with_reducible rfl)
        try simp only [Act.put, List.setIfInBounds_toArray, List.set_cons_zero, List.set_cons_succ]
        refine wpAnyH_take (i := 7) (oi := _) (v := ?_) (nth_at rfl) (by kernel_rfl) (by kernel_rfl) (by kernel_rfl) (fun _ _ _ h => h) (Or.inl ⟨by rfl, ?_⟩) (by assumption) ?_
        rotate_left 1
        · intro w hSw; (try dsimp only at hSw); (go_simp <;> with_reducible rfl)
        try simp only [Act.put, List.setIfInBounds_toArray, List.set_cons_zero, List.set_cons_succ]
        refine wpAnyH_ready (rs := [5]) (by kernel_rfl) (by simp) ?_
        refine AllReadyH.cons (o := _) (nth_at rfl) (fun K hK => ?_) AllReadyH.nil
        go_simp
        with_reducible refine (HLt _).mono ?_
        rintro e w11 ⟨rfl, b11⟩
        have c11 := c10.trans (b11.mono c10.size)
        have k11 := nr.below c11 nr.lt
        have t11 := nz.below c11 nz.lt
        have f0 : w11.frozen? ⟨w.heap.size, 0, none⟩ = false := t11.frozen 0
        have f1 : w11.frozen? ⟨w.heap.size, 1, none⟩ = false := t11.frozen 1
        have f2 : w11.frozen? ⟨w.heap.size, 2, none⟩ = false := t11.frozen 2
        have f3 : w11.frozen? ⟨w.heap.size, 3, none⟩ = false := t11.frozen 3
        have f4 : w11.frozen? ⟨w.heap.size, 4, none⟩ = false := t11.frozen 4
        have f5 : w11.frozen? ⟨w.heap.size, 5, none⟩ = false := t11.frozen 5
        have f6 : w11.frozen? ⟨w.heap.size, 6, none⟩ = false := t11.frozen 6
        have f7 : w11.frozen? ⟨w.heap.size, 7, none⟩ = false := t11.frozen 7
        have f8 : w11.frozen? ⟨w.heap.size, 8, none⟩ = false := t11.frozen 8
        have f9 : w11.frozen? ⟨w.heap.size, 9, none⟩ = false := t11.frozen 9
        have f10 : w11.frozen? ⟨w.heap.size, 10, none⟩ = false := t11.frozen 10
        have z0 : w11.cell? ⟨w.heap.size, 0, none⟩ = some (.int .i64 0) := (t11.cell 0).trans rfl
        have z1 : w11.cell? ⟨w.heap.size, 1, none⟩ = some (.int .i64 0) := (t11.cell 1).trans rfl
        have z2 : w11.cell? ⟨w.heap.size, 2, none⟩ = some (.int .u64 0) := (t11.cell 2).trans rfl
        have z3 : w11.cell? ⟨w.heap.size, 3, none⟩ = some (.int .i64 0) := (t11.cell 3).trans rfl
        have z4 : w11.cell? ⟨w.heap.size, 4, none⟩ = some (.int .i64 0) := (t11.cell 4).trans rfl
        have z5 : w11.cell? ⟨w.heap.size, 5, none⟩ = some (.int .u64 0) := (t11.cell 5).trans rfl
        have z6 : w11.cell? ⟨w.heap.size, 6, none⟩ = some (.int .i64 0) := (t11.cell 6).trans rfl
        have z7 : w11.cell? ⟨w.heap.size, 7, none⟩ = some (.int .i64 0) := (t11.cell 7).trans rfl
        have z8 : w11.cell? ⟨w.heap.size, 8, none⟩ = some (.int .i64 0) := (t11.cell 8).trans rfl
        have z9 : w11.cell? ⟨w.heap.size, 9, none⟩ = some (.int .i64 0) := (t11.cell 9).trans rfl
        have z10 : w11.cell? ⟨w.heap.size, 10, none⟩ = some (.string ⟨#[]⟩) := (t11.cell 10).trans rfl
        refine hK.out _ _ ?_ (fun hHeld => ?_)
        · exact ⟨(k11.cell 0).trans rfl, (k11.cell 1).trans rfl, (k11.cell 2).trans rfl, (k11.cell 3).trans rfl, (k11.cell 4).trans rfl, (k11.cell 5).trans rfl, (k11.cell 6).trans rfl, (k11.cell 7).trans rfl, (k11.cell 8).trans rfl, (k11.cell 9).trans rfl, (k11.cell 10).trans rfl⟩
        clear hK K
        try simp only [Act.put, List.setIfInBounds_toArray, List.set_cons_zero, List.set_cons_succ]
        refine wpAnyH_take (i := 8) (oi := _) (v := .bool true) (nth_at rfl) (by kernel_rfl) (by kernel_rfl) (by kernel_rfl) (fun _ _ _ h => h) (Or.inl ⟨by rfl, ?_⟩) (by assumption) ?_
        · intro w hSw; (try dsimp only at hSw); (go_simp <;> first | done | (simp [hb]; done) | (simpa using hb))
        try simp only [Act.put, List.setIfInBounds_toArray, List.set_cons_zero, List.set_cons_succ]
        refine wpAnyH_take (i := 9) (oi := _) (v := ?_) (nth_at rfl) (by kernel_rfl) (by kernel_rfl) (by kernel_rfl) (fun _ _ _ h => h) (Or.inl ⟨by rfl, ?_⟩) (by assumption) ?_
        rotate_left 1
        · intro w hSw; (try dsimp only at hSw); (go_simp <;> with_reducible rfl)
        try simp only [Act.put, List.setIfInBounds_toArray, List.set_cons_zero, List.set_cons_succ]
        refine wpAnyH_ready (rs := [10]) (by kernel_rfl) (by simp) ?_
        refine AllReadyH.cons (o := _) (nth_at rfl) (fun K hK => ?_) AllReadyH.nil
        go_simp
        have BB1 := BB.trans (c11.mono BB.size)
        have k9 := (Blk.other 10 (.string ⟨ff.toArray⟩) (Blk.other 9 (.int .i64 fm) (Blk.other 8 (.int .i64 fk) (Blk.other 7 (.int .i64 n4) (Blk.other 6 (.int .i64 i2) (Blk.other 5 (.int .u64 S2) (Blk.other 4 (.int .i64 l2) (Blk.other 3 (.int .i64 i1) (Blk.other 2 (.int .u64 S1) (Blk.other 1 (.int .i64 l1) (Blk.other 0 (.int .i64 n1) k11 hne) hne) hne) hne) hne) hne) hne) hne) hne) hne) hne)
        have r9 := (((((((((((t11.set 0 (.int .i64 n1)).set 1 (.int .i64 l1)).set 2 (.int .u64 S1)).set 3 (.int .i64 i1)).set 4 (.int .i64 l2)).set 5 (.int .u64 S2)).set 6 (.int .i64 i2)).set 7 (.int .i64 n4)).set 8 (.int .i64 fk)).set 9 (.int .i64 fm)).set 10 (.string ⟨ff.toArray⟩))
        have B9 := (((((((((((BB1.setCell (p := ⟨w.heap.size, 0, none⟩) (Nat.le_refl _) (.int .i64 n1)).setCell (p := ⟨w.heap.size, 1, none⟩) (Nat.le_refl _) (.int .i64 l1)).setCell (p := ⟨w.heap.size, 2, none⟩) (Nat.le_refl _) (.int .u64 S1)).setCell (p := ⟨w.heap.size, 3, none⟩) (Nat.le_refl _) (.int .i64 i1)).setCell (p := ⟨w.heap.size, 4, none⟩) (Nat.le_refl _) (.int .i64 l2)).setCell (p := ⟨w.heap.size, 5, none⟩) (Nat.le_refl _) (.int .u64 S2)).setCell (p := ⟨w.heap.size, 6, none⟩) (Nat.le_refl _) (.int .i64 i2)).setCell (p := ⟨w.heap.size, 7, none⟩) (Nat.le_refl _) (.int .i64 n4)).setCell (p := ⟨w.heap.size, 8, none⟩) (Nat.le_refl _) (.int .i64 fk)).setCell (p := ⟨w.heap.size, 9, none⟩) (Nat.le_refl _) (.int .i64 fm)).setCell (p := ⟨w.heap.size, 10, none⟩) (Nat.le_refl _) (.string ⟨ff.toArray⟩))
        simp only [List.setIfInBounds_toArray, List.set_cons_zero, List.set_cons_succ] at r9
        generalize (((((((((((w11.setCell ⟨w.heap.size, 0, none⟩ (.int .i64 n1)).setCell ⟨w.heap.size, 1, none⟩ (.int .i64 l1)).setCell ⟨w.heap.size, 2, none⟩ (.int .u64 S1)).setCell ⟨w.heap.size, 3, none⟩ (.int .i64 i1)).setCell ⟨w.heap.size, 4, none⟩ (.int .i64 l2)).setCell ⟨w.heap.size, 5, none⟩ (.int .u64 S2)).setCell ⟨w.heap.size, 6, none⟩ (.int .i64 i2)).setCell ⟨w.heap.size, 7, none⟩ (.int .i64 n4)).setCell ⟨w.heap.size, 8, none⟩ (.int .i64 fk)).setCell ⟨w.heap.size, 9, none⟩ (.int .i64 fm)).setCell ⟨w.heap.size, 10, none⟩ (.string ⟨ff.toArray⟩)) = W9 at *
        refine hK.out _ _ ?_ (fun hHeld => ?_)
        · exact ⟨(k9.cell 0).trans rfl, (k9.cell 1).trans rfl, (k9.cell 2).trans rfl, (k9.cell 3).trans rfl, (k9.cell 4).trans rfl, (k9.cell 5).trans rfl, (k9.cell 6).trans rfl, (k9.cell 7).trans rfl, (k9.cell 8).trans rfl, (k9.cell 9).trans rfl, (k9.cell 10).trans rfl⟩
        clear hK K
        try simp only [Act.put, List.setIfInBounds_toArray, List.set_cons_zero, List.set_cons_succ]
        refine wpAnyH_take (i := 11) (oi := _) (v := ?_) (nth_at rfl) (by kernel_rfl) (by kernel_rfl) (by kernel_rfl) (fun _ _ _ h => h) (Or.inl ⟨by rfl, ?_⟩) (by assumption) ?_
        rotate_left 1
        · intro w hSw; (try dsimp only at hSw); (go_simp <;> with_reducible rfl)
        try simp only [Act.put, List.setIfInBounds_toArray, List.set_cons_zero, List.set_cons_succ]
        refine wpAnyH_done (by kernel_rfl) ?_ _
        refine NoPanic.normal ?_
        go_wp2_with fail
        have q0 : W9.cell? ⟨w.heap.size, 0, none⟩ = some (.int .i64 n1) := (r9.cell 0).trans rfl
        have q1 : W9.cell? ⟨w.heap.size, 1, none⟩ = some (.int .i64 l1) := (r9.cell 1).trans rfl
        have q2 : W9.cell? ⟨w.heap.size, 2, none⟩ = some (.int .u64 S1) := (r9.cell 2).trans rfl
        have q3 : W9.cell? ⟨w.heap.size, 3, none⟩ = some (.int .i64 i1) := (r9.cell 3).trans rfl
        have q4 : W9.cell? ⟨w.heap.size, 4, none⟩ = some (.int .i64 l2) := (r9.cell 4).trans rfl
        have q5 : W9.cell? ⟨w.heap.size, 5, none⟩ = some (.int .u64 S2) := (r9.cell 5).trans rfl
        have q6 : W9.cell? ⟨w.heap.size, 6, none⟩ = some (.int .i64 i2) := (r9.cell 6).trans rfl
        have q7 : W9.cell? ⟨w.heap.size, 7, none⟩ = some (.int .i64 n4) := (r9.cell 7).trans rfl
        have q8 : W9.cell? ⟨w.heap.size, 8, none⟩ = some (.int .i64 fk) := (r9.cell 8).trans rfl
        have q9 : W9.cell? ⟨w.heap.size, 9, none⟩ = some (.int .i64 fm) := (r9.cell 9).trans rfl
        have q10 : W9.cell? ⟨w.heap.size, 10, none⟩ = some (.string ⟨ff.toArray⟩) := (r9.cell 10).trans rfl
        exact bodyPost_ret (v := .tuple #[.agg #[.int .i64 n1, .int .i64 l1, .int .u64 S1, .int .i64 i1, .int .i64 l2, .int .u64 S2, .int .i64 i2, .int .i64 n4, .int .i64 fk, .int .i64 fm, .string ⟨ff.toArray⟩], .bool true]) (by simp [results, Tryz.results33, go_sem, q0, q1, q2, q3, q4, q5, q6, q7, q8, q9, q10]) rfl ⟨by first | rfl | (simp only [hb, Bool.true_and]; done) | (simp only [hb, Bool.true_and]; rfl), B9⟩
      · have hb : (LX == s ++ [10]) = false := by simpa using hLX
        try rw [hb]
        clear hLX
        go_wp2_with fail
        refine wp_region_noPanic ?_
        refine wp_region_held_drew (S := (fun u => u.cell? ⟨xb, 0, none⟩ = some (.int .i64 n1) ∧ u.cell? ⟨xb, 1, none⟩ = some (.int .i64 l1) ∧ u.cell? ⟨xb, 2, none⟩ = some (.int .u64 S1) ∧ u.cell? ⟨xb, 3, none⟩ = some (.int .i64 i1) ∧ u.cell? ⟨xb, 4, none⟩ = some (.int .i64 l2) ∧ u.cell? ⟨xb, 5, none⟩ = some (.int .u64 S2) ∧ u.cell? ⟨xb, 6, none⟩ = some (.int .i64 i2) ∧ u.cell? ⟨xb, 7, none⟩ = some (.int .i64 n4) ∧ u.cell? ⟨xb, 8, none⟩ = some (.int .i64 fk) ∧ u.cell? ⟨xb, 9, none⟩ = some (.int .i64 fm) ∧ u.cell? ⟨xb, 10, none⟩ = some (.string ⟨ff.toArray⟩))) (by kernel_rfl) ?_ (fun hHeld => ?_)
        · exact ⟨(nrd.cell 0).trans rfl, (nrd.cell 1).trans rfl, (nrd.cell 2).trans rfl, (nrd.cell 3).trans rfl, (nrd.cell 4).trans rfl, (nrd.cell 5).trans rfl, (nrd.cell 6).trans rfl, (nrd.cell 7).trans rfl, (nrd.cell 8).trans rfl, (nrd.cell 9).trans rfl, (nrd.cell 10).trans rfl⟩
        refine wpAnyH_take (i := 0) (oi := _) (v := ?_) (nth_at rfl) (by kernel_rfl) (by kernel_rfl) (by kernel_rfl) (fun _ _ _ h => h) (Or.inl ⟨by rfl, ?_⟩) (by assumption) ?_
        rotate_left 1
        · intro w hSw; (try dsimp only at hSw); (go_simp <;> with_reducible rfl)
        try simp only [Act.put, List.setIfInBounds_toArray, List.set_cons_zero, List.set_cons_succ]
        refine wpAnyH_take (i := 1) (oi := _) (v := ?_) (nth_at rfl) (by kernel_rfl) (by kernel_rfl) (by kernel_rfl) (fun _ _ _ h => h) (Or.inl ⟨by rfl, ?_⟩) (by assumption) ?_
        rotate_left 1
        · intro w hSw; (try dsimp only at hSw); (go_simp <;> with_reducible rfl)
        try simp only [Act.put, List.setIfInBounds_toArray, List.set_cons_zero, List.set_cons_succ]
        refine wpAnyH_ready (rs := [2]) (by kernel_rfl) (by simp) ?_
        refine AllReadyH.cons (o := _) (nth_at rfl) (fun K hK => ?_) AllReadyH.nil
        go_simp
        with_reducible refine (HI _).mono ?_
        rintro e w10 ⟨rfl, b10⟩
        have c10 := hd.trans (b10.mono hd.size)
        have k10 := nr.below c10 nr.lt
        have t10 := nz.below c10 nz.lt
        refine hK.out _ _ ?_ (fun hHeld => ?_)
        · exact ⟨(k10.cell 0).trans rfl, (k10.cell 1).trans rfl, (k10.cell 2).trans rfl, (k10.cell 3).trans rfl, (k10.cell 4).trans rfl, (k10.cell 5).trans rfl, (k10.cell 6).trans rfl, (k10.cell 7).trans rfl, (k10.cell 8).trans rfl, (k10.cell 9).trans rfl, (k10.cell 10).trans rfl⟩
        clear hK K
        try simp only [Act.put, List.setIfInBounds_toArray, List.set_cons_zero, List.set_cons_succ]
        refine wpAnyH_take (i := 3) (oi := _) (v := ?_) (nth_at rfl) (by kernel_rfl) (by kernel_rfl) (by kernel_rfl) (fun _ _ _ h => h) (Or.inl ⟨by rfl, ?_⟩) (by assumption) ?_
        rotate_left 1
        · intro w hSw; (try dsimp only at hSw); (go_simp <;> with_reducible rfl)
        try simp only [Act.put, List.setIfInBounds_toArray, List.set_cons_zero, List.set_cons_succ]
        refine wpAnyH_take (i := 4) (oi := _) (v := ?_) (nth_at rfl) (by kernel_rfl) (by kernel_rfl) (by kernel_rfl) (fun _ _ _ h => h) (Or.inl ⟨by rfl, ?_⟩) (by assumption) ?_
        rotate_left 1
        · intro w hSw; (try dsimp only at hSw); (go_simp <;> with_reducible rfl)
        try simp only [Act.put, List.setIfInBounds_toArray, List.set_cons_zero, List.set_cons_succ]
        refine wpAnyH_take (i := 6) (oi := _) (v := ?_) (nth_at rfl) (by kernel_rfl) (by kernel_rfl) (by kernel_rfl) (fun _ _ _ h => h) (Or.inl ⟨by rfl, ?_⟩) (by assumption) ?_
        rotate_left 1
        · intro w hSw; (try dsimp only at hSw); (go_simp <;> with_reducible rfl)
        try simp only [Act.put, List.setIfInBounds_toArray, List.set_cons_zero, List.set_cons_succ]
        refine wpAnyH_take (i := 7) (oi := _) (v := ?_) (nth_at rfl) (by kernel_rfl) (by kernel_rfl) (by kernel_rfl) (fun _ _ _ h => h) (Or.inl ⟨by rfl, ?_⟩) (by assumption) ?_
        rotate_left 1
        · intro w hSw; (try dsimp only at hSw); (go_simp <;> with_reducible rfl)
        try simp only [Act.put, List.setIfInBounds_toArray, List.set_cons_zero, List.set_cons_succ]
        refine wpAnyH_ready (rs := [5]) (by kernel_rfl) (by simp) ?_
        refine AllReadyH.cons (o := _) (nth_at rfl) (fun K hK => ?_) AllReadyH.nil
        go_simp
        with_reducible refine (HLt _).mono ?_
        rintro e w11 ⟨rfl, b11⟩
        have c11 := c10.trans (b11.mono c10.size)
        have k11 := nr.below c11 nr.lt
        have t11 := nz.below c11 nz.lt
        have f0 : w11.frozen? ⟨w.heap.size, 0, none⟩ = false := t11.frozen 0
        have f1 : w11.frozen? ⟨w.heap.size, 1, none⟩ = false := t11.frozen 1
        have f2 : w11.frozen? ⟨w.heap.size, 2, none⟩ = false := t11.frozen 2
        have f3 : w11.frozen? ⟨w.heap.size, 3, none⟩ = false := t11.frozen 3
        have f4 : w11.frozen? ⟨w.heap.size, 4, none⟩ = false := t11.frozen 4
        have f5 : w11.frozen? ⟨w.heap.size, 5, none⟩ = false := t11.frozen 5
        have f6 : w11.frozen? ⟨w.heap.size, 6, none⟩ = false := t11.frozen 6
        have f7 : w11.frozen? ⟨w.heap.size, 7, none⟩ = false := t11.frozen 7
        have f8 : w11.frozen? ⟨w.heap.size, 8, none⟩ = false := t11.frozen 8
        have f9 : w11.frozen? ⟨w.heap.size, 9, none⟩ = false := t11.frozen 9
        have f10 : w11.frozen? ⟨w.heap.size, 10, none⟩ = false := t11.frozen 10
        have z0 : w11.cell? ⟨w.heap.size, 0, none⟩ = some (.int .i64 0) := (t11.cell 0).trans rfl
        have z1 : w11.cell? ⟨w.heap.size, 1, none⟩ = some (.int .i64 0) := (t11.cell 1).trans rfl
        have z2 : w11.cell? ⟨w.heap.size, 2, none⟩ = some (.int .u64 0) := (t11.cell 2).trans rfl
        have z3 : w11.cell? ⟨w.heap.size, 3, none⟩ = some (.int .i64 0) := (t11.cell 3).trans rfl
        have z4 : w11.cell? ⟨w.heap.size, 4, none⟩ = some (.int .i64 0) := (t11.cell 4).trans rfl
        have z5 : w11.cell? ⟨w.heap.size, 5, none⟩ = some (.int .u64 0) := (t11.cell 5).trans rfl
        have z6 : w11.cell? ⟨w.heap.size, 6, none⟩ = some (.int .i64 0) := (t11.cell 6).trans rfl
        have z7 : w11.cell? ⟨w.heap.size, 7, none⟩ = some (.int .i64 0) := (t11.cell 7).trans rfl
        have z8 : w11.cell? ⟨w.heap.size, 8, none⟩ = some (.int .i64 0) := (t11.cell 8).trans rfl
        have z9 : w11.cell? ⟨w.heap.size, 9, none⟩ = some (.int .i64 0) := (t11.cell 9).trans rfl
        have z10 : w11.cell? ⟨w.heap.size, 10, none⟩ = some (.string ⟨#[]⟩) := (t11.cell 10).trans rfl
        refine hK.out _ _ ?_ (fun hHeld => ?_)
        · exact ⟨(k11.cell 0).trans rfl, (k11.cell 1).trans rfl, (k11.cell 2).trans rfl, (k11.cell 3).trans rfl, (k11.cell 4).trans rfl, (k11.cell 5).trans rfl, (k11.cell 6).trans rfl, (k11.cell 7).trans rfl, (k11.cell 8).trans rfl, (k11.cell 9).trans rfl, (k11.cell 10).trans rfl⟩
        clear hK K
        try simp only [Act.put, List.setIfInBounds_toArray, List.set_cons_zero, List.set_cons_succ]
        refine wpAnyH_take (i := 8) (oi := _) (v := .bool false) (nth_at rfl) (by kernel_rfl) (by kernel_rfl) (by kernel_rfl) (fun _ _ _ h => h) (Or.inl ⟨by rfl, ?_⟩) (by assumption) ?_
        · intro w hSw; (try dsimp only at hSw); (go_simp <;> first | done | (simp [hb]; done) | (simpa using hb))
        try simp only [Act.put, List.setIfInBounds_toArray, List.set_cons_zero, List.set_cons_succ]
        refine wpAnyH_take (i := 9) (oi := _) (v := ?_) (nth_at rfl) (by kernel_rfl) (by kernel_rfl) (by kernel_rfl) (fun _ _ _ h => h) (Or.inl ⟨by rfl, ?_⟩) (by assumption) ?_
        rotate_left 1
        · intro w hSw; (try dsimp only at hSw); (go_simp <;> with_reducible rfl)
        try simp only [Act.put, List.setIfInBounds_toArray, List.set_cons_zero, List.set_cons_succ]
        refine wpAnyH_ready (rs := [10]) (by kernel_rfl) (by simp) ?_
        refine AllReadyH.cons (o := _) (nth_at rfl) (fun K hK => ?_) AllReadyH.nil
        go_simp
        have BB1 := BB.trans (c11.mono BB.size)
        have k9 := (Blk.other 10 (.string ⟨ff.toArray⟩) (Blk.other 9 (.int .i64 fm) (Blk.other 8 (.int .i64 fk) (Blk.other 7 (.int .i64 n4) (Blk.other 6 (.int .i64 i2) (Blk.other 5 (.int .u64 S2) (Blk.other 4 (.int .i64 l2) (Blk.other 3 (.int .i64 i1) (Blk.other 2 (.int .u64 S1) (Blk.other 1 (.int .i64 l1) (Blk.other 0 (.int .i64 n1) k11 hne) hne) hne) hne) hne) hne) hne) hne) hne) hne) hne)
        have r9 := (((((((((((t11.set 0 (.int .i64 n1)).set 1 (.int .i64 l1)).set 2 (.int .u64 S1)).set 3 (.int .i64 i1)).set 4 (.int .i64 l2)).set 5 (.int .u64 S2)).set 6 (.int .i64 i2)).set 7 (.int .i64 n4)).set 8 (.int .i64 fk)).set 9 (.int .i64 fm)).set 10 (.string ⟨ff.toArray⟩))
        have B9 := (((((((((((BB1.setCell (p := ⟨w.heap.size, 0, none⟩) (Nat.le_refl _) (.int .i64 n1)).setCell (p := ⟨w.heap.size, 1, none⟩) (Nat.le_refl _) (.int .i64 l1)).setCell (p := ⟨w.heap.size, 2, none⟩) (Nat.le_refl _) (.int .u64 S1)).setCell (p := ⟨w.heap.size, 3, none⟩) (Nat.le_refl _) (.int .i64 i1)).setCell (p := ⟨w.heap.size, 4, none⟩) (Nat.le_refl _) (.int .i64 l2)).setCell (p := ⟨w.heap.size, 5, none⟩) (Nat.le_refl _) (.int .u64 S2)).setCell (p := ⟨w.heap.size, 6, none⟩) (Nat.le_refl _) (.int .i64 i2)).setCell (p := ⟨w.heap.size, 7, none⟩) (Nat.le_refl _) (.int .i64 n4)).setCell (p := ⟨w.heap.size, 8, none⟩) (Nat.le_refl _) (.int .i64 fk)).setCell (p := ⟨w.heap.size, 9, none⟩) (Nat.le_refl _) (.int .i64 fm)).setCell (p := ⟨w.heap.size, 10, none⟩) (Nat.le_refl _) (.string ⟨ff.toArray⟩))
        simp only [List.setIfInBounds_toArray, List.set_cons_zero, List.set_cons_succ] at r9
        generalize (((((((((((w11.setCell ⟨w.heap.size, 0, none⟩ (.int .i64 n1)).setCell ⟨w.heap.size, 1, none⟩ (.int .i64 l1)).setCell ⟨w.heap.size, 2, none⟩ (.int .u64 S1)).setCell ⟨w.heap.size, 3, none⟩ (.int .i64 i1)).setCell ⟨w.heap.size, 4, none⟩ (.int .i64 l2)).setCell ⟨w.heap.size, 5, none⟩ (.int .u64 S2)).setCell ⟨w.heap.size, 6, none⟩ (.int .i64 i2)).setCell ⟨w.heap.size, 7, none⟩ (.int .i64 n4)).setCell ⟨w.heap.size, 8, none⟩ (.int .i64 fk)).setCell ⟨w.heap.size, 9, none⟩ (.int .i64 fm)).setCell ⟨w.heap.size, 10, none⟩ (.string ⟨ff.toArray⟩)) = W9 at *
        refine hK.out _ _ ?_ (fun hHeld => ?_)
        · exact ⟨(k9.cell 0).trans rfl, (k9.cell 1).trans rfl, (k9.cell 2).trans rfl, (k9.cell 3).trans rfl, (k9.cell 4).trans rfl, (k9.cell 5).trans rfl, (k9.cell 6).trans rfl, (k9.cell 7).trans rfl, (k9.cell 8).trans rfl, (k9.cell 9).trans rfl, (k9.cell 10).trans rfl⟩
        clear hK K
        try simp only [Act.put, List.setIfInBounds_toArray, List.set_cons_zero, List.set_cons_succ]
        refine wpAnyH_take (i := 11) (oi := _) (v := ?_) (nth_at rfl) (by kernel_rfl) (by kernel_rfl) (by kernel_rfl) (fun _ _ _ h => h) (Or.inl ⟨by rfl, ?_⟩) (by assumption) ?_
        rotate_left 1
        · intro w hSw; (try dsimp only at hSw); (go_simp <;> with_reducible rfl)
        try simp only [Act.put, List.setIfInBounds_toArray, List.set_cons_zero, List.set_cons_succ]
        refine wpAnyH_done (by kernel_rfl) ?_ _
        refine NoPanic.normal ?_
        go_wp2_with fail
        have q0 : W9.cell? ⟨w.heap.size, 0, none⟩ = some (.int .i64 n1) := (r9.cell 0).trans rfl
        have q1 : W9.cell? ⟨w.heap.size, 1, none⟩ = some (.int .i64 l1) := (r9.cell 1).trans rfl
        have q2 : W9.cell? ⟨w.heap.size, 2, none⟩ = some (.int .u64 S1) := (r9.cell 2).trans rfl
        have q3 : W9.cell? ⟨w.heap.size, 3, none⟩ = some (.int .i64 i1) := (r9.cell 3).trans rfl
        have q4 : W9.cell? ⟨w.heap.size, 4, none⟩ = some (.int .i64 l2) := (r9.cell 4).trans rfl
        have q5 : W9.cell? ⟨w.heap.size, 5, none⟩ = some (.int .u64 S2) := (r9.cell 5).trans rfl
        have q6 : W9.cell? ⟨w.heap.size, 6, none⟩ = some (.int .i64 i2) := (r9.cell 6).trans rfl
        have q7 : W9.cell? ⟨w.heap.size, 7, none⟩ = some (.int .i64 n4) := (r9.cell 7).trans rfl
        have q8 : W9.cell? ⟨w.heap.size, 8, none⟩ = some (.int .i64 fk) := (r9.cell 8).trans rfl
        have q9 : W9.cell? ⟨w.heap.size, 9, none⟩ = some (.int .i64 fm) := (r9.cell 9).trans rfl
        have q10 : W9.cell? ⟨w.heap.size, 10, none⟩ = some (.string ⟨ff.toArray⟩) := (r9.cell 10).trans rfl
        exact bodyPost_ret (v := .tuple #[.agg #[.int .i64 n1, .int .i64 l1, .int .u64 S1, .int .i64 i1, .int .i64 l2, .int .u64 S2, .int .i64 i2, .int .i64 n4, .int .i64 fk, .int .i64 fm, .string ⟨ff.toArray⟩], .bool false]) (by simp [results, Tryz.results33, go_sem, q0, q1, q2, q3, q4, q5, q6, q7, q8, q9, q10]) rfl ⟨by first | rfl | (simp only [hb, Bool.true_and]; done) | (simp only [hb, Bool.true_and]; rfl), B9⟩
end Go.Proofs.YtmmdpjliknmhgaaGreatDoor
