/- Joined: RqH -/
import Derived.Test.YtmmdpjliknmhgaaGreatDoorJRU
import Derived.Test.YtmmdpjliknmhgaaGreatDoorJRM
import Derived.Test.YtmmdpjliknmhgaaGreatDoorJRN
import Derived.Deep.DeepMust
import Derived.Deep.QuietTactic
import Derived.BigQuiet
/- Walks of the reference, layer 14: Parse. -/
namespace Go.Proofs.YtmmdpjliknmhgaaGreatDoor
open Go.RowKit Go.Shelf
attribute [local go_sem] Oper.semAt_some
theorem rr_none {s : List UInt8} {n : Nat} (h : ruL.parse s = (none, n)) : ruL.rN s = n ∧ ruL.rE s = 140 ∧ ruL.rL s = [] := by
  unfold LineS.rN LineS.rE LineS.rL; rw [h]; exact ⟨rfl, rfl, rfl⟩
theorem rr_some {s : List UInt8} {c : List RuT} {n : Nat} (h : ruL.parse s = (some c, n)) : ruL.rN s = n ∧ ruL.rE s = 0 ∧ ruL.rL s = c := by
  unfold LineS.rN LineS.rE LineS.rL; rw [h]; exact ⟨rfl, rfl, rfl⟩
theorem stepR (pre : List RuT) (cur : List UInt8) (h : cur ≠ []) : ruL.go (cur.length + 1) pre cur = if okR labK filK (cutL 10 cur).1 then (if (cutL 10 cur).2.2 && ruL.right (pre ++ [ruleR labK filK (cutL 10 cur).1]) then ruL.go ((cutL 10 cur).2.1.length + 1) (pre ++ [ruleR labK filK (cutL 10 cur).1]) (cutL 10 cur).2.1 else (none, pre.length)) else (none, pre.length) := by
  rw [go_step pre cur h, cutN_cutL, readR_eq labK filK labK_plain filK_plain 1000 (by omega)]
  cases okR labK filK (cutL 10 cur).1 <;> rfl
theorem wholeL (s : List UInt8) : (cutL 10 s).2.2 = false ↔ (cutL 10 s).1.length = s.length := by rw [← cutN_cutL]; exact cutN_whole s
theorem okR_facts {s : List UInt8} (h : okR labK filK s = true) : isRX labK filK (ruleR labK filK s) = true ∧ 0 < (ruleR labK filK s).id := by
  unfold okR at h
  rw [Bool.and_eq_true] at h
  have := (isRX_facts h.1).1.1
  exact ⟨h.1, by omega⟩
/-- whether one more rule is right behind some -/
theorem snocR {pre : List RuT} {x : RuT} (h : ruL.right pre = true) (hx : isRX labK filK x = true) (h0 : 0 < x.id) : ruL.right (pre ++ [x]) = (decide (pre.length < 8) && (pre.getLast?.all fun y => decide (y.id < x.id))) := ruL.right_snoc x h hx h0
theorem last_all {pre : List RuT} {x : RuT} (h : 0 < pre.length) : (pre.getLast?.all fun y => decide (y.id < x.id)) = decide (pre[pre.length - 1].id < x.id) := by
  rw [List.getLast?_eq_getElem?, List.getElem?_eq_getElem (by omega)]; rfl
set_option maxRecDepth 100000 in
set_option maxHeartbeats 8000000 in
theorem ruParseR_any (s : List UInt8) (hs : s.length ≤ 1000) (w : World) :
    Calls Tryz.prog 15 #[.string ⟨s.toArray⟩] w fun e w' => ∃ v', e = .returned (.tuple #[v', .int .i64 (ruL.rN s), .int .i64 (ruL.rE s)]) ∧ RulesO w.heap.size 40 w' v' (ruL.rL s) ∧ Below w.heap.size w w' := by
  obtain ⟨i0, hI, hz0, hz1, hz2⟩ := info_parts infoR
  have hNN := Lib.hid (fun n h => rr_none (s := s) (n := n) h)
  have hSS := Lib.hid (fun c n h => rr_some (s := s) (c := c) (n := n) h)
  have hP0 : Hid (ruL.parse s = ruL.go (s.length + 1) [] s) := rfl
  generalize ruL.parse s = PS at *
  generalize ruL.rN s = RN at *
  generalize ruL.rE s = RE at *
  generalize ruL.rL s = RL at *
  go_enter Tryz.func15, Tryz.ntmps15
  go_wp2_with fail
  go_loopg [0, 5] s.length (fun gg s0 s5 wr => ∃ (cur : List UInt8) (acc : List RuT) (vv : Value), cur.length ≤ gg ∧ cur.length ≤ 1000 ∧ s0 = .string ⟨cur.toArray⟩ ∧ s5 = vv ∧ Below w.heap.size w wr ∧ Hid (RulesO w.heap.size 40 wr vv acc) ∧ Hid (ruL.right acc = true) ∧ Hid (PS = ruL.go (cur.length + 1) acc cur))
  case atStart => exact ⟨s, [], _, Nat.le_refl _, hs, rfl, rfl, Below.refl _ _, RulesO.nil _ _ _, by show _ = _; rfl, hP0⟩
  case round =>
    obtain ⟨cur, acc, s5, hg, hcl, rfl, hs5, hB, hO, hR, hP⟩ := hrel
    subst hs5
    clear hP0
    have hz9 := ba_size cur
    by_cases hne : cur = []
    · subst hne
      have hq := Lib.hid (hSS.out acc 0 (by rw [hP.out]; rfl))
      clear hNN hSS hP hR
      go_wp2_with fail
      go_ret3
      exact ⟨_, by rw [hq.out.1, hq.out.2.1]; rfl, by rw [hq.out.2.2]; exact hO.out, hB⟩
    · have hem : cur.isEmpty = false := by simpa using hne
      have hcpos : 0 < cur.length := List.length_pos_iff.2 hne
      have hlens := cutL_lens 10 cur
      have HW := ruWord_any 10 10 rfl cur (by omega) wr
      have HRd := fun W => ruReadR_any (cutL 10 cur).1 (by omega) W
      have hstep := stepR acc cur hne
      rw [← hP.out] at hstep
      have hwh := wholeL cur
      have hrl : (cutL 10 cur).2.2 = true → (cutL 10 cur).2.1.length < cur.length := fun _ => by have := cutN_len cur hne; rw [cutN_cutL] at this; exact this
      have hfact := fun h => okR_facts (s := (cutL 10 cur).1) h
      generalize (cutL 10 cur).1 = first at *
      generalize (cutL 10 cur).2.1 = rest at *
      generalize (cutL 10 cur).2.2 = fnd at *
      have hz8 := ba_size first
      have hxok : isRX labK filK (ruleR labK filK first) = true → ruL.right (acc ++ [ruleR labK filK first]) = (decide (acc.length < 8) && (acc.getLast?.all fun y => decide (y.id < (ruleR labK filK first).id))) := fun hx => snocR hR.out hx (by have := (isRX_facts hx).1.1; omega)
      generalize okR labK filK first = ok at *
      have hal := right_len hR.out
      obtain ⟨x, hx⟩ : ∃ x, ruleR labK filK first = x := ⟨_, rfl⟩
      simp only [hx] at HRd hstep hfact hxok
      clear hx hne hP hR
      obtain ⟨id, ⟨l1, S1, i1⟩, ⟨l2, S2, i2⟩, bu, ⟨k, m, form⟩⟩ := x
      dsimp only at HRd hfact hxok
      have hstH := Lib.hid hstep
      have hfH := Lib.hid hfact
      have hxH := Lib.hid hxok
      have hwH := Lib.hid hwh
      have hrH := Lib.hid hrl
      clear hstep hfact hxok hwh hrl
      go_wp2_with fail
      with_reducible refine HW.mono ?_
      rintro e w1 ⟨rfl, b1⟩
      clear HW
      have HRx := HRd w1
      clear HRd
      go_wp2_with fail
      with_reducible refine HRx.mono ?_
      rintro e w2 ⟨rfl, b2⟩
      clear HRx
      have c2 := b1.trans (b2.mono b1.size)
      have c3 := c2.alloc c2.size (.cells #[.int .i64 id, .int .i64 l1, .int .u64 S1, .int .i64 i1, .int .i64 l2, .int .u64 S2, .int .i64 i2, .int .i64 bu, .int .i64 k, .int .i64 m, .string ⟨form.toArray⟩] 40)
      have r3 := Blk.new w2 #[.int .i64 id, .int .i64 l1, .int .u64 S1, .int .i64 i1, .int .i64 l2, .int .u64 S2, .int .i64 i2, .int .i64 bu, .int .i64 k, .int .i64 m, .string ⟨form.toArray⟩] 40
      go_wp2_with fail
      generalize w2.alloc (.cells #[.int .i64 id, .int .i64 l1, .int .u64 S1, .int .i64 i1, .int .i64 l2, .int .u64 S2, .int .i64 i2, .int .i64 bu, .int .i64 k, .int .i64 m, .string ⟨form.toArray⟩] 40) = W3 at *
      generalize w2.heap.size = rb at *
      have B3 := hB.trans (c3.mono hB.size)
      have hrow : W3.ownsRow w.heap.size 40 11 u5 acc.length (rusC acc) := own_kept hO.out (grown_of_below c3 none) (RowT.none _ _)
      have k0 : W3.cell? ⟨rb, 0, none⟩ = some (.int .i64 id) := (r3.cell 0).trans rfl
      obtain ⟨a5, cap5, rfl⟩ := ruOwn_shape hrow
      clear c2 c3 b1 b2 hO hB
      cases ok with
      | false =>
        have hq := Lib.hid (hNN.out acc.length (by rw [hstH.out]; rfl))
        clear hNN hSS hstH hfH hxH hwH hrH hrow r3
        go_quiet (fail)
        have BQ := below_drewN B3 nq
        generalize W3.drewN nq = W4 at *
        go_wp2_with fail
        go_ret3
        exact ⟨_, by rw [hq.out.1, hq.out.2.1]; rfl, by rw [hq.out.2.2]; exact RulesO.nil _ _ _, BQ⟩
      | true =>
        obtain ⟨hxx, hid0⟩ := hfH.out rfl
        have hst2 : Hid (PS = if fnd && ruL.right (acc ++ [⟨id, (l1, S1, i1), (l2, S2, i2), bu, (k, m, form)⟩]) then ruL.go (rest.length + 1) (acc ++ [⟨id, (l1, S1, i1), (l2, S2, i2), bu, (k, m, form)⟩]) rest else (none, acc.length)) := by show _ = _; rw [hstH.out]; rfl
        have hr2 := Lib.hid (hxH.out hxx)
        clear hxx
        by_cases hfl : first.length = cur.length
        · have zA : ((first.length : Int) == (cur.length : Int)) = true := by rw [beq_iff_eq]; omega
          have hff : fnd = false := hwH.out.2 hfl
          have hq := Lib.hid (hNN.out acc.length (by rw [hst2.out, hff]; rfl))
          clear hst2 hr2 hff hfl hNN hSS hstH hfH hxH hwH hrH hrow r3
          go_quiet (fail)
          have BQ := below_drewN B3 nq
          generalize W3.drewN nq = W4 at *
          go_wp2_with fail
          go_ret3
          exact ⟨_, by rw [hq.out.1, hq.out.2.1]; rfl, by rw [hq.out.2.2]; exact RulesO.nil _ _ _, BQ⟩
        have zA : ((first.length : Int) == (cur.length : Int)) = false := by rw [beq_eq_false_iff_ne]; omega
        have hff : fnd = true := by cases hf : fnd with | true => rfl | false => exact absurd (hwH.out.1 hf) hfl
        have hrr := hrH.out hff
        by_cases h8 : acc.length = 8
        · have zB : ((acc.length : Int) == 8) = true := by rw [beq_iff_eq]; omega
          have hq := Lib.hid (hNN.out acc.length (by rw [hst2.out, hff, hr2.out, decide_eq_false (by omega : ¬ acc.length < 8)]; rfl))
          clear hst2 hr2 hff hfl hrr h8 hNN hSS hstH hfH hxH hwH hrH hrow r3
          go_quiet (fail)
          have BQ := below_drewN B3 nq
          generalize W3.drewN nq = W4 at *
          go_wp2_with fail
          go_ret3
          exact ⟨_, by rw [hq.out.1, hq.out.2.1]; rfl, by rw [hq.out.2.2]; exact RulesO.nil _ _ _, BQ⟩
        have zB : ((acc.length : Int) == 8) = false := by rw [beq_eq_false_iff_ne]; omega
        rcases Nat.eq_zero_or_pos acc.length with h0 | h0
        · have zC : decide (0 < acc.length) = false := decide_eq_false (by omega)
          have zCz : decide ((0 : Int) < (acc.length : Int)) = false := decide_eq_false (by omega)
          have hA2 : Hid (ruL.right (acc ++ [⟨id, (l1, S1, i1), (l2, S2, i2), bu, (k, m, form)⟩]) = true) := by show _ = _; rw [hr2.out, decide_eq_true (by omega : acc.length < 8), List.eq_nil_of_length_eq_zero h0]; rfl
          have hP2 : Hid (PS = ruL.go (rest.length + 1) (acc ++ [⟨id, (l1, S1, i1), (l2, S2, i2), bu, (k, m, form)⟩]) rest) := by have h1 : ruL.right (acc ++ [⟨id, (l1, S1, i1), (l2, S2, i2), bu, (k, m, form)⟩]) = true := hA2.out; show _ = _; rw [hst2.out, hff, h1]; rfl
          clear hst2 hr2 hff hfl h8 h0
          clear hstH hfH hxH hwH hrH
          go_quiet (fail)
          have BQ := below_drewN B3 nq
          have hrow1 : (W3.drewN nq).ownsRow w.heap.size 40 11 _ acc.length (rusC acc) := own_kept hrow (grown_of_below (below_drewN (Below.refl W3.heap.size W3) nq) none) (RowT.none _ _)
          have r4 : Blk (W3.drewN nq) rb #[.int .i64 id, .int .i64 l1, .int .u64 S1, .int .i64 i1, .int .i64 l2, .int .u64 S2, .int .i64 i2, .int .i64 bu, .int .i64 k, .int .i64 m, .string ⟨form.toArray⟩] 40 := r3
          have c0 : (W3.drewN nq).cell? ⟨rb, 0, none⟩ = some (.int .i64 id) := (r4.cell 0).trans rfl
          have c1 : (W3.drewN nq).cell? ⟨rb, 1, none⟩ = some (.int .i64 l1) := (r4.cell 1).trans rfl
          have c2 : (W3.drewN nq).cell? ⟨rb, 2, none⟩ = some (.int .u64 S1) := (r4.cell 2).trans rfl
          have c3 : (W3.drewN nq).cell? ⟨rb, 3, none⟩ = some (.int .i64 i1) := (r4.cell 3).trans rfl
          have c4 : (W3.drewN nq).cell? ⟨rb, 4, none⟩ = some (.int .i64 l2) := (r4.cell 4).trans rfl
          have c5 : (W3.drewN nq).cell? ⟨rb, 5, none⟩ = some (.int .u64 S2) := (r4.cell 5).trans rfl
          have c6 : (W3.drewN nq).cell? ⟨rb, 6, none⟩ = some (.int .i64 i2) := (r4.cell 6).trans rfl
          have c7 : (W3.drewN nq).cell? ⟨rb, 7, none⟩ = some (.int .i64 bu) := (r4.cell 7).trans rfl
          have c8 : (W3.drewN nq).cell? ⟨rb, 8, none⟩ = some (.int .i64 k) := (r4.cell 8).trans rfl
          have c9 : (W3.drewN nq).cell? ⟨rb, 9, none⟩ = some (.int .i64 m) := (r4.cell 9).trans rfl
          have c10 : (W3.drewN nq).cell? ⟨rb, 10, none⟩ = some (.string ⟨form.toArray⟩) := (r4.cell 10).trans rfl
          clear hrow r3 r4 k0 B3
          generalize W3.drewN nq = W4 at *
          have hCS : Hid (∀ W v', W.ownsRow w.heap.size 40 11 v' (acc.length + 1) (rusC acc ++ #[.int .i64 id, .int .i64 l1, .int .u64 S1, .int .i64 i1, .int .i64 l2, .int .u64 S2, .int .i64 i2, .int .i64 bu, .int .i64 k, .int .i64 m, .string ⟨form.toArray⟩].toList) → RulesO w.heap.size 40 W v' (acc ++ [⟨id, (l1, S1, i1), (l2, S2, i2), bu, (k, m, form)⟩])) := by
            show ∀ W, _
            intro W v' h
            unfold RulesO
            rw [List.length_append, rusC_app]
            have : rusC [(⟨id, (l1, S1, i1), (l2, S2, i2), bu, (k, m, form)⟩ : RuT)] = #[.int .i64 id, .int .i64 l1, .int .u64 S1, .int .i64 i1, .int .i64 l2, .int .u64 S2, .int .i64 i2, .int .i64 bu, .int .i64 k, .int .i64 m, .string ⟨form.toArray⟩].toList := by simp [rusC, ruC]
            rw [this]; exact h
          generalize rusC acc = CS at *
          go_wp2_with (at_builtin; go_must (refine wpList_append_own _ rfl _ _ 22 rfl w.heap.size 40 i0 _ 11 96 Tryz.underlying22 hI hz0 hz1 hz2 rfl (by decide) _ _ _ rfl (hrow1.alloc _) ⟨W4.heap.size, 0, none⟩ 1 1 #[.int .i64 id, .int .i64 l1, .int .u64 S1, .int .i64 i1, .int .i64 l2, .int .u64 S2, .int .i64 i2, .int .i64 bu, .int .i64 k, .int .i64 m, .string ⟨form.toArray⟩].toList rfl rfl (ruBlk_srcs (Blk.new W4 _ _)) (by simp [Value.oneCell']) (by unfold maxLen; omega) (by omega) (by have := BQ.size; simp; omega) ?_))
          intro v' w5 hown hgrow _
          have B5 : Below w.heap.size w w5 := (BQ.alloc BQ.size _).grown hgrow (by have := BQ.size; simp; omega) (fun k hk => (hrow1.lt k hk).1)
          have HX := Lib.hid (hCS.out _ _ hown)
          clear hown hgrow hrow1 hCS c0 c1 c2 c3 c4 c5 c6 c7 c8 c9 c10
          go_wp2_with fail
          go_roundg rest.length
          case measure => omega
          case rel => exact ⟨rest, acc ++ [⟨id, (l1, S1, i1), (l2, S2, i2), bu, (k, m, form)⟩], _, Nat.le_refl _, by omega, rfl, rfl, B5, HX, hA2, hP2⟩
        have zC : decide (0 < acc.length) = true := decide_eq_true h0
        have zCz : decide ((0 : Int) < (acc.length : Int)) = true := decide_eq_true (by omega)
        obtain ⟨A2, C2, hA2v, -, hc2⟩ := RulesV.at (show RulesV W3 (.slice a5 acc.length cap5) acc from SlR.of_row hrow)
        cases hA2v
        obtain ⟨m1, hm1⟩ : ∃ m1, acc.length - 1 = m1 := ⟨_, rfl⟩
        have D1 := less_wrap acc.length m1 (by omega) (by omega)
        have D2 : (0 : Int) ≤ (m1 : Int) := by omega
        have D3 : (m1 : Int) < (acc.length : Int) := by omega
        obtain ⟨b2, o2, rfl, -, hk2⟩ := hc2 (acc.length - 1) (by omega)
        have k2 := (hk2 _ (KeepC.refl _)).1
        clear hc2 hk2
        have hla0 := last_all (pre := acc) (x := ⟨id, (l1, S1, i1), (l2, S2, i2), bu, (k, m, form)⟩) h0
        dsimp only at hla0
        have hla := Lib.hid hla0
        clear hla0
        generalize acc[acc.length - 1].id = la at *
        rw [hm1] at k2
        clear hm1
        by_cases hlt : la < id
        · have zD : decide (id ≤ la) = false := decide_eq_false (by omega)
          have hA2 : Hid (ruL.right (acc ++ [⟨id, (l1, S1, i1), (l2, S2, i2), bu, (k, m, form)⟩]) = true) := by show _ = _; rw [hr2.out, decide_eq_true (by omega : acc.length < 8), hla.out, decide_eq_true (show la < id from hlt)]; rfl
          have hP2 : Hid (PS = ruL.go (rest.length + 1) (acc ++ [⟨id, (l1, S1, i1), (l2, S2, i2), bu, (k, m, form)⟩]) rest) := by have h1 : ruL.right (acc ++ [⟨id, (l1, S1, i1), (l2, S2, i2), bu, (k, m, form)⟩]) = true := hA2.out; show _ = _; rw [hst2.out, hff, h1]; rfl
          clear hst2 hr2 hff hfl h8 h0 hla hlt
          clear hstH hfH hxH hwH hrH
          go_quiet (fail)
          have BQ := below_drewN B3 nq
          have hrow1 : (W3.drewN nq).ownsRow w.heap.size 40 11 _ acc.length (rusC acc) := own_kept hrow (grown_of_below (below_drewN (Below.refl W3.heap.size W3) nq) none) (RowT.none _ _)
          have r4 : Blk (W3.drewN nq) rb #[.int .i64 id, .int .i64 l1, .int .u64 S1, .int .i64 i1, .int .i64 l2, .int .u64 S2, .int .i64 i2, .int .i64 bu, .int .i64 k, .int .i64 m, .string ⟨form.toArray⟩] 40 := r3
          have c0 : (W3.drewN nq).cell? ⟨rb, 0, none⟩ = some (.int .i64 id) := (r4.cell 0).trans rfl
          have c1 : (W3.drewN nq).cell? ⟨rb, 1, none⟩ = some (.int .i64 l1) := (r4.cell 1).trans rfl
          have c2 : (W3.drewN nq).cell? ⟨rb, 2, none⟩ = some (.int .u64 S1) := (r4.cell 2).trans rfl
          have c3 : (W3.drewN nq).cell? ⟨rb, 3, none⟩ = some (.int .i64 i1) := (r4.cell 3).trans rfl
          have c4 : (W3.drewN nq).cell? ⟨rb, 4, none⟩ = some (.int .i64 l2) := (r4.cell 4).trans rfl
          have c5 : (W3.drewN nq).cell? ⟨rb, 5, none⟩ = some (.int .u64 S2) := (r4.cell 5).trans rfl
          have c6 : (W3.drewN nq).cell? ⟨rb, 6, none⟩ = some (.int .i64 i2) := (r4.cell 6).trans rfl
          have c7 : (W3.drewN nq).cell? ⟨rb, 7, none⟩ = some (.int .i64 bu) := (r4.cell 7).trans rfl
          have c8 : (W3.drewN nq).cell? ⟨rb, 8, none⟩ = some (.int .i64 k) := (r4.cell 8).trans rfl
          have c9 : (W3.drewN nq).cell? ⟨rb, 9, none⟩ = some (.int .i64 m) := (r4.cell 9).trans rfl
          have c10 : (W3.drewN nq).cell? ⟨rb, 10, none⟩ = some (.string ⟨form.toArray⟩) := (r4.cell 10).trans rfl
          clear hrow r3 r4 k0 B3
          generalize W3.drewN nq = W4 at *
          have hCS : Hid (∀ W v', W.ownsRow w.heap.size 40 11 v' (acc.length + 1) (rusC acc ++ #[.int .i64 id, .int .i64 l1, .int .u64 S1, .int .i64 i1, .int .i64 l2, .int .u64 S2, .int .i64 i2, .int .i64 bu, .int .i64 k, .int .i64 m, .string ⟨form.toArray⟩].toList) → RulesO w.heap.size 40 W v' (acc ++ [⟨id, (l1, S1, i1), (l2, S2, i2), bu, (k, m, form)⟩])) := by
            show ∀ W, _
            intro W v' h
            unfold RulesO
            rw [List.length_append, rusC_app]
            have : rusC [(⟨id, (l1, S1, i1), (l2, S2, i2), bu, (k, m, form)⟩ : RuT)] = #[.int .i64 id, .int .i64 l1, .int .u64 S1, .int .i64 i1, .int .i64 l2, .int .u64 S2, .int .i64 i2, .int .i64 bu, .int .i64 k, .int .i64 m, .string ⟨form.toArray⟩].toList := by simp [rusC, ruC]
            rw [this]; exact h
          generalize rusC acc = CS at *
          go_wp2_with (at_builtin; go_must (refine wpList_append_own _ rfl _ _ 22 rfl w.heap.size 40 i0 _ 11 96 Tryz.underlying22 hI hz0 hz1 hz2 rfl (by decide) _ _ _ rfl (hrow1.alloc _) ⟨W4.heap.size, 0, none⟩ 1 1 #[.int .i64 id, .int .i64 l1, .int .u64 S1, .int .i64 i1, .int .i64 l2, .int .u64 S2, .int .i64 i2, .int .i64 bu, .int .i64 k, .int .i64 m, .string ⟨form.toArray⟩].toList rfl rfl (ruBlk_srcs (Blk.new W4 _ _)) (by simp [Value.oneCell']) (by unfold maxLen; omega) (by omega) (by have := BQ.size; simp; omega) ?_))
          intro v' w5 hown hgrow _
          have B5 : Below w.heap.size w w5 := (BQ.alloc BQ.size _).grown hgrow (by have := BQ.size; simp; omega) (fun k hk => (hrow1.lt k hk).1)
          have HX := Lib.hid (hCS.out _ _ hown)
          clear hown hgrow hrow1 hCS c0 c1 c2 c3 c4 c5 c6 c7 c8 c9 c10
          go_wp2_with fail
          go_roundg rest.length
          case measure => omega
          case rel => exact ⟨rest, acc ++ [⟨id, (l1, S1, i1), (l2, S2, i2), bu, (k, m, form)⟩], _, Nat.le_refl _, by omega, rfl, rfl, B5, HX, hA2, hP2⟩
        · have zD : decide (id ≤ la) = true := decide_eq_true (by omega)
          have hq := Lib.hid (hNN.out acc.length (by rw [hst2.out, hff, hr2.out, hla.out, decide_eq_false (show ¬ la < id from hlt), Bool.and_false]; rfl))
          clear hst2 hr2 hff hfl hrr h8 h0 hla hlt hNN hSS hstH hfH hxH hwH hrH hrow r3
          go_quiet (fail)
          have BQ := below_drewN B3 nq
          generalize W3.drewN nq = W4 at *
          go_wp2_with fail
          go_ret3
          exact ⟨_, by rw [hq.out.1, hq.out.2.1]; rfl, by rw [hq.out.2.2]; exact RulesO.nil _ _ _, BQ⟩
end Go.Proofs.YtmmdpjliknmhgaaGreatDoor
