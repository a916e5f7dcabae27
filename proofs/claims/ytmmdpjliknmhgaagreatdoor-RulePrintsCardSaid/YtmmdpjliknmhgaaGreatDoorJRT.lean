/- Joined: LabQ7; FlrR6 -/
import Derived.Test.YtmmdpjliknmhgaaGreatDoorJRR
import Derived.Test.YtmmdpjliknmhgaaGreatDoorJRS
/- Walks of the document's answer for layer 5: Parse. -/
namespace Go.Proofs.YtmmdpjliknmhgaaGreatDoor
open Go.RowKit Go.Shelf
attribute [local go_sem] Oper.semAt_some
theorem RdQ.len {W : World} {b : Nat} {s : List UInt8} {q : List UInt8 × Bool} (h : RdQ W b s q) : q.1.length ≤ s.length := by
  obtain ⟨k, hk, hr, _⟩ := h; rw [hr, List.length_drop]; omega
theorem RdQ.below {W W' : World} {b m : Nat} {s : List UInt8} {q : List UInt8 × Bool} (h : RdQ W b s q) (hb : Below m W W') (hm : b < m) : RdQ W' b s q := by
  obtain ⟨k, hk, hr, h3⟩ := h; exact ⟨k, hk, hr, h3.below hb hm⟩
theorem RdQ.alloc {W : World} {b : Nat} {s : List UInt8} {q : List UInt8 × Bool} (h : RdQ W b s q) (o : Obj) : RdQ (W.alloc o) b s q := by
  obtain ⟨k, hk, hr, h3⟩ := h; exact ⟨k, hk, hr, h3.alloc o⟩
theorem RdQ.other {W : World} {b b' : Nat} {s : List UInt8} {q : List UInt8 × Bool} (i : Nat) (v : Value) (h : RdQ W b s q) (hne : b ≠ b') : RdQ (W.setCell ⟨b', i, none⟩ v) b s q := by
  obtain ⟨k, hk, hr, h3⟩ := h; exact ⟨k, hk, hr, Blk.other i v h3 hne⟩
theorem RdQ.lt {W : World} {b : Nat} {s : List UInt8} {q : List UInt8 × Bool} (h : RdQ W b s q) : b < W.heap.size := by
  obtain ⟨k, hk, hr, h3⟩ := h; exact h3.lt
theorem RdQ.step {W : World} {b : Nat} {s R : List UInt8} {c : UInt8} {bad : Bool} (h : RdQ W b s (c :: R, bad)) : ∃ k : Nat, k + 1 ≤ s.length ∧ W.cell? ⟨b, 1, none⟩ = some (.int .i64 k) ∧ W.frozen? ⟨b, 1, none⟩ = false ∧ RdQ (W.setCell ⟨b, 1, none⟩ (.int .i64 ((k : Int) + 1))) b s (R, bad) := by
  obtain ⟨k, hk, hr, hb⟩ := h
  have hk2 : k < s.length := by
    rcases Nat.lt_or_ge k s.length with h | h
    · exact h
    · have hr' : c :: R = s.drop k := hr
      rw [List.drop_of_length_le h] at hr'; cases hr'
  have hr' : c :: R = s.drop k := hr
  rw [drop_cons s k hk2] at hr'
  have c1 := hb.cell 1
  simp at c1
  refine ⟨k, hk2, c1, hb.frozen 1, k + 1, hk2, (List.cons.inj hr').2, ?_⟩
  have := Blk.set 1 (.int .i64 ((k : Int) + 1)) hb
  simpa using this
/-- the world behind a set: the reader, the label, what comes back -/
def SetW (w : World) (rb ab : Nat) (s : List UInt8) (lv : Int) (X : Nat × (List UInt8 × Bool)) (W : World) : Prop :=
  ∃ z : Nat, z < 18446744073709551616 ∧ RdQ W rb s X.2 ∧ (X.2.2 = false → z = X.1) ∧ Blk W ab #[.int .i64 lv, .int .u64 z, .int .i64 0] 36 ∧ Blk W w.heap.size #[.int .i64 0, .int .u64 0, .int .i64 0] 36 ∧ Below w.heap.size w W
set_option maxRecDepth 100000 in
set_option maxHeartbeats 8000000 in
theorem parseR_any (s : List UInt8) (hl : s.length ≤ 1000000) (w : World) :
    Calls Tryz.prog 50 #[.string ⟨s.toArray⟩] w fun e w' => e = .returned (.tuple #[labA (parL s), .int .i64 (parAt s), .int .i64 (parE s)]) ∧ Below w.heap.size w w' := by
  have z0 := (Blk.new w #[.int .i64 0, .int .u64 0, .int .i64 0] 36).alloc (.cells #[.string ⟨s.toArray⟩, .int .i64 0, .bool false] 138)
  have r0 : RdQ ((w.alloc (.cells #[.int .i64 0, .int .u64 0, .int .i64 0] 36)).alloc (.cells #[.string ⟨s.toArray⟩, .int .i64 0, .bool false] 138)) (w.heap.size + 1) s (s, false) := by
    have := Blk.new (w.alloc (.cells #[.int .i64 0, .int .u64 0, .int .i64 0] 36)) #[.string ⟨s.toArray⟩, .int .i64 0, .bool false] 138
    rw [World.size_alloc] at this
    exact ⟨0, Nat.zero_le _, rfl, this⟩
  have hB0 := ((Below.refl w.heap.size w).alloc (Nat.le_refl _) (.cells #[.int .i64 0, .int .u64 0, .int .i64 0] 36)).alloc (by simp) (.cells #[.string ⟨s.toArray⟩, .int .i64 0, .bool false] 138)
  have hm1 := Lib.hid (mustR_any 76 (w.heap.size + 1) s s false _ r0 hl)
  clear r0
  go_enter Tryz.func50, Tryz.ntmps50
  go_wp2_with fail
  refine hm1.out.mono ?_
  rintro e w1 ⟨rfl, hr1, hg1⟩
  rcases hs1 : lift () (pmust 76) (s, false) with ⟨u1, r1, b1⟩
  rw [hs1] at hr1
  simp only at hr1
  have hB1 := below_own hB0 hg1 (by omega)
  have z1 := z0.kept hg1 (by simp)
  have HS1 := Lib.hid hs1
  have hm2 := Lib.hid (numberR_any 0 15 (by omega) (by omega) (by omega) (w.heap.size + 1) s r1 b1 _ hr1 hl)
  have hlt1 := hr1.lt
  clear hm1 hs1 hr1 hg1 z0 hB0
  go_wp2_with fail
  refine hm2.out.mono ?_
  rintro e w2 ⟨lv', hv1, hv2, rfl, hr2, hres2, hg2⟩
  rcases hs2 : lift 0 (pnum 0 15) (r1, b1) with ⟨lv, r2, b2⟩
  rw [hs2] at hr2 hres2
  simp only at hr2 hres2
  have hB2 := below_own hB1 hg2 (by omega)
  have z2 := z1.kept hg2 (by simp)
  have HS2 := Lib.hid hs2
  have HRes2 := Lib.hid hres2
  have hr2a := hr2.alloc (.cells #[.int .i64 lv', .int .u64 0, .int .i64 0] 36)
  have z2a := z2.alloc (.cells #[.int .i64 lv', .int .u64 0, .int .i64 0] 36)
  have a2 : Blk (w2.alloc (.cells #[.int .i64 lv', .int .u64 0, .int .i64 0] 36)) w2.heap.size #[.int .i64 lv', .int .u64 0, .int .i64 0] 36 := label_box w2 lv' 0 0
  have hB2a := hB2.alloc hB2.size (.cells #[.int .i64 lv', .int .u64 0, .int .i64 0] 36)
  have hab : w.heap.size + 1 < w2.heap.size := hr2.lt
  have hm3 := Lib.hid (isR_any 123 (w.heap.size + 1) s r2 b2 _ hr2a hl)
  clear hm2 hs2 hr2 hres2 hg2 z1 hB1 z2 hB2 hlt1
  go_wp2_with fail
  refine hm3.out.mono ?_
  rintro e w3 ⟨rfl, nn, rfl⟩
  go_upto_if 17 with fail
  go_cut [7] (fun _ wx => SetW w (w.heap.size + 1) w2.heap.size s lv' (lift 0 pset (r2, b2)) wx)
  case first =>
    have hr3 := hr2a.drewN nn
    have a3 : Blk ((w2.alloc (.cells #[.int .i64 lv', .int .u64 0, .int .i64 0] 36)).drewN nn) w2.heap.size #[.int .i64 lv', .int .u64 0, .int .i64 0] 36 := a2
    have z3 : Blk ((w2.alloc (.cells #[.int .i64 lv', .int .u64 0, .int .i64 0] 36)).drewN nn) w.heap.size #[.int .i64 0, .int .u64 0, .int .i64 0] 36 := z2a
    have hB3 : Below w.heap.size w ((w2.alloc (.cells #[.int .i64 lv', .int .u64 0, .int .i64 0] 36)).drewN nn) := ⟨hB2a.os, hB2a.tape, hB2a.output, hB2a.size, hB2a.block⟩
    obtain ⟨w3, hw3⟩ : ∃ u, (w2.alloc (.cells #[.int .i64 lv', .int .u64 0, .int .i64 0] 36)).drewN nn = u := ⟨_, rfl⟩
    rw [hw3] at hr3 a3 z3 hB3 ⊢
    clear hw3 hr2a a2 z2a hB2a hm3
    cases hd : hdB 123 (r2, b2) with
    | false =>
      have HX := Lib.hid (setQ_none r2 b2 hd)
      have H := Lib.hid (And.intro hr3 (And.intro a3 (And.intro z3 hB3)))
      clear hr3 a3 z3 hB3 hd
      go_wp2_with fail
      go_meet
      exact ⟨0, by omega, by rw [HX.out]; exact H.out.1, by rw [HX.out]; exact fun _ => rfl, H.out.2.1, H.out.2.2.1, H.out.2.2.2⟩
    | true =>
      obtain ⟨R, rfl, rfl, hX⟩ := setQ_some r2 b2 hd
      obtain ⟨k, hk, c1, f1, hr4⟩ := hr3.step
      have a4 := Blk.other 1 (.int .i64 ((k : Int) + 1)) a3 (show w2.heap.size ≠ w.heap.size + 1 by omega)
      have z4 := Blk.other 1 (.int .i64 ((k : Int) + 1)) z3 (show w.heap.size ≠ w.heap.size + 1 by omega)
      have hB4 := hB3.setCell (p := ⟨w.heap.size + 1, 1, none⟩) (by simp) (.int .i64 ((k : Int) + 1))
      have HX := Lib.hid hX
      have hm4 := Lib.hid (numberR_any 0 63 (by omega) (by omega) (by omega) (w.heap.size + 1) s R false _ hr4 hl)
      clear hX hd hr3 a3 z3 hB3 hr4
      go_wp2_with fail
      refine hm4.out.mono ?_
      rintro e w4 ⟨v, hv1, hv2, rfl, hr5, hres5, hg5⟩
      have a5 := a4.kept hg5 (by simp; omega)
      have z5 := z4.kept hg5 (by simp)
      have hB5 := below_own hB4 hg5 (by omega)
      have hm5 := Lib.hid (withR_any 0 v hv1 hv2 (by omega) w4)
      have HRes5 := Lib.hid hres5
      have a51 := a5.cell 1
      have fa1 := a5.frozen 1
      simp at a51
      have H5 := Lib.hid (And.intro hr5 (And.intro a5 (And.intro z5 hB5)))
      clear hm4 hr5 hres5 hg5 a4 z4 hB4 a5 z5 hB5 c1 f1
      go_wp2_with fail
      refine hm5.out.mono ?_
      rintro e w5 ⟨z, er, hz, rfl, hzn, rfl⟩
      have hsq : SetQ (lift 0 pset (123 :: R, false)) (lift 0 (pnum 0 63) (R, false)).2 v z := setQ_start (f := 63) (lo := -1) (a := 0) (z := z) (R := R) (X := lift 0 pset (123 :: R, false)) (v := v) (by omega) (by omega) HX.out HRes5.out hzn
      have HSQ := Lib.hid hsq
      have hr6 := RdQ.other 1 (.int .u64 z) H5.out.1 (show w.heap.size + 1 ≠ w2.heap.size by omega)
      have a6 := Blk.set 1 (.int .u64 z) H5.out.2.1
      simp at a6
      have z6 := Blk.other 1 (.int .u64 z) H5.out.2.2.1 (show w.heap.size ≠ w2.heap.size by omega)
      have hB6 := H5.out.2.2.2.setCell (p := ⟨w2.heap.size, 1, none⟩) (by simp; omega) (.int .u64 z)
      have H6 := Lib.hid (And.intro hr6 (And.intro a6 (And.intro z6 hB6)))
      clear hm5 hzn hsq hr6 a6 z6 hB6
      go_upto_block 0 with fail
      have hq0 := H6.out.1.len
      generalize (lift 0 (pnum 0 63) (R, false)).2 = q0 at *
      obtain ⟨X, hX⟩ : ∃ X, lift 0 pset (123 :: R, false) = X := ⟨_, rfl⟩
      have HX2 := Lib.hid hX
      rw [hX] at HSQ
      clear hX HX H5 HRes5 a51 fa1 hk
      go_wp2_with fail
      go_loopg [7] (s.length + 1) (fun gf x7 wx => ∃ (q : List UInt8 × Bool) (v : Int) (acc : Nat), q.1.length ≤ gf ∧ -1 ≤ v ∧ v ≤ 63 ∧ x7 = .int .i64 v ∧ acc < 18446744073709551616 ∧ Hid (SetQ X q v acc) ∧ Hid (RdQ wx (w.heap.size + 1) s q ∧ Blk wx w2.heap.size #[.int .i64 lv', .int .u64 acc, .int .i64 0] 36 ∧ Blk wx w.heap.size #[.int .i64 0, .int .u64 0, .int .i64 0] 36 ∧ Below w.heap.size w wx))
      case atStart => exact ⟨q0, v, z, by omega, hv1, hv2, rfl, hz, HSQ, H6⟩
      case round =>
        obtain ⟨q, v, acc, hq, hv1, hv2, rfl, hacc, hsq, hst⟩ := hrel
        have hBd : ∀ n, Below w.heap.size w (wr.drewN n) := fun n => ⟨hst.out.2.2.2.os, hst.out.2.2.2.tape, hst.out.2.2.2.output, hst.out.2.2.2.size, hst.out.2.2.2.block⟩
        have hi8 := Lib.hid (isR_any 44 (w.heap.size + 1) s q.1 q.2 wr (show RdQ wr (w.heap.size + 1) s (q.1, q.2) from hst.out.1) hl)
        clear HSQ H6 hq0 hz
        cases hd : hdB 44 (q.1, q.2) with
        | false =>
          rw [hd] at hi8
          go_wp2_with fail
          refine hi8.out.mono ?_
          rintro e w7 ⟨rfl, n8, rfl⟩
          clear hi8
          have HEnd := Lib.hid (setQ_end hsq.out (.inl hd))
          have hm7 := Lib.hid (mustR_any 125 (w.heap.size + 1) s q.1 q.2 _ (show RdQ (wr.drewN n8) (w.heap.size + 1) s (q.1, q.2) from hst.out.1) hl)
          have Hst := Lib.hid hst.out
          clear hsq hst
          go_wp2_with fail
          refine hm7.out.mono ?_
          rintro e w8 ⟨rfl, hr8, hg8⟩
          have a8 := Blk.kept (show Blk (wr.drewN n8) _ _ _ from Hst.out.2.1) hg8 (by simp; omega)
          have z8 := Blk.kept (show Blk (wr.drewN n8) _ _ _ from Hst.out.2.2.1) hg8 (by simp)
          have hB8 := below_own (hBd n8) hg8 (by omega)
          have H8 := Lib.hid (And.intro hr8 (And.intro a8 (And.intro z8 hB8)))
          clear hm7 hr8 hg8 a8 z8 hB8
          go_wp2_with fail
          go_meet
          exact ⟨acc, hacc, by rw [HX2.out, HEnd.out.1]; exact H8.out.1, by rw [HX2.out]; exact HEnd.out.2, H8.out.2.1, H8.out.2.2.1, H8.out.2.2.2⟩
        | true =>
          rw [hd] at hi8
          by_cases h63 : v < 63
          · obtain ⟨f, R2, e1, e2, hv0, hf, hX3⟩ := setQ_more hsq.out hd h63
            obtain ⟨q1, q2⟩ := q
            simp only at e1 e2 hq
            subst e1 e2
            have hX4 := Lib.hid hX3
            have hv1' : v + 1 ≤ 63 := by omega
            have hv0' : 0 ≤ v + 1 := by omega
            clear hX3 hsq hd
            go_wp2_with fail
            refine hi8.out.mono ?_
            rintro e w7 ⟨rfl, n8, rfl⟩
            obtain ⟨k, hk, c1, f1, hr4⟩ := RdQ.step (show RdQ (wr.drewN n8) (w.heap.size + 1) s (44 :: R2, false) from hst.out.1)
            have a4 := Blk.other 1 (.int .i64 ((k : Int) + 1)) (show Blk (wr.drewN n8) _ _ _ from hst.out.2.1) (show w2.heap.size ≠ w.heap.size + 1 by omega)
            have z4 := Blk.other 1 (.int .i64 ((k : Int) + 1)) (show Blk (wr.drewN n8) _ _ _ from hst.out.2.2.1) (show w.heap.size ≠ w.heap.size + 1 by omega)
            have hB4 := (hBd n8).setCell (p := ⟨w.heap.size + 1, 1, none⟩) (by simp) (.int .i64 ((k : Int) + 1))
            have hm4 := Lib.hid (numberR_any (v + 1) 63 hv0' hv1' (by omega) (w.heap.size + 1) s R2 false _ hr4 hl)
            have hlen := lift_len (Str.num (v + 1) 63) (0 : Int) R2 false
            clear hi8 hst hr4
            go_wp2_with fail
            refine hm4.out.mono ?_
            rintro e w8 ⟨v2, hv21, hv22, rfl, hr5, hres5, hg5⟩
            have a5 := a4.kept hg5 (by simp; omega)
            have z5 := z4.kept hg5 (by simp)
            have hB5 := below_own hB4 hg5 (by omega)
            have hm5 := Lib.hid (withR_any acc v2 hv21 hv22 hacc w8)
            have a51 := a5.cell 1
            have fa1 := a5.frozen 1
            simp at a51
            have H5 := Lib.hid (And.intro hr5 (And.intro a5 (And.intro z5 hB5)))
            have HRes5 := Lib.hid hres5
            clear hm4 hr5 hres5 hg5 a4 z4 hB4 a5 z5 hB5 c1 f1
            go_wp2_with fail
            refine hm5.out.mono ?_
            rintro e w9 ⟨z2, er2, hz2, rfl, hzn2, rfl⟩
            have hsq := setQ_start (f := f) (lo := v) (a := acc) (z := z2) (R := R2) (X := X) (v := v2) (by omega) hf hX4.out HRes5.out hzn2
            have HSQ2 := Lib.hid hsq
            have hr6 := RdQ.other 1 (.int .u64 z2) H5.out.1 (show w.heap.size + 1 ≠ w2.heap.size by omega)
            have a6 := Blk.set 1 (.int .u64 z2) H5.out.2.1
            simp at a6
            have z6 := Blk.other 1 (.int .u64 z2) H5.out.2.2.1 (show w.heap.size ≠ w2.heap.size by omega)
            have hB6 := H5.out.2.2.2.setCell (p := ⟨w2.heap.size, 1, none⟩) (by simp; omega) (.int .u64 z2)
            have H7 := Lib.hid (And.intro hr6 (And.intro a6 (And.intro z6 hB6)))
            clear hm5 hzn2 hsq hr6 a6 z6 hB6 H5 HRes5 hX4
            simp only [List.length_cons] at hq
            generalize (lift 0 (pnum (v + 1) 63) (R2, false)).2 = q9 at *
            obtain ⟨g, rfl⟩ : ∃ g, gk = g + 1 := ⟨gk - 1, by omega⟩
            go_wp2_with fail
            go_roundg g
            case measure => omega
            case rel => exact ⟨q9, v2, z2, by omega, hv21, hv22, rfl, hz2, HSQ2, H7⟩
          · go_wp2_with fail
            refine hi8.out.mono ?_
            rintro e w7 ⟨rfl, n8, rfl⟩
            clear hi8
            have HEnd := Lib.hid (setQ_end hsq.out (.inr (by omega)))
            have hm7 := Lib.hid (mustR_any 125 (w.heap.size + 1) s q.1 q.2 _ (show RdQ (wr.drewN n8) (w.heap.size + 1) s (q.1, q.2) from hst.out.1) hl)
            have Hst := Lib.hid hst.out
            clear hsq hst
            go_wp2_with fail
            refine hm7.out.mono ?_
            rintro e w8 ⟨rfl, hr8, hg8⟩
            have a8 := Blk.kept (show Blk (wr.drewN n8) _ _ _ from Hst.out.2.1) hg8 (by simp; omega)
            have z8 := Blk.kept (show Blk (wr.drewN n8) _ _ _ from Hst.out.2.2.1) hg8 (by simp)
            have hB8 := below_own (hBd n8) hg8 (by omega)
            have H8 := Lib.hid (And.intro hr8 (And.intro a8 (And.intro z8 hB8)))
            clear hm7 hr8 hg8 a8 z8 hB8
            go_wp2_with fail
            go_meet
            exact ⟨acc, hacc, by rw [HX2.out, HEnd.out.1]; exact H8.out.1, by rw [HX2.out]; exact HEnd.out.2, H8.out.2.1, H8.out.2.2.1, H8.out.2.2.2⟩
  case rest =>
    obtain ⟨z, hz, hr3, hres3, a3, z3, hB3⟩ := hcut
    rcases hs3 : lift 0 pset (r2, b2) with ⟨S, r3, b3⟩
    rw [hs3] at hr3 hres3
    simp only at hr3 hres3
    have HS3 := Lib.hid hs3
    have HRes3 := Lib.hid hres3
    have hm4 := Lib.hid (mustR_any 73 (w.heap.size + 1) s r3 b3 _ hr3 hl)
    clear hm3 hr2a z2a a2 hB2a hs3 hr3 hres3
    go_wp2_with fail
    refine hm4.out.mono ?_
    rintro e w4 ⟨rfl, hr4, hg4⟩
    rcases hs4 : lift () (pmust 73) (r3, b3) with ⟨u4, r4, b4⟩
    rw [hs4] at hr4
    simp only at hr4
    have hB4 := below_own hB3 hg4 (by omega)
    have a4 := a3.kept hg4 (by simp; omega)
    have z4 := z3.kept hg4 (by simp)
    have HS4 := Lib.hid hs4
    have hm5 := Lib.hid (numberR_any 0 7 (by omega) (by omega) (by omega) (w.heap.size + 1) s r4 b4 _ hr4 hl)
    clear hm4 hs4 hr4 hg4 a3 z3 hB3
    go_wp2_with fail
    refine hm5.out.mono ?_
    rintro e w5 ⟨ig', hv5, hv6, rfl, hr5, hres5, hg5⟩
    rcases hs5 : lift 0 (pnum 0 7) (r4, b4) with ⟨ig, r5, b5⟩
    rw [hs5] at hr5 hres5
    simp only at hr5 hres5
    have hB5 := below_own hB4 hg5 (by omega)
    have a5 := a4.kept hg5 (by simp; omega)
    have z5 := z4.kept hg5 (by simp)
    obtain ⟨q1, q2⟩ := parse_seq HS1.out HS2.out HS3.out HS4.out hs5
    have a52 := a5.cell 2
    have fa2 := a5.frozen 2
    simp at a52
    have a5s := a5.set 2 (.int .i64 ig')
    simp at a5s
    have z5s := Blk.other 2 (.int .i64 ig') z5 (show w.heap.size ≠ w2.heap.size by omega)
    have hr5s := RdQ.other 2 (.int .i64 ig') hr5 (show w.heap.size + 1 ≠ w2.heap.size by omega)
    have hB5s := hB5.setCell (p := ⟨w2.heap.size, 2, none⟩) (by simp; omega) (.int .i64 ig')
    have hbad : (b5 = true ∨ r5 ≠ []) → parL s = (0, 0, 0) ∧ parAt s = (s.length : Int) - r5.length ∧ parE s = 50 := by
      intro h
      have hp : ptext s = (none, r5) := by
        cases b5 with
        | true => exact q1 rfl
        | false => exact (q2 rfl).2.2 (h.resolve_left (by simp))
      unfold parL parAt parE; rw [hp]; exact ⟨rfl, rfl, rfl⟩
    have hgood : b5 = false → r5 = [] → parL s = (lv', z, ig') ∧ parAt s = 0 ∧ parE s = 0 := by
      intro h h2
      obtain ⟨k1, k2, -⟩ := q2 h
      have hp := k2 h2
      have e3 := HRes3.out k1
      have e5 := hres5 h
      have hb2 : b2 = false := by
        subst k1
        rcases lift_cases HS3.out with ⟨-, x, -⟩ | ⟨-, x, -⟩ | ⟨x, -⟩
        · cases x
        · cases x
        · exact x
      have e2 := HRes2.out hb2
      unfold parL parAt parE; rw [hp, e2, e3, e5]; exact ⟨rfl, rfl, rfl⟩
    obtain ⟨k, hk, hrk, hbk⟩ := hr5s
    have c1 := hbk.cell 1
    have c2 := hbk.cell 2
    simp at c1 c2 hrk
    have hlen : (s.length : Int) - r5.length = k := by rw [hrk, List.length_drop]; omega
    have hnil : r5 = [] ↔ k = s.length := by
      rw [hrk]; constructor
      · intro h; have := congrArg List.length h; rw [List.length_drop, List.length_nil] at this; omega
      · intro h; rw [List.drop_of_length_le (by omega)]
    rw [hlen] at hbad
    have Hbad := Lib.hid hbad
    have Hgood := Lib.hid hgood
    have HZ := Lib.hid (And.intro a5s (And.intro z5s hB5s))
    clear hm5 hs5 hr5 hres5 hg5 a4 z4 hB4 a5 z5 hB5 q1 q2 hbad hgood hrk hbk a5s z5s hB5s hlen
    cases b5 with
    | true =>
      obtain ⟨e1, e2, e3⟩ := Hbad.out (.inl rfl)
      have E1 := Lib.hid e1
      have E2 := Lib.hid e2
      have E3 := Lib.hid e3
      clear e1 e2 e3
      have y := HZ.out.2.1
      have y0 := y.cell 0
      have y1 := y.cell 1
      have y2 := y.cell 2
      have g0 := y.frozen 0
      have g1 := y.frozen 1
      have g2 := y.frozen 2
      simp at y0 y1 y2
      have HY := Lib.hid y
      clear y
      go_wp2_with fail
      go_region_held3 (fun u => u.cell? ⟨w.heap.size + 1, 1, none⟩ = some (.int .i64 k)) (first | go_keep) (fail)
      all_goals go_wp2_with fail
      have zf := ((Blk.set 0 (.int .i64 0) HY.out).set 1 (.int .u64 0)).set 2 (.int .i64 0)
      have q0 := zf.cell 0
      have q1 := zf.cell 1
      have q2 := zf.cell 2
      simp at q0 q1 q2
      have hBe := ((HZ.out.2.2.setCell (p := ⟨w.heap.size, 0, none⟩) (Nat.le_refl _) (.int .i64 0)).setCell (p := ⟨w.heap.size, 1, none⟩) (Nat.le_refl _) (.int .u64 0)).setCell (p := ⟨w.heap.size, 2, none⟩) (Nat.le_refl _) (.int .i64 0)
      exact bodyPost_ret (v := .tuple #[.agg #[.int .i64 0, .int .u64 0, .int .i64 0], .int .i64 k, .int .i64 50]) (by simp [results, Tryz.results50, go_sem, q0, q1, q2]) rfl ⟨by rw [E1.out, E2.out, E3.out]; rfl, hBe.os, hBe.tape, hBe.output, hBe.size, hBe.block⟩
    | false =>
      by_cases hkl : k < s.length
      · have hkl1 : (k : Int) < s.length := by omega
        obtain ⟨e1, e2, e3⟩ := Hbad.out (.inr (fun h => by have := hnil.1 h; omega))
        have E1 := Lib.hid e1
        have E2 := Lib.hid e2
        have E3 := Lib.hid e3
        clear e1 e2 e3
        have y := HZ.out.2.1
        have y0 := y.cell 0
        have y1 := y.cell 1
        have y2 := y.cell 2
        have g0 := y.frozen 0
        have g1 := y.frozen 1
        have g2 := y.frozen 2
        simp at y0 y1 y2
        have HY := Lib.hid y
        clear y
        go_wp2_with fail
        go_region_held3 (fun u => u.cell? ⟨w.heap.size + 1, 1, none⟩ = some (.int .i64 k)) (first | go_keep) (fail)
        all_goals go_wp2_with fail
        have zf := ((Blk.set 0 (.int .i64 0) HY.out).set 1 (.int .u64 0)).set 2 (.int .i64 0)
        have q0 := zf.cell 0
        have q1 := zf.cell 1
        have q2 := zf.cell 2
        simp at q0 q1 q2
        have hBe := ((HZ.out.2.2.setCell (p := ⟨w.heap.size, 0, none⟩) (Nat.le_refl _) (.int .i64 0)).setCell (p := ⟨w.heap.size, 1, none⟩) (Nat.le_refl _) (.int .u64 0)).setCell (p := ⟨w.heap.size, 2, none⟩) (Nat.le_refl _) (.int .i64 0)
        exact bodyPost_ret (v := .tuple #[.agg #[.int .i64 0, .int .u64 0, .int .i64 0], .int .i64 k, .int .i64 50]) (by simp [results, Tryz.results50, go_sem, q0, q1, q2]) rfl ⟨by rw [E1.out, E2.out, E3.out]; rfl, hBe.os, hBe.tape, hBe.output, hBe.size, hBe.block⟩
      · have hkl1 : ¬ (k : Int) < s.length := by omega
        obtain ⟨e1, e2, e3⟩ := Hgood.out rfl (hnil.2 (by omega))
        have E1 := Lib.hid e1
        have E2 := Lib.hid e2
        have E3 := Lib.hid e3
        clear e1 e2 e3
        have y := HZ.out.2.1
        have y0 := y.cell 0
        have y1 := y.cell 1
        have y2 := y.cell 2
        have g0 := y.frozen 0
        have g1 := y.frozen 1
        have g2 := y.frozen 2
        simp at y0 y1 y2
        have HY := Lib.hid y
        clear y
        have ya := HZ.out.1
        have x0 := ya.cell 0
        have x1 := ya.cell 1
        have x2 := ya.cell 2
        simp at x0 x1 x2
        clear ya
        go_wp2_with fail
        have zf := ((Blk.set 0 (.int .i64 lv') HY.out).set 1 (.int .u64 z)).set 2 (.int .i64 ig')
        have q0 := zf.cell 0
        have q1 := zf.cell 1
        have q2 := zf.cell 2
        simp at q0 q1 q2
        have hBe := ((HZ.out.2.2.setCell (p := ⟨w.heap.size, 0, none⟩) (Nat.le_refl _) (.int .i64 lv')).setCell (p := ⟨w.heap.size, 1, none⟩) (Nat.le_refl _) (.int .u64 z)).setCell (p := ⟨w.heap.size, 2, none⟩) (Nat.le_refl _) (.int .i64 ig')
        exact bodyPost_ret (v := .tuple #[.agg #[.int .i64 lv', .int .u64 z, .int .i64 ig'], .int .i64 0, .int .i64 0]) (by simp [results, Tryz.results50, go_sem, q0, q1, q2]) rfl ⟨by rw [E1.out, E2.out, E3.out], hBe.os, hBe.tape, hBe.output, hBe.size, hBe.block⟩
end Go.Proofs.YtmmdpjliknmhgaaGreatDoor
/- Walk of the document's answer for layer 13: Parse. -/
namespace Go.Proofs.YtmmdpjliknmhgaaGreatDoor
open Go.RowKit Go.Maps
def fheadOf (k n : Int) : List UInt8 := wordOf k ++ 32 :: digL n
def fformOf (k n : Int) (l : List UInt8) : List UInt8 := if k = 1 then [] else l.drop ((fheadOf k n).length + 1)
def fhitB (k n : Int) (l : List UInt8) : Bool := rightB k n (fformOf k n l) && (fprintL k n (fformOf k n l) == l)
theorem fhead_len (k n : Int) (h : n ≤ 9223372036854775807) : (fheadOf k n).length ≤ 25 := by
  have h1 := (word_ok k).2
  have h2 := digL_len n h
  unfold fheadOf; simp; omega
theorem fhit_head (k n : Int) (l : List UInt8) (h : fhitB k n l = true) : List.take (fheadOf k n).length l = fheadOf k n := by
  simp only [fhitB, Bool.and_eq_true, beq_iff_eq] at h
  have e : l = fheadOf k n ++ (if k = 1 then [] else 32 :: fformOf k n l) := by rw [← h.2]; simp only [h.2]; rw [fprintL] at h; exact h.2.symm
  rw [e]; simp
theorem fhit_yes (k n : Int) (l : List UInt8) (h : fhitB k n l = true) : parK l = k ∧ parM l = n ∧ parF l = fformOf k n l ∧ fparE l = 0 := by
  simp only [fhitB, Bool.and_eq_true, beq_iff_eq] at h
  have hp := fback_there k n (fformOf k n l) h.1
  have e : printA k n (fformOf k n l) = l := by rw [printA, h.1]; exact h.2
  rw [e] at hp
  exact hp
theorem fhit_none (l : List UInt8) (h : ∀ (k n : Nat), 1 ≤ k → k ≤ 3 → n ≤ 200 → fhitB k n l = false) : parK l = 0 ∧ parM l = 0 ∧ parF l = [] ∧ fparE l = 130 := by
  have hno : parOk l = false := by
    rw [Bool.eq_false_iff]
    intro ho
    simp only [parOk, Bool.and_eq_true, beq_iff_eq] at ho
    obtain ⟨hr, hl⟩ := ho
    have hf := right_facts hr
    generalize pKind l = K at *
    generalize pMax l = M at *
    generalize pForm l = F at *
    obtain ⟨k, rfl⟩ := Int.eq_ofNat_of_zero_le (show 0 ≤ K by omega)
    obtain ⟨m, rfl⟩ := Int.eq_ofNat_of_zero_le hf.1
    have hfo : fformOf k m l = F := by
      unfold fformOf
      split
      · rename_i h1
        rw [h1] at hr
        exact (right_lenform hr).symm
      · rename_i h1
        rw [← hl]
        have e : fprintL k m F = fheadOf k m ++ 32 :: F := by rw [fprintL, if_neg h1]; rfl
        rw [e, List.drop_append]
        simp
    have := h k m (by omega) (by omega) (by omega)
    rw [fhitB, hfo, hr, hl] at this
    simp at this
  rw [parK, parM, parF, fparE, hno]
  exact ⟨rfl, rfl, rfl, rfl⟩
theorem fhit_as (k n : Int) (l : List UInt8) : fhitB k n l = ((errE k n (fformOf k n l) == 0) && (printA k n (fformOf k n l) == l)) := by
  rw [fhitB, errE, printA]
  cases rightB k n (fformOf k n l) <;> simp
set_option maxRecDepth 100000 in
set_option maxHeartbeats 8000000 in
theorem fparseR_any (l : List UInt8) (hl : l.length ≤ 1000) (w : World) :
    Calls Tryz.prog 51 #[.string ⟨l.toArray⟩] w fun e w' => e = .returned (.tuple #[fV (parK l) (parM l) (parF l), .int .i64 (fparE l)]) ∧ Below w.heap.size w w' := by
  have hB0 := (Below.refl w.heap.size w).alloc (Nat.le_refl _) (.cells #[.int .i64 0, .int .i64 0, .string ⟨#[]⟩] 38)
  have b0 := Blk.new w #[.int .i64 0, .int .i64 0, .string ⟨#[]⟩] 38
  go_enter Tryz.func51, Tryz.ntmps51
  go_wp2
  go_loopw [4] (fun i wr => ∃ k : Nat, 1 ≤ k ∧ k ≤ 4 ∧ i = .int .i64 k ∧ Blk wr w.heap.size #[.int .i64 0, .int .i64 0, .string ⟨#[]⟩] 38 ∧ Below w.heap.size w wr ∧ Hid (∀ (k' n : Nat), 1 ≤ k' → k' < k → n ≤ 200 → fhitB k' n l = false)) (fun i _ => 4 - (intOf i).toNat)
  case atStart => exact ⟨1, Nat.le_refl _, by omega, rfl, b0, hB0, fun k' n h1 h2 => absurd h2 (by omega)⟩
  case round =>
    obtain ⟨k, hk1, hk4, rfl, hb, hB, hc⟩ := hrel
    clear b0 hB0
    by_cases hlt : k ≤ 3
    · have hk3 : (k : Int) ≤ 3 := by omega
      go_wp2
      go_loopw [5] (fun i wr => ∃ n : Nat, n ≤ 201 ∧ i = .int .i64 n ∧ Blk wr w.heap.size #[.int .i64 0, .int .i64 0, .string ⟨#[]⟩] 38 ∧ Below w.heap.size w wr ∧ Hid (∀ n' : Nat, n' < n → fhitB k n' l = false)) (fun i _ => 201 - (intOf i).toNat)
      case atStart => exact ⟨0, by omega, rfl, hb, hB, fun n' h => absurd h (by omega)⟩
      case round =>
        obtain ⟨n, hn, rfl, hb2, hB2, hc2⟩ := hrel
        clear hb hB
        by_cases hn2 : n ≤ 200
        · have hH := fhead_len k n (by omega)
          have hhd := Lib.hid (fhit_head k n l)
          have hyes := Lib.hid (fhit_yes k n l)
          have has := Lib.hid (fhit_as k n l)
          have hfo : Hid (fformOf k n l = if (k : Int) = 1 then [] else l.drop ((fheadOf k n).length + 1)) := rfl
          have HW := fun u => fword_any k u
          have HD := fun u => fdigitsR_any n (by omega) (by omega) u
          have hfl : (fformOf k n l).length ≤ 1000 := by unfold fformOf; split <;> simp; omega
          have HP := fun u => fprintR_any k n (fformOf k n l) hfl u
          have hwd : wordOf k ++ [32] ++ digL n = fheadOf k n := by simp [fheadOf]
          have hwl := (word_ok k).2
          have hdl := digL_len n (by omega)
          have HN : Hid (fhitB k n l = false → ∀ n' : Nat, n' < n + 1 → fhitB k n' l = false) := by
            intro hf n' h
            rcases Nat.lt_or_ge n' n with h' | h'
            · exact hc2.out n' h'
            · obtain rfl : n' = n := by omega
              exact hf
          clear hc2
          generalize wordOf k = WK at *
          generalize digL n = DN at *
          generalize fheadOf k n = H at *
          have hn3 : (n : Int) ≤ 200 := by omega
          by_cases hpre : List.take H.length l = H
          · have hpl : H.length ≤ l.length := by rw [← hpre]; simp; omega
            have hpre' : (List.take H.length l == H) = true := by rw [hpre]; simp
            by_cases h1 : (k : Int) = 1
            · have hk1' : ((k : Int) != 1) = false := by simpa using h1
              have hfe : fformOf k n l = [] := by rw [hfo.out, if_pos h1]
              rw [hfe] at HP has hyes
              clear hfo hhd hpre h1 hfe hfl
              go_wp2_with (first
                | (go_at_call 72; refine (HW _).mono ?_; rintro e w' ⟨rfl, rfl⟩)
                | (go_at_call 46; refine (HD _).mono ?_; rintro e w3 ⟨rfl, hb3⟩))
              have hB3 := hB2.trans (hb3.mono hB2.size)
              have hb3b := hb2.below hb3 hb2.lt
              have hbf : Blk (w3.alloc (.cells #[.int .i64 k, .int .i64 n, .string ⟨(([] : List UInt8)).toArray⟩] 38)) w3.heap.size #[.int .i64 k, .int .i64 n, .string ⟨(([] : List UInt8)).toArray⟩] 38 := Blk.new _ _ _
              have hbo := hb3b.alloc (.cells #[.int .i64 k, .int .i64 n, .string ⟨(([] : List UInt8)).toArray⟩] 38)
              have hB4 := hB3.alloc hB3.size (.cells #[.int .i64 k, .int .i64 n, .string ⟨(([] : List UInt8)).toArray⟩] 38)
              refine (HP _).mono ?_
              rintro e w4 ⟨rfl, hb4⟩
              have hB5 := hB4.trans (hb4.mono hB4.size)
              have hf5 := hbf.below hb4 hbf.lt
              have ho5 := hbo.below hb4 hbo.lt
              clear HW HD HP hb2 hB2 hb3 hB3 hb3b hbf hbo hB4 hb4
              have hHIT := Lib.hid (show fhitB k n l = ((errE k n (([] : List UInt8)) == 0) && (printA k n (([] : List UInt8)) == l)) from has.out)
              clear has
              generalize errE k n (([] : List UInt8)) = ER at *
              generalize printA k n (([] : List UInt8)) = PA at *
              have x0 := hf5.cell 0
              have x1 := hf5.cell 1
              have x2 := hf5.cell 2
              have y0 := ho5.cell 0
              have y1 := ho5.cell 1
              have y2 := ho5.cell 2
              have z0 := ho5.frozen 0
              have z1 := ho5.frozen 1
              have z2 := ho5.frozen 2
              simp at x0 x1 x2 y0 y1 y2
              cases he : (ER == 0) with
              | false =>
                have hN' := Lib.hid (HN.out (by rw [hHIT.out, he]; rfl))
                clear hHIT HN hyes x0 x1 x2 y0 y1 y2 z0 z1 z2
                go_wp2_with fail
                go_round
                case rel => exact ⟨n + 1, by omega, by go_num, ho5, hB5, hN'⟩
                case measure => simp [intOf]; omega
              | true =>
                obtain rfl : ER = 0 := by simpa using he
                cases hp : (PA == l) with
                | false =>
                  have hN' := Lib.hid (HN.out (by rw [hHIT.out, hp]; simp))
                  clear hHIT HN hyes x0 x1 x2 y0 y1 y2 z0 z1 z2
                  go_wp2_with fail
                  go_round
                  case rel => exact ⟨n + 1, by omega, by go_num, ho5, hB5, hN'⟩
                  case measure => simp [intOf]; omega
                | true =>
                  have HY := Lib.hid (hyes.out (by rw [hHIT.out, hp]; rfl))
                  clear hHIT HN hyes hc
                  go_wp2_with fail
                  have hfin := ((ho5.set 0 (.int .i64 k)).set 1 (.int .i64 n)).set 2 (.string ⟨(([] : List UInt8)).toArray⟩)
                  have q0 := hfin.cell 0
                  have q1 := hfin.cell 1
                  have q2 := hfin.cell 2
                  simp at q0 q1 q2
                  have hBf : Below w.heap.size w (((w4.setCell ⟨w.heap.size, 0, none⟩ (.int .i64 k)).setCell ⟨w.heap.size, 1, none⟩ (.int .i64 n)).setCell ⟨w.heap.size, 2, none⟩ (.string ⟨(([] : List UInt8)).toArray⟩)) :=
                    ((hB5.setCell (p := ⟨w.heap.size, 0, none⟩) (Nat.le_refl _) _).setCell (p := ⟨w.heap.size, 1, none⟩) (Nat.le_refl _) _).setCell (p := ⟨w.heap.size, 2, none⟩) (Nat.le_refl _) _
                  refine bodyPost_ret (v := .tuple #[fV k n (([] : List UInt8)), .int .i64 0]) (by simp [results, Tryz.results51, go_sem, q0, q1, q2]) rfl ⟨by rw [HY.out.1, HY.out.2.1, HY.out.2.2.1, HY.out.2.2.2], hBf⟩
            · have hk1' : ((k : Int) != 1) = true := by simpa using h1
              have hfe : fformOf k n l = l.drop (H.length + 1) := by rw [hfo.out, if_neg h1]
              rw [hfe] at HP has hyes
              clear hfo hhd hpre h1 hfe hfl
              by_cases hlong : H.length < l.length
              · obtain ⟨v1, v2, v3⟩ := sum_i H.length 1 (H.length+1) (by omega) (by omega)
                have v4 : (H.length : Int) + 1 ≤ l.length := by clear v1 v3; omega
                have htake : List.take (l.length - (H.length + 1)) (List.drop (H.length + 1) l) = List.drop (H.length + 1) l := List.take_of_length_le (by simp)
                go_upto_region 11 with (first
                  | (go_at_call 72; refine (HW _).mono ?_; rintro e w' ⟨rfl, rfl⟩)
                  | (go_at_call 46; refine (HD _).mono ?_; rintro e w3 ⟨rfl, hb3⟩))
                go_upto_region 12 with fail
                clear htake v1 v2 v3 v4
                generalize List.drop (H.length + 1) l = FO at *
                go_wp2_with fail
                have hB3 := hB2.trans (hb3.mono hB2.size)
                have hb3b := hb2.below hb3 hb2.lt
                have hbf : Blk (w3.alloc (.cells #[.int .i64 k, .int .i64 n, .string ⟨(FO).toArray⟩] 38)) w3.heap.size #[.int .i64 k, .int .i64 n, .string ⟨(FO).toArray⟩] 38 := Blk.new _ _ _
                have hbo := hb3b.alloc (.cells #[.int .i64 k, .int .i64 n, .string ⟨(FO).toArray⟩] 38)
                have hB4 := hB3.alloc hB3.size (.cells #[.int .i64 k, .int .i64 n, .string ⟨(FO).toArray⟩] 38)
                refine (HP _).mono ?_
                rintro e w4 ⟨rfl, hb4⟩
                have hB5 := hB4.trans (hb4.mono hB4.size)
                have hf5 := hbf.below hb4 hbf.lt
                have ho5 := hbo.below hb4 hbo.lt
                clear HW HD HP hb2 hB2 hb3 hB3 hb3b hbf hbo hB4 hb4
                have hHIT := Lib.hid (show fhitB k n l = ((errE k n (FO) == 0) && (printA k n (FO) == l)) from has.out)
                clear has
                generalize errE k n (FO) = ER at *
                generalize printA k n (FO) = PA at *
                have x0 := hf5.cell 0
                have x1 := hf5.cell 1
                have x2 := hf5.cell 2
                have y0 := ho5.cell 0
                have y1 := ho5.cell 1
                have y2 := ho5.cell 2
                have z0 := ho5.frozen 0
                have z1 := ho5.frozen 1
                have z2 := ho5.frozen 2
                simp at x0 x1 x2 y0 y1 y2
                cases he : (ER == 0) with
                | false =>
                  have hN' := Lib.hid (HN.out (by rw [hHIT.out, he]; rfl))
                  clear hHIT HN hyes x0 x1 x2 y0 y1 y2 z0 z1 z2
                  go_wp2_with fail
                  go_round
                  case rel => exact ⟨n + 1, by omega, by go_num, ho5, hB5, hN'⟩
                  case measure => simp [intOf]; omega
                | true =>
                  obtain rfl : ER = 0 := by simpa using he
                  cases hp : (PA == l) with
                  | false =>
                    have hN' := Lib.hid (HN.out (by rw [hHIT.out, hp]; simp))
                    clear hHIT HN hyes x0 x1 x2 y0 y1 y2 z0 z1 z2
                    go_wp2_with fail
                    go_round
                    case rel => exact ⟨n + 1, by omega, by go_num, ho5, hB5, hN'⟩
                    case measure => simp [intOf]; omega
                  | true =>
                    have HY := Lib.hid (hyes.out (by rw [hHIT.out, hp]; rfl))
                    clear hHIT HN hyes hc
                    go_wp2_with fail
                    have hfin := ((ho5.set 0 (.int .i64 k)).set 1 (.int .i64 n)).set 2 (.string ⟨(FO).toArray⟩)
                    have q0 := hfin.cell 0
                    have q1 := hfin.cell 1
                    have q2 := hfin.cell 2
                    simp at q0 q1 q2
                    have hBf : Below w.heap.size w (((w4.setCell ⟨w.heap.size, 0, none⟩ (.int .i64 k)).setCell ⟨w.heap.size, 1, none⟩ (.int .i64 n)).setCell ⟨w.heap.size, 2, none⟩ (.string ⟨(FO).toArray⟩)) :=
                      ((hB5.setCell (p := ⟨w.heap.size, 0, none⟩) (Nat.le_refl _) _).setCell (p := ⟨w.heap.size, 1, none⟩) (Nat.le_refl _) _).setCell (p := ⟨w.heap.size, 2, none⟩) (Nat.le_refl _) _
                    refine bodyPost_ret (v := .tuple #[fV k n (FO), .int .i64 0]) (by simp [results, Tryz.results51, go_sem, q0, q1, q2]) rfl ⟨by rw [HY.out.1, HY.out.2.1, HY.out.2.2.1, HY.out.2.2.2], hBf⟩
              · have hemp : l.drop (H.length + 1) = [] := List.drop_eq_nil_of_le (by omega)
                rw [hemp] at HP has hyes
                clear hemp
                go_wp2_with (first
                  | (go_at_call 72; refine (HW _).mono ?_; rintro e w' ⟨rfl, rfl⟩)
                  | (go_at_call 46; refine (HD _).mono ?_; rintro e w3 ⟨rfl, hb3⟩))
                have hB3 := hB2.trans (hb3.mono hB2.size)
                have hb3b := hb2.below hb3 hb2.lt
                have hbf : Blk (w3.alloc (.cells #[.int .i64 k, .int .i64 n, .string ⟨(([] : List UInt8)).toArray⟩] 38)) w3.heap.size #[.int .i64 k, .int .i64 n, .string ⟨(([] : List UInt8)).toArray⟩] 38 := Blk.new _ _ _
                have hbo := hb3b.alloc (.cells #[.int .i64 k, .int .i64 n, .string ⟨(([] : List UInt8)).toArray⟩] 38)
                have hB4 := hB3.alloc hB3.size (.cells #[.int .i64 k, .int .i64 n, .string ⟨(([] : List UInt8)).toArray⟩] 38)
                refine (HP _).mono ?_
                rintro e w4 ⟨rfl, hb4⟩
                have hB5 := hB4.trans (hb4.mono hB4.size)
                have hf5 := hbf.below hb4 hbf.lt
                have ho5 := hbo.below hb4 hbo.lt
                clear HW HD HP hb2 hB2 hb3 hB3 hb3b hbf hbo hB4 hb4
                have hHIT := Lib.hid (show fhitB k n l = ((errE k n (([] : List UInt8)) == 0) && (printA k n (([] : List UInt8)) == l)) from has.out)
                clear has
                generalize errE k n (([] : List UInt8)) = ER at *
                generalize printA k n (([] : List UInt8)) = PA at *
                have x0 := hf5.cell 0
                have x1 := hf5.cell 1
                have x2 := hf5.cell 2
                have y0 := ho5.cell 0
                have y1 := ho5.cell 1
                have y2 := ho5.cell 2
                have z0 := ho5.frozen 0
                have z1 := ho5.frozen 1
                have z2 := ho5.frozen 2
                simp at x0 x1 x2 y0 y1 y2
                cases he : (ER == 0) with
                | false =>
                  have hN' := Lib.hid (HN.out (by rw [hHIT.out, he]; rfl))
                  clear hHIT HN hyes x0 x1 x2 y0 y1 y2 z0 z1 z2
                  go_wp2_with fail
                  go_round
                  case rel => exact ⟨n + 1, by omega, by go_num, ho5, hB5, hN'⟩
                  case measure => simp [intOf]; omega
                | true =>
                  obtain rfl : ER = 0 := by simpa using he
                  cases hp : (PA == l) with
                  | false =>
                    have hN' := Lib.hid (HN.out (by rw [hHIT.out, hp]; simp))
                    clear hHIT HN hyes x0 x1 x2 y0 y1 y2 z0 z1 z2
                    go_wp2_with fail
                    go_round
                    case rel => exact ⟨n + 1, by omega, by go_num, ho5, hB5, hN'⟩
                    case measure => simp [intOf]; omega
                  | true =>
                    have HY := Lib.hid (hyes.out (by rw [hHIT.out, hp]; rfl))
                    clear hHIT HN hyes hc
                    go_wp2_with fail
                    have hfin := ((ho5.set 0 (.int .i64 k)).set 1 (.int .i64 n)).set 2 (.string ⟨(([] : List UInt8)).toArray⟩)
                    have q0 := hfin.cell 0
                    have q1 := hfin.cell 1
                    have q2 := hfin.cell 2
                    simp at q0 q1 q2
                    have hBf : Below w.heap.size w (((w4.setCell ⟨w.heap.size, 0, none⟩ (.int .i64 k)).setCell ⟨w.heap.size, 1, none⟩ (.int .i64 n)).setCell ⟨w.heap.size, 2, none⟩ (.string ⟨(([] : List UInt8)).toArray⟩)) :=
                      ((hB5.setCell (p := ⟨w.heap.size, 0, none⟩) (Nat.le_refl _) _).setCell (p := ⟨w.heap.size, 1, none⟩) (Nat.le_refl _) _).setCell (p := ⟨w.heap.size, 2, none⟩) (Nat.le_refl _) _
                    refine bodyPost_ret (v := .tuple #[fV k n (([] : List UInt8)), .int .i64 0]) (by simp [results, Tryz.results51, go_sem, q0, q1, q2]) rfl ⟨by rw [HY.out.1, HY.out.2.1, HY.out.2.2.1, HY.out.2.2.2], hBf⟩
          · have hf : fhitB k n l = false := by
              rw [Bool.eq_false_iff]; exact fun h => hpre (hhd.out h)
            have hN := HN.out hf
            have hpre' : (List.take H.length l == H) = false := by simpa using hpre
            have HN' := Lib.hid hN
            clear hN HN hf hpre hhd hyes has hfo HP
            go_wp2_with (first
              | (go_at_call 72; refine (HW _).mono ?_; rintro e w' ⟨rfl, rfl⟩)
              | (go_at_call 46; refine (HD _).mono ?_; rintro e w3 ⟨rfl, hb3⟩))
            all_goals
              go_round
              case rel => exact ⟨n + 1, by omega, by go_num, hb2.below hb3 hb2.lt, hB2.trans (hb3.mono hB2.size), HN'⟩
              case measure => simp [intOf]; omega
        · have hn4 : ¬ ((n : Int) ≤ 200) := by omega
          have HN : Hid (∀ (k' n : Nat), 1 ≤ k' → k' < k + 1 → n ≤ 200 → fhitB k' n l = false) := by
            intro k' n' h1 h2 h3
            rcases Nat.lt_or_ge k' k with h' | h'
            · exact hc.out k' n' h1 h' h3
            · obtain rfl : k' = k := by omega
              exact hc2.out n' (by omega)
          clear hc hc2
          go_wp2
          go_round
          case rel => exact ⟨k + 1, by omega, by omega, by go_num, hb2, hB2, HN⟩
          case measure => simp [intOf]; omega
    · have hk5 : ¬ ((k : Int) ≤ 3) := by omega
      have HE := Lib.hid (fhit_none l (fun k' n h1 h2 h3 => hc.out k' n h1 (by omega) h3))
      clear hc
      have b1 := hb.cell 0
      have b2 := hb.cell 1
      have b3 := hb.cell 2
      have f1 := hb.frozen 0
      have f2 := hb.frozen 1
      have f3 := hb.frozen 2
      simp at b1 b2 b3
      go_wp2
      have hfin := ((hb.set 0 (.int .i64 0)).set 1 (.int .i64 0)).set 2 (.string ⟨#[]⟩)
      have q0 := hfin.cell 0
      have q1 := hfin.cell 1
      have q2 := hfin.cell 2
      simp at q0 q1 q2
      have hBf : Below w.heap.size w (((wr.setCell ⟨w.heap.size, 0, none⟩ (.int .i64 0)).setCell ⟨w.heap.size, 1, none⟩ (.int .i64 0)).setCell ⟨w.heap.size, 2, none⟩ (.string ⟨#[]⟩)) :=
        ((hB.setCell (p := ⟨w.heap.size, 0, none⟩) (Nat.le_refl _) _).setCell (p := ⟨w.heap.size, 1, none⟩) (Nat.le_refl _) _).setCell (p := ⟨w.heap.size, 2, none⟩) (Nat.le_refl _) _
      refine bodyPost_ret (v := .tuple #[fV 0 0 [], .int .i64 130]) (by simp [results, Tryz.results51, go_sem, q0, q1, q2]) rfl ⟨by rw [HE.out.1, HE.out.2.1, HE.out.2.2.1, HE.out.2.2.2], hBf⟩
end Go.Proofs.YtmmdpjliknmhgaaGreatDoor
