/- Walks of the document's answer for layer 5: Parse. -/
import Derived.Test.YtgobdhedeodpiaaDoorLabQ6
namespace Go.Proofs.YtgobdhedeodpiaaDoor
open Go.RowKit Go.Shelf
attribute [local go_sem] Oper.semAt_some
theorem RdQ.len {W : World} {b : Nat} {s : List UInt8} {q : List UInt8 × Bool} (h : RdQ W b s q) : q.1.length ≤ s.length := by
  obtain ⟨k, hk, hr, _⟩ := h; rw [hr, List.length_drop]; omega
theorem RdQ.below {W W' : World} {b m : Nat} {s : List UInt8} {q : List UInt8 × Bool} (h : RdQ W b s q) (hb : Below m W W') (hm : b < m) : RdQ W' b s q := by
  obtain ⟨k, hk, hr, h3⟩ := h; exact ⟨k, hk, hr, h3.below hb hm⟩
theorem RdQ.alloc {W : World} {b : Nat} {s : List UInt8} {q : List UInt8 × Bool} (h : RdQ W b s q) (o : Obj) : RdQ (W.alloc o) b s q := by
  obtain ⟨k, hk, hr, h3⟩ := h; exact ⟨k, hk, hr, h3.alloc o⟩
theorem RdQ.other {W : World} {b b' : Nat} {s : List UInt8} {q : List UInt8 × Bool} (i : Nat) (v : Value) (h : RdQ W b s q) (hne : b ≠ b') : RdQ (W.setCell ⟨b', i, none⟩ v) b s q := by
  obtain ⟨k, hk, hr, h3⟩ := h; exact ⟨k, hk, hr, Blk.other i v h3 hne⟩
theorem RdQ.lt {W : World} {b : Nat} {s : List UInt8} {q : List UInt8 × Bool} (h : RdQ W b s q) : b < W.heap.size := by
  obtain ⟨k, hk, hr, h3⟩ := h; exact h3.lt
theorem RdQ.step {W : World} {b : Nat} {s R : List UInt8} {c : UInt8} {bad : Bool} (h : RdQ W b s (c :: R, bad)) : ∃ k : Nat, k + 1 ≤ s.length ∧ W.cell? ⟨b, 1, none⟩ = some (.int .i64 k) ∧ W.frozen? ⟨b, 1, none⟩ = false ∧ RdQ (W.setCell ⟨b, 1, none⟩ (.int .i64 ((k : Int) + 1))) b s (R, bad) := by
  obtain ⟨k, hk, hr, hb⟩ := h
  have hk2 : k < s.length := by
    rcases Nat.lt_or_ge k s.length with h | h
    · exact h
    · have hr' : c :: R = s.drop k := hr
      rw [List.drop_of_length_le h] at hr'; cases hr'
  have hr' : c :: R = s.drop k := hr
  rw [drop_cons s k hk2] at hr'
  have c1 := hb.cell 1
  simp at c1
  refine ⟨k, hk2, c1, hb.frozen 1, k + 1, hk2, (List.cons.inj hr').2, ?_⟩
  have := Blk.set 1 (.int .i64 ((k : Int) + 1)) hb
  simpa using this
/-- the world behind a set: the reader, the label, what comes back -/
def SetW (w : World) (rb ab : Nat) (s : List UInt8) (lv : Int) (X : Nat × (List UInt8 × Bool)) (W : World) : Prop :=
  ∃ z : Nat, z < 18446744073709551616 ∧ RdQ W rb s X.2 ∧ (X.2.2 = false → z = X.1) ∧ Blk W ab #[.int .i64 lv, .int .u64 z, .int .i64 0] 24 ∧ Blk W w.heap.size #[.int .i64 0, .int .u64 0, .int .i64 0] 24 ∧ Below w.heap.size w W
set_option maxRecDepth 100000 in
set_option maxHeartbeats 8000000 in
theorem parseR_any (s : List UInt8) (hl : s.length ≤ 1000000) (w : World) :
    Calls Tryd.prog 16 #[.string ⟨s.toArray⟩] w fun e w' => e = .returned (.tuple #[labA (parL s), .int .i64 (parAt s), .int .i64 (parE s)]) ∧ Below w.heap.size w w' := by
  have z0 := (Blk.new w #[.int .i64 0, .int .u64 0, .int .i64 0] 24).alloc (.cells #[.string ⟨s.toArray⟩, .int .i64 0, .bool false] 61)
  have r0 : RdQ ((w.alloc (.cells #[.int .i64 0, .int .u64 0, .int .i64 0] 24)).alloc (.cells #[.string ⟨s.toArray⟩, .int .i64 0, .bool false] 61)) (w.heap.size + 1) s (s, false) := by
    have := Blk.new (w.alloc (.cells #[.int .i64 0, .int .u64 0, .int .i64 0] 24)) #[.string ⟨s.toArray⟩, .int .i64 0, .bool false] 61
    rw [World.size_alloc] at this
    exact ⟨0, Nat.zero_le _, rfl, this⟩
  have hB0 := ((Below.refl w.heap.size w).alloc (Nat.le_refl _) (.cells #[.int .i64 0, .int .u64 0, .int .i64 0] 24)).alloc (by simp) (.cells #[.string ⟨s.toArray⟩, .int .i64 0, .bool false] 61)
  have hm1 := Lib.hid (mustR_any 76 (w.heap.size + 1) s s false _ r0 hl)
  clear r0
  go_enter Tryd.func16, Tryd.ntmps16
  go_wp2_with fail
  refine hm1.out.mono ?_
  rintro e w1 ⟨rfl, hr1, hg1⟩
  rcases hs1 : lift () (pmust 76) (s, false) with ⟨u1, r1, b1⟩
  rw [hs1] at hr1
  simp only at hr1
  have hB1 := below_own hB0 hg1 (by omega)
  have z1 := z0.kept hg1 (by simp)
  have HS1 := Lib.hid hs1
  have hm2 := Lib.hid (numberR_any 0 15 (by omega) (by omega) (by omega) (w.heap.size + 1) s r1 b1 _ hr1 hl)
  have hlt1 := hr1.lt
  clear hm1 hs1 hr1 hg1 z0 hB0
  go_wp2_with fail
  refine hm2.out.mono ?_
  rintro e w2 ⟨lv', hv1, hv2, rfl, hr2, hres2, hg2⟩
  rcases hs2 : lift 0 (pnum 0 15) (r1, b1) with ⟨lv, r2, b2⟩
  rw [hs2] at hr2 hres2
  simp only at hr2 hres2
  have hB2 := below_own hB1 hg2 (by omega)
  have z2 := z1.kept hg2 (by simp)
  have HS2 := Lib.hid hs2
  have HRes2 := Lib.hid hres2
  have hr2a := hr2.alloc (.cells #[.int .i64 lv', .int .u64 0, .int .i64 0] 24)
  have z2a := z2.alloc (.cells #[.int .i64 lv', .int .u64 0, .int .i64 0] 24)
  have a2 : Blk (w2.alloc (.cells #[.int .i64 lv', .int .u64 0, .int .i64 0] 24)) w2.heap.size #[.int .i64 lv', .int .u64 0, .int .i64 0] 24 := label_box w2 lv' 0 0
  have hB2a := hB2.alloc hB2.size (.cells #[.int .i64 lv', .int .u64 0, .int .i64 0] 24)
  have hab : w.heap.size + 1 < w2.heap.size := hr2.lt
  have hm3 := Lib.hid (isR_any 123 (w.heap.size + 1) s r2 b2 _ hr2a hl)
  clear hm2 hs2 hr2 hres2 hg2 z1 hB1 z2 hB2 hlt1
  go_wp2_with fail
  refine hm3.out.mono ?_
  rintro e w3 ⟨rfl, nn, rfl⟩
  go_upto_if 17 with fail
  go_cut [7] (fun _ wx => SetW w (w.heap.size + 1) w2.heap.size s lv' (lift 0 pset (r2, b2)) wx)
  case first =>
    have hr3 := hr2a.drewN nn
    have a3 : Blk ((w2.alloc (.cells #[.int .i64 lv', .int .u64 0, .int .i64 0] 24)).drewN nn) w2.heap.size #[.int .i64 lv', .int .u64 0, .int .i64 0] 24 := a2
    have z3 : Blk ((w2.alloc (.cells #[.int .i64 lv', .int .u64 0, .int .i64 0] 24)).drewN nn) w.heap.size #[.int .i64 0, .int .u64 0, .int .i64 0] 24 := z2a
    have hB3 : Below w.heap.size w ((w2.alloc (.cells #[.int .i64 lv', .int .u64 0, .int .i64 0] 24)).drewN nn) := ⟨hB2a.os, hB2a.tape, hB2a.output, hB2a.size, hB2a.block⟩
    obtain ⟨w3, hw3⟩ : ∃ u, (w2.alloc (.cells #[.int .i64 lv', .int .u64 0, .int .i64 0] 24)).drewN nn = u := ⟨_, rfl⟩
    rw [hw3] at hr3 a3 z3 hB3 ⊢
    clear hw3 hr2a a2 z2a hB2a hm3
    cases hd : hdB 123 (r2, b2) with
    | false =>
      have HX := Lib.hid (setQ_none r2 b2 hd)
      have H := Lib.hid (And.intro hr3 (And.intro a3 (And.intro z3 hB3)))
      clear hr3 a3 z3 hB3 hd
      go_wp2_with fail
      go_meet
      exact ⟨0, by omega, by rw [HX.out]; exact H.out.1, by rw [HX.out]; exact fun _ => rfl, H.out.2.1, H.out.2.2.1, H.out.2.2.2⟩
    | true =>
      obtain ⟨R, rfl, rfl, hX⟩ := setQ_some r2 b2 hd
      obtain ⟨k, hk, c1, f1, hr4⟩ := hr3.step
      have a4 := Blk.other 1 (.int .i64 ((k : Int) + 1)) a3 (show w2.heap.size ≠ w.heap.size + 1 by omega)
      have z4 := Blk.other 1 (.int .i64 ((k : Int) + 1)) z3 (show w.heap.size ≠ w.heap.size + 1 by omega)
      have hB4 := hB3.setCell (p := ⟨w.heap.size + 1, 1, none⟩) (by simp) (.int .i64 ((k : Int) + 1))
      have HX := Lib.hid hX
      have hm4 := Lib.hid (numberR_any 0 63 (by omega) (by omega) (by omega) (w.heap.size + 1) s R false _ hr4 hl)
      clear hX hd hr3 a3 z3 hB3 hr4
      go_wp2_with fail
      refine hm4.out.mono ?_
      rintro e w4 ⟨v, hv1, hv2, rfl, hr5, hres5, hg5⟩
      have a5 := a4.kept hg5 (by simp; omega)
      have z5 := z4.kept hg5 (by simp)
      have hB5 := below_own hB4 hg5 (by omega)
      have hm5 := Lib.hid (withR_any 0 v hv1 hv2 (by omega) w4)
      have HRes5 := Lib.hid hres5
      have a51 := a5.cell 1
      have fa1 := a5.frozen 1
      simp at a51
      have H5 := Lib.hid (And.intro hr5 (And.intro a5 (And.intro z5 hB5)))
      clear hm4 hr5 hres5 hg5 a4 z4 hB4 a5 z5 hB5 c1 f1
      go_wp2_with fail
      refine hm5.out.mono ?_
      rintro e w5 ⟨z, er, hz, rfl, hzn, rfl⟩
      have hsq : SetQ (lift 0 pset (123 :: R, false)) (lift 0 (pnum 0 63) (R, false)).2 v z := setQ_start (f := 63) (lo := -1) (a := 0) (z := z) (R := R) (X := lift 0 pset (123 :: R, false)) (v := v) (by omega) (by omega) HX.out HRes5.out hzn
      have HSQ := Lib.hid hsq
      have hr6 := RdQ.other 1 (.int .u64 z) H5.out.1 (show w.heap.size + 1 ≠ w2.heap.size by omega)
      have a6 := Blk.set 1 (.int .u64 z) H5.out.2.1
      simp at a6
      have z6 := Blk.other 1 (.int .u64 z) H5.out.2.2.1 (show w.heap.size ≠ w2.heap.size by omega)
      have hB6 := H5.out.2.2.2.setCell (p := ⟨w2.heap.size, 1, none⟩) (by simp; omega) (.int .u64 z)
      have H6 := Lib.hid (And.intro hr6 (And.intro a6 (And.intro z6 hB6)))
      clear hm5 hzn hsq hr6 a6 z6 hB6
      go_upto_block 0 with fail
      have hq0 := H6.out.1.len
      generalize (lift 0 (pnum 0 63) (R, false)).2 = q0 at *
      obtain ⟨X, hX⟩ : ∃ X, lift 0 pset (123 :: R, false) = X := ⟨_, rfl⟩
      have HX2 := Lib.hid hX
      rw [hX] at HSQ
      clear hX HX H5 HRes5 a51 fa1 hk
      go_wp2_with fail
      go_loopg [7] (s.length + 1) (fun gf x7 wx => ∃ (q : List UInt8 × Bool) (v : Int) (acc : Nat), q.1.length ≤ gf ∧ -1 ≤ v ∧ v ≤ 63 ∧ x7 = .int .i64 v ∧ acc < 18446744073709551616 ∧ Hid (SetQ X q v acc) ∧ Hid (RdQ wx (w.heap.size + 1) s q ∧ Blk wx w2.heap.size #[.int .i64 lv', .int .u64 acc, .int .i64 0] 24 ∧ Blk wx w.heap.size #[.int .i64 0, .int .u64 0, .int .i64 0] 24 ∧ Below w.heap.size w wx))
      case atStart => exact ⟨q0, v, z, by omega, hv1, hv2, rfl, hz, HSQ, H6⟩
      case round =>
        obtain ⟨q, v, acc, hq, hv1, hv2, rfl, hacc, hsq, hst⟩ := hrel
        have hBd : ∀ n, Below w.heap.size w (wr.drewN n) := fun n => ⟨hst.out.2.2.2.os, hst.out.2.2.2.tape, hst.out.2.2.2.output, hst.out.2.2.2.size, hst.out.2.2.2.block⟩
        have hi8 := Lib.hid (isR_any 44 (w.heap.size + 1) s q.1 q.2 wr (show RdQ wr (w.heap.size + 1) s (q.1, q.2) from hst.out.1) hl)
        clear HSQ H6 hq0 hz
        cases hd : hdB 44 (q.1, q.2) with
        | false =>
          rw [hd] at hi8
          go_wp2_with fail
          refine hi8.out.mono ?_
          rintro e w7 ⟨rfl, n8, rfl⟩
          clear hi8
          have HEnd := Lib.hid (setQ_end hsq.out (.inl hd))
          have hm7 := Lib.hid (mustR_any 125 (w.heap.size + 1) s q.1 q.2 _ (show RdQ (wr.drewN n8) (w.heap.size + 1) s (q.1, q.2) from hst.out.1) hl)
          have Hst := Lib.hid hst.out
          clear hsq hst
          go_wp2_with fail
          refine hm7.out.mono ?_
          rintro e w8 ⟨rfl, hr8, hg8⟩
          have a8 := Blk.kept (show Blk (wr.drewN n8) _ _ _ from Hst.out.2.1) hg8 (by simp; omega)
          have z8 := Blk.kept (show Blk (wr.drewN n8) _ _ _ from Hst.out.2.2.1) hg8 (by simp)
          have hB8 := below_own (hBd n8) hg8 (by omega)
          have H8 := Lib.hid (And.intro hr8 (And.intro a8 (And.intro z8 hB8)))
          clear hm7 hr8 hg8 a8 z8 hB8
          go_wp2_with fail
          go_meet
          exact ⟨acc, hacc, by rw [HX2.out, HEnd.out.1]; exact H8.out.1, by rw [HX2.out]; exact HEnd.out.2, H8.out.2.1, H8.out.2.2.1, H8.out.2.2.2⟩
        | true =>
          rw [hd] at hi8
          by_cases h63 : v < 63
          · obtain ⟨f, R2, e1, e2, hv0, hf, hX3⟩ := setQ_more hsq.out hd h63
            obtain ⟨q1, q2⟩ := q
            simp only at e1 e2 hq
            subst e1 e2
            have hX4 := Lib.hid hX3
            have hv1' : v + 1 ≤ 63 := by omega
            have hv0' : 0 ≤ v + 1 := by omega
            clear hX3 hsq hd
            go_wp2_with fail
            refine hi8.out.mono ?_
            rintro e w7 ⟨rfl, n8, rfl⟩
            obtain ⟨k, hk, c1, f1, hr4⟩ := RdQ.step (show RdQ (wr.drewN n8) (w.heap.size + 1) s (44 :: R2, false) from hst.out.1)
            have a4 := Blk.other 1 (.int .i64 ((k : Int) + 1)) (show Blk (wr.drewN n8) _ _ _ from hst.out.2.1) (show w2.heap.size ≠ w.heap.size + 1 by omega)
            have z4 := Blk.other 1 (.int .i64 ((k : Int) + 1)) (show Blk (wr.drewN n8) _ _ _ from hst.out.2.2.1) (show w.heap.size ≠ w.heap.size + 1 by omega)
            have hB4 := (hBd n8).setCell (p := ⟨w.heap.size + 1, 1, none⟩) (by simp) (.int .i64 ((k : Int) + 1))
            have hm4 := Lib.hid (numberR_any (v + 1) 63 hv0' hv1' (by omega) (w.heap.size + 1) s R2 false _ hr4 hl)
            have hlen := lift_len (Str.num (v + 1) 63) (0 : Int) R2 false
            clear hi8 hst hr4
            go_wp2_with fail
            refine hm4.out.mono ?_
            rintro e w8 ⟨v2, hv21, hv22, rfl, hr5, hres5, hg5⟩
            have a5 := a4.kept hg5 (by simp; omega)
            have z5 := z4.kept hg5 (by simp)
            have hB5 := below_own hB4 hg5 (by omega)
            have hm5 := Lib.hid (withR_any acc v2 hv21 hv22 hacc w8)
            have a51 := a5.cell 1
            have fa1 := a5.frozen 1
            simp at a51
            have H5 := Lib.hid (And.intro hr5 (And.intro a5 (And.intro z5 hB5)))
            have HRes5 := Lib.hid hres5
            clear hm4 hr5 hres5 hg5 a4 z4 hB4 a5 z5 hB5 c1 f1
            go_wp2_with fail
            refine hm5.out.mono ?_
            rintro e w9 ⟨z2, er2, hz2, rfl, hzn2, rfl⟩
            have hsq := setQ_start (f := f) (lo := v) (a := acc) (z := z2) (R := R2) (X := X) (v := v2) (by omega) hf hX4.out HRes5.out hzn2
            have HSQ2 := Lib.hid hsq
            have hr6 := RdQ.other 1 (.int .u64 z2) H5.out.1 (show w.heap.size + 1 ≠ w2.heap.size by omega)
            have a6 := Blk.set 1 (.int .u64 z2) H5.out.2.1
            simp at a6
            have z6 := Blk.other 1 (.int .u64 z2) H5.out.2.2.1 (show w.heap.size ≠ w2.heap.size by omega)
            have hB6 := H5.out.2.2.2.setCell (p := ⟨w2.heap.size, 1, none⟩) (by simp; omega) (.int .u64 z2)
            have H7 := Lib.hid (And.intro hr6 (And.intro a6 (And.intro z6 hB6)))
            clear hm5 hzn2 hsq hr6 a6 z6 hB6 H5 HRes5 hX4
            simp only [List.length_cons] at hq
            generalize (lift 0 (pnum (v + 1) 63) (R2, false)).2 = q9 at *
            obtain ⟨g, rfl⟩ : ∃ g, gk = g + 1 := ⟨gk - 1, by omega⟩
            go_wp2_with fail
            go_roundg g
            case measure => omega
            case rel => exact ⟨q9, v2, z2, by omega, hv21, hv22, rfl, hz2, HSQ2, H7⟩
          · go_wp2_with fail
            refine hi8.out.mono ?_
            rintro e w7 ⟨rfl, n8, rfl⟩
            clear hi8
            have HEnd := Lib.hid (setQ_end hsq.out (.inr (by omega)))
            have hm7 := Lib.hid (mustR_any 125 (w.heap.size + 1) s q.1 q.2 _ (show RdQ (wr.drewN n8) (w.heap.size + 1) s (q.1, q.2) from hst.out.1) hl)
            have Hst := Lib.hid hst.out
            clear hsq hst
            go_wp2_with fail
            refine hm7.out.mono ?_
            rintro e w8 ⟨rfl, hr8, hg8⟩
            have a8 := Blk.kept (show Blk (wr.drewN n8) _ _ _ from Hst.out.2.1) hg8 (by simp; omega)
            have z8 := Blk.kept (show Blk (wr.drewN n8) _ _ _ from Hst.out.2.2.1) hg8 (by simp)
            have hB8 := below_own (hBd n8) hg8 (by omega)
            have H8 := Lib.hid (And.intro hr8 (And.intro a8 (And.intro z8 hB8)))
            clear hm7 hr8 hg8 a8 z8 hB8
            go_wp2_with fail
            go_meet
            exact ⟨acc, hacc, by rw [HX2.out, HEnd.out.1]; exact H8.out.1, by rw [HX2.out]; exact HEnd.out.2, H8.out.2.1, H8.out.2.2.1, H8.out.2.2.2⟩
  case rest =>
    obtain ⟨z, hz, hr3, hres3, a3, z3, hB3⟩ := hcut
    rcases hs3 : lift 0 pset (r2, b2) with ⟨S, r3, b3⟩
    rw [hs3] at hr3 hres3
    simp only at hr3 hres3
    have HS3 := Lib.hid hs3
    have HRes3 := Lib.hid hres3
    have hm4 := Lib.hid (mustR_any 73 (w.heap.size + 1) s r3 b3 _ hr3 hl)
    clear hm3 hr2a z2a a2 hB2a hs3 hr3 hres3
    go_wp2_with fail
    refine hm4.out.mono ?_
    rintro e w4 ⟨rfl, hr4, hg4⟩
    rcases hs4 : lift () (pmust 73) (r3, b3) with ⟨u4, r4, b4⟩
    rw [hs4] at hr4
    simp only at hr4
    have hB4 := below_own hB3 hg4 (by omega)
    have a4 := a3.kept hg4 (by simp; omega)
    have z4 := z3.kept hg4 (by simp)
    have HS4 := Lib.hid hs4
    have hm5 := Lib.hid (numberR_any 0 7 (by omega) (by omega) (by omega) (w.heap.size + 1) s r4 b4 _ hr4 hl)
    clear hm4 hs4 hr4 hg4 a3 z3 hB3
    go_wp2_with fail
    refine hm5.out.mono ?_
    rintro e w5 ⟨ig', hv5, hv6, rfl, hr5, hres5, hg5⟩
    rcases hs5 : lift 0 (pnum 0 7) (r4, b4) with ⟨ig, r5, b5⟩
    rw [hs5] at hr5 hres5
    simp only at hr5 hres5
    have hB5 := below_own hB4 hg5 (by omega)
    have a5 := a4.kept hg5 (by simp; omega)
    have z5 := z4.kept hg5 (by simp)
    obtain ⟨q1, q2⟩ := parse_seq HS1.out HS2.out HS3.out HS4.out hs5
    have a52 := a5.cell 2
    have fa2 := a5.frozen 2
    simp at a52
    have a5s := a5.set 2 (.int .i64 ig')
    simp at a5s
    have z5s := Blk.other 2 (.int .i64 ig') z5 (show w.heap.size ≠ w2.heap.size by omega)
    have hr5s := RdQ.other 2 (.int .i64 ig') hr5 (show w.heap.size + 1 ≠ w2.heap.size by omega)
    have hB5s := hB5.setCell (p := ⟨w2.heap.size, 2, none⟩) (by simp; omega) (.int .i64 ig')
    have hbad : (b5 = true ∨ r5 ≠ []) → parL s = (0, 0, 0) ∧ parAt s = (s.length : Int) - r5.length ∧ parE s = 50 := by
      intro h
      have hp : ptext s = (none, r5) := by
        cases b5 with
        | true => exact q1 rfl
        | false => exact (q2 rfl).2.2 (h.resolve_left (by simp))
      unfold parL parAt parE; rw [hp]; exact ⟨rfl, rfl, rfl⟩
    have hgood : b5 = false → r5 = [] → parL s = (lv', z, ig') ∧ parAt s = 0 ∧ parE s = 0 := by
      intro h h2
      obtain ⟨k1, k2, -⟩ := q2 h
      have hp := k2 h2
      have e3 := HRes3.out k1
      have e5 := hres5 h
      have hb2 : b2 = false := by
        subst k1
        rcases lift_cases HS3.out with ⟨-, x, -⟩ | ⟨-, x, -⟩ | ⟨x, -⟩
        · cases x
        · cases x
        · exact x
      have e2 := HRes2.out hb2
      unfold parL parAt parE; rw [hp, e2, e3, e5]; exact ⟨rfl, rfl, rfl⟩
    obtain ⟨k, hk, hrk, hbk⟩ := hr5s
    have c1 := hbk.cell 1
    have c2 := hbk.cell 2
    simp at c1 c2 hrk
    have hlen : (s.length : Int) - r5.length = k := by rw [hrk, List.length_drop]; omega
    have hnil : r5 = [] ↔ k = s.length := by
      rw [hrk]; constructor
      · intro h; have := congrArg List.length h; rw [List.length_drop, List.length_nil] at this; omega
      · intro h; rw [List.drop_of_length_le (by omega)]
    rw [hlen] at hbad
    have Hbad := Lib.hid hbad
    have Hgood := Lib.hid hgood
    have HZ := Lib.hid (And.intro a5s (And.intro z5s hB5s))
    clear hm5 hs5 hr5 hres5 hg5 a4 z4 hB4 a5 z5 hB5 q1 q2 hbad hgood hrk hbk a5s z5s hB5s hlen
    cases b5 with
    | true =>
      obtain ⟨e1, e2, e3⟩ := Hbad.out (.inl rfl)
      have E1 := Lib.hid e1
      have E2 := Lib.hid e2
      have E3 := Lib.hid e3
      clear e1 e2 e3
      have y := HZ.out.2.1
      have y0 := y.cell 0
      have y1 := y.cell 1
      have y2 := y.cell 2
      have g0 := y.frozen 0
      have g1 := y.frozen 1
      have g2 := y.frozen 2
      simp at y0 y1 y2
      have HY := Lib.hid y
      clear y
      go_wp2_with fail
      go_region_held3 (fun u => u.cell? ⟨w.heap.size + 1, 1, none⟩ = some (.int .i64 k)) (first | go_keep) (fail)
      all_goals go_wp2_with fail
      have zf := ((Blk.set 0 (.int .i64 0) HY.out).set 1 (.int .u64 0)).set 2 (.int .i64 0)
      have q0 := zf.cell 0
      have q1 := zf.cell 1
      have q2 := zf.cell 2
      simp at q0 q1 q2
      have hBe := ((HZ.out.2.2.setCell (p := ⟨w.heap.size, 0, none⟩) (Nat.le_refl _) (.int .i64 0)).setCell (p := ⟨w.heap.size, 1, none⟩) (Nat.le_refl _) (.int .u64 0)).setCell (p := ⟨w.heap.size, 2, none⟩) (Nat.le_refl _) (.int .i64 0)
      exact bodyPost_ret (v := .tuple #[.agg #[.int .i64 0, .int .u64 0, .int .i64 0], .int .i64 k, .int .i64 50]) (by simp [results, Tryd.results16, go_sem, q0, q1, q2]) rfl ⟨by rw [E1.out, E2.out, E3.out]; rfl, hBe.os, hBe.tape, hBe.output, hBe.size, hBe.block⟩
    | false =>
      by_cases hkl : k < s.length
      · have hkl1 : (k : Int) < s.length := by omega
        obtain ⟨e1, e2, e3⟩ := Hbad.out (.inr (fun h => by have := hnil.1 h; omega))
        have E1 := Lib.hid e1
        have E2 := Lib.hid e2
        have E3 := Lib.hid e3
        clear e1 e2 e3
        have y := HZ.out.2.1
        have y0 := y.cell 0
        have y1 := y.cell 1
        have y2 := y.cell 2
        have g0 := y.frozen 0
        have g1 := y.frozen 1
        have g2 := y.frozen 2
        simp at y0 y1 y2
        have HY := Lib.hid y
        clear y
        go_wp2_with fail
        go_region_held3 (fun u => u.cell? ⟨w.heap.size + 1, 1, none⟩ = some (.int .i64 k)) (first | go_keep) (fail)
        all_goals go_wp2_with fail
        have zf := ((Blk.set 0 (.int .i64 0) HY.out).set 1 (.int .u64 0)).set 2 (.int .i64 0)
        have q0 := zf.cell 0
        have q1 := zf.cell 1
        have q2 := zf.cell 2
        simp at q0 q1 q2
        have hBe := ((HZ.out.2.2.setCell (p := ⟨w.heap.size, 0, none⟩) (Nat.le_refl _) (.int .i64 0)).setCell (p := ⟨w.heap.size, 1, none⟩) (Nat.le_refl _) (.int .u64 0)).setCell (p := ⟨w.heap.size, 2, none⟩) (Nat.le_refl _) (.int .i64 0)
        exact bodyPost_ret (v := .tuple #[.agg #[.int .i64 0, .int .u64 0, .int .i64 0], .int .i64 k, .int .i64 50]) (by simp [results, Tryd.results16, go_sem, q0, q1, q2]) rfl ⟨by rw [E1.out, E2.out, E3.out]; rfl, hBe.os, hBe.tape, hBe.output, hBe.size, hBe.block⟩
      · have hkl1 : ¬ (k : Int) < s.length := by omega
        obtain ⟨e1, e2, e3⟩ := Hgood.out rfl (hnil.2 (by omega))
        have E1 := Lib.hid e1
        have E2 := Lib.hid e2
        have E3 := Lib.hid e3
        clear e1 e2 e3
        have y := HZ.out.2.1
        have y0 := y.cell 0
        have y1 := y.cell 1
        have y2 := y.cell 2
        have g0 := y.frozen 0
        have g1 := y.frozen 1
        have g2 := y.frozen 2
        simp at y0 y1 y2
        have HY := Lib.hid y
        clear y
        have ya := HZ.out.1
        have x0 := ya.cell 0
        have x1 := ya.cell 1
        have x2 := ya.cell 2
        simp at x0 x1 x2
        clear ya
        go_wp2_with fail
        have zf := ((Blk.set 0 (.int .i64 lv') HY.out).set 1 (.int .u64 z)).set 2 (.int .i64 ig')
        have q0 := zf.cell 0
        have q1 := zf.cell 1
        have q2 := zf.cell 2
        simp at q0 q1 q2
        have hBe := ((HZ.out.2.2.setCell (p := ⟨w.heap.size, 0, none⟩) (Nat.le_refl _) (.int .i64 lv')).setCell (p := ⟨w.heap.size, 1, none⟩) (Nat.le_refl _) (.int .u64 z)).setCell (p := ⟨w.heap.size, 2, none⟩) (Nat.le_refl _) (.int .i64 ig')
        exact bodyPost_ret (v := .tuple #[.agg #[.int .i64 lv', .int .u64 z, .int .i64 ig'], .int .i64 0, .int .i64 0]) (by simp [results, Tryd.results16, go_sem, q0, q1, q2]) rfl ⟨by rw [E1.out, E2.out, E3.out], hBe.os, hBe.tape, hBe.output, hBe.size, hBe.block⟩
end Go.Proofs.YtgobdhedeodpiaaDoor
