/- Walks of layer 5: a label read from a text. -/
import Derived.Test.YtgobdhedeodpiaaDoorLabS
import Derived.Test.YtgobdhedeodpiaaDoorLabAs
namespace Go.Proofs.YtgobdhedeodpiaaDoor
open Go.RowKit Go.Shelf
attribute [local go_sem] Oper.semAt_some
theorem lift_cases {α : Type} {d : α} {f : List UInt8 → PR α} {r r' : List UInt8} {b b' : Bool} {x : α} (h : lift d f (r, b) = (x, (r', b'))) :
    (b = true ∧ b' = true ∧ r' = r) ∨ (b = false ∧ b' = true ∧ f r = (none, r')) ∨ (b = false ∧ b' = false ∧ f r = (some x, r')) := by
  cases b with
  | true => cases h; exact .inl ⟨rfl, rfl, rfl⟩
  | false =>
    rw [lift_false] at h
    rcases hf : f r with ⟨_ | y, q⟩ <;> rw [hf] at h <;> cases h
    · exact .inr (.inl ⟨rfl, rfl, rfl⟩)
    · exact .inr (.inr ⟨rfl, rfl, rfl⟩)
theorem pand_no {α β : Type} {f : List UInt8 → PR α} {g : α → List UInt8 → PR β} {r r' : List UInt8} (h : f r = (none, r')) : pand f g r = (none, r') := by rw [pand, h]
theorem pand_yes {α β : Type} {f : List UInt8 → PR α} {g : α → List UInt8 → PR β} {r r' : List UInt8} {x : α} (h : f r = (some x, r')) : pand f g r = g x r' := by rw [pand, h]
theorem parse_seq {s r1 r2 r3 r4 r5 : List UInt8} {b1 b2 b3 b4 b5 : Bool} {u1 u4 : Unit} {lv ig : Int} {S : Nat} (h1 : lift () (pmust 76) (s, false) = (u1, (r1, b1))) (h2 : lift 0 (pnum 0 15) (r1, b1) = (lv, (r2, b2)))
    (h3 : lift 0 pset (r2, b2) = (S, (r3, b3))) (h4 : lift () (pmust 73) (r3, b3) = (u4, (r4, b4))) (h5 : lift 0 (pnum 0 7) (r4, b4) = (ig, (r5, b5))) :
    (b5 = true → ptext s = (none, r5)) ∧ (b5 = false → b3 = false ∧ (r5 = [] → ptext s = (some (lv, S, ig), [])) ∧ (r5 ≠ [] → ptext s = (none, r5))) := by
  have fin : ∀ q, plab s = (none, q) → ptext s = (none, q) := fun q h => pand_no h
  rcases lift_cases h1 with ⟨h, -⟩ | ⟨-, rfl, e1⟩ | ⟨-, rfl, e1⟩
  · cases h
  · obtain ⟨rfl, rfl⟩ : r2 = r1 ∧ b2 = true := by rcases lift_cases h2 with ⟨-, a, b⟩ | ⟨a, -⟩ | ⟨a, -⟩ <;> first | exact ⟨b, a⟩ | cases a
    obtain ⟨rfl, rfl⟩ : r3 = r2 ∧ b3 = true := by rcases lift_cases h3 with ⟨-, a, b⟩ | ⟨a, -⟩ | ⟨a, -⟩ <;> first | exact ⟨b, a⟩ | cases a
    obtain ⟨rfl, rfl⟩ : r4 = r3 ∧ b4 = true := by rcases lift_cases h4 with ⟨-, a, b⟩ | ⟨a, -⟩ | ⟨a, -⟩ <;> first | exact ⟨b, a⟩ | cases a
    obtain ⟨rfl, rfl⟩ : r5 = r4 ∧ b5 = true := by rcases lift_cases h5 with ⟨-, a, b⟩ | ⟨a, -⟩ | ⟨a, -⟩ <;> first | exact ⟨b, a⟩ | cases a
    exact ⟨fun _ => fin _ (pand_no e1), fun h => by cases h⟩
  rcases lift_cases h2 with ⟨h, -⟩ | ⟨-, rfl, e2⟩ | ⟨-, rfl, e2⟩
  · cases h
  · obtain ⟨rfl, rfl⟩ : r3 = r2 ∧ b3 = true := by rcases lift_cases h3 with ⟨-, a, b⟩ | ⟨a, -⟩ | ⟨a, -⟩ <;> first | exact ⟨b, a⟩ | cases a
    obtain ⟨rfl, rfl⟩ : r4 = r3 ∧ b4 = true := by rcases lift_cases h4 with ⟨-, a, b⟩ | ⟨a, -⟩ | ⟨a, -⟩ <;> first | exact ⟨b, a⟩ | cases a
    obtain ⟨rfl, rfl⟩ : r5 = r4 ∧ b5 = true := by rcases lift_cases h5 with ⟨-, a, b⟩ | ⟨a, -⟩ | ⟨a, -⟩ <;> first | exact ⟨b, a⟩ | cases a
    exact ⟨fun _ => fin _ ((pand_yes e1).trans (pand_no e2)), fun h => by cases h⟩
  rcases lift_cases h3 with ⟨h, -⟩ | ⟨-, rfl, e3⟩ | ⟨-, rfl, e3⟩
  · cases h
  · obtain ⟨rfl, rfl⟩ : r4 = r3 ∧ b4 = true := by rcases lift_cases h4 with ⟨-, a, b⟩ | ⟨a, -⟩ | ⟨a, -⟩ <;> first | exact ⟨b, a⟩ | cases a
    obtain ⟨rfl, rfl⟩ : r5 = r4 ∧ b5 = true := by rcases lift_cases h5 with ⟨-, a, b⟩ | ⟨a, -⟩ | ⟨a, -⟩ <;> first | exact ⟨b, a⟩ | cases a
    exact ⟨fun _ => fin _ ((pand_yes e1).trans ((pand_yes e2).trans (pand_no e3))), fun h => by cases h⟩
  rcases lift_cases h4 with ⟨h, -⟩ | ⟨-, rfl, e4⟩ | ⟨-, rfl, e4⟩
  · cases h
  · obtain ⟨rfl, rfl⟩ : r5 = r4 ∧ b5 = true := by rcases lift_cases h5 with ⟨-, a, b⟩ | ⟨a, -⟩ | ⟨a, -⟩ <;> first | exact ⟨b, a⟩ | cases a
    exact ⟨fun _ => fin _ ((pand_yes e1).trans ((pand_yes e2).trans ((pand_yes e3).trans (pand_no e4)))), fun h => by cases h⟩
  rcases lift_cases h5 with ⟨h, -⟩ | ⟨-, rfl, e5⟩ | ⟨-, rfl, e5⟩
  · cases h
  · exact ⟨fun _ => fin _ ((pand_yes e1).trans ((pand_yes e2).trans ((pand_yes e3).trans ((pand_yes e4).trans (pand_no e5))))), fun h => by cases h⟩
  · have hl : plab s = (some (lv, S, ig), r5) := (pand_yes e1).trans ((pand_yes e2).trans ((pand_yes e3).trans ((pand_yes e4).trans (pand_yes e5))))
    refine ⟨(fun h => by cases h), fun _ => ⟨rfl, fun h => ?_, fun h => ?_⟩⟩
    · subst h; exact (pand_yes hl).trans rfl
    · refine (pand_yes hl).trans ?_
      cases r5 with
      | nil => exact absurd rfl h
      | cons c q => rfl
/-- errors.errorType, as it is laid -/
abbrev ErrT (w : World) : Prop := w.cell? ⟨0, 0, none⟩ = some (.iface LabAs.RT (.agg #[LabAs.H 51]))
set_option maxRecDepth 100000 in
theorem told_any (x : Int) (w : World) (hg : ErrT w) :
    Calls Tryd.prog 28 #[.iface 78 (.agg #[.int .i64 x])] w fun e w' => e = .returned (.tuple #[.int .i64 x, .int .i64 50]) ∧ Below w.heap.size w w' := by
  have b0 := Blk.new w #[.int .i64 0] 78
  have hB0 := (Below.refl w.heap.size w).alloc (Nat.le_refl _) (.cells #[.int .i64 0] 78)
  have hgl := World.block_lt_of_cell? w _ hg
  have HA := Lib.hid (LabAs.as_hit x w.heap.size _ _ ((hB0.cell (p := ⟨0, 0, none⟩) hgl).trans hg) b0)
  clear hg
  go_enter Tryd.func28, Tryd.ntmps28
  go_wp2_with fail
  refine HA.out.mono ?_
  rintro e w1 ⟨rfl, hw1⟩
  have hB1 : Below w.heap.size w w1 := by
    rw [hw1]
    exact ((((hB0.alloc (by simp) _).alloc (by simp; omega) _).alloc (by simp; omega) _).alloc (by simp; omega) _).setCell (p := ⟨w.heap.size, 0, none⟩) (Nat.le_refl _) _
  have hc : w1.cell? ⟨w.heap.size, 0, none⟩ = some (.int .i64 x) := by
    have b4 := (((b0.alloc (.cells #[.pointer (some ⟨w.heap.size, 0, none⟩)] LabAs.PT)).alloc (.cells #[LabAs.H LabAs.PT, .pointer (some ⟨w.heap.size + 1, 0, none⟩), .int .u64 150] LabAs.VT)).alloc (.cells #[LabAs.H LabAs.PT, .pointer (some ⟨w.heap.size + 1, 0, none⟩), .int .u64 150] LabAs.VT)).alloc (.cells #[.int .i64 x] LabAs.T)
    have := (b4.set 0 (.int .i64 x)).cell 0
    rw [hw1]
    simpa [LabAs.W3, LabAs.W1] using this
  clear hw1 HA
  go_wp2_with fail
  go_ret2
  exact ⟨rfl, hB1⟩
theorem below_own {n b : Nat} {w A B : World} (h : Below n w A) (hg : A.grownBy B (some b)) (hb : n ≤ b) (hn : n ≤ w.heap.size := by omega) : Below n w B :=
  h.grown hg (Nat.le_trans hn h.size) (fun k hk => by cases hk; exact hb)
def parE (s : List UInt8) : Int := match (ptext s).1 with | none => 50 | some _ => 0
def parAt (s : List UInt8) : Int := match (ptext s).1 with | none => (s.length : Int) - (ptext s).2.length | some _ => 0
def parL (s : List UInt8) : Int × Nat × Int := match (ptext s).1 with | none => (0, 0, 0) | some a => a
abbrev labA (a : Int × Nat × Int) : Value := labV a.1 a.2.1 a.2.2
set_option maxRecDepth 100000 in
set_option maxHeartbeats 4000000 in
theorem parse_any (s : List UInt8) (hl : s.length ≤ 1000000) (w : World) (hg : ErrT w) :
    Calls Tryd.prog 14 #[.string ⟨s.toArray⟩] w fun e w' => e = .returned (.tuple #[labA (parL s), .int .i64 (parAt s), .int .i64 (parE s)]) ∧ Below w.heap.size w w' := by
  have hgl := World.block_lt_of_cell? w _ hg
  have z0 := ((Blk.new w #[.int .i64 0, .int .u64 0, .int .i64 0] 24).alloc (.cells #[.string ⟨s.toArray⟩, .int .i64 s.length, .nilIface] 53)).alloc (.cells #[.int .i64 0, .int .u64 0, .int .i64 0] 24)
  have r0 : RdL (((w.alloc (.cells #[.int .i64 0, .int .u64 0, .int .i64 0] 24)).alloc (.cells #[.string ⟨s.toArray⟩, .int .i64 s.length, .nilIface] 53)).alloc (.cells #[.int .i64 0, .int .u64 0, .int .i64 0] 24)) (w.heap.size + 1) s.length (s, false) := by
    have := (Blk.new (w.alloc (.cells #[.int .i64 0, .int .u64 0, .int .i64 0] 24)) #[.string ⟨s.toArray⟩, .int .i64 s.length, .nilIface] 53).alloc (.cells #[.int .i64 0, .int .u64 0, .int .i64 0] 24)
    rwa [World.size_alloc] at this
  have a0 : Blk (((w.alloc (.cells #[.int .i64 0, .int .u64 0, .int .i64 0] 24)).alloc (.cells #[.string ⟨s.toArray⟩, .int .i64 s.length, .nilIface] 53)).alloc (.cells #[.int .i64 0, .int .u64 0, .int .i64 0] 24)) (w.heap.size + 1 + 1) #[.int .i64 0, .int .u64 0, .int .i64 0] 24 := by
    have := Blk.new ((w.alloc (.cells #[.int .i64 0, .int .u64 0, .int .i64 0] 24)).alloc (.cells #[.string ⟨s.toArray⟩, .int .i64 s.length, .nilIface] 53)) #[.int .i64 0, .int .u64 0, .int .i64 0] 24
    rwa [World.size_alloc, World.size_alloc] at this
  have hB0 := (((Below.refl w.heap.size w).alloc (Nat.le_refl _) (.cells #[.int .i64 0, .int .u64 0, .int .i64 0] 24)).alloc (by simp) (.cells #[.string ⟨s.toArray⟩, .int .i64 s.length, .nilIface] 53)).alloc (by simp; omega) (.cells #[.int .i64 0, .int .u64 0, .int .i64 0] 24)
  have hm1 := Lib.hid (must_any 76 (w.heap.size + 1) s.length s false _ r0 (Nat.le_refl _) hl)
  clear r0
  go_enter Tryd.func14, Tryd.ntmps14
  go_wp2_with fail
  refine hm1.out.mono ?_
  rintro e w1 ⟨rfl, hr1, hg1⟩
  rcases hs1 : lift () (pmust 76) (s, false) with ⟨u1, r1, b1⟩
  have hl1 := lift_len (Str.must 76) () s false
  rw [hs1] at hr1 hl1
  simp only at hr1 hl1
  have hB1 := below_own hB0 hg1 (by omega)
  have a1 := a0.kept hg1 (by simp)
  have z1 := z0.kept hg1 (by simp)
  have HS1 := Lib.hid hs1
  have hm2 := Lib.hid (number_i 0 15 (by omega) (by omega) (by omega) (w.heap.size + 1) s.length r1 b1 _ hr1 (by omega) hl)
  clear hm1 hs1 hr1 hg1 a0 z0 hB0
  go_wp2_with fail
  refine hm2.out.mono ?_
  rintro e w2 ⟨rfl, hr2, hg2⟩
  rcases hs2 : lift 0 (pnum 0 15) (r1, b1) with ⟨lv, r2, b2⟩
  have hl2 := lift_len (Str.num 0 15) (0 : Int) r1 b1
  rw [hs2] at hr2 hl2
  simp only at hr2 hl2
  have hB2 := below_own hB1 hg2 (by omega)
  have a2 := a1.kept hg2 (by simp)
  have z2 := z1.kept hg2 (by simp)
  have HS2 := Lib.hid hs2
  have a2s := a2.set 0 (.int .i64 lv)
  simp at a2s
  have z2s := Blk.other 0 (.int .i64 lv) z2 (show w.heap.size ≠ w.heap.size + 1 + 1 by omega)
  have hr2s := Blk.other 0 (.int .i64 lv) hr2 (show w.heap.size + 1 ≠ w.heap.size + 1 + 1 by omega)
  have hB2s := hB2.setCell (p := ⟨w.heap.size + 1 + 1, 0, none⟩) (by simp; omega) (.int .i64 lv)
  have c20 := a2.cell 0
  have f20 := a2.frozen 0
  simp at c20
  have hm3 := Lib.hid (set_any (w.heap.size + 1) s.length r2 b2 _ hr2s (by omega) hl)
  clear hm2 hs2 hr2 hg2 a1 a2 z1 z2 hB1 hB2 hr2s
  go_wp2_with fail
  refine hm3.out.mono ?_
  rintro e w3 ⟨v, hv, rfl, hr3, hres, hg3⟩
  rcases hs3 : lift 0 pset (r2, b2) with ⟨S, r3, b3⟩
  have hl3 := lift_len Str.set 0 r2 b2
  rw [hs3] at hr3 hl3 hres
  simp only at hr3 hl3 hres
  have HRes := Lib.hid hres
  have hB3 := below_own hB2s hg3 (by omega)
  have a3 := a2s.kept hg3 (by simp)
  have z3 := z2s.kept hg3 (by simp)
  have HS3 := Lib.hid hs3
  have a3s := a3.set 1 (.int .u64 v)
  simp at a3s
  have z3s := Blk.other 1 (.int .u64 v) z3 (show w.heap.size ≠ w.heap.size + 1 + 1 by omega)
  have hr3s := Blk.other 1 (.int .u64 v) hr3 (show w.heap.size + 1 ≠ w.heap.size + 1 + 1 by omega)
  have hB3s := hB3.setCell (p := ⟨w.heap.size + 1 + 1, 1, none⟩) (by simp; omega) (.int .u64 v)
  have c31 := a3.cell 1
  have f31 := a3.frozen 1
  simp at c31
  have hm4 := Lib.hid (must_any 73 (w.heap.size + 1) s.length r3 b3 _ hr3s (by omega) hl)
  clear hm3 hs3 hr3 hg3 a2s a3 z2s z3 hB2s hB3 hr3s c20 f20 hres
  go_wp2_with fail
  refine hm4.out.mono ?_
  rintro e w4 ⟨rfl, hr4, hg4⟩
  rcases hs4 : lift () (pmust 73) (r3, b3) with ⟨u4, r4, b4⟩
  have hl4 := lift_len (Str.must 73) () r3 b3
  rw [hs4] at hr4 hl4
  simp only at hr4 hl4
  have hB4 := below_own hB3s hg4 (by omega)
  have a4 := a3s.kept hg4 (by simp)
  have z4 := z3s.kept hg4 (by simp)
  have HS4 := Lib.hid hs4
  have hm5 := Lib.hid (number_i 0 7 (by omega) (by omega) (by omega) (w.heap.size + 1) s.length r4 b4 _ hr4 (by omega) hl)
  clear hm4 hs4 hr4 hg4 a3s z3s hB3s c31 f31
  go_wp2_with fail
  refine hm5.out.mono ?_
  rintro e w5 ⟨rfl, hr5, hg5⟩
  rcases hs5 : lift 0 (pnum 0 7) (r4, b4) with ⟨ig, r5, b5⟩
  have hl5 := lift_len (Str.num 0 7) (0 : Int) r4 b4
  rw [hs5] at hr5 hl5
  simp only at hr5 hl5
  have hB5 := below_own hB4 hg5 (by omega)
  have a5 := a4.kept hg5 (by simp)
  have z5 := z4.kept hg5 (by simp)
  have a5s := a5.set 2 (.int .i64 ig)
  simp at a5s
  have z5s := Blk.other 2 (.int .i64 ig) z5 (show w.heap.size ≠ w.heap.size + 1 + 1 by omega)
  have hr5s := Blk.other 2 (.int .i64 ig) hr5 (show w.heap.size + 1 ≠ w.heap.size + 1 + 1 by omega)
  have hB5s := hB5.setCell (p := ⟨w.heap.size + 1 + 1, 2, none⟩) (by simp; omega) (.int .i64 ig)
  have c52 := a5.cell 2
  have f52 := a5.frozen 2
  simp at c52
  obtain ⟨q1, q2⟩ := parse_seq HS1.out HS2.out HS3.out HS4.out hs5
  have Q1 := Lib.hid q1
  have Q2 := Lib.hid q2
  have hg6 := (hB5s.cell (p := ⟨0, 0, none⟩) hgl).trans hg
  have hI : Tryd.prog.isIface 51 = true := by kernel_rfl
  have hr5t : RdL (w5.setCell ⟨w.heap.size + 1 + 1, 2, none⟩ (.int .i64 ig)) (w.heap.size + 1) s.length (r5, b5) := hr5s
  obtain ⟨h50, h51, h52⟩ := hr5t.cells
  simp only at h50 h51 h52
  have a50 := a5s.cell 0
  have a51 := a5s.cell 1
  have a52 := a5s.cell 2
  simp at a50 a51 a52
  have HR5 := Lib.hid hr5t
  clear hm5 hs5 hr5 hg5 a4 z4 z5 hB4 a5 a5s hB5 hr5s hr5t q1 q2
  have hle5 : r5.length ≤ s.length := by omega
  have hbad : Hid ((b5 = true ∨ r5 ≠ []) → parL s = (0, 0, 0) ∧ parAt s = (s.length : Int) - r5.length ∧ parE s = 50) := by
    intro h
    have hp : ptext s = (none, r5) := by
      cases b5 with
      | true => exact Q1.out rfl
      | false => exact (Q2.out rfl).2.2 (h.resolve_left (by simp))
    unfold parL parAt parE; rw [hp]; exact ⟨rfl, rfl, rfl⟩
  have hgood : Hid (b5 = false → r5 = [] → v = S ∧ parL s = (lv, S, ig) ∧ parAt s = 0 ∧ parE s = 0) := by
    intro h h2
    obtain ⟨k1, k2, -⟩ := Q2.out h
    have hp := k2 h2
    refine ⟨HRes.out k1, ?_⟩
    unfold parL parAt parE; rw [hp]; exact ⟨rfl, rfl, rfl⟩
  clear Q1 Q2 HRes
  have HZ5 := Lib.hid z5s
  clear z5s
  cases r5 with
  | nil =>
    cases b5 with
    | true =>
      simp [errL] at h52
      have ht := Lib.hid (told_any (s.length : Int) _ hg6)
      obtain ⟨e1, e2, e3⟩ := hbad.out (.inl rfl)
      have E1 := Lib.hid e1
      have E2 := Lib.hid e2
      have E3 := Lib.hid e3
      clear e1 e2 e3 a50 a51 a52
      go_wp2_with fail
      refine ht.out.mono ?_
      rintro e w7 ⟨rfl, hb7⟩
      have z7 := Blk.below HZ5.out hb7 (Blk.lt HZ5.out)
      have hB7 := Below.trans hB5s (hb7.mono (Below.size hB5s))
      have y0 := z7.cell 0
      have y1 := z7.cell 1
      have y2 := z7.cell 2
      have g0 := z7.frozen 0
      have g1 := z7.frozen 1
      have g2 := z7.frozen 2
      simp at y0 y1 y2
      go_wp2_with fail
      have zf := ((Blk.set 0 (.int .i64 0) z7).set 1 (.int .u64 0)).set 2 (.int .i64 0)
      have q0 := zf.cell 0
      have q1 := zf.cell 1
      have q2 := zf.cell 2
      simp at q0 q1 q2
      exact bodyPost_ret (v := .tuple #[.agg #[.int .i64 0, .int .u64 0, .int .i64 0], .int .i64 s.length, .int .i64 50]) (by simp [results, Tryd.results14, go_sem, q0, q1, q2]) rfl ⟨by rw [E1.out, E2.out, E3.out]; simp, ((hB7.setCell (p := ⟨w.heap.size, 0, none⟩) (Nat.le_refl _) _).setCell (p := ⟨w.heap.size, 1, none⟩) (Nat.le_refl _) _).setCell (p := ⟨w.heap.size, 2, none⟩) (Nat.le_refl _) _⟩
    | false =>
      obtain ⟨rfl, e1, e2, e3⟩ := hgood.out rfl rfl
      have E1 := Lib.hid e1
      have E2 := Lib.hid e2
      have E3 := Lib.hid e3
      clear e1 e2 e3
      simp [errL] at h52
      have z7 := HZ5.out
      have y0 := z7.cell 0
      have y1 := z7.cell 1
      have y2 := z7.cell 2
      have g0 := z7.frozen 0
      have g1 := z7.frozen 1
      have g2 := z7.frozen 2
      simp at y0 y1 y2
      go_wp2_with fail
      have zf := ((Blk.set 0 (.int .i64 lv) z7).set 1 (.int .u64 v)).set 2 (.int .i64 ig)
      have q0 := zf.cell 0
      have q1 := zf.cell 1
      have q2 := zf.cell 2
      simp at q0 q1 q2
      exact bodyPost_ret (v := .tuple #[.agg #[.int .i64 lv, .int .u64 v, .int .i64 ig], .int .i64 0, .int .i64 0]) (by simp [results, Tryd.results14, go_sem, q0, q1, q2]) rfl ⟨by rw [E1.out, E2.out, E3.out], ((hB5s.setCell (p := ⟨w.heap.size, 0, none⟩) (Nat.le_refl _) _).setCell (p := ⟨w.heap.size, 1, none⟩) (Nat.le_refl _) _).setCell (p := ⟨w.heap.size, 2, none⟩) (Nat.le_refl _) _⟩
  | cons d r5 =>
    have hF := Lib.hid (fail_any (w.heap.size + 1) s.length (d :: r5) b5 _ HR5.out hle5 hl)
    go_wp2_with fail
    refine hF.out.mono ?_
    rintro e w6 ⟨rfl, hr6, hgf⟩
    have HR6 := Lib.hid hr6
    have hB6 := below_own hB5s hgf (by omega)
    have hge6 := (hB6.cell (p := ⟨0, 0, none⟩) hgl).trans hg
    have z6 := HZ5.out.kept hgf (by simp)
    have HZ6 := Lib.hid z6
    clear hF hr6 z6 hgf hB5s hg6 h50 h51 h52
    have hc := HR6.out.cells.2.2
    simp only [errL, if_true] at hc
    have ht := Lib.hid (told_any ((s.length : Int) - (d :: r5).length) _ hge6)
    obtain ⟨e1, e2, e3⟩ := hbad.out (.inr (by simp))
    have E1 := Lib.hid e1
    have E2 := Lib.hid e2
    have E3 := Lib.hid e3
    clear e1 e2 e3 a50 a51 a52
    go_wp2_with fail
    refine ht.out.mono ?_
    rintro e w7 ⟨rfl, hb7⟩
    have z7 := Blk.below HZ6.out hb7 (Blk.lt HZ6.out)
    have hB7 := Below.trans hB6 (hb7.mono (Below.size hB6))
    have y0 := z7.cell 0
    have y1 := z7.cell 1
    have y2 := z7.cell 2
    have g0 := z7.frozen 0
    have g1 := z7.frozen 1
    have g2 := z7.frozen 2
    simp at y0 y1 y2
    go_wp2_with fail
    have zf := ((Blk.set 0 (.int .i64 0) z7).set 1 (.int .u64 0)).set 2 (.int .i64 0)
    have q0 := zf.cell 0
    have q1 := zf.cell 1
    have q2 := zf.cell 2
    simp at q0 q1 q2
    exact bodyPost_ret (v := .tuple #[.agg #[.int .i64 0, .int .u64 0, .int .i64 0], .int .i64 ((s.length : Int) - (d :: r5).length), .int .i64 50]) (by simp [results, Tryd.results14, go_sem, q0, q1, q2]) rfl ⟨by rw [E1.out, E2.out, E3.out]; rfl, ((hB7.setCell (p := ⟨w.heap.size, 0, none⟩) (Nat.le_refl _) _).setCell (p := ⟨w.heap.size, 1, none⟩) (Nat.le_refl _) _).setCell (p := ⟨w.heap.size, 2, none⟩) (Nat.le_refl _) _⟩
end Go.Proofs.YtgobdhedeodpiaaDoor
