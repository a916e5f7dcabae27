/- Joined: ErrB; RgA; RgB -/
import Derived.Test.YthclfkhakmcnbaaGreatDoorJTH
import Derived.Test.YthclfkhakmcnbaaGreatDoorJTL
/- errors.Is at two sentinels that differ; the numbers of a ring's errors. -/
namespace Go.Proofs.YthclfkhakmcnbaaGreatDoor
open Go.RowKit Go.Extern.Stop Go.Stop Go.Extern
attribute [local go_sem] Oper.semAt_some
/-- sentinels lie where nothing is frozen -/
def Sent (w : World) (a : Addr) : Prop := ∃ c t, w.heap[a.block]? = some (.cells c t (0, 0))
theorem Sent.below {w w' : World} {a : Addr} (h : Sent w a) (hb : Below w.heap.size w w') : Sent w' a := by
  obtain ⟨c, t, hc⟩ := h
  exact ⟨c, t, (hb.block _ (Array.getElem?_eq_some_iff.1 hc).1).trans hc⟩
theorem noIs (v : Value) (xT : TypeId) (w : World) : (Instr.typeAssert (.iface 174 v) xT 170 true).run Tryz.prog w = .ok (.tuple #[.nilIface, .bool false]) w := run_typeAssert_lacksB Tryz.underlying170 (by kernel_rfl) (by kernel_rfl) v xT w
theorem noUn (v : Value) (xT : TypeId) (w : World) : (Instr.typeAssert (.iface 174 v) xT 166 true).run Tryz.prog w = .ok (.tuple #[.nilIface, .bool false]) w := run_typeAssert_lacksB Tryz.underlying166 (by kernel_rfl) (by kernel_rfl) v xT w
theorem noUns (v : Value) (xT : TypeId) (w : World) : (Instr.typeAssert (.iface 174 v) xT 167 true).run Tryz.prog w = .ok (.tuple #[.nilIface, .bool false]) w := run_typeAssert_lacksB Tryz.underlying167 (by kernel_rfl) (by kernel_rfl) v xT w
set_option maxRecDepth 100000 in
set_option maxHeartbeats 2000000 in
theorem is_other (a b : Addr) (hne : a ≠ b) (w : World) (ha : Sent w a) (hb : Sent w b) :
    Calls Tryz.prog 112 #[eV a, eV b] w fun e w' => e = .returned (.bool false) ∧ w = w' := by
  obtain ⟨ca, ta, ha⟩ := ha
  obtain ⟨cb, tb, hb⟩ := hb
  obtain ⟨i, hi, hcmp⟩ := Option.map_eq_some_iff.1 is_comp
  obtain ⟨j, hj, hjs⟩ := Option.map_eq_some_iff.1 is_size
  have tT := is_typeOf
  have cT := is_comparable
  have mR := is_methodComparable
  have n1 := noIs
  have n2 := noUn
  have n3 := noUns
  have heq := run_eql_iface_ptr_other (P := Tryz.prog) w Tryz.underlying69 Tryz.underlying174 hi hcmp hj (by rw [hjs]; decide) hne ha hb
  clear hne ha hb hi hj hcmp hjs
  go_enter Tryz.func112, Tryz.ntmps112
  go_wp2
  refine wp_loop_rounds 1 ?_
  rw [rounds_succ]
  go_wp2
  go_ret
  exact ⟨rfl, rfl⟩
end Go.Proofs.YthclfkhakmcnbaaGreatDoor
/- Walks of layer 8: a ring of one's own. -/
namespace Go.Proofs.YthclfkhakmcnbaaGreatDoor
open Go.RowKit Go.Shelf
attribute [local go_sem] Oper.semAt_some
def own8P (w : World) (m : Int) (l : List (List UInt8)) (e : Ending) (w' : World) : Prop := ∃ q g, e = .returned (.pointer (some ⟨q, 0, none⟩)) ∧ w.heap.size ≤ q ∧ Blk w' q #[.int .i64 m, .slice (some ⟨g, 0, none⟩) l.length l.length] 126 ∧ StrsO w.heap.size 9 w' (.slice (some ⟨g, 0, none⟩) l.length l.length) l ∧ Below w.heap.size w w'
set_option maxRecDepth 100000 in
set_option maxHeartbeats 4000000 in
theorem own8_any (m : Int) (l : List (List UInt8)) (hl : l.length ≤ 1000000) (a : Option Addr) (cap : Nat) (w : World) (hv : StrsV w (.slice a l.length cap) l) :
    Calls Tryz.prog 104 #[.agg #[.int .i64 m, .slice a l.length cap]] w (own8P w m l) := by
  have hmk := fun W => run_make_row' (P := Tryz.prog) 42 9 (.string ⟨#[]⟩) 16 Tryz.underlying42 infoS rfl .i64 .i64 l.length (by omega) (by omega) W
  have hsz : (madeCells #[.string ⟨#[]⟩] l.length).size = l.length := size_madeCells _ _
  obtain ⟨W1, hW1⟩ : ∃ W1, (w.alloc (.cells #[.int .i64 m, .slice a l.length cap] 46)).alloc (.cells #[.int .i64 m, .slice a l.length cap] 126) = W1 := ⟨_, rfl⟩
  have r1 : Blk W1 w.heap.size #[.int .i64 m, .slice a l.length cap] 46 := by rw [← hW1]; exact (Blk.new _ _ _).alloc _
  have q1 : Blk W1 (w.heap.size + 1) #[.int .i64 m, .slice a l.length cap] 126 := by
    have := Blk.new (w.alloc (.cells #[.int .i64 m, .slice a l.length cap] 46)) #[.int .i64 m, .slice a l.length cap] 126
    rw [World.size_alloc] at this
    rw [← hW1]; exact this
  have B1 : Below w.heap.size w W1 := by rw [← hW1]; exact ((Below.refl _ w).alloc (Nat.le_refl _) _).alloc (by simp) _
  have hz1 : W1.heap.size = w.heap.size + 1 + 1 := by rw [← hW1]; simp
  obtain ⟨mc, hmc⟩ : ∃ mc, madeCells #[.string ⟨#[]⟩] l.length = mc := ⟨_, rfl⟩
  rw [hmc] at hsz
  simp only [hmc] at hmk
  obtain ⟨W2, hW2⟩ : ∃ W2, W1.alloc (.cells mc 9) = W2 := ⟨_, rfl⟩
  have g2 : Blk W2 (w.heap.size + 1 + 1) mc 9 := by rw [← hW2, ← hz1]; exact Blk.new _ _ _
  have q2 : Blk W2 (w.heap.size + 1) #[.int .i64 m, .slice a l.length cap] 126 := by rw [← hW2]; exact q1.alloc _
  have r2 : Blk W2 w.heap.size #[.int .i64 m, .slice a l.length cap] 46 := by rw [← hW2]; exact r1.alloc _
  have B2 : Below w.heap.size w W2 := by rw [← hW2]; exact B1.alloc B1.size _
  obtain ⟨W3, hW3⟩ : ∃ W3, W2.setCell ⟨w.heap.size + 1, 1, none⟩ (.slice (some ⟨w.heap.size + 1 + 1, 0, none⟩) l.length l.length) = W3 := ⟨_, rfl⟩
  have q3 : Blk W3 (w.heap.size + 1) #[.int .i64 m, .slice (some ⟨w.heap.size + 1 + 1, 0, none⟩) l.length l.length] 126 := by rw [← hW3]; simpa using q2.set 1 (.slice (some ⟨w.heap.size + 1 + 1, 0, none⟩) l.length l.length)
  have g3 : Blk W3 (w.heap.size + 1 + 1) mc 9 := by rw [← hW3]; exact g2.other 1 _ (by omega)
  have r3 : Blk W3 w.heap.size #[.int .i64 m, .slice a l.length cap] 46 := by rw [← hW3]; exact r2.other 1 _ (by omega)
  have B3 : Below w.heap.size w W3 := by rw [← hW3]; exact B2.setCell (p := ⟨_, 1, none⟩) (by simp) _
  have hv3 := hv.keep (KeepC.of_below B3)
  have hcopy : ∃ W4, (∀ ty, (Builtin.copy_ #[42, 42] ty #[.slice (some ⟨w.heap.size + 1 + 1, 0, none⟩) l.length l.length, .slice a l.length cap]).run Tryz.prog W3.drew = .ok (goInt l.length) W4) ∧ own8P w m l (.returned (.pointer (some ⟨w.heap.size + 1, 0, none⟩))) W4 := by
    have hs1 : (Tryz.prog.info? 9).map (·.size) = some 1 := by kernel_rfl
    have qd : Blk W3.drew (w.heap.size + 1) #[.int .i64 m, .slice (some ⟨w.heap.size + 1 + 1, 0, none⟩) l.length l.length] 126 := q3
    rcases Nat.eq_zero_or_pos l.length with h0 | h0
    · have hn : l = [] := List.length_eq_zero_iff.1 h0
      subst hn
      refine ⟨W3.drew, fun ty => run_copy_none W3.drew _ _ ty 9 _ _ _ _ _ _ Tryz.underlying42 hs1 rfl, _, _, rfl, by omega, qd, ⟨rfl, .inr ⟨_, 0, mc, rfl, by omega, g3, Nat.le_refl _, by decide, by rw [hsz]; rfl, by simp [strsC]⟩⟩, B3.drew⟩
    · obtain ⟨b, o, cap', e, -, hb, hcell⟩ := SlR.pos hv3 h0
      cases e
      have hcl : (strsC l).length = l.length := strsC_len l
      have hr := fun ty => run_copy_row (P := Tryz.prog) (ty := ty) W3.drew 42 42 9 (w.heap.size + 1 + 1) 0 l.length l.length ⟨b, o, none⟩ l.length cap mc 9 (strsC l) Tryz.underlying42 hs1 g3 (by rw [hcl]; exact (Nat.min_self _).symm) (fun j v hj => by
        obtain ⟨hlt, rfl⟩ := List.getElem?_eq_some_iff.1 hj
        rw [Addr.add_lit]; exact hcell j hlt) (by rw [hcl, hsz]; omega) strsC_one
      rw [hcl] at hr
      have hrow : (mc.toList.take 0 ++ strsC l ++ mc.toList.drop (0 + l.length)).toArray = (strsC l).toArray := by
        rw [List.drop_of_length_le (by rw [Array.length_toList, hsz]; omega)]; simp
      rw [hrow] at hr
      have hg4 : (W3.drew.setRow (w.heap.size + 1 + 1) (strsC l).toArray).heap[w.heap.size + 1 + 1]? = some (.cells (strsC l).toArray 9 (0, 0)) := setRow_heap _ _ _ _ _ _ g3
      refine ⟨_, hr, _, _, rfl, by omega, (setRow_other _ _ _ _ (by omega)).trans qd, ⟨by rw [hcl]; omega, .inr ⟨_, l.length, (strsC l).toArray, rfl, by omega, hg4, Nat.le_refl _, by unfold maxLen; omega, by simp [hcl], by rw [← hcl]; simp⟩⟩, ?_⟩
      refine B3.drew.grown (row := some (w.heap.size + 1 + 1)) ⟨rfl, rfl, rfl, by simp, fun k _ hk => setRow_other _ _ _ _ (fun e => hk (by rw [e]))⟩ (by have := B3.size; exact this) (fun k e => by cases e; omega)
  obtain ⟨W4, hcp, hfin⟩ := hcopy
  have FIN := Lib.hid hfin
  have e31 : W3.cell? ⟨w.heap.size + 1, 1, none⟩ = some (.slice (some ⟨w.heap.size + 1 + 1, 0, none⟩) l.length l.length) := (q3.cell 1).trans rfl
  have e32 : W3.cell? ⟨w.heap.size, 1, none⟩ = some (.slice a l.length cap) := (r3.cell 1).trans rfl
  have e20 : W2.cell? ⟨w.heap.size + 1, 1, none⟩ = some (.slice a l.length cap) := (q2.cell 1).trans rfl
  have f20 := q2.frozen 1
  have hmk1 := hmk W1
  rw [hW2, hz1, ← hW1] at hmk1
  have hW1H := Lib.hid hW1
  have hW2H := Lib.hid hW2
  have hW3H := Lib.hid hW3
  have hz1H := Lib.hid hz1
  clear hfin q3 r3 g3 B3 hv3 B2 r2 q2 g2 B1 q1 r1 hmk hsz hW1 hW2 hW3 hv hz1 hmc
  go_enter Tryz.func104, Tryz.ntmps104
  go_wp2_with fail
  rw [hW3H.out]
  clear hmk1 e20 f20
  refine wp_region_noPanic ?_
  refine wp_region_any (by kernel_rfl) ?_
  change wpAny _ _ _ _ _ _ _ (World.drew _)
  refine wpAny_take (i := 0) (oi := _) (v := ?_) (nth_at rfl) (by kernel_rfl) (by kernel_rfl) (by kernel_rfl) (fun _ _ _ h => h) (Or.inl ⟨by rfl, ?_⟩) ?_
  rotate_left 1
  · intro w; (go_simp <;> with_reducible rfl)
  try simp only [Act.put, List.setIfInBounds_toArray, List.set_cons_zero, List.set_cons_succ]
  refine wpAny_take (i := 1) (oi := _) (v := ?_) (nth_at rfl) (by kernel_rfl) (by kernel_rfl) (by kernel_rfl) (fun _ _ _ h => h) (Or.inl ⟨by rfl, ?_⟩) ?_
  rotate_left 1
  · intro w; (go_simp <;> with_reducible rfl)
  try simp only [Act.put, List.setIfInBounds_toArray, List.set_cons_zero, List.set_cons_succ]
  refine wpAny_take (i := 2) (oi := _) (v := ?_) (nth_at rfl) (by kernel_rfl) (by kernel_rfl) (by kernel_rfl) (fun _ _ _ h => h) (Or.inl ⟨by rfl, ?_⟩) ?_
  rotate_left 1
  · intro w; (go_simp <;> with_reducible rfl)
  try simp only [Act.put, List.setIfInBounds_toArray, List.set_cons_zero, List.set_cons_succ]
  refine wpAny_take (i := 3) (oi := _) (v := ?_) (nth_at rfl) (by kernel_rfl) (by kernel_rfl) (by kernel_rfl) (fun _ _ _ h => h) (Or.inl ⟨by rfl, ?_⟩) ?_
  rotate_left 1
  · intro w; (go_simp <;> with_reducible rfl)
  try simp only [Act.put, List.setIfInBounds_toArray, List.set_cons_zero, List.set_cons_succ]
  refine wpAny_take (i := 5) (oi := _) (v := ?_) (nth_at rfl) (by kernel_rfl) (by kernel_rfl) (by kernel_rfl) (fun _ _ _ h => h) (Or.inl ⟨by rfl, ?_⟩) ?_
  rotate_left 1
  · intro w; (go_simp <;> with_reducible rfl)
  try simp only [Act.put, List.setIfInBounds_toArray, List.set_cons_zero, List.set_cons_succ]
  refine wpAny_ready (rs := [4, 6]) (by kernel_rfl) (by simp) ?_
  refine AllReady.cons (o := _) (nth_at rfl) (fun K hK => ?_) ?_
  · go_simp
    refine hK _ _ ?_
    clear hK K
    try simp only [Act.put, List.setIfInBounds_toArray, List.set_cons_zero, List.set_cons_succ]
    refine wpAny_ready (rs := [6]) (by kernel_rfl) (by simp) ?_
    refine AllReady.cons (o := _) (nth_at rfl) (fun K hK => ?_) AllReady.nil
    go_simp
    refine hK _ _ ?_
    clear hK K
    try simp only [Act.put, List.setIfInBounds_toArray, List.set_cons_zero, List.set_cons_succ]
    refine wpAny_ready (rs := [7]) (by kernel_rfl) (by simp) ?_
    refine AllReady.cons (o := _) (nth_at rfl) (fun K hK => ?_) AllReady.nil
    go_simp
    refine hK _ _ ?_
    clear hK K
    try simp only [Act.put, List.setIfInBounds_toArray, List.set_cons_zero, List.set_cons_succ]
    refine wpAny_done (by kernel_rfl) ?_ _
    refine NoPanic.normal ?_
    go_wp2_with fail
    go_ret
    exact FIN.out
  refine AllReady.cons (o := _) (nth_at rfl) (fun K hK => ?_) AllReady.nil
  go_simp
  refine hK _ _ ?_
  clear hK K
  try simp only [Act.put, List.setIfInBounds_toArray, List.set_cons_zero, List.set_cons_succ]
  refine wpAny_ready (rs := [4]) (by kernel_rfl) (by simp) ?_
  refine AllReady.cons (o := _) (nth_at rfl) (fun K hK => ?_) AllReady.nil
  go_simp
  refine hK _ _ ?_
  clear hK K
  try simp only [Act.put, List.setIfInBounds_toArray, List.set_cons_zero, List.set_cons_succ]
  refine wpAny_ready (rs := [7]) (by kernel_rfl) (by simp) ?_
  refine AllReady.cons (o := _) (nth_at rfl) (fun K hK => ?_) AllReady.nil
  go_simp
  refine hK _ _ ?_
  clear hK K
  try simp only [Act.put, List.setIfInBounds_toArray, List.set_cons_zero, List.set_cons_succ]
  refine wpAny_done (by kernel_rfl) ?_ _
  refine NoPanic.normal ?_
  go_wp2_with fail
  go_ret
  exact FIN.out
end Go.Proofs.YthclfkhakmcnbaaGreatDoor
/- Walks of layer 8: put. -/
namespace Go.Proofs.YthclfkhakmcnbaaGreatDoor
open Go.RowKit Go.Shelf
attribute [local go_sem] Oper.semAt_some
def rerr (e : Int) (a f m : Addr) : Value := if e = 0 then .nilIface else if e = 2 then eV a else if e = 80 then eV f else eV m
/-- a ring's sentinels -/
structure RErr (w : World) (a f m : Addr) : Prop where
  ga : w.cell? ⟨0, 0, none⟩ = some (eV a)
  gf : w.cell? ⟨2, 0, none⟩ = some (eV f)
  gm : w.cell? ⟨1, 0, none⟩ = some (eV m)
  fa : f ≠ a
  ma : m ≠ a
  mf : m ≠ f
  sa : Sent w a
  sf : Sent w f
  sm : Sent w m
theorem RErr.below {w w' : World} {a f m : Addr} (h : RErr w a f m) (hb : Below w.heap.size w w') : RErr w' a f m :=
  ⟨(KeepC.of_below hb).2 _ _ _ h.ga, (KeepC.of_below hb).2 _ _ _ h.gf, (KeepC.of_below hb).2 _ _ _ h.gm, h.fa, h.ma, h.mf, h.sa.below hb, h.sf.below hb, h.sm.below hb⟩
set_option maxRecDepth 100000 in
set_option maxHeartbeats 2000000 in
theorem toldRg_any (e : Int) (he : e = 0 ∨ e = 2 ∨ e = 80 ∨ e = 81) (a f m : Addr) (w : World) (h : RErr w a f m) :
    Calls Tryz.prog 97 #[rerr e a f m] w fun x w' => x = .returned (.int .i64 e) ∧ w = w' := by
  have ga := h.ga
  have gf := h.gf
  have gm := h.gm
  rcases he with rfl | rfl | rfl | rfl
  · have i1 := is_nil a w
    have i2 := is_nil f w
    have i3 := is_nil m w
    have hr : rerr 0 a f m = .nilIface := rfl
    rw [hr]
    clear h hr
    go_enter Tryz.func97, Tryz.ntmps97
    go_wp2_with fail
    with_reducible refine i1.mono ?_
    rintro e w1 ⟨rfl, rfl⟩
    go_wp2_with fail
    with_reducible refine i2.mono ?_
    rintro e w1 ⟨rfl, rfl⟩
    go_wp2_with fail
    with_reducible refine i3.mono ?_
    rintro e w1 ⟨rfl, rfl⟩
    go_wp2_with fail
    go_ret
    exact ⟨rfl, rfl⟩
  · have i1 := is_same a w
    have hr : rerr 2 a f m = eV a := rfl
    rw [hr]
    clear h hr
    go_enter Tryz.func97, Tryz.ntmps97
    go_wp2_with fail
    with_reducible refine i1.mono ?_
    rintro e w1 ⟨rfl, rfl⟩
    go_wp2_with fail
    go_ret
    exact ⟨rfl, rfl⟩
  · have i1 := is_other f a h.fa w h.sf h.sa
    have i2 := is_same f w
    have hr : rerr 80 a f m = eV f := rfl
    rw [hr]
    clear h hr
    go_enter Tryz.func97, Tryz.ntmps97
    go_wp2_with fail
    with_reducible refine i1.mono ?_
    rintro e w1 ⟨rfl, rfl⟩
    go_wp2_with fail
    with_reducible refine i2.mono ?_
    rintro e w1 ⟨rfl, rfl⟩
    go_wp2_with fail
    go_ret
    exact ⟨rfl, rfl⟩
  · have i1 := is_other m a h.ma w h.sm h.sa
    have i2 := is_other m f h.mf w h.sm h.sf
    have i3 := is_same m w
    have hr : rerr 81 a f m = eV m := rfl
    rw [hr]
    clear h hr
    go_enter Tryz.func97, Tryz.ntmps97
    go_wp2_with fail
    with_reducible refine i1.mono ?_
    rintro e w1 ⟨rfl, rfl⟩
    go_wp2_with fail
    with_reducible refine i2.mono ?_
    rintro e w1 ⟨rfl, rfl⟩
    go_wp2_with fail
    with_reducible refine i3.mono ?_
    rintro e w1 ⟨rfl, rfl⟩
    go_wp2_with fail
    go_ret
    exact ⟨rfl, rfl⟩
def qput (m : Int) (l : List (List UInt8)) (t : List UInt8) : Int := if t.length ≤ 200 then if (takesL l : Int) + (t.length + 1) ≤ m then 0 else 80 else 2
/-- the queue behind put -/
def put8P (q : Nat) (w : World) (m : Int) (l : List (List UInt8)) (t : List UInt8) (base : Nat) (a f em : Addr) (e : Ending) (w' : World) : Prop :=
  ∃ k, e = .returned (.tuple #[.int .i64 k, rerr (qput m l t) a f em]) ∧ Below base w w' ∧ (qput m l t = 0 → ∃ v, Blk w' q #[.int .i64 m, v] 126 ∧ StrsO base 9 w' v (l ++ [t]))
set_option maxRecDepth 100000 in
set_option maxHeartbeats 4000000 in
theorem put8_any (q g base : Nat) (m : Int) (hm : m ≤ 2000) (l : List (List UInt8)) (hl : FitsL l) (h200 : ∀ s ∈ l, s.length ≤ 200) (htk : (takesL l : Int) ≤ 2000) (t : List UInt8) (ht : t.length ≤ 1000000) (a f em : Addr) (w : World) (hr : RErr w a f em) (hq : Blk w q #[.int .i64 m, .slice (some ⟨g, 0, none⟩) l.length l.length] 126) (hv : StrsO base 9 w (.slice (some ⟨g, 0, none⟩) l.length l.length) l) (hbase : base ≤ w.heap.size) (hbq : base ≤ q)
    (gi : Nat) (hgi : w.cell? ⟨gi, 0, none⟩ = some (.string ⟨t.toArray⟩)) :
    Calls Tryz.prog 106 #[.pointer (some ⟨q, 0, none⟩), .slice (some ⟨gi, 0, none⟩) 1 1] w (put8P q w m l t base a f em) := by
  obtain ⟨i0, hI, hz0, hz1, hz2⟩ := info_parts infoS
  have HU := used_any q l hl h200 m _ w ((hq.cell 0).trans rfl) ((hq.cell 1).trans rfl) hv.view
  have hzt := ba_size t
  go_enter Tryz.func106, Tryz.ntmps106
  go_wp2_with fail
  with_reducible refine HU.mono ?_
  rintro e w1 ⟨rfl, b1⟩
  have gi1 := (KeepC.of_below b1).2 _ _ _ hgi
  have q1 := hq.below b1 hq.lt
  have v1 : StrsO base 9 w1 (.slice (some ⟨g, 0, none⟩) l.length l.length) l := own_kept hv (grown_of_below b1 none) (RowT.none _ _)
  have r1 := hr.below b1
  have hbase1 : base ≤ w1.heap.size := Nat.le_trans hbase b1.size
  have B1 := b1.mono hbase
  have gf1 := r1.gf
  have ga1 := r1.ga
  clear HU hgi hq hv hr b1
  go_wp2_with fail
  refine wp_loop_rounds 2 ?_
  rw [rounds_succ]
  go_wp2_with fail
  have n1 := Blk.new w1 #[.string ⟨t.toArray⟩] 9
  have sv1 : StrsV (w1.alloc (.cells #[.string ⟨t.toArray⟩] 9)) (.slice (some ⟨w1.heap.size, 0, none⟩) 1 1) [t] := SlR.of_row (World.ownsRow_lit (base := 0) w1 #[.string ⟨t.toArray⟩] 1 (Nat.zero_le _) (by decide) rfl)
  have b2 : Below w1.heap.size w1 (w1.alloc (.cells #[.string ⟨t.toArray⟩] 9)) := (Below.refl _ w1).alloc (Nat.le_refl _) _
  have HT := isItem_any [t] ⟨by simp, fun s hs => by rcases List.mem_singleton.1 hs with rfl; unfold maxLen; omega⟩ _ _ sv1
  have hall : ([t].all fun s => decide (s.length ≤ 200)) = decide (t.length ≤ 200) := by simp
  rw [hall] at HT
  generalize w1.alloc (.cells #[.string ⟨t.toArray⟩] 9) = w2 at *
  clear n1 sv1 hall
  refine HT.mono ?_
  rintro e w3 ⟨rfl, d, rfl⟩
  have hqp : qput m l t = if t.length ≤ 200 then if (takesL l : Int) + (t.length + 1) ≤ m then 0 else 80 else 2 := rfl
  have B3 : Below base w (w2.drewN d) := below_drewN (B1.trans (b2.mono hbase1)) d
  have k3 := (KeepC.of_below b2).2
  have ga3 : (w2.drewN d).cell? ⟨0, 0, none⟩ = some (eV a) := k3 _ _ _ ga1
  have gf3 : (w2.drewN d).cell? ⟨2, 0, none⟩ = some (eV f) := k3 _ _ _ gf1
  have q3 : Blk (w2.drewN d) q #[.int .i64 m, .slice (some ⟨g, 0, none⟩) l.length l.length] 126 := Blk.drewN (q1.below b2 q1.lt) d
  have v3 : StrsO base 9 (w2.drewN d) (.slice (some ⟨g, 0, none⟩) l.length l.length) l := own_kept v1 (row := none) (grownBy_t (grown_of_below b2 _) ⟨rfl, rfl, rfl, Nat.le_refl _, fun _ _ _ => rfl⟩) (RowT.none _ _)
  have hbase3 : base ≤ (w2.drewN d).heap.size := Nat.le_trans hbase1 b2.size
  clear HT k3 b2 q1 v1 r1 B1 hbase1 gf1 ga1 gi1
  generalize w2.drewN d = w3 at *
  have hqpH := Lib.hid hqp
  clear hqp
  by_cases h2 : t.length ≤ 200
  · rw [decide_eq_true h2]
    have hqp2 : qput m l t = if (takesL l : Int) + (t.length + 1) ≤ m then 0 else 80 := by rw [hqpH.out, if_pos h2]
    have hqp2H := Lib.hid hqp2
    clear hqpH hqp2
    have hw1 : IntKind.i64.wrap ((t.length : Int) + 1) = (t.length : Int) + 1 := IntWalk.i64_in _ (by omega)
    have hw2 : IntKind.i64.wrap ((takesL l : Int) + ((t.length : Int) + 1)) = (takesL l : Int) + ((t.length : Int) + 1) := IntWalk.i64_in _ (by omega)
    have e30 : w3.cell? ⟨q, 0, none⟩ = some (.int .i64 m) := (q3.cell 0).trans rfl
    by_cases h3 : (takesL l : Int) + ((t.length : Int) + 1) ≤ m
    · have hqe : qput m l t = 0 := by rw [hqp2H.out, if_pos h3]
      have h3' : ¬ (m < (takesL l : Int) + ((t.length : Int) + 1)) := by omega
      have e31 : w3.cell? ⟨q, 1, none⟩ = some (.slice (some ⟨g, 0, none⟩) l.length l.length) := (q3.cell 1).trans rfl
      have f31 := q3.frozen 1
      have n5 : Blk (w3.drew.alloc (.cells #[.string ⟨t.toArray⟩] 9)) w3.heap.size #[.string ⟨t.toArray⟩] 9 := Blk.new w3.drew _ _
      have b5 : Below w3.heap.size w3 (w3.drew.alloc (.cells #[.string ⟨t.toArray⟩] 9)) := (Below.refl w3.heap.size w3).drew.alloc (Nat.le_refl _) _
      have v5 : (w3.drew.alloc (.cells #[.string ⟨t.toArray⟩] 9)).ownsRow base 9 1 (.slice (some ⟨g, 0, none⟩) l.length l.length) l.length (strsC l) := own_kept v3 (grown_of_below b5 none) (RowT.none _ _)
      have q5 : Blk (w3.drew.alloc (.cells #[.string ⟨t.toArray⟩] 9)) q #[.int .i64 m, .slice (some ⟨g, 0, none⟩) l.length l.length] 126 := q3.below b5 q3.lt
      have B5 : Below base w (w3.drew.alloc (.cells #[.string ⟨t.toArray⟩] 9)) := B3.trans (b5.mono hbase3)
      have e51 : (w3.drew.alloc (.cells #[.string ⟨t.toArray⟩] 9)).cell? ⟨q, 1, none⟩ = some (.slice (some ⟨g, 0, none⟩) l.length l.length) := (q5.cell 1).trans rfl
      have hbase5 : base ≤ (w3.drew.alloc (.cells #[.string ⟨t.toArray⟩] 9)).heap.size := Nat.le_trans hbase3 b5.size
      have hll := hl.1
      have hy1 : sliced (some ⟨g, 0, none⟩) 0 l.length l.length 1 = .slice (some ⟨g, 0, none⟩) l.length l.length := by simp [sliced, Addr.add]
      have HY1 := Lib.hid hy1
      have hgq : g ≠ q := by
        rintro rfl
        rcases v3.2 with ⟨h', _⟩ | ⟨g', cap', cur, h', _, hh, _⟩
        · cases h'
        · cases h'
          have h2 : w3.heap[g]? = some (.cells #[.int .i64 m, .slice (some ⟨g, 0, none⟩) l.length l.length] 126 (0, 0)) := q3
          rw [h2] at hh
          injection hh with hh
          injection hh with _ hh
          cases hh
      have FINH : Hid (∀ w6 v6, w6.ownsRow base 9 1 v6 (l.length + 1) (strsC l ++ [.string ⟨t.toArray⟩]) → (w3.drew.alloc (.cells #[.string ⟨t.toArray⟩] 9)).grownBy w6 (some g) → (∃ a' c', v6 = .slice a' (l.length + 1) c') ∧ w6.cell? ⟨q, 1, none⟩ = some (.slice (some ⟨g, 0, none⟩) l.length l.length) ∧ w6.frozen? ⟨q, 1, none⟩ = false ∧
          put8P q w m l t base a f em (.returned (.tuple #[.int .i64 1, .nilIface])) (w6.setCell ⟨q, 1, none⟩ v6)) := by
        show ∀ w6, _
        intro w6 v6 h6 g6
        obtain ⟨a', c', rfl, -⟩ := row_form h6
        have q6 : Blk w6 q #[.int .i64 m, .slice (some ⟨g, 0, none⟩) l.length l.length] 126 := q5.kept g6 (by simp; omega)
        have hbg : base ≤ g := (v3.lt g rfl).1
        refine ⟨⟨_, _, rfl⟩, (q6.cell 1).trans rfl, q6.frozen 1, 1, by rw [hqe]; rfl, ((B5.grown g6 (by have := B5.size; have := hbase5; omega) (fun k e => by cases e; exact hbg))).setCell (p := ⟨q, 1, none⟩) hbq _, fun _ => ⟨_, by simpa using q6.set 1 (.slice a' (l.length + 1) c'), ?_⟩⟩
        have h7 := own_kept h6 (grownBy_setCellB w6 q 1 (.slice a' (l.length + 1) c')) (RowT.blk q6 _ (by decide))
        unfold StrsO
        rw [List.length_append]
        have e : strsC (l ++ [t]) = strsC l ++ [.string ⟨t.toArray⟩] := by simp [strsC]
        rw [e]
        exact h7
      have c5 := cell_one_new w3.drew (.string ⟨t.toArray⟩) 9
      clear hqp2H hy1 q3 v3 b5 q5 n5
      obtain ⟨W5, hW5⟩ : ∃ W5, w3.drew.alloc (.cells #[.string ⟨t.toArray⟩] 9) = W5 := ⟨_, rfl⟩
      have hW5a := Lib.hid hW5
      have hW5b : Hid ((w3.alloc (.cells #[.string ⟨t.toArray⟩] 9)).drew = W5) := hW5
      rw [hW5] at v5 B5 e51 hbase5 FINH c5
      clear hW5
      go_wp2_with fail
      refine wp_region_noPanic ?_
      refine wp_region_any (by kernel_rfl) ?_
      change wpAny _ _ _ _ _ _ _ (World.drew _)
      refine wpAny_take (i := 0) (oi := _) (v := ?_) (nth_at rfl) (by kernel_rfl) (by kernel_rfl) (by kernel_rfl) (fun _ _ _ h => h) (Or.inl ⟨by rfl, ?_⟩) ?_
      rotate_left 1
      · intro w; (go_simp <;> with_reducible rfl)
      try simp only [Act.put, List.setIfInBounds_toArray, List.set_cons_zero, List.set_cons_succ]
      refine wpAny_take (i := 1) (oi := _) (v := ?_) (nth_at rfl) (by kernel_rfl) (by kernel_rfl) (by kernel_rfl) (fun _ _ _ h => h) (Or.inl ⟨by rfl, ?_⟩) ?_
      rotate_left 1
      · intro w; (go_simp <;> with_reducible rfl)
      try simp only [Act.put, List.setIfInBounds_toArray, List.set_cons_zero, List.set_cons_succ]
      refine wpAny_take (i := 2) (oi := _) (v := ?_) (nth_at rfl) (by kernel_rfl) (by kernel_rfl) (by kernel_rfl) (fun _ _ _ h => h) (Or.inl ⟨by rfl, ?_⟩) ?_
      rotate_left 1
      · intro w; (go_simp <;> with_reducible rfl)
      try simp only [Act.put, List.setIfInBounds_toArray, List.set_cons_zero, List.set_cons_succ]
      refine wpAny_take (i := 3) (oi := _) (v := ?_) (nth_at rfl) (by kernel_rfl) (by kernel_rfl) (by kernel_rfl) (fun _ _ _ h => h) (Or.inl ⟨by rfl, ?_⟩) ?_
      rotate_left 1
      · intro w; (go_simp <;> with_reducible rfl)
      try simp only [Act.put, List.setIfInBounds_toArray, List.set_cons_zero, List.set_cons_succ]
      refine wpAny_take (i := 4) (oi := _) (v := ?_) (nth_at rfl) (by kernel_rfl) (by kernel_rfl) (by kernel_rfl) (fun _ _ _ h => h) (Or.inl ⟨by rfl, ?_⟩) ?_
      rotate_left 1
      · intro w; (go_simp <;> with_reducible rfl)
      try simp only [Act.put, List.setIfInBounds_toArray, List.set_cons_zero, List.set_cons_succ]
      refine wpAny_take (i := 6) (oi := _) (v := ?_) (nth_at rfl) (by kernel_rfl) (by kernel_rfl) (by kernel_rfl) (fun _ _ _ h => h) (Or.inl ⟨by rfl, ?_⟩) ?_
      rotate_left 1
      · intro w; (go_simp <;> with_reducible rfl)
      try simp only [Act.put, List.setIfInBounds_toArray, List.set_cons_zero, List.set_cons_succ]
      refine wpAny_take (i := 7) (oi := _) (v := ?_) (nth_at rfl) (by kernel_rfl) (by kernel_rfl) (by kernel_rfl) (fun _ _ _ h => h) (Or.inl ⟨by rfl, ?_⟩) ?_
      rotate_left 1
      · intro w; (go_simp <;> with_reducible rfl)
      try simp only [Act.put, List.setIfInBounds_toArray, List.set_cons_zero, List.set_cons_succ]
      refine wpAny_take (i := 8) (oi := _) (v := ?_) (nth_at rfl) (by kernel_rfl) (by kernel_rfl) (by kernel_rfl) (fun _ _ _ h => h) (Or.inl ⟨by rfl, ?_⟩) ?_
      rotate_left 1
      · intro w; (go_simp <;> with_reducible rfl)
      try simp only [Act.put, List.setIfInBounds_toArray, List.set_cons_zero, List.set_cons_succ]
      refine wpAny_take (i := 9) (oi := _) (v := ?_) (nth_at rfl) (by kernel_rfl) (by kernel_rfl) (by kernel_rfl) (fun _ _ _ h => h) (Or.inl ⟨by rfl, ?_⟩) ?_
      rotate_left 1
      · intro w; (go_simp <;> with_reducible rfl)
      try simp only [Act.put, List.setIfInBounds_toArray, List.set_cons_zero, List.set_cons_succ]
      refine wpAny_take (i := 12) (oi := _) (v := ?_) (nth_at rfl) (by kernel_rfl) (by kernel_rfl) (by kernel_rfl) (fun _ _ _ h => h) (Or.inl ⟨by rfl, ?_⟩) ?_
      rotate_left 1
      · intro w; (go_simp <;> with_reducible rfl)
      try simp only [Act.put, List.setIfInBounds_toArray, List.set_cons_zero, List.set_cons_succ]
      refine wpAny_take (i := 13) (oi := _) (v := ?_) (nth_at rfl) (by kernel_rfl) (by kernel_rfl) (by kernel_rfl) (fun _ _ _ h => h) (Or.inl ⟨by rfl, ?_⟩) ?_
      rotate_left 1
      · intro w; (go_simp <;> with_reducible rfl)
      try simp only [Act.put, List.setIfInBounds_toArray, List.set_cons_zero, List.set_cons_succ]
      refine wpAny_take (i := 14) (oi := _) (v := ?_) (nth_at rfl) (by kernel_rfl) (by kernel_rfl) (by kernel_rfl) (fun _ _ _ h => h) (Or.inl ⟨by rfl, ?_⟩) ?_
      rotate_left 1
      · intro w; (go_simp <;> with_reducible rfl)
      try simp only [Act.put, List.setIfInBounds_toArray, List.set_cons_zero, List.set_cons_succ]
      refine wpAny_take (i := 15) (oi := _) (v := ?_) (nth_at rfl) (by kernel_rfl) (by kernel_rfl) (by kernel_rfl) (fun _ _ _ h => h) (Or.inl ⟨by rfl, ?_⟩) ?_
      rotate_left 1
      · intro w; (go_simp <;> with_reducible rfl)
      try simp only [Act.put, List.setIfInBounds_toArray, List.set_cons_zero, List.set_cons_succ]
      refine wpAny_take (i := 19) (oi := _) (v := ?_) (nth_at rfl) (by kernel_rfl) (by kernel_rfl) (by kernel_rfl) (fun _ _ _ h => h) (Or.inl ⟨by rfl, ?_⟩) ?_
      rotate_left 1
      · intro w; (go_simp <;> with_reducible rfl)
      try simp only [Act.put, List.setIfInBounds_toArray, List.set_cons_zero, List.set_cons_succ]
      refine wpAny_ready (rs := [5, 10, 16, 20]) (by kernel_rfl) (by simp) ?_
      refine AllReady.cons (o := _) (nth_at rfl) (fun K hK => ?_) ?_
      · go_simp
        refine hK _ _ ?_
        clear hK K
        try simp only [Act.put, List.setIfInBounds_toArray, List.set_cons_zero, List.set_cons_succ]
        refine wpAny_ready (rs := [10, 16, 20]) (by kernel_rfl) (by simp) ?_
        refine AllReady.cons (o := _) (nth_at rfl) (fun K hK => ?_) ?_
        · go_simp
          refine hK _ _ ?_
          clear hK K
          try simp only [Act.put, List.setIfInBounds_toArray, List.set_cons_zero, List.set_cons_succ]
          refine wpAny_take (i := 11) (oi := _) (v := ?_) (nth_at rfl) (by kernel_rfl) (by kernel_rfl) (by kernel_rfl) (fun _ _ _ h => h) (Or.inl ⟨by rfl, ?_⟩) ?_
          rotate_left 1
          · intro w; (go_simp <;> with_reducible rfl)
          try simp only [Act.put, List.setIfInBounds_toArray, List.set_cons_zero, List.set_cons_succ]
          refine wpAny_ready (rs := [16, 20]) (by kernel_rfl) (by simp) ?_
          refine AllReady.cons (o := _) (nth_at rfl) (fun K hK => ?_) ?_
          · go_simp
            refine hK _ _ ?_
            clear hK K
            try simp only [Act.put, List.setIfInBounds_toArray, List.set_cons_zero, List.set_cons_succ]
            refine wpAny_take (i := 17) (oi := _) (v := ?_) (nth_at rfl) (by kernel_rfl) (by kernel_rfl) (by kernel_rfl) (fun _ _ _ h => h) (Or.inl ⟨by rfl, ?_⟩) ?_
            rotate_left 1
            · intro w; (go_simp <;> with_reducible rfl)
            try simp only [Act.put, List.setIfInBounds_toArray, List.set_cons_zero, List.set_cons_succ]
            refine wpAny_take (i := 18) (oi := _) (v := .slice (some ⟨g, 0, none⟩) l.length l.length) (nth_at rfl) (by kernel_rfl) (by kernel_rfl) (by kernel_rfl) (fun _ _ _ h => h) (Or.inl ⟨by rfl, ?_⟩) ?_
            · intro w; (go_simp <;> (have h := HY1.out; simp [sliced] at h ⊢; first | done | exact h))
            try simp only [Act.put, List.setIfInBounds_toArray, List.set_cons_zero, List.set_cons_succ]
            refine wpAny_ready (rs := [20]) (by kernel_rfl) (by simp) ?_
            refine AllReady.cons (o := _) (nth_at rfl) (fun K hK => ?_) AllReady.nil
            go_simp
            try rw [hW5a.out]
            try rw [hW5b.out]
            refine hK _ _ ?_
            clear hK K
            try simp only [Act.put, List.setIfInBounds_toArray, List.set_cons_zero, List.set_cons_succ]
            refine wpAny_ready (rs := [21]) (by kernel_rfl) (by simp) ?_
            refine AllReady.cons (o := _) (nth_at rfl) (fun K hK => ?_) AllReady.nil
            rw [if_pos (by rfl)]
            refine wp_append_own _ _ _ 42 rfl base 9 i0 (.string ⟨#[]⟩) 1 16 Tryz.underlying42 hI hz0 hz1 hz2 rfl (by decide) _ l.length (strsC l) rfl v5 ⟨w3.heap.size, 0, none⟩ 1 1 [.string ⟨t.toArray⟩] rfl rfl c5 (by simp [Value.oneCell']) (by unfold maxLen; omega) (by omega) hbase5 ?_
            intro v6 w6 h6 g6 _
            obtain ⟨⟨a6, c6, rfl⟩, x1, x2, x3⟩ := FINH.out _ _ h6 g6
            have X3 := Lib.hid x3
            clear h6 g6 x3
            refine hK _ _ ?_
            clear hK K
            try simp only [Act.put, List.setIfInBounds_toArray, List.set_cons_zero, List.set_cons_succ]
            refine wpAny_take (i := 22) (oi := _) (v := ?_) (nth_at rfl) (by kernel_rfl) (by kernel_rfl) (by kernel_rfl) (fun _ _ _ h => h) (Or.inl ⟨by rfl, ?_⟩) ?_
            rotate_left 1
            · intro w; (go_simp <;> with_reducible rfl)
            try simp only [Act.put, List.setIfInBounds_toArray, List.set_cons_zero, List.set_cons_succ]
            refine wpAny_take (i := 23) (oi := _) (v := ?_) (nth_at rfl) (by kernel_rfl) (by kernel_rfl) (by kernel_rfl) (fun _ _ _ h => h) (Or.inl ⟨by rfl, ?_⟩) ?_
            rotate_left 1
            · intro w; (go_simp <;> with_reducible rfl)
            try simp only [Act.put, List.setIfInBounds_toArray, List.set_cons_zero, List.set_cons_succ]
            refine wpAny_take (i := 24) (oi := _) (v := ?_) (nth_at rfl) (by kernel_rfl) (by kernel_rfl) (by kernel_rfl) (fun _ _ _ h => h) (Or.inl ⟨by rfl, ?_⟩) ?_
            rotate_left 1
            · intro w; (go_simp <;> with_reducible rfl)
            try simp only [Act.put, List.setIfInBounds_toArray, List.set_cons_zero, List.set_cons_succ]
            refine wpAny_ready (rs := [25]) (by kernel_rfl) (by simp) ?_
            refine AllReady.cons (o := _) (nth_at rfl) (fun K hK => ?_) AllReady.nil
            go_simp
            refine hK _ _ ?_
            clear hK K
            try simp only [Act.put, List.setIfInBounds_toArray, List.set_cons_zero, List.set_cons_succ]
            refine wpAny_done (by kernel_rfl) ?_ _
            refine NoPanic.normal ?_
            go_wp2_with fail
            rw [rounds_succ]
            go_wp2_with fail
            go_ret2
            exact X3.out
          refine AllReady.cons (o := _) (nth_at rfl) (fun K hK => ?_) AllReady.nil
          go_simp
          try rw [hW5a.out]
          try rw [hW5b.out]
          refine hK _ _ ?_
          clear hK K
          try simp only [Act.put, List.setIfInBounds_toArray, List.set_cons_zero, List.set_cons_succ]
          refine wpAny_ready (rs := [16]) (by kernel_rfl) (by simp) ?_
          refine AllReady.cons (o := _) (nth_at rfl) (fun K hK => ?_) AllReady.nil
          go_simp
          refine hK _ _ ?_
          clear hK K
          try simp only [Act.put, List.setIfInBounds_toArray, List.set_cons_zero, List.set_cons_succ]
          refine wpAny_take (i := 17) (oi := _) (v := ?_) (nth_at rfl) (by kernel_rfl) (by kernel_rfl) (by kernel_rfl) (fun _ _ _ h => h) (Or.inl ⟨by rfl, ?_⟩) ?_
          rotate_left 1
          · intro w; (go_simp <;> with_reducible rfl)
          try simp only [Act.put, List.setIfInBounds_toArray, List.set_cons_zero, List.set_cons_succ]
          refine wpAny_take (i := 18) (oi := _) (v := .slice (some ⟨g, 0, none⟩) l.length l.length) (nth_at rfl) (by kernel_rfl) (by kernel_rfl) (by kernel_rfl) (fun _ _ _ h => h) (Or.inl ⟨by rfl, ?_⟩) ?_
          · intro w; (go_simp <;> (have h := HY1.out; simp [sliced] at h ⊢; first | done | exact h))
          try simp only [Act.put, List.setIfInBounds_toArray, List.set_cons_zero, List.set_cons_succ]
          refine wpAny_ready (rs := [21]) (by kernel_rfl) (by simp) ?_
          refine AllReady.cons (o := _) (nth_at rfl) (fun K hK => ?_) AllReady.nil
          rw [if_pos (by rfl)]
          refine wp_append_own _ _ _ 42 rfl base 9 i0 (.string ⟨#[]⟩) 1 16 Tryz.underlying42 hI hz0 hz1 hz2 rfl (by decide) _ l.length (strsC l) rfl v5 ⟨w3.heap.size, 0, none⟩ 1 1 [.string ⟨t.toArray⟩] rfl rfl c5 (by simp [Value.oneCell']) (by unfold maxLen; omega) (by omega) hbase5 ?_
          intro v6 w6 h6 g6 _
          obtain ⟨⟨a6, c6, rfl⟩, x1, x2, x3⟩ := FINH.out _ _ h6 g6
          have X3 := Lib.hid x3
          clear h6 g6 x3
          refine hK _ _ ?_
          clear hK K
          try simp only [Act.put, List.setIfInBounds_toArray, List.set_cons_zero, List.set_cons_succ]
          refine wpAny_take (i := 22) (oi := _) (v := ?_) (nth_at rfl) (by kernel_rfl) (by kernel_rfl) (by kernel_rfl) (fun _ _ _ h => h) (Or.inl ⟨by rfl, ?_⟩) ?_
          rotate_left 1
          · intro w; (go_simp <;> with_reducible rfl)
          try simp only [Act.put, List.setIfInBounds_toArray, List.set_cons_zero, List.set_cons_succ]
          refine wpAny_take (i := 23) (oi := _) (v := ?_) (nth_at rfl) (by kernel_rfl) (by kernel_rfl) (by kernel_rfl) (fun _ _ _ h => h) (Or.inl ⟨by rfl, ?_⟩) ?_
          rotate_left 1
          · intro w; (go_simp <;> with_reducible rfl)
          try simp only [Act.put, List.setIfInBounds_toArray, List.set_cons_zero, List.set_cons_succ]
          refine wpAny_take (i := 24) (oi := _) (v := ?_) (nth_at rfl) (by kernel_rfl) (by kernel_rfl) (by kernel_rfl) (fun _ _ _ h => h) (Or.inl ⟨by rfl, ?_⟩) ?_
          rotate_left 1
          · intro w; (go_simp <;> with_reducible rfl)
          try simp only [Act.put, List.setIfInBounds_toArray, List.set_cons_zero, List.set_cons_succ]
          refine wpAny_ready (rs := [25]) (by kernel_rfl) (by simp) ?_
          refine AllReady.cons (o := _) (nth_at rfl) (fun K hK => ?_) AllReady.nil
          go_simp
          refine hK _ _ ?_
          clear hK K
          try simp only [Act.put, List.setIfInBounds_toArray, List.set_cons_zero, List.set_cons_succ]
          refine wpAny_done (by kernel_rfl) ?_ _
          refine NoPanic.normal ?_
          go_wp2_with fail
          rw [rounds_succ]
          go_wp2_with fail
          go_ret2
          exact X3.out
        refine AllReady.cons (o := _) (nth_at rfl) (fun K hK => ?_) ?_
        · go_simp
          refine hK _ _ ?_
          clear hK K
          try simp only [Act.put, List.setIfInBounds_toArray, List.set_cons_zero, List.set_cons_succ]
          refine wpAny_take (i := 17) (oi := _) (v := ?_) (nth_at rfl) (by kernel_rfl) (by kernel_rfl) (by kernel_rfl) (fun _ _ _ h => h) (Or.inl ⟨by rfl, ?_⟩) ?_
          rotate_left 1
          · intro w; (go_simp <;> with_reducible rfl)
          try simp only [Act.put, List.setIfInBounds_toArray, List.set_cons_zero, List.set_cons_succ]
          refine wpAny_ready (rs := [10, 20]) (by kernel_rfl) (by simp) ?_
          refine AllReady.cons (o := _) (nth_at rfl) (fun K hK => ?_) ?_
          · go_simp
            refine hK _ _ ?_
            clear hK K
            try simp only [Act.put, List.setIfInBounds_toArray, List.set_cons_zero, List.set_cons_succ]
            refine wpAny_take (i := 11) (oi := _) (v := ?_) (nth_at rfl) (by kernel_rfl) (by kernel_rfl) (by kernel_rfl) (fun _ _ _ h => h) (Or.inl ⟨by rfl, ?_⟩) ?_
            rotate_left 1
            · intro w; (go_simp <;> with_reducible rfl)
            try simp only [Act.put, List.setIfInBounds_toArray, List.set_cons_zero, List.set_cons_succ]
            refine wpAny_take (i := 18) (oi := _) (v := .slice (some ⟨g, 0, none⟩) l.length l.length) (nth_at rfl) (by kernel_rfl) (by kernel_rfl) (by kernel_rfl) (fun _ _ _ h => h) (Or.inl ⟨by rfl, ?_⟩) ?_
            · intro w; (go_simp <;> (have h := HY1.out; simp [sliced] at h ⊢; first | done | exact h))
            try simp only [Act.put, List.setIfInBounds_toArray, List.set_cons_zero, List.set_cons_succ]
            refine wpAny_ready (rs := [20]) (by kernel_rfl) (by simp) ?_
            refine AllReady.cons (o := _) (nth_at rfl) (fun K hK => ?_) AllReady.nil
            go_simp
            try rw [hW5a.out]
            try rw [hW5b.out]
            refine hK _ _ ?_
            clear hK K
            try simp only [Act.put, List.setIfInBounds_toArray, List.set_cons_zero, List.set_cons_succ]
            refine wpAny_ready (rs := [21]) (by kernel_rfl) (by simp) ?_
            refine AllReady.cons (o := _) (nth_at rfl) (fun K hK => ?_) AllReady.nil
            rw [if_pos (by rfl)]
            refine wp_append_own _ _ _ 42 rfl base 9 i0 (.string ⟨#[]⟩) 1 16 Tryz.underlying42 hI hz0 hz1 hz2 rfl (by decide) _ l.length (strsC l) rfl v5 ⟨w3.heap.size, 0, none⟩ 1 1 [.string ⟨t.toArray⟩] rfl rfl c5 (by simp [Value.oneCell']) (by unfold maxLen; omega) (by omega) hbase5 ?_
            intro v6 w6 h6 g6 _
            obtain ⟨⟨a6, c6, rfl⟩, x1, x2, x3⟩ := FINH.out _ _ h6 g6
            have X3 := Lib.hid x3
            clear h6 g6 x3
            refine hK _ _ ?_
            clear hK K
            try simp only [Act.put, List.setIfInBounds_toArray, List.set_cons_zero, List.set_cons_succ]
            refine wpAny_take (i := 22) (oi := _) (v := ?_) (nth_at rfl) (by kernel_rfl) (by kernel_rfl) (by kernel_rfl) (fun _ _ _ h => h) (Or.inl ⟨by rfl, ?_⟩) ?_
            rotate_left 1
            · intro w; (go_simp <;> with_reducible rfl)
            try simp only [Act.put, List.setIfInBounds_toArray, List.set_cons_zero, List.set_cons_succ]
            refine wpAny_take (i := 23) (oi := _) (v := ?_) (nth_at rfl) (by kernel_rfl) (by kernel_rfl) (by kernel_rfl) (fun _ _ _ h => h) (Or.inl ⟨by rfl, ?_⟩) ?_
            rotate_left 1
            · intro w; (go_simp <;> with_reducible rfl)
            try simp only [Act.put, List.setIfInBounds_toArray, List.set_cons_zero, List.set_cons_succ]
            refine wpAny_take (i := 24) (oi := _) (v := ?_) (nth_at rfl) (by kernel_rfl) (by kernel_rfl) (by kernel_rfl) (fun _ _ _ h => h) (Or.inl ⟨by rfl, ?_⟩) ?_
            rotate_left 1
            · intro w; (go_simp <;> with_reducible rfl)
            try simp only [Act.put, List.setIfInBounds_toArray, List.set_cons_zero, List.set_cons_succ]
            refine wpAny_ready (rs := [25]) (by kernel_rfl) (by simp) ?_
            refine AllReady.cons (o := _) (nth_at rfl) (fun K hK => ?_) AllReady.nil
            go_simp
            refine hK _ _ ?_
            clear hK K
            try simp only [Act.put, List.setIfInBounds_toArray, List.set_cons_zero, List.set_cons_succ]
            refine wpAny_done (by kernel_rfl) ?_ _
            refine NoPanic.normal ?_
            go_wp2_with fail
            rw [rounds_succ]
            go_wp2_with fail
            go_ret2
            exact X3.out
          refine AllReady.cons (o := _) (nth_at rfl) (fun K hK => ?_) AllReady.nil
          go_simp
          try rw [hW5a.out]
          try rw [hW5b.out]
          refine hK _ _ ?_
          clear hK K
          try simp only [Act.put, List.setIfInBounds_toArray, List.set_cons_zero, List.set_cons_succ]
          refine wpAny_ready (rs := [10]) (by kernel_rfl) (by simp) ?_
          refine AllReady.cons (o := _) (nth_at rfl) (fun K hK => ?_) AllReady.nil
          go_simp
          refine hK _ _ ?_
          clear hK K
          try simp only [Act.put, List.setIfInBounds_toArray, List.set_cons_zero, List.set_cons_succ]
          refine wpAny_take (i := 11) (oi := _) (v := ?_) (nth_at rfl) (by kernel_rfl) (by kernel_rfl) (by kernel_rfl) (fun _ _ _ h => h) (Or.inl ⟨by rfl, ?_⟩) ?_
          rotate_left 1
          · intro w; (go_simp <;> with_reducible rfl)
          try simp only [Act.put, List.setIfInBounds_toArray, List.set_cons_zero, List.set_cons_succ]
          refine wpAny_take (i := 18) (oi := _) (v := .slice (some ⟨g, 0, none⟩) l.length l.length) (nth_at rfl) (by kernel_rfl) (by kernel_rfl) (by kernel_rfl) (fun _ _ _ h => h) (Or.inl ⟨by rfl, ?_⟩) ?_
          · intro w; (go_simp <;> (have h := HY1.out; simp [sliced] at h ⊢; first | done | exact h))
          try simp only [Act.put, List.setIfInBounds_toArray, List.set_cons_zero, List.set_cons_succ]
          refine wpAny_ready (rs := [21]) (by kernel_rfl) (by simp) ?_
          refine AllReady.cons (o := _) (nth_at rfl) (fun K hK => ?_) AllReady.nil
          rw [if_pos (by rfl)]
          refine wp_append_own _ _ _ 42 rfl base 9 i0 (.string ⟨#[]⟩) 1 16 Tryz.underlying42 hI hz0 hz1 hz2 rfl (by decide) _ l.length (strsC l) rfl v5 ⟨w3.heap.size, 0, none⟩ 1 1 [.string ⟨t.toArray⟩] rfl rfl c5 (by simp [Value.oneCell']) (by unfold maxLen; omega) (by omega) hbase5 ?_
          intro v6 w6 h6 g6 _
          obtain ⟨⟨a6, c6, rfl⟩, x1, x2, x3⟩ := FINH.out _ _ h6 g6
          have X3 := Lib.hid x3
          clear h6 g6 x3
          refine hK _ _ ?_
          clear hK K
          try simp only [Act.put, List.setIfInBounds_toArray, List.set_cons_zero, List.set_cons_succ]
          refine wpAny_take (i := 22) (oi := _) (v := ?_) (nth_at rfl) (by kernel_rfl) (by kernel_rfl) (by kernel_rfl) (fun _ _ _ h => h) (Or.inl ⟨by rfl, ?_⟩) ?_
          rotate_left 1
          · intro w; (go_simp <;> with_reducible rfl)
          try simp only [Act.put, List.setIfInBounds_toArray, List.set_cons_zero, List.set_cons_succ]
          refine wpAny_take (i := 23) (oi := _) (v := ?_) (nth_at rfl) (by kernel_rfl) (by kernel_rfl) (by kernel_rfl) (fun _ _ _ h => h) (Or.inl ⟨by rfl, ?_⟩) ?_
          rotate_left 1
          · intro w; (go_simp <;> with_reducible rfl)
          try simp only [Act.put, List.setIfInBounds_toArray, List.set_cons_zero, List.set_cons_succ]
          refine wpAny_take (i := 24) (oi := _) (v := ?_) (nth_at rfl) (by kernel_rfl) (by kernel_rfl) (by kernel_rfl) (fun _ _ _ h => h) (Or.inl ⟨by rfl, ?_⟩) ?_
          rotate_left 1
          · intro w; (go_simp <;> with_reducible rfl)
          try simp only [Act.put, List.setIfInBounds_toArray, List.set_cons_zero, List.set_cons_succ]
          refine wpAny_ready (rs := [25]) (by kernel_rfl) (by simp) ?_
          refine AllReady.cons (o := _) (nth_at rfl) (fun K hK => ?_) AllReady.nil
          go_simp
          refine hK _ _ ?_
          clear hK K
          try simp only [Act.put, List.setIfInBounds_toArray, List.set_cons_zero, List.set_cons_succ]
          refine wpAny_done (by kernel_rfl) ?_ _
          refine NoPanic.normal ?_
          go_wp2_with fail
          rw [rounds_succ]
          go_wp2_with fail
          go_ret2
          exact X3.out
        refine AllReady.cons (o := _) (nth_at rfl) (fun K hK => ?_) AllReady.nil
        go_simp
        try rw [hW5a.out]
        try rw [hW5b.out]
        refine hK _ _ ?_
        clear hK K
        try simp only [Act.put, List.setIfInBounds_toArray, List.set_cons_zero, List.set_cons_succ]
        refine wpAny_ready (rs := [10, 16]) (by kernel_rfl) (by simp) ?_
        refine AllReady.cons (o := _) (nth_at rfl) (fun K hK => ?_) ?_
        · go_simp
          refine hK _ _ ?_
          clear hK K
          try simp only [Act.put, List.setIfInBounds_toArray, List.set_cons_zero, List.set_cons_succ]
          refine wpAny_take (i := 11) (oi := _) (v := ?_) (nth_at rfl) (by kernel_rfl) (by kernel_rfl) (by kernel_rfl) (fun _ _ _ h => h) (Or.inl ⟨by rfl, ?_⟩) ?_
          rotate_left 1
          · intro w; (go_simp <;> with_reducible rfl)
          try simp only [Act.put, List.setIfInBounds_toArray, List.set_cons_zero, List.set_cons_succ]
          refine wpAny_ready (rs := [16]) (by kernel_rfl) (by simp) ?_
          refine AllReady.cons (o := _) (nth_at rfl) (fun K hK => ?_) AllReady.nil
          go_simp
          refine hK _ _ ?_
          clear hK K
          try simp only [Act.put, List.setIfInBounds_toArray, List.set_cons_zero, List.set_cons_succ]
          refine wpAny_take (i := 17) (oi := _) (v := ?_) (nth_at rfl) (by kernel_rfl) (by kernel_rfl) (by kernel_rfl) (fun _ _ _ h => h) (Or.inl ⟨by rfl, ?_⟩) ?_
          rotate_left 1
          · intro w; (go_simp <;> with_reducible rfl)
          try simp only [Act.put, List.setIfInBounds_toArray, List.set_cons_zero, List.set_cons_succ]
          refine wpAny_take (i := 18) (oi := _) (v := .slice (some ⟨g, 0, none⟩) l.length l.length) (nth_at rfl) (by kernel_rfl) (by kernel_rfl) (by kernel_rfl) (fun _ _ _ h => h) (Or.inl ⟨by rfl, ?_⟩) ?_
          · intro w; (go_simp <;> (have h := HY1.out; simp [sliced] at h ⊢; first | done | exact h))
          try simp only [Act.put, List.setIfInBounds_toArray, List.set_cons_zero, List.set_cons_succ]
          refine wpAny_ready (rs := [21]) (by kernel_rfl) (by simp) ?_
          refine AllReady.cons (o := _) (nth_at rfl) (fun K hK => ?_) AllReady.nil
          rw [if_pos (by rfl)]
          refine wp_append_own _ _ _ 42 rfl base 9 i0 (.string ⟨#[]⟩) 1 16 Tryz.underlying42 hI hz0 hz1 hz2 rfl (by decide) _ l.length (strsC l) rfl v5 ⟨w3.heap.size, 0, none⟩ 1 1 [.string ⟨t.toArray⟩] rfl rfl c5 (by simp [Value.oneCell']) (by unfold maxLen; omega) (by omega) hbase5 ?_
          intro v6 w6 h6 g6 _
          obtain ⟨⟨a6, c6, rfl⟩, x1, x2, x3⟩ := FINH.out _ _ h6 g6
          have X3 := Lib.hid x3
          clear h6 g6 x3
          refine hK _ _ ?_
          clear hK K
          try simp only [Act.put, List.setIfInBounds_toArray, List.set_cons_zero, List.set_cons_succ]
          refine wpAny_take (i := 22) (oi := _) (v := ?_) (nth_at rfl) (by kernel_rfl) (by kernel_rfl) (by kernel_rfl) (fun _ _ _ h => h) (Or.inl ⟨by rfl, ?_⟩) ?_
          rotate_left 1
          · intro w; (go_simp <;> with_reducible rfl)
          try simp only [Act.put, List.setIfInBounds_toArray, List.set_cons_zero, List.set_cons_succ]
          refine wpAny_take (i := 23) (oi := _) (v := ?_) (nth_at rfl) (by kernel_rfl) (by kernel_rfl) (by kernel_rfl) (fun _ _ _ h => h) (Or.inl ⟨by rfl, ?_⟩) ?_
          rotate_left 1
          · intro w; (go_simp <;> with_reducible rfl)
          try simp only [Act.put, List.setIfInBounds_toArray, List.set_cons_zero, List.set_cons_succ]
          refine wpAny_take (i := 24) (oi := _) (v := ?_) (nth_at rfl) (by kernel_rfl) (by kernel_rfl) (by kernel_rfl) (fun _ _ _ h => h) (Or.inl ⟨by rfl, ?_⟩) ?_
          rotate_left 1
          · intro w; (go_simp <;> with_reducible rfl)
          try simp only [Act.put, List.setIfInBounds_toArray, List.set_cons_zero, List.set_cons_succ]
          refine wpAny_ready (rs := [25]) (by kernel_rfl) (by simp) ?_
          refine AllReady.cons (o := _) (nth_at rfl) (fun K hK => ?_) AllReady.nil
          go_simp
          refine hK _ _ ?_
          clear hK K
          try simp only [Act.put, List.setIfInBounds_toArray, List.set_cons_zero, List.set_cons_succ]
          refine wpAny_done (by kernel_rfl) ?_ _
          refine NoPanic.normal ?_
          go_wp2_with fail
          rw [rounds_succ]
          go_wp2_with fail
          go_ret2
          exact X3.out
        refine AllReady.cons (o := _) (nth_at rfl) (fun K hK => ?_) AllReady.nil
        go_simp
        refine hK _ _ ?_
        clear hK K
        try simp only [Act.put, List.setIfInBounds_toArray, List.set_cons_zero, List.set_cons_succ]
        refine wpAny_take (i := 17) (oi := _) (v := ?_) (nth_at rfl) (by kernel_rfl) (by kernel_rfl) (by kernel_rfl) (fun _ _ _ h => h) (Or.inl ⟨by rfl, ?_⟩) ?_
        rotate_left 1
        · intro w; (go_simp <;> with_reducible rfl)
        try simp only [Act.put, List.setIfInBounds_toArray, List.set_cons_zero, List.set_cons_succ]
        refine wpAny_ready (rs := [10]) (by kernel_rfl) (by simp) ?_
        refine AllReady.cons (o := _) (nth_at rfl) (fun K hK => ?_) AllReady.nil
        go_simp
        refine hK _ _ ?_
        clear hK K
        try simp only [Act.put, List.setIfInBounds_toArray, List.set_cons_zero, List.set_cons_succ]
        refine wpAny_take (i := 11) (oi := _) (v := ?_) (nth_at rfl) (by kernel_rfl) (by kernel_rfl) (by kernel_rfl) (fun _ _ _ h => h) (Or.inl ⟨by rfl, ?_⟩) ?_
        rotate_left 1
        · intro w; (go_simp <;> with_reducible rfl)
        try simp only [Act.put, List.setIfInBounds_toArray, List.set_cons_zero, List.set_cons_succ]
        refine wpAny_take (i := 18) (oi := _) (v := .slice (some ⟨g, 0, none⟩) l.length l.length) (nth_at rfl) (by kernel_rfl) (by kernel_rfl) (by kernel_rfl) (fun _ _ _ h => h) (Or.inl ⟨by rfl, ?_⟩) ?_
        · intro w; (go_simp <;> (have h := HY1.out; simp [sliced] at h ⊢; first | done | exact h))
        try simp only [Act.put, List.setIfInBounds_toArray, List.set_cons_zero, List.set_cons_succ]
        refine wpAny_ready (rs := [21]) (by kernel_rfl) (by simp) ?_
        refine AllReady.cons (o := _) (nth_at rfl) (fun K hK => ?_) AllReady.nil
        rw [if_pos (by rfl)]
        refine wp_append_own _ _ _ 42 rfl base 9 i0 (.string ⟨#[]⟩) 1 16 Tryz.underlying42 hI hz0 hz1 hz2 rfl (by decide) _ l.length (strsC l) rfl v5 ⟨w3.heap.size, 0, none⟩ 1 1 [.string ⟨t.toArray⟩] rfl rfl c5 (by simp [Value.oneCell']) (by unfold maxLen; omega) (by omega) hbase5 ?_
        intro v6 w6 h6 g6 _
        obtain ⟨⟨a6, c6, rfl⟩, x1, x2, x3⟩ := FINH.out _ _ h6 g6
        have X3 := Lib.hid x3
        clear h6 g6 x3
        refine hK _ _ ?_
        clear hK K
        try simp only [Act.put, List.setIfInBounds_toArray, List.set_cons_zero, List.set_cons_succ]
        refine wpAny_take (i := 22) (oi := _) (v := ?_) (nth_at rfl) (by kernel_rfl) (by kernel_rfl) (by kernel_rfl) (fun _ _ _ h => h) (Or.inl ⟨by rfl, ?_⟩) ?_
        rotate_left 1
        · intro w; (go_simp <;> with_reducible rfl)
        try simp only [Act.put, List.setIfInBounds_toArray, List.set_cons_zero, List.set_cons_succ]
        refine wpAny_take (i := 23) (oi := _) (v := ?_) (nth_at rfl) (by kernel_rfl) (by kernel_rfl) (by kernel_rfl) (fun _ _ _ h => h) (Or.inl ⟨by rfl, ?_⟩) ?_
        rotate_left 1
        · intro w; (go_simp <;> with_reducible rfl)
        try simp only [Act.put, List.setIfInBounds_toArray, List.set_cons_zero, List.set_cons_succ]
        refine wpAny_take (i := 24) (oi := _) (v := ?_) (nth_at rfl) (by kernel_rfl) (by kernel_rfl) (by kernel_rfl) (fun _ _ _ h => h) (Or.inl ⟨by rfl, ?_⟩) ?_
        rotate_left 1
        · intro w; (go_simp <;> with_reducible rfl)
        try simp only [Act.put, List.setIfInBounds_toArray, List.set_cons_zero, List.set_cons_succ]
        refine wpAny_ready (rs := [25]) (by kernel_rfl) (by simp) ?_
        refine AllReady.cons (o := _) (nth_at rfl) (fun K hK => ?_) AllReady.nil
        go_simp
        refine hK _ _ ?_
        clear hK K
        try simp only [Act.put, List.setIfInBounds_toArray, List.set_cons_zero, List.set_cons_succ]
        refine wpAny_done (by kernel_rfl) ?_ _
        refine NoPanic.normal ?_
        go_wp2_with fail
        rw [rounds_succ]
        go_wp2_with fail
        go_ret2
        exact X3.out
      refine AllReady.cons (o := _) (nth_at rfl) (fun K hK => ?_) ?_
      · go_simp
        refine hK _ _ ?_
        clear hK K
        try simp only [Act.put, List.setIfInBounds_toArray, List.set_cons_zero, List.set_cons_succ]
        refine wpAny_take (i := 11) (oi := _) (v := ?_) (nth_at rfl) (by kernel_rfl) (by kernel_rfl) (by kernel_rfl) (fun _ _ _ h => h) (Or.inl ⟨by rfl, ?_⟩) ?_
        rotate_left 1
        · intro w; (go_simp <;> with_reducible rfl)
        try simp only [Act.put, List.setIfInBounds_toArray, List.set_cons_zero, List.set_cons_succ]
        refine wpAny_ready (rs := [5, 16, 20]) (by kernel_rfl) (by simp) ?_
        refine AllReady.cons (o := _) (nth_at rfl) (fun K hK => ?_) ?_
        · go_simp
          refine hK _ _ ?_
          clear hK K
          try simp only [Act.put, List.setIfInBounds_toArray, List.set_cons_zero, List.set_cons_succ]
          refine wpAny_ready (rs := [16, 20]) (by kernel_rfl) (by simp) ?_
          refine AllReady.cons (o := _) (nth_at rfl) (fun K hK => ?_) ?_
          · go_simp
            refine hK _ _ ?_
            clear hK K
            try simp only [Act.put, List.setIfInBounds_toArray, List.set_cons_zero, List.set_cons_succ]
            refine wpAny_take (i := 17) (oi := _) (v := ?_) (nth_at rfl) (by kernel_rfl) (by kernel_rfl) (by kernel_rfl) (fun _ _ _ h => h) (Or.inl ⟨by rfl, ?_⟩) ?_
            rotate_left 1
            · intro w; (go_simp <;> with_reducible rfl)
            try simp only [Act.put, List.setIfInBounds_toArray, List.set_cons_zero, List.set_cons_succ]
            refine wpAny_take (i := 18) (oi := _) (v := .slice (some ⟨g, 0, none⟩) l.length l.length) (nth_at rfl) (by kernel_rfl) (by kernel_rfl) (by kernel_rfl) (fun _ _ _ h => h) (Or.inl ⟨by rfl, ?_⟩) ?_
            · intro w; (go_simp <;> (have h := HY1.out; simp [sliced] at h ⊢; first | done | exact h))
            try simp only [Act.put, List.setIfInBounds_toArray, List.set_cons_zero, List.set_cons_succ]
            refine wpAny_ready (rs := [20]) (by kernel_rfl) (by simp) ?_
            refine AllReady.cons (o := _) (nth_at rfl) (fun K hK => ?_) AllReady.nil
            go_simp
            try rw [hW5a.out]
            try rw [hW5b.out]
            refine hK _ _ ?_
            clear hK K
            try simp only [Act.put, List.setIfInBounds_toArray, List.set_cons_zero, List.set_cons_succ]
            refine wpAny_ready (rs := [21]) (by kernel_rfl) (by simp) ?_
            refine AllReady.cons (o := _) (nth_at rfl) (fun K hK => ?_) AllReady.nil
            rw [if_pos (by rfl)]
            refine wp_append_own _ _ _ 42 rfl base 9 i0 (.string ⟨#[]⟩) 1 16 Tryz.underlying42 hI hz0 hz1 hz2 rfl (by decide) _ l.length (strsC l) rfl v5 ⟨w3.heap.size, 0, none⟩ 1 1 [.string ⟨t.toArray⟩] rfl rfl c5 (by simp [Value.oneCell']) (by unfold maxLen; omega) (by omega) hbase5 ?_
            intro v6 w6 h6 g6 _
            obtain ⟨⟨a6, c6, rfl⟩, x1, x2, x3⟩ := FINH.out _ _ h6 g6
            have X3 := Lib.hid x3
            clear h6 g6 x3
            refine hK _ _ ?_
            clear hK K
            try simp only [Act.put, List.setIfInBounds_toArray, List.set_cons_zero, List.set_cons_succ]
            refine wpAny_take (i := 22) (oi := _) (v := ?_) (nth_at rfl) (by kernel_rfl) (by kernel_rfl) (by kernel_rfl) (fun _ _ _ h => h) (Or.inl ⟨by rfl, ?_⟩) ?_
            rotate_left 1
            · intro w; (go_simp <;> with_reducible rfl)
            try simp only [Act.put, List.setIfInBounds_toArray, List.set_cons_zero, List.set_cons_succ]
            refine wpAny_take (i := 23) (oi := _) (v := ?_) (nth_at rfl) (by kernel_rfl) (by kernel_rfl) (by kernel_rfl) (fun _ _ _ h => h) (Or.inl ⟨by rfl, ?_⟩) ?_
            rotate_left 1
            · intro w; (go_simp <;> with_reducible rfl)
            try simp only [Act.put, List.setIfInBounds_toArray, List.set_cons_zero, List.set_cons_succ]
            refine wpAny_take (i := 24) (oi := _) (v := ?_) (nth_at rfl) (by kernel_rfl) (by kernel_rfl) (by kernel_rfl) (fun _ _ _ h => h) (Or.inl ⟨by rfl, ?_⟩) ?_
            rotate_left 1
            · intro w; (go_simp <;> with_reducible rfl)
            try simp only [Act.put, List.setIfInBounds_toArray, List.set_cons_zero, List.set_cons_succ]
            refine wpAny_ready (rs := [25]) (by kernel_rfl) (by simp) ?_
            refine AllReady.cons (o := _) (nth_at rfl) (fun K hK => ?_) AllReady.nil
            go_simp
            refine hK _ _ ?_
            clear hK K
            try simp only [Act.put, List.setIfInBounds_toArray, List.set_cons_zero, List.set_cons_succ]
            refine wpAny_done (by kernel_rfl) ?_ _
            refine NoPanic.normal ?_
            go_wp2_with fail
            rw [rounds_succ]
            go_wp2_with fail
            go_ret2
            exact X3.out
          refine AllReady.cons (o := _) (nth_at rfl) (fun K hK => ?_) AllReady.nil
          go_simp
          try rw [hW5a.out]
          try rw [hW5b.out]
          refine hK _ _ ?_
          clear hK K
          try simp only [Act.put, List.setIfInBounds_toArray, List.set_cons_zero, List.set_cons_succ]
          refine wpAny_ready (rs := [16]) (by kernel_rfl) (by simp) ?_
          refine AllReady.cons (o := _) (nth_at rfl) (fun K hK => ?_) AllReady.nil
          go_simp
          refine hK _ _ ?_
          clear hK K
          try simp only [Act.put, List.setIfInBounds_toArray, List.set_cons_zero, List.set_cons_succ]
          refine wpAny_take (i := 17) (oi := _) (v := ?_) (nth_at rfl) (by kernel_rfl) (by kernel_rfl) (by kernel_rfl) (fun _ _ _ h => h) (Or.inl ⟨by rfl, ?_⟩) ?_
          rotate_left 1
          · intro w; (go_simp <;> with_reducible rfl)
          try simp only [Act.put, List.setIfInBounds_toArray, List.set_cons_zero, List.set_cons_succ]
          refine wpAny_take (i := 18) (oi := _) (v := .slice (some ⟨g, 0, none⟩) l.length l.length) (nth_at rfl) (by kernel_rfl) (by kernel_rfl) (by kernel_rfl) (fun _ _ _ h => h) (Or.inl ⟨by rfl, ?_⟩) ?_
          · intro w; (go_simp <;> (have h := HY1.out; simp [sliced] at h ⊢; first | done | exact h))
          try simp only [Act.put, List.setIfInBounds_toArray, List.set_cons_zero, List.set_cons_succ]
          refine wpAny_ready (rs := [21]) (by kernel_rfl) (by simp) ?_
          refine AllReady.cons (o := _) (nth_at rfl) (fun K hK => ?_) AllReady.nil
          rw [if_pos (by rfl)]
          refine wp_append_own _ _ _ 42 rfl base 9 i0 (.string ⟨#[]⟩) 1 16 Tryz.underlying42 hI hz0 hz1 hz2 rfl (by decide) _ l.length (strsC l) rfl v5 ⟨w3.heap.size, 0, none⟩ 1 1 [.string ⟨t.toArray⟩] rfl rfl c5 (by simp [Value.oneCell']) (by unfold maxLen; omega) (by omega) hbase5 ?_
          intro v6 w6 h6 g6 _
          obtain ⟨⟨a6, c6, rfl⟩, x1, x2, x3⟩ := FINH.out _ _ h6 g6
          have X3 := Lib.hid x3
          clear h6 g6 x3
          refine hK _ _ ?_
          clear hK K
          try simp only [Act.put, List.setIfInBounds_toArray, List.set_cons_zero, List.set_cons_succ]
          refine wpAny_take (i := 22) (oi := _) (v := ?_) (nth_at rfl) (by kernel_rfl) (by kernel_rfl) (by kernel_rfl) (fun _ _ _ h => h) (Or.inl ⟨by rfl, ?_⟩) ?_
          rotate_left 1
          · intro w; (go_simp <;> with_reducible rfl)
          try simp only [Act.put, List.setIfInBounds_toArray, List.set_cons_zero, List.set_cons_succ]
          refine wpAny_take (i := 23) (oi := _) (v := ?_) (nth_at rfl) (by kernel_rfl) (by kernel_rfl) (by kernel_rfl) (fun _ _ _ h => h) (Or.inl ⟨by rfl, ?_⟩) ?_
          rotate_left 1
          · intro w; (go_simp <;> with_reducible rfl)
          try simp only [Act.put, List.setIfInBounds_toArray, List.set_cons_zero, List.set_cons_succ]
          refine wpAny_take (i := 24) (oi := _) (v := ?_) (nth_at rfl) (by kernel_rfl) (by kernel_rfl) (by kernel_rfl) (fun _ _ _ h => h) (Or.inl ⟨by rfl, ?_⟩) ?_
          rotate_left 1
          · intro w; (go_simp <;> with_reducible rfl)
          try simp only [Act.put, List.setIfInBounds_toArray, List.set_cons_zero, List.set_cons_succ]
          refine wpAny_ready (rs := [25]) (by kernel_rfl) (by simp) ?_
          refine AllReady.cons (o := _) (nth_at rfl) (fun K hK => ?_) AllReady.nil
          go_simp
          refine hK _ _ ?_
          clear hK K
          try simp only [Act.put, List.setIfInBounds_toArray, List.set_cons_zero, List.set_cons_succ]
          refine wpAny_done (by kernel_rfl) ?_ _
          refine NoPanic.normal ?_
          go_wp2_with fail
          rw [rounds_succ]
          go_wp2_with fail
          go_ret2
          exact X3.out
        refine AllReady.cons (o := _) (nth_at rfl) (fun K hK => ?_) ?_
        · go_simp
          refine hK _ _ ?_
          clear hK K
          try simp only [Act.put, List.setIfInBounds_toArray, List.set_cons_zero, List.set_cons_succ]
          refine wpAny_take (i := 17) (oi := _) (v := ?_) (nth_at rfl) (by kernel_rfl) (by kernel_rfl) (by kernel_rfl) (fun _ _ _ h => h) (Or.inl ⟨by rfl, ?_⟩) ?_
          rotate_left 1
          · intro w; (go_simp <;> with_reducible rfl)
          try simp only [Act.put, List.setIfInBounds_toArray, List.set_cons_zero, List.set_cons_succ]
          refine wpAny_ready (rs := [5, 20]) (by kernel_rfl) (by simp) ?_
          refine AllReady.cons (o := _) (nth_at rfl) (fun K hK => ?_) ?_
          · go_simp
            refine hK _ _ ?_
            clear hK K
            try simp only [Act.put, List.setIfInBounds_toArray, List.set_cons_zero, List.set_cons_succ]
            refine wpAny_take (i := 18) (oi := _) (v := .slice (some ⟨g, 0, none⟩) l.length l.length) (nth_at rfl) (by kernel_rfl) (by kernel_rfl) (by kernel_rfl) (fun _ _ _ h => h) (Or.inl ⟨by rfl, ?_⟩) ?_
            · intro w; (go_simp <;> (have h := HY1.out; simp [sliced] at h ⊢; first | done | exact h))
            try simp only [Act.put, List.setIfInBounds_toArray, List.set_cons_zero, List.set_cons_succ]
            refine wpAny_ready (rs := [20]) (by kernel_rfl) (by simp) ?_
            refine AllReady.cons (o := _) (nth_at rfl) (fun K hK => ?_) AllReady.nil
            go_simp
            try rw [hW5a.out]
            try rw [hW5b.out]
            refine hK _ _ ?_
            clear hK K
            try simp only [Act.put, List.setIfInBounds_toArray, List.set_cons_zero, List.set_cons_succ]
            refine wpAny_ready (rs := [21]) (by kernel_rfl) (by simp) ?_
            refine AllReady.cons (o := _) (nth_at rfl) (fun K hK => ?_) AllReady.nil
            rw [if_pos (by rfl)]
            refine wp_append_own _ _ _ 42 rfl base 9 i0 (.string ⟨#[]⟩) 1 16 Tryz.underlying42 hI hz0 hz1 hz2 rfl (by decide) _ l.length (strsC l) rfl v5 ⟨w3.heap.size, 0, none⟩ 1 1 [.string ⟨t.toArray⟩] rfl rfl c5 (by simp [Value.oneCell']) (by unfold maxLen; omega) (by omega) hbase5 ?_
            intro v6 w6 h6 g6 _
            obtain ⟨⟨a6, c6, rfl⟩, x1, x2, x3⟩ := FINH.out _ _ h6 g6
            have X3 := Lib.hid x3
            clear h6 g6 x3
            refine hK _ _ ?_
            clear hK K
            try simp only [Act.put, List.setIfInBounds_toArray, List.set_cons_zero, List.set_cons_succ]
            refine wpAny_take (i := 22) (oi := _) (v := ?_) (nth_at rfl) (by kernel_rfl) (by kernel_rfl) (by kernel_rfl) (fun _ _ _ h => h) (Or.inl ⟨by rfl, ?_⟩) ?_
            rotate_left 1
            · intro w; (go_simp <;> with_reducible rfl)
            try simp only [Act.put, List.setIfInBounds_toArray, List.set_cons_zero, List.set_cons_succ]
            refine wpAny_take (i := 23) (oi := _) (v := ?_) (nth_at rfl) (by kernel_rfl) (by kernel_rfl) (by kernel_rfl) (fun _ _ _ h => h) (Or.inl ⟨by rfl, ?_⟩) ?_
            rotate_left 1
            · intro w; (go_simp <;> with_reducible rfl)
            try simp only [Act.put, List.setIfInBounds_toArray, List.set_cons_zero, List.set_cons_succ]
            refine wpAny_take (i := 24) (oi := _) (v := ?_) (nth_at rfl) (by kernel_rfl) (by kernel_rfl) (by kernel_rfl) (fun _ _ _ h => h) (Or.inl ⟨by rfl, ?_⟩) ?_
            rotate_left 1
            · intro w; (go_simp <;> with_reducible rfl)
            try simp only [Act.put, List.setIfInBounds_toArray, List.set_cons_zero, List.set_cons_succ]
            refine wpAny_ready (rs := [25]) (by kernel_rfl) (by simp) ?_
            refine AllReady.cons (o := _) (nth_at rfl) (fun K hK => ?_) AllReady.nil
            go_simp
            refine hK _ _ ?_
            clear hK K
            try simp only [Act.put, List.setIfInBounds_toArray, List.set_cons_zero, List.set_cons_succ]
            refine wpAny_done (by kernel_rfl) ?_ _
            refine NoPanic.normal ?_
            go_wp2_with fail
            rw [rounds_succ]
            go_wp2_with fail
            go_ret2
            exact X3.out
          refine AllReady.cons (o := _) (nth_at rfl) (fun K hK => ?_) AllReady.nil
          go_simp
          try rw [hW5a.out]
          try rw [hW5b.out]
          refine hK _ _ ?_
          clear hK K
          try simp only [Act.put, List.setIfInBounds_toArray, List.set_cons_zero, List.set_cons_succ]
          refine wpAny_ready (rs := [5]) (by kernel_rfl) (by simp) ?_
          refine AllReady.cons (o := _) (nth_at rfl) (fun K hK => ?_) AllReady.nil
          go_simp
          refine hK _ _ ?_
          clear hK K
          try simp only [Act.put, List.setIfInBounds_toArray, List.set_cons_zero, List.set_cons_succ]
          refine wpAny_take (i := 18) (oi := _) (v := .slice (some ⟨g, 0, none⟩) l.length l.length) (nth_at rfl) (by kernel_rfl) (by kernel_rfl) (by kernel_rfl) (fun _ _ _ h => h) (Or.inl ⟨by rfl, ?_⟩) ?_
          · intro w; (go_simp <;> (have h := HY1.out; simp [sliced] at h ⊢; first | done | exact h))
          try simp only [Act.put, List.setIfInBounds_toArray, List.set_cons_zero, List.set_cons_succ]
          refine wpAny_ready (rs := [21]) (by kernel_rfl) (by simp) ?_
          refine AllReady.cons (o := _) (nth_at rfl) (fun K hK => ?_) AllReady.nil
          rw [if_pos (by rfl)]
          refine wp_append_own _ _ _ 42 rfl base 9 i0 (.string ⟨#[]⟩) 1 16 Tryz.underlying42 hI hz0 hz1 hz2 rfl (by decide) _ l.length (strsC l) rfl v5 ⟨w3.heap.size, 0, none⟩ 1 1 [.string ⟨t.toArray⟩] rfl rfl c5 (by simp [Value.oneCell']) (by unfold maxLen; omega) (by omega) hbase5 ?_
          intro v6 w6 h6 g6 _
          obtain ⟨⟨a6, c6, rfl⟩, x1, x2, x3⟩ := FINH.out _ _ h6 g6
          have X3 := Lib.hid x3
          clear h6 g6 x3
          refine hK _ _ ?_
          clear hK K
          try simp only [Act.put, List.setIfInBounds_toArray, List.set_cons_zero, List.set_cons_succ]
          refine wpAny_take (i := 22) (oi := _) (v := ?_) (nth_at rfl) (by kernel_rfl) (by kernel_rfl) (by kernel_rfl) (fun _ _ _ h => h) (Or.inl ⟨by rfl, ?_⟩) ?_
          rotate_left 1
          · intro w; (go_simp <;> with_reducible rfl)
          try simp only [Act.put, List.setIfInBounds_toArray, List.set_cons_zero, List.set_cons_succ]
          refine wpAny_take (i := 23) (oi := _) (v := ?_) (nth_at rfl) (by kernel_rfl) (by kernel_rfl) (by kernel_rfl) (fun _ _ _ h => h) (Or.inl ⟨by rfl, ?_⟩) ?_
          rotate_left 1
          · intro w; (go_simp <;> with_reducible rfl)
          try simp only [Act.put, List.setIfInBounds_toArray, List.set_cons_zero, List.set_cons_succ]
          refine wpAny_take (i := 24) (oi := _) (v := ?_) (nth_at rfl) (by kernel_rfl) (by kernel_rfl) (by kernel_rfl) (fun _ _ _ h => h) (Or.inl ⟨by rfl, ?_⟩) ?_
          rotate_left 1
          · intro w; (go_simp <;> with_reducible rfl)
          try simp only [Act.put, List.setIfInBounds_toArray, List.set_cons_zero, List.set_cons_succ]
          refine wpAny_ready (rs := [25]) (by kernel_rfl) (by simp) ?_
          refine AllReady.cons (o := _) (nth_at rfl) (fun K hK => ?_) AllReady.nil
          go_simp
          refine hK _ _ ?_
          clear hK K
          try simp only [Act.put, List.setIfInBounds_toArray, List.set_cons_zero, List.set_cons_succ]
          refine wpAny_done (by kernel_rfl) ?_ _
          refine NoPanic.normal ?_
          go_wp2_with fail
          rw [rounds_succ]
          go_wp2_with fail
          go_ret2
          exact X3.out
        refine AllReady.cons (o := _) (nth_at rfl) (fun K hK => ?_) AllReady.nil
        go_simp
        try rw [hW5a.out]
        try rw [hW5b.out]
        refine hK _ _ ?_
        clear hK K
        try simp only [Act.put, List.setIfInBounds_toArray, List.set_cons_zero, List.set_cons_succ]
        refine wpAny_ready (rs := [5, 16]) (by kernel_rfl) (by simp) ?_
        refine AllReady.cons (o := _) (nth_at rfl) (fun K hK => ?_) ?_
        · go_simp
          refine hK _ _ ?_
          clear hK K
          try simp only [Act.put, List.setIfInBounds_toArray, List.set_cons_zero, List.set_cons_succ]
          refine wpAny_ready (rs := [16]) (by kernel_rfl) (by simp) ?_
          refine AllReady.cons (o := _) (nth_at rfl) (fun K hK => ?_) AllReady.nil
          go_simp
          refine hK _ _ ?_
          clear hK K
          try simp only [Act.put, List.setIfInBounds_toArray, List.set_cons_zero, List.set_cons_succ]
          refine wpAny_take (i := 17) (oi := _) (v := ?_) (nth_at rfl) (by kernel_rfl) (by kernel_rfl) (by kernel_rfl) (fun _ _ _ h => h) (Or.inl ⟨by rfl, ?_⟩) ?_
          rotate_left 1
          · intro w; (go_simp <;> with_reducible rfl)
          try simp only [Act.put, List.setIfInBounds_toArray, List.set_cons_zero, List.set_cons_succ]
          refine wpAny_take (i := 18) (oi := _) (v := .slice (some ⟨g, 0, none⟩) l.length l.length) (nth_at rfl) (by kernel_rfl) (by kernel_rfl) (by kernel_rfl) (fun _ _ _ h => h) (Or.inl ⟨by rfl, ?_⟩) ?_
          · intro w; (go_simp <;> (have h := HY1.out; simp [sliced] at h ⊢; first | done | exact h))
          try simp only [Act.put, List.setIfInBounds_toArray, List.set_cons_zero, List.set_cons_succ]
          refine wpAny_ready (rs := [21]) (by kernel_rfl) (by simp) ?_
          refine AllReady.cons (o := _) (nth_at rfl) (fun K hK => ?_) AllReady.nil
          rw [if_pos (by rfl)]
          refine wp_append_own _ _ _ 42 rfl base 9 i0 (.string ⟨#[]⟩) 1 16 Tryz.underlying42 hI hz0 hz1 hz2 rfl (by decide) _ l.length (strsC l) rfl v5 ⟨w3.heap.size, 0, none⟩ 1 1 [.string ⟨t.toArray⟩] rfl rfl c5 (by simp [Value.oneCell']) (by unfold maxLen; omega) (by omega) hbase5 ?_
          intro v6 w6 h6 g6 _
          obtain ⟨⟨a6, c6, rfl⟩, x1, x2, x3⟩ := FINH.out _ _ h6 g6
          have X3 := Lib.hid x3
          clear h6 g6 x3
          refine hK _ _ ?_
          clear hK K
          try simp only [Act.put, List.setIfInBounds_toArray, List.set_cons_zero, List.set_cons_succ]
          refine wpAny_take (i := 22) (oi := _) (v := ?_) (nth_at rfl) (by kernel_rfl) (by kernel_rfl) (by kernel_rfl) (fun _ _ _ h => h) (Or.inl ⟨by rfl, ?_⟩) ?_
          rotate_left 1
          · intro w; (go_simp <;> with_reducible rfl)
          try simp only [Act.put, List.setIfInBounds_toArray, List.set_cons_zero, List.set_cons_succ]
          refine wpAny_take (i := 23) (oi := _) (v := ?_) (nth_at rfl) (by kernel_rfl) (by kernel_rfl) (by kernel_rfl) (fun _ _ _ h => h) (Or.inl ⟨by rfl, ?_⟩) ?_
          rotate_left 1
          · intro w; (go_simp <;> with_reducible rfl)
          try simp only [Act.put, List.setIfInBounds_toArray, List.set_cons_zero, List.set_cons_succ]
          refine wpAny_take (i := 24) (oi := _) (v := ?_) (nth_at rfl) (by kernel_rfl) (by kernel_rfl) (by kernel_rfl) (fun _ _ _ h => h) (Or.inl ⟨by rfl, ?_⟩) ?_
          rotate_left 1
          · intro w; (go_simp <;> with_reducible rfl)
          try simp only [Act.put, List.setIfInBounds_toArray, List.set_cons_zero, List.set_cons_succ]
          refine wpAny_ready (rs := [25]) (by kernel_rfl) (by simp) ?_
          refine AllReady.cons (o := _) (nth_at rfl) (fun K hK => ?_) AllReady.nil
          go_simp
          refine hK _ _ ?_
          clear hK K
          try simp only [Act.put, List.setIfInBounds_toArray, List.set_cons_zero, List.set_cons_succ]
          refine wpAny_done (by kernel_rfl) ?_ _
          refine NoPanic.normal ?_
          go_wp2_with fail
          rw [rounds_succ]
          go_wp2_with fail
          go_ret2
          exact X3.out
        refine AllReady.cons (o := _) (nth_at rfl) (fun K hK => ?_) AllReady.nil
        go_simp
        refine hK _ _ ?_
        clear hK K
        try simp only [Act.put, List.setIfInBounds_toArray, List.set_cons_zero, List.set_cons_succ]
        refine wpAny_take (i := 17) (oi := _) (v := ?_) (nth_at rfl) (by kernel_rfl) (by kernel_rfl) (by kernel_rfl) (fun _ _ _ h => h) (Or.inl ⟨by rfl, ?_⟩) ?_
        rotate_left 1
        · intro w; (go_simp <;> with_reducible rfl)
        try simp only [Act.put, List.setIfInBounds_toArray, List.set_cons_zero, List.set_cons_succ]
        refine wpAny_ready (rs := [5]) (by kernel_rfl) (by simp) ?_
        refine AllReady.cons (o := _) (nth_at rfl) (fun K hK => ?_) AllReady.nil
        go_simp
        refine hK _ _ ?_
        clear hK K
        try simp only [Act.put, List.setIfInBounds_toArray, List.set_cons_zero, List.set_cons_succ]
        refine wpAny_take (i := 18) (oi := _) (v := .slice (some ⟨g, 0, none⟩) l.length l.length) (nth_at rfl) (by kernel_rfl) (by kernel_rfl) (by kernel_rfl) (fun _ _ _ h => h) (Or.inl ⟨by rfl, ?_⟩) ?_
        · intro w; (go_simp <;> (have h := HY1.out; simp [sliced] at h ⊢; first | done | exact h))
        try simp only [Act.put, List.setIfInBounds_toArray, List.set_cons_zero, List.set_cons_succ]
        refine wpAny_ready (rs := [21]) (by kernel_rfl) (by simp) ?_
        refine AllReady.cons (o := _) (nth_at rfl) (fun K hK => ?_) AllReady.nil
        rw [if_pos (by rfl)]
        refine wp_append_own _ _ _ 42 rfl base 9 i0 (.string ⟨#[]⟩) 1 16 Tryz.underlying42 hI hz0 hz1 hz2 rfl (by decide) _ l.length (strsC l) rfl v5 ⟨w3.heap.size, 0, none⟩ 1 1 [.string ⟨t.toArray⟩] rfl rfl c5 (by simp [Value.oneCell']) (by unfold maxLen; omega) (by omega) hbase5 ?_
        intro v6 w6 h6 g6 _
        obtain ⟨⟨a6, c6, rfl⟩, x1, x2, x3⟩ := FINH.out _ _ h6 g6
        have X3 := Lib.hid x3
        clear h6 g6 x3
        refine hK _ _ ?_
        clear hK K
        try simp only [Act.put, List.setIfInBounds_toArray, List.set_cons_zero, List.set_cons_succ]
        refine wpAny_take (i := 22) (oi := _) (v := ?_) (nth_at rfl) (by kernel_rfl) (by kernel_rfl) (by kernel_rfl) (fun _ _ _ h => h) (Or.inl ⟨by rfl, ?_⟩) ?_
        rotate_left 1
        · intro w; (go_simp <;> with_reducible rfl)
        try simp only [Act.put, List.setIfInBounds_toArray, List.set_cons_zero, List.set_cons_succ]
        refine wpAny_take (i := 23) (oi := _) (v := ?_) (nth_at rfl) (by kernel_rfl) (by kernel_rfl) (by kernel_rfl) (fun _ _ _ h => h) (Or.inl ⟨by rfl, ?_⟩) ?_
        rotate_left 1
        · intro w; (go_simp <;> with_reducible rfl)
        try simp only [Act.put, List.setIfInBounds_toArray, List.set_cons_zero, List.set_cons_succ]
        refine wpAny_take (i := 24) (oi := _) (v := ?_) (nth_at rfl) (by kernel_rfl) (by kernel_rfl) (by kernel_rfl) (fun _ _ _ h => h) (Or.inl ⟨by rfl, ?_⟩) ?_
        rotate_left 1
        · intro w; (go_simp <;> with_reducible rfl)
        try simp only [Act.put, List.setIfInBounds_toArray, List.set_cons_zero, List.set_cons_succ]
        refine wpAny_ready (rs := [25]) (by kernel_rfl) (by simp) ?_
        refine AllReady.cons (o := _) (nth_at rfl) (fun K hK => ?_) AllReady.nil
        go_simp
        refine hK _ _ ?_
        clear hK K
        try simp only [Act.put, List.setIfInBounds_toArray, List.set_cons_zero, List.set_cons_succ]
        refine wpAny_done (by kernel_rfl) ?_ _
        refine NoPanic.normal ?_
        go_wp2_with fail
        rw [rounds_succ]
        go_wp2_with fail
        go_ret2
        exact X3.out
      refine AllReady.cons (o := _) (nth_at rfl) (fun K hK => ?_) ?_
      · go_simp
        refine hK _ _ ?_
        clear hK K
        try simp only [Act.put, List.setIfInBounds_toArray, List.set_cons_zero, List.set_cons_succ]
        refine wpAny_take (i := 17) (oi := _) (v := ?_) (nth_at rfl) (by kernel_rfl) (by kernel_rfl) (by kernel_rfl) (fun _ _ _ h => h) (Or.inl ⟨by rfl, ?_⟩) ?_
        rotate_left 1
        · intro w; (go_simp <;> with_reducible rfl)
        try simp only [Act.put, List.setIfInBounds_toArray, List.set_cons_zero, List.set_cons_succ]
        refine wpAny_ready (rs := [5, 10, 20]) (by kernel_rfl) (by simp) ?_
        refine AllReady.cons (o := _) (nth_at rfl) (fun K hK => ?_) ?_
        · go_simp
          refine hK _ _ ?_
          clear hK K
          try simp only [Act.put, List.setIfInBounds_toArray, List.set_cons_zero, List.set_cons_succ]
          refine wpAny_ready (rs := [10, 20]) (by kernel_rfl) (by simp) ?_
          refine AllReady.cons (o := _) (nth_at rfl) (fun K hK => ?_) ?_
          · go_simp
            refine hK _ _ ?_
            clear hK K
            try simp only [Act.put, List.setIfInBounds_toArray, List.set_cons_zero, List.set_cons_succ]
            refine wpAny_take (i := 11) (oi := _) (v := ?_) (nth_at rfl) (by kernel_rfl) (by kernel_rfl) (by kernel_rfl) (fun _ _ _ h => h) (Or.inl ⟨by rfl, ?_⟩) ?_
            rotate_left 1
            · intro w; (go_simp <;> with_reducible rfl)
            try simp only [Act.put, List.setIfInBounds_toArray, List.set_cons_zero, List.set_cons_succ]
            refine wpAny_take (i := 18) (oi := _) (v := .slice (some ⟨g, 0, none⟩) l.length l.length) (nth_at rfl) (by kernel_rfl) (by kernel_rfl) (by kernel_rfl) (fun _ _ _ h => h) (Or.inl ⟨by rfl, ?_⟩) ?_
            · intro w; (go_simp <;> (have h := HY1.out; simp [sliced] at h ⊢; first | done | exact h))
            try simp only [Act.put, List.setIfInBounds_toArray, List.set_cons_zero, List.set_cons_succ]
            refine wpAny_ready (rs := [20]) (by kernel_rfl) (by simp) ?_
            refine AllReady.cons (o := _) (nth_at rfl) (fun K hK => ?_) AllReady.nil
            go_simp
            try rw [hW5a.out]
            try rw [hW5b.out]
            refine hK _ _ ?_
            clear hK K
            try simp only [Act.put, List.setIfInBounds_toArray, List.set_cons_zero, List.set_cons_succ]
            refine wpAny_ready (rs := [21]) (by kernel_rfl) (by simp) ?_
            refine AllReady.cons (o := _) (nth_at rfl) (fun K hK => ?_) AllReady.nil
            rw [if_pos (by rfl)]
            refine wp_append_own _ _ _ 42 rfl base 9 i0 (.string ⟨#[]⟩) 1 16 Tryz.underlying42 hI hz0 hz1 hz2 rfl (by decide) _ l.length (strsC l) rfl v5 ⟨w3.heap.size, 0, none⟩ 1 1 [.string ⟨t.toArray⟩] rfl rfl c5 (by simp [Value.oneCell']) (by unfold maxLen; omega) (by omega) hbase5 ?_
            intro v6 w6 h6 g6 _
            obtain ⟨⟨a6, c6, rfl⟩, x1, x2, x3⟩ := FINH.out _ _ h6 g6
            have X3 := Lib.hid x3
            clear h6 g6 x3
            refine hK _ _ ?_
            clear hK K
            try simp only [Act.put, List.setIfInBounds_toArray, List.set_cons_zero, List.set_cons_succ]
            refine wpAny_take (i := 22) (oi := _) (v := ?_) (nth_at rfl) (by kernel_rfl) (by kernel_rfl) (by kernel_rfl) (fun _ _ _ h => h) (Or.inl ⟨by rfl, ?_⟩) ?_
            rotate_left 1
            · intro w; (go_simp <;> with_reducible rfl)
            try simp only [Act.put, List.setIfInBounds_toArray, List.set_cons_zero, List.set_cons_succ]
            refine wpAny_take (i := 23) (oi := _) (v := ?_) (nth_at rfl) (by kernel_rfl) (by kernel_rfl) (by kernel_rfl) (fun _ _ _ h => h) (Or.inl ⟨by rfl, ?_⟩) ?_
            rotate_left 1
            · intro w; (go_simp <;> with_reducible rfl)
            try simp only [Act.put, List.setIfInBounds_toArray, List.set_cons_zero, List.set_cons_succ]
            refine wpAny_take (i := 24) (oi := _) (v := ?_) (nth_at rfl) (by kernel_rfl) (by kernel_rfl) (by kernel_rfl) (fun _ _ _ h => h) (Or.inl ⟨by rfl, ?_⟩) ?_
            rotate_left 1
            · intro w; (go_simp <;> with_reducible rfl)
            try simp only [Act.put, List.setIfInBounds_toArray, List.set_cons_zero, List.set_cons_succ]
            refine wpAny_ready (rs := [25]) (by kernel_rfl) (by simp) ?_
            refine AllReady.cons (o := _) (nth_at rfl) (fun K hK => ?_) AllReady.nil
            go_simp
            refine hK _ _ ?_
            clear hK K
            try simp only [Act.put, List.setIfInBounds_toArray, List.set_cons_zero, List.set_cons_succ]
            refine wpAny_done (by kernel_rfl) ?_ _
            refine NoPanic.normal ?_
            go_wp2_with fail
            rw [rounds_succ]
            go_wp2_with fail
            go_ret2
            exact X3.out
          refine AllReady.cons (o := _) (nth_at rfl) (fun K hK => ?_) AllReady.nil
          go_simp
          try rw [hW5a.out]
          try rw [hW5b.out]
          refine hK _ _ ?_
          clear hK K
          try simp only [Act.put, List.setIfInBounds_toArray, List.set_cons_zero, List.set_cons_succ]
          refine wpAny_ready (rs := [10]) (by kernel_rfl) (by simp) ?_
          refine AllReady.cons (o := _) (nth_at rfl) (fun K hK => ?_) AllReady.nil
          go_simp
          refine hK _ _ ?_
          clear hK K
          try simp only [Act.put, List.setIfInBounds_toArray, List.set_cons_zero, List.set_cons_succ]
          refine wpAny_take (i := 11) (oi := _) (v := ?_) (nth_at rfl) (by kernel_rfl) (by kernel_rfl) (by kernel_rfl) (fun _ _ _ h => h) (Or.inl ⟨by rfl, ?_⟩) ?_
          rotate_left 1
          · intro w; (go_simp <;> with_reducible rfl)
          try simp only [Act.put, List.setIfInBounds_toArray, List.set_cons_zero, List.set_cons_succ]
          refine wpAny_take (i := 18) (oi := _) (v := .slice (some ⟨g, 0, none⟩) l.length l.length) (nth_at rfl) (by kernel_rfl) (by kernel_rfl) (by kernel_rfl) (fun _ _ _ h => h) (Or.inl ⟨by rfl, ?_⟩) ?_
          · intro w; (go_simp <;> (have h := HY1.out; simp [sliced] at h ⊢; first | done | exact h))
          try simp only [Act.put, List.setIfInBounds_toArray, List.set_cons_zero, List.set_cons_succ]
          refine wpAny_ready (rs := [21]) (by kernel_rfl) (by simp) ?_
          refine AllReady.cons (o := _) (nth_at rfl) (fun K hK => ?_) AllReady.nil
          rw [if_pos (by rfl)]
          refine wp_append_own _ _ _ 42 rfl base 9 i0 (.string ⟨#[]⟩) 1 16 Tryz.underlying42 hI hz0 hz1 hz2 rfl (by decide) _ l.length (strsC l) rfl v5 ⟨w3.heap.size, 0, none⟩ 1 1 [.string ⟨t.toArray⟩] rfl rfl c5 (by simp [Value.oneCell']) (by unfold maxLen; omega) (by omega) hbase5 ?_
          intro v6 w6 h6 g6 _
          obtain ⟨⟨a6, c6, rfl⟩, x1, x2, x3⟩ := FINH.out _ _ h6 g6
          have X3 := Lib.hid x3
          clear h6 g6 x3
          refine hK _ _ ?_
          clear hK K
          try simp only [Act.put, List.setIfInBounds_toArray, List.set_cons_zero, List.set_cons_succ]
          refine wpAny_take (i := 22) (oi := _) (v := ?_) (nth_at rfl) (by kernel_rfl) (by kernel_rfl) (by kernel_rfl) (fun _ _ _ h => h) (Or.inl ⟨by rfl, ?_⟩) ?_
          rotate_left 1
          · intro w; (go_simp <;> with_reducible rfl)
          try simp only [Act.put, List.setIfInBounds_toArray, List.set_cons_zero, List.set_cons_succ]
          refine wpAny_take (i := 23) (oi := _) (v := ?_) (nth_at rfl) (by kernel_rfl) (by kernel_rfl) (by kernel_rfl) (fun _ _ _ h => h) (Or.inl ⟨by rfl, ?_⟩) ?_
          rotate_left 1
          · intro w; (go_simp <;> with_reducible rfl)
          try simp only [Act.put, List.setIfInBounds_toArray, List.set_cons_zero, List.set_cons_succ]
          refine wpAny_take (i := 24) (oi := _) (v := ?_) (nth_at rfl) (by kernel_rfl) (by kernel_rfl) (by kernel_rfl) (fun _ _ _ h => h) (Or.inl ⟨by rfl, ?_⟩) ?_
          rotate_left 1
          · intro w; (go_simp <;> with_reducible rfl)
          try simp only [Act.put, List.setIfInBounds_toArray, List.set_cons_zero, List.set_cons_succ]
          refine wpAny_ready (rs := [25]) (by kernel_rfl) (by simp) ?_
          refine AllReady.cons (o := _) (nth_at rfl) (fun K hK => ?_) AllReady.nil
          go_simp
          refine hK _ _ ?_
          clear hK K
          try simp only [Act.put, List.setIfInBounds_toArray, List.set_cons_zero, List.set_cons_succ]
          refine wpAny_done (by kernel_rfl) ?_ _
          refine NoPanic.normal ?_
          go_wp2_with fail
          rw [rounds_succ]
          go_wp2_with fail
          go_ret2
          exact X3.out
        refine AllReady.cons (o := _) (nth_at rfl) (fun K hK => ?_) ?_
        · go_simp
          refine hK _ _ ?_
          clear hK K
          try simp only [Act.put, List.setIfInBounds_toArray, List.set_cons_zero, List.set_cons_succ]
          refine wpAny_take (i := 11) (oi := _) (v := ?_) (nth_at rfl) (by kernel_rfl) (by kernel_rfl) (by kernel_rfl) (fun _ _ _ h => h) (Or.inl ⟨by rfl, ?_⟩) ?_
          rotate_left 1
          · intro w; (go_simp <;> with_reducible rfl)
          try simp only [Act.put, List.setIfInBounds_toArray, List.set_cons_zero, List.set_cons_succ]
          refine wpAny_ready (rs := [5, 20]) (by kernel_rfl) (by simp) ?_
          refine AllReady.cons (o := _) (nth_at rfl) (fun K hK => ?_) ?_
          · go_simp
            refine hK _ _ ?_
            clear hK K
            try simp only [Act.put, List.setIfInBounds_toArray, List.set_cons_zero, List.set_cons_succ]
            refine wpAny_take (i := 18) (oi := _) (v := .slice (some ⟨g, 0, none⟩) l.length l.length) (nth_at rfl) (by kernel_rfl) (by kernel_rfl) (by kernel_rfl) (fun _ _ _ h => h) (Or.inl ⟨by rfl, ?_⟩) ?_
            · intro w; (go_simp <;> (have h := HY1.out; simp [sliced] at h ⊢; first | done | exact h))
            try simp only [Act.put, List.setIfInBounds_toArray, List.set_cons_zero, List.set_cons_succ]
            refine wpAny_ready (rs := [20]) (by kernel_rfl) (by simp) ?_
            refine AllReady.cons (o := _) (nth_at rfl) (fun K hK => ?_) AllReady.nil
            go_simp
            try rw [hW5a.out]
            try rw [hW5b.out]
            refine hK _ _ ?_
            clear hK K
            try simp only [Act.put, List.setIfInBounds_toArray, List.set_cons_zero, List.set_cons_succ]
            refine wpAny_ready (rs := [21]) (by kernel_rfl) (by simp) ?_
            refine AllReady.cons (o := _) (nth_at rfl) (fun K hK => ?_) AllReady.nil
            rw [if_pos (by rfl)]
            refine wp_append_own _ _ _ 42 rfl base 9 i0 (.string ⟨#[]⟩) 1 16 Tryz.underlying42 hI hz0 hz1 hz2 rfl (by decide) _ l.length (strsC l) rfl v5 ⟨w3.heap.size, 0, none⟩ 1 1 [.string ⟨t.toArray⟩] rfl rfl c5 (by simp [Value.oneCell']) (by unfold maxLen; omega) (by omega) hbase5 ?_
            intro v6 w6 h6 g6 _
            obtain ⟨⟨a6, c6, rfl⟩, x1, x2, x3⟩ := FINH.out _ _ h6 g6
            have X3 := Lib.hid x3
            clear h6 g6 x3
            refine hK _ _ ?_
            clear hK K
            try simp only [Act.put, List.setIfInBounds_toArray, List.set_cons_zero, List.set_cons_succ]
            refine wpAny_take (i := 22) (oi := _) (v := ?_) (nth_at rfl) (by kernel_rfl) (by kernel_rfl) (by kernel_rfl) (fun _ _ _ h => h) (Or.inl ⟨by rfl, ?_⟩) ?_
            rotate_left 1
            · intro w; (go_simp <;> with_reducible rfl)
            try simp only [Act.put, List.setIfInBounds_toArray, List.set_cons_zero, List.set_cons_succ]
            refine wpAny_take (i := 23) (oi := _) (v := ?_) (nth_at rfl) (by kernel_rfl) (by kernel_rfl) (by kernel_rfl) (fun _ _ _ h => h) (Or.inl ⟨by rfl, ?_⟩) ?_
            rotate_left 1
            · intro w; (go_simp <;> with_reducible rfl)
            try simp only [Act.put, List.setIfInBounds_toArray, List.set_cons_zero, List.set_cons_succ]
            refine wpAny_take (i := 24) (oi := _) (v := ?_) (nth_at rfl) (by kernel_rfl) (by kernel_rfl) (by kernel_rfl) (fun _ _ _ h => h) (Or.inl ⟨by rfl, ?_⟩) ?_
            rotate_left 1
            · intro w; (go_simp <;> with_reducible rfl)
            try simp only [Act.put, List.setIfInBounds_toArray, List.set_cons_zero, List.set_cons_succ]
            refine wpAny_ready (rs := [25]) (by kernel_rfl) (by simp) ?_
            refine AllReady.cons (o := _) (nth_at rfl) (fun K hK => ?_) AllReady.nil
            go_simp
            refine hK _ _ ?_
            clear hK K
            try simp only [Act.put, List.setIfInBounds_toArray, List.set_cons_zero, List.set_cons_succ]
            refine wpAny_done (by kernel_rfl) ?_ _
            refine NoPanic.normal ?_
            go_wp2_with fail
            rw [rounds_succ]
            go_wp2_with fail
            go_ret2
            exact X3.out
          refine AllReady.cons (o := _) (nth_at rfl) (fun K hK => ?_) AllReady.nil
          go_simp
          try rw [hW5a.out]
          try rw [hW5b.out]
          refine hK _ _ ?_
          clear hK K
          try simp only [Act.put, List.setIfInBounds_toArray, List.set_cons_zero, List.set_cons_succ]
          refine wpAny_ready (rs := [5]) (by kernel_rfl) (by simp) ?_
          refine AllReady.cons (o := _) (nth_at rfl) (fun K hK => ?_) AllReady.nil
          go_simp
          refine hK _ _ ?_
          clear hK K
          try simp only [Act.put, List.setIfInBounds_toArray, List.set_cons_zero, List.set_cons_succ]
          refine wpAny_take (i := 18) (oi := _) (v := .slice (some ⟨g, 0, none⟩) l.length l.length) (nth_at rfl) (by kernel_rfl) (by kernel_rfl) (by kernel_rfl) (fun _ _ _ h => h) (Or.inl ⟨by rfl, ?_⟩) ?_
          · intro w; (go_simp <;> (have h := HY1.out; simp [sliced] at h ⊢; first | done | exact h))
          try simp only [Act.put, List.setIfInBounds_toArray, List.set_cons_zero, List.set_cons_succ]
          refine wpAny_ready (rs := [21]) (by kernel_rfl) (by simp) ?_
          refine AllReady.cons (o := _) (nth_at rfl) (fun K hK => ?_) AllReady.nil
          rw [if_pos (by rfl)]
          refine wp_append_own _ _ _ 42 rfl base 9 i0 (.string ⟨#[]⟩) 1 16 Tryz.underlying42 hI hz0 hz1 hz2 rfl (by decide) _ l.length (strsC l) rfl v5 ⟨w3.heap.size, 0, none⟩ 1 1 [.string ⟨t.toArray⟩] rfl rfl c5 (by simp [Value.oneCell']) (by unfold maxLen; omega) (by omega) hbase5 ?_
          intro v6 w6 h6 g6 _
          obtain ⟨⟨a6, c6, rfl⟩, x1, x2, x3⟩ := FINH.out _ _ h6 g6
          have X3 := Lib.hid x3
          clear h6 g6 x3
          refine hK _ _ ?_
          clear hK K
          try simp only [Act.put, List.setIfInBounds_toArray, List.set_cons_zero, List.set_cons_succ]
          refine wpAny_take (i := 22) (oi := _) (v := ?_) (nth_at rfl) (by kernel_rfl) (by kernel_rfl) (by kernel_rfl) (fun _ _ _ h => h) (Or.inl ⟨by rfl, ?_⟩) ?_
          rotate_left 1
          · intro w; (go_simp <;> with_reducible rfl)
          try simp only [Act.put, List.setIfInBounds_toArray, List.set_cons_zero, List.set_cons_succ]
          refine wpAny_take (i := 23) (oi := _) (v := ?_) (nth_at rfl) (by kernel_rfl) (by kernel_rfl) (by kernel_rfl) (fun _ _ _ h => h) (Or.inl ⟨by rfl, ?_⟩) ?_
          rotate_left 1
          · intro w; (go_simp <;> with_reducible rfl)
          try simp only [Act.put, List.setIfInBounds_toArray, List.set_cons_zero, List.set_cons_succ]
          refine wpAny_take (i := 24) (oi := _) (v := ?_) (nth_at rfl) (by kernel_rfl) (by kernel_rfl) (by kernel_rfl) (fun _ _ _ h => h) (Or.inl ⟨by rfl, ?_⟩) ?_
          rotate_left 1
          · intro w; (go_simp <;> with_reducible rfl)
          try simp only [Act.put, List.setIfInBounds_toArray, List.set_cons_zero, List.set_cons_succ]
          refine wpAny_ready (rs := [25]) (by kernel_rfl) (by simp) ?_
          refine AllReady.cons (o := _) (nth_at rfl) (fun K hK => ?_) AllReady.nil
          go_simp
          refine hK _ _ ?_
          clear hK K
          try simp only [Act.put, List.setIfInBounds_toArray, List.set_cons_zero, List.set_cons_succ]
          refine wpAny_done (by kernel_rfl) ?_ _
          refine NoPanic.normal ?_
          go_wp2_with fail
          rw [rounds_succ]
          go_wp2_with fail
          go_ret2
          exact X3.out
        refine AllReady.cons (o := _) (nth_at rfl) (fun K hK => ?_) AllReady.nil
        go_simp
        try rw [hW5a.out]
        try rw [hW5b.out]
        refine hK _ _ ?_
        clear hK K
        try simp only [Act.put, List.setIfInBounds_toArray, List.set_cons_zero, List.set_cons_succ]
        refine wpAny_ready (rs := [5, 10]) (by kernel_rfl) (by simp) ?_
        refine AllReady.cons (o := _) (nth_at rfl) (fun K hK => ?_) ?_
        · go_simp
          refine hK _ _ ?_
          clear hK K
          try simp only [Act.put, List.setIfInBounds_toArray, List.set_cons_zero, List.set_cons_succ]
          refine wpAny_ready (rs := [10]) (by kernel_rfl) (by simp) ?_
          refine AllReady.cons (o := _) (nth_at rfl) (fun K hK => ?_) AllReady.nil
          go_simp
          refine hK _ _ ?_
          clear hK K
          try simp only [Act.put, List.setIfInBounds_toArray, List.set_cons_zero, List.set_cons_succ]
          refine wpAny_take (i := 11) (oi := _) (v := ?_) (nth_at rfl) (by kernel_rfl) (by kernel_rfl) (by kernel_rfl) (fun _ _ _ h => h) (Or.inl ⟨by rfl, ?_⟩) ?_
          rotate_left 1
          · intro w; (go_simp <;> with_reducible rfl)
          try simp only [Act.put, List.setIfInBounds_toArray, List.set_cons_zero, List.set_cons_succ]
          refine wpAny_take (i := 18) (oi := _) (v := .slice (some ⟨g, 0, none⟩) l.length l.length) (nth_at rfl) (by kernel_rfl) (by kernel_rfl) (by kernel_rfl) (fun _ _ _ h => h) (Or.inl ⟨by rfl, ?_⟩) ?_
          · intro w; (go_simp <;> (have h := HY1.out; simp [sliced] at h ⊢; first | done | exact h))
          try simp only [Act.put, List.setIfInBounds_toArray, List.set_cons_zero, List.set_cons_succ]
          refine wpAny_ready (rs := [21]) (by kernel_rfl) (by simp) ?_
          refine AllReady.cons (o := _) (nth_at rfl) (fun K hK => ?_) AllReady.nil
          rw [if_pos (by rfl)]
          refine wp_append_own _ _ _ 42 rfl base 9 i0 (.string ⟨#[]⟩) 1 16 Tryz.underlying42 hI hz0 hz1 hz2 rfl (by decide) _ l.length (strsC l) rfl v5 ⟨w3.heap.size, 0, none⟩ 1 1 [.string ⟨t.toArray⟩] rfl rfl c5 (by simp [Value.oneCell']) (by unfold maxLen; omega) (by omega) hbase5 ?_
          intro v6 w6 h6 g6 _
          obtain ⟨⟨a6, c6, rfl⟩, x1, x2, x3⟩ := FINH.out _ _ h6 g6
          have X3 := Lib.hid x3
          clear h6 g6 x3
          refine hK _ _ ?_
          clear hK K
          try simp only [Act.put, List.setIfInBounds_toArray, List.set_cons_zero, List.set_cons_succ]
          refine wpAny_take (i := 22) (oi := _) (v := ?_) (nth_at rfl) (by kernel_rfl) (by kernel_rfl) (by kernel_rfl) (fun _ _ _ h => h) (Or.inl ⟨by rfl, ?_⟩) ?_
          rotate_left 1
          · intro w; (go_simp <;> with_reducible rfl)
          try simp only [Act.put, List.setIfInBounds_toArray, List.set_cons_zero, List.set_cons_succ]
          refine wpAny_take (i := 23) (oi := _) (v := ?_) (nth_at rfl) (by kernel_rfl) (by kernel_rfl) (by kernel_rfl) (fun _ _ _ h => h) (Or.inl ⟨by rfl, ?_⟩) ?_
          rotate_left 1
          · intro w; (go_simp <;> with_reducible rfl)
          try simp only [Act.put, List.setIfInBounds_toArray, List.set_cons_zero, List.set_cons_succ]
          refine wpAny_take (i := 24) (oi := _) (v := ?_) (nth_at rfl) (by kernel_rfl) (by kernel_rfl) (by kernel_rfl) (fun _ _ _ h => h) (Or.inl ⟨by rfl, ?_⟩) ?_
          rotate_left 1
          · intro w; (go_simp <;> with_reducible rfl)
          try simp only [Act.put, List.setIfInBounds_toArray, List.set_cons_zero, List.set_cons_succ]
          refine wpAny_ready (rs := [25]) (by kernel_rfl) (by simp) ?_
          refine AllReady.cons (o := _) (nth_at rfl) (fun K hK => ?_) AllReady.nil
          go_simp
          refine hK _ _ ?_
          clear hK K
          try simp only [Act.put, List.setIfInBounds_toArray, List.set_cons_zero, List.set_cons_succ]
          refine wpAny_done (by kernel_rfl) ?_ _
          refine NoPanic.normal ?_
          go_wp2_with fail
          rw [rounds_succ]
          go_wp2_with fail
          go_ret2
          exact X3.out
        refine AllReady.cons (o := _) (nth_at rfl) (fun K hK => ?_) AllReady.nil
        go_simp
        refine hK _ _ ?_
        clear hK K
        try simp only [Act.put, List.setIfInBounds_toArray, List.set_cons_zero, List.set_cons_succ]
        refine wpAny_take (i := 11) (oi := _) (v := ?_) (nth_at rfl) (by kernel_rfl) (by kernel_rfl) (by kernel_rfl) (fun _ _ _ h => h) (Or.inl ⟨by rfl, ?_⟩) ?_
        rotate_left 1
        · intro w; (go_simp <;> with_reducible rfl)
        try simp only [Act.put, List.setIfInBounds_toArray, List.set_cons_zero, List.set_cons_succ]
        refine wpAny_ready (rs := [5]) (by kernel_rfl) (by simp) ?_
        refine AllReady.cons (o := _) (nth_at rfl) (fun K hK => ?_) AllReady.nil
        go_simp
        refine hK _ _ ?_
        clear hK K
        try simp only [Act.put, List.setIfInBounds_toArray, List.set_cons_zero, List.set_cons_succ]
        refine wpAny_take (i := 18) (oi := _) (v := .slice (some ⟨g, 0, none⟩) l.length l.length) (nth_at rfl) (by kernel_rfl) (by kernel_rfl) (by kernel_rfl) (fun _ _ _ h => h) (Or.inl ⟨by rfl, ?_⟩) ?_
        · intro w; (go_simp <;> (have h := HY1.out; simp [sliced] at h ⊢; first | done | exact h))
        try simp only [Act.put, List.setIfInBounds_toArray, List.set_cons_zero, List.set_cons_succ]
        refine wpAny_ready (rs := [21]) (by kernel_rfl) (by simp) ?_
        refine AllReady.cons (o := _) (nth_at rfl) (fun K hK => ?_) AllReady.nil
        rw [if_pos (by rfl)]
        refine wp_append_own _ _ _ 42 rfl base 9 i0 (.string ⟨#[]⟩) 1 16 Tryz.underlying42 hI hz0 hz1 hz2 rfl (by decide) _ l.length (strsC l) rfl v5 ⟨w3.heap.size, 0, none⟩ 1 1 [.string ⟨t.toArray⟩] rfl rfl c5 (by simp [Value.oneCell']) (by unfold maxLen; omega) (by omega) hbase5 ?_
        intro v6 w6 h6 g6 _
        obtain ⟨⟨a6, c6, rfl⟩, x1, x2, x3⟩ := FINH.out _ _ h6 g6
        have X3 := Lib.hid x3
        clear h6 g6 x3
        refine hK _ _ ?_
        clear hK K
        try simp only [Act.put, List.setIfInBounds_toArray, List.set_cons_zero, List.set_cons_succ]
        refine wpAny_take (i := 22) (oi := _) (v := ?_) (nth_at rfl) (by kernel_rfl) (by kernel_rfl) (by kernel_rfl) (fun _ _ _ h => h) (Or.inl ⟨by rfl, ?_⟩) ?_
        rotate_left 1
        · intro w; (go_simp <;> with_reducible rfl)
        try simp only [Act.put, List.setIfInBounds_toArray, List.set_cons_zero, List.set_cons_succ]
        refine wpAny_take (i := 23) (oi := _) (v := ?_) (nth_at rfl) (by kernel_rfl) (by kernel_rfl) (by kernel_rfl) (fun _ _ _ h => h) (Or.inl ⟨by rfl, ?_⟩) ?_
        rotate_left 1
        · intro w; (go_simp <;> with_reducible rfl)
        try simp only [Act.put, List.setIfInBounds_toArray, List.set_cons_zero, List.set_cons_succ]
        refine wpAny_take (i := 24) (oi := _) (v := ?_) (nth_at rfl) (by kernel_rfl) (by kernel_rfl) (by kernel_rfl) (fun _ _ _ h => h) (Or.inl ⟨by rfl, ?_⟩) ?_
        rotate_left 1
        · intro w; (go_simp <;> with_reducible rfl)
        try simp only [Act.put, List.setIfInBounds_toArray, List.set_cons_zero, List.set_cons_succ]
        refine wpAny_ready (rs := [25]) (by kernel_rfl) (by simp) ?_
        refine AllReady.cons (o := _) (nth_at rfl) (fun K hK => ?_) AllReady.nil
        go_simp
        refine hK _ _ ?_
        clear hK K
        try simp only [Act.put, List.setIfInBounds_toArray, List.set_cons_zero, List.set_cons_succ]
        refine wpAny_done (by kernel_rfl) ?_ _
        refine NoPanic.normal ?_
        go_wp2_with fail
        rw [rounds_succ]
        go_wp2_with fail
        go_ret2
        exact X3.out
      refine AllReady.cons (o := _) (nth_at rfl) (fun K hK => ?_) AllReady.nil
      go_simp
      try rw [hW5a.out]
      try rw [hW5b.out]
      refine hK _ _ ?_
      clear hK K
      try simp only [Act.put, List.setIfInBounds_toArray, List.set_cons_zero, List.set_cons_succ]
      refine wpAny_ready (rs := [5, 10, 16]) (by kernel_rfl) (by simp) ?_
      refine AllReady.cons (o := _) (nth_at rfl) (fun K hK => ?_) ?_
      · go_simp
        refine hK _ _ ?_
        clear hK K
        try simp only [Act.put, List.setIfInBounds_toArray, List.set_cons_zero, List.set_cons_succ]
        refine wpAny_ready (rs := [10, 16]) (by kernel_rfl) (by simp) ?_
        refine AllReady.cons (o := _) (nth_at rfl) (fun K hK => ?_) ?_
        · go_simp
          refine hK _ _ ?_
          clear hK K
          try simp only [Act.put, List.setIfInBounds_toArray, List.set_cons_zero, List.set_cons_succ]
          refine wpAny_take (i := 11) (oi := _) (v := ?_) (nth_at rfl) (by kernel_rfl) (by kernel_rfl) (by kernel_rfl) (fun _ _ _ h => h) (Or.inl ⟨by rfl, ?_⟩) ?_
          rotate_left 1
          · intro w; (go_simp <;> with_reducible rfl)
          try simp only [Act.put, List.setIfInBounds_toArray, List.set_cons_zero, List.set_cons_succ]
          refine wpAny_ready (rs := [16]) (by kernel_rfl) (by simp) ?_
          refine AllReady.cons (o := _) (nth_at rfl) (fun K hK => ?_) AllReady.nil
          go_simp
          refine hK _ _ ?_
          clear hK K
          try simp only [Act.put, List.setIfInBounds_toArray, List.set_cons_zero, List.set_cons_succ]
          refine wpAny_take (i := 17) (oi := _) (v := ?_) (nth_at rfl) (by kernel_rfl) (by kernel_rfl) (by kernel_rfl) (fun _ _ _ h => h) (Or.inl ⟨by rfl, ?_⟩) ?_
          rotate_left 1
          · intro w; (go_simp <;> with_reducible rfl)
          try simp only [Act.put, List.setIfInBounds_toArray, List.set_cons_zero, List.set_cons_succ]
          refine wpAny_take (i := 18) (oi := _) (v := .slice (some ⟨g, 0, none⟩) l.length l.length) (nth_at rfl) (by kernel_rfl) (by kernel_rfl) (by kernel_rfl) (fun _ _ _ h => h) (Or.inl ⟨by rfl, ?_⟩) ?_
          · intro w; (go_simp <;> (have h := HY1.out; simp [sliced] at h ⊢; first | done | exact h))
          try simp only [Act.put, List.setIfInBounds_toArray, List.set_cons_zero, List.set_cons_succ]
          refine wpAny_ready (rs := [21]) (by kernel_rfl) (by simp) ?_
          refine AllReady.cons (o := _) (nth_at rfl) (fun K hK => ?_) AllReady.nil
          rw [if_pos (by rfl)]
          refine wp_append_own _ _ _ 42 rfl base 9 i0 (.string ⟨#[]⟩) 1 16 Tryz.underlying42 hI hz0 hz1 hz2 rfl (by decide) _ l.length (strsC l) rfl v5 ⟨w3.heap.size, 0, none⟩ 1 1 [.string ⟨t.toArray⟩] rfl rfl c5 (by simp [Value.oneCell']) (by unfold maxLen; omega) (by omega) hbase5 ?_
          intro v6 w6 h6 g6 _
          obtain ⟨⟨a6, c6, rfl⟩, x1, x2, x3⟩ := FINH.out _ _ h6 g6
          have X3 := Lib.hid x3
          clear h6 g6 x3
          refine hK _ _ ?_
          clear hK K
          try simp only [Act.put, List.setIfInBounds_toArray, List.set_cons_zero, List.set_cons_succ]
          refine wpAny_take (i := 22) (oi := _) (v := ?_) (nth_at rfl) (by kernel_rfl) (by kernel_rfl) (by kernel_rfl) (fun _ _ _ h => h) (Or.inl ⟨by rfl, ?_⟩) ?_
          rotate_left 1
          · intro w; (go_simp <;> with_reducible rfl)
          try simp only [Act.put, List.setIfInBounds_toArray, List.set_cons_zero, List.set_cons_succ]
          refine wpAny_take (i := 23) (oi := _) (v := ?_) (nth_at rfl) (by kernel_rfl) (by kernel_rfl) (by kernel_rfl) (fun _ _ _ h => h) (Or.inl ⟨by rfl, ?_⟩) ?_
          rotate_left 1
          · intro w; (go_simp <;> with_reducible rfl)
          try simp only [Act.put, List.setIfInBounds_toArray, List.set_cons_zero, List.set_cons_succ]
          refine wpAny_take (i := 24) (oi := _) (v := ?_) (nth_at rfl) (by kernel_rfl) (by kernel_rfl) (by kernel_rfl) (fun _ _ _ h => h) (Or.inl ⟨by rfl, ?_⟩) ?_
          rotate_left 1
          · intro w; (go_simp <;> with_reducible rfl)
          try simp only [Act.put, List.setIfInBounds_toArray, List.set_cons_zero, List.set_cons_succ]
          refine wpAny_ready (rs := [25]) (by kernel_rfl) (by simp) ?_
          refine AllReady.cons (o := _) (nth_at rfl) (fun K hK => ?_) AllReady.nil
          go_simp
          refine hK _ _ ?_
          clear hK K
          try simp only [Act.put, List.setIfInBounds_toArray, List.set_cons_zero, List.set_cons_succ]
          refine wpAny_done (by kernel_rfl) ?_ _
          refine NoPanic.normal ?_
          go_wp2_with fail
          rw [rounds_succ]
          go_wp2_with fail
          go_ret2
          exact X3.out
        refine AllReady.cons (o := _) (nth_at rfl) (fun K hK => ?_) AllReady.nil
        go_simp
        refine hK _ _ ?_
        clear hK K
        try simp only [Act.put, List.setIfInBounds_toArray, List.set_cons_zero, List.set_cons_succ]
        refine wpAny_take (i := 17) (oi := _) (v := ?_) (nth_at rfl) (by kernel_rfl) (by kernel_rfl) (by kernel_rfl) (fun _ _ _ h => h) (Or.inl ⟨by rfl, ?_⟩) ?_
        rotate_left 1
        · intro w; (go_simp <;> with_reducible rfl)
        try simp only [Act.put, List.setIfInBounds_toArray, List.set_cons_zero, List.set_cons_succ]
        refine wpAny_ready (rs := [10]) (by kernel_rfl) (by simp) ?_
        refine AllReady.cons (o := _) (nth_at rfl) (fun K hK => ?_) AllReady.nil
        go_simp
        refine hK _ _ ?_
        clear hK K
        try simp only [Act.put, List.setIfInBounds_toArray, List.set_cons_zero, List.set_cons_succ]
        refine wpAny_take (i := 11) (oi := _) (v := ?_) (nth_at rfl) (by kernel_rfl) (by kernel_rfl) (by kernel_rfl) (fun _ _ _ h => h) (Or.inl ⟨by rfl, ?_⟩) ?_
        rotate_left 1
        · intro w; (go_simp <;> with_reducible rfl)
        try simp only [Act.put, List.setIfInBounds_toArray, List.set_cons_zero, List.set_cons_succ]
        refine wpAny_take (i := 18) (oi := _) (v := .slice (some ⟨g, 0, none⟩) l.length l.length) (nth_at rfl) (by kernel_rfl) (by kernel_rfl) (by kernel_rfl) (fun _ _ _ h => h) (Or.inl ⟨by rfl, ?_⟩) ?_
        · intro w; (go_simp <;> (have h := HY1.out; simp [sliced] at h ⊢; first | done | exact h))
        try simp only [Act.put, List.setIfInBounds_toArray, List.set_cons_zero, List.set_cons_succ]
        refine wpAny_ready (rs := [21]) (by kernel_rfl) (by simp) ?_
        refine AllReady.cons (o := _) (nth_at rfl) (fun K hK => ?_) AllReady.nil
        rw [if_pos (by rfl)]
        refine wp_append_own _ _ _ 42 rfl base 9 i0 (.string ⟨#[]⟩) 1 16 Tryz.underlying42 hI hz0 hz1 hz2 rfl (by decide) _ l.length (strsC l) rfl v5 ⟨w3.heap.size, 0, none⟩ 1 1 [.string ⟨t.toArray⟩] rfl rfl c5 (by simp [Value.oneCell']) (by unfold maxLen; omega) (by omega) hbase5 ?_
        intro v6 w6 h6 g6 _
        obtain ⟨⟨a6, c6, rfl⟩, x1, x2, x3⟩ := FINH.out _ _ h6 g6
        have X3 := Lib.hid x3
        clear h6 g6 x3
        refine hK _ _ ?_
        clear hK K
        try simp only [Act.put, List.setIfInBounds_toArray, List.set_cons_zero, List.set_cons_succ]
        refine wpAny_take (i := 22) (oi := _) (v := ?_) (nth_at rfl) (by kernel_rfl) (by kernel_rfl) (by kernel_rfl) (fun _ _ _ h => h) (Or.inl ⟨by rfl, ?_⟩) ?_
        rotate_left 1
        · intro w; (go_simp <;> with_reducible rfl)
        try simp only [Act.put, List.setIfInBounds_toArray, List.set_cons_zero, List.set_cons_succ]
        refine wpAny_take (i := 23) (oi := _) (v := ?_) (nth_at rfl) (by kernel_rfl) (by kernel_rfl) (by kernel_rfl) (fun _ _ _ h => h) (Or.inl ⟨by rfl, ?_⟩) ?_
        rotate_left 1
        · intro w; (go_simp <;> with_reducible rfl)
        try simp only [Act.put, List.setIfInBounds_toArray, List.set_cons_zero, List.set_cons_succ]
        refine wpAny_take (i := 24) (oi := _) (v := ?_) (nth_at rfl) (by kernel_rfl) (by kernel_rfl) (by kernel_rfl) (fun _ _ _ h => h) (Or.inl ⟨by rfl, ?_⟩) ?_
        rotate_left 1
        · intro w; (go_simp <;> with_reducible rfl)
        try simp only [Act.put, List.setIfInBounds_toArray, List.set_cons_zero, List.set_cons_succ]
        refine wpAny_ready (rs := [25]) (by kernel_rfl) (by simp) ?_
        refine AllReady.cons (o := _) (nth_at rfl) (fun K hK => ?_) AllReady.nil
        go_simp
        refine hK _ _ ?_
        clear hK K
        try simp only [Act.put, List.setIfInBounds_toArray, List.set_cons_zero, List.set_cons_succ]
        refine wpAny_done (by kernel_rfl) ?_ _
        refine NoPanic.normal ?_
        go_wp2_with fail
        rw [rounds_succ]
        go_wp2_with fail
        go_ret2
        exact X3.out
      refine AllReady.cons (o := _) (nth_at rfl) (fun K hK => ?_) ?_
      · go_simp
        refine hK _ _ ?_
        clear hK K
        try simp only [Act.put, List.setIfInBounds_toArray, List.set_cons_zero, List.set_cons_succ]
        refine wpAny_take (i := 11) (oi := _) (v := ?_) (nth_at rfl) (by kernel_rfl) (by kernel_rfl) (by kernel_rfl) (fun _ _ _ h => h) (Or.inl ⟨by rfl, ?_⟩) ?_
        rotate_left 1
        · intro w; (go_simp <;> with_reducible rfl)
        try simp only [Act.put, List.setIfInBounds_toArray, List.set_cons_zero, List.set_cons_succ]
        refine wpAny_ready (rs := [5, 16]) (by kernel_rfl) (by simp) ?_
        refine AllReady.cons (o := _) (nth_at rfl) (fun K hK => ?_) ?_
        · go_simp
          refine hK _ _ ?_
          clear hK K
          try simp only [Act.put, List.setIfInBounds_toArray, List.set_cons_zero, List.set_cons_succ]
          refine wpAny_ready (rs := [16]) (by kernel_rfl) (by simp) ?_
          refine AllReady.cons (o := _) (nth_at rfl) (fun K hK => ?_) AllReady.nil
          go_simp
          refine hK _ _ ?_
          clear hK K
          try simp only [Act.put, List.setIfInBounds_toArray, List.set_cons_zero, List.set_cons_succ]
          refine wpAny_take (i := 17) (oi := _) (v := ?_) (nth_at rfl) (by kernel_rfl) (by kernel_rfl) (by kernel_rfl) (fun _ _ _ h => h) (Or.inl ⟨by rfl, ?_⟩) ?_
          rotate_left 1
          · intro w; (go_simp <;> with_reducible rfl)
          try simp only [Act.put, List.setIfInBounds_toArray, List.set_cons_zero, List.set_cons_succ]
          refine wpAny_take (i := 18) (oi := _) (v := .slice (some ⟨g, 0, none⟩) l.length l.length) (nth_at rfl) (by kernel_rfl) (by kernel_rfl) (by kernel_rfl) (fun _ _ _ h => h) (Or.inl ⟨by rfl, ?_⟩) ?_
          · intro w; (go_simp <;> (have h := HY1.out; simp [sliced] at h ⊢; first | done | exact h))
          try simp only [Act.put, List.setIfInBounds_toArray, List.set_cons_zero, List.set_cons_succ]
          refine wpAny_ready (rs := [21]) (by kernel_rfl) (by simp) ?_
          refine AllReady.cons (o := _) (nth_at rfl) (fun K hK => ?_) AllReady.nil
          rw [if_pos (by rfl)]
          refine wp_append_own _ _ _ 42 rfl base 9 i0 (.string ⟨#[]⟩) 1 16 Tryz.underlying42 hI hz0 hz1 hz2 rfl (by decide) _ l.length (strsC l) rfl v5 ⟨w3.heap.size, 0, none⟩ 1 1 [.string ⟨t.toArray⟩] rfl rfl c5 (by simp [Value.oneCell']) (by unfold maxLen; omega) (by omega) hbase5 ?_
          intro v6 w6 h6 g6 _
          obtain ⟨⟨a6, c6, rfl⟩, x1, x2, x3⟩ := FINH.out _ _ h6 g6
          have X3 := Lib.hid x3
          clear h6 g6 x3
          refine hK _ _ ?_
          clear hK K
          try simp only [Act.put, List.setIfInBounds_toArray, List.set_cons_zero, List.set_cons_succ]
          refine wpAny_take (i := 22) (oi := _) (v := ?_) (nth_at rfl) (by kernel_rfl) (by kernel_rfl) (by kernel_rfl) (fun _ _ _ h => h) (Or.inl ⟨by rfl, ?_⟩) ?_
          rotate_left 1
          · intro w; (go_simp <;> with_reducible rfl)
          try simp only [Act.put, List.setIfInBounds_toArray, List.set_cons_zero, List.set_cons_succ]
          refine wpAny_take (i := 23) (oi := _) (v := ?_) (nth_at rfl) (by kernel_rfl) (by kernel_rfl) (by kernel_rfl) (fun _ _ _ h => h) (Or.inl ⟨by rfl, ?_⟩) ?_
          rotate_left 1
          · intro w; (go_simp <;> with_reducible rfl)
          try simp only [Act.put, List.setIfInBounds_toArray, List.set_cons_zero, List.set_cons_succ]
          refine wpAny_take (i := 24) (oi := _) (v := ?_) (nth_at rfl) (by kernel_rfl) (by kernel_rfl) (by kernel_rfl) (fun _ _ _ h => h) (Or.inl ⟨by rfl, ?_⟩) ?_
          rotate_left 1
          · intro w; (go_simp <;> with_reducible rfl)
          try simp only [Act.put, List.setIfInBounds_toArray, List.set_cons_zero, List.set_cons_succ]
          refine wpAny_ready (rs := [25]) (by kernel_rfl) (by simp) ?_
          refine AllReady.cons (o := _) (nth_at rfl) (fun K hK => ?_) AllReady.nil
          go_simp
          refine hK _ _ ?_
          clear hK K
          try simp only [Act.put, List.setIfInBounds_toArray, List.set_cons_zero, List.set_cons_succ]
          refine wpAny_done (by kernel_rfl) ?_ _
          refine NoPanic.normal ?_
          go_wp2_with fail
          rw [rounds_succ]
          go_wp2_with fail
          go_ret2
          exact X3.out
        refine AllReady.cons (o := _) (nth_at rfl) (fun K hK => ?_) AllReady.nil
        go_simp
        refine hK _ _ ?_
        clear hK K
        try simp only [Act.put, List.setIfInBounds_toArray, List.set_cons_zero, List.set_cons_succ]
        refine wpAny_take (i := 17) (oi := _) (v := ?_) (nth_at rfl) (by kernel_rfl) (by kernel_rfl) (by kernel_rfl) (fun _ _ _ h => h) (Or.inl ⟨by rfl, ?_⟩) ?_
        rotate_left 1
        · intro w; (go_simp <;> with_reducible rfl)
        try simp only [Act.put, List.setIfInBounds_toArray, List.set_cons_zero, List.set_cons_succ]
        refine wpAny_ready (rs := [5]) (by kernel_rfl) (by simp) ?_
        refine AllReady.cons (o := _) (nth_at rfl) (fun K hK => ?_) AllReady.nil
        go_simp
        refine hK _ _ ?_
        clear hK K
        try simp only [Act.put, List.setIfInBounds_toArray, List.set_cons_zero, List.set_cons_succ]
        refine wpAny_take (i := 18) (oi := _) (v := .slice (some ⟨g, 0, none⟩) l.length l.length) (nth_at rfl) (by kernel_rfl) (by kernel_rfl) (by kernel_rfl) (fun _ _ _ h => h) (Or.inl ⟨by rfl, ?_⟩) ?_
        · intro w; (go_simp <;> (have h := HY1.out; simp [sliced] at h ⊢; first | done | exact h))
        try simp only [Act.put, List.setIfInBounds_toArray, List.set_cons_zero, List.set_cons_succ]
        refine wpAny_ready (rs := [21]) (by kernel_rfl) (by simp) ?_
        refine AllReady.cons (o := _) (nth_at rfl) (fun K hK => ?_) AllReady.nil
        rw [if_pos (by rfl)]
        refine wp_append_own _ _ _ 42 rfl base 9 i0 (.string ⟨#[]⟩) 1 16 Tryz.underlying42 hI hz0 hz1 hz2 rfl (by decide) _ l.length (strsC l) rfl v5 ⟨w3.heap.size, 0, none⟩ 1 1 [.string ⟨t.toArray⟩] rfl rfl c5 (by simp [Value.oneCell']) (by unfold maxLen; omega) (by omega) hbase5 ?_
        intro v6 w6 h6 g6 _
        obtain ⟨⟨a6, c6, rfl⟩, x1, x2, x3⟩ := FINH.out _ _ h6 g6
        have X3 := Lib.hid x3
        clear h6 g6 x3
        refine hK _ _ ?_
        clear hK K
        try simp only [Act.put, List.setIfInBounds_toArray, List.set_cons_zero, List.set_cons_succ]
        refine wpAny_take (i := 22) (oi := _) (v := ?_) (nth_at rfl) (by kernel_rfl) (by kernel_rfl) (by kernel_rfl) (fun _ _ _ h => h) (Or.inl ⟨by rfl, ?_⟩) ?_
        rotate_left 1
        · intro w; (go_simp <;> with_reducible rfl)
        try simp only [Act.put, List.setIfInBounds_toArray, List.set_cons_zero, List.set_cons_succ]
        refine wpAny_take (i := 23) (oi := _) (v := ?_) (nth_at rfl) (by kernel_rfl) (by kernel_rfl) (by kernel_rfl) (fun _ _ _ h => h) (Or.inl ⟨by rfl, ?_⟩) ?_
        rotate_left 1
        · intro w; (go_simp <;> with_reducible rfl)
        try simp only [Act.put, List.setIfInBounds_toArray, List.set_cons_zero, List.set_cons_succ]
        refine wpAny_take (i := 24) (oi := _) (v := ?_) (nth_at rfl) (by kernel_rfl) (by kernel_rfl) (by kernel_rfl) (fun _ _ _ h => h) (Or.inl ⟨by rfl, ?_⟩) ?_
        rotate_left 1
        · intro w; (go_simp <;> with_reducible rfl)
        try simp only [Act.put, List.setIfInBounds_toArray, List.set_cons_zero, List.set_cons_succ]
        refine wpAny_ready (rs := [25]) (by kernel_rfl) (by simp) ?_
        refine AllReady.cons (o := _) (nth_at rfl) (fun K hK => ?_) AllReady.nil
        go_simp
        refine hK _ _ ?_
        clear hK K
        try simp only [Act.put, List.setIfInBounds_toArray, List.set_cons_zero, List.set_cons_succ]
        refine wpAny_done (by kernel_rfl) ?_ _
        refine NoPanic.normal ?_
        go_wp2_with fail
        rw [rounds_succ]
        go_wp2_with fail
        go_ret2
        exact X3.out
      refine AllReady.cons (o := _) (nth_at rfl) (fun K hK => ?_) AllReady.nil
      go_simp
      refine hK _ _ ?_
      clear hK K
      try simp only [Act.put, List.setIfInBounds_toArray, List.set_cons_zero, List.set_cons_succ]
      refine wpAny_take (i := 17) (oi := _) (v := ?_) (nth_at rfl) (by kernel_rfl) (by kernel_rfl) (by kernel_rfl) (fun _ _ _ h => h) (Or.inl ⟨by rfl, ?_⟩) ?_
      rotate_left 1
      · intro w; (go_simp <;> with_reducible rfl)
      try simp only [Act.put, List.setIfInBounds_toArray, List.set_cons_zero, List.set_cons_succ]
      refine wpAny_ready (rs := [5, 10]) (by kernel_rfl) (by simp) ?_
      refine AllReady.cons (o := _) (nth_at rfl) (fun K hK => ?_) ?_
      · go_simp
        refine hK _ _ ?_
        clear hK K
        try simp only [Act.put, List.setIfInBounds_toArray, List.set_cons_zero, List.set_cons_succ]
        refine wpAny_ready (rs := [10]) (by kernel_rfl) (by simp) ?_
        refine AllReady.cons (o := _) (nth_at rfl) (fun K hK => ?_) AllReady.nil
        go_simp
        refine hK _ _ ?_
        clear hK K
        try simp only [Act.put, List.setIfInBounds_toArray, List.set_cons_zero, List.set_cons_succ]
        refine wpAny_take (i := 11) (oi := _) (v := ?_) (nth_at rfl) (by kernel_rfl) (by kernel_rfl) (by kernel_rfl) (fun _ _ _ h => h) (Or.inl ⟨by rfl, ?_⟩) ?_
        rotate_left 1
        · intro w; (go_simp <;> with_reducible rfl)
        try simp only [Act.put, List.setIfInBounds_toArray, List.set_cons_zero, List.set_cons_succ]
        refine wpAny_take (i := 18) (oi := _) (v := .slice (some ⟨g, 0, none⟩) l.length l.length) (nth_at rfl) (by kernel_rfl) (by kernel_rfl) (by kernel_rfl) (fun _ _ _ h => h) (Or.inl ⟨by rfl, ?_⟩) ?_
        · intro w; (go_simp <;> (have h := HY1.out; simp [sliced] at h ⊢; first | done | exact h))
        try simp only [Act.put, List.setIfInBounds_toArray, List.set_cons_zero, List.set_cons_succ]
        refine wpAny_ready (rs := [21]) (by kernel_rfl) (by simp) ?_
        refine AllReady.cons (o := _) (nth_at rfl) (fun K hK => ?_) AllReady.nil
        rw [if_pos (by rfl)]
        refine wp_append_own _ _ _ 42 rfl base 9 i0 (.string ⟨#[]⟩) 1 16 Tryz.underlying42 hI hz0 hz1 hz2 rfl (by decide) _ l.length (strsC l) rfl v5 ⟨w3.heap.size, 0, none⟩ 1 1 [.string ⟨t.toArray⟩] rfl rfl c5 (by simp [Value.oneCell']) (by unfold maxLen; omega) (by omega) hbase5 ?_
        intro v6 w6 h6 g6 _
        obtain ⟨⟨a6, c6, rfl⟩, x1, x2, x3⟩ := FINH.out _ _ h6 g6
        have X3 := Lib.hid x3
        clear h6 g6 x3
        refine hK _ _ ?_
        clear hK K
        try simp only [Act.put, List.setIfInBounds_toArray, List.set_cons_zero, List.set_cons_succ]
        refine wpAny_take (i := 22) (oi := _) (v := ?_) (nth_at rfl) (by kernel_rfl) (by kernel_rfl) (by kernel_rfl) (fun _ _ _ h => h) (Or.inl ⟨by rfl, ?_⟩) ?_
        rotate_left 1
        · intro w; (go_simp <;> with_reducible rfl)
        try simp only [Act.put, List.setIfInBounds_toArray, List.set_cons_zero, List.set_cons_succ]
        refine wpAny_take (i := 23) (oi := _) (v := ?_) (nth_at rfl) (by kernel_rfl) (by kernel_rfl) (by kernel_rfl) (fun _ _ _ h => h) (Or.inl ⟨by rfl, ?_⟩) ?_
        rotate_left 1
        · intro w; (go_simp <;> with_reducible rfl)
        try simp only [Act.put, List.setIfInBounds_toArray, List.set_cons_zero, List.set_cons_succ]
        refine wpAny_take (i := 24) (oi := _) (v := ?_) (nth_at rfl) (by kernel_rfl) (by kernel_rfl) (by kernel_rfl) (fun _ _ _ h => h) (Or.inl ⟨by rfl, ?_⟩) ?_
        rotate_left 1
        · intro w; (go_simp <;> with_reducible rfl)
        try simp only [Act.put, List.setIfInBounds_toArray, List.set_cons_zero, List.set_cons_succ]
        refine wpAny_ready (rs := [25]) (by kernel_rfl) (by simp) ?_
        refine AllReady.cons (o := _) (nth_at rfl) (fun K hK => ?_) AllReady.nil
        go_simp
        refine hK _ _ ?_
        clear hK K
        try simp only [Act.put, List.setIfInBounds_toArray, List.set_cons_zero, List.set_cons_succ]
        refine wpAny_done (by kernel_rfl) ?_ _
        refine NoPanic.normal ?_
        go_wp2_with fail
        rw [rounds_succ]
        go_wp2_with fail
        go_ret2
        exact X3.out
      refine AllReady.cons (o := _) (nth_at rfl) (fun K hK => ?_) AllReady.nil
      go_simp
      refine hK _ _ ?_
      clear hK K
      try simp only [Act.put, List.setIfInBounds_toArray, List.set_cons_zero, List.set_cons_succ]
      refine wpAny_take (i := 11) (oi := _) (v := ?_) (nth_at rfl) (by kernel_rfl) (by kernel_rfl) (by kernel_rfl) (fun _ _ _ h => h) (Or.inl ⟨by rfl, ?_⟩) ?_
      rotate_left 1
      · intro w; (go_simp <;> with_reducible rfl)
      try simp only [Act.put, List.setIfInBounds_toArray, List.set_cons_zero, List.set_cons_succ]
      refine wpAny_ready (rs := [5]) (by kernel_rfl) (by simp) ?_
      refine AllReady.cons (o := _) (nth_at rfl) (fun K hK => ?_) AllReady.nil
      go_simp
      refine hK _ _ ?_
      clear hK K
      try simp only [Act.put, List.setIfInBounds_toArray, List.set_cons_zero, List.set_cons_succ]
      refine wpAny_take (i := 18) (oi := _) (v := .slice (some ⟨g, 0, none⟩) l.length l.length) (nth_at rfl) (by kernel_rfl) (by kernel_rfl) (by kernel_rfl) (fun _ _ _ h => h) (Or.inl ⟨by rfl, ?_⟩) ?_
      · intro w; (go_simp <;> (have h := HY1.out; simp [sliced] at h ⊢; first | done | exact h))
      try simp only [Act.put, List.setIfInBounds_toArray, List.set_cons_zero, List.set_cons_succ]
      refine wpAny_ready (rs := [21]) (by kernel_rfl) (by simp) ?_
      refine AllReady.cons (o := _) (nth_at rfl) (fun K hK => ?_) AllReady.nil
      rw [if_pos (by rfl)]
      refine wp_append_own _ _ _ 42 rfl base 9 i0 (.string ⟨#[]⟩) 1 16 Tryz.underlying42 hI hz0 hz1 hz2 rfl (by decide) _ l.length (strsC l) rfl v5 ⟨w3.heap.size, 0, none⟩ 1 1 [.string ⟨t.toArray⟩] rfl rfl c5 (by simp [Value.oneCell']) (by unfold maxLen; omega) (by omega) hbase5 ?_
      intro v6 w6 h6 g6 _
      obtain ⟨⟨a6, c6, rfl⟩, x1, x2, x3⟩ := FINH.out _ _ h6 g6
      have X3 := Lib.hid x3
      clear h6 g6 x3
      refine hK _ _ ?_
      clear hK K
      try simp only [Act.put, List.setIfInBounds_toArray, List.set_cons_zero, List.set_cons_succ]
      refine wpAny_take (i := 22) (oi := _) (v := ?_) (nth_at rfl) (by kernel_rfl) (by kernel_rfl) (by kernel_rfl) (fun _ _ _ h => h) (Or.inl ⟨by rfl, ?_⟩) ?_
      rotate_left 1
      · intro w; (go_simp <;> with_reducible rfl)
      try simp only [Act.put, List.setIfInBounds_toArray, List.set_cons_zero, List.set_cons_succ]
      refine wpAny_take (i := 23) (oi := _) (v := ?_) (nth_at rfl) (by kernel_rfl) (by kernel_rfl) (by kernel_rfl) (fun _ _ _ h => h) (Or.inl ⟨by rfl, ?_⟩) ?_
      rotate_left 1
      · intro w; (go_simp <;> with_reducible rfl)
      try simp only [Act.put, List.setIfInBounds_toArray, List.set_cons_zero, List.set_cons_succ]
      refine wpAny_take (i := 24) (oi := _) (v := ?_) (nth_at rfl) (by kernel_rfl) (by kernel_rfl) (by kernel_rfl) (fun _ _ _ h => h) (Or.inl ⟨by rfl, ?_⟩) ?_
      rotate_left 1
      · intro w; (go_simp <;> with_reducible rfl)
      try simp only [Act.put, List.setIfInBounds_toArray, List.set_cons_zero, List.set_cons_succ]
      refine wpAny_ready (rs := [25]) (by kernel_rfl) (by simp) ?_
      refine AllReady.cons (o := _) (nth_at rfl) (fun K hK => ?_) AllReady.nil
      go_simp
      refine hK _ _ ?_
      clear hK K
      try simp only [Act.put, List.setIfInBounds_toArray, List.set_cons_zero, List.set_cons_succ]
      refine wpAny_done (by kernel_rfl) ?_ _
      refine NoPanic.normal ?_
      go_wp2_with fail
      rw [rounds_succ]
      go_wp2_with fail
      go_ret2
      exact X3.out
    · have hqe : qput m l t = 80 := by rw [hqp2H.out, if_neg h3]
      have h3' : m < (takesL l : Int) + ((t.length : Int) + 1) := by omega
      clear hqp2H q3 v3
      go_wp2_with fail
      go_quiet (fail)
      go_wp2_with fail
      go_ret2
      exact ⟨_, by rw [hqe]; rfl, below_drewN B3 _, fun h => absurd (hqe.symm.trans h) (by decide)⟩
  · rw [decide_eq_false h2]
    have hqe : qput m l t = 2 := by rw [hqpH.out, if_neg h2]
    clear hqpH q3 v3
    go_wp2_with fail
    go_quiet (fail)
    go_wp2_with fail
    go_ret2
    exact ⟨_, by rw [hqe]; rfl, below_drewN B3 _, fun h => absurd (hqe.symm.trans h) (by decide)⟩
end Go.Proofs.YthclfkhakmcnbaaGreatDoor
