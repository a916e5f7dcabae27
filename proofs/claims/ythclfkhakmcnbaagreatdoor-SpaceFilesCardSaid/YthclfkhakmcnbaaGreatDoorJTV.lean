/- Joined: PutB; PutC; PutD; TakC; TakD -/
import Derived.Test.YthclfkhakmcnbaaGreatDoorJTQ
import Derived.Test.YthclfkhakmcnbaaGreatDoorJTU
import Derived.Test.YthclfkhakmcnbaaGreatDoorJTS
/- Layer 10: what a ring set in an editor's list leaves. -/
namespace Go.Proofs.YthclfkhakmcnbaaGreatDoor
open Go.RowKit Go.Shelf
theorem FreshV.step {n : Nat} {w w' : World} {v : Value} {l : List (List UInt8)} (h : FreshV n w v l) (hs : w.heap.size ≤ w'.heap.size) (hb : ∀ b, n ≤ b → b < w.heap.size → w'.heap[b]? = w.heap[b]?) : FreshV n w' v l :=
  ⟨h.1, fun W' h1 h2 => h.2 W' (Nat.le_trans hs h1) fun b k1 k2 => (h2 b k1 (Nat.lt_of_lt_of_le k2 hs)).trans (hb b k1 k2)⟩
def ringPost (base q eb g cap : Nat) (l : List ObjD) (ix : Nat) (m : Int) (its : List (List UInt8)) (W W3 : World) : Prop :=
  Blk W3 q #[.slice (some ⟨g, 0, none⟩) l.length cap, .nilIface] 71 ∧ (∃ hi : ix < l.length, ObjsV W3 (.slice (some ⟨g, 0, none⟩) l.length cap) (l.set ix (withR m its l[ix]))) ∧ Boxed W3 eb 62 (.pointer (some ⟨q, 0, none⟩)) ∧ Below base W W3
theorem ring_post {base q eb g cap ix rb n : Nat} {l : List ObjD} {w2 W : World} {m : Int} {v : Value} {its : List (List UInt8)} (hq : Blk w2 q #[.slice (some ⟨g, 0, none⟩) l.length cap, .nilIface] 71) (he : Boxed w2 eb 62 (.pointer (some ⟨q, 0, none⟩)))
    (hv : ObjsO base 48 9 w2 (.slice (some ⟨g, 0, none⟩) l.length cap) l) (hB : Below base W w2) (hbw : base ≤ w2.heap.size) (hbg : base ≤ g) (hr : Blk w2 rb #[.int .i64 m, v] 46) (hF : FreshV n w2 v its) (hgn : g < n) (hi : ix < l.length) :
    let W3 := (w2.setCell ⟨g, ix * 5 + 3, none⟩ (.int .i64 m)).setCell ⟨g, ix * 5 + 4, none⟩ v
    (w2.cell? ⟨eb, 0, none⟩ = some (.pointer (some ⟨q, 0, none⟩)) ∧ w2.cell? ⟨q, 0, none⟩ = some (.slice (some ⟨g, 0, none⟩) l.length cap) ∧ w2.cell? ⟨rb, 0, none⟩ = some (.int .i64 m) ∧ w2.cell? ⟨rb, 1, none⟩ = some v) ∧
    (W3.cell? ⟨eb, 0, none⟩ = some (.pointer (some ⟨q, 0, none⟩)) ∧ W3.cell? ⟨q, 0, none⟩ = some (.slice (some ⟨g, 0, none⟩) l.length cap) ∧ W3.cell? ⟨rb, 0, none⟩ = some (.int .i64 m) ∧ W3.cell? ⟨rb, 1, none⟩ = some v) ∧
    (w2.frozen? ⟨g, ix * 5 + 3, none⟩ = false ∧ w2.frozen? ⟨g, ix * 5 + 4, none⟩ = false) ∧ (∃ c, w2.cell? ⟨g, ix * 5 + 3, none⟩ = some c) ∧ (∃ c, w2.cell? ⟨g, ix * 5 + 4, none⟩ = some c) ∧ ringPost base q eb g cap l ix m its W W3 := by
  intro W3
  have hgq := objsO_ne_blk hv hq (by decide)
  have hge := objsO_ne_boxed hv he (by decide)
  have hgr := objsO_ne_blk hv hr (by decide)
  obtain ⟨g', cap', hat | hat⟩ := objsO_at hv ix hi
  rotate_left 1
  · exact absurd hat (by decide)
  obtain ⟨hgg, -, hgl, -, -, -, x3, ⟨lv, x4, -⟩, hfz, -⟩ := hat
  injection hgg with hgg
  injection hgg with hgg
  injection hgg with hgg
  subst hgg
  have hs3 : w2.heap.size ≤ W3.heap.size := by show _ ≤ ((w2.setCell ⟨g, ix * 5 + 3, none⟩ (.int .i64 m)).setCell ⟨g, ix * 5 + 4, none⟩ v).heap.size; simp
  have hb3 : ∀ b, b ≠ g → W3.heap[b]? = w2.heap[b]? := fun b hb => (Below.heap_setCell _ ⟨g, ix * 5 + 4, none⟩ _ b hb).trans (Below.heap_setCell _ ⟨g, ix * 5 + 3, none⟩ _ b hb)
  obtain ⟨hobj, hG⟩ := objs_ring hv (by decide) ix hi m v its (hF.2 W3 hs3 fun b h1 _ => hb3 b (by omega))
  have q3 : Blk W3 q _ _ := hq.kept hG (by simpa using Ne.symm hgq)
  have r3 : Blk W3 rb _ _ := hr.kept hG (by simpa using Ne.symm hgr)
  have e3 : Boxed W3 eb _ _ := he.kept hG (by simpa using Ne.symm hge)
  exact ⟨⟨he.cell, (hq.cell 0).trans rfl, (hr.cell 0).trans rfl, (hr.cell 1).trans rfl⟩, ⟨e3.cell, (q3.cell 0).trans rfl, (r3.cell 0).trans rfl, (r3.cell 1).trans rfl⟩, ⟨hfz _, hfz _⟩, ⟨_, x3⟩, ⟨_, x4⟩, q3, ⟨hi, hobj⟩, e3, hB.grown hG hbw (fun k e => by cases e; exact hbg)⟩
end Go.Proofs.YthclfkhakmcnbaaGreatDoor
/- Walks of layer 10: Put$1. -/
namespace Go.Proofs.YthclfkhakmcnbaaGreatDoor
open Go.RowKit Go.Shelf
attribute [local go_sem] Oper.semAt_some
theorem ringPost.drew {base q eb g cap : Nat} {l : List ObjD} {ix : Nat} {m : Int} {its : List (List UInt8)} {W W3 : World} (h : ringPost base q eb g cap l ix m its W W3) : ringPost base q eb g cap l ix m its W W3.drew :=
  ⟨h.1, h.2.1, h.2.2.1, h.2.2.2.drew⟩
theorem fits_ring {l : List ObjD} (h : FitsS l) {i : Nat} (hi : i < l.length) : FitsL l[i].items := (h.2 _ (List.getElem_mem hi)).2.2
set_option maxRecDepth 100000 in
set_option maxHeartbeats 8000000 in
theorem put1_any (q eb ib base g cap : Nat) (l : List ObjD) (hl : FitsS l) (ix : Nat) (hi : ix < l.length) (t : List UInt8) (ht : t.length ≤ 1000000) (a f em : Addr) (W : World) (hr : RErr W a f em)
    (hq : Blk W q #[.slice (some ⟨g, 0, none⟩) l.length cap, .nilIface] 71) (he : Boxed W eb 62 (.pointer (some ⟨q, 0, none⟩))) (hib : Boxed W ib 9 (.string ⟨t.toArray⟩)) (hv : ObjsO base 48 9 W (.slice (some ⟨g, 0, none⟩) l.length cap) l) (hbase : base ≤ W.heap.size) :
    Calls Tryz.prog 77 #[.int .i64 ix, .pointer (some ⟨eb, 0, none⟩), .pointer (some ⟨ib, 0, none⟩)] W fun e W' => e = .returned (.int .i64 (rputE l[ix].max l[ix].items t)) ∧
      ringPost base q eb g cap l ix (if rputE l[ix].max l[ix].items t = 0 then l[ix].max else 0) (if rputE l[ix].max l[ix].items t = 0 then l[ix].items ++ [t] else []) W W' := by
  obtain ⟨g', cap', hat | hat⟩ := objsO_at hv ix hi
  rotate_left 1
  · exact absurd hat (by decide)
  obtain ⟨hgg, hbg, hgl, -, -, -, x3, ⟨lv, x4, hlv⟩, -, -⟩ := hat
  cases hgg
  have hfi := fits_ring hl hi
  have HP := fun W1 (h : Below W.heap.size W W1) => rput_any l[ix].max l[ix].items hfi lv t ht a f em W1 (hr.below h) (hlv.view.keep (KeepC.of_below h))
  have hlm := hl.1
  have hgez : (0 : Int) ≤ (ix : Int) := by omega
  have hltz : (ix : Int) < (l.length : Int) := by omega
  have e0 := hq.cell 0
  simp at e0
  obtain ⟨lva, lvc, hlve, -⟩ := hlv.view.2
  obtain ⟨E, hE⟩ : ∃ E, rputE l[ix].max l[ix].items t = E := ⟨_, rfl⟩
  unfold rputP at HP
  rw [hE] at HP ⊢
  obtain ⟨M', hM'⟩ : ∃ M', (if E = 0 then l[ix].max else 0) = M' := ⟨_, rfl⟩
  obtain ⟨I', hI'⟩ : ∃ I', (if E = 0 then l[ix].items ++ [t] else []) = I' := ⟨_, rfl⟩
  rw [hM', hI'] at HP ⊢
  have hlve' : ∃ lvn, lv = .slice lva lvn lvc := ⟨_, hlve⟩
  clear hE hM' hI' hr hlv hlve
  obtain ⟨lvn, rfl⟩ := hlve'
  have SK : Hid (∀ u, Below W.heap.size W u → u.cell? ⟨eb, 0, none⟩ = some (.pointer (some ⟨q, 0, none⟩)) ∧ u.cell? ⟨q, 0, none⟩ = some (.slice (some ⟨g, 0, none⟩) l.length cap) ∧ u.cell? ⟨g, ix * 5 + 3, none⟩ = some (.int .i64 l[ix].max) ∧ u.cell? ⟨g, ix * 5 + 4, none⟩ = some (.slice lva lvn lvc) ∧ u.cell? ⟨ib, 0, none⟩ = some (.string ⟨t.toArray⟩)) := fun u hu =>
    ⟨(KeepC.of_below hu).2 _ _ _ he.cell, (KeepC.of_below hu).2 _ _ _ e0, (KeepC.of_below hu).2 _ _ _ x3, (KeepC.of_below hu).2 _ _ _ x4, (KeepC.of_below hu).2 _ _ _ hib.cell⟩
  have RP : Hid (∀ w5 rb n m v its, Below W.heap.size W w5 → Blk w5 rb #[.int .i64 m, v] 46 → FreshV n w5 v its → g < n → _) := fun w5 rb n m v its A r F hgn =>
    ring_post (hq.below A hq.lt) (he.kept (grown_of_below A none) (by simp)) (hv.kept (grown_of_below A none) (RowT.none _ _)) (A.mono hbase) (Nat.le_trans hbase A.size) hbg r F hgn hi
  generalize l[ix].max = M at *
  generalize l[ix].items = I at *
  clear hq he hib hv e0 x3 x4 hbg
  go_enter Tryz.func77, Tryz.ntmps77
  go_wp2_with fail
  refine wp_region_noPanic ?_
  refine wp_region_held_drew (S := (fun u => u.cell? ⟨eb, 0, none⟩ = some (.pointer (some ⟨q, 0, none⟩)) ∧ u.cell? ⟨q, 0, none⟩ = some (.slice (some ⟨g, 0, none⟩) l.length cap) ∧ u.cell? ⟨g, ix * 5 + 3, none⟩ = some (.int .i64 M) ∧ u.cell? ⟨g, ix * 5 + 4, none⟩ = some (.slice lva lvn lvc) ∧ u.cell? ⟨ib, 0, none⟩ = some (.string ⟨t.toArray⟩))) (by kernel_rfl) ?_ (fun hHeld => ?_)
  · exact SK.out _ (Below.refl _ W).drew
  refine wpAnyH_take (i := 0) (oi := _) (v := ?_) (nth_at rfl) (by kernel_rfl) (by kernel_rfl) (by kernel_rfl) (fun _ _ _ h => h) (Or.inl ⟨by rfl, ?_⟩) (by assumption) ?_
  rotate_left 1
  · intro w hSw; (try dsimp only at hSw); (go_simp <;> with_reducible rfl)
  try simp only [Act.put, List.setIfInBounds_toArray, List.set_cons_zero, List.set_cons_succ]
  refine wpAnyH_take (i := 1) (oi := _) (v := ?_) (nth_at rfl) (by kernel_rfl) (by kernel_rfl) (by kernel_rfl) (fun _ _ _ h => h) (Or.inl ⟨by rfl, ?_⟩) (by assumption) ?_
  rotate_left 1
  · intro w hSw; (try dsimp only at hSw); (go_simp <;> with_reducible rfl)
  try simp only [Act.put, List.setIfInBounds_toArray, List.set_cons_zero, List.set_cons_succ]
  refine wpAnyH_take (i := 2) (oi := _) (v := ?_) (nth_at rfl) (by kernel_rfl) (by kernel_rfl) (by kernel_rfl) (fun _ _ _ h => h) (Or.inl ⟨by rfl, ?_⟩) (by assumption) ?_
  rotate_left 1
  · intro w hSw; (try dsimp only at hSw); (go_simp <;> with_reducible rfl)
  try simp only [Act.put, List.setIfInBounds_toArray, List.set_cons_zero, List.set_cons_succ]
  refine wpAnyH_take (i := 3) (oi := _) (v := ?_) (nth_at rfl) (by kernel_rfl) (by kernel_rfl) (by kernel_rfl) (fun _ _ _ h => h) (Or.inl ⟨by rfl, ?_⟩) (by assumption) ?_
  rotate_left 1
  · intro w hSw; (try dsimp only at hSw); (go_simp <;> with_reducible rfl)
  try simp only [Act.put, List.setIfInBounds_toArray, List.set_cons_zero, List.set_cons_succ]
  refine wpAnyH_take (i := 4) (oi := _) (v := ?_) (nth_at rfl) (by kernel_rfl) (by kernel_rfl) (by kernel_rfl) (fun _ _ _ h => h) (Or.inl ⟨by rfl, ?_⟩) (by assumption) ?_
  rotate_left 1
  · intro w hSw; (try dsimp only at hSw); (go_simp <;> with_reducible rfl)
  try simp only [Act.put, List.setIfInBounds_toArray, List.set_cons_zero, List.set_cons_succ]
  refine wpAnyH_take (i := 5) (oi := _) (v := ?_) (nth_at rfl) (by kernel_rfl) (by kernel_rfl) (by kernel_rfl) (fun _ _ _ h => h) (Or.inl ⟨by rfl, ?_⟩) (by assumption) ?_
  rotate_left 1
  · intro w hSw; (try dsimp only at hSw); (go_simp <;> with_reducible rfl)
  try simp only [Act.put, List.setIfInBounds_toArray, List.set_cons_zero, List.set_cons_succ]
  refine wpAnyH_take (i := 6) (oi := _) (v := ?_) (nth_at rfl) (by kernel_rfl) (by kernel_rfl) (by kernel_rfl) (fun _ _ _ h => h) (Or.inl ⟨by rfl, ?_⟩) (by assumption) ?_
  rotate_left 1
  · intro w hSw; (try dsimp only at hSw); (go_simp <;> with_reducible rfl)
  try simp only [Act.put, List.setIfInBounds_toArray, List.set_cons_zero, List.set_cons_succ]
  refine wpAnyH_take (i := 7) (oi := _) (v := ?_) (nth_at rfl) (by kernel_rfl) (by kernel_rfl) (by kernel_rfl) (fun _ _ _ h => h) (Or.inl ⟨by rfl, ?_⟩) (by assumption) ?_
  rotate_left 1
  · intro w hSw; (try dsimp only at hSw); (go_simp <;> with_reducible rfl)
  try simp only [Act.put, List.setIfInBounds_toArray, List.set_cons_zero, List.set_cons_succ]
  refine wpAnyH_take (i := 8) (oi := _) (v := ?_) (nth_at rfl) (by kernel_rfl) (by kernel_rfl) (by kernel_rfl) (fun _ _ _ h => h) (Or.inl ⟨by rfl, ?_⟩) (by assumption) ?_
  rotate_left 1
  · intro w hSw; (try dsimp only at hSw); (go_simp <;> with_reducible rfl)
  try simp only [Act.put, List.setIfInBounds_toArray, List.set_cons_zero, List.set_cons_succ]
  refine wpAnyH_take (i := 9) (oi := _) (v := ?_) (nth_at rfl) (by kernel_rfl) (by kernel_rfl) (by kernel_rfl) (fun _ _ _ h => h) (Or.inl ⟨by rfl, ?_⟩) (by assumption) ?_
  rotate_left 1
  · intro w hSw; (try dsimp only at hSw); (go_simp <;> with_reducible rfl)
  try simp only [Act.put, List.setIfInBounds_toArray, List.set_cons_zero, List.set_cons_succ]
  refine wpAnyH_ready (rs := [10, 14]) (by kernel_rfl) (by simp) ?_
  refine AllReadyH.cons (o := _) (nth_at rfl) (fun K hK => ?_) ?_
  · go_simp
    refine (HP W.drew (Below.refl _ W).drew).mono ?_
    rintro e w2 ⟨v2, rfl, s2, b2⟩
    have A2 : Below W.heap.size W w2 := (Below.refl _ W).drew.trans b2
    have F2 := FreshV.of_own s2
    clear s2 b2
    obtain ⟨a2, c2, rfl⟩ := F2.1
    try clear hHeld
    refine hK.out _ _ ?_ (fun hHeld => ?_)
    · exact SK.out _ A2
    clear hK K
    try simp only [Act.put, List.setIfInBounds_toArray, List.set_cons_zero, List.set_cons_succ]
    refine wpAnyH_take (i := 11) (oi := _) (v := ?_) (nth_at rfl) (by kernel_rfl) (by kernel_rfl) (by kernel_rfl) (fun _ _ _ h => h) (Or.inl ⟨by rfl, ?_⟩) (by assumption) ?_
    rotate_left 1
    · intro w hSw; (try dsimp only at hSw); (go_simp <;> with_reducible rfl)
    try simp only [Act.put, List.setIfInBounds_toArray, List.set_cons_zero, List.set_cons_succ]
    refine wpAnyH_take (i := 12) (oi := _) (v := ?_) (nth_at rfl) (by kernel_rfl) (by kernel_rfl) (by kernel_rfl) (fun _ _ _ h => h) (Or.inl ⟨by rfl, ?_⟩) (by assumption) ?_
    rotate_left 1
    · intro w hSw; (try dsimp only at hSw); (go_simp <;> with_reducible rfl)
    try simp only [Act.put, List.setIfInBounds_toArray, List.set_cons_zero, List.set_cons_succ]
    refine wpAnyH_take (i := 13) (oi := _) (v := ?_) (nth_at rfl) (by kernel_rfl) (by kernel_rfl) (by kernel_rfl) (fun _ _ _ h => h) (Or.inl ⟨by rfl, ?_⟩) (by assumption) ?_
    rotate_left 1
    · intro w hSw; (try dsimp only at hSw); (go_simp <;> with_reducible rfl)
    try simp only [Act.put, List.setIfInBounds_toArray, List.set_cons_zero, List.set_cons_succ]
    refine wpAnyH_ready (rs := [14]) (by kernel_rfl) (by simp) ?_
    refine AllReadyH.cons (o := _) (nth_at rfl) (fun K hK => ?_) AllReadyH.nil
    go_simp
    obtain ⟨W3, hW3⟩ : ∃ W3, w2.alloc (.cells #[.int .i64 0, .slice none 0 0] 46) = W3 := ⟨_, rfl⟩
    rw [hW3]
    have A3 : Below W.heap.size W W3 := hW3 ▸ A2.alloc A2.size _
    have r3 : Blk W3 w2.heap.size #[.int .i64 0, .slice none 0 0] 46 := hW3 ▸ Blk.new _ _ _
    have hs3 : w2.heap.size ≤ W3.heap.size := Nat.le_of_lt r3.lt
    have hb3 : ∀ b, b < w2.heap.size → W3.heap[b]? = w2.heap[b]? := fun b hb => hW3 ▸ (World.grownBy_alloc w2 (.cells #[.int .i64 0, .slice none 0 0] 46) none).block b hb (by simp)
    have hbH := Lib.hid hb3
    clear hW3 hb3
    have f0 := r3.frozen 0
    have f1 := r3.frozen 1
    have c0 := r3.cell 0
    have c1 := r3.cell 1
    simp at c0 c1
    try clear hHeld
    refine hK.out _ _ ?_ (fun hHeld => ?_)
    · exact SK.out _ A3
    clear hK K
    try simp only [Act.put, List.setIfInBounds_toArray, List.set_cons_zero, List.set_cons_succ]
    refine wpAnyH_ready (rs := [15]) (by kernel_rfl) (by simp) ?_
    refine AllReadyH.cons (o := _) (nth_at rfl) (fun K hK => ?_) AllReadyH.nil
    go_simp
    have r5 := (r3.set 0 (.int .i64 M')).set 1 (.slice a2 I'.length c2)
    simp only [List.setIfInBounds_toArray, List.set_cons_zero, List.set_cons_succ] at r5
    have A5 := (A3.setCell (p := ⟨w2.heap.size, 0, none⟩) A2.size (.int .i64 M')).setCell (p := ⟨w2.heap.size, 1, none⟩) A2.size (.slice a2 I'.length c2)
    have F5 : FreshV W.drew.heap.size ((W3.setCell ⟨w2.heap.size, 0, none⟩ (.int .i64 M')).setCell ⟨w2.heap.size, 1, none⟩ (.slice a2 I'.length c2)) (.slice a2 I'.length c2) I' := F2.step (by simpa using hs3) (fun b h1 h2 => ((Below.heap_setCell _ ⟨w2.heap.size, 1, none⟩ _ b (by show b ≠ w2.heap.size; omega)).trans (Below.heap_setCell _ ⟨w2.heap.size, 0, none⟩ _ b (by show b ≠ w2.heap.size; omega))).trans (hbH.out b h2))
    generalize hW5 : (W3.setCell ⟨w2.heap.size, 0, none⟩ (.int .i64 M')).setCell ⟨w2.heap.size, 1, none⟩ (.slice a2 I'.length c2) = W5 at *
    clear hW5 f0 f1 c0 c1 r3 A3 F2 hbH A2 hs3
    obtain ⟨⟨t1, t2, t3, t4⟩, ⟨t5, t6, t7, t8⟩, ⟨t9, t10⟩, ⟨_, t11⟩, ⟨_, t12⟩, t13⟩ := RP.out W5 w2.heap.size W.drew.heap.size _ _ _ A5 r5 F5 hgl
    have T13 := Lib.hid t13
    clear t13 r5 F5
    generalize w2.heap.size = rb at *
    try clear hHeld
    refine hK.out _ _ ?_ (fun hHeld => ?_)
    · exact SK.out _ A5
    clear hK K
    try simp only [Act.put, List.setIfInBounds_toArray, List.set_cons_zero, List.set_cons_succ]
    refine wpAnyH_take (i := 16) (oi := _) (v := ?_) (nth_at rfl) (by kernel_rfl) (by kernel_rfl) (by kernel_rfl) (fun _ _ _ h => h) (Or.inl ⟨by rfl, ?_⟩) (by assumption) ?_
    rotate_left 1
    · intro w hSw; (try dsimp only at hSw); (go_simp <;> with_reducible rfl)
    try simp only [Act.put, List.setIfInBounds_toArray, List.set_cons_zero, List.set_cons_succ]
    refine wpAnyH_done (by kernel_rfl) ?_ _
    refine NoPanic.normal ?_
    try clear hHeld
    clear SK RP A5
    go_wp2_with fail
    refine wp_region_noPanic ?_
    refine wp_region_held_drew (S := (fun u => u.cell? ⟨eb, 0, none⟩ = some (.pointer (some ⟨q, 0, none⟩)) ∧ u.cell? ⟨q, 0, none⟩ = some (.slice (some ⟨g, 0, none⟩) l.length cap) ∧ u.cell? ⟨rb, 0, none⟩ = some (.int .i64 M') ∧ u.cell? ⟨rb, 1, none⟩ = some (.slice a2 I'.length c2))) (by kernel_rfl) ?_ (fun hHeld => ?_)
    · exact ⟨t1, t2, t3, t4⟩
    refine wpAnyH_take (i := 0) (oi := _) (v := ?_) (nth_at rfl) (by kernel_rfl) (by kernel_rfl) (by kernel_rfl) (fun _ _ _ h => h) (Or.inl ⟨by rfl, ?_⟩) (by assumption) ?_
    rotate_left 1
    · intro w hSw; (try dsimp only at hSw); (go_simp <;> with_reducible rfl)
    try simp only [Act.put, List.setIfInBounds_toArray, List.set_cons_zero, List.set_cons_succ]
    refine wpAnyH_take (i := 1) (oi := _) (v := ?_) (nth_at rfl) (by kernel_rfl) (by kernel_rfl) (by kernel_rfl) (fun _ _ _ h => h) (Or.inl ⟨by rfl, ?_⟩) (by assumption) ?_
    rotate_left 1
    · intro w hSw; (try dsimp only at hSw); (go_simp <;> with_reducible rfl)
    try simp only [Act.put, List.setIfInBounds_toArray, List.set_cons_zero, List.set_cons_succ]
    refine wpAnyH_take (i := 2) (oi := _) (v := ?_) (nth_at rfl) (by kernel_rfl) (by kernel_rfl) (by kernel_rfl) (fun _ _ _ h => h) (Or.inl ⟨by rfl, ?_⟩) (by assumption) ?_
    rotate_left 1
    · intro w hSw; (try dsimp only at hSw); (go_simp <;> with_reducible rfl)
    try simp only [Act.put, List.setIfInBounds_toArray, List.set_cons_zero, List.set_cons_succ]
    refine wpAnyH_take (i := 3) (oi := _) (v := ?_) (nth_at rfl) (by kernel_rfl) (by kernel_rfl) (by kernel_rfl) (fun _ _ _ h => h) (Or.inl ⟨by rfl, ?_⟩) (by assumption) ?_
    rotate_left 1
    · intro w hSw; (try dsimp only at hSw); (go_simp <;> with_reducible rfl)
    try simp only [Act.put, List.setIfInBounds_toArray, List.set_cons_zero, List.set_cons_succ]
    refine wpAnyH_take (i := 4) (oi := _) (v := ?_) (nth_at rfl) (by kernel_rfl) (by kernel_rfl) (by kernel_rfl) (fun _ _ _ h => h) (Or.inl ⟨by rfl, ?_⟩) (by assumption) ?_
    rotate_left 1
    · intro w hSw; (try dsimp only at hSw); (go_simp <;> with_reducible rfl)
    try simp only [Act.put, List.setIfInBounds_toArray, List.set_cons_zero, List.set_cons_succ]
    refine wpAnyH_take (i := 5) (oi := _) (v := ?_) (nth_at rfl) (by kernel_rfl) (by kernel_rfl) (by kernel_rfl) (fun _ _ _ h => h) (Or.inl ⟨by rfl, ?_⟩) (by assumption) ?_
    rotate_left 1
    · intro w hSw; (try dsimp only at hSw); (go_simp <;> with_reducible rfl)
    try simp only [Act.put, List.setIfInBounds_toArray, List.set_cons_zero, List.set_cons_succ]
    refine wpAnyH_take (i := 6) (oi := _) (v := ?_) (nth_at rfl) (by kernel_rfl) (by kernel_rfl) (by kernel_rfl) (fun _ _ _ h => h) (Or.inl ⟨by rfl, ?_⟩) (by assumption) ?_
    rotate_left 1
    · intro w hSw; (try dsimp only at hSw); (go_simp <;> with_reducible rfl)
    try simp only [Act.put, List.setIfInBounds_toArray, List.set_cons_zero, List.set_cons_succ]
    refine wpAnyH_take (i := 7) (oi := _) (v := ?_) (nth_at rfl) (by kernel_rfl) (by kernel_rfl) (by kernel_rfl) (fun _ _ _ h => h) (Or.inl ⟨by rfl, ?_⟩) (by assumption) ?_
    rotate_left 1
    · intro w hSw; (try dsimp only at hSw); (go_simp <;> with_reducible rfl)
    try simp only [Act.put, List.setIfInBounds_toArray, List.set_cons_zero, List.set_cons_succ]
    refine wpAnyH_take (i := 8) (oi := _) (v := ?_) (nth_at rfl) (by kernel_rfl) (by kernel_rfl) (by kernel_rfl) (fun _ _ _ h => h) (Or.inl ⟨by rfl, ?_⟩) (by assumption) ?_
    rotate_left 1
    · intro w hSw; (try dsimp only at hSw); (go_simp <;> with_reducible rfl)
    try simp only [Act.put, List.setIfInBounds_toArray, List.set_cons_zero, List.set_cons_succ]
    refine wpAnyH_ready (rs := [9]) (by kernel_rfl) (by simp) ?_
    refine AllReadyH.cons (o := _) (nth_at rfl) (fun K hK => ?_) AllReadyH.nil
    go_simp
    try clear hHeld
    refine hK.out _ _ ?_ (fun hHeld => ?_)
    · exact ⟨t5, t6, t7, t8⟩
    clear hK K
    try simp only [Act.put, List.setIfInBounds_toArray, List.set_cons_zero, List.set_cons_succ]
    refine wpAnyH_done (by kernel_rfl) ?_ _
    refine NoPanic.normal ?_
    try clear hHeld
    go_wp2_with fail
    go_ret
    exact ⟨rfl, T13.out.drew⟩
  refine AllReadyH.cons (o := _) (nth_at rfl) (fun K hK => ?_) AllReadyH.nil
  go_simp
  try clear hHeld
  refine hK.out _ _ ?_ (fun hHeld => ?_)
  · exact SK.out _ ((Below.refl _ W).alloc (Nat.le_refl _) _).drew
  clear hK K
  try simp only [Act.put, List.setIfInBounds_toArray, List.set_cons_zero, List.set_cons_succ]
  refine wpAnyH_ready (rs := [10]) (by kernel_rfl) (by simp) ?_
  refine AllReadyH.cons (o := _) (nth_at rfl) (fun K hK => ?_) AllReadyH.nil
  go_simp
  obtain ⟨W1, hW1⟩ : ∃ W1, (W.alloc (.cells #[.int .i64 0, .slice none 0 0] 46)).drew = W1 := ⟨_, rfl⟩
  rw [hW1]
  have A1 : Below W.heap.size W W1 := hW1 ▸ ((Below.refl _ W).alloc (Nat.le_refl _) _).drew
  have r1 : Blk W1 W.heap.size #[.int .i64 0, .slice none 0 0] 46 := hW1 ▸ (Blk.new _ _ _).drew
  have hsz1 : W.heap.size < W1.heap.size := r1.lt
  clear hW1
  refine (HP W1 A1).mono ?_
  rintro e w2 ⟨v2, rfl, s2, b2⟩
  have A3 := A1.trans (b2.mono A1.size)
  have r3 := r1.below b2 r1.lt
  have F2 := FreshV.of_own s2
  clear s2 b2 r1
  obtain ⟨a2, c2, rfl⟩ := F2.1
  have f0 := r3.frozen 0
  have f1 := r3.frozen 1
  have c0 := r3.cell 0
  have c1 := r3.cell 1
  simp at c0 c1
  try clear hHeld
  refine hK.out _ _ ?_ (fun hHeld => ?_)
  · exact SK.out _ A3
  clear hK K
  try simp only [Act.put, List.setIfInBounds_toArray, List.set_cons_zero, List.set_cons_succ]
  refine wpAnyH_take (i := 11) (oi := _) (v := ?_) (nth_at rfl) (by kernel_rfl) (by kernel_rfl) (by kernel_rfl) (fun _ _ _ h => h) (Or.inl ⟨by rfl, ?_⟩) (by assumption) ?_
  rotate_left 1
  · intro w hSw; (try dsimp only at hSw); (go_simp <;> with_reducible rfl)
  try simp only [Act.put, List.setIfInBounds_toArray, List.set_cons_zero, List.set_cons_succ]
  refine wpAnyH_take (i := 12) (oi := _) (v := ?_) (nth_at rfl) (by kernel_rfl) (by kernel_rfl) (by kernel_rfl) (fun _ _ _ h => h) (Or.inl ⟨by rfl, ?_⟩) (by assumption) ?_
  rotate_left 1
  · intro w hSw; (try dsimp only at hSw); (go_simp <;> with_reducible rfl)
  try simp only [Act.put, List.setIfInBounds_toArray, List.set_cons_zero, List.set_cons_succ]
  refine wpAnyH_take (i := 13) (oi := _) (v := ?_) (nth_at rfl) (by kernel_rfl) (by kernel_rfl) (by kernel_rfl) (fun _ _ _ h => h) (Or.inl ⟨by rfl, ?_⟩) (by assumption) ?_
  rotate_left 1
  · intro w hSw; (try dsimp only at hSw); (go_simp <;> with_reducible rfl)
  try simp only [Act.put, List.setIfInBounds_toArray, List.set_cons_zero, List.set_cons_succ]
  refine wpAnyH_ready (rs := [15]) (by kernel_rfl) (by simp) ?_
  refine AllReadyH.cons (o := _) (nth_at rfl) (fun K hK => ?_) AllReadyH.nil
  go_simp
  have r5 := (r3.set 0 (.int .i64 M')).set 1 (.slice a2 I'.length c2)
  simp only [List.setIfInBounds_toArray, List.set_cons_zero, List.set_cons_succ] at r5
  have A5 := (A3.setCell (p := ⟨W.heap.size, 0, none⟩) (Nat.le_refl _) (.int .i64 M')).setCell (p := ⟨W.heap.size, 1, none⟩) (Nat.le_refl _) (.slice a2 I'.length c2)
  have F5 : FreshV W1.heap.size ((w2.setCell ⟨W.heap.size, 0, none⟩ (.int .i64 M')).setCell ⟨W.heap.size, 1, none⟩ (.slice a2 I'.length c2)) (.slice a2 I'.length c2) I' := F2.step (by simp) (fun b h1 h2 => (Below.heap_setCell _ ⟨W.heap.size, 1, none⟩ _ b (by show b ≠ W.heap.size; omega)).trans (Below.heap_setCell _ ⟨W.heap.size, 0, none⟩ _ b (by show b ≠ W.heap.size; omega)))
  generalize hW5 : (w2.setCell ⟨W.heap.size, 0, none⟩ (.int .i64 M')).setCell ⟨W.heap.size, 1, none⟩ (.slice a2 I'.length c2) = W5 at *
  clear hW5 f0 f1 c0 c1 r3 A3 F2
  obtain ⟨⟨t1, t2, t3, t4⟩, ⟨t5, t6, t7, t8⟩, ⟨t9, t10⟩, ⟨_, t11⟩, ⟨_, t12⟩, t13⟩ := RP.out W5 W.heap.size W1.heap.size _ _ _ A5 r5 F5 (Nat.lt_trans hgl hsz1)
  have T13 := Lib.hid t13
  clear t13 r5 F5
  try clear hHeld
  refine hK.out _ _ ?_ (fun hHeld => ?_)
  · exact SK.out _ A5
  clear hK K
  try simp only [Act.put, List.setIfInBounds_toArray, List.set_cons_zero, List.set_cons_succ]
  refine wpAnyH_take (i := 16) (oi := _) (v := ?_) (nth_at rfl) (by kernel_rfl) (by kernel_rfl) (by kernel_rfl) (fun _ _ _ h => h) (Or.inl ⟨by rfl, ?_⟩) (by assumption) ?_
  rotate_left 1
  · intro w hSw; (try dsimp only at hSw); (go_simp <;> with_reducible rfl)
  try simp only [Act.put, List.setIfInBounds_toArray, List.set_cons_zero, List.set_cons_succ]
  refine wpAnyH_done (by kernel_rfl) ?_ _
  refine NoPanic.normal ?_
  try clear hHeld
  clear SK RP A5
  go_wp2_with fail
  refine wp_region_noPanic ?_
  refine wp_region_held_drew (S := (fun u => u.cell? ⟨eb, 0, none⟩ = some (.pointer (some ⟨q, 0, none⟩)) ∧ u.cell? ⟨q, 0, none⟩ = some (.slice (some ⟨g, 0, none⟩) l.length cap) ∧ u.cell? ⟨W.heap.size, 0, none⟩ = some (.int .i64 M') ∧ u.cell? ⟨W.heap.size, 1, none⟩ = some (.slice a2 I'.length c2))) (by kernel_rfl) ?_ (fun hHeld => ?_)
  · exact ⟨t1, t2, t3, t4⟩
  refine wpAnyH_take (i := 0) (oi := _) (v := ?_) (nth_at rfl) (by kernel_rfl) (by kernel_rfl) (by kernel_rfl) (fun _ _ _ h => h) (Or.inl ⟨by rfl, ?_⟩) (by assumption) ?_
  rotate_left 1
  · intro w hSw; (try dsimp only at hSw); (go_simp <;> with_reducible rfl)
  try simp only [Act.put, List.setIfInBounds_toArray, List.set_cons_zero, List.set_cons_succ]
  refine wpAnyH_take (i := 1) (oi := _) (v := ?_) (nth_at rfl) (by kernel_rfl) (by kernel_rfl) (by kernel_rfl) (fun _ _ _ h => h) (Or.inl ⟨by rfl, ?_⟩) (by assumption) ?_
  rotate_left 1
  · intro w hSw; (try dsimp only at hSw); (go_simp <;> with_reducible rfl)
  try simp only [Act.put, List.setIfInBounds_toArray, List.set_cons_zero, List.set_cons_succ]
  refine wpAnyH_take (i := 2) (oi := _) (v := ?_) (nth_at rfl) (by kernel_rfl) (by kernel_rfl) (by kernel_rfl) (fun _ _ _ h => h) (Or.inl ⟨by rfl, ?_⟩) (by assumption) ?_
  rotate_left 1
  · intro w hSw; (try dsimp only at hSw); (go_simp <;> with_reducible rfl)
  try simp only [Act.put, List.setIfInBounds_toArray, List.set_cons_zero, List.set_cons_succ]
  refine wpAnyH_take (i := 3) (oi := _) (v := ?_) (nth_at rfl) (by kernel_rfl) (by kernel_rfl) (by kernel_rfl) (fun _ _ _ h => h) (Or.inl ⟨by rfl, ?_⟩) (by assumption) ?_
  rotate_left 1
  · intro w hSw; (try dsimp only at hSw); (go_simp <;> with_reducible rfl)
  try simp only [Act.put, List.setIfInBounds_toArray, List.set_cons_zero, List.set_cons_succ]
  refine wpAnyH_take (i := 4) (oi := _) (v := ?_) (nth_at rfl) (by kernel_rfl) (by kernel_rfl) (by kernel_rfl) (fun _ _ _ h => h) (Or.inl ⟨by rfl, ?_⟩) (by assumption) ?_
  rotate_left 1
  · intro w hSw; (try dsimp only at hSw); (go_simp <;> with_reducible rfl)
  try simp only [Act.put, List.setIfInBounds_toArray, List.set_cons_zero, List.set_cons_succ]
  refine wpAnyH_take (i := 5) (oi := _) (v := ?_) (nth_at rfl) (by kernel_rfl) (by kernel_rfl) (by kernel_rfl) (fun _ _ _ h => h) (Or.inl ⟨by rfl, ?_⟩) (by assumption) ?_
  rotate_left 1
  · intro w hSw; (try dsimp only at hSw); (go_simp <;> with_reducible rfl)
  try simp only [Act.put, List.setIfInBounds_toArray, List.set_cons_zero, List.set_cons_succ]
  refine wpAnyH_take (i := 6) (oi := _) (v := ?_) (nth_at rfl) (by kernel_rfl) (by kernel_rfl) (by kernel_rfl) (fun _ _ _ h => h) (Or.inl ⟨by rfl, ?_⟩) (by assumption) ?_
  rotate_left 1
  · intro w hSw; (try dsimp only at hSw); (go_simp <;> with_reducible rfl)
  try simp only [Act.put, List.setIfInBounds_toArray, List.set_cons_zero, List.set_cons_succ]
  refine wpAnyH_take (i := 7) (oi := _) (v := ?_) (nth_at rfl) (by kernel_rfl) (by kernel_rfl) (by kernel_rfl) (fun _ _ _ h => h) (Or.inl ⟨by rfl, ?_⟩) (by assumption) ?_
  rotate_left 1
  · intro w hSw; (try dsimp only at hSw); (go_simp <;> with_reducible rfl)
  try simp only [Act.put, List.setIfInBounds_toArray, List.set_cons_zero, List.set_cons_succ]
  refine wpAnyH_take (i := 8) (oi := _) (v := ?_) (nth_at rfl) (by kernel_rfl) (by kernel_rfl) (by kernel_rfl) (fun _ _ _ h => h) (Or.inl ⟨by rfl, ?_⟩) (by assumption) ?_
  rotate_left 1
  · intro w hSw; (try dsimp only at hSw); (go_simp <;> with_reducible rfl)
  try simp only [Act.put, List.setIfInBounds_toArray, List.set_cons_zero, List.set_cons_succ]
  refine wpAnyH_ready (rs := [9]) (by kernel_rfl) (by simp) ?_
  refine AllReadyH.cons (o := _) (nth_at rfl) (fun K hK => ?_) AllReadyH.nil
  go_simp
  try clear hHeld
  refine hK.out _ _ ?_ (fun hHeld => ?_)
  · exact ⟨t5, t6, t7, t8⟩
  clear hK K
  try simp only [Act.put, List.setIfInBounds_toArray, List.set_cons_zero, List.set_cons_succ]
  refine wpAnyH_done (by kernel_rfl) ?_ _
  refine NoPanic.normal ?_
  try clear hHeld
  go_wp2_with fail
  go_ret
  exact ⟨rfl, T13.out.drew⟩
end Go.Proofs.YthclfkhakmcnbaaGreatDoor
/- Walks of layer 10: Put. -/
namespace Go.Proofs.YthclfkhakmcnbaaGreatDoor
open Go.RowKit Go.Shelf
attribute [local go_sem] Oper.semAt_some
theorem putE_ok {l : List ObjD} {n t : List UInt8} (h : editE l n 2 = 0) : putE l n t = rputE (objS l n).max (objS l n).items t := by unfold putE; rw [if_pos h]
theorem putE_no {l : List ObjD} {n t : List UInt8} (h : ¬ editE l n 2 = 0) : putE l n t = editE l n 2 := by unfold putE; rw [if_neg h]
set_option maxRecDepth 100000 in
set_option maxHeartbeats 8000000 in
theorem Put_any (l : List ObjD) (hl : FitsS l) (v : Value) (n t : List UInt8) (ht : t.length ≤ 1000000) (a f em : Addr) (w : World) (hr : RErr w a f em) (het : ErrT w) (hv : ObjsV w v l) :
    Calls Tryz.prog 37 #[v, .string ⟨n.toArray⟩, .string ⟨t.toArray⟩] w (viewP w (putS l n t) (putE l n t)) := by
  have hmf : ∀ (fn : Fn) (first cap : Array Value) (w : World), (Instr.makeFunc fn first cap).run Tryz.prog w = .ok (.func fn first cap) w := fun _ _ _ _ => rfl
  have hok := fun h => putE_ok (l := l) (n := n) (t := t) h
  have hno := fun h => putE_no (l := l) (n := n) (t := t) h
  obtain ⟨E, hE⟩ : ∃ E, putE l n t = E := ⟨_, rfl⟩
  have hdS : Hid (putS l n t = if E = 0 then setS l n (withR (objS l n).max ((objS l n).items ++ [t])) else []) := by show _ = _; rw [← hE]; rfl
  rw [hE] at hok hno ⊢
  clear hE
  generalize putS l n t = S at *
  have hokH := Lib.hid hok
  have hnoH := Lib.hid hno
  clear hok hno
  obtain ⟨av, cv, rfl, -⟩ := hv.at
  have HO := fun W (h : KeepC w W) => open_any l hl (.slice av l.length cv) a W (h.2 _ _ _ hr.ga) (hv.keep h)
  have HX := Lib.hid (fun W (h : KeepC w W) q v ev c hev hvs hq => end_any q v ev c hev hvs W (h.2 _ _ _ het) hq)
  have hrH := Lib.hid hr
  clear hr het
  go_enter Tryz.func37, Tryz.ntmps37
  go_wp2_with fail
  have i0 := Boxed.new w 9 (.string ⟨t.toArray⟩)
  have A0 := Below.alloc (Below.refl w.heap.size w) (Nat.le_refl _) (.cells #[.string ⟨t.toArray⟩] 9)
  have hs0 : w.heap.size < (w.alloc (.cells #[.string ⟨t.toArray⟩] 9)).heap.size := i0.lt
  generalize w.alloc (.cells #[.string ⟨t.toArray⟩] 9) = W0 at *
  generalize hib : w.heap.size = ib at *
  with_reducible refine (HO W0 (KeepC.of_below (hib ▸ A0))).mono ?_
  rintro e w1 ⟨q, v1, rfl, hqw, q1, o1', B1⟩
  clear HO
  go_wp2_with fail
  have e2 := Boxed.new w1 62 (.pointer (some ⟨q, 0, none⟩))
  have A2 := Below.alloc (Below.refl w1.heap.size w1) (Nat.le_refl _) (.cells #[.pointer (some ⟨q, 0, none⟩)] 62)
  have b2 := B1.trans (A2.mono B1.size)
  have q2 := q1.below A2 q1.lt
  have o2 := o1'.kept (grown_of_below A2 none) (RowT.none _ _)
  have i2 := i0.kept (grown_of_below b2 none) (by simp)
  have bw2 : Below ib w (w1.alloc (.cells #[.pointer (some ⟨q, 0, none⟩)] 62)) := A0.trans (b2.mono (hib ▸ A0.size))
  have hwe : W0.heap.size ≤ w1.heap.size := B1.size
  clear q1 o1' A2 B1
  generalize heb : w1.heap.size = eb at *
  clear heb
  generalize w1.alloc (.cells #[.pointer (some ⟨q, 0, none⟩)] 62) = W2 at *
  have hiq : ib ≤ q := by omega
  by_cases hed : editE l n 2 = 0
  · have hEW := hokH.out hed
    obtain ⟨hsp, hi, -⟩ := edit_zero.1 hed
    obtain ⟨g, cap, hat | hat⟩ := objsO_at o2 _ hi
    rotate_left 1
    · exact absurd hat (by decide)
    obtain ⟨rfl, -⟩ := hat
    have hob := objS_at hi
    rw [hob] at hEW
    have HDO := edit_do q _ l hl.1 n 2 (.inr (.inr rfl)) 77 #[.pointer (some ⟨eb, 0, none⟩), .pointer (some ⟨ib, 0, none⟩)]
      (fun why W' => E = why ∧ Blk W' q #[.slice (some ⟨g, 0, none⟩) l.length cap, .nilIface] 71 ∧ ObjsV W' (.slice (some ⟨g, 0, none⟩) l.length cap) (setS l n (withR (if E = 0 then (objS l n).max else 0) (if E = 0 then (objS l n).items ++ [t] else []))) ∧ Boxed W' eb 62 (.pointer (some ⟨q, 0, none⟩)) ∧ Below ib w W')
      W2 q2 o2.view hed (enters_of Tryz.func77 (by kernel_rfl) rfl) (fun W hW => by
        have q3 : Blk W q #[.slice (some ⟨g, 0, none⟩) l.length cap, .nilIface] 71 := by
          have := q2.below hW q2.lt
          rw [hsp] at this
          simpa using this
        have bW : Below ib w W := bw2.trans (hW.mono (hib ▸ bw2.size))
        have := put1_any q eb ib W0.heap.size g cap l hl _ hi t ht a f em W (hrH.out.below (hib ▸ bW)) q3 (e2.kept (grown_of_below hW none) (by simp)) (i2.kept (grown_of_below hW none) (by simp)) (o2.kept (grown_of_below hW none) (RowT.none _ _)) (Nat.le_trans b2.size hW.size)
        rw [← hEW] at this
        refine this.mono fun e W' ⟨h1, h2, ⟨_, h3⟩, h4, h5⟩ => ⟨_, h1, ⟨rfl, h2, ?_, h4, bW.trans (h5.mono (by omega))⟩, _, h2⟩
        rw [set_modify _ hi, hob]
        exact h3)
    clear hEW hokH hnoH hob i2
    with_reducible refine HDO.mono ?_
    rintro e w3 ⟨rfl, why, W', ⟨rfl, q3, o3, e3, b3⟩, -, hw3⟩
    have hlen : l.length = (setS l n (withR (if E = 0 then (objS l n).max else 0) (if E = 0 then (objS l n).items ++ [t] else []))).length := (set_len _ _ _).symm
    clear HDO o2 q2 e2 b2
    by_cases h0 : E = 0
    · subst h0
      have hS : S = setS l n (withR (objS l n).max ((objS l n).items ++ [t])) := hdS.out
      rw [if_pos rfl, if_pos rfl, ← hS] at o3
      rw [if_pos rfl] at hw3
      subst hw3
      have HXx := HX.out W' (KeepC.of_below (hib ▸ b3)) q _ _ 0 (.inl ⟨rfl, rfl⟩) ⟨_, _, _, rfl⟩ q3
      rw [if_pos rfl] at HXx
      have e3c := e3.cell
      clear HX q3 e3 hdS hlen hS
      go_wp2_with fail
      with_reducible refine HXx.mono ?_
      rintro e w4 ⟨rfl, b4⟩
      go_wp2_with fail
      go_ret2
      exact ⟨_, rfl, o3.keep (KeepC.of_below b4), hib ▸ b3.trans (b4.mono (hib ▸ b3.size))⟩
    · have hS : S = [] := by rw [hdS.out, if_neg h0]
      subst hS
      rw [if_neg h0] at hw3
      have q3' : Blk w3 q #[.slice (some ⟨g, 0, none⟩) l.length cap, withinV n E] 71 := by rw [← hw3]; simpa using q3.set 1 (withinV n E)
      have e3' : Boxed w3 eb 62 (.pointer (some ⟨q, 0, none⟩)) := by rw [← hw3]; exact e3.kept (grownBy_setCellB W' q 1 _) (by simpa using boxed_ne_blk e3 q3 (by decide))
      have b3' : Below ib w w3 := by rw [← hw3]; exact b3.setCell (p := ⟨q, 1, none⟩) hiq _
      have HXx := HX.out w3 (KeepC.of_below (hib ▸ b3')) q _ _ E (.inr (.inr ⟨h0, _, rfl⟩)) ⟨_, _, _, rfl⟩ q3'
      rw [if_neg h0] at HXx
      have e3c := e3'.cell
      clear HX q3 e3 hdS q3' e3' hw3 o3 b3 hlen
      go_wp2_with fail
      with_reducible refine HXx.mono ?_
      rintro e w4 ⟨rfl, b4⟩
      go_wp2_with fail
      go_ret2
      exact ⟨_, rfl, ObjsV.nil _, hib ▸ b3'.trans (b4.mono (hib ▸ b3'.size))⟩
  · have hE : E = editE l n 2 := hnoH.out hed
    have hS : S = [] := by rw [hdS.out, if_neg (by rw [hE]; exact hed)]
    subst hS
    obtain ⟨av1, cv1, rfl, -⟩ := o2.view.at
    have HN := edit_no q _ l hl.1 n 2 (.inr (.inr rfl)) (.func (.func 77) #[] #[.pointer (some ⟨eb, 0, none⟩), .pointer (some ⟨ib, 0, none⟩)]) W2 q2 o2.view hed
    rw [← hE] at HN
    have hE0 : E ≠ 0 := by rw [hE]; exact hed
    clear hE hed hokH hnoH hdS
    with_reducible refine HN.mono ?_
    rintro e w3 ⟨rfl, q3, g3⟩
    have e3 := (e2.kept g3 (by simpa using boxed_ne_blk e2 q2 (by decide))).cell
    have b3 := bw2.grown g3 (hib ▸ bw2.size) (fun k e => by cases e; exact hiq)
    have HXx := HX.out w3 (KeepC.of_below (hib ▸ b3)) q _ _ E (.inr (.inl ⟨hE0, rfl⟩)) ⟨_, _, _, rfl⟩ q3
    rw [if_neg hE0] at HXx
    clear HN HX q3 g3 e2 o2 q2 b2 i2
    go_wp2_with fail
    with_reducible refine HXx.mono ?_
    rintro e w4 ⟨rfl, b4⟩
    go_wp2_with fail
    go_ret2
    exact ⟨_, rfl, ObjsV.nil _, hib ▸ b3.trans (b4.mono (hib ▸ b3.size))⟩
end Go.Proofs.YthclfkhakmcnbaaGreatDoor
/- Walks of layer 10: Take$1. -/
namespace Go.Proofs.YthclfkhakmcnbaaGreatDoor
open Go.RowKit Go.Shelf
attribute [local go_sem] Oper.semAt_some
set_option maxRecDepth 100000 in
set_option maxHeartbeats 8000000 in
theorem take1_any (q eb ob base g cap : Nat) (l : List ObjD) (hl : FitsS l) (ix : Nat) (hi : ix < l.length) (a f em : Addr) (W0 W : World) (hr0 : RErr W0 a f em)
    (hq0 : Blk W0 q #[.slice (some ⟨g, 0, none⟩) l.length cap, .nilIface] 71) (he0 : Boxed W0 eb 62 (.pointer (some ⟨q, 0, none⟩))) (hv0 : ObjsO base 48 9 W0 (.slice (some ⟨g, 0, none⟩) l.length cap) l) (hbase : base ≤ W0.heap.size)
    (B0 : Below W0.heap.size W0 W) (x0 : List UInt8) (hob : Boxed W ob 9 (.string ⟨x0.toArray⟩)) (hob0 : W0.heap.size ≤ ob) :
    Calls Tryz.prog 81 #[.int .i64 ix, .pointer (some ⟨eb, 0, none⟩), .pointer (some ⟨ob, 0, none⟩)] W fun e W' => e = .returned (.int .i64 (rtakeE l[ix].max l[ix].items)) ∧
      ringPost base q eb g cap l ix (if rtakeE l[ix].max l[ix].items = 0 then l[ix].max else 0) (if rtakeE l[ix].max l[ix].items = 0 then l[ix].items.tail else []) W0 W' ∧
      Boxed W' ob 9 (.string ⟨(if rtakeE l[ix].max l[ix].items = 0 then l[ix].items.headD [] else []).toArray⟩) := by
  have hob1 := hob.lt
  have K0 := KeepC.of_below B0
  obtain ⟨g', cap', hat | hat⟩ := objsO_at hv0 ix hi
  rotate_left 1
  · exact absurd hat (by decide)
  obtain ⟨hgg, hbg, hgl, -, -, -, x3, ⟨lv, x4, hlv⟩, -, -⟩ := hat
  cases hgg
  have hfi := fits_ring hl hi
  have HP := fun W1 (h : Below W.heap.size W W1) => rtake_any l[ix].max l[ix].items hfi lv a f em W1 ((hr0.below B0).below h) ((hlv.view.keep K0).keep (KeepC.of_below h))
  have hlm := hl.1
  have hgez : (0 : Int) ≤ (ix : Int) := by omega
  have hltz : (ix : Int) < (l.length : Int) := by omega
  have e0 := hq0.cell 0
  simp at e0
  obtain ⟨lva, lvc, hlve, -⟩ := hlv.view.2
  obtain ⟨E, hE⟩ : ∃ E, rtakeE l[ix].max l[ix].items = E := ⟨_, rfl⟩
  unfold rtakeP at HP
  rw [hE] at HP ⊢
  obtain ⟨M', hM'⟩ : ∃ M', (if E = 0 then l[ix].max else 0) = M' := ⟨_, rfl⟩
  obtain ⟨I', hI'⟩ : ∃ I', (if E = 0 then l[ix].items.tail else []) = I' := ⟨_, rfl⟩
  obtain ⟨T', hT'⟩ : ∃ T', (if E = 0 then l[ix].items.headD [] else []) = T' := ⟨_, rfl⟩
  rw [hM', hI', hT'] at HP ⊢
  have hlve' : ∃ lvn, lv = .slice lva lvn lvc := ⟨_, hlve⟩
  clear hE hM' hI' hT' hr0 hlv hlve
  obtain ⟨lvn, rfl⟩ := hlve'
  have SK : Hid (∀ u, Below W.heap.size W u → u.cell? ⟨eb, 0, none⟩ = some (.pointer (some ⟨q, 0, none⟩)) ∧ u.cell? ⟨q, 0, none⟩ = some (.slice (some ⟨g, 0, none⟩) l.length cap) ∧ u.cell? ⟨g, ix * 5 + 3, none⟩ = some (.int .i64 l[ix].max) ∧ u.cell? ⟨g, ix * 5 + 4, none⟩ = some (.slice lva lvn lvc)) := fun u hu =>
    ⟨(K0.trans (KeepC.of_below hu)).2 _ _ _ he0.cell, (K0.trans (KeepC.of_below hu)).2 _ _ _ e0, (K0.trans (KeepC.of_below hu)).2 _ _ _ x3, (K0.trans (KeepC.of_below hu)).2 _ _ _ x4⟩
  have RP : Hid (∀ w5 rb n m v its s, Below W.heap.size W w5 → Blk w5 rb #[.int .i64 m, v] 46 → W.heap.size ≤ rb → FreshV n w5 v its → W.heap.size ≤ n → _) := fun w5 rb n m v its s A r hrb F hn =>
    have B6 : Below W0.heap.size W0 (w5.setCell ⟨ob, 0, none⟩ s) := (B0.trans (A.mono B0.size)).setCell (p := ⟨ob, 0, none⟩) hob0 s
    ring_post (base := base) (ix := ix) (rb := rb) (n := n) (m := m) (its := its) (hq0.below B6 hq0.lt) (he0.kept (grown_of_below B6 none) (by simp)) (hv0.kept (grown_of_below B6 none) (RowT.none _ _)) (B6.mono hbase) (Nat.le_trans hbase B6.size) hbg (r.other 0 s (show rb ≠ ob by omega))
      (F.step (by simp) (fun b h1 h2 => Below.heap_setCell w5 ⟨ob, 0, none⟩ s b (by show b ≠ ob; omega))) (Nat.lt_of_lt_of_le hgl (Nat.le_trans B0.size hn)) hi
  have OB : Hid (∀ w5 s m v, Below W.heap.size W w5 → w5.frozen? ⟨ob, 0, none⟩ = false ∧ w5.cell? ⟨ob, 0, none⟩ = some (.string ⟨x0.toArray⟩) ∧ Boxed (((w5.setCell ⟨ob, 0, none⟩ s).setCell ⟨g, ix * 5 + 3, none⟩ m).setCell ⟨g, ix * 5 + 4, none⟩ v) ob 9 s) := fun w5 s m v A => by
    have o5 := hob.kept (grown_of_below A none) (by simp)
    refine ⟨o5.frozen, o5.cell, (o5.set s).kept (row := some g) (grownBy_t (grownBy_setCellB _ _ _ _) (grownBy_setCellB _ _ _ _)) ?_⟩
    simp; omega
  generalize l[ix].max = M at *
  generalize l[ix].items = I at *
  obtain ⟨k1, k2, k3, k4⟩ := SK.out W (Below.refl _ W)
  have HPx := HP W (Below.refl _ W)
  clear hq0 he0 hv0 e0 x3 x4 hbg hob SK HP K0 B0
  go_enter Tryz.func81, Tryz.ntmps81
  go_wp2_with fail
  with_reducible refine HPx.mono ?_
  rintro e w2 ⟨v2, rfl, F2, b2⟩
  obtain ⟨a2, c2, rfl⟩ := F2.1
  clear HPx k3 k4
  have A5 : Below W.heap.size W (w2.alloc (.cells #[.int .i64 M', .slice a2 I'.length c2] 46)) := b2.alloc b2.size _
  have r5 := Blk.new w2 #[.int .i64 M', .slice a2 I'.length c2] 46
  have F5 : FreshV W.heap.size (w2.alloc (.cells #[.int .i64 M', .slice a2 I'.length c2] 46)) (.slice a2 I'.length c2) I' := F2.step (by simp) (fun b _ hb => (World.grownBy_alloc w2 _ none).block b hb (by simp))
  have hrb := b2.size
  go_wp2_with fail
  obtain ⟨W5, hW5⟩ : ∃ W5, w2.alloc (.cells #[.int .i64 M', .slice a2 I'.length c2] 46) = W5 := ⟨_, rfl⟩
  rw [hW5] at A5 r5 F5 ⊢
  have K5 := KeepC.of_below A5
  have s1 := K5.2 _ _ _ k1
  have s2 := K5.2 _ _ _ k2
  have s3 := r5.cell 0
  have s4 := r5.cell 1
  simp at s3 s4
  obtain ⟨fo, co, hbx⟩ := OB.out W5 (.string ⟨T'.toArray⟩) (.int .i64 M') (.slice a2 I'.length c2) A5
  have HBX := Lib.hid hbx
  obtain ⟨⟨t1, t2, t3, t4⟩, ⟨t5, t6, t7, t8⟩, ⟨t9, t10⟩, ⟨_, t11⟩, ⟨_, t12⟩, t13⟩ := RP.out W5 _ _ _ _ _ (.string ⟨T'.toArray⟩) A5 r5 hrb F5 (Nat.le_refl _)
  have T13 := Lib.hid t13
  clear t13 r5 F5 RP OB K5 k1 k2 hbx A5 hW5 b2 F2 hrb
  generalize w2.heap.size = rb at *
  refine wp_region_noPanic ?_
  refine wp_region_held_drew (S := (fun u => u.cell? ⟨eb, 0, none⟩ = some (.pointer (some ⟨q, 0, none⟩)) ∧ u.cell? ⟨q, 0, none⟩ = some (.slice (some ⟨g, 0, none⟩) l.length cap) ∧ u.cell? ⟨rb, 0, none⟩ = some (.int .i64 M') ∧ u.cell? ⟨rb, 1, none⟩ = some (.slice a2 I'.length c2))) (by kernel_rfl) ?_ (fun hHeld => ?_)
  · exact ⟨s1, s2, s3, s4⟩
  refine wpAnyH_take (i := 0) (oi := _) (v := ?_) (nth_at rfl) (by kernel_rfl) (by kernel_rfl) (by kernel_rfl) (fun _ _ _ h => h) (Or.inl ⟨by rfl, ?_⟩) (by assumption) ?_
  rotate_left 1
  · intro w hSw; (try dsimp only at hSw); (go_simp <;> with_reducible rfl)
  try simp only [Act.put, List.setIfInBounds_toArray, List.set_cons_zero, List.set_cons_succ]
  refine wpAnyH_take (i := 1) (oi := _) (v := ?_) (nth_at rfl) (by kernel_rfl) (by kernel_rfl) (by kernel_rfl) (fun _ _ _ h => h) (Or.inl ⟨by rfl, ?_⟩) (by assumption) ?_
  rotate_left 1
  · intro w hSw; (try dsimp only at hSw); (go_simp <;> with_reducible rfl)
  try simp only [Act.put, List.setIfInBounds_toArray, List.set_cons_zero, List.set_cons_succ]
  refine wpAnyH_take (i := 2) (oi := _) (v := ?_) (nth_at rfl) (by kernel_rfl) (by kernel_rfl) (by kernel_rfl) (fun _ _ _ h => h) (Or.inl ⟨by rfl, ?_⟩) (by assumption) ?_
  rotate_left 1
  · intro w hSw; (try dsimp only at hSw); (go_simp <;> with_reducible rfl)
  try simp only [Act.put, List.setIfInBounds_toArray, List.set_cons_zero, List.set_cons_succ]
  refine wpAnyH_take (i := 3) (oi := _) (v := ?_) (nth_at rfl) (by kernel_rfl) (by kernel_rfl) (by kernel_rfl) (fun _ _ _ h => h) (Or.inl ⟨by rfl, ?_⟩) (by assumption) ?_
  rotate_left 1
  · intro w hSw; (try dsimp only at hSw); (go_simp <;> with_reducible rfl)
  try simp only [Act.put, List.setIfInBounds_toArray, List.set_cons_zero, List.set_cons_succ]
  refine wpAnyH_take (i := 4) (oi := _) (v := ?_) (nth_at rfl) (by kernel_rfl) (by kernel_rfl) (by kernel_rfl) (fun _ _ _ h => h) (Or.inl ⟨by rfl, ?_⟩) (by assumption) ?_
  rotate_left 1
  · intro w hSw; (try dsimp only at hSw); (go_simp <;> with_reducible rfl)
  try simp only [Act.put, List.setIfInBounds_toArray, List.set_cons_zero, List.set_cons_succ]
  refine wpAnyH_take (i := 5) (oi := _) (v := ?_) (nth_at rfl) (by kernel_rfl) (by kernel_rfl) (by kernel_rfl) (fun _ _ _ h => h) (Or.inl ⟨by rfl, ?_⟩) (by assumption) ?_
  rotate_left 1
  · intro w hSw; (try dsimp only at hSw); (go_simp <;> with_reducible rfl)
  try simp only [Act.put, List.setIfInBounds_toArray, List.set_cons_zero, List.set_cons_succ]
  refine wpAnyH_take (i := 6) (oi := _) (v := ?_) (nth_at rfl) (by kernel_rfl) (by kernel_rfl) (by kernel_rfl) (fun _ _ _ h => h) (Or.inl ⟨by rfl, ?_⟩) (by assumption) ?_
  rotate_left 1
  · intro w hSw; (try dsimp only at hSw); (go_simp <;> with_reducible rfl)
  try simp only [Act.put, List.setIfInBounds_toArray, List.set_cons_zero, List.set_cons_succ]
  refine wpAnyH_take (i := 7) (oi := _) (v := ?_) (nth_at rfl) (by kernel_rfl) (by kernel_rfl) (by kernel_rfl) (fun _ _ _ h => h) (Or.inl ⟨by rfl, ?_⟩) (by assumption) ?_
  rotate_left 1
  · intro w hSw; (try dsimp only at hSw); (go_simp <;> with_reducible rfl)
  try simp only [Act.put, List.setIfInBounds_toArray, List.set_cons_zero, List.set_cons_succ]
  refine wpAnyH_ready (rs := [8]) (by kernel_rfl) (by simp) ?_
  refine AllReadyH.cons (o := _) (nth_at rfl) (fun K hK => ?_) AllReadyH.nil
  go_simp
  try clear hHeld
  refine hK.out _ _ ?_ (fun hHeld => ?_)
  · exact ⟨t1, t2, t3, t4⟩
  clear hK K
  try simp only [Act.put, List.setIfInBounds_toArray, List.set_cons_zero, List.set_cons_succ]
  refine wpAnyH_take (i := 9) (oi := _) (v := ?_) (nth_at rfl) (by kernel_rfl) (by kernel_rfl) (by kernel_rfl) (fun _ _ _ h => h) (Or.inl ⟨by rfl, ?_⟩) (by assumption) ?_
  rotate_left 1
  · intro w hSw; (try dsimp only at hSw); (go_simp <;> with_reducible rfl)
  try simp only [Act.put, List.setIfInBounds_toArray, List.set_cons_zero, List.set_cons_succ]
  refine wpAnyH_take (i := 10) (oi := _) (v := ?_) (nth_at rfl) (by kernel_rfl) (by kernel_rfl) (by kernel_rfl) (fun _ _ _ h => h) (Or.inl ⟨by rfl, ?_⟩) (by assumption) ?_
  rotate_left 1
  · intro w hSw; (try dsimp only at hSw); (go_simp <;> with_reducible rfl)
  try simp only [Act.put, List.setIfInBounds_toArray, List.set_cons_zero, List.set_cons_succ]
  refine wpAnyH_ready (rs := [11]) (by kernel_rfl) (by simp) ?_
  refine AllReadyH.cons (o := _) (nth_at rfl) (fun K hK => ?_) AllReadyH.nil
  go_simp
  try clear hHeld
  refine hK.out _ _ ?_ (fun hHeld => ?_)
  · exact ⟨t5, t6, t7, t8⟩
  clear hK K
  try simp only [Act.put, List.setIfInBounds_toArray, List.set_cons_zero, List.set_cons_succ]
  refine wpAnyH_done (by kernel_rfl) ?_ _
  refine NoPanic.normal ?_
  try clear hHeld
  go_wp2_with fail
  go_ret
  exact ⟨rfl, T13.out.drew, HBX.out⟩
end Go.Proofs.YthclfkhakmcnbaaGreatDoor
/- Walks of layer 10: Take. -/
namespace Go.Proofs.YthclfkhakmcnbaaGreatDoor
open Go.RowKit Go.Shelf
attribute [local go_sem] Oper.semAt_some
def takeP (w : World) (T : List UInt8) (l : List ObjD) (x : Int) (e : Ending) (w' : World) : Prop :=
  ∃ v', e = .returned (.tuple #[.string ⟨T.toArray⟩, v', .int .i64 x]) ∧ ObjsV w' v' l ∧ Below w.heap.size w w'
theorem takeE_ok {l : List ObjD} {n : List UInt8} (h : editE l n 2 = 0) : takeE l n = rtakeE (objS l n).max (objS l n).items := by unfold takeE; rw [if_pos h]
theorem takeE_no {l : List ObjD} {n : List UInt8} (h : ¬ editE l n 2 = 0) : takeE l n = editE l n 2 := by unfold takeE; rw [if_neg h]
set_option maxRecDepth 100000 in
set_option maxHeartbeats 8000000 in
theorem Take_any (l : List ObjD) (hl : FitsS l) (v : Value) (n : List UInt8) (a f em : Addr) (w : World) (hr : RErr w a f em) (het : ErrT w) (hv : ObjsV w v l) :
    Calls Tryz.prog 40 #[v, .string ⟨n.toArray⟩] w (takeP w (takeT l n) (takeS l n) (takeE l n)) := by
  have hmf : ∀ (fn : Fn) (first cap : Array Value) (w : World), (Instr.makeFunc fn first cap).run Tryz.prog w = .ok (.func fn first cap) w := fun _ _ _ _ => rfl
  have hok := fun h => takeE_ok (l := l) (n := n) h
  have hno := fun h => takeE_no (l := l) (n := n) h
  obtain ⟨E, hE⟩ : ∃ E, takeE l n = E := ⟨_, rfl⟩
  have hdS : Hid (takeS l n = if E = 0 then setS l n (withR (objS l n).max (objS l n).items.tail) else []) := by show _ = _; rw [← hE]; rfl
  have hdT : Hid (takeT l n = if E = 0 then (objS l n).items.headD [] else []) := by show _ = _; rw [← hE]; rfl
  rw [hE] at hok hno ⊢
  clear hE
  generalize takeS l n = S at *
  generalize takeT l n = T at *
  have hokH := Lib.hid hok
  have hnoH := Lib.hid hno
  clear hok hno
  obtain ⟨av, cv, rfl, -⟩ := hv.at
  have HO := open_any l hl (.slice av l.length cv) a _ hr.ga hv
  have HX := Lib.hid (fun W (h : KeepC w W) q v ev c hev hvs hq => end_any q v ev c hev hvs W (h.2 _ _ _ het) hq)
  have hrH := Lib.hid hr
  clear hr het
  go_enter Tryz.func40, Tryz.ntmps40
  go_wp2_with fail
  with_reducible refine HO.mono ?_
  rintro e w1 ⟨q, v1, rfl, hqw, q1, o1', B1⟩
  clear HO
  have e1 := Boxed.new w1 62 (.pointer (some ⟨q, 0, none⟩))
  have A1 := Below.alloc (Below.refl w1.heap.size w1) (Nat.le_refl _) (.cells #[.pointer (some ⟨q, 0, none⟩)] 62)
  have b1 := B1.trans (A1.mono B1.size)
  have q1' := q1.below A1 q1.lt
  have o1 := o1'.kept (grown_of_below A1 none) (RowT.none _ _)
  go_wp2_with fail
  clear q1 o1' A1 B1
  have hz1 : (w1.alloc (.cells #[.pointer (some ⟨q, 0, none⟩)] 62)).heap.size = w1.heap.size + 1 := World.size_alloc _ _
  generalize heb : w1.heap.size = eb at *
  clear heb
  generalize w1.alloc (.cells #[.pointer (some ⟨q, 0, none⟩)] 62) = W1 at *
  have p2 := Boxed.new W1 9 (.string ⟨#[]⟩)
  have A2 := Below.alloc (Below.refl W1.heap.size W1) (Nat.le_refl _) (.cells #[.string ⟨#[]⟩] 9)
  have b2 := b1.trans (A2.mono b1.size)
  have q2 := q1'.below A2 q1'.lt
  have o2 := o1.kept (grown_of_below A2 none) (RowT.none _ _)
  have e2 := e1.kept (grown_of_below A2 none) (by simp)
  have hws : w.heap.size ≤ W1.heap.size := b1.size
  generalize W1.alloc (.cells #[.string ⟨#[]⟩] 9) = W2 at *
  rw [← hz1]
  clear hz1
  by_cases hed : editE l n 2 = 0
  · have hEW := hokH.out hed
    obtain ⟨hsp, hi, -⟩ := edit_zero.1 hed
    obtain ⟨g, cap, hat | hat⟩ := objsO_at o1 _ hi
    rotate_left 1
    · exact absurd hat (by decide)
    obtain ⟨rfl, -⟩ := hat
    have hob := objS_at hi
    rw [hob] at hEW
    rw [hsp] at q1'
    have HDO := edit_do q _ l hl.1 n 2 (.inr (.inr rfl)) 81 #[.pointer (some ⟨eb, 0, none⟩), .pointer (some ⟨W1.heap.size, 0, none⟩)]
      (fun why W' => E = why ∧ Blk W' q #[.slice (some ⟨g, 0, none⟩) l.length cap, .nilIface] 71 ∧ ObjsV W' (.slice (some ⟨g, 0, none⟩) l.length cap) (setS l n (withR (if E = 0 then (objS l n).max else 0) (if E = 0 then (objS l n).items.tail else []))) ∧ Boxed W' eb 62 (.pointer (some ⟨q, 0, none⟩)) ∧ Below w.heap.size w W' ∧
        Boxed W' W1.heap.size 9 (.string ⟨(if E = 0 then (objS l n).items.headD [] else []).toArray⟩))
      W2 q2 o2.view hed (enters_of Tryz.func81 (by kernel_rfl) rfl) (fun W hW => by
        have B0 : Below W1.heap.size W1 W := A2.trans (hW.mono A2.size)
        have := take1_any q eb W1.heap.size w.heap.size g cap l hl _ hi a f em W1 W (hrH.out.below b1) (by simpa using q1') e1 o1 hws B0 [] (p2.kept (grown_of_below hW none) (by simp)) (Nat.le_refl _)
        rw [← hEW] at this
        refine this.mono fun e W' ⟨h1, ⟨h2, ⟨_, h3⟩, h4, h5⟩, h6⟩ => ⟨_, h1, ⟨rfl, h2, ?_, h4, b1.trans h5, ?_⟩, _, h2⟩
        · rw [set_modify _ hi, hob]
          exact h3
        · rw [hob]; exact h6)
    clear hEW hokH hnoH hob q1' e1 o1 b1 p2 A2
    with_reducible refine HDO.mono ?_
    rintro e w3 ⟨rfl, why, W', ⟨rfl, q3, o3, e3, b3, p3⟩, -, hw3⟩
    clear HDO o2 q2 e2 b2
    generalize W1.heap.size = ob at *
    by_cases h0 : E = 0
    · subst h0
      have hS : S = setS l n (withR (objS l n).max (objS l n).items.tail) := hdS.out
      have hT : T = (objS l n).items.headD [] := hdT.out
      rw [if_pos rfl, if_pos rfl, ← hS] at o3
      rw [if_pos rfl, ← hT] at p3
      rw [if_pos rfl] at hw3
      subst hw3
      have HXx := HX.out W' (KeepC.of_below b3) q _ _ 0 (.inl ⟨rfl, rfl⟩) ⟨_, _, _, rfl⟩ q3
      rw [if_pos rfl] at HXx
      have e3c := e3.cell
      have p3c := p3.cell
      clear HX q3 e3 hdS hdT hS hT p3
      go_wp2_with fail
      with_reducible refine HXx.mono ?_
      rintro e w4 ⟨rfl, b4⟩
      replace p3c := (KeepC.of_below b4).2 _ _ _ p3c
      go_wp2_with fail
      exact bodyPost_ret (v := .tuple #[.string ⟨T.toArray⟩, .slice (some ⟨g, 0, none⟩) l.length cap, .int .i64 0]) (by simp [results, Tryz.results40, go_sem]) rfl ⟨_, rfl, o3.keep (KeepC.of_below b4), b3.trans (b4.mono b3.size)⟩
    · have hS : S = [] := by rw [hdS.out, if_neg h0]
      have hT : T = [] := by rw [hdT.out, if_neg h0]
      subst hS hT
      rw [if_neg h0] at hw3
      have q3' : Blk w3 q #[.slice (some ⟨g, 0, none⟩) l.length cap, withinV n E] 71 := by rw [← hw3]; simpa using q3.set 1 (withinV n E)
      have e3' : Boxed w3 eb 62 (.pointer (some ⟨q, 0, none⟩)) := by rw [← hw3]; exact e3.kept (grownBy_setCellB W' q 1 _) (by simpa using boxed_ne_blk e3 q3 (by decide))
      have b3' : Below w.heap.size w w3 := by rw [← hw3]; exact b3.setCell (p := ⟨q, 1, none⟩) hqw _
      have HXx := HX.out w3 (KeepC.of_below b3') q _ _ E (.inr (.inr ⟨h0, _, rfl⟩)) ⟨_, _, _, rfl⟩ q3'
      rw [if_neg h0] at HXx
      have e3c := e3'.cell
      have h0b : (E != 0) = true := by simpa using h0
      clear HX q3 e3 hdS hdT q3' e3' hw3 o3 b3 p3 h0
      go_wp2_with fail
      with_reducible refine HXx.mono ?_
      rintro e w4 ⟨rfl, b4⟩
      go_wp2_with fail
      exact bodyPost_ret (v := .tuple #[.string ⟨#[]⟩, .slice none 0 0, .int .i64 E]) (by simp [results, Tryz.results40, go_sem]) rfl ⟨_, rfl, ObjsV.nil _, b3'.trans (b4.mono b3'.size)⟩
  · have hE : E = editE l n 2 := hnoH.out hed
    have hS : S = [] := by rw [hdS.out, if_neg (by rw [hE]; exact hed)]
    have hT : T = [] := by rw [hdT.out, if_neg (by rw [hE]; exact hed)]
    subst hS hT
    obtain ⟨av1, cv1, rfl, -⟩ := o2.view.at
    have HN := edit_no q _ l hl.1 n 2 (.inr (.inr rfl)) (.func (.func 81) #[] #[.pointer (some ⟨eb, 0, none⟩), .pointer (some ⟨W1.heap.size, 0, none⟩)]) W2 q2 o2.view hed
    rw [← hE] at HN
    have hE0 : E ≠ 0 := by rw [hE]; exact hed
    clear hE hed hokH hnoH hdS hdT
    with_reducible refine HN.mono ?_
    rintro e w3 ⟨rfl, q3, g3⟩
    have e3 := (e2.kept g3 (by simpa using boxed_ne_blk e2 q2 (by decide))).cell
    have b3 := b2.grown g3 b2.size (fun k e => by cases e; exact hqw)
    have HXx := HX.out w3 (KeepC.of_below b3) q _ _ E (.inr (.inl ⟨hE0, rfl⟩)) ⟨_, _, _, rfl⟩ q3
    rw [if_neg hE0] at HXx
    have h0b : (E != 0) = true := by simpa using hE0
    clear HN HX q3 g3 e2 o2 q2 b2 hE0 q1' e1 o1 b1 p2 A2
    go_wp2_with fail
    with_reducible refine HXx.mono ?_
    rintro e w4 ⟨rfl, b4⟩
    go_wp2_with fail
    exact bodyPost_ret (v := .tuple #[.string ⟨#[]⟩, .slice none 0 0, .int .i64 E]) (by simp [results, Tryz.results40, go_sem]) rfl ⟨_, rfl, ObjsV.nil _, b3.trans (b4.mono b3.size)⟩
end Go.Proofs.YthclfkhakmcnbaaGreatDoor
