/- Joined: RuZ -/
import Derived.Test.YtmmdpjliknmhgaaGreatDoorJRK
import Derived.Test.YtmmdpjliknmhgaaGreatDoorJRH
import Derived.Test.YtmmdpjliknmhgaaGreatDoorJRL
/- Walks of layer 14: Parse. -/
namespace Go.Proofs.YtmmdpjliknmhgaaGreatDoor
open Go.RowKit Go.Shelf
attribute [local go_sem] Oper.semAt_some
theorem ruOwn_pos {W : World} {base e size n : Nat} {v : Value} {c : List Value} (h : W.ownsRow base e size v (n + 1) c) : ∃ g cap, v = .slice (some ⟨g, 0, none⟩) (n + 1) cap := by
  rcases h.2 with ⟨_, h0⟩ | ⟨g, cap, cur, hv, _⟩
  · omega
  · exact ⟨g, cap, hv⟩
theorem ruOwn_ge {W : World} {base e size n : Nat} {v : Value} {c : List Value} (h : W.ownsRow base e size v n c) : ∀ k, v.ownBlock = some k → base ≤ k := by
  intro k hk
  rcases h.2 with ⟨rfl, _⟩ | ⟨g, cap, cur, rfl, hg, _⟩
  · simp [Value.ownBlock] at hk
  · obtain rfl : g = k := by simpa [Value.ownBlock] using hk
    exact hg
theorem ruOwn_shape {W : World} {base e size n : Nat} {v : Value} {c : List Value} (h : W.ownsRow base e size v n c) : ∃ a cap, v = .slice a n cap := by
  rcases h.2 with ⟨rfl, rfl⟩ | ⟨g, cap, cur, rfl, _⟩
  · exact ⟨_, _, rfl⟩
  · exact ⟨_, _, rfl⟩
theorem bears_cell {β : Type} (B : Nat) (a : Addr) (f : β → Value) : Bears B (fun s W => W.cell? a = some (f s)) :=
  ⟨fun s W l o o' h _ hl ho => by
    have hb : a.block < W.heap.size := World.block_lt_of_cell? W _ h
    have hne : l ≠ a.block := fun e => by
      subst e
      simp [World.cell?, hl] at h
      cases o <;> simp_all [Obj.isCells]
    exact (World.cell?_of_block (w := W) (a := a) (World.putObj_heap_other (fun e => hne e.symm))).trans h,
   fun s W o h => (World.cell?_of_block (w := W) (a := a) (Below.heap_alloc W o _ (World.block_lt_of_cell? W _ h))).trans h⟩
theorem Bears.or {β : Type} {B : Nat} {I J : β → World → Prop} (h : Bears B I) (k : Bears B J) : Bears B (fun s W => I s W ∨ J s W) :=
  ⟨fun s W l o o' x a b c => x.imp (fun x => h.1 s W l o o' x a b c) (fun x => k.1 s W l o o' x a b c), fun s W o x => x.imp (h.2 s W o) (k.2 s W o)⟩
theorem rdK_t {D q c : Nat} {A B C : World} (h : rdK D q c A B) (k : rdK D q c B C) : rdK D q c A C :=
  ⟨fun i hi => (k.1 i hi).trans (h.1 i hi), fun j u hj x => k.2.1 j u hj (h.2.1 j u hj x), fun u x => k.2.2 u (h.2.2 u x)⟩
theorem rdK_b {D q c n : Nat} (h1 : D ≤ n) (h2 : q < n) (h3 : c < n) (W : World) (l : Nat) (o o' : Obj) (hl : n ≤ l) (_ : W.heap[l]? = some o) (_ : o.isCells = false) : rdK D q c W (W.putObj l o') :=
  ⟨fun k hk => World.putObj_heap_other (by omega), fun j u _ h => (World.cell?_of_block (w := W) (a := ⟨q, j, none⟩) (World.putObj_heap_other (by show q ≠ l; omega))).trans h, fun u h => (World.cell?_of_block (w := W) (a := ⟨c, 0, none⟩) (World.putObj_heap_other (by show c ≠ l; omega))).trans h⟩
/-- what Parse holds while it ranges -/
def RdI (w : World) (pre : List RuT) (W : World) : Prop := (∃ u v ev, Blk W w.heap.size #[u, v, ev] 65 ∧ RulesO (w.heap.size + 3) 40 W v pre) ∧ Boxed W (w.heap.size + 1) 61 (.pointer (some ⟨w.heap.size, 0, none⟩)) ∧ Below w.heap.size w W ∧ w.heap.size + 3 ≤ W.heap.size
theorem RdI.bears (w : World) : Bears (w.heap.size + 3) (RdI w) :=
  (bears_ex fun u => bears_ex fun v => bears_ex fun ev => (bears_blk _ _ _ (fun _ => #[u, v, ev])).and (bears_row _ _ _ _ (fun _ => v) (fun pre => pre.length) (fun pre => rusC pre))).and ((bears_boxed _ _ _ (fun _ => .pointer (some ⟨w.heap.size, 0, none⟩))).and ((bears_below (Nat.le_refl _) (by omega)).and (bears_size _ _)))
theorem RdI.step {w A B : World} {pre : List RuT} (h : RdI w pre A) (hg : rdG w.heap.size A B) : RdI w pre B := by
  obtain ⟨⟨u, v, ev, hb, hr⟩, hx, hB, hz⟩ := h
  obtain ⟨g, u0, rv, ev0, u', ev', h1, h2⟩ := hg
  have e : (#[u, v, ev] : Array Value) = #[u0, rv, ev0] := by
    have : (some (Obj.cells #[u, v, ev] 65 (0, 0))) = some (Obj.cells #[u0, rv, ev0] 65 (0, 0)) := hb.symm.trans h1
    injection this with this
    injection this
  have ev2 : v = rv := by injection e with e; injection e with _ e; injection e
  subst ev2
  exact ⟨⟨u', v, ev', h2, own_kept hr g (RowT.blk h1 _ (by decide))⟩, hx.kept g (by simp), hB.grown g hB.size (fun k e => by cases e; exact Nat.le_refl _), Nat.le_trans hz g.size⟩
theorem RdI.view {w W : World} {pre : List RuT} (h : RdI w pre W) : RdT w.heap.size pre W := by
  obtain ⟨⟨u, v, ev, hb, hr⟩, -⟩ := h
  obtain ⟨a, cap, rfl⟩ := ruOwn_shape hr
  exact ⟨u, a, cap, ev, hb, RulesO.view hr⟩
theorem rd_round {w W W1 w4 : World} {pre : List RuT} {x : RuT} {u v ev v4 : Value} (hb : Blk W w.heap.size #[u, v, ev] 65) (h1 : RulesO (w.heap.size + 3) 40 W v pre) (hx : Boxed W (w.heap.size + 1) 61 (.pointer (some ⟨w.heap.size, 0, none⟩)))
    (hB : Below w.heap.size w W) (hz : w.heap.size + 3 ≤ W.heap.size) (hB1 : Below W.heap.size W W1) (h4 : w4.ownsRow (w.heap.size + 3) 40 11 v4 (pre.length + 1) (rusC pre ++ ruC x)) (hg : W1.grownBy w4 v.ownBlock) :
    Keeps (w.heap.size + 3) W (w4.setCell ⟨w.heap.size, 1, none⟩ v4) ∧ rdK w.heap.size w.heap.size (w.heap.size + 2) W (w4.setCell ⟨w.heap.size, 1, none⟩ v4) ∧ RdI w (pre ++ [x]) (w4.setCell ⟨w.heap.size, 1, none⟩ v4) := by
  have g1 : W.grownBy W1 none := grown_of_below hB1 none
  have g4 : W.grownBy w4 v.ownBlock := grownBy_t (grown_of_below hB1 _) hg
  have hvb : ∀ k, v.ownBlock = some k → w.heap.size + 3 ≤ k := fun k hk => ruOwn_ge h1 k hk
  have b4 : Blk w4 w.heap.size #[u, v, ev] 65 := hb.kept g4 (fun e => by have := hvb _ e.symm; omega)
  have b5 : Blk (w4.setCell ⟨w.heap.size, 1, none⟩ v4) w.heap.size #[u, v4, ev] 65 := by simpa using b4.set 1 v4
  have g5 : w4.grownBy (w4.setCell ⟨w.heap.size, 1, none⟩ v4) (some w.heap.size) := grownBy_setCellB w4 w.heap.size 1 v4
  have x4 := hx.kept g4 (fun e => by have := hvb _ e.symm; omega)
  have low : ∀ k, k < w.heap.size + 3 → k ≠ w.heap.size → (w4.setCell ⟨w.heap.size, 1, none⟩ v4).heap[k]? = W.heap[k]? := fun k hk hne => by
    rw [g5.block k (by have := g4.size; omega) (by simpa using hne)]
    exact g4.block k (by omega) (fun e => by have := hvb _ e.symm; omega)
  refine ⟨?_, ⟨fun k hk => low k (by omega) (by omega), fun j y hj h => ?_, fun y h => ?_⟩, ⟨u, v4, ev, b5, ?_⟩, x4.kept g5 (by simp), ?_, ?_⟩
  · intro k o hk ho hoc
    have hlt := (Array.getElem?_eq_some_iff.1 ho).1
    have hne : some k ≠ v.ownBlock := by
      intro e
      rcases h1.2 with ⟨rfl, _⟩ | ⟨g, cap, cur, rfl, _, hh, _⟩
      · simp [Value.ownBlock] at e
      · obtain rfl : k = g := by simpa [Value.ownBlock] using e
        rw [ho] at hh; cases hh; cases hoc
    have h4' := (g4.block k hlt hne).trans ho
    exact (g5.block k (Array.getElem?_eq_some_iff.1 h4').1 (by simp; omega)).trans h4'
  · rw [hb.cell] at h
    rw [b5.cell, ← h]
    match j, hj with
    | 0, _ => rfl
    | 2, _ => rfl
    | j + 3, _ => rfl
  · exact (World.cell?_of_block (w := W) (a := ⟨w.heap.size + 2, 0, none⟩) (low _ (by show w.heap.size + 2 < _; omega) (by show w.heap.size + 2 ≠ _; omega))).trans h
  · show World.ownsRow _ _ _ _ _ _ _
    rw [List.length_append, rusC_app, show rusC [x] = ruC x by simp [rusC]]
    exact own_kept h4 g5 (RowT.blk b4 _ (by decide))
  · refine Below.setCell (p := ⟨w.heap.size, 1, none⟩) ?_ (Nat.le_refl _) _
    exact (hB.trans (hB1.mono hB.size)).grown hg (by have := hB.size; have := hB1.size; omega) (fun k hk => by have := hvb k hk; omega)
  · rw [size_setCell]; exact Nat.le_trans hz g4.size
theorem ruAll_any (p : Option Addr) (w : World) :
    Calls Tryz.prog 31 #[.pointer p] w fun e w' => e = .returned (.func (.func 47) #[] #[.pointer (some ⟨w.heap.size, 0, none⟩)]) ∧ w.alloc (.cells #[.pointer p] 61) = w' := by
  have hmf : ∀ (fn : Fn) (first cap : Array Value) (w : World), (Instr.makeFunc fn first cap).run Tryz.prog w = .ok (.func fn first cap) w := fun _ _ _ _ => rfl
  go_enter Tryz.func31, Tryz.ntmps31
  go_wp2
  go_ret
  exact ⟨rfl, rfl⟩
set_option maxRecDepth 100000 in
set_option maxHeartbeats 8000000 in
theorem ruParse_any (s : List UInt8) (hs : s.length ≤ 1000000) (ea : Addr) (mx : Int) (w : World) (hG : Glob ea mx w) :
    Calls Tryz.prog 13 #[.string ⟨s.toArray⟩] w fun e w' => ∃ v', e = .returned (.tuple #[v', .int .i64 (ruL.rN s), .int .i64 (ruL.rE s)]) ∧ RulesO w.heap.size 40 w' v' (ruL.rL s) ∧ Below w.heap.size w w' := by
  obtain ⟨i0, hI, hz0, hz1, hz2⟩ := info_parts infoR
  have hrn : ruL.rN s = (ruL.parse s).2 := rfl
  have hrl : ruL.rL s = (ruL.parse s).1.getD [] := rfl
  have hre : ruL.rE s = if (ruL.parse s).1.isSome then 0 else 140 := rfl
  have HT := fun n W (h : Glob ea mx W) => ruTold_any (n : Nat) .nilIface rfl W h.2.2.1
  have q0 := ((Blk.new w #[.string ⟨s.toArray⟩, .slice none 0 0, .nilIface] 65).alloc (.cells #[.pointer (some ⟨w.heap.size, 0, none⟩)] 61)).alloc (.cells #[.pointer (some ⟨w.heap.size, 0, none⟩)] 61)
  have x0 := (Boxed.new (w.alloc (.cells #[.string ⟨s.toArray⟩, .slice none 0 0, .nilIface] 65)) 61 (.pointer (some ⟨w.heap.size, 0, none⟩))).alloc (.cells #[.pointer (some ⟨w.heap.size, 0, none⟩)] 61)
  have c0 := Boxed.new ((w.alloc (.cells #[.string ⟨s.toArray⟩, .slice none 0 0, .nilIface] 65)).alloc (.cells #[.pointer (some ⟨w.heap.size, 0, none⟩)] 61)) 61 (.pointer (some ⟨w.heap.size, 0, none⟩))
  have B0 := (((Below.refl _ w).alloc (Nat.le_refl _) (.cells #[.string ⟨s.toArray⟩, .slice none 0 0, .nilIface] 65)).alloc (by simp) (.cells #[.pointer (some ⟨w.heap.size, 0, none⟩)] 61)).alloc (by simp; omega) (.cells #[.pointer (some ⟨w.heap.size, 0, none⟩)] 61)
  have hz3 : (((w.alloc (.cells #[.string ⟨s.toArray⟩, .slice none 0 0, .nilIface] 65)).alloc (.cells #[.pointer (some ⟨w.heap.size, 0, none⟩)] 61)).alloc (.cells #[.pointer (some ⟨w.heap.size, 0, none⟩)] 61)).heap.size = w.heap.size + 3 := by simp
  rw [World.size_alloc] at x0
  rw [World.size_alloc, World.size_alloc] at c0
  have HA := fun W => ruAll_any (some ⟨w.heap.size, 0, none⟩) W
  refine (callsIn_wide (n := 3)).1 ?_
  (refine callsIn_of_wp_marks Tryz.func13 rfl trivial ?_ rfl; simp only [Tryz.ntmps13, List.size_toArray, List.length_cons, List.length_nil, Nat.reduceAdd, Nat.reduceSub, Array.replicate_succ, Array.replicate_zero, List.push_toArray, List.append_toArray, List.nil_append, List.cons_append])
  gi_wp2_with (refine ⟨trivial, ?_⟩; gi_at_call 31; with_reducible refine (callsIn_wide.2 (HA _)).mono ?_; rintro e w' ⟨rfl, rfl⟩)
  clear HA
  generalize (((w.alloc (.cells #[.string ⟨s.toArray⟩, .slice none 0 0, .nilIface] 65)).alloc (.cells #[.pointer (some ⟨w.heap.size, 0, none⟩)] 61)).alloc (.cells #[.pointer (some ⟨w.heap.size, 0, none⟩)] 61)) = W0 at *
  have hsz : w.heap.size + 1 + 1 = w.heap.size + 2 := rfl
  refine range_law3 rfl (by omega) (gf := 47) (lb := #[.pointer (some ⟨w.heap.size + 2, 0, none⟩)]) rfl trivial (enters_of Tryz.func47 (by kernel_rfl) rfl)
    (encs := fun x : RuT => #[ruV x]) (G := rdG w.heap.size) (Kp := rdK w.heap.size w.heap.size (w.heap.size + 2)) (T := RdT w.heap.size) (S := RdE s w.heap.size) (Sp := fun _ _ => True) (N := 8)
    (fun W hW _ => ruAll1_seq _ w ea mx hG w.heap.size (w.heap.size + 2) (Nat.le_refl _) (by omega) (by omega) s hs W (fun k hk => (hW.block k (by omega)).trans (B0.block k hk)) (by have := hW.size; omega)
      ((hW.cell (p := ⟨w.heap.size + 2, 0, none⟩) (by show w.heap.size + 2 < _; omega)).trans c0.cell) ((hW.cell (p := ⟨w.heap.size, 0, none⟩) (by show w.heap.size < _; omega)).trans ((q0.cell 0).trans rfl)) ((hW.cell (p := ⟨w.heap.size, 2, none⟩) (by show w.heap.size < _; omega)).trans ((q0.cell 2).trans rfl)))
    rdK_t (by rw [hz3]; exact rdK_b (by omega) (by omega) (by omega)) (fun A B h k o hk ho _ => (h.1.block k (Array.getElem?_eq_some_iff.1 ho).1 (by simp; omega)).trans ho) (fun _ => rfl)
    (RdI w) (fun _ _ _ => False) (by rw [hz3]; exact RdI.bears w) (fun _ => bears_const _ _)
    (((bears_const _ _).and (bears_cell _ _ (fun _ => .nilIface))).or ((bears_const _ _).and (bears_cell _ _ (fun xs : List RuT => wrV xs.length)))) (bears_const _ _)
    (fun s A B h hg => h.step hg) (fun _ _ _ _ h _ => h)
    ⟨⟨_, _, _, q0, RulesO.nil _ _ _⟩, x0, B0, by omega⟩ (fun s W h => h.view)
    (fun x b W => ∃ g, b = { tmps := #[.string ⟨s.toArray⟩, undef, .slice none 0 0, .int .i64 0, .int .i64 0, .pointer (some ⟨w.heap.size + 1, 0, none⟩), .pointer (some ⟨g, 0, none⟩), undef, undef, .string ⟨s.toArray⟩, .agg #[.string ⟨s.toArray⟩], .agg #[.string ⟨s.toArray⟩, .slice none 0 0, .nilIface], .pointer (some ⟨w.heap.size, 0, none⟩), .pointer (some ⟨w.heap.size, 0, none⟩), .func (.func 47) #[] #[.pointer (some ⟨w.heap.size + 2, 0, none⟩)], ruV x, undef, undef, undef, undef, undef, undef, undef, undef, undef, undef, undef, undef, undef, undef, undef, undef, undef, undef, undef, undef, undef, undef, undef, undef, undef, undef, undef, undef, undef], defers := [] } ∧ Blk W g (ruC x).toArray 40 ∧ w.heap.size + 3 ≤ g)
    (fun x b => bears_ex fun g => (bears_const _ _).and ((bears_blk _ _ _ (fun _ => (ruC x).toArray)).and (bears_const _ _))) ?assign ?body ?done ?stop
  case assign =>
    rintro lp pre x W K hI' hK
    obtain ⟨id, ⟨l1, S1, i1⟩, ⟨l2, S2, i2⟩, bu, ⟨k, m, form⟩⟩ := x
    have gA := World.grownBy_alloc W (.cells #[.int .i64 id, .int .i64 l1, .int .u64 S1, .int .i64 i1, .int .i64 l2, .int .u64 S2, .int .i64 i2, .int .i64 bu, .int .i64 k, .int .i64 m, .string ⟨form.toArray⟩] 40) none
    have hiA : RdI w pre (W.alloc (.cells #[.int .i64 id, .int .i64 l1, .int .u64 S1, .int .i64 i1, .int .i64 l2, .int .u64 S2, .int .i64 i2, .int .i64 bu, .int .i64 k, .int .i64 m, .string ⟨form.toArray⟩] 40)) := (RdI.bears w).2 _ _ _ hI'
    have hK2 := fun b hb' => hK b (W.alloc (.cells #[.int .i64 id, .int .i64 l1, .int .u64 S1, .int .i64 i1, .int .i64 l2, .int .u64 S2, .int .i64 i2, .int .i64 bu, .int .i64 k, .int .i64 m, .string ⟨form.toArray⟩] 40)) ⟨W.heap.size, hb', Blk.new W _ _, hI'.2.2.2⟩ hiA
      (fun k o _ ho _ => (gA.block k (Array.getElem?_eq_some_iff.1 ho).1 (by simp)).trans ho)
      ⟨fun k hk => gA.block k (by have := hI'.2.2.2; omega) (by simp), fun j u _ h => (KeepC.alloc W _).2 _ _ _ h, fun u h => (KeepC.alloc W _).2 _ _ _ h⟩
    have HK2 := Lib.hid hK2
    clear hK gA hK2 hiA hI'
    gi_wp2
    exact HK2.out _ rfl
  case body =>
    rintro lp pre x b W ⟨g, rfl, hbg, hgb⟩ ⟨⟨u, v, ev, hb, hr⟩, hx, hB, hz⟩ hlen
    have hrd := fun W1 w4 v4 (hB1 : Below W.heap.size W W1) h4 hg => rd_round (x := x) hb hr hx hB hz (W1 := W1) (w4 := w4) (v4 := v4) hB1 h4 hg
    have hrdH := Lib.hid hrd
    obtain ⟨id, ⟨l1, S1, i1⟩, ⟨l2, S2, i2⟩, bu, ⟨k, m, form⟩⟩ := x
    obtain ⟨W1, hW1⟩ : ∃ W1, (W.alloc (.cells #[.int .i64 id, .int .i64 l1, .int .u64 S1, .int .i64 i1, .int .i64 l2, .int .u64 S2, .int .i64 i2, .int .i64 bu, .int .i64 k, .int .i64 m, .string ⟨form.toArray⟩] 40)).drew = W1 := ⟨_, rfl⟩
    have hB1 : Below W.heap.size W W1 := by rw [← hW1]; exact ((Below.refl _ W).alloc (Nat.le_refl _) _).drew
    have n1 : Blk W1 W.heap.size #[.int .i64 id, .int .i64 l1, .int .u64 S1, .int .i64 i1, .int .i64 l2, .int .u64 S2, .int .i64 i2, .int .i64 bu, .int .i64 k, .int .i64 m, .string ⟨form.toArray⟩] 40 := by rw [← hW1]; exact (Blk.new W _ _).drew
    have r1 : W1.ownsRow (w.heap.size + 3) 40 11 v pre.length (rusC pre) := own_kept hr (grown_of_below hB1 none) (RowT.none _ _)
    have hc0 := hb.cell 1
    have hc1 : W1.cell? ⟨w.heap.size, 1, none⟩ = some v := ((hb.below hB1 hb.lt).cell 1).trans rfl
    simp at hc0
    have hx0 := hx.cell
    have hx1 : W1.cell? ⟨w.heap.size + 1, 0, none⟩ = some (.pointer (some ⟨w.heap.size, 0, none⟩)) := (hB1.cell (p := ⟨w.heap.size + 1, 0, none⟩) (by show w.heap.size + 1 < _; omega)).trans hx0
    have e0 : W.cell? ⟨g, 0, none⟩ = some (.int .i64 id) := (hbg.cell 0).trans rfl
    have f0 : W1.cell? ⟨g, 0, none⟩ = some (.int .i64 id) := ((hbg.below hB1 hbg.lt).cell 0).trans rfl
    have e1 : W.cell? ⟨g, 1, none⟩ = some (.int .i64 l1) := (hbg.cell 1).trans rfl
    have f1 : W1.cell? ⟨g, 1, none⟩ = some (.int .i64 l1) := ((hbg.below hB1 hbg.lt).cell 1).trans rfl
    have e2 : W.cell? ⟨g, 2, none⟩ = some (.int .u64 S1) := (hbg.cell 2).trans rfl
    have f2 : W1.cell? ⟨g, 2, none⟩ = some (.int .u64 S1) := ((hbg.below hB1 hbg.lt).cell 2).trans rfl
    have e3 : W.cell? ⟨g, 3, none⟩ = some (.int .i64 i1) := (hbg.cell 3).trans rfl
    have f3 : W1.cell? ⟨g, 3, none⟩ = some (.int .i64 i1) := ((hbg.below hB1 hbg.lt).cell 3).trans rfl
    have e4 : W.cell? ⟨g, 4, none⟩ = some (.int .i64 l2) := (hbg.cell 4).trans rfl
    have f4 : W1.cell? ⟨g, 4, none⟩ = some (.int .i64 l2) := ((hbg.below hB1 hbg.lt).cell 4).trans rfl
    have e5 : W.cell? ⟨g, 5, none⟩ = some (.int .u64 S2) := (hbg.cell 5).trans rfl
    have f5 : W1.cell? ⟨g, 5, none⟩ = some (.int .u64 S2) := ((hbg.below hB1 hbg.lt).cell 5).trans rfl
    have e6 : W.cell? ⟨g, 6, none⟩ = some (.int .i64 i2) := (hbg.cell 6).trans rfl
    have f6 : W1.cell? ⟨g, 6, none⟩ = some (.int .i64 i2) := ((hbg.below hB1 hbg.lt).cell 6).trans rfl
    have e7 : W.cell? ⟨g, 7, none⟩ = some (.int .i64 bu) := (hbg.cell 7).trans rfl
    have f7 : W1.cell? ⟨g, 7, none⟩ = some (.int .i64 bu) := ((hbg.below hB1 hbg.lt).cell 7).trans rfl
    have e8 : W.cell? ⟨g, 8, none⟩ = some (.int .i64 k) := (hbg.cell 8).trans rfl
    have f8 : W1.cell? ⟨g, 8, none⟩ = some (.int .i64 k) := ((hbg.below hB1 hbg.lt).cell 8).trans rfl
    have e9 : W.cell? ⟨g, 9, none⟩ = some (.int .i64 m) := (hbg.cell 9).trans rfl
    have f9 : W1.cell? ⟨g, 9, none⟩ = some (.int .i64 m) := ((hbg.below hB1 hbg.lt).cell 9).trans rfl
    have e10 : W.cell? ⟨g, 10, none⟩ = some (.string ⟨form.toArray⟩) := (hbg.cell 10).trans rfl
    have f10 : W1.cell? ⟨g, 10, none⟩ = some (.string ⟨form.toArray⟩) := ((hbg.below hB1 hbg.lt).cell 10).trans rfl
    have hge : ∀ k, v.ownBlock = some k → w.heap.size + 3 ≤ k := fun k hk => ruOwn_ge hr k hk
    have hq1 := hb.below hB1 hb.lt
    have hz1' : W.heap.size ≤ W1.heap.size := hB1.size
    clear hrd hG HT B0 q0 x0 c0 hrn hrl hre hx hr hb
    gi_wp2
    refine wpInR_region_any (by kernel_rfl) (fun ⟨_, _, h⟩ => h) (by kernel_rfl) ?_
    refine wpAny_ready (rs := [0, 1, 5]) (by kernel_rfl) (by simp) ?_
    refine AllReady.cons (o := _) (nth_at rfl) (fun K hK => ?_) ?_
    · go_simp
      refine hK _ _ ?_
      clear hK K
      try simp only [Act.put, List.setIfInBounds_toArray, List.set_cons_zero, List.set_cons_succ]
      refine wpAny_ready (rs := [1, 5]) (by kernel_rfl) (by simp) ?_
      refine AllReady.cons (o := _) (nth_at rfl) (fun K hK => ?_) ?_
      · go_simp
        refine hK _ _ ?_
        clear hK K
        try simp only [Act.put, List.setIfInBounds_toArray, List.set_cons_zero, List.set_cons_succ]
        refine wpAny_take (i := 2) (oi := _) (v := ?_) (nth_at rfl) (by kernel_rfl) (by kernel_rfl) (by kernel_rfl) (fun _ _ _ h => h) (Or.inl ⟨by rfl, ?_⟩) ?_
        rotate_left 1
        · intro w; (go_simp <;> with_reducible rfl)
        try simp only [Act.put, List.setIfInBounds_toArray, List.set_cons_zero, List.set_cons_succ]
        refine wpAny_take (i := 3) (oi := _) (v := ?_) (nth_at rfl) (by kernel_rfl) (by kernel_rfl) (by kernel_rfl) (fun _ _ _ h => h) (Or.inl ⟨by rfl, ?_⟩) ?_
        rotate_left 1
        · intro w; (go_simp <;> with_reducible rfl)
        try simp only [Act.put, List.setIfInBounds_toArray, List.set_cons_zero, List.set_cons_succ]
        refine wpAny_ready (rs := [4, 5]) (by kernel_rfl) (by simp) ?_
        refine AllReady.cons (o := _) (nth_at rfl) (fun K hK => ?_) ?_
        · go_simp
          refine hK _ _ ?_
          clear hK K
          try simp only [Act.put, List.setIfInBounds_toArray, List.set_cons_zero, List.set_cons_succ]
          refine wpAny_ready (rs := [5]) (by kernel_rfl) (by simp) ?_
          refine AllReady.cons (o := _) (nth_at rfl) (fun K hK => ?_) AllReady.nil
          go_simp
          refine hK _ _ ?_
          clear hK K
          try simp only [Act.put, List.setIfInBounds_toArray, List.set_cons_zero, List.set_cons_succ]
          refine wpAny_ready (rs := [6]) (by kernel_rfl) (by simp) ?_
          refine AllReady.cons (o := _) (nth_at rfl) (fun K hK => ?_) AllReady.nil
          go_simp
          try rw [hW1]
          refine hK _ _ ?_
          clear hK K
          try simp only [Act.put, List.setIfInBounds_toArray, List.set_cons_zero, List.set_cons_succ]
          refine wpAny_ready (rs := [7]) (by kernel_rfl) (by simp) ?_
          refine AllReady.cons (o := _) (nth_at rfl) (fun K hK => ?_) AllReady.nil
          rw [if_pos (by rfl)]
          refine wp_append_own W1 _ _ _ rfl (w.heap.size + 3) 40 i0 _ 11 96 Tryz.underlying22 hI hz0 hz1 hz2 rfl (by decide) _ _ _ rfl r1 ⟨W.heap.size, 0, none⟩ 1 1 #[.int .i64 id, .int .i64 l1, .int .u64 S1, .int .i64 i1, .int .i64 l2, .int .u64 S2, .int .i64 i2, .int .i64 bu, .int .i64 k, .int .i64 m, .string ⟨form.toArray⟩].toList rfl rfl (ruBlk_srcs n1) (by simp [Value.oneCell']) (by unfold maxLen; omega) (by omega) (by omega) ?_
          intro v4 w4 h4 hg4 _
          have hfin := hrdH.out W1 w4 v4 hB1 h4 hg4
          obtain ⟨g4, cap4, rfl⟩ := ruOwn_pos h4
          have hq4 := hq1.kept hg4 (fun e => by have := hge _ e.symm; omega)
          have hc4 : w4.cell? ⟨w.heap.size, 1, none⟩ = some v := (hq4.cell 1).trans rfl
          have hf4 := hq4.frozen 1
          have hx4 : w4.cell? ⟨w.heap.size + 1, 0, none⟩ = some (.pointer (some ⟨w.heap.size, 0, none⟩)) := (World.cell?_of_block (w := W1) (a := ⟨w.heap.size + 1, 0, none⟩) (hg4.block (w.heap.size + 1) (by omega) (fun e => by have := hge _ e.symm; omega))).trans hx1
          refine hK _ _ ?_
          clear hK K
          try simp only [Act.put, List.setIfInBounds_toArray, List.set_cons_zero, List.set_cons_succ]
          refine wpAny_take (i := 8) (oi := _) (v := ?_) (nth_at rfl) (by kernel_rfl) (by kernel_rfl) (by kernel_rfl) (fun _ _ _ h => h) (Or.inl ⟨by rfl, ?_⟩) ?_
          rotate_left 1
          · intro w; (go_simp <;> with_reducible rfl)
          try simp only [Act.put, List.setIfInBounds_toArray, List.set_cons_zero, List.set_cons_succ]
          refine wpAny_take (i := 9) (oi := _) (v := ?_) (nth_at rfl) (by kernel_rfl) (by kernel_rfl) (by kernel_rfl) (fun _ _ _ h => h) (Or.inl ⟨by rfl, ?_⟩) ?_
          rotate_left 1
          · intro w; (go_simp <;> with_reducible rfl)
          try simp only [Act.put, List.setIfInBounds_toArray, List.set_cons_zero, List.set_cons_succ]
          refine wpAny_ready (rs := [10]) (by kernel_rfl) (by simp) ?_
          refine AllReady.cons (o := _) (nth_at rfl) (fun K hK => ?_) AllReady.nil
          go_simp
          refine hK _ _ ?_
          clear hK K
          try simp only [Act.put, List.setIfInBounds_toArray, List.set_cons_zero, List.set_cons_succ]
          refine wpAny_done (by kernel_rfl) ?_ _
          gi_wp2
          try rw [hz3]
          exact hfin
        refine AllReady.cons (o := _) (nth_at rfl) (fun K hK => ?_) AllReady.nil
        go_simp
        refine hK _ _ ?_
        clear hK K
        try simp only [Act.put, List.setIfInBounds_toArray, List.set_cons_zero, List.set_cons_succ]
        refine wpAny_ready (rs := [4, 6]) (by kernel_rfl) (by simp) ?_
        refine AllReady.cons (o := _) (nth_at rfl) (fun K hK => ?_) ?_
        · go_simp
          refine hK _ _ ?_
          clear hK K
          try simp only [Act.put, List.setIfInBounds_toArray, List.set_cons_zero, List.set_cons_succ]
          refine wpAny_ready (rs := [6]) (by kernel_rfl) (by simp) ?_
          refine AllReady.cons (o := _) (nth_at rfl) (fun K hK => ?_) AllReady.nil
          go_simp
          try rw [hW1]
          refine hK _ _ ?_
          clear hK K
          try simp only [Act.put, List.setIfInBounds_toArray, List.set_cons_zero, List.set_cons_succ]
          refine wpAny_ready (rs := [7]) (by kernel_rfl) (by simp) ?_
          refine AllReady.cons (o := _) (nth_at rfl) (fun K hK => ?_) AllReady.nil
          rw [if_pos (by rfl)]
          refine wp_append_own W1 _ _ _ rfl (w.heap.size + 3) 40 i0 _ 11 96 Tryz.underlying22 hI hz0 hz1 hz2 rfl (by decide) _ _ _ rfl r1 ⟨W.heap.size, 0, none⟩ 1 1 #[.int .i64 id, .int .i64 l1, .int .u64 S1, .int .i64 i1, .int .i64 l2, .int .u64 S2, .int .i64 i2, .int .i64 bu, .int .i64 k, .int .i64 m, .string ⟨form.toArray⟩].toList rfl rfl (ruBlk_srcs n1) (by simp [Value.oneCell']) (by unfold maxLen; omega) (by omega) (by omega) ?_
          intro v4 w4 h4 hg4 _
          have hfin := hrdH.out W1 w4 v4 hB1 h4 hg4
          obtain ⟨g4, cap4, rfl⟩ := ruOwn_pos h4
          have hq4 := hq1.kept hg4 (fun e => by have := hge _ e.symm; omega)
          have hc4 : w4.cell? ⟨w.heap.size, 1, none⟩ = some v := (hq4.cell 1).trans rfl
          have hf4 := hq4.frozen 1
          have hx4 : w4.cell? ⟨w.heap.size + 1, 0, none⟩ = some (.pointer (some ⟨w.heap.size, 0, none⟩)) := (World.cell?_of_block (w := W1) (a := ⟨w.heap.size + 1, 0, none⟩) (hg4.block (w.heap.size + 1) (by omega) (fun e => by have := hge _ e.symm; omega))).trans hx1
          refine hK _ _ ?_
          clear hK K
          try simp only [Act.put, List.setIfInBounds_toArray, List.set_cons_zero, List.set_cons_succ]
          refine wpAny_take (i := 8) (oi := _) (v := ?_) (nth_at rfl) (by kernel_rfl) (by kernel_rfl) (by kernel_rfl) (fun _ _ _ h => h) (Or.inl ⟨by rfl, ?_⟩) ?_
          rotate_left 1
          · intro w; (go_simp <;> with_reducible rfl)
          try simp only [Act.put, List.setIfInBounds_toArray, List.set_cons_zero, List.set_cons_succ]
          refine wpAny_take (i := 9) (oi := _) (v := ?_) (nth_at rfl) (by kernel_rfl) (by kernel_rfl) (by kernel_rfl) (fun _ _ _ h => h) (Or.inl ⟨by rfl, ?_⟩) ?_
          rotate_left 1
          · intro w; (go_simp <;> with_reducible rfl)
          try simp only [Act.put, List.setIfInBounds_toArray, List.set_cons_zero, List.set_cons_succ]
          refine wpAny_ready (rs := [10]) (by kernel_rfl) (by simp) ?_
          refine AllReady.cons (o := _) (nth_at rfl) (fun K hK => ?_) AllReady.nil
          go_simp
          refine hK _ _ ?_
          clear hK K
          try simp only [Act.put, List.setIfInBounds_toArray, List.set_cons_zero, List.set_cons_succ]
          refine wpAny_done (by kernel_rfl) ?_ _
          gi_wp2
          try rw [hz3]
          exact hfin
        refine AllReady.cons (o := _) (nth_at rfl) (fun K hK => ?_) AllReady.nil
        go_simp
        try rw [hW1]
        refine hK _ _ ?_
        clear hK K
        try simp only [Act.put, List.setIfInBounds_toArray, List.set_cons_zero, List.set_cons_succ]
        refine wpAny_ready (rs := [4]) (by kernel_rfl) (by simp) ?_
        refine AllReady.cons (o := _) (nth_at rfl) (fun K hK => ?_) AllReady.nil
        go_simp
        refine hK _ _ ?_
        clear hK K
        try simp only [Act.put, List.setIfInBounds_toArray, List.set_cons_zero, List.set_cons_succ]
        refine wpAny_ready (rs := [7]) (by kernel_rfl) (by simp) ?_
        refine AllReady.cons (o := _) (nth_at rfl) (fun K hK => ?_) AllReady.nil
        rw [if_pos (by rfl)]
        refine wp_append_own W1 _ _ _ rfl (w.heap.size + 3) 40 i0 _ 11 96 Tryz.underlying22 hI hz0 hz1 hz2 rfl (by decide) _ _ _ rfl r1 ⟨W.heap.size, 0, none⟩ 1 1 #[.int .i64 id, .int .i64 l1, .int .u64 S1, .int .i64 i1, .int .i64 l2, .int .u64 S2, .int .i64 i2, .int .i64 bu, .int .i64 k, .int .i64 m, .string ⟨form.toArray⟩].toList rfl rfl (ruBlk_srcs n1) (by simp [Value.oneCell']) (by unfold maxLen; omega) (by omega) (by omega) ?_
        intro v4 w4 h4 hg4 _
        have hfin := hrdH.out W1 w4 v4 hB1 h4 hg4
        obtain ⟨g4, cap4, rfl⟩ := ruOwn_pos h4
        have hq4 := hq1.kept hg4 (fun e => by have := hge _ e.symm; omega)
        have hc4 : w4.cell? ⟨w.heap.size, 1, none⟩ = some v := (hq4.cell 1).trans rfl
        have hf4 := hq4.frozen 1
        have hx4 : w4.cell? ⟨w.heap.size + 1, 0, none⟩ = some (.pointer (some ⟨w.heap.size, 0, none⟩)) := (World.cell?_of_block (w := W1) (a := ⟨w.heap.size + 1, 0, none⟩) (hg4.block (w.heap.size + 1) (by omega) (fun e => by have := hge _ e.symm; omega))).trans hx1
        refine hK _ _ ?_
        clear hK K
        try simp only [Act.put, List.setIfInBounds_toArray, List.set_cons_zero, List.set_cons_succ]
        refine wpAny_take (i := 8) (oi := _) (v := ?_) (nth_at rfl) (by kernel_rfl) (by kernel_rfl) (by kernel_rfl) (fun _ _ _ h => h) (Or.inl ⟨by rfl, ?_⟩) ?_
        rotate_left 1
        · intro w; (go_simp <;> with_reducible rfl)
        try simp only [Act.put, List.setIfInBounds_toArray, List.set_cons_zero, List.set_cons_succ]
        refine wpAny_take (i := 9) (oi := _) (v := ?_) (nth_at rfl) (by kernel_rfl) (by kernel_rfl) (by kernel_rfl) (fun _ _ _ h => h) (Or.inl ⟨by rfl, ?_⟩) ?_
        rotate_left 1
        · intro w; (go_simp <;> with_reducible rfl)
        try simp only [Act.put, List.setIfInBounds_toArray, List.set_cons_zero, List.set_cons_succ]
        refine wpAny_ready (rs := [10]) (by kernel_rfl) (by simp) ?_
        refine AllReady.cons (o := _) (nth_at rfl) (fun K hK => ?_) AllReady.nil
        go_simp
        refine hK _ _ ?_
        clear hK K
        try simp only [Act.put, List.setIfInBounds_toArray, List.set_cons_zero, List.set_cons_succ]
        refine wpAny_done (by kernel_rfl) ?_ _
        gi_wp2
        try rw [hz3]
        exact hfin
      refine AllReady.cons (o := _) (nth_at rfl) (fun K hK => ?_) AllReady.nil
      go_simp
      refine hK _ _ ?_
      clear hK K
      try simp only [Act.put, List.setIfInBounds_toArray, List.set_cons_zero, List.set_cons_succ]
      refine wpAny_ready (rs := [1, 6]) (by kernel_rfl) (by simp) ?_
      refine AllReady.cons (o := _) (nth_at rfl) (fun K hK => ?_) ?_
      · go_simp
        refine hK _ _ ?_
        clear hK K
        try simp only [Act.put, List.setIfInBounds_toArray, List.set_cons_zero, List.set_cons_succ]
        refine wpAny_take (i := 2) (oi := _) (v := ?_) (nth_at rfl) (by kernel_rfl) (by kernel_rfl) (by kernel_rfl) (fun _ _ _ h => h) (Or.inl ⟨by rfl, ?_⟩) ?_
        rotate_left 1
        · intro w; (go_simp <;> with_reducible rfl)
        try simp only [Act.put, List.setIfInBounds_toArray, List.set_cons_zero, List.set_cons_succ]
        refine wpAny_take (i := 3) (oi := _) (v := ?_) (nth_at rfl) (by kernel_rfl) (by kernel_rfl) (by kernel_rfl) (fun _ _ _ h => h) (Or.inl ⟨by rfl, ?_⟩) ?_
        rotate_left 1
        · intro w; (go_simp <;> with_reducible rfl)
        try simp only [Act.put, List.setIfInBounds_toArray, List.set_cons_zero, List.set_cons_succ]
        refine wpAny_ready (rs := [4, 6]) (by kernel_rfl) (by simp) ?_
        refine AllReady.cons (o := _) (nth_at rfl) (fun K hK => ?_) ?_
        · go_simp
          refine hK _ _ ?_
          clear hK K
          try simp only [Act.put, List.setIfInBounds_toArray, List.set_cons_zero, List.set_cons_succ]
          refine wpAny_ready (rs := [6]) (by kernel_rfl) (by simp) ?_
          refine AllReady.cons (o := _) (nth_at rfl) (fun K hK => ?_) AllReady.nil
          go_simp
          try rw [hW1]
          refine hK _ _ ?_
          clear hK K
          try simp only [Act.put, List.setIfInBounds_toArray, List.set_cons_zero, List.set_cons_succ]
          refine wpAny_ready (rs := [7]) (by kernel_rfl) (by simp) ?_
          refine AllReady.cons (o := _) (nth_at rfl) (fun K hK => ?_) AllReady.nil
          rw [if_pos (by rfl)]
          refine wp_append_own W1 _ _ _ rfl (w.heap.size + 3) 40 i0 _ 11 96 Tryz.underlying22 hI hz0 hz1 hz2 rfl (by decide) _ _ _ rfl r1 ⟨W.heap.size, 0, none⟩ 1 1 #[.int .i64 id, .int .i64 l1, .int .u64 S1, .int .i64 i1, .int .i64 l2, .int .u64 S2, .int .i64 i2, .int .i64 bu, .int .i64 k, .int .i64 m, .string ⟨form.toArray⟩].toList rfl rfl (ruBlk_srcs n1) (by simp [Value.oneCell']) (by unfold maxLen; omega) (by omega) (by omega) ?_
          intro v4 w4 h4 hg4 _
          have hfin := hrdH.out W1 w4 v4 hB1 h4 hg4
          obtain ⟨g4, cap4, rfl⟩ := ruOwn_pos h4
          have hq4 := hq1.kept hg4 (fun e => by have := hge _ e.symm; omega)
          have hc4 : w4.cell? ⟨w.heap.size, 1, none⟩ = some v := (hq4.cell 1).trans rfl
          have hf4 := hq4.frozen 1
          have hx4 : w4.cell? ⟨w.heap.size + 1, 0, none⟩ = some (.pointer (some ⟨w.heap.size, 0, none⟩)) := (World.cell?_of_block (w := W1) (a := ⟨w.heap.size + 1, 0, none⟩) (hg4.block (w.heap.size + 1) (by omega) (fun e => by have := hge _ e.symm; omega))).trans hx1
          refine hK _ _ ?_
          clear hK K
          try simp only [Act.put, List.setIfInBounds_toArray, List.set_cons_zero, List.set_cons_succ]
          refine wpAny_take (i := 8) (oi := _) (v := ?_) (nth_at rfl) (by kernel_rfl) (by kernel_rfl) (by kernel_rfl) (fun _ _ _ h => h) (Or.inl ⟨by rfl, ?_⟩) ?_
          rotate_left 1
          · intro w; (go_simp <;> with_reducible rfl)
          try simp only [Act.put, List.setIfInBounds_toArray, List.set_cons_zero, List.set_cons_succ]
          refine wpAny_take (i := 9) (oi := _) (v := ?_) (nth_at rfl) (by kernel_rfl) (by kernel_rfl) (by kernel_rfl) (fun _ _ _ h => h) (Or.inl ⟨by rfl, ?_⟩) ?_
          rotate_left 1
          · intro w; (go_simp <;> with_reducible rfl)
          try simp only [Act.put, List.setIfInBounds_toArray, List.set_cons_zero, List.set_cons_succ]
          refine wpAny_ready (rs := [10]) (by kernel_rfl) (by simp) ?_
          refine AllReady.cons (o := _) (nth_at rfl) (fun K hK => ?_) AllReady.nil
          go_simp
          refine hK _ _ ?_
          clear hK K
          try simp only [Act.put, List.setIfInBounds_toArray, List.set_cons_zero, List.set_cons_succ]
          refine wpAny_done (by kernel_rfl) ?_ _
          gi_wp2
          try rw [hz3]
          exact hfin
        refine AllReady.cons (o := _) (nth_at rfl) (fun K hK => ?_) AllReady.nil
        go_simp
        try rw [hW1]
        refine hK _ _ ?_
        clear hK K
        try simp only [Act.put, List.setIfInBounds_toArray, List.set_cons_zero, List.set_cons_succ]
        refine wpAny_ready (rs := [4]) (by kernel_rfl) (by simp) ?_
        refine AllReady.cons (o := _) (nth_at rfl) (fun K hK => ?_) AllReady.nil
        go_simp
        refine hK _ _ ?_
        clear hK K
        try simp only [Act.put, List.setIfInBounds_toArray, List.set_cons_zero, List.set_cons_succ]
        refine wpAny_ready (rs := [7]) (by kernel_rfl) (by simp) ?_
        refine AllReady.cons (o := _) (nth_at rfl) (fun K hK => ?_) AllReady.nil
        rw [if_pos (by rfl)]
        refine wp_append_own W1 _ _ _ rfl (w.heap.size + 3) 40 i0 _ 11 96 Tryz.underlying22 hI hz0 hz1 hz2 rfl (by decide) _ _ _ rfl r1 ⟨W.heap.size, 0, none⟩ 1 1 #[.int .i64 id, .int .i64 l1, .int .u64 S1, .int .i64 i1, .int .i64 l2, .int .u64 S2, .int .i64 i2, .int .i64 bu, .int .i64 k, .int .i64 m, .string ⟨form.toArray⟩].toList rfl rfl (ruBlk_srcs n1) (by simp [Value.oneCell']) (by unfold maxLen; omega) (by omega) (by omega) ?_
        intro v4 w4 h4 hg4 _
        have hfin := hrdH.out W1 w4 v4 hB1 h4 hg4
        obtain ⟨g4, cap4, rfl⟩ := ruOwn_pos h4
        have hq4 := hq1.kept hg4 (fun e => by have := hge _ e.symm; omega)
        have hc4 : w4.cell? ⟨w.heap.size, 1, none⟩ = some v := (hq4.cell 1).trans rfl
        have hf4 := hq4.frozen 1
        have hx4 : w4.cell? ⟨w.heap.size + 1, 0, none⟩ = some (.pointer (some ⟨w.heap.size, 0, none⟩)) := (World.cell?_of_block (w := W1) (a := ⟨w.heap.size + 1, 0, none⟩) (hg4.block (w.heap.size + 1) (by omega) (fun e => by have := hge _ e.symm; omega))).trans hx1
        refine hK _ _ ?_
        clear hK K
        try simp only [Act.put, List.setIfInBounds_toArray, List.set_cons_zero, List.set_cons_succ]
        refine wpAny_take (i := 8) (oi := _) (v := ?_) (nth_at rfl) (by kernel_rfl) (by kernel_rfl) (by kernel_rfl) (fun _ _ _ h => h) (Or.inl ⟨by rfl, ?_⟩) ?_
        rotate_left 1
        · intro w; (go_simp <;> with_reducible rfl)
        try simp only [Act.put, List.setIfInBounds_toArray, List.set_cons_zero, List.set_cons_succ]
        refine wpAny_take (i := 9) (oi := _) (v := ?_) (nth_at rfl) (by kernel_rfl) (by kernel_rfl) (by kernel_rfl) (fun _ _ _ h => h) (Or.inl ⟨by rfl, ?_⟩) ?_
        rotate_left 1
        · intro w; (go_simp <;> with_reducible rfl)
        try simp only [Act.put, List.setIfInBounds_toArray, List.set_cons_zero, List.set_cons_succ]
        refine wpAny_ready (rs := [10]) (by kernel_rfl) (by simp) ?_
        refine AllReady.cons (o := _) (nth_at rfl) (fun K hK => ?_) AllReady.nil
        go_simp
        refine hK _ _ ?_
        clear hK K
        try simp only [Act.put, List.setIfInBounds_toArray, List.set_cons_zero, List.set_cons_succ]
        refine wpAny_done (by kernel_rfl) ?_ _
        gi_wp2
        try rw [hz3]
        exact hfin
      refine AllReady.cons (o := _) (nth_at rfl) (fun K hK => ?_) AllReady.nil
      go_simp
      try rw [hW1]
      refine hK _ _ ?_
      clear hK K
      try simp only [Act.put, List.setIfInBounds_toArray, List.set_cons_zero, List.set_cons_succ]
      refine wpAny_ready (rs := [1]) (by kernel_rfl) (by simp) ?_
      refine AllReady.cons (o := _) (nth_at rfl) (fun K hK => ?_) AllReady.nil
      go_simp
      refine hK _ _ ?_
      clear hK K
      try simp only [Act.put, List.setIfInBounds_toArray, List.set_cons_zero, List.set_cons_succ]
      refine wpAny_take (i := 2) (oi := _) (v := ?_) (nth_at rfl) (by kernel_rfl) (by kernel_rfl) (by kernel_rfl) (fun _ _ _ h => h) (Or.inl ⟨by rfl, ?_⟩) ?_
      rotate_left 1
      · intro w; (go_simp <;> with_reducible rfl)
      try simp only [Act.put, List.setIfInBounds_toArray, List.set_cons_zero, List.set_cons_succ]
      refine wpAny_take (i := 3) (oi := _) (v := ?_) (nth_at rfl) (by kernel_rfl) (by kernel_rfl) (by kernel_rfl) (fun _ _ _ h => h) (Or.inl ⟨by rfl, ?_⟩) ?_
      rotate_left 1
      · intro w; (go_simp <;> with_reducible rfl)
      try simp only [Act.put, List.setIfInBounds_toArray, List.set_cons_zero, List.set_cons_succ]
      refine wpAny_ready (rs := [4]) (by kernel_rfl) (by simp) ?_
      refine AllReady.cons (o := _) (nth_at rfl) (fun K hK => ?_) AllReady.nil
      go_simp
      refine hK _ _ ?_
      clear hK K
      try simp only [Act.put, List.setIfInBounds_toArray, List.set_cons_zero, List.set_cons_succ]
      refine wpAny_ready (rs := [7]) (by kernel_rfl) (by simp) ?_
      refine AllReady.cons (o := _) (nth_at rfl) (fun K hK => ?_) AllReady.nil
      rw [if_pos (by rfl)]
      refine wp_append_own W1 _ _ _ rfl (w.heap.size + 3) 40 i0 _ 11 96 Tryz.underlying22 hI hz0 hz1 hz2 rfl (by decide) _ _ _ rfl r1 ⟨W.heap.size, 0, none⟩ 1 1 #[.int .i64 id, .int .i64 l1, .int .u64 S1, .int .i64 i1, .int .i64 l2, .int .u64 S2, .int .i64 i2, .int .i64 bu, .int .i64 k, .int .i64 m, .string ⟨form.toArray⟩].toList rfl rfl (ruBlk_srcs n1) (by simp [Value.oneCell']) (by unfold maxLen; omega) (by omega) (by omega) ?_
      intro v4 w4 h4 hg4 _
      have hfin := hrdH.out W1 w4 v4 hB1 h4 hg4
      obtain ⟨g4, cap4, rfl⟩ := ruOwn_pos h4
      have hq4 := hq1.kept hg4 (fun e => by have := hge _ e.symm; omega)
      have hc4 : w4.cell? ⟨w.heap.size, 1, none⟩ = some v := (hq4.cell 1).trans rfl
      have hf4 := hq4.frozen 1
      have hx4 : w4.cell? ⟨w.heap.size + 1, 0, none⟩ = some (.pointer (some ⟨w.heap.size, 0, none⟩)) := (World.cell?_of_block (w := W1) (a := ⟨w.heap.size + 1, 0, none⟩) (hg4.block (w.heap.size + 1) (by omega) (fun e => by have := hge _ e.symm; omega))).trans hx1
      refine hK _ _ ?_
      clear hK K
      try simp only [Act.put, List.setIfInBounds_toArray, List.set_cons_zero, List.set_cons_succ]
      refine wpAny_take (i := 8) (oi := _) (v := ?_) (nth_at rfl) (by kernel_rfl) (by kernel_rfl) (by kernel_rfl) (fun _ _ _ h => h) (Or.inl ⟨by rfl, ?_⟩) ?_
      rotate_left 1
      · intro w; (go_simp <;> with_reducible rfl)
      try simp only [Act.put, List.setIfInBounds_toArray, List.set_cons_zero, List.set_cons_succ]
      refine wpAny_take (i := 9) (oi := _) (v := ?_) (nth_at rfl) (by kernel_rfl) (by kernel_rfl) (by kernel_rfl) (fun _ _ _ h => h) (Or.inl ⟨by rfl, ?_⟩) ?_
      rotate_left 1
      · intro w; (go_simp <;> with_reducible rfl)
      try simp only [Act.put, List.setIfInBounds_toArray, List.set_cons_zero, List.set_cons_succ]
      refine wpAny_ready (rs := [10]) (by kernel_rfl) (by simp) ?_
      refine AllReady.cons (o := _) (nth_at rfl) (fun K hK => ?_) AllReady.nil
      go_simp
      refine hK _ _ ?_
      clear hK K
      try simp only [Act.put, List.setIfInBounds_toArray, List.set_cons_zero, List.set_cons_succ]
      refine wpAny_done (by kernel_rfl) ?_ _
      gi_wp2
      try rw [hz3]
      exact hfin
    refine AllReady.cons (o := _) (nth_at rfl) (fun K hK => ?_) ?_
    · go_simp
      refine hK _ _ ?_
      clear hK K
      try simp only [Act.put, List.setIfInBounds_toArray, List.set_cons_zero, List.set_cons_succ]
      refine wpAny_take (i := 2) (oi := _) (v := ?_) (nth_at rfl) (by kernel_rfl) (by kernel_rfl) (by kernel_rfl) (fun _ _ _ h => h) (Or.inl ⟨by rfl, ?_⟩) ?_
      rotate_left 1
      · intro w; (go_simp <;> with_reducible rfl)
      try simp only [Act.put, List.setIfInBounds_toArray, List.set_cons_zero, List.set_cons_succ]
      refine wpAny_take (i := 3) (oi := _) (v := ?_) (nth_at rfl) (by kernel_rfl) (by kernel_rfl) (by kernel_rfl) (fun _ _ _ h => h) (Or.inl ⟨by rfl, ?_⟩) ?_
      rotate_left 1
      · intro w; (go_simp <;> with_reducible rfl)
      try simp only [Act.put, List.setIfInBounds_toArray, List.set_cons_zero, List.set_cons_succ]
      refine wpAny_ready (rs := [0, 4, 5]) (by kernel_rfl) (by simp) ?_
      refine AllReady.cons (o := _) (nth_at rfl) (fun K hK => ?_) ?_
      · go_simp
        refine hK _ _ ?_
        clear hK K
        try simp only [Act.put, List.setIfInBounds_toArray, List.set_cons_zero, List.set_cons_succ]
        refine wpAny_ready (rs := [4, 5]) (by kernel_rfl) (by simp) ?_
        refine AllReady.cons (o := _) (nth_at rfl) (fun K hK => ?_) ?_
        · go_simp
          refine hK _ _ ?_
          clear hK K
          try simp only [Act.put, List.setIfInBounds_toArray, List.set_cons_zero, List.set_cons_succ]
          refine wpAny_ready (rs := [5]) (by kernel_rfl) (by simp) ?_
          refine AllReady.cons (o := _) (nth_at rfl) (fun K hK => ?_) AllReady.nil
          go_simp
          refine hK _ _ ?_
          clear hK K
          try simp only [Act.put, List.setIfInBounds_toArray, List.set_cons_zero, List.set_cons_succ]
          refine wpAny_ready (rs := [6]) (by kernel_rfl) (by simp) ?_
          refine AllReady.cons (o := _) (nth_at rfl) (fun K hK => ?_) AllReady.nil
          go_simp
          try rw [hW1]
          refine hK _ _ ?_
          clear hK K
          try simp only [Act.put, List.setIfInBounds_toArray, List.set_cons_zero, List.set_cons_succ]
          refine wpAny_ready (rs := [7]) (by kernel_rfl) (by simp) ?_
          refine AllReady.cons (o := _) (nth_at rfl) (fun K hK => ?_) AllReady.nil
          rw [if_pos (by rfl)]
          refine wp_append_own W1 _ _ _ rfl (w.heap.size + 3) 40 i0 _ 11 96 Tryz.underlying22 hI hz0 hz1 hz2 rfl (by decide) _ _ _ rfl r1 ⟨W.heap.size, 0, none⟩ 1 1 #[.int .i64 id, .int .i64 l1, .int .u64 S1, .int .i64 i1, .int .i64 l2, .int .u64 S2, .int .i64 i2, .int .i64 bu, .int .i64 k, .int .i64 m, .string ⟨form.toArray⟩].toList rfl rfl (ruBlk_srcs n1) (by simp [Value.oneCell']) (by unfold maxLen; omega) (by omega) (by omega) ?_
          intro v4 w4 h4 hg4 _
          have hfin := hrdH.out W1 w4 v4 hB1 h4 hg4
          obtain ⟨g4, cap4, rfl⟩ := ruOwn_pos h4
          have hq4 := hq1.kept hg4 (fun e => by have := hge _ e.symm; omega)
          have hc4 : w4.cell? ⟨w.heap.size, 1, none⟩ = some v := (hq4.cell 1).trans rfl
          have hf4 := hq4.frozen 1
          have hx4 : w4.cell? ⟨w.heap.size + 1, 0, none⟩ = some (.pointer (some ⟨w.heap.size, 0, none⟩)) := (World.cell?_of_block (w := W1) (a := ⟨w.heap.size + 1, 0, none⟩) (hg4.block (w.heap.size + 1) (by omega) (fun e => by have := hge _ e.symm; omega))).trans hx1
          refine hK _ _ ?_
          clear hK K
          try simp only [Act.put, List.setIfInBounds_toArray, List.set_cons_zero, List.set_cons_succ]
          refine wpAny_take (i := 8) (oi := _) (v := ?_) (nth_at rfl) (by kernel_rfl) (by kernel_rfl) (by kernel_rfl) (fun _ _ _ h => h) (Or.inl ⟨by rfl, ?_⟩) ?_
          rotate_left 1
          · intro w; (go_simp <;> with_reducible rfl)
          try simp only [Act.put, List.setIfInBounds_toArray, List.set_cons_zero, List.set_cons_succ]
          refine wpAny_take (i := 9) (oi := _) (v := ?_) (nth_at rfl) (by kernel_rfl) (by kernel_rfl) (by kernel_rfl) (fun _ _ _ h => h) (Or.inl ⟨by rfl, ?_⟩) ?_
          rotate_left 1
          · intro w; (go_simp <;> with_reducible rfl)
          try simp only [Act.put, List.setIfInBounds_toArray, List.set_cons_zero, List.set_cons_succ]
          refine wpAny_ready (rs := [10]) (by kernel_rfl) (by simp) ?_
          refine AllReady.cons (o := _) (nth_at rfl) (fun K hK => ?_) AllReady.nil
          go_simp
          refine hK _ _ ?_
          clear hK K
          try simp only [Act.put, List.setIfInBounds_toArray, List.set_cons_zero, List.set_cons_succ]
          refine wpAny_done (by kernel_rfl) ?_ _
          gi_wp2
          try rw [hz3]
          exact hfin
        refine AllReady.cons (o := _) (nth_at rfl) (fun K hK => ?_) AllReady.nil
        go_simp
        refine hK _ _ ?_
        clear hK K
        try simp only [Act.put, List.setIfInBounds_toArray, List.set_cons_zero, List.set_cons_succ]
        refine wpAny_ready (rs := [4, 6]) (by kernel_rfl) (by simp) ?_
        refine AllReady.cons (o := _) (nth_at rfl) (fun K hK => ?_) ?_
        · go_simp
          refine hK _ _ ?_
          clear hK K
          try simp only [Act.put, List.setIfInBounds_toArray, List.set_cons_zero, List.set_cons_succ]
          refine wpAny_ready (rs := [6]) (by kernel_rfl) (by simp) ?_
          refine AllReady.cons (o := _) (nth_at rfl) (fun K hK => ?_) AllReady.nil
          go_simp
          try rw [hW1]
          refine hK _ _ ?_
          clear hK K
          try simp only [Act.put, List.setIfInBounds_toArray, List.set_cons_zero, List.set_cons_succ]
          refine wpAny_ready (rs := [7]) (by kernel_rfl) (by simp) ?_
          refine AllReady.cons (o := _) (nth_at rfl) (fun K hK => ?_) AllReady.nil
          rw [if_pos (by rfl)]
          refine wp_append_own W1 _ _ _ rfl (w.heap.size + 3) 40 i0 _ 11 96 Tryz.underlying22 hI hz0 hz1 hz2 rfl (by decide) _ _ _ rfl r1 ⟨W.heap.size, 0, none⟩ 1 1 #[.int .i64 id, .int .i64 l1, .int .u64 S1, .int .i64 i1, .int .i64 l2, .int .u64 S2, .int .i64 i2, .int .i64 bu, .int .i64 k, .int .i64 m, .string ⟨form.toArray⟩].toList rfl rfl (ruBlk_srcs n1) (by simp [Value.oneCell']) (by unfold maxLen; omega) (by omega) (by omega) ?_
          intro v4 w4 h4 hg4 _
          have hfin := hrdH.out W1 w4 v4 hB1 h4 hg4
          obtain ⟨g4, cap4, rfl⟩ := ruOwn_pos h4
          have hq4 := hq1.kept hg4 (fun e => by have := hge _ e.symm; omega)
          have hc4 : w4.cell? ⟨w.heap.size, 1, none⟩ = some v := (hq4.cell 1).trans rfl
          have hf4 := hq4.frozen 1
          have hx4 : w4.cell? ⟨w.heap.size + 1, 0, none⟩ = some (.pointer (some ⟨w.heap.size, 0, none⟩)) := (World.cell?_of_block (w := W1) (a := ⟨w.heap.size + 1, 0, none⟩) (hg4.block (w.heap.size + 1) (by omega) (fun e => by have := hge _ e.symm; omega))).trans hx1
          refine hK _ _ ?_
          clear hK K
          try simp only [Act.put, List.setIfInBounds_toArray, List.set_cons_zero, List.set_cons_succ]
          refine wpAny_take (i := 8) (oi := _) (v := ?_) (nth_at rfl) (by kernel_rfl) (by kernel_rfl) (by kernel_rfl) (fun _ _ _ h => h) (Or.inl ⟨by rfl, ?_⟩) ?_
          rotate_left 1
          · intro w; (go_simp <;> with_reducible rfl)
          try simp only [Act.put, List.setIfInBounds_toArray, List.set_cons_zero, List.set_cons_succ]
          refine wpAny_take (i := 9) (oi := _) (v := ?_) (nth_at rfl) (by kernel_rfl) (by kernel_rfl) (by kernel_rfl) (fun _ _ _ h => h) (Or.inl ⟨by rfl, ?_⟩) ?_
          rotate_left 1
          · intro w; (go_simp <;> with_reducible rfl)
          try simp only [Act.put, List.setIfInBounds_toArray, List.set_cons_zero, List.set_cons_succ]
          refine wpAny_ready (rs := [10]) (by kernel_rfl) (by simp) ?_
          refine AllReady.cons (o := _) (nth_at rfl) (fun K hK => ?_) AllReady.nil
          go_simp
          refine hK _ _ ?_
          clear hK K
          try simp only [Act.put, List.setIfInBounds_toArray, List.set_cons_zero, List.set_cons_succ]
          refine wpAny_done (by kernel_rfl) ?_ _
          gi_wp2
          try rw [hz3]
          exact hfin
        refine AllReady.cons (o := _) (nth_at rfl) (fun K hK => ?_) AllReady.nil
        go_simp
        try rw [hW1]
        refine hK _ _ ?_
        clear hK K
        try simp only [Act.put, List.setIfInBounds_toArray, List.set_cons_zero, List.set_cons_succ]
        refine wpAny_ready (rs := [4]) (by kernel_rfl) (by simp) ?_
        refine AllReady.cons (o := _) (nth_at rfl) (fun K hK => ?_) AllReady.nil
        go_simp
        refine hK _ _ ?_
        clear hK K
        try simp only [Act.put, List.setIfInBounds_toArray, List.set_cons_zero, List.set_cons_succ]
        refine wpAny_ready (rs := [7]) (by kernel_rfl) (by simp) ?_
        refine AllReady.cons (o := _) (nth_at rfl) (fun K hK => ?_) AllReady.nil
        rw [if_pos (by rfl)]
        refine wp_append_own W1 _ _ _ rfl (w.heap.size + 3) 40 i0 _ 11 96 Tryz.underlying22 hI hz0 hz1 hz2 rfl (by decide) _ _ _ rfl r1 ⟨W.heap.size, 0, none⟩ 1 1 #[.int .i64 id, .int .i64 l1, .int .u64 S1, .int .i64 i1, .int .i64 l2, .int .u64 S2, .int .i64 i2, .int .i64 bu, .int .i64 k, .int .i64 m, .string ⟨form.toArray⟩].toList rfl rfl (ruBlk_srcs n1) (by simp [Value.oneCell']) (by unfold maxLen; omega) (by omega) (by omega) ?_
        intro v4 w4 h4 hg4 _
        have hfin := hrdH.out W1 w4 v4 hB1 h4 hg4
        obtain ⟨g4, cap4, rfl⟩ := ruOwn_pos h4
        have hq4 := hq1.kept hg4 (fun e => by have := hge _ e.symm; omega)
        have hc4 : w4.cell? ⟨w.heap.size, 1, none⟩ = some v := (hq4.cell 1).trans rfl
        have hf4 := hq4.frozen 1
        have hx4 : w4.cell? ⟨w.heap.size + 1, 0, none⟩ = some (.pointer (some ⟨w.heap.size, 0, none⟩)) := (World.cell?_of_block (w := W1) (a := ⟨w.heap.size + 1, 0, none⟩) (hg4.block (w.heap.size + 1) (by omega) (fun e => by have := hge _ e.symm; omega))).trans hx1
        refine hK _ _ ?_
        clear hK K
        try simp only [Act.put, List.setIfInBounds_toArray, List.set_cons_zero, List.set_cons_succ]
        refine wpAny_take (i := 8) (oi := _) (v := ?_) (nth_at rfl) (by kernel_rfl) (by kernel_rfl) (by kernel_rfl) (fun _ _ _ h => h) (Or.inl ⟨by rfl, ?_⟩) ?_
        rotate_left 1
        · intro w; (go_simp <;> with_reducible rfl)
        try simp only [Act.put, List.setIfInBounds_toArray, List.set_cons_zero, List.set_cons_succ]
        refine wpAny_take (i := 9) (oi := _) (v := ?_) (nth_at rfl) (by kernel_rfl) (by kernel_rfl) (by kernel_rfl) (fun _ _ _ h => h) (Or.inl ⟨by rfl, ?_⟩) ?_
        rotate_left 1
        · intro w; (go_simp <;> with_reducible rfl)
        try simp only [Act.put, List.setIfInBounds_toArray, List.set_cons_zero, List.set_cons_succ]
        refine wpAny_ready (rs := [10]) (by kernel_rfl) (by simp) ?_
        refine AllReady.cons (o := _) (nth_at rfl) (fun K hK => ?_) AllReady.nil
        go_simp
        refine hK _ _ ?_
        clear hK K
        try simp only [Act.put, List.setIfInBounds_toArray, List.set_cons_zero, List.set_cons_succ]
        refine wpAny_done (by kernel_rfl) ?_ _
        gi_wp2
        try rw [hz3]
        exact hfin
      refine AllReady.cons (o := _) (nth_at rfl) (fun K hK => ?_) ?_
      · go_simp
        refine hK _ _ ?_
        clear hK K
        try simp only [Act.put, List.setIfInBounds_toArray, List.set_cons_zero, List.set_cons_succ]
        refine wpAny_ready (rs := [0, 5]) (by kernel_rfl) (by simp) ?_
        refine AllReady.cons (o := _) (nth_at rfl) (fun K hK => ?_) ?_
        · go_simp
          refine hK _ _ ?_
          clear hK K
          try simp only [Act.put, List.setIfInBounds_toArray, List.set_cons_zero, List.set_cons_succ]
          refine wpAny_ready (rs := [5]) (by kernel_rfl) (by simp) ?_
          refine AllReady.cons (o := _) (nth_at rfl) (fun K hK => ?_) AllReady.nil
          go_simp
          refine hK _ _ ?_
          clear hK K
          try simp only [Act.put, List.setIfInBounds_toArray, List.set_cons_zero, List.set_cons_succ]
          refine wpAny_ready (rs := [6]) (by kernel_rfl) (by simp) ?_
          refine AllReady.cons (o := _) (nth_at rfl) (fun K hK => ?_) AllReady.nil
          go_simp
          try rw [hW1]
          refine hK _ _ ?_
          clear hK K
          try simp only [Act.put, List.setIfInBounds_toArray, List.set_cons_zero, List.set_cons_succ]
          refine wpAny_ready (rs := [7]) (by kernel_rfl) (by simp) ?_
          refine AllReady.cons (o := _) (nth_at rfl) (fun K hK => ?_) AllReady.nil
          rw [if_pos (by rfl)]
          refine wp_append_own W1 _ _ _ rfl (w.heap.size + 3) 40 i0 _ 11 96 Tryz.underlying22 hI hz0 hz1 hz2 rfl (by decide) _ _ _ rfl r1 ⟨W.heap.size, 0, none⟩ 1 1 #[.int .i64 id, .int .i64 l1, .int .u64 S1, .int .i64 i1, .int .i64 l2, .int .u64 S2, .int .i64 i2, .int .i64 bu, .int .i64 k, .int .i64 m, .string ⟨form.toArray⟩].toList rfl rfl (ruBlk_srcs n1) (by simp [Value.oneCell']) (by unfold maxLen; omega) (by omega) (by omega) ?_
          intro v4 w4 h4 hg4 _
          have hfin := hrdH.out W1 w4 v4 hB1 h4 hg4
          obtain ⟨g4, cap4, rfl⟩ := ruOwn_pos h4
          have hq4 := hq1.kept hg4 (fun e => by have := hge _ e.symm; omega)
          have hc4 : w4.cell? ⟨w.heap.size, 1, none⟩ = some v := (hq4.cell 1).trans rfl
          have hf4 := hq4.frozen 1
          have hx4 : w4.cell? ⟨w.heap.size + 1, 0, none⟩ = some (.pointer (some ⟨w.heap.size, 0, none⟩)) := (World.cell?_of_block (w := W1) (a := ⟨w.heap.size + 1, 0, none⟩) (hg4.block (w.heap.size + 1) (by omega) (fun e => by have := hge _ e.symm; omega))).trans hx1
          refine hK _ _ ?_
          clear hK K
          try simp only [Act.put, List.setIfInBounds_toArray, List.set_cons_zero, List.set_cons_succ]
          refine wpAny_take (i := 8) (oi := _) (v := ?_) (nth_at rfl) (by kernel_rfl) (by kernel_rfl) (by kernel_rfl) (fun _ _ _ h => h) (Or.inl ⟨by rfl, ?_⟩) ?_
          rotate_left 1
          · intro w; (go_simp <;> with_reducible rfl)
          try simp only [Act.put, List.setIfInBounds_toArray, List.set_cons_zero, List.set_cons_succ]
          refine wpAny_take (i := 9) (oi := _) (v := ?_) (nth_at rfl) (by kernel_rfl) (by kernel_rfl) (by kernel_rfl) (fun _ _ _ h => h) (Or.inl ⟨by rfl, ?_⟩) ?_
          rotate_left 1
          · intro w; (go_simp <;> with_reducible rfl)
          try simp only [Act.put, List.setIfInBounds_toArray, List.set_cons_zero, List.set_cons_succ]
          refine wpAny_ready (rs := [10]) (by kernel_rfl) (by simp) ?_
          refine AllReady.cons (o := _) (nth_at rfl) (fun K hK => ?_) AllReady.nil
          go_simp
          refine hK _ _ ?_
          clear hK K
          try simp only [Act.put, List.setIfInBounds_toArray, List.set_cons_zero, List.set_cons_succ]
          refine wpAny_done (by kernel_rfl) ?_ _
          gi_wp2
          try rw [hz3]
          exact hfin
        refine AllReady.cons (o := _) (nth_at rfl) (fun K hK => ?_) AllReady.nil
        go_simp
        refine hK _ _ ?_
        clear hK K
        try simp only [Act.put, List.setIfInBounds_toArray, List.set_cons_zero, List.set_cons_succ]
        refine wpAny_ready (rs := [0, 6]) (by kernel_rfl) (by simp) ?_
        refine AllReady.cons (o := _) (nth_at rfl) (fun K hK => ?_) ?_
        · go_simp
          refine hK _ _ ?_
          clear hK K
          try simp only [Act.put, List.setIfInBounds_toArray, List.set_cons_zero, List.set_cons_succ]
          refine wpAny_ready (rs := [6]) (by kernel_rfl) (by simp) ?_
          refine AllReady.cons (o := _) (nth_at rfl) (fun K hK => ?_) AllReady.nil
          go_simp
          try rw [hW1]
          refine hK _ _ ?_
          clear hK K
          try simp only [Act.put, List.setIfInBounds_toArray, List.set_cons_zero, List.set_cons_succ]
          refine wpAny_ready (rs := [7]) (by kernel_rfl) (by simp) ?_
          refine AllReady.cons (o := _) (nth_at rfl) (fun K hK => ?_) AllReady.nil
          rw [if_pos (by rfl)]
          refine wp_append_own W1 _ _ _ rfl (w.heap.size + 3) 40 i0 _ 11 96 Tryz.underlying22 hI hz0 hz1 hz2 rfl (by decide) _ _ _ rfl r1 ⟨W.heap.size, 0, none⟩ 1 1 #[.int .i64 id, .int .i64 l1, .int .u64 S1, .int .i64 i1, .int .i64 l2, .int .u64 S2, .int .i64 i2, .int .i64 bu, .int .i64 k, .int .i64 m, .string ⟨form.toArray⟩].toList rfl rfl (ruBlk_srcs n1) (by simp [Value.oneCell']) (by unfold maxLen; omega) (by omega) (by omega) ?_
          intro v4 w4 h4 hg4 _
          have hfin := hrdH.out W1 w4 v4 hB1 h4 hg4
          obtain ⟨g4, cap4, rfl⟩ := ruOwn_pos h4
          have hq4 := hq1.kept hg4 (fun e => by have := hge _ e.symm; omega)
          have hc4 : w4.cell? ⟨w.heap.size, 1, none⟩ = some v := (hq4.cell 1).trans rfl
          have hf4 := hq4.frozen 1
          have hx4 : w4.cell? ⟨w.heap.size + 1, 0, none⟩ = some (.pointer (some ⟨w.heap.size, 0, none⟩)) := (World.cell?_of_block (w := W1) (a := ⟨w.heap.size + 1, 0, none⟩) (hg4.block (w.heap.size + 1) (by omega) (fun e => by have := hge _ e.symm; omega))).trans hx1
          refine hK _ _ ?_
          clear hK K
          try simp only [Act.put, List.setIfInBounds_toArray, List.set_cons_zero, List.set_cons_succ]
          refine wpAny_take (i := 8) (oi := _) (v := ?_) (nth_at rfl) (by kernel_rfl) (by kernel_rfl) (by kernel_rfl) (fun _ _ _ h => h) (Or.inl ⟨by rfl, ?_⟩) ?_
          rotate_left 1
          · intro w; (go_simp <;> with_reducible rfl)
          try simp only [Act.put, List.setIfInBounds_toArray, List.set_cons_zero, List.set_cons_succ]
          refine wpAny_take (i := 9) (oi := _) (v := ?_) (nth_at rfl) (by kernel_rfl) (by kernel_rfl) (by kernel_rfl) (fun _ _ _ h => h) (Or.inl ⟨by rfl, ?_⟩) ?_
          rotate_left 1
          · intro w; (go_simp <;> with_reducible rfl)
          try simp only [Act.put, List.setIfInBounds_toArray, List.set_cons_zero, List.set_cons_succ]
          refine wpAny_ready (rs := [10]) (by kernel_rfl) (by simp) ?_
          refine AllReady.cons (o := _) (nth_at rfl) (fun K hK => ?_) AllReady.nil
          go_simp
          refine hK _ _ ?_
          clear hK K
          try simp only [Act.put, List.setIfInBounds_toArray, List.set_cons_zero, List.set_cons_succ]
          refine wpAny_done (by kernel_rfl) ?_ _
          gi_wp2
          try rw [hz3]
          exact hfin
        refine AllReady.cons (o := _) (nth_at rfl) (fun K hK => ?_) AllReady.nil
        go_simp
        try rw [hW1]
        refine hK _ _ ?_
        clear hK K
        try simp only [Act.put, List.setIfInBounds_toArray, List.set_cons_zero, List.set_cons_succ]
        refine wpAny_ready (rs := [0, 7]) (by kernel_rfl) (by simp) ?_
        refine AllReady.cons (o := _) (nth_at rfl) (fun K hK => ?_) ?_
        · go_simp
          refine hK _ _ ?_
          clear hK K
          try simp only [Act.put, List.setIfInBounds_toArray, List.set_cons_zero, List.set_cons_succ]
          refine wpAny_ready (rs := [7]) (by kernel_rfl) (by simp) ?_
          refine AllReady.cons (o := _) (nth_at rfl) (fun K hK => ?_) AllReady.nil
          rw [if_pos (by rfl)]
          refine wp_append_own W1 _ _ _ rfl (w.heap.size + 3) 40 i0 _ 11 96 Tryz.underlying22 hI hz0 hz1 hz2 rfl (by decide) _ _ _ rfl r1 ⟨W.heap.size, 0, none⟩ 1 1 #[.int .i64 id, .int .i64 l1, .int .u64 S1, .int .i64 i1, .int .i64 l2, .int .u64 S2, .int .i64 i2, .int .i64 bu, .int .i64 k, .int .i64 m, .string ⟨form.toArray⟩].toList rfl rfl (ruBlk_srcs n1) (by simp [Value.oneCell']) (by unfold maxLen; omega) (by omega) (by omega) ?_
          intro v4 w4 h4 hg4 _
          have hfin := hrdH.out W1 w4 v4 hB1 h4 hg4
          obtain ⟨g4, cap4, rfl⟩ := ruOwn_pos h4
          have hq4 := hq1.kept hg4 (fun e => by have := hge _ e.symm; omega)
          have hc4 : w4.cell? ⟨w.heap.size, 1, none⟩ = some v := (hq4.cell 1).trans rfl
          have hf4 := hq4.frozen 1
          have hx4 : w4.cell? ⟨w.heap.size + 1, 0, none⟩ = some (.pointer (some ⟨w.heap.size, 0, none⟩)) := (World.cell?_of_block (w := W1) (a := ⟨w.heap.size + 1, 0, none⟩) (hg4.block (w.heap.size + 1) (by omega) (fun e => by have := hge _ e.symm; omega))).trans hx1
          refine hK _ _ ?_
          clear hK K
          try simp only [Act.put, List.setIfInBounds_toArray, List.set_cons_zero, List.set_cons_succ]
          refine wpAny_take (i := 8) (oi := _) (v := ?_) (nth_at rfl) (by kernel_rfl) (by kernel_rfl) (by kernel_rfl) (fun _ _ _ h => h) (Or.inl ⟨by rfl, ?_⟩) ?_
          rotate_left 1
          · intro w; (go_simp <;> with_reducible rfl)
          try simp only [Act.put, List.setIfInBounds_toArray, List.set_cons_zero, List.set_cons_succ]
          refine wpAny_take (i := 9) (oi := _) (v := ?_) (nth_at rfl) (by kernel_rfl) (by kernel_rfl) (by kernel_rfl) (fun _ _ _ h => h) (Or.inl ⟨by rfl, ?_⟩) ?_
          rotate_left 1
          · intro w; (go_simp <;> with_reducible rfl)
          try simp only [Act.put, List.setIfInBounds_toArray, List.set_cons_zero, List.set_cons_succ]
          refine wpAny_ready (rs := [10]) (by kernel_rfl) (by simp) ?_
          refine AllReady.cons (o := _) (nth_at rfl) (fun K hK => ?_) AllReady.nil
          go_simp
          refine hK _ _ ?_
          clear hK K
          try simp only [Act.put, List.setIfInBounds_toArray, List.set_cons_zero, List.set_cons_succ]
          refine wpAny_done (by kernel_rfl) ?_ _
          gi_wp2
          try rw [hz3]
          exact hfin
        refine AllReady.cons (o := _) (nth_at rfl) (fun K hK => ?_) AllReady.nil
        rw [if_pos (by rfl)]
        refine wp_append_own W1 _ _ _ rfl (w.heap.size + 3) 40 i0 _ 11 96 Tryz.underlying22 hI hz0 hz1 hz2 rfl (by decide) _ _ _ rfl r1 ⟨W.heap.size, 0, none⟩ 1 1 #[.int .i64 id, .int .i64 l1, .int .u64 S1, .int .i64 i1, .int .i64 l2, .int .u64 S2, .int .i64 i2, .int .i64 bu, .int .i64 k, .int .i64 m, .string ⟨form.toArray⟩].toList rfl rfl (ruBlk_srcs n1) (by simp [Value.oneCell']) (by unfold maxLen; omega) (by omega) (by omega) ?_
        intro v4 w4 h4 hg4 _
        have hfin := hrdH.out W1 w4 v4 hB1 h4 hg4
        obtain ⟨g4, cap4, rfl⟩ := ruOwn_pos h4
        have hq4 := hq1.kept hg4 (fun e => by have := hge _ e.symm; omega)
        have hc4 : w4.cell? ⟨w.heap.size, 1, none⟩ = some v := (hq4.cell 1).trans rfl
        have hf4 := hq4.frozen 1
        have hx4 : w4.cell? ⟨w.heap.size + 1, 0, none⟩ = some (.pointer (some ⟨w.heap.size, 0, none⟩)) := (World.cell?_of_block (w := W1) (a := ⟨w.heap.size + 1, 0, none⟩) (hg4.block (w.heap.size + 1) (by omega) (fun e => by have := hge _ e.symm; omega))).trans hx1
        refine hK _ _ ?_
        clear hK K
        try simp only [Act.put, List.setIfInBounds_toArray, List.set_cons_zero, List.set_cons_succ]
        refine wpAny_ready (rs := [0]) (by kernel_rfl) (by simp) ?_
        refine AllReady.cons (o := _) (nth_at rfl) (fun K hK => ?_) AllReady.nil
        go_simp
        refine hK _ _ ?_
        clear hK K
        try simp only [Act.put, List.setIfInBounds_toArray, List.set_cons_zero, List.set_cons_succ]
        refine wpAny_take (i := 8) (oi := _) (v := ?_) (nth_at rfl) (by kernel_rfl) (by kernel_rfl) (by kernel_rfl) (fun _ _ _ h => h) (Or.inl ⟨by rfl, ?_⟩) ?_
        rotate_left 1
        · intro w; (go_simp <;> with_reducible rfl)
        try simp only [Act.put, List.setIfInBounds_toArray, List.set_cons_zero, List.set_cons_succ]
        refine wpAny_take (i := 9) (oi := _) (v := ?_) (nth_at rfl) (by kernel_rfl) (by kernel_rfl) (by kernel_rfl) (fun _ _ _ h => h) (Or.inl ⟨by rfl, ?_⟩) ?_
        rotate_left 1
        · intro w; (go_simp <;> with_reducible rfl)
        try simp only [Act.put, List.setIfInBounds_toArray, List.set_cons_zero, List.set_cons_succ]
        refine wpAny_ready (rs := [10]) (by kernel_rfl) (by simp) ?_
        refine AllReady.cons (o := _) (nth_at rfl) (fun K hK => ?_) AllReady.nil
        go_simp
        refine hK _ _ ?_
        clear hK K
        try simp only [Act.put, List.setIfInBounds_toArray, List.set_cons_zero, List.set_cons_succ]
        refine wpAny_done (by kernel_rfl) ?_ _
        gi_wp2
        try rw [hz3]
        exact hfin
      refine AllReady.cons (o := _) (nth_at rfl) (fun K hK => ?_) AllReady.nil
      go_simp
      refine hK _ _ ?_
      clear hK K
      try simp only [Act.put, List.setIfInBounds_toArray, List.set_cons_zero, List.set_cons_succ]
      refine wpAny_ready (rs := [0, 4, 6]) (by kernel_rfl) (by simp) ?_
      refine AllReady.cons (o := _) (nth_at rfl) (fun K hK => ?_) ?_
      · go_simp
        refine hK _ _ ?_
        clear hK K
        try simp only [Act.put, List.setIfInBounds_toArray, List.set_cons_zero, List.set_cons_succ]
        refine wpAny_ready (rs := [4, 6]) (by kernel_rfl) (by simp) ?_
        refine AllReady.cons (o := _) (nth_at rfl) (fun K hK => ?_) ?_
        · go_simp
          refine hK _ _ ?_
          clear hK K
          try simp only [Act.put, List.setIfInBounds_toArray, List.set_cons_zero, List.set_cons_succ]
          refine wpAny_ready (rs := [6]) (by kernel_rfl) (by simp) ?_
          refine AllReady.cons (o := _) (nth_at rfl) (fun K hK => ?_) AllReady.nil
          go_simp
          try rw [hW1]
          refine hK _ _ ?_
          clear hK K
          try simp only [Act.put, List.setIfInBounds_toArray, List.set_cons_zero, List.set_cons_succ]
          refine wpAny_ready (rs := [7]) (by kernel_rfl) (by simp) ?_
          refine AllReady.cons (o := _) (nth_at rfl) (fun K hK => ?_) AllReady.nil
          rw [if_pos (by rfl)]
          refine wp_append_own W1 _ _ _ rfl (w.heap.size + 3) 40 i0 _ 11 96 Tryz.underlying22 hI hz0 hz1 hz2 rfl (by decide) _ _ _ rfl r1 ⟨W.heap.size, 0, none⟩ 1 1 #[.int .i64 id, .int .i64 l1, .int .u64 S1, .int .i64 i1, .int .i64 l2, .int .u64 S2, .int .i64 i2, .int .i64 bu, .int .i64 k, .int .i64 m, .string ⟨form.toArray⟩].toList rfl rfl (ruBlk_srcs n1) (by simp [Value.oneCell']) (by unfold maxLen; omega) (by omega) (by omega) ?_
          intro v4 w4 h4 hg4 _
          have hfin := hrdH.out W1 w4 v4 hB1 h4 hg4
          obtain ⟨g4, cap4, rfl⟩ := ruOwn_pos h4
          have hq4 := hq1.kept hg4 (fun e => by have := hge _ e.symm; omega)
          have hc4 : w4.cell? ⟨w.heap.size, 1, none⟩ = some v := (hq4.cell 1).trans rfl
          have hf4 := hq4.frozen 1
          have hx4 : w4.cell? ⟨w.heap.size + 1, 0, none⟩ = some (.pointer (some ⟨w.heap.size, 0, none⟩)) := (World.cell?_of_block (w := W1) (a := ⟨w.heap.size + 1, 0, none⟩) (hg4.block (w.heap.size + 1) (by omega) (fun e => by have := hge _ e.symm; omega))).trans hx1
          refine hK _ _ ?_
          clear hK K
          try simp only [Act.put, List.setIfInBounds_toArray, List.set_cons_zero, List.set_cons_succ]
          refine wpAny_take (i := 8) (oi := _) (v := ?_) (nth_at rfl) (by kernel_rfl) (by kernel_rfl) (by kernel_rfl) (fun _ _ _ h => h) (Or.inl ⟨by rfl, ?_⟩) ?_
          rotate_left 1
          · intro w; (go_simp <;> with_reducible rfl)
          try simp only [Act.put, List.setIfInBounds_toArray, List.set_cons_zero, List.set_cons_succ]
          refine wpAny_take (i := 9) (oi := _) (v := ?_) (nth_at rfl) (by kernel_rfl) (by kernel_rfl) (by kernel_rfl) (fun _ _ _ h => h) (Or.inl ⟨by rfl, ?_⟩) ?_
          rotate_left 1
          · intro w; (go_simp <;> with_reducible rfl)
          try simp only [Act.put, List.setIfInBounds_toArray, List.set_cons_zero, List.set_cons_succ]
          refine wpAny_ready (rs := [10]) (by kernel_rfl) (by simp) ?_
          refine AllReady.cons (o := _) (nth_at rfl) (fun K hK => ?_) AllReady.nil
          go_simp
          refine hK _ _ ?_
          clear hK K
          try simp only [Act.put, List.setIfInBounds_toArray, List.set_cons_zero, List.set_cons_succ]
          refine wpAny_done (by kernel_rfl) ?_ _
          gi_wp2
          try rw [hz3]
          exact hfin
        refine AllReady.cons (o := _) (nth_at rfl) (fun K hK => ?_) AllReady.nil
        go_simp
        try rw [hW1]
        refine hK _ _ ?_
        clear hK K
        try simp only [Act.put, List.setIfInBounds_toArray, List.set_cons_zero, List.set_cons_succ]
        refine wpAny_ready (rs := [4]) (by kernel_rfl) (by simp) ?_
        refine AllReady.cons (o := _) (nth_at rfl) (fun K hK => ?_) AllReady.nil
        go_simp
        refine hK _ _ ?_
        clear hK K
        try simp only [Act.put, List.setIfInBounds_toArray, List.set_cons_zero, List.set_cons_succ]
        refine wpAny_ready (rs := [7]) (by kernel_rfl) (by simp) ?_
        refine AllReady.cons (o := _) (nth_at rfl) (fun K hK => ?_) AllReady.nil
        rw [if_pos (by rfl)]
        refine wp_append_own W1 _ _ _ rfl (w.heap.size + 3) 40 i0 _ 11 96 Tryz.underlying22 hI hz0 hz1 hz2 rfl (by decide) _ _ _ rfl r1 ⟨W.heap.size, 0, none⟩ 1 1 #[.int .i64 id, .int .i64 l1, .int .u64 S1, .int .i64 i1, .int .i64 l2, .int .u64 S2, .int .i64 i2, .int .i64 bu, .int .i64 k, .int .i64 m, .string ⟨form.toArray⟩].toList rfl rfl (ruBlk_srcs n1) (by simp [Value.oneCell']) (by unfold maxLen; omega) (by omega) (by omega) ?_
        intro v4 w4 h4 hg4 _
        have hfin := hrdH.out W1 w4 v4 hB1 h4 hg4
        obtain ⟨g4, cap4, rfl⟩ := ruOwn_pos h4
        have hq4 := hq1.kept hg4 (fun e => by have := hge _ e.symm; omega)
        have hc4 : w4.cell? ⟨w.heap.size, 1, none⟩ = some v := (hq4.cell 1).trans rfl
        have hf4 := hq4.frozen 1
        have hx4 : w4.cell? ⟨w.heap.size + 1, 0, none⟩ = some (.pointer (some ⟨w.heap.size, 0, none⟩)) := (World.cell?_of_block (w := W1) (a := ⟨w.heap.size + 1, 0, none⟩) (hg4.block (w.heap.size + 1) (by omega) (fun e => by have := hge _ e.symm; omega))).trans hx1
        refine hK _ _ ?_
        clear hK K
        try simp only [Act.put, List.setIfInBounds_toArray, List.set_cons_zero, List.set_cons_succ]
        refine wpAny_take (i := 8) (oi := _) (v := ?_) (nth_at rfl) (by kernel_rfl) (by kernel_rfl) (by kernel_rfl) (fun _ _ _ h => h) (Or.inl ⟨by rfl, ?_⟩) ?_
        rotate_left 1
        · intro w; (go_simp <;> with_reducible rfl)
        try simp only [Act.put, List.setIfInBounds_toArray, List.set_cons_zero, List.set_cons_succ]
        refine wpAny_take (i := 9) (oi := _) (v := ?_) (nth_at rfl) (by kernel_rfl) (by kernel_rfl) (by kernel_rfl) (fun _ _ _ h => h) (Or.inl ⟨by rfl, ?_⟩) ?_
        rotate_left 1
        · intro w; (go_simp <;> with_reducible rfl)
        try simp only [Act.put, List.setIfInBounds_toArray, List.set_cons_zero, List.set_cons_succ]
        refine wpAny_ready (rs := [10]) (by kernel_rfl) (by simp) ?_
        refine AllReady.cons (o := _) (nth_at rfl) (fun K hK => ?_) AllReady.nil
        go_simp
        refine hK _ _ ?_
        clear hK K
        try simp only [Act.put, List.setIfInBounds_toArray, List.set_cons_zero, List.set_cons_succ]
        refine wpAny_done (by kernel_rfl) ?_ _
        gi_wp2
        try rw [hz3]
        exact hfin
      refine AllReady.cons (o := _) (nth_at rfl) (fun K hK => ?_) ?_
      · go_simp
        refine hK _ _ ?_
        clear hK K
        try simp only [Act.put, List.setIfInBounds_toArray, List.set_cons_zero, List.set_cons_succ]
        refine wpAny_ready (rs := [0, 6]) (by kernel_rfl) (by simp) ?_
        refine AllReady.cons (o := _) (nth_at rfl) (fun K hK => ?_) ?_
        · go_simp
          refine hK _ _ ?_
          clear hK K
          try simp only [Act.put, List.setIfInBounds_toArray, List.set_cons_zero, List.set_cons_succ]
          refine wpAny_ready (rs := [6]) (by kernel_rfl) (by simp) ?_
          refine AllReady.cons (o := _) (nth_at rfl) (fun K hK => ?_) AllReady.nil
          go_simp
          try rw [hW1]
          refine hK _ _ ?_
          clear hK K
          try simp only [Act.put, List.setIfInBounds_toArray, List.set_cons_zero, List.set_cons_succ]
          refine wpAny_ready (rs := [7]) (by kernel_rfl) (by simp) ?_
          refine AllReady.cons (o := _) (nth_at rfl) (fun K hK => ?_) AllReady.nil
          rw [if_pos (by rfl)]
          refine wp_append_own W1 _ _ _ rfl (w.heap.size + 3) 40 i0 _ 11 96 Tryz.underlying22 hI hz0 hz1 hz2 rfl (by decide) _ _ _ rfl r1 ⟨W.heap.size, 0, none⟩ 1 1 #[.int .i64 id, .int .i64 l1, .int .u64 S1, .int .i64 i1, .int .i64 l2, .int .u64 S2, .int .i64 i2, .int .i64 bu, .int .i64 k, .int .i64 m, .string ⟨form.toArray⟩].toList rfl rfl (ruBlk_srcs n1) (by simp [Value.oneCell']) (by unfold maxLen; omega) (by omega) (by omega) ?_
          intro v4 w4 h4 hg4 _
          have hfin := hrdH.out W1 w4 v4 hB1 h4 hg4
          obtain ⟨g4, cap4, rfl⟩ := ruOwn_pos h4
          have hq4 := hq1.kept hg4 (fun e => by have := hge _ e.symm; omega)
          have hc4 : w4.cell? ⟨w.heap.size, 1, none⟩ = some v := (hq4.cell 1).trans rfl
          have hf4 := hq4.frozen 1
          have hx4 : w4.cell? ⟨w.heap.size + 1, 0, none⟩ = some (.pointer (some ⟨w.heap.size, 0, none⟩)) := (World.cell?_of_block (w := W1) (a := ⟨w.heap.size + 1, 0, none⟩) (hg4.block (w.heap.size + 1) (by omega) (fun e => by have := hge _ e.symm; omega))).trans hx1
          refine hK _ _ ?_
          clear hK K
          try simp only [Act.put, List.setIfInBounds_toArray, List.set_cons_zero, List.set_cons_succ]
          refine wpAny_take (i := 8) (oi := _) (v := ?_) (nth_at rfl) (by kernel_rfl) (by kernel_rfl) (by kernel_rfl) (fun _ _ _ h => h) (Or.inl ⟨by rfl, ?_⟩) ?_
          rotate_left 1
          · intro w; (go_simp <;> with_reducible rfl)
          try simp only [Act.put, List.setIfInBounds_toArray, List.set_cons_zero, List.set_cons_succ]
          refine wpAny_take (i := 9) (oi := _) (v := ?_) (nth_at rfl) (by kernel_rfl) (by kernel_rfl) (by kernel_rfl) (fun _ _ _ h => h) (Or.inl ⟨by rfl, ?_⟩) ?_
          rotate_left 1
          · intro w; (go_simp <;> with_reducible rfl)
          try simp only [Act.put, List.setIfInBounds_toArray, List.set_cons_zero, List.set_cons_succ]
          refine wpAny_ready (rs := [10]) (by kernel_rfl) (by simp) ?_
          refine AllReady.cons (o := _) (nth_at rfl) (fun K hK => ?_) AllReady.nil
          go_simp
          refine hK _ _ ?_
          clear hK K
          try simp only [Act.put, List.setIfInBounds_toArray, List.set_cons_zero, List.set_cons_succ]
          refine wpAny_done (by kernel_rfl) ?_ _
          gi_wp2
          try rw [hz3]
          exact hfin
        refine AllReady.cons (o := _) (nth_at rfl) (fun K hK => ?_) AllReady.nil
        go_simp
        try rw [hW1]
        refine hK _ _ ?_
        clear hK K
        try simp only [Act.put, List.setIfInBounds_toArray, List.set_cons_zero, List.set_cons_succ]
        refine wpAny_ready (rs := [0, 7]) (by kernel_rfl) (by simp) ?_
        refine AllReady.cons (o := _) (nth_at rfl) (fun K hK => ?_) ?_
        · go_simp
          refine hK _ _ ?_
          clear hK K
          try simp only [Act.put, List.setIfInBounds_toArray, List.set_cons_zero, List.set_cons_succ]
          refine wpAny_ready (rs := [7]) (by kernel_rfl) (by simp) ?_
          refine AllReady.cons (o := _) (nth_at rfl) (fun K hK => ?_) AllReady.nil
          rw [if_pos (by rfl)]
          refine wp_append_own W1 _ _ _ rfl (w.heap.size + 3) 40 i0 _ 11 96 Tryz.underlying22 hI hz0 hz1 hz2 rfl (by decide) _ _ _ rfl r1 ⟨W.heap.size, 0, none⟩ 1 1 #[.int .i64 id, .int .i64 l1, .int .u64 S1, .int .i64 i1, .int .i64 l2, .int .u64 S2, .int .i64 i2, .int .i64 bu, .int .i64 k, .int .i64 m, .string ⟨form.toArray⟩].toList rfl rfl (ruBlk_srcs n1) (by simp [Value.oneCell']) (by unfold maxLen; omega) (by omega) (by omega) ?_
          intro v4 w4 h4 hg4 _
          have hfin := hrdH.out W1 w4 v4 hB1 h4 hg4
          obtain ⟨g4, cap4, rfl⟩ := ruOwn_pos h4
          have hq4 := hq1.kept hg4 (fun e => by have := hge _ e.symm; omega)
          have hc4 : w4.cell? ⟨w.heap.size, 1, none⟩ = some v := (hq4.cell 1).trans rfl
          have hf4 := hq4.frozen 1
          have hx4 : w4.cell? ⟨w.heap.size + 1, 0, none⟩ = some (.pointer (some ⟨w.heap.size, 0, none⟩)) := (World.cell?_of_block (w := W1) (a := ⟨w.heap.size + 1, 0, none⟩) (hg4.block (w.heap.size + 1) (by omega) (fun e => by have := hge _ e.symm; omega))).trans hx1
          refine hK _ _ ?_
          clear hK K
          try simp only [Act.put, List.setIfInBounds_toArray, List.set_cons_zero, List.set_cons_succ]
          refine wpAny_take (i := 8) (oi := _) (v := ?_) (nth_at rfl) (by kernel_rfl) (by kernel_rfl) (by kernel_rfl) (fun _ _ _ h => h) (Or.inl ⟨by rfl, ?_⟩) ?_
          rotate_left 1
          · intro w; (go_simp <;> with_reducible rfl)
          try simp only [Act.put, List.setIfInBounds_toArray, List.set_cons_zero, List.set_cons_succ]
          refine wpAny_take (i := 9) (oi := _) (v := ?_) (nth_at rfl) (by kernel_rfl) (by kernel_rfl) (by kernel_rfl) (fun _ _ _ h => h) (Or.inl ⟨by rfl, ?_⟩) ?_
          rotate_left 1
          · intro w; (go_simp <;> with_reducible rfl)
          try simp only [Act.put, List.setIfInBounds_toArray, List.set_cons_zero, List.set_cons_succ]
          refine wpAny_ready (rs := [10]) (by kernel_rfl) (by simp) ?_
          refine AllReady.cons (o := _) (nth_at rfl) (fun K hK => ?_) AllReady.nil
          go_simp
          refine hK _ _ ?_
          clear hK K
          try simp only [Act.put, List.setIfInBounds_toArray, List.set_cons_zero, List.set_cons_succ]
          refine wpAny_done (by kernel_rfl) ?_ _
          gi_wp2
          try rw [hz3]
          exact hfin
        refine AllReady.cons (o := _) (nth_at rfl) (fun K hK => ?_) AllReady.nil
        rw [if_pos (by rfl)]
        refine wp_append_own W1 _ _ _ rfl (w.heap.size + 3) 40 i0 _ 11 96 Tryz.underlying22 hI hz0 hz1 hz2 rfl (by decide) _ _ _ rfl r1 ⟨W.heap.size, 0, none⟩ 1 1 #[.int .i64 id, .int .i64 l1, .int .u64 S1, .int .i64 i1, .int .i64 l2, .int .u64 S2, .int .i64 i2, .int .i64 bu, .int .i64 k, .int .i64 m, .string ⟨form.toArray⟩].toList rfl rfl (ruBlk_srcs n1) (by simp [Value.oneCell']) (by unfold maxLen; omega) (by omega) (by omega) ?_
        intro v4 w4 h4 hg4 _
        have hfin := hrdH.out W1 w4 v4 hB1 h4 hg4
        obtain ⟨g4, cap4, rfl⟩ := ruOwn_pos h4
        have hq4 := hq1.kept hg4 (fun e => by have := hge _ e.symm; omega)
        have hc4 : w4.cell? ⟨w.heap.size, 1, none⟩ = some v := (hq4.cell 1).trans rfl
        have hf4 := hq4.frozen 1
        have hx4 : w4.cell? ⟨w.heap.size + 1, 0, none⟩ = some (.pointer (some ⟨w.heap.size, 0, none⟩)) := (World.cell?_of_block (w := W1) (a := ⟨w.heap.size + 1, 0, none⟩) (hg4.block (w.heap.size + 1) (by omega) (fun e => by have := hge _ e.symm; omega))).trans hx1
        refine hK _ _ ?_
        clear hK K
        try simp only [Act.put, List.setIfInBounds_toArray, List.set_cons_zero, List.set_cons_succ]
        refine wpAny_ready (rs := [0]) (by kernel_rfl) (by simp) ?_
        refine AllReady.cons (o := _) (nth_at rfl) (fun K hK => ?_) AllReady.nil
        go_simp
        refine hK _ _ ?_
        clear hK K
        try simp only [Act.put, List.setIfInBounds_toArray, List.set_cons_zero, List.set_cons_succ]
        refine wpAny_take (i := 8) (oi := _) (v := ?_) (nth_at rfl) (by kernel_rfl) (by kernel_rfl) (by kernel_rfl) (fun _ _ _ h => h) (Or.inl ⟨by rfl, ?_⟩) ?_
        rotate_left 1
        · intro w; (go_simp <;> with_reducible rfl)
        try simp only [Act.put, List.setIfInBounds_toArray, List.set_cons_zero, List.set_cons_succ]
        refine wpAny_take (i := 9) (oi := _) (v := ?_) (nth_at rfl) (by kernel_rfl) (by kernel_rfl) (by kernel_rfl) (fun _ _ _ h => h) (Or.inl ⟨by rfl, ?_⟩) ?_
        rotate_left 1
        · intro w; (go_simp <;> with_reducible rfl)
        try simp only [Act.put, List.setIfInBounds_toArray, List.set_cons_zero, List.set_cons_succ]
        refine wpAny_ready (rs := [10]) (by kernel_rfl) (by simp) ?_
        refine AllReady.cons (o := _) (nth_at rfl) (fun K hK => ?_) AllReady.nil
        go_simp
        refine hK _ _ ?_
        clear hK K
        try simp only [Act.put, List.setIfInBounds_toArray, List.set_cons_zero, List.set_cons_succ]
        refine wpAny_done (by kernel_rfl) ?_ _
        gi_wp2
        try rw [hz3]
        exact hfin
      refine AllReady.cons (o := _) (nth_at rfl) (fun K hK => ?_) AllReady.nil
      go_simp
      try rw [hW1]
      refine hK _ _ ?_
      clear hK K
      try simp only [Act.put, List.setIfInBounds_toArray, List.set_cons_zero, List.set_cons_succ]
      refine wpAny_ready (rs := [0, 4]) (by kernel_rfl) (by simp) ?_
      refine AllReady.cons (o := _) (nth_at rfl) (fun K hK => ?_) ?_
      · go_simp
        refine hK _ _ ?_
        clear hK K
        try simp only [Act.put, List.setIfInBounds_toArray, List.set_cons_zero, List.set_cons_succ]
        refine wpAny_ready (rs := [4]) (by kernel_rfl) (by simp) ?_
        refine AllReady.cons (o := _) (nth_at rfl) (fun K hK => ?_) AllReady.nil
        go_simp
        refine hK _ _ ?_
        clear hK K
        try simp only [Act.put, List.setIfInBounds_toArray, List.set_cons_zero, List.set_cons_succ]
        refine wpAny_ready (rs := [7]) (by kernel_rfl) (by simp) ?_
        refine AllReady.cons (o := _) (nth_at rfl) (fun K hK => ?_) AllReady.nil
        rw [if_pos (by rfl)]
        refine wp_append_own W1 _ _ _ rfl (w.heap.size + 3) 40 i0 _ 11 96 Tryz.underlying22 hI hz0 hz1 hz2 rfl (by decide) _ _ _ rfl r1 ⟨W.heap.size, 0, none⟩ 1 1 #[.int .i64 id, .int .i64 l1, .int .u64 S1, .int .i64 i1, .int .i64 l2, .int .u64 S2, .int .i64 i2, .int .i64 bu, .int .i64 k, .int .i64 m, .string ⟨form.toArray⟩].toList rfl rfl (ruBlk_srcs n1) (by simp [Value.oneCell']) (by unfold maxLen; omega) (by omega) (by omega) ?_
        intro v4 w4 h4 hg4 _
        have hfin := hrdH.out W1 w4 v4 hB1 h4 hg4
        obtain ⟨g4, cap4, rfl⟩ := ruOwn_pos h4
        have hq4 := hq1.kept hg4 (fun e => by have := hge _ e.symm; omega)
        have hc4 : w4.cell? ⟨w.heap.size, 1, none⟩ = some v := (hq4.cell 1).trans rfl
        have hf4 := hq4.frozen 1
        have hx4 : w4.cell? ⟨w.heap.size + 1, 0, none⟩ = some (.pointer (some ⟨w.heap.size, 0, none⟩)) := (World.cell?_of_block (w := W1) (a := ⟨w.heap.size + 1, 0, none⟩) (hg4.block (w.heap.size + 1) (by omega) (fun e => by have := hge _ e.symm; omega))).trans hx1
        refine hK _ _ ?_
        clear hK K
        try simp only [Act.put, List.setIfInBounds_toArray, List.set_cons_zero, List.set_cons_succ]
        refine wpAny_take (i := 8) (oi := _) (v := ?_) (nth_at rfl) (by kernel_rfl) (by kernel_rfl) (by kernel_rfl) (fun _ _ _ h => h) (Or.inl ⟨by rfl, ?_⟩) ?_
        rotate_left 1
        · intro w; (go_simp <;> with_reducible rfl)
        try simp only [Act.put, List.setIfInBounds_toArray, List.set_cons_zero, List.set_cons_succ]
        refine wpAny_take (i := 9) (oi := _) (v := ?_) (nth_at rfl) (by kernel_rfl) (by kernel_rfl) (by kernel_rfl) (fun _ _ _ h => h) (Or.inl ⟨by rfl, ?_⟩) ?_
        rotate_left 1
        · intro w; (go_simp <;> with_reducible rfl)
        try simp only [Act.put, List.setIfInBounds_toArray, List.set_cons_zero, List.set_cons_succ]
        refine wpAny_ready (rs := [10]) (by kernel_rfl) (by simp) ?_
        refine AllReady.cons (o := _) (nth_at rfl) (fun K hK => ?_) AllReady.nil
        go_simp
        refine hK _ _ ?_
        clear hK K
        try simp only [Act.put, List.setIfInBounds_toArray, List.set_cons_zero, List.set_cons_succ]
        refine wpAny_done (by kernel_rfl) ?_ _
        gi_wp2
        try rw [hz3]
        exact hfin
      refine AllReady.cons (o := _) (nth_at rfl) (fun K hK => ?_) AllReady.nil
      go_simp
      refine hK _ _ ?_
      clear hK K
      try simp only [Act.put, List.setIfInBounds_toArray, List.set_cons_zero, List.set_cons_succ]
      refine wpAny_ready (rs := [0, 7]) (by kernel_rfl) (by simp) ?_
      refine AllReady.cons (o := _) (nth_at rfl) (fun K hK => ?_) ?_
      · go_simp
        refine hK _ _ ?_
        clear hK K
        try simp only [Act.put, List.setIfInBounds_toArray, List.set_cons_zero, List.set_cons_succ]
        refine wpAny_ready (rs := [7]) (by kernel_rfl) (by simp) ?_
        refine AllReady.cons (o := _) (nth_at rfl) (fun K hK => ?_) AllReady.nil
        rw [if_pos (by rfl)]
        refine wp_append_own W1 _ _ _ rfl (w.heap.size + 3) 40 i0 _ 11 96 Tryz.underlying22 hI hz0 hz1 hz2 rfl (by decide) _ _ _ rfl r1 ⟨W.heap.size, 0, none⟩ 1 1 #[.int .i64 id, .int .i64 l1, .int .u64 S1, .int .i64 i1, .int .i64 l2, .int .u64 S2, .int .i64 i2, .int .i64 bu, .int .i64 k, .int .i64 m, .string ⟨form.toArray⟩].toList rfl rfl (ruBlk_srcs n1) (by simp [Value.oneCell']) (by unfold maxLen; omega) (by omega) (by omega) ?_
        intro v4 w4 h4 hg4 _
        have hfin := hrdH.out W1 w4 v4 hB1 h4 hg4
        obtain ⟨g4, cap4, rfl⟩ := ruOwn_pos h4
        have hq4 := hq1.kept hg4 (fun e => by have := hge _ e.symm; omega)
        have hc4 : w4.cell? ⟨w.heap.size, 1, none⟩ = some v := (hq4.cell 1).trans rfl
        have hf4 := hq4.frozen 1
        have hx4 : w4.cell? ⟨w.heap.size + 1, 0, none⟩ = some (.pointer (some ⟨w.heap.size, 0, none⟩)) := (World.cell?_of_block (w := W1) (a := ⟨w.heap.size + 1, 0, none⟩) (hg4.block (w.heap.size + 1) (by omega) (fun e => by have := hge _ e.symm; omega))).trans hx1
        refine hK _ _ ?_
        clear hK K
        try simp only [Act.put, List.setIfInBounds_toArray, List.set_cons_zero, List.set_cons_succ]
        refine wpAny_take (i := 8) (oi := _) (v := ?_) (nth_at rfl) (by kernel_rfl) (by kernel_rfl) (by kernel_rfl) (fun _ _ _ h => h) (Or.inl ⟨by rfl, ?_⟩) ?_
        rotate_left 1
        · intro w; (go_simp <;> with_reducible rfl)
        try simp only [Act.put, List.setIfInBounds_toArray, List.set_cons_zero, List.set_cons_succ]
        refine wpAny_take (i := 9) (oi := _) (v := ?_) (nth_at rfl) (by kernel_rfl) (by kernel_rfl) (by kernel_rfl) (fun _ _ _ h => h) (Or.inl ⟨by rfl, ?_⟩) ?_
        rotate_left 1
        · intro w; (go_simp <;> with_reducible rfl)
        try simp only [Act.put, List.setIfInBounds_toArray, List.set_cons_zero, List.set_cons_succ]
        refine wpAny_ready (rs := [10]) (by kernel_rfl) (by simp) ?_
        refine AllReady.cons (o := _) (nth_at rfl) (fun K hK => ?_) AllReady.nil
        go_simp
        refine hK _ _ ?_
        clear hK K
        try simp only [Act.put, List.setIfInBounds_toArray, List.set_cons_zero, List.set_cons_succ]
        refine wpAny_done (by kernel_rfl) ?_ _
        gi_wp2
        try rw [hz3]
        exact hfin
      refine AllReady.cons (o := _) (nth_at rfl) (fun K hK => ?_) AllReady.nil
      rw [if_pos (by rfl)]
      refine wp_append_own W1 _ _ _ rfl (w.heap.size + 3) 40 i0 _ 11 96 Tryz.underlying22 hI hz0 hz1 hz2 rfl (by decide) _ _ _ rfl r1 ⟨W.heap.size, 0, none⟩ 1 1 #[.int .i64 id, .int .i64 l1, .int .u64 S1, .int .i64 i1, .int .i64 l2, .int .u64 S2, .int .i64 i2, .int .i64 bu, .int .i64 k, .int .i64 m, .string ⟨form.toArray⟩].toList rfl rfl (ruBlk_srcs n1) (by simp [Value.oneCell']) (by unfold maxLen; omega) (by omega) (by omega) ?_
      intro v4 w4 h4 hg4 _
      have hfin := hrdH.out W1 w4 v4 hB1 h4 hg4
      obtain ⟨g4, cap4, rfl⟩ := ruOwn_pos h4
      have hq4 := hq1.kept hg4 (fun e => by have := hge _ e.symm; omega)
      have hc4 : w4.cell? ⟨w.heap.size, 1, none⟩ = some v := (hq4.cell 1).trans rfl
      have hf4 := hq4.frozen 1
      have hx4 : w4.cell? ⟨w.heap.size + 1, 0, none⟩ = some (.pointer (some ⟨w.heap.size, 0, none⟩)) := (World.cell?_of_block (w := W1) (a := ⟨w.heap.size + 1, 0, none⟩) (hg4.block (w.heap.size + 1) (by omega) (fun e => by have := hge _ e.symm; omega))).trans hx1
      refine hK _ _ ?_
      clear hK K
      try simp only [Act.put, List.setIfInBounds_toArray, List.set_cons_zero, List.set_cons_succ]
      refine wpAny_ready (rs := [0]) (by kernel_rfl) (by simp) ?_
      refine AllReady.cons (o := _) (nth_at rfl) (fun K hK => ?_) AllReady.nil
      go_simp
      refine hK _ _ ?_
      clear hK K
      try simp only [Act.put, List.setIfInBounds_toArray, List.set_cons_zero, List.set_cons_succ]
      refine wpAny_take (i := 8) (oi := _) (v := ?_) (nth_at rfl) (by kernel_rfl) (by kernel_rfl) (by kernel_rfl) (fun _ _ _ h => h) (Or.inl ⟨by rfl, ?_⟩) ?_
      rotate_left 1
      · intro w; (go_simp <;> with_reducible rfl)
      try simp only [Act.put, List.setIfInBounds_toArray, List.set_cons_zero, List.set_cons_succ]
      refine wpAny_take (i := 9) (oi := _) (v := ?_) (nth_at rfl) (by kernel_rfl) (by kernel_rfl) (by kernel_rfl) (fun _ _ _ h => h) (Or.inl ⟨by rfl, ?_⟩) ?_
      rotate_left 1
      · intro w; (go_simp <;> with_reducible rfl)
      try simp only [Act.put, List.setIfInBounds_toArray, List.set_cons_zero, List.set_cons_succ]
      refine wpAny_ready (rs := [10]) (by kernel_rfl) (by simp) ?_
      refine AllReady.cons (o := _) (nth_at rfl) (fun K hK => ?_) AllReady.nil
      go_simp
      refine hK _ _ ?_
      clear hK K
      try simp only [Act.put, List.setIfInBounds_toArray, List.set_cons_zero, List.set_cons_succ]
      refine wpAny_done (by kernel_rfl) ?_ _
      gi_wp2
      try rw [hz3]
      exact hfin
    refine AllReady.cons (o := _) (nth_at rfl) (fun K hK => ?_) AllReady.nil
    go_simp
    refine hK _ _ ?_
    clear hK K
    try simp only [Act.put, List.setIfInBounds_toArray, List.set_cons_zero, List.set_cons_succ]
    refine wpAny_ready (rs := [0, 1, 6]) (by kernel_rfl) (by simp) ?_
    refine AllReady.cons (o := _) (nth_at rfl) (fun K hK => ?_) ?_
    · go_simp
      refine hK _ _ ?_
      clear hK K
      try simp only [Act.put, List.setIfInBounds_toArray, List.set_cons_zero, List.set_cons_succ]
      refine wpAny_ready (rs := [1, 6]) (by kernel_rfl) (by simp) ?_
      refine AllReady.cons (o := _) (nth_at rfl) (fun K hK => ?_) ?_
      · go_simp
        refine hK _ _ ?_
        clear hK K
        try simp only [Act.put, List.setIfInBounds_toArray, List.set_cons_zero, List.set_cons_succ]
        refine wpAny_take (i := 2) (oi := _) (v := ?_) (nth_at rfl) (by kernel_rfl) (by kernel_rfl) (by kernel_rfl) (fun _ _ _ h => h) (Or.inl ⟨by rfl, ?_⟩) ?_
        rotate_left 1
        · intro w; (go_simp <;> with_reducible rfl)
        try simp only [Act.put, List.setIfInBounds_toArray, List.set_cons_zero, List.set_cons_succ]
        refine wpAny_take (i := 3) (oi := _) (v := ?_) (nth_at rfl) (by kernel_rfl) (by kernel_rfl) (by kernel_rfl) (fun _ _ _ h => h) (Or.inl ⟨by rfl, ?_⟩) ?_
        rotate_left 1
        · intro w; (go_simp <;> with_reducible rfl)
        try simp only [Act.put, List.setIfInBounds_toArray, List.set_cons_zero, List.set_cons_succ]
        refine wpAny_ready (rs := [4, 6]) (by kernel_rfl) (by simp) ?_
        refine AllReady.cons (o := _) (nth_at rfl) (fun K hK => ?_) ?_
        · go_simp
          refine hK _ _ ?_
          clear hK K
          try simp only [Act.put, List.setIfInBounds_toArray, List.set_cons_zero, List.set_cons_succ]
          refine wpAny_ready (rs := [6]) (by kernel_rfl) (by simp) ?_
          refine AllReady.cons (o := _) (nth_at rfl) (fun K hK => ?_) AllReady.nil
          go_simp
          try rw [hW1]
          refine hK _ _ ?_
          clear hK K
          try simp only [Act.put, List.setIfInBounds_toArray, List.set_cons_zero, List.set_cons_succ]
          refine wpAny_ready (rs := [7]) (by kernel_rfl) (by simp) ?_
          refine AllReady.cons (o := _) (nth_at rfl) (fun K hK => ?_) AllReady.nil
          rw [if_pos (by rfl)]
          refine wp_append_own W1 _ _ _ rfl (w.heap.size + 3) 40 i0 _ 11 96 Tryz.underlying22 hI hz0 hz1 hz2 rfl (by decide) _ _ _ rfl r1 ⟨W.heap.size, 0, none⟩ 1 1 #[.int .i64 id, .int .i64 l1, .int .u64 S1, .int .i64 i1, .int .i64 l2, .int .u64 S2, .int .i64 i2, .int .i64 bu, .int .i64 k, .int .i64 m, .string ⟨form.toArray⟩].toList rfl rfl (ruBlk_srcs n1) (by simp [Value.oneCell']) (by unfold maxLen; omega) (by omega) (by omega) ?_
          intro v4 w4 h4 hg4 _
          have hfin := hrdH.out W1 w4 v4 hB1 h4 hg4
          obtain ⟨g4, cap4, rfl⟩ := ruOwn_pos h4
          have hq4 := hq1.kept hg4 (fun e => by have := hge _ e.symm; omega)
          have hc4 : w4.cell? ⟨w.heap.size, 1, none⟩ = some v := (hq4.cell 1).trans rfl
          have hf4 := hq4.frozen 1
          have hx4 : w4.cell? ⟨w.heap.size + 1, 0, none⟩ = some (.pointer (some ⟨w.heap.size, 0, none⟩)) := (World.cell?_of_block (w := W1) (a := ⟨w.heap.size + 1, 0, none⟩) (hg4.block (w.heap.size + 1) (by omega) (fun e => by have := hge _ e.symm; omega))).trans hx1
          refine hK _ _ ?_
          clear hK K
          try simp only [Act.put, List.setIfInBounds_toArray, List.set_cons_zero, List.set_cons_succ]
          refine wpAny_take (i := 8) (oi := _) (v := ?_) (nth_at rfl) (by kernel_rfl) (by kernel_rfl) (by kernel_rfl) (fun _ _ _ h => h) (Or.inl ⟨by rfl, ?_⟩) ?_
          rotate_left 1
          · intro w; (go_simp <;> with_reducible rfl)
          try simp only [Act.put, List.setIfInBounds_toArray, List.set_cons_zero, List.set_cons_succ]
          refine wpAny_take (i := 9) (oi := _) (v := ?_) (nth_at rfl) (by kernel_rfl) (by kernel_rfl) (by kernel_rfl) (fun _ _ _ h => h) (Or.inl ⟨by rfl, ?_⟩) ?_
          rotate_left 1
          · intro w; (go_simp <;> with_reducible rfl)
          try simp only [Act.put, List.setIfInBounds_toArray, List.set_cons_zero, List.set_cons_succ]
          refine wpAny_ready (rs := [10]) (by kernel_rfl) (by simp) ?_
          refine AllReady.cons (o := _) (nth_at rfl) (fun K hK => ?_) AllReady.nil
          go_simp
          refine hK _ _ ?_
          clear hK K
          try simp only [Act.put, List.setIfInBounds_toArray, List.set_cons_zero, List.set_cons_succ]
          refine wpAny_done (by kernel_rfl) ?_ _
          gi_wp2
          try rw [hz3]
          exact hfin
        refine AllReady.cons (o := _) (nth_at rfl) (fun K hK => ?_) AllReady.nil
        go_simp
        try rw [hW1]
        refine hK _ _ ?_
        clear hK K
        try simp only [Act.put, List.setIfInBounds_toArray, List.set_cons_zero, List.set_cons_succ]
        refine wpAny_ready (rs := [4]) (by kernel_rfl) (by simp) ?_
        refine AllReady.cons (o := _) (nth_at rfl) (fun K hK => ?_) AllReady.nil
        go_simp
        refine hK _ _ ?_
        clear hK K
        try simp only [Act.put, List.setIfInBounds_toArray, List.set_cons_zero, List.set_cons_succ]
        refine wpAny_ready (rs := [7]) (by kernel_rfl) (by simp) ?_
        refine AllReady.cons (o := _) (nth_at rfl) (fun K hK => ?_) AllReady.nil
        rw [if_pos (by rfl)]
        refine wp_append_own W1 _ _ _ rfl (w.heap.size + 3) 40 i0 _ 11 96 Tryz.underlying22 hI hz0 hz1 hz2 rfl (by decide) _ _ _ rfl r1 ⟨W.heap.size, 0, none⟩ 1 1 #[.int .i64 id, .int .i64 l1, .int .u64 S1, .int .i64 i1, .int .i64 l2, .int .u64 S2, .int .i64 i2, .int .i64 bu, .int .i64 k, .int .i64 m, .string ⟨form.toArray⟩].toList rfl rfl (ruBlk_srcs n1) (by simp [Value.oneCell']) (by unfold maxLen; omega) (by omega) (by omega) ?_
        intro v4 w4 h4 hg4 _
        have hfin := hrdH.out W1 w4 v4 hB1 h4 hg4
        obtain ⟨g4, cap4, rfl⟩ := ruOwn_pos h4
        have hq4 := hq1.kept hg4 (fun e => by have := hge _ e.symm; omega)
        have hc4 : w4.cell? ⟨w.heap.size, 1, none⟩ = some v := (hq4.cell 1).trans rfl
        have hf4 := hq4.frozen 1
        have hx4 : w4.cell? ⟨w.heap.size + 1, 0, none⟩ = some (.pointer (some ⟨w.heap.size, 0, none⟩)) := (World.cell?_of_block (w := W1) (a := ⟨w.heap.size + 1, 0, none⟩) (hg4.block (w.heap.size + 1) (by omega) (fun e => by have := hge _ e.symm; omega))).trans hx1
        refine hK _ _ ?_
        clear hK K
        try simp only [Act.put, List.setIfInBounds_toArray, List.set_cons_zero, List.set_cons_succ]
        refine wpAny_take (i := 8) (oi := _) (v := ?_) (nth_at rfl) (by kernel_rfl) (by kernel_rfl) (by kernel_rfl) (fun _ _ _ h => h) (Or.inl ⟨by rfl, ?_⟩) ?_
        rotate_left 1
        · intro w; (go_simp <;> with_reducible rfl)
        try simp only [Act.put, List.setIfInBounds_toArray, List.set_cons_zero, List.set_cons_succ]
        refine wpAny_take (i := 9) (oi := _) (v := ?_) (nth_at rfl) (by kernel_rfl) (by kernel_rfl) (by kernel_rfl) (fun _ _ _ h => h) (Or.inl ⟨by rfl, ?_⟩) ?_
        rotate_left 1
        · intro w; (go_simp <;> with_reducible rfl)
        try simp only [Act.put, List.setIfInBounds_toArray, List.set_cons_zero, List.set_cons_succ]
        refine wpAny_ready (rs := [10]) (by kernel_rfl) (by simp) ?_
        refine AllReady.cons (o := _) (nth_at rfl) (fun K hK => ?_) AllReady.nil
        go_simp
        refine hK _ _ ?_
        clear hK K
        try simp only [Act.put, List.setIfInBounds_toArray, List.set_cons_zero, List.set_cons_succ]
        refine wpAny_done (by kernel_rfl) ?_ _
        gi_wp2
        try rw [hz3]
        exact hfin
      refine AllReady.cons (o := _) (nth_at rfl) (fun K hK => ?_) AllReady.nil
      go_simp
      try rw [hW1]
      refine hK _ _ ?_
      clear hK K
      try simp only [Act.put, List.setIfInBounds_toArray, List.set_cons_zero, List.set_cons_succ]
      refine wpAny_ready (rs := [1]) (by kernel_rfl) (by simp) ?_
      refine AllReady.cons (o := _) (nth_at rfl) (fun K hK => ?_) AllReady.nil
      go_simp
      refine hK _ _ ?_
      clear hK K
      try simp only [Act.put, List.setIfInBounds_toArray, List.set_cons_zero, List.set_cons_succ]
      refine wpAny_take (i := 2) (oi := _) (v := ?_) (nth_at rfl) (by kernel_rfl) (by kernel_rfl) (by kernel_rfl) (fun _ _ _ h => h) (Or.inl ⟨by rfl, ?_⟩) ?_
      rotate_left 1
      · intro w; (go_simp <;> with_reducible rfl)
      try simp only [Act.put, List.setIfInBounds_toArray, List.set_cons_zero, List.set_cons_succ]
      refine wpAny_take (i := 3) (oi := _) (v := ?_) (nth_at rfl) (by kernel_rfl) (by kernel_rfl) (by kernel_rfl) (fun _ _ _ h => h) (Or.inl ⟨by rfl, ?_⟩) ?_
      rotate_left 1
      · intro w; (go_simp <;> with_reducible rfl)
      try simp only [Act.put, List.setIfInBounds_toArray, List.set_cons_zero, List.set_cons_succ]
      refine wpAny_ready (rs := [4]) (by kernel_rfl) (by simp) ?_
      refine AllReady.cons (o := _) (nth_at rfl) (fun K hK => ?_) AllReady.nil
      go_simp
      refine hK _ _ ?_
      clear hK K
      try simp only [Act.put, List.setIfInBounds_toArray, List.set_cons_zero, List.set_cons_succ]
      refine wpAny_ready (rs := [7]) (by kernel_rfl) (by simp) ?_
      refine AllReady.cons (o := _) (nth_at rfl) (fun K hK => ?_) AllReady.nil
      rw [if_pos (by rfl)]
      refine wp_append_own W1 _ _ _ rfl (w.heap.size + 3) 40 i0 _ 11 96 Tryz.underlying22 hI hz0 hz1 hz2 rfl (by decide) _ _ _ rfl r1 ⟨W.heap.size, 0, none⟩ 1 1 #[.int .i64 id, .int .i64 l1, .int .u64 S1, .int .i64 i1, .int .i64 l2, .int .u64 S2, .int .i64 i2, .int .i64 bu, .int .i64 k, .int .i64 m, .string ⟨form.toArray⟩].toList rfl rfl (ruBlk_srcs n1) (by simp [Value.oneCell']) (by unfold maxLen; omega) (by omega) (by omega) ?_
      intro v4 w4 h4 hg4 _
      have hfin := hrdH.out W1 w4 v4 hB1 h4 hg4
      obtain ⟨g4, cap4, rfl⟩ := ruOwn_pos h4
      have hq4 := hq1.kept hg4 (fun e => by have := hge _ e.symm; omega)
      have hc4 : w4.cell? ⟨w.heap.size, 1, none⟩ = some v := (hq4.cell 1).trans rfl
      have hf4 := hq4.frozen 1
      have hx4 : w4.cell? ⟨w.heap.size + 1, 0, none⟩ = some (.pointer (some ⟨w.heap.size, 0, none⟩)) := (World.cell?_of_block (w := W1) (a := ⟨w.heap.size + 1, 0, none⟩) (hg4.block (w.heap.size + 1) (by omega) (fun e => by have := hge _ e.symm; omega))).trans hx1
      refine hK _ _ ?_
      clear hK K
      try simp only [Act.put, List.setIfInBounds_toArray, List.set_cons_zero, List.set_cons_succ]
      refine wpAny_take (i := 8) (oi := _) (v := ?_) (nth_at rfl) (by kernel_rfl) (by kernel_rfl) (by kernel_rfl) (fun _ _ _ h => h) (Or.inl ⟨by rfl, ?_⟩) ?_
      rotate_left 1
      · intro w; (go_simp <;> with_reducible rfl)
      try simp only [Act.put, List.setIfInBounds_toArray, List.set_cons_zero, List.set_cons_succ]
      refine wpAny_take (i := 9) (oi := _) (v := ?_) (nth_at rfl) (by kernel_rfl) (by kernel_rfl) (by kernel_rfl) (fun _ _ _ h => h) (Or.inl ⟨by rfl, ?_⟩) ?_
      rotate_left 1
      · intro w; (go_simp <;> with_reducible rfl)
      try simp only [Act.put, List.setIfInBounds_toArray, List.set_cons_zero, List.set_cons_succ]
      refine wpAny_ready (rs := [10]) (by kernel_rfl) (by simp) ?_
      refine AllReady.cons (o := _) (nth_at rfl) (fun K hK => ?_) AllReady.nil
      go_simp
      refine hK _ _ ?_
      clear hK K
      try simp only [Act.put, List.setIfInBounds_toArray, List.set_cons_zero, List.set_cons_succ]
      refine wpAny_done (by kernel_rfl) ?_ _
      gi_wp2
      try rw [hz3]
      exact hfin
    refine AllReady.cons (o := _) (nth_at rfl) (fun K hK => ?_) ?_
    · go_simp
      refine hK _ _ ?_
      clear hK K
      try simp only [Act.put, List.setIfInBounds_toArray, List.set_cons_zero, List.set_cons_succ]
      refine wpAny_take (i := 2) (oi := _) (v := ?_) (nth_at rfl) (by kernel_rfl) (by kernel_rfl) (by kernel_rfl) (fun _ _ _ h => h) (Or.inl ⟨by rfl, ?_⟩) ?_
      rotate_left 1
      · intro w; (go_simp <;> with_reducible rfl)
      try simp only [Act.put, List.setIfInBounds_toArray, List.set_cons_zero, List.set_cons_succ]
      refine wpAny_take (i := 3) (oi := _) (v := ?_) (nth_at rfl) (by kernel_rfl) (by kernel_rfl) (by kernel_rfl) (fun _ _ _ h => h) (Or.inl ⟨by rfl, ?_⟩) ?_
      rotate_left 1
      · intro w; (go_simp <;> with_reducible rfl)
      try simp only [Act.put, List.setIfInBounds_toArray, List.set_cons_zero, List.set_cons_succ]
      refine wpAny_ready (rs := [0, 4, 6]) (by kernel_rfl) (by simp) ?_
      refine AllReady.cons (o := _) (nth_at rfl) (fun K hK => ?_) ?_
      · go_simp
        refine hK _ _ ?_
        clear hK K
        try simp only [Act.put, List.setIfInBounds_toArray, List.set_cons_zero, List.set_cons_succ]
        refine wpAny_ready (rs := [4, 6]) (by kernel_rfl) (by simp) ?_
        refine AllReady.cons (o := _) (nth_at rfl) (fun K hK => ?_) ?_
        · go_simp
          refine hK _ _ ?_
          clear hK K
          try simp only [Act.put, List.setIfInBounds_toArray, List.set_cons_zero, List.set_cons_succ]
          refine wpAny_ready (rs := [6]) (by kernel_rfl) (by simp) ?_
          refine AllReady.cons (o := _) (nth_at rfl) (fun K hK => ?_) AllReady.nil
          go_simp
          try rw [hW1]
          refine hK _ _ ?_
          clear hK K
          try simp only [Act.put, List.setIfInBounds_toArray, List.set_cons_zero, List.set_cons_succ]
          refine wpAny_ready (rs := [7]) (by kernel_rfl) (by simp) ?_
          refine AllReady.cons (o := _) (nth_at rfl) (fun K hK => ?_) AllReady.nil
          rw [if_pos (by rfl)]
          refine wp_append_own W1 _ _ _ rfl (w.heap.size + 3) 40 i0 _ 11 96 Tryz.underlying22 hI hz0 hz1 hz2 rfl (by decide) _ _ _ rfl r1 ⟨W.heap.size, 0, none⟩ 1 1 #[.int .i64 id, .int .i64 l1, .int .u64 S1, .int .i64 i1, .int .i64 l2, .int .u64 S2, .int .i64 i2, .int .i64 bu, .int .i64 k, .int .i64 m, .string ⟨form.toArray⟩].toList rfl rfl (ruBlk_srcs n1) (by simp [Value.oneCell']) (by unfold maxLen; omega) (by omega) (by omega) ?_
          intro v4 w4 h4 hg4 _
          have hfin := hrdH.out W1 w4 v4 hB1 h4 hg4
          obtain ⟨g4, cap4, rfl⟩ := ruOwn_pos h4
          have hq4 := hq1.kept hg4 (fun e => by have := hge _ e.symm; omega)
          have hc4 : w4.cell? ⟨w.heap.size, 1, none⟩ = some v := (hq4.cell 1).trans rfl
          have hf4 := hq4.frozen 1
          have hx4 : w4.cell? ⟨w.heap.size + 1, 0, none⟩ = some (.pointer (some ⟨w.heap.size, 0, none⟩)) := (World.cell?_of_block (w := W1) (a := ⟨w.heap.size + 1, 0, none⟩) (hg4.block (w.heap.size + 1) (by omega) (fun e => by have := hge _ e.symm; omega))).trans hx1
          refine hK _ _ ?_
          clear hK K
          try simp only [Act.put, List.setIfInBounds_toArray, List.set_cons_zero, List.set_cons_succ]
          refine wpAny_take (i := 8) (oi := _) (v := ?_) (nth_at rfl) (by kernel_rfl) (by kernel_rfl) (by kernel_rfl) (fun _ _ _ h => h) (Or.inl ⟨by rfl, ?_⟩) ?_
          rotate_left 1
          · intro w; (go_simp <;> with_reducible rfl)
          try simp only [Act.put, List.setIfInBounds_toArray, List.set_cons_zero, List.set_cons_succ]
          refine wpAny_take (i := 9) (oi := _) (v := ?_) (nth_at rfl) (by kernel_rfl) (by kernel_rfl) (by kernel_rfl) (fun _ _ _ h => h) (Or.inl ⟨by rfl, ?_⟩) ?_
          rotate_left 1
          · intro w; (go_simp <;> with_reducible rfl)
          try simp only [Act.put, List.setIfInBounds_toArray, List.set_cons_zero, List.set_cons_succ]
          refine wpAny_ready (rs := [10]) (by kernel_rfl) (by simp) ?_
          refine AllReady.cons (o := _) (nth_at rfl) (fun K hK => ?_) AllReady.nil
          go_simp
          refine hK _ _ ?_
          clear hK K
          try simp only [Act.put, List.setIfInBounds_toArray, List.set_cons_zero, List.set_cons_succ]
          refine wpAny_done (by kernel_rfl) ?_ _
          gi_wp2
          try rw [hz3]
          exact hfin
        refine AllReady.cons (o := _) (nth_at rfl) (fun K hK => ?_) AllReady.nil
        go_simp
        try rw [hW1]
        refine hK _ _ ?_
        clear hK K
        try simp only [Act.put, List.setIfInBounds_toArray, List.set_cons_zero, List.set_cons_succ]
        refine wpAny_ready (rs := [4]) (by kernel_rfl) (by simp) ?_
        refine AllReady.cons (o := _) (nth_at rfl) (fun K hK => ?_) AllReady.nil
        go_simp
        refine hK _ _ ?_
        clear hK K
        try simp only [Act.put, List.setIfInBounds_toArray, List.set_cons_zero, List.set_cons_succ]
        refine wpAny_ready (rs := [7]) (by kernel_rfl) (by simp) ?_
        refine AllReady.cons (o := _) (nth_at rfl) (fun K hK => ?_) AllReady.nil
        rw [if_pos (by rfl)]
        refine wp_append_own W1 _ _ _ rfl (w.heap.size + 3) 40 i0 _ 11 96 Tryz.underlying22 hI hz0 hz1 hz2 rfl (by decide) _ _ _ rfl r1 ⟨W.heap.size, 0, none⟩ 1 1 #[.int .i64 id, .int .i64 l1, .int .u64 S1, .int .i64 i1, .int .i64 l2, .int .u64 S2, .int .i64 i2, .int .i64 bu, .int .i64 k, .int .i64 m, .string ⟨form.toArray⟩].toList rfl rfl (ruBlk_srcs n1) (by simp [Value.oneCell']) (by unfold maxLen; omega) (by omega) (by omega) ?_
        intro v4 w4 h4 hg4 _
        have hfin := hrdH.out W1 w4 v4 hB1 h4 hg4
        obtain ⟨g4, cap4, rfl⟩ := ruOwn_pos h4
        have hq4 := hq1.kept hg4 (fun e => by have := hge _ e.symm; omega)
        have hc4 : w4.cell? ⟨w.heap.size, 1, none⟩ = some v := (hq4.cell 1).trans rfl
        have hf4 := hq4.frozen 1
        have hx4 : w4.cell? ⟨w.heap.size + 1, 0, none⟩ = some (.pointer (some ⟨w.heap.size, 0, none⟩)) := (World.cell?_of_block (w := W1) (a := ⟨w.heap.size + 1, 0, none⟩) (hg4.block (w.heap.size + 1) (by omega) (fun e => by have := hge _ e.symm; omega))).trans hx1
        refine hK _ _ ?_
        clear hK K
        try simp only [Act.put, List.setIfInBounds_toArray, List.set_cons_zero, List.set_cons_succ]
        refine wpAny_take (i := 8) (oi := _) (v := ?_) (nth_at rfl) (by kernel_rfl) (by kernel_rfl) (by kernel_rfl) (fun _ _ _ h => h) (Or.inl ⟨by rfl, ?_⟩) ?_
        rotate_left 1
        · intro w; (go_simp <;> with_reducible rfl)
        try simp only [Act.put, List.setIfInBounds_toArray, List.set_cons_zero, List.set_cons_succ]
        refine wpAny_take (i := 9) (oi := _) (v := ?_) (nth_at rfl) (by kernel_rfl) (by kernel_rfl) (by kernel_rfl) (fun _ _ _ h => h) (Or.inl ⟨by rfl, ?_⟩) ?_
        rotate_left 1
        · intro w; (go_simp <;> with_reducible rfl)
        try simp only [Act.put, List.setIfInBounds_toArray, List.set_cons_zero, List.set_cons_succ]
        refine wpAny_ready (rs := [10]) (by kernel_rfl) (by simp) ?_
        refine AllReady.cons (o := _) (nth_at rfl) (fun K hK => ?_) AllReady.nil
        go_simp
        refine hK _ _ ?_
        clear hK K
        try simp only [Act.put, List.setIfInBounds_toArray, List.set_cons_zero, List.set_cons_succ]
        refine wpAny_done (by kernel_rfl) ?_ _
        gi_wp2
        try rw [hz3]
        exact hfin
      refine AllReady.cons (o := _) (nth_at rfl) (fun K hK => ?_) ?_
      · go_simp
        refine hK _ _ ?_
        clear hK K
        try simp only [Act.put, List.setIfInBounds_toArray, List.set_cons_zero, List.set_cons_succ]
        refine wpAny_ready (rs := [0, 6]) (by kernel_rfl) (by simp) ?_
        refine AllReady.cons (o := _) (nth_at rfl) (fun K hK => ?_) ?_
        · go_simp
          refine hK _ _ ?_
          clear hK K
          try simp only [Act.put, List.setIfInBounds_toArray, List.set_cons_zero, List.set_cons_succ]
          refine wpAny_ready (rs := [6]) (by kernel_rfl) (by simp) ?_
          refine AllReady.cons (o := _) (nth_at rfl) (fun K hK => ?_) AllReady.nil
          go_simp
          try rw [hW1]
          refine hK _ _ ?_
          clear hK K
          try simp only [Act.put, List.setIfInBounds_toArray, List.set_cons_zero, List.set_cons_succ]
          refine wpAny_ready (rs := [7]) (by kernel_rfl) (by simp) ?_
          refine AllReady.cons (o := _) (nth_at rfl) (fun K hK => ?_) AllReady.nil
          rw [if_pos (by rfl)]
          refine wp_append_own W1 _ _ _ rfl (w.heap.size + 3) 40 i0 _ 11 96 Tryz.underlying22 hI hz0 hz1 hz2 rfl (by decide) _ _ _ rfl r1 ⟨W.heap.size, 0, none⟩ 1 1 #[.int .i64 id, .int .i64 l1, .int .u64 S1, .int .i64 i1, .int .i64 l2, .int .u64 S2, .int .i64 i2, .int .i64 bu, .int .i64 k, .int .i64 m, .string ⟨form.toArray⟩].toList rfl rfl (ruBlk_srcs n1) (by simp [Value.oneCell']) (by unfold maxLen; omega) (by omega) (by omega) ?_
          intro v4 w4 h4 hg4 _
          have hfin := hrdH.out W1 w4 v4 hB1 h4 hg4
          obtain ⟨g4, cap4, rfl⟩ := ruOwn_pos h4
          have hq4 := hq1.kept hg4 (fun e => by have := hge _ e.symm; omega)
          have hc4 : w4.cell? ⟨w.heap.size, 1, none⟩ = some v := (hq4.cell 1).trans rfl
          have hf4 := hq4.frozen 1
          have hx4 : w4.cell? ⟨w.heap.size + 1, 0, none⟩ = some (.pointer (some ⟨w.heap.size, 0, none⟩)) := (World.cell?_of_block (w := W1) (a := ⟨w.heap.size + 1, 0, none⟩) (hg4.block (w.heap.size + 1) (by omega) (fun e => by have := hge _ e.symm; omega))).trans hx1
          refine hK _ _ ?_
          clear hK K
          try simp only [Act.put, List.setIfInBounds_toArray, List.set_cons_zero, List.set_cons_succ]
          refine wpAny_take (i := 8) (oi := _) (v := ?_) (nth_at rfl) (by kernel_rfl) (by kernel_rfl) (by kernel_rfl) (fun _ _ _ h => h) (Or.inl ⟨by rfl, ?_⟩) ?_
          rotate_left 1
          · intro w; (go_simp <;> with_reducible rfl)
          try simp only [Act.put, List.setIfInBounds_toArray, List.set_cons_zero, List.set_cons_succ]
          refine wpAny_take (i := 9) (oi := _) (v := ?_) (nth_at rfl) (by kernel_rfl) (by kernel_rfl) (by kernel_rfl) (fun _ _ _ h => h) (Or.inl ⟨by rfl, ?_⟩) ?_
          rotate_left 1
          · intro w; (go_simp <;> with_reducible rfl)
          try simp only [Act.put, List.setIfInBounds_toArray, List.set_cons_zero, List.set_cons_succ]
          refine wpAny_ready (rs := [10]) (by kernel_rfl) (by simp) ?_
          refine AllReady.cons (o := _) (nth_at rfl) (fun K hK => ?_) AllReady.nil
          go_simp
          refine hK _ _ ?_
          clear hK K
          try simp only [Act.put, List.setIfInBounds_toArray, List.set_cons_zero, List.set_cons_succ]
          refine wpAny_done (by kernel_rfl) ?_ _
          gi_wp2
          try rw [hz3]
          exact hfin
        refine AllReady.cons (o := _) (nth_at rfl) (fun K hK => ?_) AllReady.nil
        go_simp
        try rw [hW1]
        refine hK _ _ ?_
        clear hK K
        try simp only [Act.put, List.setIfInBounds_toArray, List.set_cons_zero, List.set_cons_succ]
        refine wpAny_ready (rs := [0, 7]) (by kernel_rfl) (by simp) ?_
        refine AllReady.cons (o := _) (nth_at rfl) (fun K hK => ?_) ?_
        · go_simp
          refine hK _ _ ?_
          clear hK K
          try simp only [Act.put, List.setIfInBounds_toArray, List.set_cons_zero, List.set_cons_succ]
          refine wpAny_ready (rs := [7]) (by kernel_rfl) (by simp) ?_
          refine AllReady.cons (o := _) (nth_at rfl) (fun K hK => ?_) AllReady.nil
          rw [if_pos (by rfl)]
          refine wp_append_own W1 _ _ _ rfl (w.heap.size + 3) 40 i0 _ 11 96 Tryz.underlying22 hI hz0 hz1 hz2 rfl (by decide) _ _ _ rfl r1 ⟨W.heap.size, 0, none⟩ 1 1 #[.int .i64 id, .int .i64 l1, .int .u64 S1, .int .i64 i1, .int .i64 l2, .int .u64 S2, .int .i64 i2, .int .i64 bu, .int .i64 k, .int .i64 m, .string ⟨form.toArray⟩].toList rfl rfl (ruBlk_srcs n1) (by simp [Value.oneCell']) (by unfold maxLen; omega) (by omega) (by omega) ?_
          intro v4 w4 h4 hg4 _
          have hfin := hrdH.out W1 w4 v4 hB1 h4 hg4
          obtain ⟨g4, cap4, rfl⟩ := ruOwn_pos h4
          have hq4 := hq1.kept hg4 (fun e => by have := hge _ e.symm; omega)
          have hc4 : w4.cell? ⟨w.heap.size, 1, none⟩ = some v := (hq4.cell 1).trans rfl
          have hf4 := hq4.frozen 1
          have hx4 : w4.cell? ⟨w.heap.size + 1, 0, none⟩ = some (.pointer (some ⟨w.heap.size, 0, none⟩)) := (World.cell?_of_block (w := W1) (a := ⟨w.heap.size + 1, 0, none⟩) (hg4.block (w.heap.size + 1) (by omega) (fun e => by have := hge _ e.symm; omega))).trans hx1
          refine hK _ _ ?_
          clear hK K
          try simp only [Act.put, List.setIfInBounds_toArray, List.set_cons_zero, List.set_cons_succ]
          refine wpAny_take (i := 8) (oi := _) (v := ?_) (nth_at rfl) (by kernel_rfl) (by kernel_rfl) (by kernel_rfl) (fun _ _ _ h => h) (Or.inl ⟨by rfl, ?_⟩) ?_
          rotate_left 1
          · intro w; (go_simp <;> with_reducible rfl)
          try simp only [Act.put, List.setIfInBounds_toArray, List.set_cons_zero, List.set_cons_succ]
          refine wpAny_take (i := 9) (oi := _) (v := ?_) (nth_at rfl) (by kernel_rfl) (by kernel_rfl) (by kernel_rfl) (fun _ _ _ h => h) (Or.inl ⟨by rfl, ?_⟩) ?_
          rotate_left 1
          · intro w; (go_simp <;> with_reducible rfl)
          try simp only [Act.put, List.setIfInBounds_toArray, List.set_cons_zero, List.set_cons_succ]
          refine wpAny_ready (rs := [10]) (by kernel_rfl) (by simp) ?_
          refine AllReady.cons (o := _) (nth_at rfl) (fun K hK => ?_) AllReady.nil
          go_simp
          refine hK _ _ ?_
          clear hK K
          try simp only [Act.put, List.setIfInBounds_toArray, List.set_cons_zero, List.set_cons_succ]
          refine wpAny_done (by kernel_rfl) ?_ _
          gi_wp2
          try rw [hz3]
          exact hfin
        refine AllReady.cons (o := _) (nth_at rfl) (fun K hK => ?_) AllReady.nil
        rw [if_pos (by rfl)]
        refine wp_append_own W1 _ _ _ rfl (w.heap.size + 3) 40 i0 _ 11 96 Tryz.underlying22 hI hz0 hz1 hz2 rfl (by decide) _ _ _ rfl r1 ⟨W.heap.size, 0, none⟩ 1 1 #[.int .i64 id, .int .i64 l1, .int .u64 S1, .int .i64 i1, .int .i64 l2, .int .u64 S2, .int .i64 i2, .int .i64 bu, .int .i64 k, .int .i64 m, .string ⟨form.toArray⟩].toList rfl rfl (ruBlk_srcs n1) (by simp [Value.oneCell']) (by unfold maxLen; omega) (by omega) (by omega) ?_
        intro v4 w4 h4 hg4 _
        have hfin := hrdH.out W1 w4 v4 hB1 h4 hg4
        obtain ⟨g4, cap4, rfl⟩ := ruOwn_pos h4
        have hq4 := hq1.kept hg4 (fun e => by have := hge _ e.symm; omega)
        have hc4 : w4.cell? ⟨w.heap.size, 1, none⟩ = some v := (hq4.cell 1).trans rfl
        have hf4 := hq4.frozen 1
        have hx4 : w4.cell? ⟨w.heap.size + 1, 0, none⟩ = some (.pointer (some ⟨w.heap.size, 0, none⟩)) := (World.cell?_of_block (w := W1) (a := ⟨w.heap.size + 1, 0, none⟩) (hg4.block (w.heap.size + 1) (by omega) (fun e => by have := hge _ e.symm; omega))).trans hx1
        refine hK _ _ ?_
        clear hK K
        try simp only [Act.put, List.setIfInBounds_toArray, List.set_cons_zero, List.set_cons_succ]
        refine wpAny_ready (rs := [0]) (by kernel_rfl) (by simp) ?_
        refine AllReady.cons (o := _) (nth_at rfl) (fun K hK => ?_) AllReady.nil
        go_simp
        refine hK _ _ ?_
        clear hK K
        try simp only [Act.put, List.setIfInBounds_toArray, List.set_cons_zero, List.set_cons_succ]
        refine wpAny_take (i := 8) (oi := _) (v := ?_) (nth_at rfl) (by kernel_rfl) (by kernel_rfl) (by kernel_rfl) (fun _ _ _ h => h) (Or.inl ⟨by rfl, ?_⟩) ?_
        rotate_left 1
        · intro w; (go_simp <;> with_reducible rfl)
        try simp only [Act.put, List.setIfInBounds_toArray, List.set_cons_zero, List.set_cons_succ]
        refine wpAny_take (i := 9) (oi := _) (v := ?_) (nth_at rfl) (by kernel_rfl) (by kernel_rfl) (by kernel_rfl) (fun _ _ _ h => h) (Or.inl ⟨by rfl, ?_⟩) ?_
        rotate_left 1
        · intro w; (go_simp <;> with_reducible rfl)
        try simp only [Act.put, List.setIfInBounds_toArray, List.set_cons_zero, List.set_cons_succ]
        refine wpAny_ready (rs := [10]) (by kernel_rfl) (by simp) ?_
        refine AllReady.cons (o := _) (nth_at rfl) (fun K hK => ?_) AllReady.nil
        go_simp
        refine hK _ _ ?_
        clear hK K
        try simp only [Act.put, List.setIfInBounds_toArray, List.set_cons_zero, List.set_cons_succ]
        refine wpAny_done (by kernel_rfl) ?_ _
        gi_wp2
        try rw [hz3]
        exact hfin
      refine AllReady.cons (o := _) (nth_at rfl) (fun K hK => ?_) AllReady.nil
      go_simp
      try rw [hW1]
      refine hK _ _ ?_
      clear hK K
      try simp only [Act.put, List.setIfInBounds_toArray, List.set_cons_zero, List.set_cons_succ]
      refine wpAny_ready (rs := [0, 4]) (by kernel_rfl) (by simp) ?_
      refine AllReady.cons (o := _) (nth_at rfl) (fun K hK => ?_) ?_
      · go_simp
        refine hK _ _ ?_
        clear hK K
        try simp only [Act.put, List.setIfInBounds_toArray, List.set_cons_zero, List.set_cons_succ]
        refine wpAny_ready (rs := [4]) (by kernel_rfl) (by simp) ?_
        refine AllReady.cons (o := _) (nth_at rfl) (fun K hK => ?_) AllReady.nil
        go_simp
        refine hK _ _ ?_
        clear hK K
        try simp only [Act.put, List.setIfInBounds_toArray, List.set_cons_zero, List.set_cons_succ]
        refine wpAny_ready (rs := [7]) (by kernel_rfl) (by simp) ?_
        refine AllReady.cons (o := _) (nth_at rfl) (fun K hK => ?_) AllReady.nil
        rw [if_pos (by rfl)]
        refine wp_append_own W1 _ _ _ rfl (w.heap.size + 3) 40 i0 _ 11 96 Tryz.underlying22 hI hz0 hz1 hz2 rfl (by decide) _ _ _ rfl r1 ⟨W.heap.size, 0, none⟩ 1 1 #[.int .i64 id, .int .i64 l1, .int .u64 S1, .int .i64 i1, .int .i64 l2, .int .u64 S2, .int .i64 i2, .int .i64 bu, .int .i64 k, .int .i64 m, .string ⟨form.toArray⟩].toList rfl rfl (ruBlk_srcs n1) (by simp [Value.oneCell']) (by unfold maxLen; omega) (by omega) (by omega) ?_
        intro v4 w4 h4 hg4 _
        have hfin := hrdH.out W1 w4 v4 hB1 h4 hg4
        obtain ⟨g4, cap4, rfl⟩ := ruOwn_pos h4
        have hq4 := hq1.kept hg4 (fun e => by have := hge _ e.symm; omega)
        have hc4 : w4.cell? ⟨w.heap.size, 1, none⟩ = some v := (hq4.cell 1).trans rfl
        have hf4 := hq4.frozen 1
        have hx4 : w4.cell? ⟨w.heap.size + 1, 0, none⟩ = some (.pointer (some ⟨w.heap.size, 0, none⟩)) := (World.cell?_of_block (w := W1) (a := ⟨w.heap.size + 1, 0, none⟩) (hg4.block (w.heap.size + 1) (by omega) (fun e => by have := hge _ e.symm; omega))).trans hx1
        refine hK _ _ ?_
        clear hK K
        try simp only [Act.put, List.setIfInBounds_toArray, List.set_cons_zero, List.set_cons_succ]
        refine wpAny_take (i := 8) (oi := _) (v := ?_) (nth_at rfl) (by kernel_rfl) (by kernel_rfl) (by kernel_rfl) (fun _ _ _ h => h) (Or.inl ⟨by rfl, ?_⟩) ?_
        rotate_left 1
        · intro w; (go_simp <;> with_reducible rfl)
        try simp only [Act.put, List.setIfInBounds_toArray, List.set_cons_zero, List.set_cons_succ]
        refine wpAny_take (i := 9) (oi := _) (v := ?_) (nth_at rfl) (by kernel_rfl) (by kernel_rfl) (by kernel_rfl) (fun _ _ _ h => h) (Or.inl ⟨by rfl, ?_⟩) ?_
        rotate_left 1
        · intro w; (go_simp <;> with_reducible rfl)
        try simp only [Act.put, List.setIfInBounds_toArray, List.set_cons_zero, List.set_cons_succ]
        refine wpAny_ready (rs := [10]) (by kernel_rfl) (by simp) ?_
        refine AllReady.cons (o := _) (nth_at rfl) (fun K hK => ?_) AllReady.nil
        go_simp
        refine hK _ _ ?_
        clear hK K
        try simp only [Act.put, List.setIfInBounds_toArray, List.set_cons_zero, List.set_cons_succ]
        refine wpAny_done (by kernel_rfl) ?_ _
        gi_wp2
        try rw [hz3]
        exact hfin
      refine AllReady.cons (o := _) (nth_at rfl) (fun K hK => ?_) AllReady.nil
      go_simp
      refine hK _ _ ?_
      clear hK K
      try simp only [Act.put, List.setIfInBounds_toArray, List.set_cons_zero, List.set_cons_succ]
      refine wpAny_ready (rs := [0, 7]) (by kernel_rfl) (by simp) ?_
      refine AllReady.cons (o := _) (nth_at rfl) (fun K hK => ?_) ?_
      · go_simp
        refine hK _ _ ?_
        clear hK K
        try simp only [Act.put, List.setIfInBounds_toArray, List.set_cons_zero, List.set_cons_succ]
        refine wpAny_ready (rs := [7]) (by kernel_rfl) (by simp) ?_
        refine AllReady.cons (o := _) (nth_at rfl) (fun K hK => ?_) AllReady.nil
        rw [if_pos (by rfl)]
        refine wp_append_own W1 _ _ _ rfl (w.heap.size + 3) 40 i0 _ 11 96 Tryz.underlying22 hI hz0 hz1 hz2 rfl (by decide) _ _ _ rfl r1 ⟨W.heap.size, 0, none⟩ 1 1 #[.int .i64 id, .int .i64 l1, .int .u64 S1, .int .i64 i1, .int .i64 l2, .int .u64 S2, .int .i64 i2, .int .i64 bu, .int .i64 k, .int .i64 m, .string ⟨form.toArray⟩].toList rfl rfl (ruBlk_srcs n1) (by simp [Value.oneCell']) (by unfold maxLen; omega) (by omega) (by omega) ?_
        intro v4 w4 h4 hg4 _
        have hfin := hrdH.out W1 w4 v4 hB1 h4 hg4
        obtain ⟨g4, cap4, rfl⟩ := ruOwn_pos h4
        have hq4 := hq1.kept hg4 (fun e => by have := hge _ e.symm; omega)
        have hc4 : w4.cell? ⟨w.heap.size, 1, none⟩ = some v := (hq4.cell 1).trans rfl
        have hf4 := hq4.frozen 1
        have hx4 : w4.cell? ⟨w.heap.size + 1, 0, none⟩ = some (.pointer (some ⟨w.heap.size, 0, none⟩)) := (World.cell?_of_block (w := W1) (a := ⟨w.heap.size + 1, 0, none⟩) (hg4.block (w.heap.size + 1) (by omega) (fun e => by have := hge _ e.symm; omega))).trans hx1
        refine hK _ _ ?_
        clear hK K
        try simp only [Act.put, List.setIfInBounds_toArray, List.set_cons_zero, List.set_cons_succ]
        refine wpAny_take (i := 8) (oi := _) (v := ?_) (nth_at rfl) (by kernel_rfl) (by kernel_rfl) (by kernel_rfl) (fun _ _ _ h => h) (Or.inl ⟨by rfl, ?_⟩) ?_
        rotate_left 1
        · intro w; (go_simp <;> with_reducible rfl)
        try simp only [Act.put, List.setIfInBounds_toArray, List.set_cons_zero, List.set_cons_succ]
        refine wpAny_take (i := 9) (oi := _) (v := ?_) (nth_at rfl) (by kernel_rfl) (by kernel_rfl) (by kernel_rfl) (fun _ _ _ h => h) (Or.inl ⟨by rfl, ?_⟩) ?_
        rotate_left 1
        · intro w; (go_simp <;> with_reducible rfl)
        try simp only [Act.put, List.setIfInBounds_toArray, List.set_cons_zero, List.set_cons_succ]
        refine wpAny_ready (rs := [10]) (by kernel_rfl) (by simp) ?_
        refine AllReady.cons (o := _) (nth_at rfl) (fun K hK => ?_) AllReady.nil
        go_simp
        refine hK _ _ ?_
        clear hK K
        try simp only [Act.put, List.setIfInBounds_toArray, List.set_cons_zero, List.set_cons_succ]
        refine wpAny_done (by kernel_rfl) ?_ _
        gi_wp2
        try rw [hz3]
        exact hfin
      refine AllReady.cons (o := _) (nth_at rfl) (fun K hK => ?_) AllReady.nil
      rw [if_pos (by rfl)]
      refine wp_append_own W1 _ _ _ rfl (w.heap.size + 3) 40 i0 _ 11 96 Tryz.underlying22 hI hz0 hz1 hz2 rfl (by decide) _ _ _ rfl r1 ⟨W.heap.size, 0, none⟩ 1 1 #[.int .i64 id, .int .i64 l1, .int .u64 S1, .int .i64 i1, .int .i64 l2, .int .u64 S2, .int .i64 i2, .int .i64 bu, .int .i64 k, .int .i64 m, .string ⟨form.toArray⟩].toList rfl rfl (ruBlk_srcs n1) (by simp [Value.oneCell']) (by unfold maxLen; omega) (by omega) (by omega) ?_
      intro v4 w4 h4 hg4 _
      have hfin := hrdH.out W1 w4 v4 hB1 h4 hg4
      obtain ⟨g4, cap4, rfl⟩ := ruOwn_pos h4
      have hq4 := hq1.kept hg4 (fun e => by have := hge _ e.symm; omega)
      have hc4 : w4.cell? ⟨w.heap.size, 1, none⟩ = some v := (hq4.cell 1).trans rfl
      have hf4 := hq4.frozen 1
      have hx4 : w4.cell? ⟨w.heap.size + 1, 0, none⟩ = some (.pointer (some ⟨w.heap.size, 0, none⟩)) := (World.cell?_of_block (w := W1) (a := ⟨w.heap.size + 1, 0, none⟩) (hg4.block (w.heap.size + 1) (by omega) (fun e => by have := hge _ e.symm; omega))).trans hx1
      refine hK _ _ ?_
      clear hK K
      try simp only [Act.put, List.setIfInBounds_toArray, List.set_cons_zero, List.set_cons_succ]
      refine wpAny_ready (rs := [0]) (by kernel_rfl) (by simp) ?_
      refine AllReady.cons (o := _) (nth_at rfl) (fun K hK => ?_) AllReady.nil
      go_simp
      refine hK _ _ ?_
      clear hK K
      try simp only [Act.put, List.setIfInBounds_toArray, List.set_cons_zero, List.set_cons_succ]
      refine wpAny_take (i := 8) (oi := _) (v := ?_) (nth_at rfl) (by kernel_rfl) (by kernel_rfl) (by kernel_rfl) (fun _ _ _ h => h) (Or.inl ⟨by rfl, ?_⟩) ?_
      rotate_left 1
      · intro w; (go_simp <;> with_reducible rfl)
      try simp only [Act.put, List.setIfInBounds_toArray, List.set_cons_zero, List.set_cons_succ]
      refine wpAny_take (i := 9) (oi := _) (v := ?_) (nth_at rfl) (by kernel_rfl) (by kernel_rfl) (by kernel_rfl) (fun _ _ _ h => h) (Or.inl ⟨by rfl, ?_⟩) ?_
      rotate_left 1
      · intro w; (go_simp <;> with_reducible rfl)
      try simp only [Act.put, List.setIfInBounds_toArray, List.set_cons_zero, List.set_cons_succ]
      refine wpAny_ready (rs := [10]) (by kernel_rfl) (by simp) ?_
      refine AllReady.cons (o := _) (nth_at rfl) (fun K hK => ?_) AllReady.nil
      go_simp
      refine hK _ _ ?_
      clear hK K
      try simp only [Act.put, List.setIfInBounds_toArray, List.set_cons_zero, List.set_cons_succ]
      refine wpAny_done (by kernel_rfl) ?_ _
      gi_wp2
      try rw [hz3]
      exact hfin
    refine AllReady.cons (o := _) (nth_at rfl) (fun K hK => ?_) AllReady.nil
    go_simp
    try rw [hW1]
    refine hK _ _ ?_
    clear hK K
    try simp only [Act.put, List.setIfInBounds_toArray, List.set_cons_zero, List.set_cons_succ]
    refine wpAny_ready (rs := [0, 1]) (by kernel_rfl) (by simp) ?_
    refine AllReady.cons (o := _) (nth_at rfl) (fun K hK => ?_) ?_
    · go_simp
      refine hK _ _ ?_
      clear hK K
      try simp only [Act.put, List.setIfInBounds_toArray, List.set_cons_zero, List.set_cons_succ]
      refine wpAny_ready (rs := [1]) (by kernel_rfl) (by simp) ?_
      refine AllReady.cons (o := _) (nth_at rfl) (fun K hK => ?_) AllReady.nil
      go_simp
      refine hK _ _ ?_
      clear hK K
      try simp only [Act.put, List.setIfInBounds_toArray, List.set_cons_zero, List.set_cons_succ]
      refine wpAny_take (i := 2) (oi := _) (v := ?_) (nth_at rfl) (by kernel_rfl) (by kernel_rfl) (by kernel_rfl) (fun _ _ _ h => h) (Or.inl ⟨by rfl, ?_⟩) ?_
      rotate_left 1
      · intro w; (go_simp <;> with_reducible rfl)
      try simp only [Act.put, List.setIfInBounds_toArray, List.set_cons_zero, List.set_cons_succ]
      refine wpAny_take (i := 3) (oi := _) (v := ?_) (nth_at rfl) (by kernel_rfl) (by kernel_rfl) (by kernel_rfl) (fun _ _ _ h => h) (Or.inl ⟨by rfl, ?_⟩) ?_
      rotate_left 1
      · intro w; (go_simp <;> with_reducible rfl)
      try simp only [Act.put, List.setIfInBounds_toArray, List.set_cons_zero, List.set_cons_succ]
      refine wpAny_ready (rs := [4]) (by kernel_rfl) (by simp) ?_
      refine AllReady.cons (o := _) (nth_at rfl) (fun K hK => ?_) AllReady.nil
      go_simp
      refine hK _ _ ?_
      clear hK K
      try simp only [Act.put, List.setIfInBounds_toArray, List.set_cons_zero, List.set_cons_succ]
      refine wpAny_ready (rs := [7]) (by kernel_rfl) (by simp) ?_
      refine AllReady.cons (o := _) (nth_at rfl) (fun K hK => ?_) AllReady.nil
      rw [if_pos (by rfl)]
      refine wp_append_own W1 _ _ _ rfl (w.heap.size + 3) 40 i0 _ 11 96 Tryz.underlying22 hI hz0 hz1 hz2 rfl (by decide) _ _ _ rfl r1 ⟨W.heap.size, 0, none⟩ 1 1 #[.int .i64 id, .int .i64 l1, .int .u64 S1, .int .i64 i1, .int .i64 l2, .int .u64 S2, .int .i64 i2, .int .i64 bu, .int .i64 k, .int .i64 m, .string ⟨form.toArray⟩].toList rfl rfl (ruBlk_srcs n1) (by simp [Value.oneCell']) (by unfold maxLen; omega) (by omega) (by omega) ?_
      intro v4 w4 h4 hg4 _
      have hfin := hrdH.out W1 w4 v4 hB1 h4 hg4
      obtain ⟨g4, cap4, rfl⟩ := ruOwn_pos h4
      have hq4 := hq1.kept hg4 (fun e => by have := hge _ e.symm; omega)
      have hc4 : w4.cell? ⟨w.heap.size, 1, none⟩ = some v := (hq4.cell 1).trans rfl
      have hf4 := hq4.frozen 1
      have hx4 : w4.cell? ⟨w.heap.size + 1, 0, none⟩ = some (.pointer (some ⟨w.heap.size, 0, none⟩)) := (World.cell?_of_block (w := W1) (a := ⟨w.heap.size + 1, 0, none⟩) (hg4.block (w.heap.size + 1) (by omega) (fun e => by have := hge _ e.symm; omega))).trans hx1
      refine hK _ _ ?_
      clear hK K
      try simp only [Act.put, List.setIfInBounds_toArray, List.set_cons_zero, List.set_cons_succ]
      refine wpAny_take (i := 8) (oi := _) (v := ?_) (nth_at rfl) (by kernel_rfl) (by kernel_rfl) (by kernel_rfl) (fun _ _ _ h => h) (Or.inl ⟨by rfl, ?_⟩) ?_
      rotate_left 1
      · intro w; (go_simp <;> with_reducible rfl)
      try simp only [Act.put, List.setIfInBounds_toArray, List.set_cons_zero, List.set_cons_succ]
      refine wpAny_take (i := 9) (oi := _) (v := ?_) (nth_at rfl) (by kernel_rfl) (by kernel_rfl) (by kernel_rfl) (fun _ _ _ h => h) (Or.inl ⟨by rfl, ?_⟩) ?_
      rotate_left 1
      · intro w; (go_simp <;> with_reducible rfl)
      try simp only [Act.put, List.setIfInBounds_toArray, List.set_cons_zero, List.set_cons_succ]
      refine wpAny_ready (rs := [10]) (by kernel_rfl) (by simp) ?_
      refine AllReady.cons (o := _) (nth_at rfl) (fun K hK => ?_) AllReady.nil
      go_simp
      refine hK _ _ ?_
      clear hK K
      try simp only [Act.put, List.setIfInBounds_toArray, List.set_cons_zero, List.set_cons_succ]
      refine wpAny_done (by kernel_rfl) ?_ _
      gi_wp2
      try rw [hz3]
      exact hfin
    refine AllReady.cons (o := _) (nth_at rfl) (fun K hK => ?_) AllReady.nil
    go_simp
    refine hK _ _ ?_
    clear hK K
    try simp only [Act.put, List.setIfInBounds_toArray, List.set_cons_zero, List.set_cons_succ]
    refine wpAny_take (i := 2) (oi := _) (v := ?_) (nth_at rfl) (by kernel_rfl) (by kernel_rfl) (by kernel_rfl) (fun _ _ _ h => h) (Or.inl ⟨by rfl, ?_⟩) ?_
    rotate_left 1
    · intro w; (go_simp <;> with_reducible rfl)
    try simp only [Act.put, List.setIfInBounds_toArray, List.set_cons_zero, List.set_cons_succ]
    refine wpAny_take (i := 3) (oi := _) (v := ?_) (nth_at rfl) (by kernel_rfl) (by kernel_rfl) (by kernel_rfl) (fun _ _ _ h => h) (Or.inl ⟨by rfl, ?_⟩) ?_
    rotate_left 1
    · intro w; (go_simp <;> with_reducible rfl)
    try simp only [Act.put, List.setIfInBounds_toArray, List.set_cons_zero, List.set_cons_succ]
    refine wpAny_ready (rs := [0, 4]) (by kernel_rfl) (by simp) ?_
    refine AllReady.cons (o := _) (nth_at rfl) (fun K hK => ?_) ?_
    · go_simp
      refine hK _ _ ?_
      clear hK K
      try simp only [Act.put, List.setIfInBounds_toArray, List.set_cons_zero, List.set_cons_succ]
      refine wpAny_ready (rs := [4]) (by kernel_rfl) (by simp) ?_
      refine AllReady.cons (o := _) (nth_at rfl) (fun K hK => ?_) AllReady.nil
      go_simp
      refine hK _ _ ?_
      clear hK K
      try simp only [Act.put, List.setIfInBounds_toArray, List.set_cons_zero, List.set_cons_succ]
      refine wpAny_ready (rs := [7]) (by kernel_rfl) (by simp) ?_
      refine AllReady.cons (o := _) (nth_at rfl) (fun K hK => ?_) AllReady.nil
      rw [if_pos (by rfl)]
      refine wp_append_own W1 _ _ _ rfl (w.heap.size + 3) 40 i0 _ 11 96 Tryz.underlying22 hI hz0 hz1 hz2 rfl (by decide) _ _ _ rfl r1 ⟨W.heap.size, 0, none⟩ 1 1 #[.int .i64 id, .int .i64 l1, .int .u64 S1, .int .i64 i1, .int .i64 l2, .int .u64 S2, .int .i64 i2, .int .i64 bu, .int .i64 k, .int .i64 m, .string ⟨form.toArray⟩].toList rfl rfl (ruBlk_srcs n1) (by simp [Value.oneCell']) (by unfold maxLen; omega) (by omega) (by omega) ?_
      intro v4 w4 h4 hg4 _
      have hfin := hrdH.out W1 w4 v4 hB1 h4 hg4
      obtain ⟨g4, cap4, rfl⟩ := ruOwn_pos h4
      have hq4 := hq1.kept hg4 (fun e => by have := hge _ e.symm; omega)
      have hc4 : w4.cell? ⟨w.heap.size, 1, none⟩ = some v := (hq4.cell 1).trans rfl
      have hf4 := hq4.frozen 1
      have hx4 : w4.cell? ⟨w.heap.size + 1, 0, none⟩ = some (.pointer (some ⟨w.heap.size, 0, none⟩)) := (World.cell?_of_block (w := W1) (a := ⟨w.heap.size + 1, 0, none⟩) (hg4.block (w.heap.size + 1) (by omega) (fun e => by have := hge _ e.symm; omega))).trans hx1
      refine hK _ _ ?_
      clear hK K
      try simp only [Act.put, List.setIfInBounds_toArray, List.set_cons_zero, List.set_cons_succ]
      refine wpAny_take (i := 8) (oi := _) (v := ?_) (nth_at rfl) (by kernel_rfl) (by kernel_rfl) (by kernel_rfl) (fun _ _ _ h => h) (Or.inl ⟨by rfl, ?_⟩) ?_
      rotate_left 1
      · intro w; (go_simp <;> with_reducible rfl)
      try simp only [Act.put, List.setIfInBounds_toArray, List.set_cons_zero, List.set_cons_succ]
      refine wpAny_take (i := 9) (oi := _) (v := ?_) (nth_at rfl) (by kernel_rfl) (by kernel_rfl) (by kernel_rfl) (fun _ _ _ h => h) (Or.inl ⟨by rfl, ?_⟩) ?_
      rotate_left 1
      · intro w; (go_simp <;> with_reducible rfl)
      try simp only [Act.put, List.setIfInBounds_toArray, List.set_cons_zero, List.set_cons_succ]
      refine wpAny_ready (rs := [10]) (by kernel_rfl) (by simp) ?_
      refine AllReady.cons (o := _) (nth_at rfl) (fun K hK => ?_) AllReady.nil
      go_simp
      refine hK _ _ ?_
      clear hK K
      try simp only [Act.put, List.setIfInBounds_toArray, List.set_cons_zero, List.set_cons_succ]
      refine wpAny_done (by kernel_rfl) ?_ _
      gi_wp2
      try rw [hz3]
      exact hfin
    refine AllReady.cons (o := _) (nth_at rfl) (fun K hK => ?_) AllReady.nil
    go_simp
    refine hK _ _ ?_
    clear hK K
    try simp only [Act.put, List.setIfInBounds_toArray, List.set_cons_zero, List.set_cons_succ]
    refine wpAny_ready (rs := [0, 7]) (by kernel_rfl) (by simp) ?_
    refine AllReady.cons (o := _) (nth_at rfl) (fun K hK => ?_) ?_
    · go_simp
      refine hK _ _ ?_
      clear hK K
      try simp only [Act.put, List.setIfInBounds_toArray, List.set_cons_zero, List.set_cons_succ]
      refine wpAny_ready (rs := [7]) (by kernel_rfl) (by simp) ?_
      refine AllReady.cons (o := _) (nth_at rfl) (fun K hK => ?_) AllReady.nil
      rw [if_pos (by rfl)]
      refine wp_append_own W1 _ _ _ rfl (w.heap.size + 3) 40 i0 _ 11 96 Tryz.underlying22 hI hz0 hz1 hz2 rfl (by decide) _ _ _ rfl r1 ⟨W.heap.size, 0, none⟩ 1 1 #[.int .i64 id, .int .i64 l1, .int .u64 S1, .int .i64 i1, .int .i64 l2, .int .u64 S2, .int .i64 i2, .int .i64 bu, .int .i64 k, .int .i64 m, .string ⟨form.toArray⟩].toList rfl rfl (ruBlk_srcs n1) (by simp [Value.oneCell']) (by unfold maxLen; omega) (by omega) (by omega) ?_
      intro v4 w4 h4 hg4 _
      have hfin := hrdH.out W1 w4 v4 hB1 h4 hg4
      obtain ⟨g4, cap4, rfl⟩ := ruOwn_pos h4
      have hq4 := hq1.kept hg4 (fun e => by have := hge _ e.symm; omega)
      have hc4 : w4.cell? ⟨w.heap.size, 1, none⟩ = some v := (hq4.cell 1).trans rfl
      have hf4 := hq4.frozen 1
      have hx4 : w4.cell? ⟨w.heap.size + 1, 0, none⟩ = some (.pointer (some ⟨w.heap.size, 0, none⟩)) := (World.cell?_of_block (w := W1) (a := ⟨w.heap.size + 1, 0, none⟩) (hg4.block (w.heap.size + 1) (by omega) (fun e => by have := hge _ e.symm; omega))).trans hx1
      refine hK _ _ ?_
      clear hK K
      try simp only [Act.put, List.setIfInBounds_toArray, List.set_cons_zero, List.set_cons_succ]
      refine wpAny_take (i := 8) (oi := _) (v := ?_) (nth_at rfl) (by kernel_rfl) (by kernel_rfl) (by kernel_rfl) (fun _ _ _ h => h) (Or.inl ⟨by rfl, ?_⟩) ?_
      rotate_left 1
      · intro w; (go_simp <;> with_reducible rfl)
      try simp only [Act.put, List.setIfInBounds_toArray, List.set_cons_zero, List.set_cons_succ]
      refine wpAny_take (i := 9) (oi := _) (v := ?_) (nth_at rfl) (by kernel_rfl) (by kernel_rfl) (by kernel_rfl) (fun _ _ _ h => h) (Or.inl ⟨by rfl, ?_⟩) ?_
      rotate_left 1
      · intro w; (go_simp <;> with_reducible rfl)
      try simp only [Act.put, List.setIfInBounds_toArray, List.set_cons_zero, List.set_cons_succ]
      refine wpAny_ready (rs := [10]) (by kernel_rfl) (by simp) ?_
      refine AllReady.cons (o := _) (nth_at rfl) (fun K hK => ?_) AllReady.nil
      go_simp
      refine hK _ _ ?_
      clear hK K
      try simp only [Act.put, List.setIfInBounds_toArray, List.set_cons_zero, List.set_cons_succ]
      refine wpAny_done (by kernel_rfl) ?_ _
      gi_wp2
      try rw [hz3]
      exact hfin
    refine AllReady.cons (o := _) (nth_at rfl) (fun K hK => ?_) AllReady.nil
    rw [if_pos (by rfl)]
    refine wp_append_own W1 _ _ _ rfl (w.heap.size + 3) 40 i0 _ 11 96 Tryz.underlying22 hI hz0 hz1 hz2 rfl (by decide) _ _ _ rfl r1 ⟨W.heap.size, 0, none⟩ 1 1 #[.int .i64 id, .int .i64 l1, .int .u64 S1, .int .i64 i1, .int .i64 l2, .int .u64 S2, .int .i64 i2, .int .i64 bu, .int .i64 k, .int .i64 m, .string ⟨form.toArray⟩].toList rfl rfl (ruBlk_srcs n1) (by simp [Value.oneCell']) (by unfold maxLen; omega) (by omega) (by omega) ?_
    intro v4 w4 h4 hg4 _
    have hfin := hrdH.out W1 w4 v4 hB1 h4 hg4
    obtain ⟨g4, cap4, rfl⟩ := ruOwn_pos h4
    have hq4 := hq1.kept hg4 (fun e => by have := hge _ e.symm; omega)
    have hc4 : w4.cell? ⟨w.heap.size, 1, none⟩ = some v := (hq4.cell 1).trans rfl
    have hf4 := hq4.frozen 1
    have hx4 : w4.cell? ⟨w.heap.size + 1, 0, none⟩ = some (.pointer (some ⟨w.heap.size, 0, none⟩)) := (World.cell?_of_block (w := W1) (a := ⟨w.heap.size + 1, 0, none⟩) (hg4.block (w.heap.size + 1) (by omega) (fun e => by have := hge _ e.symm; omega))).trans hx1
    refine hK _ _ ?_
    clear hK K
    try simp only [Act.put, List.setIfInBounds_toArray, List.set_cons_zero, List.set_cons_succ]
    refine wpAny_ready (rs := [0]) (by kernel_rfl) (by simp) ?_
    refine AllReady.cons (o := _) (nth_at rfl) (fun K hK => ?_) AllReady.nil
    go_simp
    refine hK _ _ ?_
    clear hK K
    try simp only [Act.put, List.setIfInBounds_toArray, List.set_cons_zero, List.set_cons_succ]
    refine wpAny_take (i := 8) (oi := _) (v := ?_) (nth_at rfl) (by kernel_rfl) (by kernel_rfl) (by kernel_rfl) (fun _ _ _ h => h) (Or.inl ⟨by rfl, ?_⟩) ?_
    rotate_left 1
    · intro w; (go_simp <;> with_reducible rfl)
    try simp only [Act.put, List.setIfInBounds_toArray, List.set_cons_zero, List.set_cons_succ]
    refine wpAny_take (i := 9) (oi := _) (v := ?_) (nth_at rfl) (by kernel_rfl) (by kernel_rfl) (by kernel_rfl) (fun _ _ _ h => h) (Or.inl ⟨by rfl, ?_⟩) ?_
    rotate_left 1
    · intro w; (go_simp <;> with_reducible rfl)
    try simp only [Act.put, List.setIfInBounds_toArray, List.set_cons_zero, List.set_cons_succ]
    refine wpAny_ready (rs := [10]) (by kernel_rfl) (by simp) ?_
    refine AllReady.cons (o := _) (nth_at rfl) (fun K hK => ?_) AllReady.nil
    go_simp
    refine hK _ _ ?_
    clear hK K
    try simp only [Act.put, List.setIfInBounds_toArray, List.set_cons_zero, List.set_cons_succ]
    refine wpAny_done (by kernel_rfl) ?_ _
    gi_wp2
    try rw [hz3]
    exact hfin
  case done =>
    rintro DD xs W hD hS ⟨⟨u, v, ev, hb, hr⟩, hx, hB, hz⟩ hK
    rw [hz3] at hD
    have kx := hx.cell
    have c1 : W.cell? ⟨w.heap.size, 1, none⟩ = some v := (hb.cell 1).trans rfl
    have hend : Below w.heap.size w (W.putObj DD (.deferred none)) := hB.trans (belowK_b (w := w) (Nat.le_refl _) W DD _ _ (by omega) hK rfl rfl)
    obtain ⟨a, cap, rfl⟩ := ruOwn_shape hr
    rcases hS with ⟨hp, c2⟩ | ⟨hp, c2⟩
    · have hE : ruL.rE s = 0 := by rw [hre, hp]; rfl
      have hN : ruL.rN s = 0 := by rw [hrn, hp]
      have hL : ruL.rL s = xs := by rw [hrl, hp]; rfl
      have hEH := Lib.hid hE
      have hNH := Lib.hid hN
      have hLH := Lib.hid hL
      have hfin : RulesO w.heap.size 40 (W.putObj DD (.deferred none)) (.slice a xs.length cap) xs := own_base (ownsRow_putObj hr (.deferred none) hK rfl) (by omega)
      clear hrn hrl hre hE hN hL hp hG HT B0 q0 x0 c0 hb hx hr
      gi_wp2
      refine ⟨by simp, .inl ⟨_, _, rfl, run_takeDeferred hK, ?_⟩⟩
      exact ⟨_, results_tmp3 rfl _ _ _, ⟨_, by rw [hEH.out, hNH.out]; rfl, by rw [hLH.out]; exact hfin, hend⟩⟩
    · have hE : ruL.rE s = 140 := by rw [hre, hp]; rfl
      have hN : ruL.rN s = xs.length := by rw [hrn, hp]
      have hL : ruL.rL s = [] := by rw [hrl, hp]; rfl
      have hEH := Lib.hid hE
      have hNH := Lib.hid hN
      have hLH := Lib.hid hL
      have HT1 := HT xs.length W (hG.same fun k hk => hB.block k hk)
      clear hrn hrl hre hE hN hL hp hG HT hb hx hr q0 x0 B0
      gi_wp2_with (refine ⟨trivial, ?_⟩; gi_at_call 26; with_reducible refine (callsIn_wide.2 HT1).mono ?_; rintro e W2 ⟨rfl, b2⟩)
      have hK2 := (b2.block DD (Array.getElem?_eq_some_iff.1 hK).1).trans hK
      have hend2 : Below w.heap.size w (W2.putObj DD (.deferred none)) := (hB.trans (b2.mono hB.size)).trans (belowK_b (w := w) (Nat.le_refl _) W2 DD _ _ (by omega) hK2 rfl rfl)
      gi_wp2
      refine ⟨by simp, .inl ⟨_, _, rfl, run_takeDeferred hK2, ?_⟩⟩
      exact ⟨_, results_tmp3 rfl _ _ _, ⟨.slice none 0 0, by rw [hEH.out, hNH.out]; rfl, by rw [hLH.out]; exact RulesO.nil _ _ _, hend2⟩⟩
  case stop =>
    rintro DD c pre W _ _ h _
    exact h.elim
end Go.Proofs.YtmmdpjliknmhgaaGreatDoor
