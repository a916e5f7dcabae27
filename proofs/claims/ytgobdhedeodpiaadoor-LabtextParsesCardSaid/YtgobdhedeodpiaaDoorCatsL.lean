/- Walks of layer 1: a set's categories, in a list. -/
import Derived.Test.YtgobdhedeodpiaaDoorCats
namespace Go.Proofs.YtgobdhedeodpiaaDoor
open Go.RowKit Go.Shelf
attribute [local go_sem] Oper.semAt_some
theorem grown_drew {A B : World} {row : Option Nat} (h : A.grownBy B row) : A.grownBy B.drew row := ⟨h.os, h.tape, h.output, h.size, h.block⟩
theorem infoI : (Tryd.prog.info? 3).map (fun i => (i.zero, i.size, i.bytes)) = some (some (.int .i64 0), 1, 8) := by kernel_rfl
theorem Tab.same {w w' : World} (h : Tab w) (hb : w'.heap[1]? = w.heap[1]?) : Tab w' := fun j hj => (World.cell?_of_block (w := w) (a := ⟨1, j, none⟩) hb).trans (h j hj)
theorem Tab.lt {w : World} (h : Tab w) : 1 < w.heap.size := World.block_lt_of_cell? w _ (h 0 (by decide))

theorem all_any (s : Nat) (w : World) :
    Calls Tryd.prog 33 #[.agg #[.int .u64 s]] w fun e w' => e = .returned (.func (.func 42) #[] #[.pointer (some ⟨w.heap.size, 0, none⟩)]) ∧ w.alloc (.cells #[.int .u64 s] 68) = w' := by
  have hmf : ∀ (fn : Fn) (first cap : Array Value) (w : World), (Instr.makeFunc fn first cap).run Tryd.prog w = .ok (.func fn first cap) w := fun _ _ _ _ => rfl
  go_enter Tryd.func33, Tryd.ntmps33
  go_wp2
  go_ret
  exact ⟨rfl, rfl⟩

theorem and_pred (x : Nat) (h0 : x ≠ 0) (h : x < 18446744073709551616) : bits BinOp.and IntKind.u64 (x : Int) ((x : Int) - 1) = ((x &&& (x - 1) : Nat) : Int) := by
  have e1 : (x : Int) - 1 = ((x - 1 : Nat) : Int) := by omega
  rw [e1, bits_and_u64_nat x _ h (by omega)]

set_option maxRecDepth 100000 in
set_option maxHeartbeats 1000000 in
theorem all1_seq (n b ob m S : Nat) (hS : S < 18446744073709551616) (W : World) (hb : Boxed W b 68 (.int .u64 S)) (hT : Tab W) (h4 : ob ≠ 1) (h8 : 1 < m) :
    SeqG Fence.wide n Tryd.prog 42 #[.pointer (some ⟨b, 0, none⟩)] (fun d : Nat => #[Value.int .i64 d]) (fun A B => A = B) (keepK m ob) (fun xs _ => xs = catsL S) (fun _ _ => True) (catsL S).length W := by
  intro l J Jx hJ hJx hY h0
  have hc := hb.cell
  (refine callsIn_of_wp Tryd.func42 rfl trivial ?_ rfl; simp only [Tryd.ntmps42, List.size_toArray, List.length_cons, List.length_nil, Nat.reduceAdd, Nat.reduceSub, Array.replicate_succ, Array.replicate_zero, List.push_toArray, List.append_toArray, List.nil_append, List.cons_append])
  refine wpIn_scope_w ?_
  gi_wp2
  refine wpIn_label ?_
  gi_wp2
  clear hc
  gi_loopw [3] (fun t wr => ∃ (pre : List Nat) (x : Nat), Hid (catsL S = pre ++ catsL x) ∧ x < 18446744073709551616 ∧ t = .int .u64 x ∧ Tab wr ∧ J pre wr) (fun t wr => (intOf t).toNat)
  case atStart => exact ⟨[], S, rfl, hS, rfl, hT, h0⟩
  case round =>
    obtain ⟨pre, x, hd, hm, rfl, hTw, hj⟩ := hrel
    by_cases hx0 : x = 0
    · subst hx0
      have HD : Hid (catsL S = pre) := by show _ = _; rw [hd.out, catsL_zero, List.append_nil]
      clear hd
      gi_wp2
      simp only [Exit.noGoto_normal]
      go_end0
      exact ⟨⟨_, rfl⟩, .inl ⟨_, HD.out.symm, hj⟩⟩
    · obtain ⟨hs1, hs2⟩ := catsL_step x hx0 hm
      have hz := tz_any x hx0 hm wr hTw
      have he : ((x : Int) != 0) = true := by simp; omega
      have ha := and_pred x hx0 hm
      generalize hy : x &&& (x - 1) = y at hs1 hs2 ha
      generalize Lib.ctz 64 x = k at hs1 hz
      clear hy
      have HD : Hid (catsL S = (pre ++ [k]) ++ catsL y) := by show _ = _; rw [hd.out, hs1]; simp
      clear hs1 hd
      have hlen2 : pre.length < (catsL S).length := by rw [HD.out]; simp
      obtain ⟨fn, tmps, assign, body, hy, hR⟩ := hY pre k wr hj hlen2
      clear hlen2
      gi_wp2_with (refine ⟨trivial, fun h => (by cases h), ?_⟩; gi_at_call 43; refine (callsIn_wide.2 hz).mono ?_; rintro e W1 ⟨rfl, rfl⟩)
      refine ⟨fun h => (by cases h), hR.mono ?_⟩
      rintro e V (⟨rfl, hj3, hk3⟩ | ⟨rfl, hj3⟩)
      · have hT3 : Tab V := hTw.same (hk3 _ h8 (Ne.symm h4))
        gi_wp2
        go_roundw
        case rel => exact ⟨_, y, HD, by omega, by simp, hT3, hj3⟩
        case measure => simp [intOf]; omega
      · gi_wp2
        simp only [Exit.noGoto_normal]
        go_end0
        exact ⟨⟨_, rfl⟩, .inr ⟨_, trivial, hj3⟩⟩

def intsV (l : List Nat) : List Value := l.map fun (i : Nat) => Value.int .i64 i
theorem catsL_len (s : Nat) : (catsL s).length ≤ 64 := by unfold catsL; exact Nat.le_trans (List.length_filter_le _ _) (by simp)
theorem intsV_len (l : List Nat) : (intsV l).length = l.length := by simp [intsV]

theorem row_base {W : World} {base base' : Nat} {e : TypeId} {size : Nat} {v : Value} {k : Nat} {xs : List Value} (h : W.ownsRow base e size v k xs) (hb : base' ≤ base) : W.ownsRow base' e size v k xs := by
  obtain ⟨h1, h2⟩ := h
  refine ⟨h1, ?_⟩
  rcases h2 with h2 | ⟨g, cap, cur, hv, hg, hr⟩
  · exact .inl h2
  · exact .inr ⟨g, cap, cur, hv, Nat.le_trans hb hg, hr⟩
/-- What a list that a call made reads as: nil, or a row of its own above base. -/
def RowOf (base : Nat) (t : TypeId) (n : Nat) (xs : List Value) (e : Ending) (w' : World) : Prop := ∃ v, e = .returned v ∧ w'.ownsRow base t 1 v n xs
set_option maxRecDepth 100000 in
set_option maxHeartbeats 2000000 in
theorem List_any (S : Nat) (hS : S < 18446744073709551616) (w : World) (hT : Tab w) :
    Calls Tryd.prog 19 #[.int .u64 S] w fun e w' => RowOf w.heap.size 3 (catsL S).length (intsV (catsL S)) e w' ∧ Below w.heap.size w w' := by
  obtain ⟨i0, hi, hz0, hz1, hz2⟩ := info_parts infoI
  have hlt := hT.lt
  refine (callsIn_wide (n := 3)).1 ?_
  (refine callsIn_of_wp_marks Tryd.func19 rfl trivial ?_ rfl; simp only [Tryd.ntmps19, List.size_toArray, List.length_cons, List.length_nil, Nat.reduceAdd, Nat.reduceSub, Array.replicate_succ, Array.replicate_zero, List.push_toArray, List.append_toArray, List.nil_append, List.cons_append])
  gi_wp2_with (refine ⟨trivial, ?_⟩; gi_at_call 33; refine (callsIn_wide.2 (all_any _ _)).mono ?_; rintro e w' ⟨rfl, rfl⟩)
  have o0 := Boxed.new w 40 (.slice none 0 0)
  have q0 := Boxed.new ((w.alloc (.cells #[.slice none 0 0] 40)).alloc (.cells #[.int .u64 S, .nilIface] 70)) 68 (.int .u64 S)
  rw [World.size_alloc, World.size_alloc] at q0
  have o1 := (o0.alloc (.cells #[.int .u64 S, .nilIface] 70)).alloc (.cells #[.int .u64 S] 68)
  have hB0 : Below w.heap.size w (((w.alloc (.cells #[.slice none 0 0] 40)).alloc (.cells #[.int .u64 S, .nilIface] 70)).alloc (.cells #[.int .u64 S] 68)) :=
    (((Below.refl _ w).alloc (Nat.le_refl _) _).alloc (by simp) _).alloc (by simp; omega) _
  have hz0' : (((w.alloc (.cells #[.slice none 0 0] 40)).alloc (.cells #[.int .u64 S, .nilIface] 70)).alloc (.cells #[.int .u64 S] 68)).heap.size = w.heap.size + 3 := by simp
  obtain ⟨W0, hW0⟩ : ∃ W0, ((w.alloc (.cells #[.slice none 0 0] 40)).alloc (.cells #[.int .u64 S, .nilIface] 70)).alloc (.cells #[.int .u64 S] 68) = W0 := ⟨_, rfl⟩
  rw [hW0] at o1 q0 hB0 hz0' ⊢
  clear hW0 o0
  have hT0 : Tab W0 := hT.same (hB0.block _ hlt)
  have hcl := catsL_len S
  refine range_law rfl (by omega) (gf := 42) (lb := #[.pointer (some ⟨w.heap.size + 2, 0, none⟩)]) rfl trivial (enters_of Tryd.func42 (by kernel_rfl) rfl)
    (G := fun A B => A = B) (Kp := keepK (w.heap.size + 3) w.heap.size)
    (fun W hW _ => all1_seq _ (w.heap.size + 2) w.heap.size (w.heap.size + 3) S hS W ((hW.block _ (by omega)).trans q0) (hT0.same (hW.block _ (by omega))) (by omega) (by omega)) keepK_t (by rw [hz0']; exact keepK_b) (fun A B h => by subst h; exact Keeps.refl _ _) (fun _ => rfl)
    (fun pre W => (∃ v, Boxed W w.heap.size 40 v ∧ W.ownsRow (w.heap.size + 3) 3 1 v pre.length (intsV pre)) ∧ Below w.heap.size w W ∧ w.heap.size + 3 ≤ W.heap.size) (fun _ _ _ => False)
    ((bears_ex fun v => (bears_boxed _ _ _ (fun _ => v)).and (bears_row _ _ _ _ (fun _ => v) _ _)).and ((bears_below (Nat.le_refl _) (by omega)).and (bears_size _ _))) (fun _ => bears_const _ _)
    (bears_const _ _) (bears_const _ _)
    (fun s A B h hg => by subst hg; exact h) (fun _ _ _ _ h _ => h)
    ⟨⟨_, o1, World.ownsRow_nil _ _ _ _⟩, hB0, by omega⟩
    (fun x => { tmps := #[.int .u64 S, undef, .slice none 0 0, .pointer (some ⟨w.heap.size, 0, none⟩), .pointer (some ⟨w.heap.size + 1, 0, none⟩), .int .i64 x, .int .u64 S, .agg #[.int .u64 S], .agg #[.int .u64 S, .nilIface], .pointer (some ⟨w.heap.size + 1, 0, none⟩),
      .pointer (some ⟨w.heap.size + 1, 0, none⟩), .pointer (some ⟨w.heap.size + 1, 0, none⟩), .pointer (some ⟨w.heap.size + 1, 0, none⟩), .agg #[.int .u64 S], .func (.func 42) #[] #[.pointer (some ⟨w.heap.size + 1 + 1, 0, none⟩)], .int .i64 x, undef, undef, undef, undef, undef], defers := [] }) ?assign ?body ?done ?stop
  case assign =>
    intro l x W K hK
    gi_wp2
    exact hK
  case body =>
    rintro l pre x W ⟨⟨v, hv, hrow⟩, hB, hz⟩ hlen
    have hc := hv.cell
    gi_wp2_with (gi_at_builtin; refine wpListIn_append_own _ rfl _ _ 40 rfl (w.heap.size + 3) 3 i0 (.int .i64 0) 1 8 Tryd.underlying40 hi hz0 hz1 hz2 rfl (by decide) _ _ _ rfl (hrow.alloc _) ⟨W.heap.size, 0, none⟩ 1 1 [.int .i64 x] rfl rfl (cell_one_new _ _ _) (by simp [Value.oneCell']) (by unfold maxLen; omega) (by omega) (by simp; omega) ?_; intro v' w1 hown' hgrow _; obtain ⟨g', cap', rfl⟩ := ownsRow_succ hown'; obtain ⟨hv1, hv2, hr2, hk2, hs2, hi2, hb2⟩ := appended hv (by decide) hrow hown' hgrow; have hc1 := hv1.cell; have hf1 := hv1.frozen)
    exact ⟨hk2 _, fun i hi ho => hi2 i (by omega) (by omega) ho, ⟨_, hv2, by simpa [intsV] using hr2⟩, hB.trans (hb2 _ (by omega) (by omega) (by omega)), by omega⟩
  case done =>
    rintro D xs W hD rfl ⟨⟨v, hv, hrow⟩, hB, hz⟩ hK
    have hc := hv.cell
    have hend : Below w.heap.size w (W.putObj D (.deferred none)) := hB.trans (belowK_b (w := w) (Nat.le_refl _) W D _ _ (by omega) hK rfl rfl)
    gi_wp2
    refine ⟨by simp, .inl ⟨_, _, rfl, run_takeDeferred hK, ?_⟩⟩
    refine ⟨_, results_tmp rfl _ _ _, ⟨v, rfl, ?_⟩, hend⟩
    exact (row_base (ownsRow_putObj hrow _ hK rfl) (by omega))
  case stop =>
    rintro D c pre W _ _ h _
    exact h.elim
end Go.Proofs.YtgobdhedeodpiaaDoor
