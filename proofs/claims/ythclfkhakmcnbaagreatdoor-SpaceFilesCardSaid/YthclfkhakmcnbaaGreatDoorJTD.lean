/- Joined: SpcG; SpcH; SpcI; SpcJ; SpcK; SpcL; SpcM -/
import Derived.Test.YthclfkhakmcnbaaGreatDoorJTC
/- Walks of layer 10: what a space costs. -/
namespace Go.Proofs.YthclfkhakmcnbaaGreatDoor
open Go.RowKit Go.Shelf
attribute [local go_sem] Oper.semAt_some
def SmallS (l : List ObjD) : Prop := ∀ x ∈ l, x.name.length ≤ 20 ∧ x.data.length ≤ 1000 ∧ 0 ≤ x.max ∧ x.max ≤ 2000
theorem costs_any (b : Nat) (w : World) : Calls Tryz.prog 100 #[.pointer (some ⟨b, 0, none⟩)] w fun e w' => e = .returned (.func (.func 115) #[] #[.pointer (some ⟨w.heap.size, 0, none⟩)]) ∧ w.alloc (.cells #[.pointer (some ⟨b, 0, none⟩)] 88) = w' := by
  have hmf : ∀ (fn : Fn) (first cap : Array Value) (w : World), (Instr.makeFunc fn first cap).run Tryz.prog w = .ok (.func fn first cap) w := fun _ _ _ _ => rfl
  go_enter Tryz.func100, Tryz.ntmps100
  go_wp2
  go_ret
  exact ⟨rfl, rfl⟩
/-- what a round must keep: blocks below m but its own box; the heap does not shrink -/
def keepS (m ob : Nat) (A B : World) : Prop := keepK m ob A B ∧ A.heap.size ≤ B.heap.size
theorem keepS_t {m ob : Nat} {A B C : World} (h : keepS m ob A B) (k : keepS m ob B C) : keepS m ob A C := ⟨keepK_t h.1 k.1, Nat.le_trans h.2 k.2⟩
theorem keepS_b {m ob : Nat} (W : World) (l : Nat) (o o' : Obj) (hl : m ≤ l) (h1 : W.heap[l]? = some o) (h2 : o.isCells = false) : keepS m ob W (W.putObj l o') := ⟨keepK_b W l o o' hl h1 h2, by rw [World.putObj_size]; exact Nat.le_refl _⟩
set_option maxRecDepth 100000 in
set_option maxHeartbeats 2000000 in
theorem costs1_seq (n b ob m q : Nat) (l : List ObjD) (hl : FitsS l) (hsm : SmallS l) (v : Value) (W : World) (hb : Boxed W b 88 (.pointer (some ⟨q, 0, none⟩))) (hq : W.cell? ⟨q, 0, none⟩ = some v) (hv : ObjsV W v l) (hmW : m ≤ W.heap.size) (hm : ∀ g o c k, v = .slice (some ⟨g, o, none⟩) k c → 0 < k → g < m ∧ g ≠ ob) :
    SeqG Fence.wide n Tryz.prog 115 #[.pointer (some ⟨b, 0, none⟩)] (fun d : Int => #[Value.int .i64 d]) (fun A B => A.grownBy B none) (keepS m ob) (fun xs _ => xs = l.map costO) (fun _ _ => True) l.length W := by
  intro lp J Jx hJ hJx hY h0
  have hc := hb.cell
  obtain ⟨a, cap, rfl, hcell⟩ := hv.at
  have hlm : l.length ≤ 1000000 := hl.1
  (refine callsIn_of_wp Tryz.func115 rfl trivial ?_ rfl; simp only [Tryz.ntmps115, List.size_toArray, List.length_cons, List.length_nil, Nat.reduceAdd, Nat.reduceSub, Array.replicate_succ, Array.replicate_zero, List.push_toArray, List.append_toArray, List.nil_append, List.cons_append])
  refine wpIn_scope_w ?_
  gi_wp2
  refine wpIn_label ?_
  gi_wp2
  clear hc hq
  have hcs : ∀ i (hi : i < l.length), ∃ b o a2 n2 cap2, a = some ⟨b, o, none⟩ ∧ b < m ∧ b ≠ ob ∧ W.cell? ⟨b, o + i * 5, none⟩ = some (.string ⟨l[i].name.toArray⟩) ∧ W.cell? ⟨b, o + i * 5 + 1, none⟩ = some (.int .i64 l[i].kind) ∧ W.cell? ⟨b, o + i * 5 + 2, none⟩ = some (.string ⟨l[i].data.toArray⟩) ∧ W.cell? ⟨b, o + i * 5 + 3, none⟩ = some (.int .i64 l[i].max) ∧ W.cell? ⟨b, o + i * 5 + 4, none⟩ = some (.slice a2 n2 cap2) := fun i hi => by
    obtain ⟨b, o, lv, rfl, hb, hlv, k0, k1, k2, k3, k4⟩ := hcell i hi
    obtain ⟨a2, cap2, rfl, -⟩ := hlv.at
    obtain ⟨h1, h2⟩ := hm b o cap l.length rfl (by omega)
    exact ⟨b, o, a2, _, cap2, rfl, h1, h2, k0, k1, k2, k3, k4⟩
  clear hcell hm hv
  gi_loopw [10] (fun t wr => ∃ k : Nat, k ≤ l.length ∧ t = .int .i64 k ∧ J ((l.map costO).take k) wr ∧ m ≤ wr.heap.size ∧ Hid (∀ g o, g < m → g ≠ ob → wr.cell? ⟨g, o, none⟩ = W.cell? ⟨g, o, none⟩)) (fun t wr => l.length - (intOf t).toNat)
  case atStart => exact ⟨0, Nat.zero_le _, rfl, h0, hmW, fun _ _ _ _ => rfl⟩
  case round =>
    obtain ⟨k, hk, rfl, hj, hmw, hC⟩ := hrel
    by_cases hlt : k < l.length
    · have hltz : (k : Int) < (l.length : Int) := by omega
      obtain ⟨g, o, a2, n2, cap2, rfl, hg1, hg2, k0, k1, k2, k3, k4⟩ := hcs k hlt
      have hCo := hC.out
      rw [← hCo _ _ hg1 hg2] at k0 k1 k2 k3 k4
      have hgw : g < wr.heap.size := by omega
      have hlen2 : ((l.map costO).take k).length < l.length := by rw [List.length_take, List.length_map]; omega
      have hel := hsm l[k] (List.getElem_mem _)
      have hts : (l.map costO).take k ++ [costO l[k]] = (l.map costO).take (k + 1) := by rw [List.take_succ_eq_append_getElem (by rw [List.length_map]; exact hlt)]; simp
      have hY1 := fun V hJV => hY ((l.map costO).take k) (costO l[k]) V hJV hlen2
      rw [hts] at hY1
      clear hlen2 hts hCo
      obtain ⟨x, hx⟩ : ∃ x, l[k] = x := ⟨_, rfl⟩
      rw [hx] at k0 k1 k2 k3 hel hY1
      clear hx hcs
      obtain ⟨name, kind, data, max, items⟩ := x
      dsimp only at *
      have hz1 := ba_size name
      have hz2 := ba_size data
      have hw1 : IntKind.i64.wrap ((10 : Int) + name.length) = 10 + name.length := IntWalk.i64_in _ (by omega)
      have hw2 : IntKind.i64.wrap ((10 : Int) + name.length + data.length) = 10 + name.length + data.length := IntWalk.i64_in _ (by omega)
      have hw3 : IntKind.i64.wrap ((10 : Int) + name.length + data.length + max) = 10 + name.length + data.length + max := IntWalk.i64_in _ (by omega)
      have hco : costO ⟨name, kind, data, max, items⟩ = 10 + name.length + data.length + max := rfl
      rw [hco] at hY1
      clear hco
      obtain ⟨W2, hW2⟩ : ∃ W2, W2 = wr.alloc (.cells #[.string ⟨name.toArray⟩, .int .i64 kind, .string ⟨data.toArray⟩, .int .i64 max, .slice a2 n2 cap2] 48) := ⟨_, rfl⟩
      have hg : wr.grownBy W2 none := by rw [hW2]; exact World.grownBy_alloc _ _ _
      have hY2 := hY1 W2 (hJ _ _ _ hj hg)
      clear hY1 hj
      obtain ⟨fn, tmps, assign, body, hy, hR⟩ := hY2
      rw [hW2] at hy
      have hRH := Lib.hid hR
      clear hR
      gi_wp2
      rw [← hW2]
      refine ⟨fun h => (by cases h), hRH.out.mono ?_⟩
      have hW2m : m ≤ W2.heap.size := Nat.le_trans hmw hg.size
      have hWC : Hid (∀ g o, g < m → g ≠ ob → W2.cell? ⟨g, o, none⟩ = W.cell? ⟨g, o, none⟩) := fun g' o' h1 h2 => (World.cell?_of_block (w := wr) (a := ⟨g', o', none⟩) (hg.block g' (by omega) (by simp))).trans (hC.out g' o' h1 h2)
      clear k0 k1 k2 k3 k4 hC hW2
      rintro e V (⟨rfl, hj3, hk3, hsz⟩ | ⟨rfl, hj3⟩)
      · gi_wp2
        go_roundw
        case rel => exact ⟨k + 1, by omega, by go_num, hj3, Nat.le_trans hW2m hsz, fun g' o' h1 h2 => (World.cell?_of_block (w := W2) (a := ⟨g', o', none⟩) (hk3 _ h1 h2)).trans (hWC.out g' o' h1 h2)⟩
        case measure => simp [intOf]; omega
      · gi_wp2
        simp only [Exit.noGoto_normal]
        go_end0
        exact ⟨⟨_, rfl⟩, .inr ⟨_, trivial, hj3⟩⟩
    · have hltz : ¬ (k : Int) < (l.length : Int) := by omega
      have hkl : k = l.length := by omega
      subst hkl
      rw [List.take_of_length_le (by rw [List.length_map]; exact Nat.le_refl _)] at hj
      clear hcs
      gi_wp2
      go_end0
      exact ⟨⟨_, rfl⟩, .inl hj⟩
end Go.Proofs.YthclfkhakmcnbaaGreatDoor
/- Walks of layer 10: what a space costs in all. -/
namespace Go.Proofs.YthclfkhakmcnbaaGreatDoor
open Go.RowKit Go.Shelf
attribute [local go_sem] Oper.semAt_some
def wsumI (pre : List Int) : Int := IntKind.i64.wrap pre.sum
theorem wsumI_nil : wsumI [] = 0 := by simp [wsumI, IntKind.wrap_i64]
theorem wsumI_snoc (pre : List Int) (x : Int) : IntKind.i64.wrap (wsumI pre + x) = wsumI (pre ++ [x]) := by
  simp only [wsumI, IntKind.wrap_i64, List.sum_append, List.sum_cons, List.sum_nil]; omega
theorem costL_in {l : List ObjD} (h : SmallS l) : 0 ≤ costL l ∧ costL l ≤ l.length * 3030 := by
  induction l with
  | nil => simp [costL]
  | cons x l ih =>
    have h1 := h x (by simp)
    have h2 := ih fun t ht => h t (by simp [ht])
    have e : costL (x :: l) = costO x + costL l := by simp [costL]
    have e2 : costO x = 10 + x.name.length + x.data.length + x.max := rfl
    rw [e, e2, List.length_cons]
    omega
theorem wsumI_in {l : List ObjD} (hl : l.length ≤ 1000000) (h : SmallS l) : wsumI (l.map costO) = costL l := by
  have := costL_in h
  show IntKind.i64.wrap (costL l) = costL l
  exact IntWalk.i64_in _ (by omega)
set_option maxRecDepth 100000 in
set_option maxHeartbeats 2000000 in
theorem cost_any (q : Nat) (l : List ObjD) (hl : FitsS l) (hsm : SmallS l) (v : Value) (w : World) (hq : w.cell? ⟨q, 0, none⟩ = some v) (hv : ObjsV w v l) :
    Calls Tryz.prog 65 #[.pointer (some ⟨q, 0, none⟩)] w fun e w' => e = .returned (.int .i64 (costL l)) ∧ Below w.heap.size w w' := by
  refine (callsIn_wide (n := 3)).1 ?_
  (refine callsIn_of_wp_marks Tryz.func65 rfl trivial ?_ rfl; simp only [Tryz.ntmps65, List.size_toArray, List.length_cons, List.length_nil, Nat.reduceAdd, Nat.reduceSub, Array.replicate_succ, Array.replicate_zero, List.push_toArray, List.append_toArray, List.nil_append, List.cons_append])
  gi_wp2_with (refine ⟨trivial, ?_⟩; gi_at_call 100; refine (callsIn_wide.2 (costs_any q _)).mono ?_; rintro e w' ⟨rfl, rfl⟩)
  have o0 := Boxed.new w 3 (.int .i64 0)
  have q0 := Boxed.new (w.alloc (.cells #[.int .i64 0] 3)) 88 (.pointer (some ⟨q, 0, none⟩))
  rw [World.size_alloc] at q0
  have o1 := o0.alloc (.cells #[.pointer (some ⟨q, 0, none⟩)] 88)
  have hB0 : Below w.heap.size w ((w.alloc (.cells #[.int .i64 0] 3)).alloc (.cells #[.pointer (some ⟨q, 0, none⟩)] 88)) :=
    ((Below.refl _ w).alloc (Nat.le_refl _) _).alloc (by simp) _
  have hz0' : ((w.alloc (.cells #[.int .i64 0] 3)).alloc (.cells #[.pointer (some ⟨q, 0, none⟩)] 88)).heap.size = w.heap.size + 2 := by simp
  obtain ⟨W0, hW0⟩ : ∃ W0, (w.alloc (.cells #[.int .i64 0] 3)).alloc (.cells #[.pointer (some ⟨q, 0, none⟩)] 88) = W0 := ⟨_, rfl⟩
  rw [hW0] at o1 q0 hB0 hz0' ⊢
  clear hW0 o0
  rw [← wsumI_nil] at o1
  have hlm := hl.1
  have hK0 := KeepC.of_below hB0
  have hqlt := World.block_lt_of_cell? w _ hq
  refine range_law rfl (by omega) (gf := 115) (lb := #[.pointer (some ⟨w.heap.size + 1, 0, none⟩)]) rfl trivial (enters_of Tryz.func115 (by kernel_rfl) rfl)
    (G := fun A B => A.grownBy B none) (Kp := keepS (w.heap.size + 2) w.heap.size)
    (fun W hW hWz => costs1_seq _ (w.heap.size + 1) w.heap.size (w.heap.size + 2) q l hl hsm v W ((hW.block _ (by omega)).trans q0) ((KeepC.of_below hW).2 _ _ _ (hK0.2 _ _ _ hq)) ((hv.keep hK0).keep (KeepC.of_below hW)) (by omega)
      (fun g o c k e hk => by
        have hlt : g < w.heap.size := by
          obtain ⟨a, cap, e2, hc⟩ := hv.at
          rw [e2] at e
          cases e
          obtain ⟨b, o', lv, e3, hb, _⟩ := hc 0 hk
          cases e3
          exact hb
        omega)) keepS_t (by rw [hz0']; exact keepS_b) (fun A B h k o _ ho _ => (h.block k (Array.getElem?_eq_some_iff.1 ho).1 (by simp)).trans ho) (fun _ => rfl)
    (fun pre W => Boxed W w.heap.size 3 (.int .i64 (wsumI pre)) ∧ Below w.heap.size w W ∧ w.heap.size + 2 ≤ W.heap.size) (fun _ _ _ => False)
    ((bears_boxed _ _ _ (fun pre => .int .i64 (wsumI pre))).and ((bears_below (Nat.le_refl _) (by omega)).and (bears_size _ _))) (fun _ => bears_const _ _)
    (bears_const _ _) (bears_const _ _)
    (fun s A B h hg => ⟨h.1.kept hg (by simp), h.2.1.grown hg h.2.1.size (fun k e => by cases e), Nat.le_trans h.2.2 hg.size⟩) (fun _ _ _ _ h _ => h)
    ⟨o1, hB0, by omega⟩
    (fun x => { tmps := #[.pointer (some ⟨q, 0, none⟩), undef, .int .i64 0, .pointer (some ⟨w.heap.size, 0, none⟩), .int .i64 x, .pointer (some ⟨q, 0, none⟩), .func (.func 115) #[] #[.pointer (some ⟨w.heap.size + 1, 0, none⟩)], .int .i64 x, undef, undef, undef, undef], defers := [] }) ?assign ?body ?done ?stop
  case assign =>
    intro lp x W K hK
    gi_wp2
    exact hK
  case body =>
    rintro lp pre x W ⟨hb, hB, hz⟩ hlen
    have hc := hb.cell
    have hf := hb.frozen
    have hws := wsumI_snoc pre x
    have hbH := Lib.hid hb
    clear hb
    generalize wsumI pre = y at hc hws hbH
    gi_wp2
    exact ⟨Keeps.setCell _ _ _ _ hbH.out, ⟨fun i _ ho => Below.heap_setCell _ _ _ _ ho, by rw [size_setCell]; exact Nat.le_refl _⟩, hbH.out.set _, hB.setCell (p := ⟨w.heap.size, 0, none⟩) (Nat.le_refl _) _, by rw [size_setCell]; exact hz⟩
  case done =>
    rintro D xs W hD rfl ⟨hb, hB, hz⟩ hK
    have hc := hb.cell
    have hend : Below w.heap.size w (W.putObj D (.deferred none)) := hB.trans (belowK_b (w := w) (Nat.le_refl _) W D _ _ (by omega) hK rfl rfl)
    rw [wsumI_in hlm hsm] at hc
    gi_wp2
    refine ⟨by simp, .inl ⟨_, _, rfl, run_takeDeferred hK, ?_⟩⟩
    refine ⟨_, results_tmp rfl _ _ _, rfl, hend⟩
  case stop =>
    rintro D c pre W _ _ h _
    exact h.elim
end Go.Proofs.YthclfkhakmcnbaaGreatDoor
/- Walks of layer 10: Cost. -/
namespace Go.Proofs.YthclfkhakmcnbaaGreatDoor
open Go.RowKit Go.Shelf
attribute [local go_sem] Oper.semAt_some
theorem small_obj {x : ObjD} (h : objB x = true) : x.name.length ≤ 20 ∧ x.data.length ≤ 1000 ∧ 0 ≤ x.max ∧ x.max ≤ 2000 := by
  unfold objB at h
  split at h
  · simp only [nameB, Bool.and_eq_true, decide_eq_true_eq, beq_iff_eq] at h
    obtain ⟨⟨⟨h1, h2⟩, h3⟩, -⟩ := h
    exact ⟨h1.2, h2, by omega, by omega⟩
  · split at h
    · simp only [nameB, ringB, Bool.and_eq_true, decide_eq_true_eq, List.isEmpty_iff] at h
      obtain ⟨⟨h1, h2⟩, h3⟩ := h
      exact ⟨h1.2, by rw [h2]; simp, by omega, by omega⟩
    · cases h
theorem small_of {l : List ObjD} (h : spaceB l = true) : SmallS l := by
  have aux : ∀ (l : List ObjD) (last : List UInt8), spB last l = true → SmallS l := by
    intro l
    induction l with
    | nil => intro _ _ x hx; cases hx
    | cons y l ih =>
      intro last h x hx
      simp only [spB, Bool.and_eq_true] at h
      rcases List.mem_cons.1 hx with rfl | hx
      · exact small_obj h.1.1
      · exact ih _ h.2 x hx
  simp only [spaceB, Bool.and_eq_true] at h
  exact aux _ _ h.1
set_option maxHeartbeats 1000000 in
theorem Cost_any (l : List ObjD) (hl : FitsS l) (v : Value) (ea : Addr) (w : World) (hge : w.cell? ⟨0, 0, none⟩ = some (errV8 ea)) (hv : ObjsV w v l) :
    Calls Tryz.prog 29 #[v] w fun e w' => e = .returned (.int .i64 (costS l)) ∧ Below w.heap.size w w' := by
  obtain ⟨a, cap, rfl, -⟩ := hv.at
  have HR := spaceRight_any l hl _ ea w hge hv
  have HC := fun (hs : spaceB l = true) (W : World) (hB : Below w.heap.size w W) => cost_any W.heap.size l hl (small_of hs) _ (W.alloc (.cells #[.slice a l.length cap] 67)) ((Blk.new W #[.slice a l.length cap] 67).cell 0) ((hv.keep (KeepC.of_below hB)).keep (KeepC.alloc _ _))
  have hcs : costS l = if spaceB l = true then costL l else 0 := rfl
  rw [hcs]
  clear hv hge hcs
  generalize spaceB l = r at *
  cases r with
  | false =>
    rw [if_neg (by simp)]
    clear HC
    go_enter Tryz.func29, Tryz.ntmps29
    go_wp2_with fail
    refine HR.mono ?_
    rintro e w2 ⟨rfl, hb2⟩
    go_wp2_with fail
    go_ret
    exact ⟨rfl, hb2⟩
  | true =>
    rw [if_pos rfl]
    have HC2 := Lib.hid (HC rfl)
    clear HC
    go_enter Tryz.func29, Tryz.ntmps29
    go_wp2_with fail
    refine HR.mono ?_
    rintro e w2 ⟨rfl, hb2⟩
    have H := HC2.out w2 hb2
    clear HC2 HR
    go_wp2_with fail
    refine H.mono ?_
    rintro e w3 ⟨rfl, hb3⟩
    go_wp2_with fail
    go_ret
    exact ⟨rfl, (hb2.alloc hb2.size _).trans (hb3.mono (by simp; exact Nat.le_succ_of_le hb2.size))⟩
end Go.Proofs.YthclfkhakmcnbaaGreatDoor
/- Walks of layer 10: whether two objects are the same. -/
namespace Go.Proofs.YthclfkhakmcnbaaGreatDoor
open Go.RowKit Go.Shelf
attribute [local go_sem] Oper.semAt_some
set_option maxRecDepth 100000 in
set_option maxHeartbeats 2000000 in
theorem sameObj_any (x y : ObjD) (hx : FitsO x) (hy : FitsO y) (lv lu : Value) (w : World) (hv : StrsV w lv x.items) (hu : StrsV w lu y.items) :
    Calls Tryz.prog 75 #[objV x lv, objV y lu] w fun e w' => e = .returned (.bool (sameO x y)) ∧ Below w.heap.size w w' := by
  obtain ⟨n1, k1, d1, m1, i1⟩ := x
  obtain ⟨n2, k2, d2, m2, i2⟩ := y
  obtain ⟨hn1, hd1, hl1⟩ := hx
  obtain ⟨hn2, hd2, hl2⟩ := hy
  dsimp only at *
  obtain ⟨a1, c1, rfl, -⟩ := hv.at
  obtain ⟨a2, c2, rfl, -⟩ := hu.at
  have hB1 := ((Below.refl w.heap.size w).alloc (Nat.le_refl _) (.cells #[.string ⟨n1.toArray⟩, .int .i64 k1, .string ⟨d1.toArray⟩, .int .i64 m1, .slice a1 i1.length c1] 48)).alloc (by simp) (.cells #[.string ⟨n2.toArray⟩, .int .i64 k2, .string ⟨d2.toArray⟩, .int .i64 m2, .slice a2 i2.length c2] 48)
  have HE := ringSame_any i1 i2 hl1 hl2 m1 m2 _ _ _ (hv.keep (KeepC.of_below hB1)) (hu.keep (KeepC.of_below hB1))
  generalize hR : sameO ⟨n1, k1, d1, m1, i1⟩ ⟨n2, k2, d2, m2, i2⟩ = R
  simp only [sameO] at hR
  generalize (m1 == m2 && i1 == i2) = r at *
  have HR := Lib.hid hR
  clear hR hv hu
  cases h1 : (n1 == n2) with
  | false =>
    have HR2 : Hid (false = R) := by show _ = _; rw [← HR.out, h1]; rfl
    clear HR HE
    go_enter Tryz.func75, Tryz.ntmps75
    go_wp2_with fail
    go_ret
    exact ⟨ret_bool (by rw [← HR2.out]), hB1⟩
  | true =>
    cases h2 : (k1 == k2) with
    | false =>
      have HR2 : Hid (false = R) := by show _ = _; rw [← HR.out, h2]; simp
      clear HR HE
      go_enter Tryz.func75, Tryz.ntmps75
      go_wp2_with fail
      go_ret
      exact ⟨ret_bool (by rw [← HR2.out]), hB1⟩
    | true =>
      cases h3 : (d1 == d2) with
      | false =>
        have HR2 : Hid (false = R) := by show _ = _; rw [← HR.out, h3]; simp
        clear HR HE
        go_enter Tryz.func75, Tryz.ntmps75
        go_wp2_with fail
        go_ret
        exact ⟨ret_bool (by rw [← HR2.out]), hB1⟩
      | true =>
        have HR2 : Hid (r = R) := by show _ = _; rw [← HR.out, h1, h2, h3]; simp
        clear HR
        have HE2 := Lib.hid HE
        clear HE
        go_enter Tryz.func75, Tryz.ntmps75
        go_wp2_with fail
        refine HE2.out.mono ?_
        rintro e w2 ⟨rfl, hb2⟩
        go_wp2_with fail
        go_ret
        exact ⟨ret_bool (by rw [← HR2.out]), hB1.trans (hb2.mono hB1.size)⟩
set_option maxRecDepth 100000 in
set_option maxHeartbeats 2000000 in
theorem one_any (x y : ObjD) (hx : FitsO x) (hy : FitsO y) (lv lu : Value) (w : World) (hv : StrsV w lv x.items) (hu : StrsV w lu y.items) :
    Calls Tryz.prog 58 #[objV x lv, objV y lu] w fun e w' => e = .returned (.bool (sameO x y)) ∧ Below w.heap.size w w' := by
  obtain ⟨n1, k1, d1, m1, i1⟩ := x
  obtain ⟨n2, k2, d2, m2, i2⟩ := y
  obtain ⟨hn1, hd1, hl1⟩ := hx
  obtain ⟨hn2, hd2, hl2⟩ := hy
  dsimp only at *
  obtain ⟨a1, c1, rfl, -⟩ := hv.at
  obtain ⟨a2, c2, rfl, -⟩ := hu.at
  have hB1 := ((Below.refl w.heap.size w).alloc (Nat.le_refl _) (.cells #[.string ⟨n1.toArray⟩, .int .i64 k1, .string ⟨d1.toArray⟩, .int .i64 m1, .slice a1 i1.length c1] 48)).alloc (by simp) (.cells #[.string ⟨n2.toArray⟩, .int .i64 k2, .string ⟨d2.toArray⟩, .int .i64 m2, .slice a2 i2.length c2] 48)
  have HE := ringSameR_any i1 i2 hl1 hl2 m1 m2 _ _ _ (hv.keep (KeepC.of_below hB1)) (hu.keep (KeepC.of_below hB1))
  generalize hR : sameO ⟨n1, k1, d1, m1, i1⟩ ⟨n2, k2, d2, m2, i2⟩ = R
  simp only [sameO] at hR
  generalize (m1 == m2 && i1 == i2) = r at *
  have HR := Lib.hid hR
  clear hR hv hu
  cases h1 : (n1 == n2) with
  | false =>
    have HR2 : Hid (false = R) := by show _ = _; rw [← HR.out, h1]; rfl
    clear HR HE
    go_enter Tryz.func58, Tryz.ntmps58
    go_wp2_with fail
    go_ret
    exact ⟨ret_bool (by rw [← HR2.out]), hB1⟩
  | true =>
    cases h2 : (k1 == k2) with
    | false =>
      have HR2 : Hid (false = R) := by show _ = _; rw [← HR.out, h2]; simp
      clear HR HE
      go_enter Tryz.func58, Tryz.ntmps58
      go_wp2_with fail
      go_ret
      exact ⟨ret_bool (by rw [← HR2.out]), hB1⟩
    | true =>
      cases h3 : (d1 == d2) with
      | false =>
        have HR2 : Hid (false = R) := by show _ = _; rw [← HR.out, h3]; simp
        clear HR HE
        go_enter Tryz.func58, Tryz.ntmps58
        go_wp2_with fail
        go_ret
        exact ⟨ret_bool (by rw [← HR2.out]), hB1⟩
      | true =>
        have HR2 : Hid (r = R) := by show _ = _; rw [← HR.out, h1, h2, h3]; simp
        clear HR
        have HE2 := Lib.hid HE
        clear HE
        go_enter Tryz.func58, Tryz.ntmps58
        go_wp2_with fail
        refine HE2.out.mono ?_
        rintro e w2 ⟨rfl, hb2⟩
        go_wp2_with fail
        go_ret
        exact ⟨ret_bool (by rw [← HR2.out]), hB1.trans (hb2.mono hB1.size)⟩
end Go.Proofs.YthclfkhakmcnbaaGreatDoor
/- Walks of layer 10: whether two spaces are the same. -/
namespace Go.Proofs.YthclfkhakmcnbaaGreatDoor
open Go.RowKit Go.Shelf
attribute [local go_sem] Oper.semAt_some
theorem zipAll_take {a b : List ObjD} (k : Nat) (h1 : k < a.length) (h2 : k < b.length) : ((a.zip b).take (k + 1)).all (fun p => sameO p.1 p.2) = (((a.zip b).take k).all (fun p => sameO p.1 p.2) && sameO a[k] b[k]) := by
  rw [List.take_succ_eq_append_getElem (by rw [List.length_zip]; omega), List.all_append]; simp
theorem zipAll_no {a b : List ObjD} (k : Nat) (h1 : k < a.length) (h2 : k < b.length) (h : sameO a[k] b[k] = false) : ((a.zip b).all fun p => sameO p.1 p.2) = false := by
  rw [List.all_eq_false]
  have hk : k < (a.zip b).length := by rw [List.length_zip]; omega
  have e : (a.zip b)[k] = (a[k], b[k]) := List.getElem_zip
  exact ⟨(a[k], b[k]), by rw [← e]; exact List.getElem_mem _, by simp [h]⟩
set_option maxRecDepth 100000 in
set_option maxHeartbeats 4000000 in
theorem equalO_any (l m : List ObjD) (hl : FitsS l) (hm : FitsS m) (v u : Value) (w : World) (hv : ObjsV w v l) (hu : ObjsV w u m) :
    Calls Tryz.prog 74 #[v, u, .func (.func 75) #[] #[]] w fun e w' => e = .returned (.bool (sameS l m)) ∧ Below w.heap.size w w' := by
  obtain ⟨a, cap, rfl, hc⟩ := hv.at
  obtain ⟨a2, cap2, rfl, hc2⟩ := hu.at
  have hlm : l.length ≤ 1000000 := hl.1
  have hmm : m.length ≤ 1000000 := hm.1
  have eg : ∀ args w, (callFunc 75 args).run Tryz.prog w = .ok (.enter 75 args) w := enters_of Tryz.func75 (by kernel_rfl) rfl
  by_cases hlen : l.length = m.length
  · rw [← hlen]
    have hlH := Lib.hid hlen
    generalize hR : sameS l m = R
    rw [sameS, decide_eq_true hlen, Bool.true_and] at hR
    have HR := Lib.hid hR
    clear hR hv hu
    have hc2' : ∀ i (hi : i < l.length), ∃ y b o lv, m[i]? = some y ∧ a2 = some ⟨b, o, none⟩ ∧ StrsV w lv y.items ∧ w.cell? ⟨b, o + i * 5, none⟩ = some (.string ⟨y.name.toArray⟩) ∧ w.cell? ⟨b, o + i * 5 + 1, none⟩ = some (.int .i64 y.kind) ∧ w.cell? ⟨b, o + i * 5 + 2, none⟩ = some (.string ⟨y.data.toArray⟩) ∧ w.cell? ⟨b, o + i * 5 + 3, none⟩ = some (.int .i64 y.max) ∧ w.cell? ⟨b, o + i * 5 + 4, none⟩ = some lv := fun i hi => by
      have h2 : i < m.length := by omega
      obtain ⟨b, o, lv, e1, _, e2, e3⟩ := hc2 i h2
      exact ⟨m[i], b, o, lv, List.getElem?_eq_getElem h2, e1, e2, e3⟩
    clear hc2 hlen
    go_enter Tryz.func74, Tryz.ntmps74
    go_wp2_with fail
    go_loopg [17] l.length (fun gg s17 wr => ∃ kk : Nat, kk ≤ l.length ∧ l.length - kk ≤ gg ∧ s17 = .int .i64 kk ∧ Below w.heap.size w wr ∧ Hid (((l.zip m).take kk).all (fun p => sameO p.1 p.2) = true))
    case atStart => exact ⟨0, Nat.zero_le _, by omega, rfl, Below.refl _ _, rfl⟩
    case round =>
      obtain ⟨kk, hkk, hg, rfl, hB, hS⟩ := hrel
      by_cases hlt : kk < l.length
      · have hltz : (kk : Int) < (l.length : Int) := by omega
        have hk2 : kk < m.length := by rw [← hlH.out]; exact hlt
        obtain ⟨b, o, lv, rfl, -, hlv, k0, k1, k2, k3, k4⟩ := hc kk hlt
        obtain ⟨y, b2, o2, lu, hy, rfl, hlu, j0, j1, j2, j3, j4⟩ := hc2' kk hlt
        obtain rfl : m[kk] = y := by rw [List.getElem?_eq_getElem hk2] at hy; injection hy
        have hfx := hl.2 l[kk] (List.getElem_mem _)
        have hfy := hm.2 m[kk] (List.getElem_mem _)
        have hyes := zipAll_take kk hlt hk2
        have hno := zipAll_no kk hlt hk2
        rw [hS.out] at hyes
        have hBk := KeepC.of_below hB
        replace k0 := hBk.2 _ _ _ k0
        replace k1 := hBk.2 _ _ _ k1
        replace k2 := hBk.2 _ _ _ k2
        replace k3 := hBk.2 _ _ _ k3
        replace k4 := hBk.2 _ _ _ k4
        replace j0 := hBk.2 _ _ _ j0
        replace j1 := hBk.2 _ _ _ j1
        replace j2 := hBk.2 _ _ _ j2
        replace j3 := hBk.2 _ _ _ j3
        replace j4 := hBk.2 _ _ _ j4
        replace hlv := hlv.keep hBk
        replace hlu := hlu.keep hBk
        have hblt : b < wr.heap.size := World.block_lt_of_cell? wr _ k0
        have hb2lt : b2 < wr.heap.size := World.block_lt_of_cell? wr _ j0
        have hbn : b2 ≠ wr.heap.size := by omega
        clear hc hc2' hy hS hBk
        generalize l[kk] = x at *
        generalize m[kk] = y at *
        have HE := fun W (h : KeepC wr W) => sameObj_any x y hfx hfy lv lu W (hlv.keep h) (hlu.keep h)
        obtain ⟨n1, p1, d1, m1, i1⟩ := x
        obtain ⟨n2, p2, d2, m2, i2⟩ := y
        dsimp only at *
        obtain ⟨a3, c3, rfl, -⟩ := hlv.at
        obtain ⟨a4, c4, rfl, -⟩ := hlu.at
        have hB1 := ((Below.refl wr.heap.size wr).alloc (Nat.le_refl _) (.cells #[.string ⟨n1.toArray⟩, .int .i64 p1, .string ⟨d1.toArray⟩, .int .i64 m1, .slice a3 i1.length c3] 48)).alloc (by simp) (.cells #[.string ⟨n2.toArray⟩, .int .i64 p2, .string ⟨d2.toArray⟩, .int .i64 m2, .slice a4 i2.length c4] 48)
        have HE1 := HE _ (KeepC.of_below hB1)
        clear HE hlv hlu hfx hfy
        generalize sameO ⟨n1, p1, d1, m1, i1⟩ ⟨n2, p2, d2, m2, i2⟩ = r at *
        have HE2 := Lib.hid HE1
        clear HE1
        cases r with
        | true =>
          have HY := Lib.hid hyes
          clear hyes hno
          go_wp2_with (go_at_fn 75; refine HE2.out.mono ?_; rintro e w2 ⟨rfl, hb2⟩)
          go_roundg (l.length - (kk + 1))
          case measure => omega
          case rel => exact ⟨kk + 1, by omega, by omega, by go_num, hB.trans ((hB1.trans (hb2.mono hB1.size)).mono hB.size), HY.out⟩
        | false =>
          have HN := Lib.hid (hno rfl)
          clear hyes hno
          go_wp2_with (go_at_fn 75; refine HE2.out.mono ?_; rintro e w2 ⟨rfl, hb2⟩)
          go_ret
          exact ⟨ret_bool (by rw [← HR.out, HN.out]), hB.trans ((hB1.trans (hb2.mono hB1.size)).mono hB.size)⟩
      · have hltz : ¬ (kk : Int) < (l.length : Int) := by omega
        have hA : ((l.zip m).all fun p => sameO p.1 p.2) = true := by have := hS.out; rwa [List.take_of_length_le (by rw [List.length_zip]; omega)] at this
        have HR2 : Hid (true = R) := by show _ = _; rw [← HR.out, hA]
        clear hS hA HR hc hc2'
        go_wp2_with fail
        go_ret
        exact ⟨ret_bool (by rw [← HR2.out]), hB⟩
  · have hne : sameS l m = false := by rw [sameS, decide_eq_false hlen]; rfl
    rw [hne]
    clear hv hu hc hc2
    have hz : ¬ (l.length : Int) = (m.length : Int) := by omega
    go_enter Tryz.func74, Tryz.ntmps74
    go_wp2
    go_ret
    exact ⟨rfl, Below.refl _ _⟩
end Go.Proofs.YthclfkhakmcnbaaGreatDoor
/- Walks of layer 10: Same. -/
namespace Go.Proofs.YthclfkhakmcnbaaGreatDoor
open Go.RowKit Go.Shelf
attribute [local go_sem] Oper.semAt_some
theorem spaceSame_any (l m : List ObjD) (hl : FitsS l) (hm : FitsS m) (v u : Value) (w : World) (hv : ObjsV w v l) (hu : ObjsV w u m) :
    Calls Tryz.prog 36 #[v, u] w fun e w' => e = .returned (.bool (sameS l m)) ∧ Below w.heap.size w w' := by
  have H := equalO_any l m hl hm v u w hv hu
  generalize sameS l m = r at *
  go_enter Tryz.func36, Tryz.ntmps36
  go_wp2_with (go_at_call 74; refine H.mono ?_; rintro e w' ⟨rfl, hb⟩)
  go_ret
  exact ⟨rfl, hb⟩
end Go.Proofs.YthclfkhakmcnbaaGreatDoor
/- Walks of layer 10's reference: Same. -/
namespace Go.Proofs.YthclfkhakmcnbaaGreatDoor
open Go.RowKit Go.Shelf
attribute [local go_sem] Oper.semAt_some
set_option maxRecDepth 100000 in
set_option maxHeartbeats 4000000 in
theorem sameR_any (l m : List ObjD) (hl : FitsS l) (hm : FitsS m) (v u : Value) (w : World) (hv : ObjsV w v l) (hu : ObjsV w u m) :
    Calls Tryz.prog 20 #[v, u] w fun e w' => e = .returned (.bool (sameS l m)) ∧ Below w.heap.size w w' := by
  obtain ⟨a, cap, rfl, hc⟩ := hv.at
  obtain ⟨a2, cap2, rfl, hc2⟩ := hu.at
  have hlm : l.length ≤ 1000000 := hl.1
  have hmm : m.length ≤ 1000000 := hm.1
  by_cases hlen : l.length = m.length
  · rw [← hlen]
    have hlH := Lib.hid hlen
    generalize hR : sameS l m = R
    rw [sameS, decide_eq_true hlen, Bool.true_and] at hR
    have HR := Lib.hid hR
    clear hR hv hu
    have hc2' : ∀ i (hi : i < l.length), ∃ y b o lv, m[i]? = some y ∧ a2 = some ⟨b, o, none⟩ ∧ StrsV w lv y.items ∧ w.cell? ⟨b, o + i * 5, none⟩ = some (.string ⟨y.name.toArray⟩) ∧ w.cell? ⟨b, o + i * 5 + 1, none⟩ = some (.int .i64 y.kind) ∧ w.cell? ⟨b, o + i * 5 + 2, none⟩ = some (.string ⟨y.data.toArray⟩) ∧ w.cell? ⟨b, o + i * 5 + 3, none⟩ = some (.int .i64 y.max) ∧ w.cell? ⟨b, o + i * 5 + 4, none⟩ = some lv := fun i hi => by
      have h2 : i < m.length := by omega
      obtain ⟨b, o, lv, e1, _, e2, e3⟩ := hc2 i h2
      exact ⟨m[i], b, o, lv, List.getElem?_eq_getElem h2, e1, e2, e3⟩
    clear hc2 hlen
    go_enter Tryz.func20, Tryz.ntmps20
    go_wp2_with fail
    go_loopg [5] l.length (fun gg s17 wr => ∃ kk : Nat, kk ≤ l.length ∧ l.length - kk ≤ gg ∧ s17 = .int .i64 kk ∧ Below w.heap.size w wr ∧ Hid (((l.zip m).take kk).all (fun p => sameO p.1 p.2) = true))
    case atStart => exact ⟨0, Nat.zero_le _, by omega, rfl, Below.refl _ _, rfl⟩
    case round =>
      obtain ⟨kk, hkk, hg, rfl, hB, hS⟩ := hrel
      by_cases hlt : kk < l.length
      · have hltz : (kk : Int) < (l.length : Int) := by omega
        have hk2 : kk < m.length := by rw [← hlH.out]; exact hlt
        obtain ⟨b, o, lv, rfl, -, hlv, k0, k1, k2, k3, k4⟩ := hc kk hlt
        obtain ⟨y, b2, o2, lu, hy, rfl, hlu, j0, j1, j2, j3, j4⟩ := hc2' kk hlt
        obtain rfl : m[kk] = y := by rw [List.getElem?_eq_getElem hk2] at hy; injection hy
        have hfx := hl.2 l[kk] (List.getElem_mem _)
        have hfy := hm.2 m[kk] (List.getElem_mem _)
        have hyes := zipAll_take kk hlt hk2
        have hno := zipAll_no kk hlt hk2
        rw [hS.out] at hyes
        have hBk := KeepC.of_below hB
        replace k0 := hBk.2 _ _ _ k0
        replace k1 := hBk.2 _ _ _ k1
        replace k2 := hBk.2 _ _ _ k2
        replace k3 := hBk.2 _ _ _ k3
        replace k4 := hBk.2 _ _ _ k4
        replace j0 := hBk.2 _ _ _ j0
        replace j1 := hBk.2 _ _ _ j1
        replace j2 := hBk.2 _ _ _ j2
        replace j3 := hBk.2 _ _ _ j3
        replace j4 := hBk.2 _ _ _ j4
        replace hlv := hlv.keep hBk
        replace hlu := hlu.keep hBk
        have hblt : b < wr.heap.size := World.block_lt_of_cell? wr _ k0
        have hb2lt : b2 < wr.heap.size := World.block_lt_of_cell? wr _ j0
        have hbn : b2 ≠ wr.heap.size := by omega
        clear hc hc2' hy hS hBk
        generalize l[kk] = x at *
        generalize m[kk] = y at *
        have HE := fun W (h : KeepC wr W) => one_any x y hfx hfy lv lu W (hlv.keep h) (hlu.keep h)
        obtain ⟨n1, p1, d1, m1, i1⟩ := x
        obtain ⟨n2, p2, d2, m2, i2⟩ := y
        dsimp only at *
        obtain ⟨a3, c3, rfl, -⟩ := hlv.at
        obtain ⟨a4, c4, rfl, -⟩ := hlu.at
        have hkd : KeepC wr wr.drew := ⟨Nat.le_refl _, fun _ _ _ h => h⟩
        have HE1 := HE wr.drew hkd
        clear HE hlv hlu hfx hfy
        have SK : Hid (∀ W, Below wr.heap.size wr W → (W.cell? ⟨b, o + kk * 5, none⟩ = some (.string ⟨n1.toArray⟩) ∧ W.cell? ⟨b, o + kk * 5 + 1, none⟩ = some (.int .i64 p1) ∧ W.cell? ⟨b, o + kk * 5 + 2, none⟩ = some (.string ⟨d1.toArray⟩) ∧ W.cell? ⟨b, o + kk * 5 + 3, none⟩ = some (.int .i64 m1) ∧ W.cell? ⟨b, o + kk * 5 + 4, none⟩ = some (.slice a3 i1.length c3)) ∧ (W.cell? ⟨b2, o2 + kk * 5, none⟩ = some (.string ⟨n2.toArray⟩) ∧ W.cell? ⟨b2, o2 + kk * 5 + 1, none⟩ = some (.int .i64 p2) ∧ W.cell? ⟨b2, o2 + kk * 5 + 2, none⟩ = some (.string ⟨d2.toArray⟩) ∧ W.cell? ⟨b2, o2 + kk * 5 + 3, none⟩ = some (.int .i64 m2) ∧ W.cell? ⟨b2, o2 + kk * 5 + 4, none⟩ = some (.slice a4 i2.length c4))) := by
          show ∀ W, _
          intro W h
          have hk := (KeepC.of_below h).2
          exact ⟨⟨hk _ _ _ k0, hk _ _ _ k1, hk _ _ _ k2, hk _ _ _ k3, hk _ _ _ k4⟩, hk _ _ _ j0, hk _ _ _ j1, hk _ _ _ j2, hk _ _ _ j3, hk _ _ _ j4⟩
        generalize sameO ⟨n1, p1, d1, m1, i1⟩ ⟨n2, p2, d2, m2, i2⟩ = r at *
        go_wp2_with fail
        go_region_held3 (fun u => (u.cell? ⟨b, o + kk * 5, none⟩ = some (.string ⟨n1.toArray⟩) ∧ u.cell? ⟨b, o + kk * 5 + 1, none⟩ = some (.int .i64 p1) ∧ u.cell? ⟨b, o + kk * 5 + 2, none⟩ = some (.string ⟨d1.toArray⟩) ∧ u.cell? ⟨b, o + kk * 5 + 3, none⟩ = some (.int .i64 m1) ∧ u.cell? ⟨b, o + kk * 5 + 4, none⟩ = some (.slice a3 i1.length c3)) ∧ (u.cell? ⟨b2, o2 + kk * 5, none⟩ = some (.string ⟨n2.toArray⟩) ∧ u.cell? ⟨b2, o2 + kk * 5 + 1, none⟩ = some (.int .i64 p2) ∧ u.cell? ⟨b2, o2 + kk * 5 + 2, none⟩ = some (.string ⟨d2.toArray⟩) ∧ u.cell? ⟨b2, o2 + kk * 5 + 3, none⟩ = some (.int .i64 m2) ∧ u.cell? ⟨b2, o2 + kk * 5 + 4, none⟩ = some (.slice a4 i2.length c4)))
          (first | go_keep | exact kk1)
          (first
            | (go_at_call 58; go_must (with_reducible refine HE1.mono ?_); rintro e w2 ⟨rfl, hb2⟩; have hbb := (Below.refl wr.heap.size wr).drew.trans hb2; have kk1 := SK.out _ hbb))
        all_goals (cases r with
          | true =>
            have HY := Lib.hid hyes
            clear hyes hno
            go_wp2_with fail
            go_roundg (l.length - (kk + 1))
            case measure => omega
            case rel => exact ⟨kk + 1, by omega, by omega, by go_num, hB.trans (hbb.mono hB.size), HY.out⟩
          | false =>
            have HN := Lib.hid (hno rfl)
            clear hyes hno
            go_wp2_with fail
            go_ret
            exact ⟨ret_bool (by rw [← HR.out, HN.out]), hB.trans (hbb.mono hB.size)⟩)
      · have hltz : ¬ (kk : Int) < (l.length : Int) := by omega
        have hA : ((l.zip m).all fun p => sameO p.1 p.2) = true := by have := hS.out; rwa [List.take_of_length_le (by rw [List.length_zip]; omega)] at this
        have HR2 : Hid (true = R) := by show _ = _; rw [← HR.out, hA]
        clear hS hA HR hc hc2'
        go_wp2_with fail
        go_ret
        exact ⟨ret_bool (by rw [← HR2.out]), hB⟩
  · have hne : sameS l m = false := by rw [sameS, decide_eq_false hlen]; rfl
    rw [hne]
    clear hv hu hc hc2
    have hz : ¬ (l.length : Int) = (m.length : Int) := by omega
    go_enter Tryz.func20, Tryz.ntmps20
    go_wp2
    go_ret
    exact ⟨rfl, Below.refl _ _⟩
end Go.Proofs.YthclfkhakmcnbaaGreatDoor
