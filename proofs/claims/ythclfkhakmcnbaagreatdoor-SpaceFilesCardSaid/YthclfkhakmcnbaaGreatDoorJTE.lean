/- Joined: ObjE; ObjG; EdA -/
import Derived.Test.YthclfkhakmcnbaaGreatDoorJTD
import Derived.Test.YthclfkhakmcnbaaGreatDoorJTA
import Derived.Lib.AppendZeros
import Derived.Laws.AppendOwnNone
import Derived.Stop.IfaceNil
/- Walks of layer 10: copies of lists. -/
namespace Go.Proofs.YthclfkhakmcnbaaGreatDoor
open Go.RowKit Go.Shelf
attribute [local go_sem] Oper.semAt_some
theorem infoS : (Tryz.prog.info? 9).map (fun i => (i.zero, i.size, i.bytes)) = some (some (.string ⟨#[]⟩), 1, 16) := by kernel_rfl
theorem infoO : (Tryz.prog.info? 48).map (fun i => (i.zero, i.size, i.bytes)) = some (some (.agg #[.string ⟨#[]⟩, .int .i64 0, .string ⟨#[]⟩, .int .i64 0, .slice none 0 0]), 5, 72) := by kernel_rfl
theorem strsC_one {l : List (List UInt8)} : ∀ u ∈ strsC l, u.oneCell' = true := by intro u hu; obtain ⟨x, _, rfl⟩ := List.mem_map.1 hu; rfl
theorem objs_one {W : World} : ∀ {l : List ObjD} {cs : List Value}, Rows (ObjC W) l cs → ∀ u ∈ cs, u.oneCell' = true
  | [], cs, h, u, hu => by have h' : cs = [] := h; subst h'; cases hu
  | x :: l, cs, ⟨c, r, e, ⟨lv, e2, hl⟩, h2⟩, u, hu => by
    subst e e2
    obtain ⟨a, cap, rfl, -⟩ := hl.at
    rcases List.mem_append.1 hu with h | h
    · simp at h; rcases h with rfl | rfl | rfl | rfl | rfl <;> rfl
    · exact objs_one h2 u h
theorem SlR.cells {k : Nat} {W : World} {a : Addr} {n m cap : Nat} {cs : List Value} (h : SlR k W (.slice (some a) m cap) n cs) : m = n ∧ ∀ j u, cs[j]? = some u → W.cell? (a.add j) = some u := by
  obtain ⟨h1, a', cap', h2, h3, h4⟩ := h
  cases h2
  refine ⟨rfl, fun j u hj => ?_⟩
  obtain ⟨hlt, rfl⟩ := List.getElem?_eq_some_iff.1 hj
  rcases h4 with h4 | ⟨b, o, e, -, hc⟩
  · subst h4; rw [Nat.zero_mul] at h1; omega
  · cases e; rw [Addr.add_lit]; exact hc j hlt
set_option maxHeartbeats 2000000 in
set_option maxRecDepth 100000 in
theorem cloneS_any (n : Nat) (cs : List Value) (hn : n ≤ 1000000) (h1 : ∀ u ∈ cs, u.oneCell' = true) (v : Value) (w : World) (hv : SlR 1 w v n cs) :
    Calls Tryz.prog 90 #[v] w fun e w' => ∃ v', e = .returned v' ∧ w'.ownsRow w.heap.size 9 1 v' n cs ∧ Below w.heap.size w w' := by
  obtain ⟨i0, hi, hz0, hz1, hz2⟩ := info_parts infoS
  have q24 : ∀ (w : World) (a : Option Addr) (n c n' c' : Nat), (binOp .eql 42 (.slice a n c) (.slice none n' c')).run Tryz.prog w = .ok (.bool a.isNone) w := fun w a n c n' c' => Lib.run_eql_slice_nil w _ _ a n c n' c' Tryz.underlying42
  have u24 : ∀ w, Sem.run Tryz.prog (underlying 42) w = .ok (TypeDesc.slice 9) w := run_underlying Tryz.underlying42
  obtain ⟨hl, a, cap, rfl, hcap, h4⟩ := id hv
  cases a with
  | none =>
    have h0 : n = 0 := by
      rcases h4 with h4 | ⟨b, o, e, _⟩
      · exact h4
      · cases e
    subst h0
    have hnil : cs = [] := List.eq_nil_of_length_eq_zero (by simpa using hl)
    subst hnil
    clear hv h4 h1
    go_enter Tryz.func90, Tryz.ntmps90
    go_wp2
    go_ret
    exact ⟨_, rfl, World.ownsRow_nil _ _ _ _, Below.refl _ _⟩
  | some ad =>
    have hcs : ∀ W, KeepC w W → ∀ j u, cs[j]? = some u → W.cell? (ad.add j) = some u := fun W hW => (hv.keep hW).cells.2
    have A := Lib.hid hcs
    have A1 := Lib.hid h1
    have AL := Lib.hid hl
    clear hv h4 hcs h1 hl
    go_enter Tryz.func90, Tryz.ntmps90
    go_wp2_with (at_builtin; refine wpList_append_own _ rfl _ _ 42 rfl w.heap.size 9 i0 (.string ⟨#[]⟩) 1 16 Tryz.underlying42 hi hz0 hz1 hz2 rfl (by decide) _ _ _ rfl (World.ownsRow_made w #[] 0 (Nat.le_refl _) (Nat.zero_le _) rfl) ad n cap cs rfl AL.out (A.out _ (KeepC.alloc w _)) A1.out (by unfold maxLen; omega) (by omega) (by simp) ?_)
    intro v' w1 hown hgrow hnil
    go_wp2
    go_ret
    refine ⟨v', rfl, by simpa using hown, ?_⟩
    exact ((Below.refl _ w).alloc (Nat.le_refl _) _).grown hgrow (by simp) (by intro k hk; simp [Value.ownBlock] at hk; omega)
set_option maxHeartbeats 2000000 in
set_option maxRecDepth 100000 in
theorem cloneO_any (n : Nat) (cs : List Value) (hn : n ≤ 1000000) (h1 : ∀ u ∈ cs, u.oneCell' = true) (v : Value) (w : World) (hv : SlR 5 w v n cs) :
    Calls Tryz.prog 89 #[v] w fun e w' => ∃ v', e = .returned v' ∧ w'.ownsRow w.heap.size 48 5 v' n cs ∧ Below w.heap.size w w' := by
  obtain ⟨i0, hi, hz0, hz1, hz2⟩ := info_parts infoO
  have q24 : ∀ (w : World) (a : Option Addr) (n c n' c' : Nat), (binOp .eql 22 (.slice a n c) (.slice none n' c')).run Tryz.prog w = .ok (.bool a.isNone) w := fun w a n c n' c' => Lib.run_eql_slice_nil w _ _ a n c n' c' Tryz.underlying22
  have u24 : ∀ w, Sem.run Tryz.prog (underlying 22) w = .ok (TypeDesc.slice 48) w := run_underlying Tryz.underlying22
  obtain ⟨hl, a, cap, rfl, hcap, h4⟩ := id hv
  cases a with
  | none =>
    have h0 : n = 0 := by
      rcases h4 with h4 | ⟨b, o, e, _⟩
      · exact h4
      · cases e
    subst h0
    have hnil : cs = [] := List.eq_nil_of_length_eq_zero (by simpa using hl)
    subst hnil
    clear hv h4 h1
    go_enter Tryz.func89, Tryz.ntmps89
    go_wp2
    go_ret
    exact ⟨_, rfl, World.ownsRow_nil _ _ _ _, Below.refl _ _⟩
  | some ad =>
    have hcs : ∀ W, KeepC w W → ∀ j u, cs[j]? = some u → W.cell? (ad.add j) = some u := fun W hW => (hv.keep hW).cells.2
    have A := Lib.hid hcs
    have A1 := Lib.hid h1
    have AL := Lib.hid hl
    clear hv h4 hcs h1 hl
    go_enter Tryz.func89, Tryz.ntmps89
    go_wp2_with (at_builtin; refine wpList_append_own _ rfl _ _ 22 rfl w.heap.size 48 i0 (.agg #[.string ⟨#[]⟩, .int .i64 0, .string ⟨#[]⟩, .int .i64 0, .slice none 0 0]) 5 72 Tryz.underlying22 hi hz0 hz1 hz2 rfl (by decide) _ _ _ rfl (World.ownsRow_made w #[] 0 (Nat.le_refl _) (Nat.zero_le _) rfl) ad n cap cs rfl AL.out (A.out _ (KeepC.alloc w _)) A1.out (by unfold maxLen; omega) (by omega) (by simp) ?_)
    intro v' w1 hown hgrow hnil
    go_wp2
    go_ret
    refine ⟨v', rfl, by simpa using hown, ?_⟩
    exact ((Below.refl _ w).alloc (Nat.le_refl _) _).grown hgrow (by simp) (by intro k hk; simp [Value.ownBlock] at hk; omega)
end Go.Proofs.YthclfkhakmcnbaaGreatDoor
/- Walks of layer 10: slices.Grow and slices.Concat at objects. -/
namespace Go.Proofs.YthclfkhakmcnbaaGreatDoor
open Go.RowKit Go.Shelf
attribute [local go_sem] Oper.semAt_some
/-- an append of whatever slice's cells to a row of the call's own -/
theorem wpList_append_sl {P : Program} (w : World) {ops : Array Oper} {rest : List Oper} {o : Oper} {a : Act} {Q : Exit → Act → World → Prop} (hgd : o.guard = none) (s x : Operand) (t : TypeId)
    (ho : o.op = .call { callee := .builtin .append, args := #[s, x], argTypes := #[t, t] })
    (base : Nat) (e : TypeId) (i : TypeInfo) (z : Value) (size bytes : Nat) (ht : P.underlying t = some (.slice e)) (hi : P.info? e = some i) (hz : i.zero = some z)
    (hsize : i.size = size) (hby : i.bytes = bytes) (hzs : z.cells.size = size) (hsz : 0 < size)
    (v : Value) (n : Nat) (xs : List Value) (hs : a.eval s = v) (hown : w.ownsRow base e size v n xs)
    (ao : Option Addr) (m c : Nat) (news : List Value) (hx : a.eval x = .slice ao m c) (hsl : SlR size w (.slice ao m c) m news) (hnc : ao = none → c = 0) (h1 : ∀ u ∈ news, u.oneCell' = true)
    (h63 : n + m ≤ maxLen) (hbytes : (n + m) * bytes ≤ 140737488355328) (hbase : base ≤ w.heap.size)
    (h : ∀ v' w', w'.ownsRow base e size v' (n + m) (xs ++ news) → w.grownBy w' v.ownBlock → wpList P ops Q rest (a.put o.dst v') w') : wpList P ops Q (o :: rest) a w := by
  cases ao with
  | some ad => exact wpList_append_own w hgd s x t ho base e i z size bytes ht hi hz hsize hby hzs hsz v n xs hs hown ad m c news hx hsl.1 hsl.cells.2 h1 h63 hbytes hbase (fun v' w' h2 h3 _ => h v' w' h2 h3)
  | none =>
    obtain ⟨hl, a', cap', e', -, h4⟩ := hsl
    have hm : m = 0 := by
      rcases h4 with h4 | ⟨b, o, e2, _⟩
      · exact h4
      · cases e'; cases e2
    subst hm
    have hn : news = [] := List.eq_nil_of_length_eq_zero (by simpa using hl)
    subst hn
    obtain rfl := hnc rfl
    exact wpList_append_own_none hgd s x t ho base e i size ht hi v n xs hs hown hx (h v w (by simpa using hown) (World.grownBy.refl _ _))
set_option maxRecDepth 100000 in
set_option maxHeartbeats 2000000 in
theorem growO_any (n : Nat) (hn : n ≤ 3000000) (w : World) :
    Calls Tryz.prog 114 #[.slice none 0 0, .int .i64 n] w fun e w' => ∃ v', e = .returned v' ∧ w'.ownsRow w.heap.size 48 5 v' 0 [] ∧ Below w.heap.size w w' := by
  obtain ⟨i0, hi, hz0, hz1, hz2⟩ := info_parts infoO
  by_cases h0 : n = 0
  · subst h0
    go_enter Tryz.func114, Tryz.ntmps114
    go_wp2
    go_ret
    exact ⟨_, rfl, World.ownsRow_nil _ _ _ _, Below.refl _ _⟩
  · have hpos : (0 : Int) < (n : Int) := by omega
    have hneg : ¬ ((n : Int) < 0) := by omega
    have happ := Lib.run_append_nil_zeros (P := Tryz.prog) w 22 3 22 48 i0 _ .i64 .i64 Tryz.underlying22 Tryz.underlying3 hi hz0 n (by omega) (by rw [hz1]; omega) (by omega) (by rw [hz2]; omega)
    have hge := grownCap_ge w n 0 48
    have hle := grownCap_le_maxLen w n 0 48 (by unfold maxLen; omega)
    have HW : Hid ((w.drew.alloc (.cells (Builtin.zeroCells (Value.cells (.agg #[.string ⟨#[]⟩, .int .i64 0, .string ⟨#[]⟩, .int .i64 0, .slice none 0 0])) n ++ Builtin.zeroCells (Value.cells (.agg #[.string ⟨#[]⟩, .int .i64 0, .string ⟨#[]⟩, .int .i64 0, .slice none 0 0])) (grownCap w n 0 48 - n)) 48)).ownsRow w.heap.size 48 5 (.slice (some ⟨w.heap.size, 0, none⟩) 0 (grownCap w n 0 48)) 0 []) := by
      show World.ownsRow _ _ _ _ _ _ _
      refine ⟨rfl, .inr ⟨w.heap.size, grownCap w n 0 48, _, rfl, Nat.le_refl _, heap_alloc_new w.drew _, Nat.zero_le _, hle, ?_, by simp⟩⟩
      rw [Array.size_append, size_zeroCells, size_zeroCells, ← Nat.add_mul, show n + (grownCap w n 0 48 - n) = grownCap w n 0 48 by omega]
      rfl
    have hB : Below w.heap.size w (w.drew.alloc (.cells (Builtin.zeroCells (Value.cells (.agg #[.string ⟨#[]⟩, .int .i64 0, .string ⟨#[]⟩, .int .i64 0, .slice none 0 0])) n ++ Builtin.zeroCells (Value.cells (.agg #[.string ⟨#[]⟩, .int .i64 0, .string ⟨#[]⟩, .int .i64 0, .slice none 0 0])) (grownCap w n 0 48 - n)) 48)) := (Below.refl _ w).drew.alloc (Nat.le_refl _) _
    generalize grownCap w n 0 48 = G at *
    generalize (w.drew.alloc (.cells (Builtin.zeroCells (Value.cells (.agg #[.string ⟨#[]⟩, .int .i64 0, .string ⟨#[]⟩, .int .i64 0, .slice none 0 0])) n ++ Builtin.zeroCells (Value.cells (.agg #[.string ⟨#[]⟩, .int .i64 0, .string ⟨#[]⟩, .int .i64 0, .slice none 0 0])) (G - n)) 48)) = W at *
    go_enter Tryz.func114, Tryz.ntmps114
    go_wp2_with (at_builtin; refine Lib.wpList_append_run _ rfl _ _ _ _ rfl _ _ rfl rfl _ _ happ ?_)
    go_ret
    exact ⟨_, rfl, HW.out, hB⟩
set_option maxRecDepth 100000 in
set_option maxHeartbeats 4000000 in
theorem concatO_any (g : Nat) (a1 a2 a3 : Option Addr) (n1 n2 n3 c1 c2 c3 : Nat) (x1 x2 x3 : List Value) (w : World)
    (k0 : w.cell? ⟨g, 0, none⟩ = some (.slice a1 n1 c1)) (k1 : w.cell? ⟨g, 1, none⟩ = some (.slice a2 n2 c2)) (k2 : w.cell? ⟨g, 2, none⟩ = some (.slice a3 n3 c3))
    (s1 : SlR 5 w (.slice a1 n1 c1) n1 x1) (s2 : SlR 5 w (.slice a2 n2 c2) n2 x2) (s3 : SlR 5 w (.slice a3 n3 c3) n3 x3)
    (z1 : a1 = none → c1 = 0) (z2 : a2 = none → c2 = 0) (z3 : a3 = none → c3 = 0)
    (o1 : ∀ u ∈ x1, u.oneCell' = true) (o2 : ∀ u ∈ x2, u.oneCell' = true) (o3 : ∀ u ∈ x3, u.oneCell' = true) (h1 : n1 ≤ 1000000) (h2 : n2 ≤ 1000000) (h3 : n3 ≤ 1000000) :
    Calls Tryz.prog 99 #[.slice (some ⟨g, 0, none⟩) 3 3] w fun e w' => ∃ v', e = .returned v' ∧ w'.ownsRow w.heap.size 48 5 v' (n1 + n2 + n3) (x1 ++ x2 ++ x3) ∧ Below w.heap.size w w' := by
  obtain ⟨i0, hi, hz0, hz1, hz2⟩ := info_parts infoO
  have HG := growO_any (n1 + n2 + n3) (by omega) w
  rw [Int.natCast_add, Int.natCast_add] at HG
  have e1 : IntKind.i64.wrap (n1 : Int) = n1 := IntWalk.i64_in _ (by omega)
  have e2 : IntKind.i64.wrap ((n1 : Int) + n2) = (n1 : Int) + n2 := IntWalk.i64_in _ (by omega)
  have e3 : IntKind.i64.wrap ((n1 : Int) + n2 + n3) = (n1 : Int) + n2 + n3 := IntWalk.i64_in _ (by omega)
  have d2 : ¬ ((n1 : Int) + n2 < 0) := by omega
  have d3 : ¬ ((n1 : Int) + n2 + n3 < 0) := by omega
  have hl1 : ((n1 : Nat) : Int) ≤ 1000000 := by omega
  have hl2 : ((n2 : Nat) : Int) ≤ 1000000 := by omega
  have hl3 : ((n3 : Nat) : Int) ≤ 1000000 := by omega
  have S1 := Lib.hid s1
  have S2 := Lib.hid s2
  have S3 := Lib.hid s3
  have O1 := Lib.hid o1
  have O2 := Lib.hid o2
  have O3 := Lib.hid o3
  clear s1 s2 s3 o1 o2 o3
  go_enter Tryz.func99, Tryz.ntmps99
  go_wp2_with fail
  refine wp_loop_rounds 4 ?_
  rw [rounds_succ]
  go_wp2_with fail
  rw [rounds_succ]
  go_wp2_with fail
  rw [rounds_succ]
  go_wp2_with fail
  rw [rounds_succ]
  go_wp2_with fail
  with_reducible refine HG.mono ?_
  rintro e w0 ⟨v0, rfl, r0, b0⟩
  have q0 := (KeepC.of_below b0).2 _ _ _ k0
  go_wp2_with fail
  refine wp_loop_rounds 4 ?_
  rw [rounds_succ]
  go_wp2_with (at_builtin; refine wpList_append_sl _ rfl _ _ 22 rfl w.heap.size 48 i0 (.agg #[.string ⟨#[]⟩, .int .i64 0, .string ⟨#[]⟩, .int .i64 0, .slice none 0 0]) 5 72 Tryz.underlying22 hi hz0 hz1 hz2 rfl (by decide) _ 0 [] rfl r0 a1 n1 c1 x1 rfl (S1.out.keep (KeepC.of_below b0)) z1 O1.out (by unfold maxLen; omega) (by omega) (by have := b0.size; omega) ?_)
  intro v1 w1 r1 g1
  have b1 : Below w.heap.size w w1 := b0.grown g1 b0.size (fun k hk => (r0.lt k hk).1)
  have q1 := (KeepC.of_below b1).2 _ _ _ k1
  go_wp2_with fail
  rw [rounds_succ]
  go_wp2_with (at_builtin; refine wpList_append_sl _ rfl _ _ 22 rfl w.heap.size 48 i0 (.agg #[.string ⟨#[]⟩, .int .i64 0, .string ⟨#[]⟩, .int .i64 0, .slice none 0 0]) 5 72 Tryz.underlying22 hi hz0 hz1 hz2 rfl (by decide) _ n1 x1 rfl r1 a2 n2 c2 x2 rfl (S2.out.keep (KeepC.of_below b1)) z2 O2.out (by unfold maxLen; omega) (by omega) (by have := b1.size; omega) ?_)
  intro v2 w2 r2 g2
  have b2 : Below w.heap.size w w2 := b1.grown g2 b1.size (fun k hk => (r1.lt k hk).1)
  have q2 := (KeepC.of_below b2).2 _ _ _ k2
  go_wp2_with fail
  rw [rounds_succ]
  go_wp2_with (at_builtin; refine wpList_append_sl _ rfl _ _ 22 rfl w.heap.size 48 i0 (.agg #[.string ⟨#[]⟩, .int .i64 0, .string ⟨#[]⟩, .int .i64 0, .slice none 0 0]) 5 72 Tryz.underlying22 hi hz0 hz1 hz2 rfl (by decide) _ (n1 + n2) (x1 ++ x2) rfl r2 a3 n3 c3 x3 rfl (S3.out.keep (KeepC.of_below b2)) z3 O3.out (by unfold maxLen; omega) (by omega) (by have := b2.size; omega) ?_)
  intro v3 w3 r3 g3
  have b3 : Below w.heap.size w w3 := b2.grown g3 b2.size (fun k hk => (r2.lt k hk).1)
  go_wp2_with fail
  rw [rounds_succ]
  go_wp2_with fail
  go_ret
  exact ⟨_, rfl, by simpa using r3, b3⟩
end Go.Proofs.YthclfkhakmcnbaaGreatDoor
/- Walks of layer 10: an editor: open, must. -/
namespace Go.Proofs.YthclfkhakmcnbaaGreatDoor
open Go.RowKit Go.Shelf
attribute [local go_sem] Oper.semAt_some
abbrev wrongV (e : Int) : Value := .iface 102 (.agg #[.int .i64 e])
def openP (w : World) (l : List ObjD) (sb : Bool) (e : Ending) (w' : World) : Prop := ∃ q v', e = .returned (.pointer (some ⟨q, 0, none⟩)) ∧ w.heap.size ≤ q ∧ Blk w' q #[v', if sb then .nilIface else wrongV 110] 71 ∧ ObjsO w.heap.size 48 9 w' v' l ∧ Below w.heap.size w w'
set_option maxRecDepth 100000 in
set_option maxHeartbeats 4000000 in
theorem open_any (l : List ObjD) (hl : FitsS l) (v : Value) (ea : Addr) (w : World) (hge : w.cell? ⟨0, 0, none⟩ = some (errV8 ea)) (hv : ObjsV w v l) :
    Calls Tryz.prog 49 #[v] w (openP w l (spaceB l)) := by
  obtain ⟨cs0, hs0, hr0⟩ := id hv
  have HC := cloneO_any l.length cs0 hl.1 (objs_one hr0) v w hs0
  clear hs0
  have HR := fun W (h : KeepC w W) => spaceRight_any l hl v ea W (h.2 _ _ _ hge) (hv.keep h)
  have HS := fun (s : List (List UInt8)) (hs : s.length ≤ 1000000) lv W (h : StrsV W lv s) => cloneS_any s.length (strsC s) hs strsC_one lv W h
  have hi : ∀ x ∈ l, x.items.length ≤ 1000000 := fun x hx => (hl.2 x hx).2.2.1
  have hlm : l.length ≤ 1000000 := hl.1
  generalize spaceB l = sb at *
  obtain ⟨av, cv, rfl, -⟩ := hv.at
  clear hge hv
  go_enter Tryz.func49, Tryz.ntmps49
  go_wp2_with fail
  with_reducible refine HC.mono ?_
  rintro e w1 ⟨v1, rfl, hrow, hb1⟩
  clear HC
  have q0 := Blk.new w1 #[v1, .nilIface] 71
  have hB0 := hb1.alloc hb1.size (.cells #[v1, .nilIface] 71)
  have hbq : Below w1.heap.size w1 (w1.alloc (.cells #[v1, .nilIface] 71)) := (Below.refl _ w1).alloc (Nat.le_refl _) _
  have hqw := hb1.size
  rcases id hrow.2 with ⟨rfl, h0⟩ | ⟨g, cap, cur, rfl, hbg, -, hcap, -⟩
  · have hl0 : l = [] := List.length_eq_zero_iff.1 h0
    subst hl0
    simp only [List.length_nil] at HR ⊢
    go_wp2_with fail
    refine wp_loop_rounds 1 ?_
    rw [rounds_succ]
    have d0 := q0.cell 0
    simp at d0
    generalize w1.alloc (.cells #[.slice none 0 0, .nilIface] 71) = W at *
    go_wp2_with fail
    with_reducible refine (HR _ (KeepC.of_below hB0)).mono ?_
    rintro e w3 ⟨rfl, hb3⟩
    have q3 := q0.below hb3 q0.lt
    have e1 := q3.cell 1
    have f1 := q3.frozen 1
    simp at e1
    have B3 := hB0.trans (hb3.mono hB0.size)
    cases sb with
    | true =>
      go_wp2_with fail
      go_ret
      exact ⟨_, _, rfl, hqw, q3, ObjsO.nil _ _ _ _, B3⟩
    | false =>
      go_wp2_with fail
      go_ret
      exact ⟨_, _, rfl, hqw, by simpa using q3.set 1 _, ObjsO.nil _ _ _ _, B3.setCell (p := ⟨_, 1, none⟩) hqw _⟩
  · have hM : Mix (ObjO w.heap.size 9 w1) (ObjC w) 0 l cs0 := Mix.start hr0
    have hM1 : Mix (ObjO w.heap.size 9 (w1.alloc (.cells #[.slice (some ⟨g, 0, none⟩) l.length cap, .nilIface] 71))) (ObjC w) 0 l cs0 := Mix.start hr0
    have hrow1 := hrow.kept (grown_of_below hbq none) (.inr (by simp [Value.ownBlock]))
    have hgq : g ≠ w1.heap.size := by
      have := (hrow.lt g rfl).2
      omega
    clear hr0 hM
    go_wp2_with fail
    have d0 := q0.cell 0
    simp at d0
    generalize hq : w1.heap.size = q at *
    generalize w1.alloc (.cells #[.slice (some ⟨g, 0, none⟩) l.length cap, .nilIface] 71) = W at *
    clear hq hb1 hrow
    go_wp2_with fail
    go_loopg [17] l.length (fun gg s10 wr => ∃ (kk : Nat) (cs : List Value), kk ≤ l.length ∧ l.length - kk ≤ gg ∧ s10 = .int .i64 kk ∧ Hid (wr.ownsRow w.heap.size 48 5 (.slice (some ⟨g, 0, none⟩) l.length cap) l.length cs ∧ Mix (ObjO w.heap.size 9 wr) (ObjC w) kk l cs ∧ Below w.heap.size w wr ∧ Blk wr q #[.slice (some ⟨g, 0, none⟩) l.length cap, .nilIface] 71))
    case atStart => exact ⟨0, cs0, Nat.zero_le _, by omega, rfl, hrow1, hM1, hB0, q0⟩
    case round =>
      clear hM1 hrow1 hB0 d0 q0 hbq
      obtain ⟨kk, cs, hkk, hg, rfl, HI⟩ := hrel
      by_cases hlt : kk < l.length
      · have hltz : (kk : Int) < (l.length : Int) := by omega
        have hkz : (0 : Int) ≤ (kk : Int) := by omega
        obtain ⟨c, ⟨lv, rfl, hlv⟩, hat, hstep⟩ := HI.out.2.1.step (k := 5) ObjO.len ObjC.len hlt
        have hrow := HI.out.1
        have k0 := row_at hrow (kk * 5 + 0) (by omega) _ (hat 0 (by omega))
        have k1 := row_at hrow (kk * 5 + 1) (by omega) _ (hat 1 (by omega))
        have k2 := row_at hrow (kk * 5 + 2) (by omega) _ (hat 2 (by omega))
        have k3 := row_at hrow (kk * 5 + 3) (by omega) _ (hat 3 (by omega))
        have k4 := row_at hrow (kk * 5 + 4) (by omega) _ (hat 4 (by omega))
        simp only [Nat.add_zero] at k0
        have hlx := hi l[kk] (List.getElem_mem _)
        have HST : Hid (∀ (W : World) (u : Value), (∀ x ∈ l, ∀ c, ObjO w.heap.size 9 wr x c → ObjO w.heap.size 9 W x c) → StrsO w.heap.size 9 W u l[kk].items → Mix (ObjO w.heap.size 9 W) (ObjC w) (kk + 1) l (cs.set (kk * 5 + 4) u)) := by
          show ∀ W, _
          intro W u hmono hs
          obtain ⟨c', ⟨lv', rfl, -⟩, -, hst⟩ := (HI.out.2.1.mono hmono).step (k := 5) ObjO.len ObjC.len hlt
          exact hst 4 u (by omega) ⟨u, rfl, hs⟩
        clear hat hstep
        generalize l[kk] = x at *
        obtain ⟨name, kind, data, max, items⟩ := x
        dsimp only at *
        obtain ⟨a2, cap2, rfl, -⟩ := hlv.at
        have hB1 := (Below.refl wr.heap.size wr).alloc (Nat.le_refl _) (.cells #[.string ⟨name.toArray⟩, .int .i64 kind, .string ⟨data.toArray⟩, .int .i64 max, .slice a2 items.length cap2] 48)
        have n1 := Blk.new wr #[.string ⟨name.toArray⟩, .int .i64 kind, .string ⟨data.toArray⟩, .int .i64 max, .slice a2 items.length cap2] 48
        have hB1w := HI.out.2.2.1.trans (hB1.mono HI.out.2.2.1.size)
        have HS1 := fun W (h : KeepC wr W) => HS items hlx _ W ((hlv.keep (KeepC.of_below HI.out.2.2.1)).keep h)
        have hgl : g < wr.heap.size := World.block_lt_of_cell? wr _ k0
        have hql := HI.out.2.2.2.lt
        clear hrow hlv HS
        go_wp2_with fail
        generalize hW0 : wr.alloc (.cells #[.string ⟨name.toArray⟩, .int .i64 kind, .string ⟨data.toArray⟩, .int .i64 max, .slice a2 items.length cap2] 48) = W0 at *
        have SK : Hid (∀ u, Below W0.heap.size W0 u → u.cell? ⟨q, 0, none⟩ = some (.slice (some ⟨g, 0, none⟩) l.length cap) ∧ u.cell? ⟨wr.heap.size, 4, none⟩ = some (.slice a2 items.length cap2)) := by
          show ∀ u, _
          intro u hu
          have hk := (KeepC.of_below (hB1.trans (hu.mono hB1.size))).2
          have hk2 := (KeepC.of_below hu).2
          exact ⟨hk _ _ _ ((HI.out.2.2.2.cell 0).trans rfl), hk2 _ _ _ ((n1.cell 4).trans rfl)⟩
        have SK2 : Hid (∀ u, Below W0.heap.size W0 u → ∀ x, (u.setCell ⟨g, kk * 5 + 4, none⟩ x).cell? ⟨q, 0, none⟩ = some (.slice (some ⟨g, 0, none⟩) l.length cap) ∧ (u.setCell ⟨g, kk * 5 + 4, none⟩ x).cell? ⟨wr.heap.size, 4, none⟩ = some (.slice a2 items.length cap2)) := by
          show ∀ u, _
          intro u hu x
          obtain ⟨s1, s2⟩ := SK.out u hu
          exact ⟨(World.cell?_setCell_other _ _ _ _ (fun e => hgq (by injection e))).trans s1, (World.cell?_setCell_other _ _ _ _ (fun e => by injection e; omega)).trans s2⟩
        clear k0 k1 k2 k3 hW0
        refine wp_region_noPanic ?_
        refine wp_region_held_drew (S := (fun u => u.cell? ⟨q, 0, none⟩ = some (.slice (some ⟨g, 0, none⟩) l.length cap) ∧ u.cell? ⟨wr.heap.size, 4, none⟩ = some (.slice a2 items.length cap2))) (by kernel_rfl) ?_ (fun hHeld => ?_)
        · exact SK.out _ (Below.refl W0.heap.size W0).drew
        refine wpAnyH_take (i := 0) (oi := _) (v := ?_) (nth_at rfl) (by kernel_rfl) (by kernel_rfl) (by kernel_rfl) (fun _ _ _ h => h) (Or.inl ⟨by rfl, ?_⟩) (by assumption) ?_
        rotate_left 1
        · intro w hSw; (try dsimp only at hSw); (go_simp <;> with_reducible rfl)
        try simp only [Act.put, List.setIfInBounds_toArray, List.set_cons_zero, List.set_cons_succ]
        refine wpAnyH_take (i := 1) (oi := _) (v := ?_) (nth_at rfl) (by kernel_rfl) (by kernel_rfl) (by kernel_rfl) (fun _ _ _ h => h) (Or.inl ⟨by rfl, ?_⟩) (by assumption) ?_
        rotate_left 1
        · intro w hSw; (try dsimp only at hSw); (go_simp <;> with_reducible rfl)
        try simp only [Act.put, List.setIfInBounds_toArray, List.set_cons_zero, List.set_cons_succ]
        refine wpAnyH_take (i := 2) (oi := _) (v := ?_) (nth_at rfl) (by kernel_rfl) (by kernel_rfl) (by kernel_rfl) (fun _ _ _ h => h) (Or.inl ⟨by rfl, ?_⟩) (by assumption) ?_
        rotate_left 1
        · intro w hSw; (try dsimp only at hSw); (go_simp <;> with_reducible rfl)
        try simp only [Act.put, List.setIfInBounds_toArray, List.set_cons_zero, List.set_cons_succ]
        refine wpAnyH_take (i := 3) (oi := _) (v := ?_) (nth_at rfl) (by kernel_rfl) (by kernel_rfl) (by kernel_rfl) (fun _ _ _ h => h) (Or.inl ⟨by rfl, ?_⟩) (by assumption) ?_
        rotate_left 1
        · intro w hSw; (try dsimp only at hSw); (go_simp <;> with_reducible rfl)
        try simp only [Act.put, List.setIfInBounds_toArray, List.set_cons_zero, List.set_cons_succ]
        refine wpAnyH_take (i := 4) (oi := _) (v := ?_) (nth_at rfl) (by kernel_rfl) (by kernel_rfl) (by kernel_rfl) (fun _ _ _ h => h) (Or.inl ⟨by rfl, ?_⟩) (by assumption) ?_
        rotate_left 1
        · intro w hSw; (try dsimp only at hSw); (go_simp <;> with_reducible rfl)
        try simp only [Act.put, List.setIfInBounds_toArray, List.set_cons_zero, List.set_cons_succ]
        refine wpAnyH_take (i := 5) (oi := _) (v := ?_) (nth_at rfl) (by kernel_rfl) (by kernel_rfl) (by kernel_rfl) (fun _ _ _ h => h) (Or.inl ⟨by rfl, ?_⟩) (by assumption) ?_
        rotate_left 1
        · intro w hSw; (try dsimp only at hSw); (go_simp <;> with_reducible rfl)
        try simp only [Act.put, List.setIfInBounds_toArray, List.set_cons_zero, List.set_cons_succ]
        refine wpAnyH_take (i := 6) (oi := _) (v := ?_) (nth_at rfl) (by kernel_rfl) (by kernel_rfl) (by kernel_rfl) (fun _ _ _ h => h) (Or.inl ⟨by rfl, ?_⟩) (by assumption) ?_
        rotate_left 1
        · intro w hSw; (try dsimp only at hSw); (go_simp <;> with_reducible rfl)
        try simp only [Act.put, List.setIfInBounds_toArray, List.set_cons_zero, List.set_cons_succ]
        refine wpAnyH_take (i := 7) (oi := _) (v := ?_) (nth_at rfl) (by kernel_rfl) (by kernel_rfl) (by kernel_rfl) (fun _ _ _ h => h) (Or.inl ⟨by rfl, ?_⟩) (by assumption) ?_
        rotate_left 1
        · intro w hSw; (try dsimp only at hSw); (go_simp <;> with_reducible rfl)
        try simp only [Act.put, List.setIfInBounds_toArray, List.set_cons_zero, List.set_cons_succ]
        refine wpAnyH_take (i := 8) (oi := _) (v := ?_) (nth_at rfl) (by kernel_rfl) (by kernel_rfl) (by kernel_rfl) (fun _ _ _ h => h) (Or.inl ⟨by rfl, ?_⟩) (by assumption) ?_
        rotate_left 1
        · intro w hSw; (try dsimp only at hSw); (go_simp <;> with_reducible rfl)
        try simp only [Act.put, List.setIfInBounds_toArray, List.set_cons_zero, List.set_cons_succ]
        refine wpAnyH_ready (rs := [9]) (by kernel_rfl) (by simp) ?_
        refine AllReadyH.cons (o := _) (nth_at rfl) (fun K hK => ?_) AllReadyH.nil
        go_simp
        with_reducible refine (HS1 _ (KeepC.of_below hB1.drew)).mono ?_
        rintro e w2 ⟨v2, rfl, hs2, hb2⟩
        obtain ⟨-, a3, cap3, rfl, -⟩ := id (SlR.of_row hs2)
        have hc2 := (Below.refl W0.heap.size W0).drew.trans hb2
        have hB2 := hB1.trans (hc2.mono hB1.size)
        try dsimp only
        refine hK.out _ _ ?_ (fun hHeld => ?_)
        · exact SK.out _ hc2
        clear hK K
        try simp only [Act.put, List.setIfInBounds_toArray, List.set_cons_zero, List.set_cons_succ]
        refine wpAnyH_take (i := 10) (oi := _) (v := ?_) (nth_at rfl) (by kernel_rfl) (by kernel_rfl) (by kernel_rfl) (fun _ _ _ h => h) (Or.inl ⟨by rfl, ?_⟩) (by assumption) ?_
        rotate_left 1
        · intro w hSw; (try dsimp only at hSw); (go_simp <;> with_reducible rfl)
        try simp only [Act.put, List.setIfInBounds_toArray, List.set_cons_zero, List.set_cons_succ]
        refine wpAnyH_take (i := 11) (oi := _) (v := ?_) (nth_at rfl) (by kernel_rfl) (by kernel_rfl) (by kernel_rfl) (fun _ _ _ h => h) (Or.inl ⟨by rfl, ?_⟩) (by assumption) ?_
        rotate_left 1
        · intro w hSw; (try dsimp only at hSw); (go_simp <;> with_reducible rfl)
        try simp only [Act.put, List.setIfInBounds_toArray, List.set_cons_zero, List.set_cons_succ]
        refine wpAnyH_take (i := 12) (oi := _) (v := ?_) (nth_at rfl) (by kernel_rfl) (by kernel_rfl) (by kernel_rfl) (fun _ _ _ h => h) (Or.inl ⟨by rfl, ?_⟩) (by assumption) ?_
        rotate_left 1
        · intro w hSw; (try dsimp only at hSw); (go_simp <;> with_reducible rfl)
        try simp only [Act.put, List.setIfInBounds_toArray, List.set_cons_zero, List.set_cons_succ]
        refine wpAnyH_ready (rs := [13]) (by kernel_rfl) (by simp) ?_
        refine AllReadyH.cons (o := _) (nth_at rfl) (fun K hK => ?_) AllReadyH.nil
        go_simp
        have hrow2 := HI.out.1.kept (grown_of_below hB2 none) (.inr (by simp [Value.ownBlock]))
        have hcg : w2.cell? ⟨g, kk * 5 + 4, none⟩ = some (.slice a2 items.length cap2) := (KeepC.of_below hB2).2 _ _ _ k4
        have hfg := hrow2.frozenAt (kk * 5 + 4)
        go_simp
        refine hK.out _ _ ?_ (fun hHeld => ?_)
        · exact SK2.out _ hc2 _
        clear hK K
        try simp only [Act.put, List.setIfInBounds_toArray, List.set_cons_zero, List.set_cons_succ]
        refine wpAnyH_done (by kernel_rfl) ?_ _
        refine NoPanic.normal ?_
        have HX : (w2.setCell ⟨g, kk * 5 + 4, none⟩ (.slice a3 items.length cap3)).ownsRow w.heap.size 48 5 (.slice (some ⟨g, 0, none⟩) l.length cap) l.length (cs.set (kk * 5 + 4) (.slice a3 items.length cap3)) ∧ w2.grownBy (w2.setCell ⟨g, kk * 5 + 4, none⟩ (.slice a3 items.length cap3)) (some g) := hrow2.stored _ _
        have HXh := Lib.hid HX
        have hs3 := Lib.hid hs2
        clear HX hs2 hcg hfg hrow2 HS1
        go_wp2_with fail
        go_roundg (l.length - (kk + 1))
        case measure => omega
        case rel =>
          obtain ⟨hr3, hg3⟩ := HXh.out
          have hg23 : wr.grownBy (w2.setCell ⟨g, kk * 5 + 4, none⟩ (.slice a3 items.length cap3)) (some g) := grownBy_t (grown_of_below hB2 _) hg3
          have hrt : RowT wr [9] (some g) := by
            have := RowT.of_row HI.out.1 [9] (by decide)
            simpa [Value.ownBlock] using this
          have hrt2 : RowT w2 [9] (some g) := by
            have := RowT.of_row (HI.out.1.kept (grown_of_below hB2 none) (.inr (by simp [Value.ownBlock]))) [9] (by decide)
            simpa [Value.ownBlock] using this
          refine ⟨kk + 1, _, by omega, by omega, by go_num, hr3, HST.out _ _ (fun x _ c hc => hc.kept hg23 hrt) (own_kept (own_base hs3.out (Nat.le_trans HI.out.2.2.1.size (show wr.heap.size ≤ W0.drew.heap.size from hB1.size))) hg3 hrt2), ?_, ?_⟩
          · exact (HI.out.2.2.1.trans (hB2.mono HI.out.2.2.1.size)).setCell (p := ⟨g, _, none⟩) hbg _
          · exact HI.out.2.2.2.kept hg23 (by simp; exact fun e => hgq e.symm)
      · have hltz : ¬ (kk : Int) < (l.length : Int) := by omega
        have hkl : kk = l.length := by omega
        subst hkl
        have HO : Hid (ObjsO w.heap.size 48 9 wr (.slice (some ⟨g, 0, none⟩) l.length cap) l) := ⟨cs, HI.out.1, HI.out.2.1.all⟩
        have hBr := HI.out.2.2.1
        have qr := HI.out.2.2.2
        clear HI
        go_wp2_with fail
        with_reducible refine (HR _ (KeepC.of_below hBr)).mono ?_
        rintro e w3 ⟨rfl, hb3⟩
        have q3 := qr.below hb3 qr.lt
        have e1 := q3.cell 1
        have f1 := q3.frozen 1
        simp at e1
        have B3 := hBr.trans (hb3.mono hBr.size)
        have O3 := HO.out.kept (grown_of_below hb3 none) (RowT.none _ _)
        cases sb with
        | true =>
          go_wp2_with fail
          go_ret
          exact ⟨_, _, rfl, hqw, q3, O3, B3⟩
        | false =>
          go_wp2_with fail
          go_ret
          exact ⟨_, _, rfl, hqw, by simpa using q3.set 1 _, O3.kept (grownBy_setCellB w3 q 1 _) (RowT.blk q3 _ (by decide)), B3.setCell (p := ⟨_, 1, none⟩) hqw _⟩
def mustV : Value → Bool → Int → Value
  | .nilIface, false, why => wrongV why
  | ev, _, _ => ev
set_option maxRecDepth 100000 in
theorem must_any (q : Nat) (v ev : Value) (is : Bool) (why : Int) (w : World) (hev : ev = .nilIface ∨ ∃ t u, ev = .iface t u) (hq : Blk w q #[v, ev] 71) :
    Calls Tryz.prog 59 #[.pointer (some ⟨q, 0, none⟩), .bool is, .int .i64 why] w fun e w' => e = .returned (.tuple #[]) ∧ Blk w' q #[v, mustV ev is why] 71 ∧ w.grownBy w' (some q) := by
  have e1 := hq.cell 1
  have f1 := hq.frozen 1
  simp at e1
  rcases hev with rfl | ⟨t, u, rfl⟩
  · cases is with
    | true =>
      go_enter Tryz.func59, Tryz.ntmps59
      go_wp2_with fail
      go_end0
      exact ⟨rfl, by simpa [mustV] using hq, World.grownBy.refl _ _⟩
    | false =>
      go_enter Tryz.func59, Tryz.ntmps59
      go_wp2_with fail
      go_end0
      exact ⟨rfl, by simpa [mustV] using hq.set 1 (wrongV why), grownBy_setCellB w q 1 _⟩
  · go_enter Tryz.func59, Tryz.ntmps59
    go_wp2_with fail
    go_end0
    exact ⟨rfl, by simpa [mustV] using hq, World.grownBy.refl _ _⟩
end Go.Proofs.YthclfkhakmcnbaaGreatDoor
