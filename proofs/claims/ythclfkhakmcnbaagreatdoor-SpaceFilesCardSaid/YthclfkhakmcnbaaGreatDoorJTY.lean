/- Joined: RfA; RfB; RfC; RfD; RfE; RfK; RfL -/
import Derived.Test.YthclfkhakmcnbaaGreatDoorJTS
import Derived.Test.YthclfkhakmcnbaaGreatDoorJTU
import Derived.BigQuiet
import Derived.Deep.QuietTactic
import Derived.Test.YthclfkhakmcnbaaGreatDoorJTV
/- Walks of the reference, layer 10: find. -/
namespace Go.Proofs.YthclfkhakmcnbaaGreatDoor
open Go.RowKit Go.Shelf
attribute [local go_sem] Oper.semAt_some
set_option maxRecDepth 100000 in
set_option maxHeartbeats 4000000 in
theorem rfind_any (l : List ObjD) (hl : FitsS l) (v : Value) (n : List UInt8) (k : Int) (hk : k ≠ 0) (w : World) (hv : ObjsV w v l) :
    Calls Tryz.prog 46 #[v, .string ⟨n.toArray⟩, .int .i64 k] w fun e w' => e = .returned (.tuple #[.int .i64 (if editE l n k = 0 then (idxS l n : Int) else 0), .int .i64 (editE l n k)]) ∧ Below w.heap.size w w' := by
  have HR := refRight_any l hl v w hv
  have HF := fun W (h : KeepC w W) => FindR_any l hl.1 v n W (hv.keep h)
  have he : editE l n k = if spaceB l then if h : idxS l n < l.length then if k == 0 || l[idxS l n].kind == k then 0 else 103 else 102 else 110 := rfl
  have hfd : findS l n = if idxS l n < l.length then (idxS l n : Int) else -1 := rfl
  have hlm := hl.1
  obtain ⟨a, cap, rfl, hc⟩ := hv.at
  cases hsp : spaceB l with
  | false =>
    rw [hsp] at HR he
    have hE : editE l n k = 110 := he
    rw [hE]
    clear he hE hfd HF hc hv hsp
    go_enter Tryz.func46, Tryz.ntmps46
    go_wp2_with fail
    with_reducible refine HR.mono ?_
    rintro e w1 ⟨rfl, b1⟩
    go_wp2_with fail
    go_ret2
    exact ⟨rfl, b1⟩
  | true =>
    rw [hsp] at HR he
    simp only [if_true] at he
    by_cases hi : idxS l n < l.length
    · rw [if_pos hi] at hfd
      rw [hfd] at HF
      rw [dif_pos hi] at he
      obtain ⟨b, o, lv, rfl, -, -, -, k1, -, -, -⟩ := hc _ hi
      have hkk : (k == 0) = false := by simpa using hk
      rw [hkk, Bool.false_or] at he
      have hge : (0 : Int) ≤ (idxS l n : Int) := by omega
      have hlt : (idxS l n : Int) < (l.length : Int) := by omega
      generalize l[idxS l n].kind = kd at *
      generalize idxS l n = ix at *
      have K := fun W (h : KeepC w W) => h.2 _ _ _ k1
      clear hc hv hsp hfd k1 hk hkk hi
      cases hkd : (kd == k) with
      | true =>
        rw [hkd] at he
        have hE : editE l n k = 0 := he
        rw [hE]
        have hkd2 : (kd != k) = false := by simp only [bne, hkd]; rfl
        clear he hE hkd
        go_enter Tryz.func46, Tryz.ntmps46
        go_wp2_with fail
        with_reducible refine HR.mono ?_
        rintro e w1 ⟨rfl, b1⟩
        have k2 := K _ (KeepC.of_below b1)
        go_wp2_with fail
        with_reducible refine (HF _ (KeepC.of_below b1)).mono ?_
        rintro e w2 ⟨rfl, rfl⟩
        go_wp2_with fail
        go_ret2
        exact ⟨rfl, b1⟩
      | false =>
        rw [hkd] at he
        have hE : editE l n k = 103 := he
        rw [hE]
        have hkd2 : (kd != k) = true := by simp only [bne, hkd]; rfl
        clear he hE hkd
        go_enter Tryz.func46, Tryz.ntmps46
        go_wp2_with fail
        with_reducible refine HR.mono ?_
        rintro e w1 ⟨rfl, b1⟩
        have k2 := K _ (KeepC.of_below b1)
        go_wp2_with fail
        with_reducible refine (HF _ (KeepC.of_below b1)).mono ?_
        rintro e w2 ⟨rfl, rfl⟩
        go_wp2_with fail
        go_ret2
        exact ⟨rfl, b1⟩
    · rw [if_neg hi] at hfd
      rw [hfd] at HF
      rw [dif_neg hi] at he
      rw [he]
      clear he hfd hc hv hsp hi
      go_enter Tryz.func46, Tryz.ntmps46
      go_wp2_with fail
      with_reducible refine HR.mono ?_
      rintro e w1 ⟨rfl, b1⟩
      go_wp2_with fail
      with_reducible refine (HF _ (KeepC.of_below b1)).mono ?_
      rintro e w2 ⟨rfl, rfl⟩
      go_wp2_with fail
      go_ret2
      exact ⟨rfl, b1⟩
end Go.Proofs.YthclfkhakmcnbaaGreatDoor
/- Walks of the reference, layer 10: set. -/
namespace Go.Proofs.YthclfkhakmcnbaaGreatDoor
open Go.RowKit Go.Shelf
attribute [local go_sem] Oper.semAt_some
/-- a whole object is set in a row of one's own -/
theorem row_set_obj {base : Nat} {W : World} {g cap : Nat} {l : List ObjD} {cs : List Value} (h : W.ownsRow base 48 5 (.slice (some ⟨g, 0, none⟩) l.length cap) l.length cs) (i : Nat) (hi : i < l.length) (x : ObjD) (lv : Value)
    (W5 : World) (hW5 : (((((W.setCell ⟨g, i * 5, none⟩ (.string ⟨x.name.toArray⟩)).setCell ⟨g, i * 5 + 1, none⟩ (.int .i64 x.kind)).setCell ⟨g, i * 5 + 2, none⟩ (.string ⟨x.data.toArray⟩)).setCell ⟨g, i * 5 + 3, none⟩ (.int .i64 x.max)).setCell ⟨g, i * 5 + 4, none⟩ lv) = W5)
    (hm : Rows (ObjC W5) l cs) (hx : StrsV W5 lv x.items) : ObjsV W5 (.slice (some ⟨g, 0, none⟩) l.length cap) (l.set i x) := by
  obtain ⟨s0, -⟩ := h.stored (i * 5) (.string ⟨x.name.toArray⟩)
  obtain ⟨s1, -⟩ := s0.stored (i * 5 + 1) (.int .i64 x.kind)
  obtain ⟨s2, -⟩ := s1.stored (i * 5 + 2) (.string ⟨x.data.toArray⟩)
  obtain ⟨s3, -⟩ := s2.stored (i * 5 + 3) (.int .i64 x.max)
  obtain ⟨s4, -⟩ := s3.stored (i * 5 + 4) lv
  rw [hW5] at s4
  refine ⟨_, by rw [List.length_set]; exact SlR.of_row s4, ?_⟩
  have r0 := rows_set ObjC.len i 0 hi (by omega) (⟨x.name, l[i].kind, l[i].data, l[i].max, l[i].items⟩ : ObjD) (.string ⟨x.name.toArray⟩) (fun c ⟨u, e, hu⟩ => by subst e; exact ⟨u, rfl, hu⟩) hm
  have r1 := rows_set ObjC.len i 1 (by rw [List.length_set]; exact hi) (by omega) (⟨x.name, x.kind, l[i].data, l[i].max, l[i].items⟩ : ObjD) (.int .i64 x.kind) (fun c hc => by rw [List.getElem_set_self] at hc; obtain ⟨u, e, hu⟩ := hc; subst e; exact ⟨u, rfl, hu⟩) r0
  rw [List.set_set] at r1
  have r2 := rows_set ObjC.len i 2 (by rw [List.length_set]; exact hi) (by omega) (⟨x.name, x.kind, x.data, l[i].max, l[i].items⟩ : ObjD) (.string ⟨x.data.toArray⟩) (fun c hc => by rw [List.getElem_set_self] at hc; obtain ⟨u, e, hu⟩ := hc; subst e; exact ⟨u, rfl, hu⟩) r1
  rw [List.set_set] at r2
  have r3 := rows_set ObjC.len i 3 (by rw [List.length_set]; exact hi) (by omega) (⟨x.name, x.kind, x.data, x.max, l[i].items⟩ : ObjD) (.int .i64 x.max) (fun c hc => by rw [List.getElem_set_self] at hc; obtain ⟨u, e, hu⟩ := hc; subst e; exact ⟨u, rfl, hu⟩) r2
  rw [List.set_set] at r3
  have r4 := rows_set ObjC.len i 4 (by rw [List.length_set]; exact hi) (by omega) x lv (fun c hc => by rw [List.getElem_set_self] at hc; obtain ⟨u, e, hu⟩ := hc; subst e; exact ⟨lv, rfl, hx⟩) r3
  rw [List.set_set] at r4
  simpa using r4
theorem wpList_append_src {P : Program} {w : World} {ops : Array Oper} {rest : List Oper} {o : Oper} {a : Act} {Q : Exit → Act → World → Prop} (hgd : o.guard = none) (s x : Operand) (t : TypeId)
    (ho : o.op = .call { callee := .builtin .append, args := #[s, x], argTypes := #[t, t] })
    (base : Nat) (e : TypeId) (i : TypeInfo) (z : Value) (size bytes : Nat) (ht : P.underlying t = some (.slice e)) (hi : P.info? e = some i) (hz : i.zero = some z)
    (hsize : i.size = size) (hby : i.bytes = bytes) (hzs : z.cells.size = size) (hsz : 0 < size)
    (v : Value) (n : Nat) (xs : List Value) (hs : a.eval s = v) (hown : w.ownsRow base e size v n xs)
    (ao : Option Addr) (m c : Nat) (news : List Value) (hx : a.eval x = .slice ao m c) (hno : ao = none → m = 0) (hl : news.length = m * size) (hnews : ∀ ad, ao = some ad → ∀ j u, news[j]? = some u → w.cell? (ad.add j) = some u) (h1 : ∀ u ∈ news, u.oneCell' = true)
    (h63 : n + m ≤ maxLen) (hbytes : (n + m) * bytes ≤ 140737488355328) (hbase : base ≤ w.heap.size)
    (h : ∀ v' w', w'.ownsRow base e size v' (n + m) (xs ++ news) → w.grownBy w' v.ownBlock → wpList P ops Q rest (a.put o.dst v') w') : wpList P ops Q (o :: rest) a w :=
  wpList_plain hgd fun _ hK => wp_append_src s x t ho base e i z size bytes ht hi hz hsize hby hzs hsz v n xs hs hown ao m c news hx hno hl hnews h1 h63 hbytes hbase fun v' w' h2 h3 => hK _ _ (h v' w' h2 h3)
end Go.Proofs.YthclfkhakmcnbaaGreatDoor
/- Walks of the reference, layer 10: set, walked. -/
namespace Go.Proofs.YthclfkhakmcnbaaGreatDoor
open Go.RowKit Go.Shelf
attribute [local go_sem] Oper.semAt_some
set_option maxRecDepth 100000 in
set_option maxHeartbeats 4000000 in
theorem rset_any (l : List ObjD) (hl : FitsS l) (v : Value) (i : Nat) (hi : i < l.length) (x : ObjD) (lv : Value) (w : World) (hv : ObjsV w v l) (hx : StrsV w lv x.items) :
    Calls Tryz.prog 80 #[v, .int .i64 i, objV x lv] w fun e w' => ∃ v', e = .returned v' ∧ ObjsV w' v' (l.set i x) ∧ Below w.heap.size w w' := by
  obtain ⟨i0, hI, hz0, hz1, hz2⟩ := info_parts infoO
  obtain ⟨b, o, cap, cs, rfl, hcap, hrows, hcl, hone, hcell⟩ := objs_parts hv i hi
  obtain ⟨la, lc, hle, -⟩ := hx.2
  subst hle
  have hlm := hl.1
  have hge : (0 : Int) ≤ (i : Int) := by omega
  have hlt : (i : Int) < (l.length : Int) := by omega
  unfold objV
  have hcH := Lib.hid hcell
  have hrH := Lib.hid hrows
  have honeH := Lib.hid hone
  clear hcell hrows hone hv
  obtain ⟨W1, hW1⟩ : ∃ W1, w.alloc (.cells #[.string ⟨x.name.toArray⟩, .int .i64 x.kind, .string ⟨x.data.toArray⟩, .int .i64 x.max, .slice la x.items.length lc] 48) = W1 := ⟨_, rfl⟩
  have p1 : Blk W1 w.heap.size #[.string ⟨x.name.toArray⟩, .int .i64 x.kind, .string ⟨x.data.toArray⟩, .int .i64 x.max, .slice la x.items.length lc] 48 := hW1 ▸ Blk.new _ _ _
  have B1 : Below w.heap.size w W1 := hW1 ▸ (Below.refl _ w).alloc (Nat.le_refl _) _
  have FIN : Hid (∀ v2 w2, w2.ownsRow W1.heap.size 48 5 v2 l.length cs → W1.grownBy w2 none → (∃ g cap2, v2 = .slice (some ⟨g, 0, none⟩) l.length cap2 ∧ W1.heap.size ≤ g ∧ (∀ j, w2.frozen? ⟨g, j, none⟩ = false) ∧ (∀ j, j < 5 → ∃ u, w2.cell? ⟨g, i * 5 + j, none⟩ = some u) ∧
      ∀ W5, (((((w2.setCell ⟨g, i * 5, none⟩ (.string ⟨x.name.toArray⟩)).setCell ⟨g, i * 5 + 1, none⟩ (.int .i64 x.kind)).setCell ⟨g, i * 5 + 2, none⟩ (.string ⟨x.data.toArray⟩)).setCell ⟨g, i * 5 + 3, none⟩ (.int .i64 x.max)).setCell ⟨g, i * 5 + 4, none⟩ (.slice la x.items.length lc)) = W5 → ObjsV W5 v2 (l.set i x) ∧ Below w.heap.size w W5) ∧
      (w2.cell? ⟨w.heap.size, 0, none⟩ = some (.string ⟨x.name.toArray⟩) ∧ w2.cell? ⟨w.heap.size, 1, none⟩ = some (.int .i64 x.kind) ∧ w2.cell? ⟨w.heap.size, 2, none⟩ = some (.string ⟨x.data.toArray⟩) ∧ w2.cell? ⟨w.heap.size, 3, none⟩ = some (.int .i64 x.max) ∧ w2.cell? ⟨w.heap.size, 4, none⟩ = some (.slice la x.items.length lc))) := by
    show ∀ v2, _
    intro v2 w2 h2 g2
    have G : Below W1.heap.size W1 w2 := (Below.refl _ W1).grown g2 (Nat.le_refl _) (fun k e => by cases e)
    have p2 := p1.below G p1.lt
    refine ⟨?_, (p2.cell 0).trans rfl, (p2.cell 1).trans rfl, (p2.cell 2).trans rfl, (p2.cell 3).trans rfl, (p2.cell 4).trans rfl⟩
    rcases h2.2 with ⟨-, h0⟩ | ⟨g, cap2, cur, rfl, hg, -⟩
    · rw [h0] at hcl; exact absurd hcl (by omega)
    · refine ⟨g, cap2, rfl, hg, fun j => h2.frozenAt j, fun j hj => ⟨cs[i * 5 + j]'(by omega), ?_⟩, ?_⟩
      · rw [World.ownsRow.cellAt h2 (i * 5 + j) (by omega), List.getElem?_eq_getElem]
      · rintro W5 hW5
        have hwg : w.heap.size ≤ g := Nat.le_trans B1.size hg
        have B5 : Below w.heap.size w W5 := hW5 ▸ (((((B1.trans (G.mono B1.size)).setCell (p := ⟨g, i * 5, none⟩) hwg _).setCell (p := ⟨g, i * 5 + 1, none⟩) hwg _).setCell (p := ⟨g, i * 5 + 2, none⟩) hwg _).setCell (p := ⟨g, i * 5 + 3, none⟩) hwg _).setCell (p := ⟨g, i * 5 + 4, none⟩) hwg _
        have K5 := KeepC.of_below B5
        exact ⟨row_set_obj h2 i hi x _ W5 hW5 (hrH.out.mono fun y _ c hc => hc.keep K5) (hx.keep K5), B5⟩
  go_enter Tryz.func80, Tryz.ntmps80
  go_wp2_with (at_builtin; go_loud (refine wpList_append_src rfl _ _ 22 rfl W1.heap.size 48 i0 (.agg #[.string ⟨#[]⟩, .int .i64 0, .string ⟨#[]⟩, .int .i64 0, .slice none 0 0]) 5 72 Tryz.underlying22 hI hz0 hz1 hz2 rfl (by decide) (.slice none 0 0) 0 [] rfl (World.ownsRow_nil _ _ _ _) (some ⟨b, o, none⟩) l.length cap cs rfl (fun h => by cases h) hcl (fun ad hd j u hu => by cases hd; rw [Addr.add_lit]; exact hcH.out W1 (KeepC.of_below B1) j u hu) honeH.out (by unfold maxLen; omega) (by omega) (Nat.le_refl _) ?_; intro v2 w2 h2 g2; rw [Nat.zero_add, List.nil_append] at h2; obtain ⟨⟨g, cap2, rfl, hg, hfz, hce, hfin⟩, k0, k1, k2, k3, k4⟩ := FIN.out _ _ h2 g2; obtain ⟨u0, hu0⟩ := hce 0 (by decide); obtain ⟨u1, hu1⟩ := hce 1 (by decide); obtain ⟨u2, hu2⟩ := hce 2 (by decide); obtain ⟨u3, hu3⟩ := hce 3 (by decide); obtain ⟨u4, hu4⟩ := hce 4 (by decide); have hfinH := Lib.hid hfin; clear hce hfin FIN h2 g2 hcH hrH honeH hW1 p1 B1 hx hl hcl; rw [Nat.add_zero] at hu0))
  go_ret
  exact ⟨_, rfl, hfinH.out _ rfl⟩
end Go.Proofs.YthclfkhakmcnbaaGreatDoor
/- Walks of the reference, layer 8: Put, Take. -/
namespace Go.Proofs.YthclfkhakmcnbaaGreatDoor
open Go.RowKit Go.Shelf
attribute [local go_sem] Oper.semAt_some
theorem strs_src {w : World} {v : Value} {l : List (List UInt8)} (h : StrsV w v l) (k : Nat) (hk : k ≤ l.length) : ∃ ao cap, v = .slice ao l.length cap ∧ l.length ≤ cap ∧ (ao = none → l.length = 0) ∧ (∀ W, KeepC w W → ∀ ad, ao = some ad → ∀ j u, (strsC l)[j]? = some u → W.cell? (ad.add j) = some u) ∧
    (∃ a2 c2, sliced ao k l.length cap 1 = .slice a2 (l.length - k) c2 ∧ (a2 = none → l.length - k = 0) ∧ ∀ W, KeepC w W → ∀ ad, a2 = some ad → ∀ j u, ((strsC l).drop k)[j]? = some u → W.cell? (ad.add j) = some u) := by
  rcases Nat.eq_zero_or_pos l.length with h0 | h0
  · obtain ⟨hl, ao, cap, rfl, hc, -⟩ := h
    have hk0 : k = 0 := by omega
    have hcs : strsC l = [] := List.eq_nil_of_length_eq_zero (by rw [hl, h0])
    subst hk0
    rw [hcs]
    exact ⟨ao, cap, rfl, hc, fun _ => h0, fun W _ ad _ j u hu => by simp at hu, _, _, rfl, fun _ => by omega, fun W _ ad _ j u hu => by simp at hu⟩
  · obtain ⟨b, o, cap, rfl, hc, hb, hcell⟩ := SlR.pos h h0
    have hl := h.1
    have hcw : ∀ W, KeepC w W → ∀ j u, (strsC l)[j]? = some u → W.cell? ⟨b, o + j, none⟩ = some u := fun W hW j u hu => by
      obtain ⟨hj, rfl⟩ := List.getElem?_eq_some_iff.1 hu
      exact hW.2 _ _ _ (hcell j hj)
    refine ⟨_, cap, rfl, hc, by simp, fun W hW ad hd j u hu => ?_, some ⟨b, if cap = k then o else o + k, none⟩, cap - k, by simp only [sliced]; split <;> simp [Addr.add_lit], by simp, fun W hW ad hd j u hu => ?_⟩
    · cases hd
      rw [Addr.add_lit]
      exact hcw W hW j u hu
    · cases hd
      obtain ⟨hj, -⟩ := List.getElem?_eq_some_iff.1 hu
      rw [List.length_drop] at hj
      rw [Addr.add_lit, if_neg (by omega)]
      rw [List.getElem?_drop] at hu
      have := hcw W hW _ u hu
      rw [Nat.add_assoc]; exact this
def rputV (w : World) (m : Int) (l : List (List UInt8)) (t : List UInt8) (e : Ending) (w' : World) : Prop :=
  ∃ v', e = .returned (.tuple #[.agg #[.int .i64 (if rputE m l t = 0 then m else 0), v'], .int .i64 (rputE m l t)]) ∧ StrsV w' v' (if rputE m l t = 0 then l ++ [t] else []) ∧ Below w.heap.size w w'
theorem rputV_no {w w' : World} {m : Int} {l : List (List UInt8)} {t : List UInt8} {x : Int} (h : rputE m l t = x) (h0 : x ≠ 0) (hb : Below w.heap.size w w') : rputV w m l t (.returned (.tuple #[.agg #[.int .i64 0, .slice none 0 0], .int .i64 x])) w' :=
  ⟨.slice none 0 0, by rw [h, if_neg h0], by rw [h, if_neg h0]; exact SlR.nil _ _, hb⟩
theorem rputV_ok {w w' : World} {m : Int} {l : List (List UInt8)} {t : List UInt8} {v : Value} (h : rputE m l t = 0) (hv : StrsV w' v (l ++ [t])) (hb : Below w.heap.size w w') : rputV w m l t (.returned (.tuple #[.agg #[.int .i64 m, v], .int .i64 0])) w' :=
  ⟨v, by rw [h, if_pos rfl], by rw [h, if_pos rfl]; exact hv, hb⟩
set_option maxRecDepth 100000 in
set_option maxHeartbeats 4000000 in
theorem rputR_any (m : Int) (l : List (List UInt8)) (hl : FitsL l) (v : Value) (t : List UInt8) (ht : t.length ≤ 1000000) (w : World) (hv : StrsV w v l) :
    Calls Tryz.prog 79 #[ringV m v, .string ⟨t.toArray⟩] w (rputV w m l t) := by
  obtain ⟨i0, hI, hz0, hz1, hz2⟩ := info_parts infoS
  obtain ⟨av, cv, hvv, hcv, hno, hsr, -⟩ := strs_src hv 0 (Nat.zero_le _)
  subst hvv
  have hlm := hl.1
  have HR := fun W (h : KeepC w W) => ringRightR_any l hl m (.slice av l.length cv) W (hv.keep h)
  have HT := fun h200 W (h : KeepC w W) => takes_any l hl h200 (.slice av l.length cv) W (hv.keep h)
  have hNO := fun x w' => @rputV_no w w' m l t x
  have hOK := fun w' v => @rputV_ok w w' m l t v
  have hEq := fun h : ringB m l = true => rputE_q (t := t) h
  have hnm := fun h : ringB m l = true => ring_nums h
  have hE0 : ringB m l = false → rputE m l t = 2 := fun h => by unfold rputE; rw [h]; rfl
  have hzt := ba_size t
  generalize rputV w m l t = RV at *
  have hNOH := Lib.hid hNO
  have hOKH := Lib.hid hOK
  have hE0H := Lib.hid hE0
  have hEqH := Lib.hid hEq
  have hnmH := Lib.hid hnm
  have hnoH := Lib.hid hno
  have hsrH := Lib.hid hsr
  have hlC : (strsC l).length = l.length * 1 := by rw [strsC_len]; omega
  have hone : Hid (∀ u ∈ strsC l, u.oneCell' = true) := strsC_one
  clear hNO hOK hE0 hEq hnm hno hsr hv
  cases hb : ringB m l with
  | false =>
    have hE := hE0H.out hb
    rw [hb] at HR
    have hN := Lib.hid (hNOH.out 2 · hE (by decide))
    clear hEqH hnmH hE0H hE hb HT hNOH hOKH
    go_enter Tryz.func79, Tryz.ntmps79
    go_wp2_with fail
    obtain ⟨W0, hW0⟩ : ∃ W0, (w.alloc (.cells #[.int .i64 m, .slice av l.length cv] 46)).alloc (.cells #[.int .i64 0, .slice none 0 0] 46) = W0 := ⟨_, rfl⟩
    rw [hW0]
    have p0 : Blk W0 w.heap.size #[.int .i64 m, .slice av l.length cv] 46 := by rw [← hW0]; exact (Blk.new _ _ _).alloc _
    have r0 : Blk W0 (w.heap.size + 1) #[.int .i64 0, .slice none 0 0] 46 := by
      have := Blk.new (w.alloc (.cells #[.int .i64 m, .slice av l.length cv] 46)) #[.int .i64 0, .slice none 0 0] 46
      rw [World.size_alloc] at this
      rw [← hW0]; exact this
    have B0 : Below w.heap.size w W0 := by rw [← hW0]; exact ((Below.refl _ w).alloc (Nat.le_refl _) _).alloc (by simp) _
    have p00 : W0.cell? ⟨w.heap.size, 0, none⟩ = some (.int .i64 m) := (p0.cell 0).trans rfl
    have p01 : W0.cell? ⟨w.heap.size, 1, none⟩ = some (.slice av l.length cv) := (p0.cell 1).trans rfl
    have HRx := HR W0 (KeepC.of_below B0)
    have hc4 : w.heap.size ≤ w.heap.size + 1 := by omega
    have hne : w.heap.size ≠ w.heap.size + 1 := by omega
    clear hW0 HR
    generalize w.heap.size + 1 = c4 at *
    with_reducible refine HRx.mono ?_
    rintro e w1 ⟨rfl, b1⟩
    have r1 := r0.below b1 r0.lt
    have p1 := p0.below b1 p0.lt
    have B1 := B0.trans (b1.mono B0.size)
    have f0 := r1.frozen 0
    have f1 := r1.frozen 1
    have x0 := r1.cell 0
    have x1 := r1.cell 1
    simp at x0 x1
    have p10 : w1.cell? ⟨w.heap.size, 0, none⟩ = some (.int .i64 m) := (p1.cell 0).trans rfl
    have p11 : w1.cell? ⟨w.heap.size, 1, none⟩ = some (.slice av l.length cv) := (p1.cell 1).trans rfl
    clear p00 p01 p0
    clear b1 B0 r0
    go_wp2_with fail
    have r9 := (r1.set 0 (.int .i64 0)).set 1 (.slice none 0 0)
    have B9 := (B1.setCell (p := ⟨c4, 0, none⟩) hc4 (.int .i64 0)).setCell (p := ⟨c4, 1, none⟩) hc4 (.slice none 0 0)
    simp only [List.setIfInBounds_toArray, List.set_cons_zero, List.set_cons_succ] at r9
    generalize (w1.setCell ⟨c4, 0, none⟩ (.int .i64 0)).setCell ⟨c4, 1, none⟩ (.slice none 0 0) = W9 at *
    have q0 := r9.cell 0
    have q1 := r9.cell 1
    simp at q0 q1
    exact bodyPost_ret (v := .tuple #[.agg #[.int .i64 0, .slice none 0 0], .int .i64 2]) (by simp [results, Tryz.results79, go_sem, q0, q1]) rfl (hN.out _ B9)
  | true =>
    have hqe := hEqH.out hb
    obtain ⟨h0m, hm2, h200, htk⟩ := hnmH.out hb
    rw [hb] at HR
    unfold qput at hqe
    by_cases ht2 : t.length ≤ 200
    rotate_left 1
    · rw [if_neg ht2] at hqe
      have hN := Lib.hid (hNOH.out 2 · hqe (by decide))
      have htz : (200 : Int) < (t.length : Int) := by omega
      clear hEqH hnmH hE0H hqe hb HT hNOH hOKH h200
      go_enter Tryz.func79, Tryz.ntmps79
      go_wp2_with fail
      obtain ⟨W0, hW0⟩ : ∃ W0, (w.alloc (.cells #[.int .i64 m, .slice av l.length cv] 46)).alloc (.cells #[.int .i64 0, .slice none 0 0] 46) = W0 := ⟨_, rfl⟩
      rw [hW0]
      have p0 : Blk W0 w.heap.size #[.int .i64 m, .slice av l.length cv] 46 := by rw [← hW0]; exact (Blk.new _ _ _).alloc _
      have r0 : Blk W0 (w.heap.size + 1) #[.int .i64 0, .slice none 0 0] 46 := by
        have := Blk.new (w.alloc (.cells #[.int .i64 m, .slice av l.length cv] 46)) #[.int .i64 0, .slice none 0 0] 46
        rw [World.size_alloc] at this
        rw [← hW0]; exact this
      have B0 : Below w.heap.size w W0 := by rw [← hW0]; exact ((Below.refl _ w).alloc (Nat.le_refl _) _).alloc (by simp) _
      have p00 : W0.cell? ⟨w.heap.size, 0, none⟩ = some (.int .i64 m) := (p0.cell 0).trans rfl
      have p01 : W0.cell? ⟨w.heap.size, 1, none⟩ = some (.slice av l.length cv) := (p0.cell 1).trans rfl
      have HRx := HR W0 (KeepC.of_below B0)
      have hc4 : w.heap.size ≤ w.heap.size + 1 := by omega
      have hne : w.heap.size ≠ w.heap.size + 1 := by omega
      clear hW0 HR
      generalize w.heap.size + 1 = c4 at *
      with_reducible refine HRx.mono ?_
      rintro e w1 ⟨rfl, b1⟩
      have r1 := r0.below b1 r0.lt
      have p1 := p0.below b1 p0.lt
      have B1 := B0.trans (b1.mono B0.size)
      have f0 := r1.frozen 0
      have f1 := r1.frozen 1
      have x0 := r1.cell 0
      have x1 := r1.cell 1
      simp at x0 x1
      have p10 : w1.cell? ⟨w.heap.size, 0, none⟩ = some (.int .i64 m) := (p1.cell 0).trans rfl
      have p11 : w1.cell? ⟨w.heap.size, 1, none⟩ = some (.slice av l.length cv) := (p1.cell 1).trans rfl
      clear p00 p01 p0
      clear b1 B0 r0
      go_wp2_with fail
      have r9 := (r1.set 0 (.int .i64 0)).set 1 (.slice none 0 0)
      have B9 := (B1.setCell (p := ⟨c4, 0, none⟩) hc4 (.int .i64 0)).setCell (p := ⟨c4, 1, none⟩) hc4 (.slice none 0 0)
      simp only [List.setIfInBounds_toArray, List.set_cons_zero, List.set_cons_succ] at r9
      generalize (w1.setCell ⟨c4, 0, none⟩ (.int .i64 0)).setCell ⟨c4, 1, none⟩ (.slice none 0 0) = W9 at *
      have q0 := r9.cell 0
      have q1 := r9.cell 1
      simp at q0 q1
      exact bodyPost_ret (v := .tuple #[.agg #[.int .i64 0, .slice none 0 0], .int .i64 2]) (by simp [results, Tryz.results79, go_sem, q0, q1]) rfl (hN.out _ B9)
    · have htz : ¬ (200 : Int) < (t.length : Int) := by omega
      have hw1 : IntKind.i64.wrap ((takesL l : Int) + (t.length : Int)) = (takesL l : Int) + (t.length : Int) := IntWalk.i64_in _ (by omega)
      have hw2 : IntKind.i64.wrap ((takesL l : Int) + (t.length : Int) + 1) = (takesL l : Int) + (t.length : Int) + 1 := IntWalk.i64_in _ (by omega)
      have HT := HT h200
      rw [if_pos ht2] at hqe
      by_cases hmx : (takesL l : Int) + (t.length + 1) ≤ m
      rotate_left 1
      · rw [if_neg hmx] at hqe
        have hN := Lib.hid (hNOH.out 80 · hqe (by decide))
        have hmz : m < (takesL l : Int) + (t.length : Int) + 1 := by omega
        clear hEqH hnmH hE0H hqe hb hNOH hOKH h200 hmx htk
        generalize takesL l = tk at *
        go_enter Tryz.func79, Tryz.ntmps79
        go_wp2_with fail
        obtain ⟨W0, hW0⟩ : ∃ W0, (w.alloc (.cells #[.int .i64 m, .slice av l.length cv] 46)).alloc (.cells #[.int .i64 0, .slice none 0 0] 46) = W0 := ⟨_, rfl⟩
        rw [hW0]
        have p0 : Blk W0 w.heap.size #[.int .i64 m, .slice av l.length cv] 46 := by rw [← hW0]; exact (Blk.new _ _ _).alloc _
        have r0 : Blk W0 (w.heap.size + 1) #[.int .i64 0, .slice none 0 0] 46 := by
          have := Blk.new (w.alloc (.cells #[.int .i64 m, .slice av l.length cv] 46)) #[.int .i64 0, .slice none 0 0] 46
          rw [World.size_alloc] at this
          rw [← hW0]; exact this
        have B0 : Below w.heap.size w W0 := by rw [← hW0]; exact ((Below.refl _ w).alloc (Nat.le_refl _) _).alloc (by simp) _
        have p00 : W0.cell? ⟨w.heap.size, 0, none⟩ = some (.int .i64 m) := (p0.cell 0).trans rfl
        have p01 : W0.cell? ⟨w.heap.size, 1, none⟩ = some (.slice av l.length cv) := (p0.cell 1).trans rfl
        have HRx := HR W0 (KeepC.of_below B0)
        have hc4 : w.heap.size ≤ w.heap.size + 1 := by omega
        have hne : w.heap.size ≠ w.heap.size + 1 := by omega
        clear hW0 HR
        generalize w.heap.size + 1 = c4 at *
        with_reducible refine HRx.mono ?_
        rintro e w1 ⟨rfl, b1⟩
        have r1 := r0.below b1 r0.lt
        have p1 := p0.below b1 p0.lt
        have B1 := B0.trans (b1.mono B0.size)
        have f0 := r1.frozen 0
        have f1 := r1.frozen 1
        have x0 := r1.cell 0
        have x1 := r1.cell 1
        simp at x0 x1
        have p10 : w1.cell? ⟨w.heap.size, 0, none⟩ = some (.int .i64 m) := (p1.cell 0).trans rfl
        have p11 : w1.cell? ⟨w.heap.size, 1, none⟩ = some (.slice av l.length cv) := (p1.cell 1).trans rfl
        clear p00 p01 p0
        have HTx := fun n => HT (w1.drewN n) ((KeepC.of_below B1).trans (KeepC.drewN w1 n))
        clear b1 B0 r0 HT
        go_wp2_with fail
        go_quiet (first | (go_at_call 107; refine Calls.quiet_of_same (HTx _)))
        have d2 : Below w1.heap.size w1 (w1.drewN nq) := below_drewN (Below.refl _ _) _
        have p2 := p1.below d2 p1.lt
        have r2 := r1.below d2 r1.lt
        have B2 := B1.trans (d2.mono B1.size)
        clear HTx p10 p11 f0 f1 x0 x1
        generalize w1.drewN nq = w2 at *
        clear d2 B1 p1 r1
        have f0 := r2.frozen 0
        have f1 := r2.frozen 1
        have x0 := r2.cell 0
        have x1 := r2.cell 1
        simp at x0 x1
        have p10 : w2.cell? ⟨w.heap.size, 0, none⟩ = some (.int .i64 m) := (p2.cell 0).trans rfl
        have p11 : w2.cell? ⟨w.heap.size, 1, none⟩ = some (.slice av l.length cv) := (p2.cell 1).trans rfl
        go_wp2_with fail
        have r9 := (r2.set 0 (.int .i64 0)).set 1 (.slice none 0 0)
        have B9 := (B2.setCell (p := ⟨c4, 0, none⟩) hc4 (.int .i64 0)).setCell (p := ⟨c4, 1, none⟩) hc4 (.slice none 0 0)
        simp only [List.setIfInBounds_toArray, List.set_cons_zero, List.set_cons_succ] at r9
        generalize (w2.setCell ⟨c4, 0, none⟩ (.int .i64 0)).setCell ⟨c4, 1, none⟩ (.slice none 0 0) = W9 at *
        have q0 := r9.cell 0
        have q1 := r9.cell 1
        simp at q0 q1
        exact bodyPost_ret (v := .tuple #[.agg #[.int .i64 0, .slice none 0 0], .int .i64 80]) (by simp [results, Tryz.results79, go_sem, q0, q1]) rfl (hN.out _ B9)
      · rw [if_pos hmx] at hqe
        have hN := Lib.hid (hOKH.out · · hqe)
        have hmz : ¬ m < (takesL l : Int) + (t.length : Int) + 1 := by omega
        clear hEqH hnmH hE0H hqe hb hNOH hOKH h200 hmx htk
        generalize takesL l = tk at *
        go_enter Tryz.func79, Tryz.ntmps79
        go_wp2_with fail
        obtain ⟨W0, hW0⟩ : ∃ W0, (w.alloc (.cells #[.int .i64 m, .slice av l.length cv] 46)).alloc (.cells #[.int .i64 0, .slice none 0 0] 46) = W0 := ⟨_, rfl⟩
        rw [hW0]
        have p0 : Blk W0 w.heap.size #[.int .i64 m, .slice av l.length cv] 46 := by rw [← hW0]; exact (Blk.new _ _ _).alloc _
        have r0 : Blk W0 (w.heap.size + 1) #[.int .i64 0, .slice none 0 0] 46 := by
          have := Blk.new (w.alloc (.cells #[.int .i64 m, .slice av l.length cv] 46)) #[.int .i64 0, .slice none 0 0] 46
          rw [World.size_alloc] at this
          rw [← hW0]; exact this
        have B0 : Below w.heap.size w W0 := by rw [← hW0]; exact ((Below.refl _ w).alloc (Nat.le_refl _) _).alloc (by simp) _
        have p00 : W0.cell? ⟨w.heap.size, 0, none⟩ = some (.int .i64 m) := (p0.cell 0).trans rfl
        have p01 : W0.cell? ⟨w.heap.size, 1, none⟩ = some (.slice av l.length cv) := (p0.cell 1).trans rfl
        have HRx := HR W0 (KeepC.of_below B0)
        have hc4 : w.heap.size ≤ w.heap.size + 1 := by omega
        have hne : w.heap.size ≠ w.heap.size + 1 := by omega
        clear hW0 HR
        generalize w.heap.size + 1 = c4 at *
        with_reducible refine HRx.mono ?_
        rintro e w1 ⟨rfl, b1⟩
        have r1 := r0.below b1 r0.lt
        have p1 := p0.below b1 p0.lt
        have B1 := B0.trans (b1.mono B0.size)
        have f0 := r1.frozen 0
        have f1 := r1.frozen 1
        have x0 := r1.cell 0
        have x1 := r1.cell 1
        simp at x0 x1
        have p10 : w1.cell? ⟨w.heap.size, 0, none⟩ = some (.int .i64 m) := (p1.cell 0).trans rfl
        have p11 : w1.cell? ⟨w.heap.size, 1, none⟩ = some (.slice av l.length cv) := (p1.cell 1).trans rfl
        clear p00 p01 p0
        have HTx := fun n => HT (w1.drewN n) ((KeepC.of_below B1).trans (KeepC.drewN w1 n))
        clear b1 B0 r0 HT
        go_wp2_with fail
        go_quiet (first | (go_at_call 107; refine Calls.quiet_of_same (HTx _)))
        have d2 : Below w1.heap.size w1 (w1.drewN nq) := below_drewN (Below.refl _ _) _
        have p2 := p1.below d2 p1.lt
        have r2 := r1.below d2 r1.lt
        have B2 := B1.trans (d2.mono B1.size)
        clear HTx p10 p11 f0 f1 x0 x1
        generalize w1.drewN nq = w2 at *
        clear d2 B1 p1 r1
        have f0 := r2.frozen 0
        have f1 := r2.frozen 1
        have x0 := r2.cell 0
        have x1 := r2.cell 1
        simp at x0 x1
        have p10 : w2.cell? ⟨w.heap.size, 0, none⟩ = some (.int .i64 m) := (p2.cell 0).trans rfl
        have p11 : w2.cell? ⟨w.heap.size, 1, none⟩ = some (.slice av l.length cv) := (p2.cell 1).trans rfl
        go_wp2_with fail
        have hSK : Hid (∀ u, Below w2.heap.size w2 u → u.cell? ⟨w.heap.size, 0, none⟩ = some (.int .i64 m) ∧ u.cell? ⟨w.heap.size, 1, none⟩ = some (.slice av l.length cv)) := fun u h => ⟨(KeepC.of_below h).2 _ _ _ p10, (KeepC.of_below h).2 _ _ _ p11⟩
        have Cd : Below w2.heap.size w2 w2.drew := (Below.refl _ w2).drew
        have Kd := (KeepC.of_below B2).trans (KeepC.of_below Cd)
        have honeT : Hid (∀ u ∈ ([.string ⟨t.toArray⟩] : List Value), u.oneCell' = true) := by show ∀ u ∈ _, _; simp [Value.oneCell']
        have hl9 : Hid (strsC l ++ [.string ⟨t.toArray⟩] = strsC (l ++ [t])) := by show _ = _; simp [strsC]
        have hV9 : Hid (∀ (W : World) v base u, W.ownsRow base 9 1 v (l.length + 1) (strsC (l ++ [t])) → Blk W c4 #[.int .i64 0, .slice none 0 0] 46 → StrsV ((W.setCell ⟨c4, 0, none⟩ (.int .i64 m)).setCell ⟨c4, 1, none⟩ u) v (l ++ [t])) := by
          show ∀ W : World, _
          intro W v base u h hr
          have g := grownBy_t (grownBy_setCellB W c4 0 (.int .i64 m)) (grownBy_setCellB _ c4 1 u)
          have h2 := own_kept h g (RowT.blk hr _ (by decide))
          have h3 := SlR.of_row h2
          show SlR 1 _ v (l ++ [t]).length _
          rw [List.length_append]; exact h3
        clear f0 f1 x0 x1
        refine wp_region_noPanic ?_
        refine wp_region_held_drew (S := (fun W => W.cell? ⟨w.heap.size, 0, none⟩ = some (.int .i64 m) ∧ W.cell? ⟨w.heap.size, 1, none⟩ = some (.slice av l.length cv))) (by kernel_rfl) ?_ (fun hHeld => ?_)
        · exact hSK.out _ Cd
        refine wpAnyH_take (i := 0) (oi := _) (v := ?_) (nth_at rfl) (by kernel_rfl) (by kernel_rfl) (by kernel_rfl) (fun _ _ _ h => h) (Or.inl ⟨by rfl, ?_⟩) (by assumption) ?_
        rotate_left 1
        · intro w hSw; (try dsimp only at hSw); (go_simp <;> with_reducible rfl)
        try simp only [Act.put, List.setIfInBounds_toArray, List.set_cons_zero, List.set_cons_succ]
        refine wpAnyH_take (i := 1) (oi := _) (v := ?_) (nth_at rfl) (by kernel_rfl) (by kernel_rfl) (by kernel_rfl) (fun _ _ _ h => h) (Or.inl ⟨by rfl, ?_⟩) (by assumption) ?_
        rotate_left 1
        · intro w hSw; (try dsimp only at hSw); (go_simp <;> with_reducible rfl)
        try simp only [Act.put, List.setIfInBounds_toArray, List.set_cons_zero, List.set_cons_succ]
        refine wpAnyH_take (i := 2) (oi := _) (v := ?_) (nth_at rfl) (by kernel_rfl) (by kernel_rfl) (by kernel_rfl) (fun _ _ _ h => h) (Or.inl ⟨by rfl, ?_⟩) (by assumption) ?_
        rotate_left 1
        · intro w hSw; (try dsimp only at hSw); (go_simp <;> with_reducible rfl)
        try simp only [Act.put, List.setIfInBounds_toArray, List.set_cons_zero, List.set_cons_succ]
        refine wpAnyH_take (i := 3) (oi := _) (v := ?_) (nth_at rfl) (by kernel_rfl) (by kernel_rfl) (by kernel_rfl) (fun _ _ _ h => h) (Or.inl ⟨by rfl, ?_⟩) (by assumption) ?_
        rotate_left 1
        · intro w hSw; (try dsimp only at hSw); (go_simp <;> with_reducible rfl)
        try simp only [Act.put, List.setIfInBounds_toArray, List.set_cons_zero, List.set_cons_succ]
        refine wpAnyH_take (i := 4) (oi := _) (v := ?_) (nth_at rfl) (by kernel_rfl) (by kernel_rfl) (by kernel_rfl) (fun _ _ _ h => h) (Or.inl ⟨by rfl, ?_⟩) (by assumption) ?_
        rotate_left 1
        · intro w hSw; (try dsimp only at hSw); (go_simp <;> with_reducible rfl)
        try simp only [Act.put, List.setIfInBounds_toArray, List.set_cons_zero, List.set_cons_succ]
        refine wpAnyH_take (i := 6) (oi := _) (v := ?_) (nth_at rfl) (by kernel_rfl) (by kernel_rfl) (by kernel_rfl) (fun _ _ _ h => h) (Or.inl ⟨by rfl, ?_⟩) (by assumption) ?_
        rotate_left 1
        · intro w hSw; (try dsimp only at hSw); (go_simp <;> with_reducible rfl)
        try simp only [Act.put, List.setIfInBounds_toArray, List.set_cons_zero, List.set_cons_succ]
        refine wpAnyH_ready (rs := [5, 7]) (by kernel_rfl) (by simp) ?_
        refine AllReadyH.cons (o := _) (nth_at rfl) (fun K hK => ?_) ?_
        · rw [if_pos (by rfl)]
          refine wp_append_src _ _ 42 rfl w2.heap.size 9 i0 (.string ⟨#[]⟩) 1 16 Tryz.underlying42 hI hz0 hz1 hz2 rfl (by decide) (.slice none 0 0) 0 _ rfl (World.ownsRow_nil _ _ _ _) av l.length cv (strsC l) rfl hnoH.out hlC (hsrH.out _ Kd) hone.out (by unfold maxLen; omega) (by omega) (Nat.le_refl _) ?_
          intro v6 w6 h6 g6
          rw [Nat.zero_add, List.nil_append] at h6
          have C6 : Below w2.heap.size w2 w6 := Cd.grown g6 Cd.size (fun k e => by simp [Value.ownBlock] at e)
          have K6 := (KeepC.of_below B2).trans (KeepC.of_below C6)
          have s6 := hSK.out _ C6
          have s60 := s6.1
          have s61 := s6.2
          obtain ⟨a6, cp6, rfl, -⟩ := row_form h6
          try clear hHeld
          refine hK.out _ _ ?_ (fun hHeld => ?_)
          · exact s6
          clear hK K
          try simp only [Act.put, List.setIfInBounds_toArray, List.set_cons_zero, List.set_cons_succ]
          refine wpAnyH_ready (rs := [7]) (by kernel_rfl) (by simp) ?_
          refine AllReadyH.cons (o := _) (nth_at rfl) (fun K hK => ?_) AllReadyH.nil
          go_simp
          try clear hHeld
          refine hK.out _ _ ?_ (fun hHeld => ?_)
          · exact hSK.out _ (C6.alloc C6.size _)
          clear hK K
          try simp only [Act.put, List.setIfInBounds_toArray, List.set_cons_zero, List.set_cons_succ]
          refine wpAnyH_ready (rs := [8]) (by kernel_rfl) (by simp) ?_
          refine AllReadyH.cons (o := _) (nth_at rfl) (fun K hK => ?_) AllReadyH.nil
          rw [if_pos (by rfl)]
          obtain ⟨W7, hW7⟩ : ∃ W7, w6.alloc (.cells #[.string ⟨t.toArray⟩] 9) = W7 := ⟨_, rfl⟩
          rw [hW7]
          have q7 : Blk W7 w6.heap.size #[.string ⟨t.toArray⟩] 9 := hW7 ▸ Blk.new _ _ _
          have C7 : Below w2.heap.size w2 W7 := hW7 ▸ C6.alloc C6.size _
          have K7 := (KeepC.of_below B2).trans (KeepC.of_below C7)
          have s7 := hSK.out _ C7
          have s70 := s7.1
          have s71 := s7.2
          have h7 := own_kept h6 (show w6.grownBy W7 none from hW7 ▸ World.grownBy_alloc _ _ none) (RowT.none _ _)
          clear hW7
          refine wp_append_src _ _ 42 rfl w2.heap.size 9 i0 (.string ⟨#[]⟩) 1 16 Tryz.underlying42 hI hz0 hz1 hz2 rfl (by decide) _ _ _ rfl h7 _ 1 1 [.string ⟨t.toArray⟩] rfl (fun h => by cases h) rfl (fun ad hd => by cases hd; exact blk_srcs q7) honeT.out (by unfold maxLen; omega) (by omega) C7.size ?_
          intro v8 w8 h8 g8
          have C8 : Below w2.heap.size w2 w8 := C7.grown g8 C7.size (fun k e => (h7.lt k e).1)
          have K8 := (KeepC.of_below B2).trans (KeepC.of_below C8)
          have s8 := hSK.out _ C8
          have s80 := s8.1
          have s81 := s8.2
          rw [hl9.out] at h8
          obtain ⟨a8, cp8, rfl, -⟩ := row_form h8
          have p8 := p2.below C8 p2.lt
          have r8 := r2.below C8 r2.lt
          have g80 := r8.frozen 0
          have g81 := r8.frozen 1
          have y0 := r8.cell 0
          have y1 := r8.cell 1
          simp at y0 y1
          try clear hHeld
          refine hK.out _ _ ?_ (fun hHeld => ?_)
          · exact s8
          clear hK K
          try simp only [Act.put, List.setIfInBounds_toArray, List.set_cons_zero, List.set_cons_succ]
          refine wpAnyH_take (i := 9) (oi := _) (v := ?_) (nth_at rfl) (by kernel_rfl) (by kernel_rfl) (by kernel_rfl) (fun _ _ _ h => h) (Or.inl ⟨by rfl, ?_⟩) (by assumption) ?_
          rotate_left 1
          · intro w hSw; (try dsimp only at hSw); (go_simp <;> with_reducible rfl)
          try simp only [Act.put, List.setIfInBounds_toArray, List.set_cons_zero, List.set_cons_succ]
          refine wpAnyH_ready (rs := [10]) (by kernel_rfl) (by simp) ?_
          refine AllReadyH.cons (o := _) (nth_at rfl) (fun K hK => ?_) AllReadyH.nil
          go_simp
          try clear hHeld
          refine hK.out _ _ ?_ (fun hHeld => ?_)
          · exact ⟨(((p8.other 0 _ hne).other 1 _ hne).cell 0).trans rfl, (((p8.other 0 _ hne).other 1 _ hne).cell 1).trans rfl⟩
          clear hK K
          try simp only [Act.put, List.setIfInBounds_toArray, List.set_cons_zero, List.set_cons_succ]
          refine wpAnyH_take (i := 11) (oi := _) (v := ?_) (nth_at rfl) (by kernel_rfl) (by kernel_rfl) (by kernel_rfl) (fun _ _ _ h => h) (Or.inl ⟨by rfl, ?_⟩) (by assumption) ?_
          rotate_left 1
          · intro w hSw; (try dsimp only at hSw); (go_simp <;> with_reducible rfl)
          try simp only [Act.put, List.setIfInBounds_toArray, List.set_cons_zero, List.set_cons_succ]
          refine wpAnyH_done (by kernel_rfl) ?_ _
          refine NoPanic.normal ?_
          try clear hHeld
          go_wp2_with fail
          have V9 := hV9.out _ (.slice a8 (l.length + 1) cp8) _ (.slice a8 (l.length + 1) cp8) h8 r8
          have r9 := (r8.set 0 (.int .i64 m)).set 1 (.slice a8 (l.length + 1) cp8)
          have B9 := (((B2.trans (C8.mono B2.size)).setCell (p := ⟨c4, 0, none⟩) hc4 (.int .i64 m)).setCell (p := ⟨c4, 1, none⟩) hc4 (.slice a8 (l.length + 1) cp8))
          simp only [List.setIfInBounds_toArray, List.set_cons_zero, List.set_cons_succ] at r9
          generalize (w8.setCell ⟨c4, 0, none⟩ (.int .i64 m)).setCell ⟨c4, 1, none⟩ (.slice a8 (l.length + 1) cp8) = W9 at *
          have z0 := r9.cell 0
          have z1 := r9.cell 1
          simp at z0 z1
          exact bodyPost_ret (v := .tuple #[.agg #[.int .i64 m, .slice a8 (l.length + 1) cp8], .int .i64 0]) (by simp [results, Tryz.results79, go_sem, z0, z1]) rfl (hN.out _ _ V9 B9)
        refine AllReadyH.cons (o := _) (nth_at rfl) (fun K hK => ?_) AllReadyH.nil
        go_simp
        try clear hHeld
        refine hK.out _ _ ?_ (fun hHeld => ?_)
        · exact hSK.out _ ((Below.refl _ w2).drew.alloc (Nat.le_refl _) _)
        clear hK K
        try simp only [Act.put, List.setIfInBounds_toArray, List.set_cons_zero, List.set_cons_succ]
        refine wpAnyH_ready (rs := [5]) (by kernel_rfl) (by simp) ?_
        refine AllReadyH.cons (o := _) (nth_at rfl) (fun K hK => ?_) AllReadyH.nil
        rw [if_pos (by rfl)]
        obtain ⟨W7, hW7⟩ : ∃ W7, (w2.alloc (.cells #[.string ⟨t.toArray⟩] 9)).drew = W7 := ⟨_, rfl⟩
        rw [hW7]
        have q7 : Blk W7 w2.heap.size #[.string ⟨t.toArray⟩] 9 := hW7 ▸ (Blk.new _ _ _).drew
        have C7 : Below w2.heap.size w2 W7 := hW7 ▸ ((Below.refl _ w2).alloc (Nat.le_refl _) _).drew
        have K7 := (KeepC.of_below B2).trans (KeepC.of_below C7)
        have s7 := hSK.out _ C7
        have s70 := s7.1
        have s71 := s7.2
        clear hW7
        refine wp_append_src _ _ 42 rfl W7.heap.size 9 i0 (.string ⟨#[]⟩) 1 16 Tryz.underlying42 hI hz0 hz1 hz2 rfl (by decide) (.slice none 0 0) 0 _ rfl (World.ownsRow_nil _ _ _ _) av l.length cv (strsC l) rfl hnoH.out hlC (hsrH.out _ K7) hone.out (by unfold maxLen; omega) (by omega) (Nat.le_refl _) ?_
        intro v6 w6 h6 g6
        rw [Nat.zero_add, List.nil_append] at h6
        have C6 : Below w2.heap.size w2 w6 := C7.grown g6 C7.size (fun k e => by simp [Value.ownBlock] at e)
        have K6 := (KeepC.of_below B2).trans (KeepC.of_below C6)
        have s6 := hSK.out _ C6
        have s60 := s6.1
        have s61 := s6.2
        obtain ⟨a6, cp6, rfl, -⟩ := row_form h6
        have q6 := q7.kept g6 (by simp [Value.ownBlock])
        clear q7
        try clear hHeld
        refine hK.out _ _ ?_ (fun hHeld => ?_)
        · exact s6
        clear hK K
        try simp only [Act.put, List.setIfInBounds_toArray, List.set_cons_zero, List.set_cons_succ]
        refine wpAnyH_ready (rs := [8]) (by kernel_rfl) (by simp) ?_
        refine AllReadyH.cons (o := _) (nth_at rfl) (fun K hK => ?_) AllReadyH.nil
        rw [if_pos (by rfl)]
        refine wp_append_src _ _ 42 rfl W7.heap.size 9 i0 (.string ⟨#[]⟩) 1 16 Tryz.underlying42 hI hz0 hz1 hz2 rfl (by decide) _ _ _ rfl h6 _ 1 1 [.string ⟨t.toArray⟩] rfl (fun h => by cases h) rfl (fun ad hd => by cases hd; exact blk_srcs q6) honeT.out (by unfold maxLen; omega) (by omega) g6.size ?_
        intro v8 w8 h8 g8
        have C8 : Below w2.heap.size w2 w8 := C6.grown g8 C6.size (fun k e => Nat.le_trans C7.size (h6.lt k e).1)
        have K8 := (KeepC.of_below B2).trans (KeepC.of_below C8)
        have s8 := hSK.out _ C8
        have s80 := s8.1
        have s81 := s8.2
        have h8 := own_base h8 C7.size
        rw [hl9.out] at h8
        obtain ⟨a8, cp8, rfl, -⟩ := row_form h8
        have p8 := p2.below C8 p2.lt
        have r8 := r2.below C8 r2.lt
        have g80 := r8.frozen 0
        have g81 := r8.frozen 1
        have y0 := r8.cell 0
        have y1 := r8.cell 1
        simp at y0 y1
        try clear hHeld
        refine hK.out _ _ ?_ (fun hHeld => ?_)
        · exact s8
        clear hK K
        try simp only [Act.put, List.setIfInBounds_toArray, List.set_cons_zero, List.set_cons_succ]
        refine wpAnyH_take (i := 9) (oi := _) (v := ?_) (nth_at rfl) (by kernel_rfl) (by kernel_rfl) (by kernel_rfl) (fun _ _ _ h => h) (Or.inl ⟨by rfl, ?_⟩) (by assumption) ?_
        rotate_left 1
        · intro w hSw; (try dsimp only at hSw); (go_simp <;> with_reducible rfl)
        try simp only [Act.put, List.setIfInBounds_toArray, List.set_cons_zero, List.set_cons_succ]
        refine wpAnyH_ready (rs := [10]) (by kernel_rfl) (by simp) ?_
        refine AllReadyH.cons (o := _) (nth_at rfl) (fun K hK => ?_) AllReadyH.nil
        go_simp
        try clear hHeld
        refine hK.out _ _ ?_ (fun hHeld => ?_)
        · exact ⟨(((p8.other 0 _ hne).other 1 _ hne).cell 0).trans rfl, (((p8.other 0 _ hne).other 1 _ hne).cell 1).trans rfl⟩
        clear hK K
        try simp only [Act.put, List.setIfInBounds_toArray, List.set_cons_zero, List.set_cons_succ]
        refine wpAnyH_take (i := 11) (oi := _) (v := ?_) (nth_at rfl) (by kernel_rfl) (by kernel_rfl) (by kernel_rfl) (fun _ _ _ h => h) (Or.inl ⟨by rfl, ?_⟩) (by assumption) ?_
        rotate_left 1
        · intro w hSw; (try dsimp only at hSw); (go_simp <;> with_reducible rfl)
        try simp only [Act.put, List.setIfInBounds_toArray, List.set_cons_zero, List.set_cons_succ]
        refine wpAnyH_done (by kernel_rfl) ?_ _
        refine NoPanic.normal ?_
        try clear hHeld
        go_wp2_with fail
        have V9 := hV9.out _ (.slice a8 (l.length + 1) cp8) _ (.slice a8 (l.length + 1) cp8) h8 r8
        have r9 := (r8.set 0 (.int .i64 m)).set 1 (.slice a8 (l.length + 1) cp8)
        have B9 := (((B2.trans (C8.mono B2.size)).setCell (p := ⟨c4, 0, none⟩) hc4 (.int .i64 m)).setCell (p := ⟨c4, 1, none⟩) hc4 (.slice a8 (l.length + 1) cp8))
        simp only [List.setIfInBounds_toArray, List.set_cons_zero, List.set_cons_succ] at r9
        generalize (w8.setCell ⟨c4, 0, none⟩ (.int .i64 m)).setCell ⟨c4, 1, none⟩ (.slice a8 (l.length + 1) cp8) = W9 at *
        have z0 := r9.cell 0
        have z1 := r9.cell 1
        simp at z0 z1
        exact bodyPost_ret (v := .tuple #[.agg #[.int .i64 m, .slice a8 (l.length + 1) cp8], .int .i64 0]) (by simp [results, Tryz.results79, go_sem, z0, z1]) rfl (hN.out _ _ V9 B9)

end Go.Proofs.YthclfkhakmcnbaaGreatDoor
/- Walks of the reference, layer 10: Put. -/
namespace Go.Proofs.YthclfkhakmcnbaaGreatDoor
open Go.RowKit Go.Shelf
attribute [local go_sem] Oper.semAt_some
/-- an object's cells in a view, and its items' list -/
theorem objs_cells {w : World} {v : Value} {l : List ObjD} (h : ObjsV w v l) (i : Nat) (hi : i < l.length) : ∃ b o cap a4 c4, v = .slice (some ⟨b, o, none⟩) l.length cap ∧ StrsV w (.slice a4 l[i].items.length c4) l[i].items ∧
    ∀ W, KeepC w W → W.cell? ⟨b, o + i * 5, none⟩ = some (.string ⟨l[i].name.toArray⟩) ∧ W.cell? ⟨b, o + i * 5 + 1, none⟩ = some (.int .i64 l[i].kind) ∧ W.cell? ⟨b, o + i * 5 + 2, none⟩ = some (.string ⟨l[i].data.toArray⟩) ∧ W.cell? ⟨b, o + i * 5 + 3, none⟩ = some (.int .i64 l[i].max) ∧ W.cell? ⟨b, o + i * 5 + 4, none⟩ = some (.slice a4 l[i].items.length c4) := by
  obtain ⟨a, cap, rfl, hc⟩ := h.at
  obtain ⟨b, o, lv, rfl, -, hlv, k0, k1, k2, k3, k4⟩ := hc i hi
  obtain ⟨a4, c4, rfl, -⟩ := hlv.at
  exact ⟨b, o, cap, a4, c4, rfl, hlv, fun W hW => ⟨hW.2 _ _ _ k0, hW.2 _ _ _ k1, hW.2 _ _ _ k2, hW.2 _ _ _ k3, hW.2 _ _ _ k4⟩⟩
/-- a copy of an object, its ring being another one: what the cells read as -/
theorem ring_copy (W2 : World) (x : ObjD) (m : Int) (v4 v5 : Value) :
    ∃ W3 W4 W5, W2.alloc (.cells #[.int .i64 m, v5] 46) = W3 ∧ W3.alloc (.cells #[.string ⟨x.name.toArray⟩, .int .i64 x.kind, .string ⟨x.data.toArray⟩, .int .i64 x.max, v4] 48) = W4 ∧ (W4.setCell ⟨W3.heap.size, 3, none⟩ (.int .i64 m)).setCell ⟨W3.heap.size, 4, none⟩ v5 = W5 ∧
      Below W2.heap.size W2 W3 ∧ Below W2.heap.size W2 W5 ∧ (W4.cell? ⟨W2.heap.size, 0, none⟩ = some (.int .i64 m) ∧ W4.cell? ⟨W2.heap.size, 1, none⟩ = some v5) ∧
      (W4.frozen? ⟨W3.heap.size, 3, none⟩ = false ∧ W4.frozen? ⟨W3.heap.size, 4, none⟩ = false) ∧ (W4.cell? ⟨W3.heap.size, 3, none⟩ = some (.int .i64 x.max) ∧ W4.cell? ⟨W3.heap.size, 4, none⟩ = some v4) ∧
      (W5.cell? ⟨W3.heap.size, 0, none⟩ = some (.string ⟨x.name.toArray⟩) ∧ W5.cell? ⟨W3.heap.size, 1, none⟩ = some (.int .i64 x.kind) ∧ W5.cell? ⟨W3.heap.size, 2, none⟩ = some (.string ⟨x.data.toArray⟩) ∧ W5.cell? ⟨W3.heap.size, 3, none⟩ = some (.int .i64 m) ∧ W5.cell? ⟨W3.heap.size, 4, none⟩ = some v5) := by
  refine ⟨_, _, _, rfl, rfl, rfl, ?_⟩
  have q3 := Blk.new W2 #[.int .i64 m, v5] 46
  have B3 : Below W2.heap.size W2 (W2.alloc (.cells #[.int .i64 m, v5] 46)) := (Below.refl _ W2).alloc (Nat.le_refl _) _
  have hs : W2.heap.size ≤ (W2.alloc (.cells #[.int .i64 m, v5] 46)).heap.size := B3.size
  generalize W2.alloc (.cells #[.int .i64 m, v5] 46) = W3 at *
  have q4 := q3.alloc (.cells #[.string ⟨x.name.toArray⟩, .int .i64 x.kind, .string ⟨x.data.toArray⟩, .int .i64 x.max, v4] 48)
  have o4 := Blk.new W3 #[.string ⟨x.name.toArray⟩, .int .i64 x.kind, .string ⟨x.data.toArray⟩, .int .i64 x.max, v4] 48
  have B4 := B3.alloc hs (.cells #[.string ⟨x.name.toArray⟩, .int .i64 x.kind, .string ⟨x.data.toArray⟩, .int .i64 x.max, v4] 48)
  generalize W3.alloc (.cells #[.string ⟨x.name.toArray⟩, .int .i64 x.kind, .string ⟨x.data.toArray⟩, .int .i64 x.max, v4] 48) = W4 at *
  have o5 := (o4.set 3 (.int .i64 m)).set 4 v5
  have B5 := (B4.setCell (p := ⟨W3.heap.size, 3, none⟩) hs (.int .i64 m)).setCell (p := ⟨W3.heap.size, 4, none⟩) hs v5
  simp only [List.setIfInBounds_toArray, List.set_cons_zero, List.set_cons_succ] at o5
  exact ⟨B3, B5, ⟨(q4.cell 0).trans rfl, (q4.cell 1).trans rfl⟩, ⟨o4.frozen 3, o4.frozen 4⟩, ⟨(o4.cell 3).trans rfl, (o4.cell 4).trans rfl⟩, (o5.cell 0).trans rfl, (o5.cell 1).trans rfl, (o5.cell 2).trans rfl, (o5.cell 3).trans rfl, (o5.cell 4).trans rfl⟩
set_option maxRecDepth 100000 in
set_option maxHeartbeats 4000000 in
theorem PutR_any (l : List ObjD) (hl : FitsS l) (v : Value) (n t : List UInt8) (ht : t.length ≤ 1000000) (w : World) (hv : ObjsV w v l) :
    Calls Tryz.prog 39 #[v, .string ⟨n.toArray⟩, .string ⟨t.toArray⟩] w (viewP w (putS l n t) (putE l n t)) := by
  have HF := rfind_any l hl v n 2 (by decide) w hv
  by_cases hed : editE l n 2 = 0
  · obtain ⟨hsp, hi, -⟩ := edit_zero.1 hed
    have hE := putE_ok (t := t) hed
    rw [if_pos hed, hed] at HF
    have hS : putS l n t = if putE l n t = 0 then setS l n (withR (objS l n).max ((objS l n).items ++ [t])) else [] := rfl
    rw [hE, set_modify _ hi, objS_at hi] at hS
    rw [objS_at hi] at hE
    rw [hS, hE]
    clear hS hE
    have HSet := fun x lv W (h : KeepC w W) h2 => rset_any l hl v (idxS l n) hi x lv W (hv.keep h) h2
    obtain ⟨b, o, cap, a4, c4, rfl, hlv, hcells⟩ := objs_cells hv _ hi
    have HP := fun W (h : KeepC w W) => rputR_any l[idxS l n].max l[idxS l n].items (hl.2 _ (List.getElem_mem hi)).2.2 _ t ht W (hlv.keep h)
    have hge : (0 : Int) ≤ (idxS l n : Int) := by omega
    have hlt : (idxS l n : Int) < (l.length : Int) := by omega
    have HSetH := Lib.hid HSet
    have hcH := Lib.hid hcells
    unfold rputV at HP
    clear HSet hcells hv hsp hed hl
    have hob : l[idxS l n] = l[idxS l n] := rfl
    generalize hx : l[idxS l n] = x at *
    clear hob
    generalize idxS l n = ix at *
    obtain ⟨E, hE⟩ : ∃ E, rputE x.max x.items t = E := ⟨_, rfl⟩
    rw [hE] at HP ⊢
    clear hE
    by_cases h0 : E = 0
    · subst h0
      simp only [if_true] at HP ⊢
      go_enter Tryz.func39, Tryz.ntmps39
      go_wp2_with fail
      with_reducible refine HF.mono ?_
      rintro e w1 ⟨rfl, b1⟩
      obtain ⟨k0, k1, k2, k3, k4⟩ := hcH.out _ (KeepC.of_below b1)
      go_wp2_with fail
      with_reducible refine (HP _ (KeepC.of_below b1)).mono ?_
      rintro e w2 ⟨v2, rfl, s2, b2⟩
      obtain ⟨a5, c5, rfl, -⟩ := s2.at
      have K2 := (KeepC.of_below b1).trans (KeepC.of_below b2)
      clear HP HF k0 k1 k2 k3 k4
      generalize hil : (x.items ++ [t]).length = il at *
      obtain ⟨W3, W4, W5, hW3, hW4, hW5, C3, C5, ⟨g40, g41⟩, ⟨z3, z4⟩, ⟨y3, y4⟩, y50, y51, y52, y53, y54⟩ := ring_copy w2 x x.max (.slice a4 x.items.length c4) (.slice a5 il c5)
      obtain ⟨k0, k1, k2, k3, k4⟩ := hcH.out W3 (K2.trans (KeepC.of_below C3))
      have HSx := HSetH.out (withR x.max (x.items ++ [t]) x) (.slice a5 il c5) W5 (K2.trans (KeepC.of_below C5)) (s2.keep (KeepC.of_below C5))
      have B5 := (b1.trans (b2.mono b1.size)).trans (C5.mono (b1.trans (b2.mono b1.size)).size)
      clear HSetH hcH s2 hlv C3 C5 b2 K2 hx hil
      go_wp2_with fail
      refine HSx.mono ?_
      rintro e w6 ⟨v6, rfl, s6, b6⟩
      go_wp2_with fail
      go_ret2
      exact ⟨_, rfl, s6, B5.trans (b6.mono B5.size)⟩
    · simp only [if_neg h0] at HP ⊢
      have h0b : (E != 0) = true := by simpa using h0
      clear h0 HSetH
      go_enter Tryz.func39, Tryz.ntmps39
      go_wp2_with fail
      with_reducible refine HF.mono ?_
      rintro e w1 ⟨rfl, b1⟩
      obtain ⟨k0, k1, k2, k3, k4⟩ := hcH.out _ (KeepC.of_below b1)
      go_wp2_with fail
      with_reducible refine (HP _ (KeepC.of_below b1)).mono ?_
      rintro e w2 ⟨v2, rfl, s2, b2⟩
      obtain ⟨a5, c5, rfl, -⟩ := s2.at
      clear HP HF k0 k1 k2 k3 k4 hcH s2
      go_wp2_with fail
      go_ret2
      exact ⟨_, rfl, ObjsV.nil _, (b1.trans (b2.mono b1.size)).alloc (b1.trans (b2.mono b1.size)).size _⟩
  · have hE := putE_no (t := t) hed
    have hS : putS l n t = [] := by unfold putS; rw [hE, if_neg hed]
    rw [if_neg hed] at HF
    rw [hS, hE]
    obtain ⟨av, cv, rfl, -⟩ := hv.at
    generalize editE l n 2 = E at *
    have h0b : (E != 0) = true := by simpa using hed
    clear hed hS hE hv
    go_enter Tryz.func39, Tryz.ntmps39
    go_wp2_with fail
    with_reducible refine HF.mono ?_
    rintro e w1 ⟨rfl, b1⟩
    go_wp2_with fail
    go_ret2
    exact ⟨_, rfl, ObjsV.nil _, b1⟩
end Go.Proofs.YthclfkhakmcnbaaGreatDoor
/- Walks of the reference, layer 8: Take. -/
namespace Go.Proofs.YthclfkhakmcnbaaGreatDoor
open Go.RowKit Go.Shelf
attribute [local go_sem] Oper.semAt_some
def rtakeV (w : World) (m : Int) (l : List (List UInt8)) (e : Ending) (w' : World) : Prop :=
  ∃ v', e = .returned (.tuple #[.string ⟨(if rtakeE m l = 0 then l.headD [] else []).toArray⟩, .agg #[.int .i64 (if rtakeE m l = 0 then m else 0), v'], .int .i64 (rtakeE m l)]) ∧ StrsV w' v' (if rtakeE m l = 0 then l.tail else []) ∧ Below w.heap.size w w'
theorem rtakeV_no {w w' : World} {m : Int} {l : List (List UInt8)} {x : Int} (h : rtakeE m l = x) (h0 : x ≠ 0) (hb : Below w.heap.size w w') : rtakeV w m l (.returned (.tuple #[.string ⟨#[]⟩, .agg #[.int .i64 0, .slice none 0 0], .int .i64 x])) w' :=
  ⟨.slice none 0 0, by rw [h, if_neg h0, if_neg h0], by rw [h, if_neg h0]; exact SlR.nil _ _, hb⟩
theorem rtakeV_ok {w w' : World} {m : Int} {l : List (List UInt8)} {v : Value} (h : rtakeE m l = 0) (h0 : 0 < l.length) (hv : StrsV w' v (l.drop 1)) (hb : Below w.heap.size w w') : rtakeV w m l (.returned (.tuple #[.string ⟨l[0].toArray⟩, .agg #[.int .i64 m, v], .int .i64 0])) w' :=
  ⟨v, by rw [h, if_pos rfl, if_pos rfl]; cases l with | nil => simp at h0 | cons s r => rfl, by rw [h, if_pos rfl, ← List.drop_one]; exact hv, hb⟩
set_option maxRecDepth 100000 in
set_option maxHeartbeats 4000000 in
theorem rtakeR_any (m : Int) (l : List (List UInt8)) (hl : FitsL l) (v : Value) (w : World) (hv : StrsV w v l) :
    Calls Tryz.prog 83 #[ringV m v] w (rtakeV w m l) := by
  obtain ⟨i0, hI, hz0, hz1, hz2⟩ := info_parts infoS
  obtain ⟨av, cv, hcvl, hvv⟩ : ∃ av cv, l.length ≤ cv ∧ v = .slice av l.length cv := by
    obtain ⟨av, cv, h1, h2, -⟩ := strs_src hv 0 (Nat.zero_le _)
    exact ⟨av, cv, h2, h1⟩
  subst hvv
  have hlm := hl.1
  have HR := fun W (h : KeepC w W) => ringRightR_any l hl m (.slice av l.length cv) W (hv.keep h)
  have hNO := fun x w' => @rtakeV_no w w' m l x
  have hOK := fun w' v => @rtakeV_ok w w' m l v
  have hE0 : rtakeE m l = if ringB m l then if l.isEmpty then 81 else 0 else 2 := rfl
  generalize rtakeV w m l = RV at *
  have hNOH := Lib.hid hNO
  have hOKH := Lib.hid hOK
  have hE0H := Lib.hid hE0
  clear hNO hOK hE0
  cases hb : ringB m l with
  | false =>
    have hE := hE0H.out
    rw [hb] at HR hE
    have hN := Lib.hid (hNOH.out 2 · hE (by decide))
    clear hE0H hE hb hNOH hOKH hv
    go_enter Tryz.func83, Tryz.ntmps83
    go_wp2_with fail
    obtain ⟨W0, hW0⟩ : ∃ W0, (w.alloc (.cells #[.int .i64 m, .slice av l.length cv] 46)).alloc (.cells #[.int .i64 0, .slice none 0 0] 46) = W0 := ⟨_, rfl⟩
    rw [hW0]
    have p0 : Blk W0 w.heap.size #[.int .i64 m, .slice av l.length cv] 46 := by rw [← hW0]; exact (Blk.new _ _ _).alloc _
    have r0 : Blk W0 (w.heap.size + 1) #[.int .i64 0, .slice none 0 0] 46 := by
      have := Blk.new (w.alloc (.cells #[.int .i64 m, .slice av l.length cv] 46)) #[.int .i64 0, .slice none 0 0] 46
      rw [World.size_alloc] at this
      rw [← hW0]; exact this
    have B0 : Below w.heap.size w W0 := by rw [← hW0]; exact ((Below.refl _ w).alloc (Nat.le_refl _) _).alloc (by simp) _
    have p00 : W0.cell? ⟨w.heap.size, 0, none⟩ = some (.int .i64 m) := (p0.cell 0).trans rfl
    have p01 : W0.cell? ⟨w.heap.size, 1, none⟩ = some (.slice av l.length cv) := (p0.cell 1).trans rfl
    have HRx := HR W0 (KeepC.of_below B0)
    have hc4 : w.heap.size ≤ w.heap.size + 1 := by omega
    have hne : w.heap.size ≠ w.heap.size + 1 := by omega
    clear hW0 HR
    generalize w.heap.size + 1 = c4 at *
    with_reducible refine HRx.mono ?_
    rintro e w1 ⟨rfl, b1⟩
    have r1 := r0.below b1 r0.lt
    have p1 := p0.below b1 p0.lt
    have B1 := B0.trans (b1.mono B0.size)
    have f0 := r1.frozen 0
    have f1 := r1.frozen 1
    have x0 := r1.cell 0
    have x1 := r1.cell 1
    simp at x0 x1
    have p10 : w1.cell? ⟨w.heap.size, 0, none⟩ = some (.int .i64 m) := (p1.cell 0).trans rfl
    have p11 : w1.cell? ⟨w.heap.size, 1, none⟩ = some (.slice av l.length cv) := (p1.cell 1).trans rfl
    clear p00 p01 p0
    clear b1 B0 r0
    go_wp2_with fail
    have r9 := (r1.set 0 (.int .i64 0)).set 1 (.slice none 0 0)
    have B9 := (B1.setCell (p := ⟨c4, 0, none⟩) hc4 (.int .i64 0)).setCell (p := ⟨c4, 1, none⟩) hc4 (.slice none 0 0)
    simp only [List.setIfInBounds_toArray, List.set_cons_zero, List.set_cons_succ] at r9
    generalize (w1.setCell ⟨c4, 0, none⟩ (.int .i64 0)).setCell ⟨c4, 1, none⟩ (.slice none 0 0) = W9 at *
    have q0 := r9.cell 0
    have q1 := r9.cell 1
    simp at q0 q1
    exact bodyPost_ret (v := .tuple #[.string ⟨#[]⟩, .agg #[.int .i64 0, .slice none 0 0], .int .i64 2]) (by simp [results, Tryz.results83, go_sem, q0, q1]) rfl (hN.out _ B9)
  | true =>
    have hE := hE0H.out
    rw [hb] at HR hE
    by_cases h0 : l.length = 0
    · have hle : l = [] := List.eq_nil_of_length_eq_zero h0
      rw [hle] at hE
      have hE2 : rtakeE m l = 81 := by rw [hle]; exact hE
      have hN := Lib.hid (hNOH.out 81 · hE2 (by decide))
      have h0b : (l.length : Int) = 0 := by omega
      clear hE0H hE hE2 hb hNOH hOKH hv hle
      generalize l.length = ln at *
      subst h0
      go_enter Tryz.func83, Tryz.ntmps83
      go_wp2_with fail
      obtain ⟨W0, hW0⟩ : ∃ W0, (w.alloc (.cells #[.int .i64 m, .slice av 0 cv] 46)).alloc (.cells #[.int .i64 0, .slice none 0 0] 46) = W0 := ⟨_, rfl⟩
      rw [hW0]
      have p0 : Blk W0 w.heap.size #[.int .i64 m, .slice av 0 cv] 46 := by rw [← hW0]; exact (Blk.new _ _ _).alloc _
      have r0 : Blk W0 (w.heap.size + 1) #[.int .i64 0, .slice none 0 0] 46 := by
        have := Blk.new (w.alloc (.cells #[.int .i64 m, .slice av 0 cv] 46)) #[.int .i64 0, .slice none 0 0] 46
        rw [World.size_alloc] at this
        rw [← hW0]; exact this
      have B0 : Below w.heap.size w W0 := by rw [← hW0]; exact ((Below.refl _ w).alloc (Nat.le_refl _) _).alloc (by simp) _
      have p00 : W0.cell? ⟨w.heap.size, 0, none⟩ = some (.int .i64 m) := (p0.cell 0).trans rfl
      have p01 : W0.cell? ⟨w.heap.size, 1, none⟩ = some (.slice av 0 cv) := (p0.cell 1).trans rfl
      have HRx := HR W0 (KeepC.of_below B0)
      have hc4 : w.heap.size ≤ w.heap.size + 1 := by omega
      have hne : w.heap.size ≠ w.heap.size + 1 := by omega
      clear hW0 HR
      generalize w.heap.size + 1 = c4 at *
      with_reducible refine HRx.mono ?_
      rintro e w1 ⟨rfl, b1⟩
      have r1 := r0.below b1 r0.lt
      have p1 := p0.below b1 p0.lt
      have B1 := B0.trans (b1.mono B0.size)
      have f0 := r1.frozen 0
      have f1 := r1.frozen 1
      have x0 := r1.cell 0
      have x1 := r1.cell 1
      simp at x0 x1
      have p10 : w1.cell? ⟨w.heap.size, 0, none⟩ = some (.int .i64 m) := (p1.cell 0).trans rfl
      have p11 : w1.cell? ⟨w.heap.size, 1, none⟩ = some (.slice av 0 cv) := (p1.cell 1).trans rfl
      clear p00 p01 p0
      clear b1 B0 r0
      go_wp2_with fail
      have r9 := (r1.set 0 (.int .i64 0)).set 1 (.slice none 0 0)
      have B9 := (B1.setCell (p := ⟨c4, 0, none⟩) hc4 (.int .i64 0)).setCell (p := ⟨c4, 1, none⟩) hc4 (.slice none 0 0)
      simp only [List.setIfInBounds_toArray, List.set_cons_zero, List.set_cons_succ] at r9
      generalize (w1.setCell ⟨c4, 0, none⟩ (.int .i64 0)).setCell ⟨c4, 1, none⟩ (.slice none 0 0) = W9 at *
      have q0 := r9.cell 0
      have q1 := r9.cell 1
      simp at q0 q1
      exact bodyPost_ret (v := .tuple #[.string ⟨#[]⟩, .agg #[.int .i64 0, .slice none 0 0], .int .i64 81]) (by simp [results, Tryz.results83, go_sem, q0, q1]) rfl (hN.out _ B9)
    · have hpos : 0 < l.length := by omega
      have hne0 : l ≠ [] := fun h => h0 (by rw [h]; rfl)
      have hEi : l.isEmpty = false := by cases l with | nil => exact absurd rfl hne0 | cons s r => rfl
      rw [hEi] at hE
      have hN := Lib.hid (hOKH.out · · hE hpos)
      obtain ⟨av', cv', hv1, -, -, -, a2, c2, hsl, hno2, hsr2⟩ := strs_src hv 1 (by omega)
      injection hv1 with e1 _ e2
      subst e1 e2
      obtain ⟨b, o, cv', hv2, -, hbw, hcell⟩ := SlR.pos hv hpos
      injection hv2 with e1 _ e2
      subst e1 e2
      have hc0 := hcell 0 (by rw [strsC_len]; exact hpos)
      have hc0' : (strsC l)[0]'(by rw [strsC_len]; exact hpos) = .string ⟨l[0].toArray⟩ := by simp [strsC]
      rw [hc0', Nat.add_zero] at hc0
      have hne1 : (l.length : Int) ≠ 0 := by omega
      have hp1 : (0 : Int) < (l.length : Int) := by omega
      have hp2 : (1 : Int) ≤ (l.length : Int) := by omega
      have hlD : ((strsC l).drop 1).length = (l.length - 1) * 1 := by rw [List.length_drop, strsC_len]; omega
      have hD : strsC (l.drop 1) = (strsC l).drop 1 := by simp [strsC]
      have hDl : (l.drop 1).length = l.length - 1 := by simp
      have hone : Hid (∀ u ∈ (strsC l).drop 1, u.oneCell' = true) := fun u hu => strsC_one u (List.mem_of_mem_drop hu)
      have hno2H := Lib.hid hno2
      have hsr2H := Lib.hid hsr2
      have HY1 := Lib.hid hsl
      have hDH := Lib.hid hD
      have hDlH := Lib.hid hDl
      have hlnm : l.length - 1 ≤ 1000000 := by omega
      clear hE0H hE hb hNOH hOKH hv hno2 hsr2 hsl hEi hne0 hcell hc0' hD hDl h0
      generalize l[0] = s at *
      generalize (strsC l).drop 1 = CS at *
      generalize l.drop 1 = L1 at *
      generalize l.length - 1 = n1 at *
      go_enter Tryz.func83, Tryz.ntmps83
      go_wp2_with fail
      obtain ⟨W0, hW0⟩ : ∃ W0, (w.alloc (.cells #[.int .i64 m, .slice (some ⟨b, o, none⟩) l.length cv] 46)).alloc (.cells #[.int .i64 0, .slice none 0 0] 46) = W0 := ⟨_, rfl⟩
      rw [hW0]
      have p0 : Blk W0 w.heap.size #[.int .i64 m, .slice (some ⟨b, o, none⟩) l.length cv] 46 := by rw [← hW0]; exact (Blk.new _ _ _).alloc _
      have r0 : Blk W0 (w.heap.size + 1) #[.int .i64 0, .slice none 0 0] 46 := by
        have := Blk.new (w.alloc (.cells #[.int .i64 m, .slice (some ⟨b, o, none⟩) l.length cv] 46)) #[.int .i64 0, .slice none 0 0] 46
        rw [World.size_alloc] at this
        rw [← hW0]; exact this
      have B0 : Below w.heap.size w W0 := by rw [← hW0]; exact ((Below.refl _ w).alloc (Nat.le_refl _) _).alloc (by simp) _
      have p00 : W0.cell? ⟨w.heap.size, 0, none⟩ = some (.int .i64 m) := (p0.cell 0).trans rfl
      have p01 : W0.cell? ⟨w.heap.size, 1, none⟩ = some (.slice (some ⟨b, o, none⟩) l.length cv) := (p0.cell 1).trans rfl
      have HRx := HR W0 (KeepC.of_below B0)
      have hc4 : w.heap.size ≤ w.heap.size + 1 := by omega
      have hne : w.heap.size ≠ w.heap.size + 1 := by omega
      clear hW0 HR
      generalize w.heap.size + 1 = c4 at *
      with_reducible refine HRx.mono ?_
      rintro e w1 ⟨rfl, b1⟩
      have r1 := r0.below b1 r0.lt
      have p1 := p0.below b1 p0.lt
      have B1 := B0.trans (b1.mono B0.size)
      have f0 := r1.frozen 0
      have f1 := r1.frozen 1
      have x0 := r1.cell 0
      have x1 := r1.cell 1
      simp at x0 x1
      have p10 : w1.cell? ⟨w.heap.size, 0, none⟩ = some (.int .i64 m) := (p1.cell 0).trans rfl
      have p11 : w1.cell? ⟨w.heap.size, 1, none⟩ = some (.slice (some ⟨b, o, none⟩) l.length cv) := (p1.cell 1).trans rfl
      clear p00 p01 p0
      have x10 := (KeepC.of_below B1).2 _ _ _ hc0
      clear b1 B0 r0 hc0
      go_wp2_with fail
      have hSK : Hid (∀ u, Below w1.heap.size w1 u → u.cell? ⟨w.heap.size, 0, none⟩ = some (.int .i64 m) ∧ u.cell? ⟨w.heap.size, 1, none⟩ = some (.slice (some ⟨b, o, none⟩) l.length cv) ∧ u.cell? ⟨b, o, none⟩ = some (.string ⟨s.toArray⟩)) := fun u h => ⟨(KeepC.of_below h).2 _ _ _ p10, (KeepC.of_below h).2 _ _ _ p11, (KeepC.of_below h).2 _ _ _ x10⟩
      have Cd : Below w1.heap.size w1 w1.drew := (Below.refl _ w1).drew
      have Kd := (KeepC.of_below B1).trans (KeepC.of_below Cd)
      have hbc : b ≠ c4 := by omega
      have hV9 : Hid (∀ (W : World) v base u, W.ownsRow base 9 1 v n1 CS → Blk W c4 #[.int .i64 0, .slice none 0 0] 46 → StrsV ((W.setCell ⟨c4, 0, none⟩ (.int .i64 m)).setCell ⟨c4, 1, none⟩ u) v L1) := by
        show ∀ W : World, _
        intro W v base u h hr
        have g := grownBy_t (grownBy_setCellB W c4 0 (.int .i64 m)) (grownBy_setCellB _ c4 1 u)
        have h2 := own_kept h g (RowT.blk hr _ (by decide))
        have h3 := SlR.of_row h2
        show SlR 1 _ v L1.length _
        rw [hDlH.out, hDH.out]; exact h3
      clear f0 f1 x0 x1
      refine wp_region_noPanic ?_
      refine wp_region_held_drew (S := (fun W => W.cell? ⟨w.heap.size, 0, none⟩ = some (.int .i64 m) ∧ W.cell? ⟨w.heap.size, 1, none⟩ = some (.slice (some ⟨b, o, none⟩) l.length cv) ∧ W.cell? ⟨b, o, none⟩ = some (.string ⟨s.toArray⟩))) (by kernel_rfl) ?_ (fun hHeld => ?_)
      · exact hSK.out _ Cd
      refine wpAnyH_take (i := 0) (oi := _) (v := ?_) (nth_at rfl) (by kernel_rfl) (by kernel_rfl) (by kernel_rfl) (fun _ _ _ h => h) (Or.inl ⟨by rfl, ?_⟩) (by assumption) ?_
      rotate_left 1
      · intro w hSw; (try dsimp only at hSw); (go_simp <;> with_reducible rfl)
      try simp only [Act.put, List.setIfInBounds_toArray, List.set_cons_zero, List.set_cons_succ]
      refine wpAnyH_take (i := 1) (oi := _) (v := ?_) (nth_at rfl) (by kernel_rfl) (by kernel_rfl) (by kernel_rfl) (fun _ _ _ h => h) (Or.inl ⟨by rfl, ?_⟩) (by assumption) ?_
      rotate_left 1
      · intro w hSw; (try dsimp only at hSw); (go_simp <;> with_reducible rfl)
      try simp only [Act.put, List.setIfInBounds_toArray, List.set_cons_zero, List.set_cons_succ]
      refine wpAnyH_take (i := 2) (oi := _) (v := ?_) (nth_at rfl) (by kernel_rfl) (by kernel_rfl) (by kernel_rfl) (fun _ _ _ h => h) (Or.inl ⟨by rfl, ?_⟩) (by assumption) ?_
      rotate_left 1
      · intro w hSw; (try dsimp only at hSw); (go_simp <;> with_reducible rfl)
      try simp only [Act.put, List.setIfInBounds_toArray, List.set_cons_zero, List.set_cons_succ]
      refine wpAnyH_take (i := 3) (oi := _) (v := ?_) (nth_at rfl) (by kernel_rfl) (by kernel_rfl) (by kernel_rfl) (fun _ _ _ h => h) (Or.inl ⟨by rfl, ?_⟩) (by assumption) ?_
      rotate_left 1
      · intro w hSw; (try dsimp only at hSw); (go_simp <;> with_reducible rfl)
      try simp only [Act.put, List.setIfInBounds_toArray, List.set_cons_zero, List.set_cons_succ]
      refine wpAnyH_take (i := 4) (oi := _) (v := ?_) (nth_at rfl) (by kernel_rfl) (by kernel_rfl) (by kernel_rfl) (fun _ _ _ h => h) (Or.inl ⟨by rfl, ?_⟩) (by assumption) ?_
      rotate_left 1
      · intro w hSw; (try dsimp only at hSw); (go_simp <;> with_reducible rfl)
      try simp only [Act.put, List.setIfInBounds_toArray, List.set_cons_zero, List.set_cons_succ]
      refine wpAnyH_take (i := 5) (oi := _) (v := ?_) (nth_at rfl) (by kernel_rfl) (by kernel_rfl) (by kernel_rfl) (fun _ _ _ h => h) (Or.inl ⟨by rfl, ?_⟩) (by assumption) ?_
      rotate_left 1
      · intro w hSw; (try dsimp only at hSw); (go_simp <;> with_reducible rfl)
      try simp only [Act.put, List.setIfInBounds_toArray, List.set_cons_zero, List.set_cons_succ]
      refine wpAnyH_take (i := 6) (oi := _) (v := ?_) (nth_at rfl) (by kernel_rfl) (by kernel_rfl) (by kernel_rfl) (fun _ _ _ h => h) (Or.inl ⟨by rfl, ?_⟩) (by assumption) ?_
      rotate_left 1
      · intro w hSw; (try dsimp only at hSw); (go_simp <;> with_reducible rfl)
      try simp only [Act.put, List.setIfInBounds_toArray, List.set_cons_zero, List.set_cons_succ]
      refine wpAnyH_take (i := 7) (oi := _) (v := ?_) (nth_at rfl) (by kernel_rfl) (by kernel_rfl) (by kernel_rfl) (fun _ _ _ h => h) (Or.inl ⟨by rfl, ?_⟩) (by assumption) ?_
      rotate_left 1
      · intro w hSw; (try dsimp only at hSw); (go_simp <;> with_reducible rfl)
      try simp only [Act.put, List.setIfInBounds_toArray, List.set_cons_zero, List.set_cons_succ]
      refine wpAnyH_take (i := 8) (oi := _) (v := ?_) (nth_at rfl) (by kernel_rfl) (by kernel_rfl) (by kernel_rfl) (fun _ _ _ h => h) (Or.inl ⟨by rfl, ?_⟩) (by assumption) ?_
      rotate_left 1
      · intro w hSw; (try dsimp only at hSw); (go_simp <;> with_reducible rfl)
      try simp only [Act.put, List.setIfInBounds_toArray, List.set_cons_zero, List.set_cons_succ]
      refine wpAnyH_take (i := 9) (oi := _) (v := .slice a2 n1 c2) (nth_at rfl) (by kernel_rfl) (by kernel_rfl) (by kernel_rfl) (fun _ _ _ h => h) (Or.inl ⟨by rfl, ?_⟩) (by assumption) ?_
      · intro w hSw; (try dsimp only at hSw); (go_simp <;> (first | done | (simp only [Int.toNat_natCast, Int.toNat_one]; exact congrArg (fun v => Result.ok v _) HY1.out) | (have h := HY1.out; simp only [sliced] at h; first | (simp [Addr.add] at h ⊢; exact h) | (simp [Addr.add_lit] at h ⊢; exact h))))
      try simp only [Act.put, List.setIfInBounds_toArray, List.set_cons_zero, List.set_cons_succ]
      refine wpAnyH_ready (rs := [10]) (by kernel_rfl) (by simp) ?_
      refine AllReadyH.cons (o := _) (nth_at rfl) (fun K hK => ?_) AllReadyH.nil
      rw [if_pos (by rfl)]
      refine wp_append_src _ _ 42 rfl w1.heap.size 9 i0 (.string ⟨#[]⟩) 1 16 Tryz.underlying42 hI hz0 hz1 hz2 rfl (by decide) (.slice none 0 0) 0 _ rfl (World.ownsRow_nil _ _ _ _) a2 n1 c2 CS rfl hno2H.out hlD (hsr2H.out _ Kd) hone.out (by unfold maxLen; omega) (by omega) (Nat.le_refl _) ?_
      intro v8 w8 h8 g8
      rw [Nat.zero_add, List.nil_append] at h8
      have C8 : Below w1.heap.size w1 w8 := Cd.grown g8 Cd.size (fun k e => by simp [Value.ownBlock] at e)
      have s8 := hSK.out _ C8
      have s80 := s8.1
      have s81 := s8.2.1
      have s82 := s8.2.2
      obtain ⟨a8, cp8, rfl, -⟩ := row_form h8
      have p8 := p1.below C8 p1.lt
      have r8 := r1.below C8 r1.lt
      have g80 := r8.frozen 0
      have g81 := r8.frozen 1
      have y0 := r8.cell 0
      have y1 := r8.cell 1
      simp at y0 y1
      try clear hHeld
      refine hK.out _ _ ?_ (fun hHeld => ?_)
      · exact s8
      clear hK K
      try simp only [Act.put, List.setIfInBounds_toArray, List.set_cons_zero, List.set_cons_succ]
      refine wpAnyH_take (i := 11) (oi := _) (v := ?_) (nth_at rfl) (by kernel_rfl) (by kernel_rfl) (by kernel_rfl) (fun _ _ _ h => h) (Or.inl ⟨by rfl, ?_⟩) (by assumption) ?_
      rotate_left 1
      · intro w hSw; (try dsimp only at hSw); (go_simp <;> with_reducible rfl)
      try simp only [Act.put, List.setIfInBounds_toArray, List.set_cons_zero, List.set_cons_succ]
      refine wpAnyH_take (i := 12) (oi := _) (v := ?_) (nth_at rfl) (by kernel_rfl) (by kernel_rfl) (by kernel_rfl) (fun _ _ _ h => h) (Or.inl ⟨by rfl, ?_⟩) (by assumption) ?_
      rotate_left 1
      · intro w hSw; (try dsimp only at hSw); (go_simp <;> with_reducible rfl)
      try simp only [Act.put, List.setIfInBounds_toArray, List.set_cons_zero, List.set_cons_succ]
      refine wpAnyH_ready (rs := [13]) (by kernel_rfl) (by simp) ?_
      refine AllReadyH.cons (o := _) (nth_at rfl) (fun K hK => ?_) AllReadyH.nil
      go_simp
      try clear hHeld
      refine hK.out _ _ ?_ (fun hHeld => ?_)
      · exact ⟨(((p8.other 0 _ hne).other 1 _ hne).cell 0).trans rfl, (((p8.other 0 _ hne).other 1 _ hne).cell 1).trans rfl, (World.cell?_of_block (w := w8) (a := ⟨b, o, none⟩) ((Below.heap_setCell _ ⟨c4, 1, none⟩ _ b hbc).trans (Below.heap_setCell _ ⟨c4, 0, none⟩ _ b hbc))).trans s82⟩
      clear hK K
      try simp only [Act.put, List.setIfInBounds_toArray, List.set_cons_zero, List.set_cons_succ]
      refine wpAnyH_take (i := 14) (oi := _) (v := ?_) (nth_at rfl) (by kernel_rfl) (by kernel_rfl) (by kernel_rfl) (fun _ _ _ h => h) (Or.inl ⟨by rfl, ?_⟩) (by assumption) ?_
      rotate_left 1
      · intro w hSw; (try dsimp only at hSw); (go_simp <;> with_reducible rfl)
      try simp only [Act.put, List.setIfInBounds_toArray, List.set_cons_zero, List.set_cons_succ]
      refine wpAnyH_done (by kernel_rfl) ?_ _
      refine NoPanic.normal ?_
      try clear hHeld
      go_wp2_with fail
      have V9 := hV9.out _ (.slice a8 n1 cp8) _ (.slice a8 n1 cp8) h8 r8
      have r9 := (r8.set 0 (.int .i64 m)).set 1 (.slice a8 n1 cp8)
      have B9 := (((B1.trans (C8.mono B1.size)).setCell (p := ⟨c4, 0, none⟩) hc4 (.int .i64 m)).setCell (p := ⟨c4, 1, none⟩) hc4 (.slice a8 n1 cp8))
      simp only [List.setIfInBounds_toArray, List.set_cons_zero, List.set_cons_succ] at r9
      generalize (w8.setCell ⟨c4, 0, none⟩ (.int .i64 m)).setCell ⟨c4, 1, none⟩ (.slice a8 n1 cp8) = W9 at *
      have z0 := r9.cell 0
      have z1 := r9.cell 1
      simp at z0 z1
      exact bodyPost_ret (v := .tuple #[.string ⟨s.toArray⟩, .agg #[.int .i64 m, .slice a8 n1 cp8], .int .i64 0]) (by simp [results, Tryz.results83, go_sem, z0, z1]) rfl (hN.out _ _ V9 B9)
end Go.Proofs.YthclfkhakmcnbaaGreatDoor
/- Walks of the reference, layer 10: Take. -/
namespace Go.Proofs.YthclfkhakmcnbaaGreatDoor
open Go.RowKit Go.Shelf
attribute [local go_sem] Oper.semAt_some
set_option maxRecDepth 100000 in
set_option maxHeartbeats 4000000 in
theorem TakeR_any (l : List ObjD) (hl : FitsS l) (v : Value) (n : List UInt8) (w : World) (hv : ObjsV w v l) :
    Calls Tryz.prog 41 #[v, .string ⟨n.toArray⟩] w (takeP w (takeT l n) (takeS l n) (takeE l n)) := by
  have HF := rfind_any l hl v n 2 (by decide) w hv
  by_cases hed : editE l n 2 = 0
  · obtain ⟨hsp, hi, -⟩ := edit_zero.1 hed
    have hE := takeE_ok hed
    rw [if_pos hed, hed] at HF
    have hS : takeS l n = if takeE l n = 0 then setS l n (withR (objS l n).max (objS l n).items.tail) else [] := rfl
    have hT : takeT l n = if takeE l n = 0 then (objS l n).items.headD [] else [] := rfl
    rw [hE, set_modify _ hi, objS_at hi] at hS
    rw [hE, objS_at hi] at hT
    rw [objS_at hi] at hE
    rw [hS, hT, hE]
    clear hS hT hE
    have HSet := fun x lv W (h : KeepC w W) h2 => rset_any l hl v (idxS l n) hi x lv W (hv.keep h) h2
    obtain ⟨b, o, cap, a4, c4, rfl, hlv, hcells⟩ := objs_cells hv _ hi
    have HP := fun W (h : KeepC w W) => rtakeR_any l[idxS l n].max l[idxS l n].items (hl.2 _ (List.getElem_mem hi)).2.2 _ W (hlv.keep h)
    have hge : (0 : Int) ≤ (idxS l n : Int) := by omega
    have hlt : (idxS l n : Int) < (l.length : Int) := by omega
    have HSetH := Lib.hid HSet
    have hcH := Lib.hid hcells
    unfold rtakeV at HP
    clear HSet hcells hv hsp hed hl
    have hob : l[idxS l n] = l[idxS l n] := rfl
    generalize hx : l[idxS l n] = x at *
    clear hob
    generalize idxS l n = ix at *
    obtain ⟨E, hE⟩ : ∃ E, rtakeE x.max x.items = E := ⟨_, rfl⟩
    rw [hE] at HP ⊢
    clear hE
    by_cases h0 : E = 0
    · subst h0
      simp only [if_true] at HP ⊢
      go_enter Tryz.func41, Tryz.ntmps41
      go_wp2_with fail
      with_reducible refine HF.mono ?_
      rintro e w1 ⟨rfl, b1⟩
      obtain ⟨k0, k1, k2, k3, k4⟩ := hcH.out _ (KeepC.of_below b1)
      go_wp2_with fail
      with_reducible refine (HP _ (KeepC.of_below b1)).mono ?_
      rintro e w2 ⟨v2, rfl, s2, b2⟩
      obtain ⟨a5, c5, rfl, -⟩ := s2.at
      have K2 := (KeepC.of_below b1).trans (KeepC.of_below b2)
      clear HP HF k0 k1 k2 k3 k4
      generalize hhd : x.items.headD [] = hd at *
      generalize hil : x.items.tail.length = il at *
      obtain ⟨W3, W4, W5, hW3, hW4, hW5, C3, C5, ⟨g40, g41⟩, ⟨z3, z4⟩, ⟨y3, y4⟩, y50, y51, y52, y53, y54⟩ := ring_copy w2 x x.max (.slice a4 x.items.length c4) (.slice a5 il c5)
      obtain ⟨k0, k1, k2, k3, k4⟩ := hcH.out W3 (K2.trans (KeepC.of_below C3))
      have HSx := HSetH.out (withR x.max x.items.tail x) (.slice a5 il c5) W5 (K2.trans (KeepC.of_below C5)) (s2.keep (KeepC.of_below C5))
      have B5 := (b1.trans (b2.mono b1.size)).trans (C5.mono (b1.trans (b2.mono b1.size)).size)
      clear HSetH hcH s2 hlv C3 C5 b2 K2 hx hil hhd
      go_wp2_with fail
      refine HSx.mono ?_
      rintro e w6 ⟨v6, rfl, s6, b6⟩
      go_wp2_with fail
      refine bodyPost_ret (by simp [results, Tryz.results41, go_sem]; rfl) rfl ?_
      exact ⟨_, rfl, s6, B5.trans (b6.mono B5.size)⟩
    · simp only [if_neg h0] at HP ⊢
      have h0b : (E != 0) = true := by simpa using h0
      clear h0 HSetH
      go_enter Tryz.func41, Tryz.ntmps41
      go_wp2_with fail
      with_reducible refine HF.mono ?_
      rintro e w1 ⟨rfl, b1⟩
      obtain ⟨k0, k1, k2, k3, k4⟩ := hcH.out _ (KeepC.of_below b1)
      go_wp2_with fail
      with_reducible refine (HP _ (KeepC.of_below b1)).mono ?_
      rintro e w2 ⟨v2, rfl, s2, b2⟩
      obtain ⟨a5, c5, rfl, -⟩ := s2.at
      clear HP HF k0 k1 k2 k3 k4 hcH s2
      go_wp2_with fail
      refine bodyPost_ret (by simp [results, Tryz.results41, go_sem]; rfl) rfl ?_
      exact ⟨_, rfl, ObjsV.nil _, (b1.trans (b2.mono b1.size)).alloc (b1.trans (b2.mono b1.size)).size _⟩
  · have hE := takeE_no hed
    have hS : takeS l n = [] := by unfold takeS; rw [hE, if_neg hed]
    have hT : takeT l n = [] := by unfold takeT; rw [hE, if_neg hed]
    rw [if_neg hed] at HF
    rw [hS, hT, hE]
    obtain ⟨av, cv, rfl, -⟩ := hv.at
    generalize editE l n 2 = E at *
    have h0b : (E != 0) = true := by simpa using hed
    clear hed hS hT hE hv
    go_enter Tryz.func41, Tryz.ntmps41
    go_wp2_with fail
    with_reducible refine HF.mono ?_
    rintro e w1 ⟨rfl, b1⟩
    go_wp2_with fail
    refine bodyPost_ret (by simp [results, Tryz.results41, go_sem]; rfl) rfl ?_
    exact ⟨_, rfl, ObjsV.nil _, b1⟩
end Go.Proofs.YthclfkhakmcnbaaGreatDoor
