/- Joined: DatA; DatB; DatC; DatD; DatE -/
import Derived.Test.YthclfkhakmcnbaaGreatDoorJTH
import Derived.Test.YthclfkhakmcnbaaGreatDoorJTL
/- Layer 10: an object of a list of one's own is turned. On no program. -/
namespace Go.Proofs.YthclfkhakmcnbaaGreatDoor
open Go.RowKit
theorem rows_set {α : Type} {E : α → List Value → Prop} {k : Nat} (hk : ∀ x c, E x c → c.length = k) : ∀ {xs : List α} {cs : List Value} (i j : Nat) (hi : i < xs.length) (_ : j < k) (y : α) (u : Value), (∀ c, E xs[i] c → E y (c.set j u)) → Rows E xs cs → Rows E (xs.set i y) (cs.set (i * k + j) u)
  | [], _, i, _, hi, _, _, _, _, _ => absurd hi (by simp)
  | x :: xs, _, 0, j, hi, hj, y, u, hy, ⟨c, r, e, h1, h2⟩ => by
    subst e
    have := hk x c h1
    refine ⟨c.set j u, r, ?_, hy c h1, h2⟩
    rw [Nat.zero_mul, Nat.zero_add, List.set_append_left _ _ (by omega)]
  | x :: xs, _, i + 1, j, hi, hj, y, u, hy, ⟨c, r, e, h1, h2⟩ => by
    subst e
    have := hk x c h1
    refine ⟨c, r.set (i * k + j) u, ?_, h1, rows_set hk i j (by simpa using hi) hj y u (fun d hd => hy d hd) h2⟩
    rw [List.set_append_right _ _ (by rw [Nat.add_mul]; omega)]
    congr 2
    rw [Nat.add_mul]; omega
theorem objsO_set {base tO tS : Nat} {W : World} {g cap : Nat} {l : List ObjD} (h : ObjsO base tO tS W (.slice (some ⟨g, 0, none⟩) l.length cap) l) (hne : tO ≠ tS) (i j : Nat) (hi : i < l.length) (hj : j < 5) (y : ObjD) (u : Value)
    (hy : ∀ c, ObjO base tS (W.setCell ⟨g, i * 5 + j, none⟩ u) l[i] c → ObjO base tS (W.setCell ⟨g, i * 5 + j, none⟩ u) y (c.set j u)) :
    ObjsO base tO tS (W.setCell ⟨g, i * 5 + j, none⟩ u) (.slice (some ⟨g, 0, none⟩) l.length cap) (l.set i y) ∧ W.grownBy (W.setCell ⟨g, i * 5 + j, none⟩ u) (some g) := by
  obtain ⟨cs, h1, h2⟩ := h
  obtain ⟨s1, s2⟩ := h1.stored (i * 5 + j) u
  have hr : RowT W [tS] (some g) := by
    have := RowT.of_row h1 [tS] (by simpa using hne)
    simpa [Value.ownBlock] using this
  refine ⟨⟨cs.set (i * 5 + j) u, by rw [List.length_set]; exact s1, ?_⟩, s2⟩
  exact rows_set ObjO.len i j hi hj y u hy (h2.mono fun x _ c hc => hc.kept s2 hr)
/-- where an object of one's own lies -/
theorem objsO_at {base tO tS : Nat} {W : World} {v : Value} {l : List ObjD} (h : ObjsO base tO tS W v l) (i : Nat) (hi : i < l.length) : ∃ g cap, v = .slice (some ⟨g, 0, none⟩) l.length cap ∧ base ≤ g ∧ g < W.heap.size ∧ W.cell? ⟨g, i * 5, none⟩ = some (.string ⟨l[i].name.toArray⟩) ∧ W.cell? ⟨g, i * 5 + 1, none⟩ = some (.int .i64 l[i].kind) ∧
    W.cell? ⟨g, i * 5 + 2, none⟩ = some (.string ⟨l[i].data.toArray⟩) ∧ W.cell? ⟨g, i * 5 + 3, none⟩ = some (.int .i64 l[i].max) ∧ (∃ lv, W.cell? ⟨g, i * 5 + 4, none⟩ = some lv ∧ StrsO base tS W lv l[i].items) ∧ (∀ o, W.frozen? ⟨g, o, none⟩ = false) ∧ RowT W [tS] (some g) ∨ tO = tS := by
  by_cases hne : tO = tS
  · exact ⟨0, 0, .inr hne⟩
  · obtain ⟨cs, h1, h2⟩ := h
    obtain ⟨c, ⟨lv, rfl, hlv⟩, hj⟩ := Rows.at ObjO.len h2 i hi
    obtain ⟨b, o, cap, e, -⟩ := (SlR.of_row h1).pos (by omega)
    have hbase : ∀ k, v.ownBlock = some k → base ≤ k := by
      intro k hk
      rcases h1.2 with ⟨rfl, _⟩ | ⟨g, cap, cur, rfl, hg, _⟩
      · simp [Value.ownBlock] at hk
      · obtain rfl : g = k := by simpa [Value.ownBlock] using hk
        exact hg
    have hlt := h1.lt
    have ho : o = 0 := by
      rcases h1.2 with ⟨h', _⟩ | ⟨g, cap', cur, h', _⟩
      · rw [e] at h'; cases h'
      · rw [e] at h'; injection h' with h'; injection h' with h'; injection h'
    subst ho
    subst e
    have hb := hbase b rfl
    have hbl := (hlt b rfl).2
    have at_ : ∀ j u, j < 5 → cs[i * 5 + j]? = some u → W.cell? ⟨b, i * 5 + j, none⟩ = some u := fun j u hj5 hu => row_at h1 _ (by omega) _ hu
    have hr : RowT W [tS] (some b) := by
      have := RowT.of_row h1 [tS] (by simpa using hne)
      simpa [Value.ownBlock] using this
    exact ⟨b, cap, .inl ⟨rfl, hb, hbl, at_ 0 _ (by omega) (hj 0 (by omega)), at_ 1 _ (by omega) (hj 1 (by omega)), at_ 2 _ (by omega) (hj 2 (by omega)), at_ 3 _ (by omega) (hj 3 (by omega)), ⟨lv, at_ 4 _ (by omega) (hj 4 (by omega)), hlv⟩, fun o => h1.frozenAt o, hr⟩⟩
theorem set_modify {l : List ObjD} {n : List UInt8} (f : ObjD → ObjD) (h : idxS l n < l.length) : setS l n f = l.set (idxS l n) (f (objS l n)) := by
  rw [set_split f h, List.set_eq_take_append_cons_drop, if_pos h]
theorem setD_small {l : List ObjD} {n : List UInt8} (s : List UInt8) (hs : s.length ≤ 1000) (h : spaceB l = true) (hi : idxS l n < l.length) : SmallS (setS l n (withD s)) := fun x hx => by
  have hsm := small_of h
  rcases set_mem hi hx with k | rfl
  · exact hsm x k
  · have := hsm _ (objS_mem hi)
    exact ⟨this.1, hs, this.2.2.1, this.2.2.2⟩
theorem setD_fits {l : List ObjD} {n : List UInt8} (s : List UInt8) (hs : s.length ≤ 1000) (h : FitsS l) (hi : idxS l n < l.length) : FitsS (setS l n (withD s)) := ⟨by rw [set_len]; exact h.1, fun x hx => by
  rcases set_mem hi hx with k | rfl
  · exact h.2 x k
  · have := h.2 _ (objS_mem hi)
    exact ⟨this.1, Nat.le_trans hs (by decide), this.2.2⟩⟩
end Go.Proofs.YthclfkhakmcnbaaGreatDoor
/- Walks of layer 10: what is done with a file's data. -/
namespace Go.Proofs.YthclfkhakmcnbaaGreatDoor
open Go.RowKit Go.Shelf
attribute [local go_sem] Oper.semAt_some
def dataW (l : List ObjD) (q : Int) (n : List UInt8) (b : Bool) (s : List UInt8) : Int := if b then if decide (q < costL (setS l n (withD s))) && decide (costL l < costL (setS l n (withD s))) then 104 else 0 else 90
def data1P (base q : Nat) (W : World) (L : List ObjD) (x : Int) (v : Value) (e : Ending) (W' : World) : Prop :=
  e = .returned (.int .i64 x) ∧ Blk W' q #[v, .nilIface] 71 ∧ ObjsO base 48 9 W' v L ∧ W.grownBy W' v.ownBlock
set_option maxRecDepth 100000 in
set_option maxHeartbeats 8000000 in
theorem data1_any (q eb db qb base : Nat) (l : List ObjD) (hl : FitsS l) (hsp : spaceB l = true) (n : List UInt8) (hi : idxS l n < l.length) (v : Value) (qu : Int) (gf : Nat) (caps : Array Value) (b : Bool) (r : List UInt8) (hr : b = true → r.length ≤ 1000) (W : World)
    (hq : Blk W q #[v, .nilIface] 71) (he : W.cell? ⟨eb, 0, none⟩ = some (.pointer (some ⟨q, 0, none⟩))) (hd : W.cell? ⟨db, 0, none⟩ = some (.func (.func gf) #[] caps)) (hqu : W.cell? ⟨qb, 0, none⟩ = some (.int .i64 qu)) (hv : ObjsO base 48 9 W v l) (hbase : base ≤ W.heap.size) (hbq : base ≤ q)
    (hds : Boxed W eb 62 (.pointer (some ⟨q, 0, none⟩)) ∧ Boxed W qb 3 (.int .i64 qu))
    (eg : ∀ args w, (callFunc gf args).run Tryz.prog w = .ok (.enter gf args) w)
    (hdo : ∀ W', Below W.heap.size W W' → Calls Tryz.prog gf (#[.string ⟨(objS l n).data.toArray⟩] ++ caps) W' (fileP W' b r)) :
    Calls Tryz.prog 85 #[.int .i64 (idxS l n), .pointer (some ⟨eb, 0, none⟩), .pointer (some ⟨db, 0, none⟩), .pointer (some ⟨qb, 0, none⟩)] W (data1P base q W (setS l n (withD (fL b r))) (dataW l qu n b r) v) := by
  have hsm := small_of hsp
  have hd1000 : (fL b r).length ≤ 1000 := by unfold fL; cases b with | true => exact hr rfl | false => simp
  have HC := cost_any q l hl hsm v W ((hq.cell 0).trans rfl) hv.view
  have hcz := costL_in hsm
  have HC2 := fun W' v' (h1 : W'.cell? ⟨q, 0, none⟩ = some v') (h2 : ObjsV W' v' (setS l n (withD (fL b r)))) => cost_any q (setS l n (withD (fL b r))) (setD_fits _ hd1000 hl hi) (setD_small _ hd1000 hsp hi) v' W' h1 h2
  have hcz2 := costL_in (setD_small _ hd1000 hsp hi)
  rw [set_len] at hcz2
  have hW0 : dataW l qu n b r = if b then if decide (qu < costL (setS l n (withD (fL b r)))) && decide (costL l < costL (setS l n (withD (fL b r)))) then 104 else 0 else 90 := by
    unfold dataW fL; cases b <;> rfl
  have hW0H := Lib.hid hW0
  clear hW0
  have hll := hl.1
  have hob : objS l n = l[idxS l n] := objS_at hi
  have HST := Lib.hid (fun W' g cap (h : ObjsO base 48 9 W' (.slice (some ⟨g, 0, none⟩) l.length cap) l) => by
    have := objsO_set h (by decide) (idxS l n) 2 hi (by omega) (withD (fL b r) (objS l n)) (.string ⟨(fL b r).toArray⟩) (fun c hc => by
      rw [← hob] at hc
      obtain ⟨lv, rfl, h2⟩ := hc
      exact ⟨lv, rfl, h2⟩)
    rw [← set_modify _ hi] at this
    exact this)
  have hge : (0 : Int) ≤ (idxS l n : Int) := by omega
  have hltz : ((idxS l n : Nat) : Int) < (l.length : Int) := by omega
  obtain ⟨g, cap, hat | hat⟩ := objsO_at hv (idxS l n) hi
  rotate_left 1
  · exact absurd hat (by decide)
  obtain ⟨rfl, hbg, hgl, -, -, k2, -, -, hfr, -⟩ := hat
  rw [← hob] at k2
  have HFR : Hid (∀ W', ObjsO base 48 9 W' (.slice (some ⟨g, 0, none⟩) l.length cap) l → ∀ o, W'.frozen? ⟨g, o, none⟩ = false) := by
    show ∀ W', _
    rintro W' ⟨cs, h1, -⟩ o
    exact h1.frozenAt o
  have hgq : g ≠ q := by
    rintro rfl
    obtain ⟨cs, h1, -⟩ := hv
    rcases h1.2 with ⟨h', _⟩ | ⟨g', cap', cur, h', _, hh, _⟩
    · cases h'
    · cases h'
      rw [show W.heap[g]? = _ from hq] at hh
      cases hh
  have hgeb : g ≠ eb := by
    rintro rfl
    obtain ⟨cs, h1, -⟩ := hv
    rcases h1.2 with ⟨h', _⟩ | ⟨g', cap', cur, h', _, hh, _⟩
    · cases h'
    · cases h'
      rw [show W.heap[g]? = _ from hds.1] at hh
      cases hh
  have hgqb : g ≠ qb := by
    rintro rfl
    obtain ⟨cs, h1, -⟩ := hv
    rcases h1.2 with ⟨h', _⟩ | ⟨g', cap', cur, h', _, hh, _⟩
    · cases h'
    · cases h'
      rw [show W.heap[g]? = _ from hds.2] at hh
      cases hh
  generalize hL : setS l n (withD (fL b r)) = L at *
  clear hL hob hsm hsp hl hi hr
  generalize hx : dataW l qu n b r = X at *
  clear hx
  generalize costL L = c2 at *
  generalize costL l = c1 at *
  generalize hix : idxS l n = ix at *
  clear hix
  generalize (objS l n).data = D at *
  have e0 := hq.cell 0
  simp at e0
  have HD := Lib.hid hdo
  clear hdo hds
  go_enter Tryz.func85, Tryz.ntmps85
  go_wp2_with fail
  with_reducible refine HC.mono ?_
  rintro e w1 ⟨rfl, b1⟩
  have K1 := KeepC.of_below b1
  have HDx := fun W' (h : Below w1.heap.size w1 W') => HD.out W' (b1.trans (h.mono b1.size))
  have q1 := hq.below b1 hq.lt
  have v1 := hv.kept (grown_of_below b1 none) (RowT.none _ _)
  have SK : Hid (∀ u, Below w1.heap.size w1 u → u.cell? ⟨db, 0, none⟩ = some (.func (.func gf) #[] caps) ∧ u.cell? ⟨eb, 0, none⟩ = some (.pointer (some ⟨q, 0, none⟩)) ∧ u.cell? ⟨q, 0, none⟩ = some (.slice (some ⟨g, 0, none⟩) l.length cap) ∧ u.cell? ⟨g, ix * 5 + 2, none⟩ = some (.string ⟨D.toArray⟩) ∧ u.cell? ⟨qb, 0, none⟩ = some (.int .i64 qu)) := by
    show ∀ u, _
    intro u hu
    have k := (K1.trans (KeepC.of_below hu)).2
    exact ⟨k _ _ _ hd, k _ _ _ he, k _ _ _ e0, k _ _ _ k2, k _ _ _ hqu⟩
  clear HC HD hd he e0 k2 hqu hq hv
  go_wp2_with fail
  refine wp_region_noPanic ?_
  refine wp_region_held_drew (S := (fun u => u.cell? ⟨db, 0, none⟩ = some (.func (.func gf) #[] caps) ∧ u.cell? ⟨eb, 0, none⟩ = some (.pointer (some ⟨q, 0, none⟩)) ∧ u.cell? ⟨q, 0, none⟩ = some (.slice (some ⟨g, 0, none⟩) l.length cap) ∧ u.cell? ⟨g, ix * 5 + 2, none⟩ = some (.string ⟨D.toArray⟩) ∧ u.cell? ⟨qb, 0, none⟩ = some (.int .i64 qu))) (by kernel_rfl) ?_ (fun hHeld => ?_)
  · exact SK.out _ (Below.refl w1.heap.size w1).drew
  refine wpAnyH_take (i := 0) (oi := _) (v := ?_) (nth_at rfl) (by kernel_rfl) (by kernel_rfl) (by kernel_rfl) (fun _ _ _ h => h) (Or.inl ⟨by rfl, ?_⟩) (by assumption) ?_
  rotate_left 1
  · intro w hSw; (try dsimp only at hSw); (go_simp <;> with_reducible rfl)
  try simp only [Act.put, List.setIfInBounds_toArray, List.set_cons_zero, List.set_cons_succ]
  refine wpAnyH_take (i := 1) (oi := _) (v := ?_) (nth_at rfl) (by kernel_rfl) (by kernel_rfl) (by kernel_rfl) (fun _ _ _ h => h) (Or.inl ⟨by rfl, ?_⟩) (by assumption) ?_
  rotate_left 1
  · intro w hSw; (try dsimp only at hSw); (go_simp <;> with_reducible rfl)
  try simp only [Act.put, List.setIfInBounds_toArray, List.set_cons_zero, List.set_cons_succ]
  refine wpAnyH_take (i := 2) (oi := _) (v := ?_) (nth_at rfl) (by kernel_rfl) (by kernel_rfl) (by kernel_rfl) (fun _ _ _ h => h) (Or.inl ⟨by rfl, ?_⟩) (by assumption) ?_
  rotate_left 1
  · intro w hSw; (try dsimp only at hSw); (go_simp <;> with_reducible rfl)
  try simp only [Act.put, List.setIfInBounds_toArray, List.set_cons_zero, List.set_cons_succ]
  refine wpAnyH_take (i := 3) (oi := _) (v := ?_) (nth_at rfl) (by kernel_rfl) (by kernel_rfl) (by kernel_rfl) (fun _ _ _ h => h) (Or.inl ⟨by rfl, ?_⟩) (by assumption) ?_
  rotate_left 1
  · intro w hSw; (try dsimp only at hSw); (go_simp <;> with_reducible rfl)
  try simp only [Act.put, List.setIfInBounds_toArray, List.set_cons_zero, List.set_cons_succ]
  refine wpAnyH_take (i := 4) (oi := _) (v := ?_) (nth_at rfl) (by kernel_rfl) (by kernel_rfl) (by kernel_rfl) (fun _ _ _ h => h) (Or.inl ⟨by rfl, ?_⟩) (by assumption) ?_
  rotate_left 1
  · intro w hSw; (try dsimp only at hSw); (go_simp <;> with_reducible rfl)
  try simp only [Act.put, List.setIfInBounds_toArray, List.set_cons_zero, List.set_cons_succ]
  refine wpAnyH_take (i := 5) (oi := _) (v := ?_) (nth_at rfl) (by kernel_rfl) (by kernel_rfl) (by kernel_rfl) (fun _ _ _ h => h) (Or.inl ⟨by rfl, ?_⟩) (by assumption) ?_
  rotate_left 1
  · intro w hSw; (try dsimp only at hSw); (go_simp <;> with_reducible rfl)
  try simp only [Act.put, List.setIfInBounds_toArray, List.set_cons_zero, List.set_cons_succ]
  refine wpAnyH_take (i := 6) (oi := _) (v := ?_) (nth_at rfl) (by kernel_rfl) (by kernel_rfl) (by kernel_rfl) (fun _ _ _ h => h) (Or.inl ⟨by rfl, ?_⟩) (by assumption) ?_
  rotate_left 1
  · intro w hSw; (try dsimp only at hSw); (go_simp <;> with_reducible rfl)
  try simp only [Act.put, List.setIfInBounds_toArray, List.set_cons_zero, List.set_cons_succ]
  refine wpAnyH_take (i := 7) (oi := _) (v := ?_) (nth_at rfl) (by kernel_rfl) (by kernel_rfl) (by kernel_rfl) (fun _ _ _ h => h) (Or.inl ⟨by rfl, ?_⟩) (by assumption) ?_
  rotate_left 1
  · intro w hSw; (try dsimp only at hSw); (go_simp <;> with_reducible rfl)
  try simp only [Act.put, List.setIfInBounds_toArray, List.set_cons_zero, List.set_cons_succ]
  refine wpAnyH_take (i := 8) (oi := _) (v := ?_) (nth_at rfl) (by kernel_rfl) (by kernel_rfl) (by kernel_rfl) (fun _ _ _ h => h) (Or.inl ⟨by rfl, ?_⟩) (by assumption) ?_
  rotate_left 1
  · intro w hSw; (try dsimp only at hSw); (go_simp <;> with_reducible rfl)
  try simp only [Act.put, List.setIfInBounds_toArray, List.set_cons_zero, List.set_cons_succ]
  refine wpAnyH_take (i := 9) (oi := _) (v := ?_) (nth_at rfl) (by kernel_rfl) (by kernel_rfl) (by kernel_rfl) (fun _ _ _ h => h) (Or.inl ⟨by rfl, ?_⟩) (by assumption) ?_
  rotate_left 1
  · intro w hSw; (try dsimp only at hSw); (go_simp <;> with_reducible rfl)
  try simp only [Act.put, List.setIfInBounds_toArray, List.set_cons_zero, List.set_cons_succ]
  refine wpAnyH_ready (rs := [10]) (by kernel_rfl) (by simp) ?_
  refine AllReadyH.cons (o := _) (nth_at rfl) (fun K hK => ?_) AllReadyH.nil
  go_simp
  with_reducible refine (HDx _ (Below.refl w1.heap.size w1).drew).mono ?_
  rintro e w2 ⟨rfl, b2d⟩
  have b2 : Below w1.heap.size w1 w2 := (Below.refl w1.heap.size w1).drew.trans b2d
  try dsimp only
  refine hK.out _ _ ?_ (fun hHeld => ?_)
  · exact SK.out _ b2
  clear hK K
  try simp only [Act.put, List.setIfInBounds_toArray, List.set_cons_zero, List.set_cons_succ]
  refine wpAnyH_take (i := 11) (oi := _) (v := ?_) (nth_at rfl) (by kernel_rfl) (by kernel_rfl) (by kernel_rfl) (fun _ _ _ h => h) (Or.inl ⟨by rfl, ?_⟩) (by assumption) ?_
  rotate_left 1
  · intro w hSw; (try dsimp only at hSw); (go_simp <;> with_reducible rfl)
  try simp only [Act.put, List.setIfInBounds_toArray, List.set_cons_zero, List.set_cons_succ]
  refine wpAnyH_take (i := 12) (oi := _) (v := ?_) (nth_at rfl) (by kernel_rfl) (by kernel_rfl) (by kernel_rfl) (fun _ _ _ h => h) (Or.inl ⟨by rfl, ?_⟩) (by assumption) ?_
  rotate_left 1
  · intro w hSw; (try dsimp only at hSw); (go_simp <;> with_reducible rfl)
  try simp only [Act.put, List.setIfInBounds_toArray, List.set_cons_zero, List.set_cons_succ]
  refine wpAnyH_take (i := 13) (oi := _) (v := ?_) (nth_at rfl) (by kernel_rfl) (by kernel_rfl) (by kernel_rfl) (fun _ _ _ h => h) (Or.inl ⟨by rfl, ?_⟩) (by assumption) ?_
  rotate_left 1
  · intro w hSw; (try dsimp only at hSw); (go_simp <;> with_reducible rfl)
  try simp only [Act.put, List.setIfInBounds_toArray, List.set_cons_zero, List.set_cons_succ]
  refine wpAnyH_take (i := 14) (oi := _) (v := ?_) (nth_at rfl) (by kernel_rfl) (by kernel_rfl) (by kernel_rfl) (fun _ _ _ h => h) (Or.inl ⟨by rfl, ?_⟩) (by assumption) ?_
  rotate_left 1
  · intro w hSw; (try dsimp only at hSw); (go_simp <;> with_reducible rfl)
  try simp only [Act.put, List.setIfInBounds_toArray, List.set_cons_zero, List.set_cons_succ]
  refine wpAnyH_take (i := 15) (oi := _) (v := ?_) (nth_at rfl) (by kernel_rfl) (by kernel_rfl) (by kernel_rfl) (fun _ _ _ h => h) (Or.inl ⟨by rfl, ?_⟩) (by assumption) ?_
  rotate_left 1
  · intro w hSw; (try dsimp only at hSw); (go_simp <;> with_reducible rfl)
  try simp only [Act.put, List.setIfInBounds_toArray, List.set_cons_zero, List.set_cons_succ]
  refine wpAnyH_done (by kernel_rfl) ?_ _
  refine NoPanic.normal ?_
  have q2 := q1.below b2 q1.lt
  have v2 := v1.kept (grown_of_below b2 none) (RowT.none _ _)
  have S2 := SK.out _ b2
  obtain ⟨-, s2, s3, s4, s5⟩ := S2
  have f2 := HFR.out w2 v2 (ix * 5 + 2)
  obtain ⟨o3, g3⟩ := HST.out w2 g cap v2
  have q3 : Blk (w2.setCell ⟨g, ix * 5 + 2, none⟩ (.string ⟨(fL b r).toArray⟩)) q #[.slice (some ⟨g, 0, none⟩) l.length cap, .nilIface] 71 := q2.kept g3 (by simp; omega)
  have b12 := b1.trans (b2.mono b1.size)
  have B3 : W.grownBy (w2.setCell ⟨g, ix * 5 + 2, none⟩ (.string ⟨(fL b r).toArray⟩)) (some g) := grownBy_t (grown_of_below b12 _) g3
  have s2' : (w2.setCell ⟨g, ix * 5 + 2, none⟩ (.string ⟨(fL b r).toArray⟩)).cell? ⟨eb, 0, none⟩ = some (.pointer (some ⟨q, 0, none⟩)) := (World.cell?_setCell_other _ _ _ _ (fun e => hgeb (by injection e))).trans s2
  have s5' : (w2.setCell ⟨g, ix * 5 + 2, none⟩ (.string ⟨(fL b r).toArray⟩)).cell? ⟨qb, 0, none⟩ = some (.int .i64 qu) := (World.cell?_setCell_other _ _ _ _ (fun e => hgqb (by injection e))).trans s5
  have F3 := Lib.hid (⟨o3, g3, q3, B3, s2', s5'⟩ : _ ∧ _ ∧ _ ∧ _ ∧ _ ∧ _)
  clear HST HFR SK q1 v1 q2 v2 o3 g3 q3 B3 s2' s5' b12 b1 b2 K1 hfr
  cases b with
  | false =>
    have hX : X = 90 := hW0H.out
    subst hX
    go_wp2_with fail
    go_ret
    exact ⟨rfl, F3.out.2.2.1, F3.out.1, F3.out.2.2.2.1⟩
  | true =>
    have hX : X = if decide (qu < c2) && decide (c1 < c2) then 104 else 0 := hW0H.out
    have hXH := Lib.hid hX
    clear hX hW0H
    go_wp2_with fail
    generalize w2.setCell ⟨g, ix * 5 + 2, none⟩ (.string ⟨(fL true r).toArray⟩) = w3 at *
    obtain ⟨o3, -, q3, B3, s2', s5'⟩ := F3.out
    have HC3 := HC2 w3 _ ((q3.cell 0).trans rfl) o3.view
    clear HC2 F3 s2 s3 s4 s5 f2
    with_reducible refine HC3.mono ?_
    rintro e w4 ⟨rfl, b4⟩
    have s5'' := (KeepC.of_below b4).2 _ _ _ s5'
    have FF := Lib.hid (⟨q3.below b4 q3.lt, o3.kept (grown_of_below b4 none) (RowT.none _ _), grownBy_t B3 (grown_of_below b4 _)⟩ : _ ∧ _ ∧ _)
    clear HC3 o3 q3 B3 s2' s5' b4
    by_cases hA : qu < c2
    · by_cases hB : c1 < c2
      · have hX : X = 104 := by rw [hXH.out]; simp [hA, hB]
        subst hX
        clear hXH
        go_wp2_with fail
        go_ret
        exact ⟨rfl, FF.out⟩
      · have hX : X = 0 := by rw [hXH.out]; simp [hA, hB]
        subst hX
        clear hXH
        go_wp2_with fail
        go_ret
        exact ⟨rfl, FF.out⟩
    · have hX : X = 0 := by rw [hXH.out]; simp [hA]
      subst hX
      clear hXH
      go_wp2_with fail
      go_ret
      exact ⟨rfl, FF.out⟩
end Go.Proofs.YthclfkhakmcnbaaGreatDoor
/- Walks of layer 10: data. -/
namespace Go.Proofs.YthclfkhakmcnbaaGreatDoor
open Go.RowKit Go.Shelf
attribute [local go_sem] Oper.semAt_some
theorem dataE_ok {l : List ObjD} {q : Int} {n : List UInt8} {b : Bool} {s : List UInt8} (h : editE l n 1 = 0) : dataE l q n b s = dataW l q n b s := by unfold dataE dataW; rw [if_pos h]
theorem dataE_no {l : List ObjD} {q : Int} {n : List UInt8} {b : Bool} {s : List UInt8} (h : editE l n 1 ≠ 0) : dataE l q n b s = editE l n 1 := by unfold dataE; rw [if_neg h]
theorem boxed_ne_row {W : World} {b : Nat} {t e : TypeId} {v u : Value} {base size n : Nat} {cs : List Value} (h : Boxed W b t v) (hr : W.ownsRow base e size u n cs) (hne : t ≠ e) : some b ≠ u.ownBlock := (h.not_row hne hr)
theorem boxed_ne_blk {W : World} {b q : Nat} {t e : TypeId} {v : Value} {cs : Array Value} (h : Boxed W b t v) (hr : Blk W q cs e) (hne : t ≠ e) : b ≠ q := by
  rintro rfl
  have h1 : W.heap[b]? = some (.cells #[v] t (0, 0)) := h
  have h2 : W.heap[b]? = some (.cells cs e (0, 0)) := hr
  rw [h1] at h2
  injection h2 with h2
  injection h2 with _ h2
  exact hne h2
set_option maxRecDepth 100000 in
set_option maxHeartbeats 8000000 in
theorem data_any (l : List ObjD) (hl : FitsS l) (v : Value) (qu : Int) (n : List UInt8) (gf : Nat) (caps : Array Value) (b : Bool) (r : List UInt8) (hr : b = true → r.length ≤ 1000) (ea : Addr) (w : World) (hge : w.cell? ⟨0, 0, none⟩ = some (errV8 ea)) (het : ErrT w) (hv : ObjsV w v l)
    (eg : ∀ args w, (callFunc gf args).run Tryz.prog w = .ok (.enter gf args) w)
    (hdo : editE l n 1 = 0 → ∀ W, KeepC w W → Calls Tryz.prog gf (#[.string ⟨(objS l n).data.toArray⟩] ++ caps) W (fileP W b r)) :
    Calls Tryz.prog 43 #[v, .int .i64 qu, .string ⟨n.toArray⟩, .func (.func gf) #[] caps] w (makeP w.heap.size w (dataS l qu n b r) (dataE l qu n b r)) := by
  have hmf : ∀ (fn : Fn) (first cap : Array Value) (w : World), (Instr.makeFunc fn first cap).run Tryz.prog w = .ok (.func fn first cap) w := fun _ _ _ _ => rfl
  obtain ⟨E, hE⟩ : ∃ E, dataE l qu n b r = E := ⟨_, rfl⟩
  have hdS : Hid (dataS l qu n b r = if E = 0 then setS l n (withD r) else []) := by show _ = _; rw [← hE]; rfl
  have hEH := Lib.hid hE
  rw [hE]
  clear hE
  generalize dataS l qu n b r = S at *
  have o0 := Boxed.new w 3 (.int .i64 qu)
  have p0 := Boxed.new (w.alloc (.cells #[.int .i64 qu] 3)) 58 (.func (.func gf) #[] caps)
  rw [World.size_alloc] at p0
  have o1 := o0.alloc (.cells #[.func (.func gf) #[] caps] 58)
  have B0 : Below w.heap.size w ((w.alloc (.cells #[.int .i64 qu] 3)).alloc (.cells #[.func (.func gf) #[] caps] 58)) := ((Below.refl _ w).alloc (Nat.le_refl _) _).alloc (by simp) _
  obtain ⟨av, cv, rfl, -⟩ := hv.at
  have HO := open_any l hl (.slice av l.length cv) ea _ ((KeepC.of_below B0).2 _ _ _ hge) (hv.keep (KeepC.of_below B0))
  have HX := Lib.hid (fun W (h : KeepC w W) q v ev c hev hvs hq => end_any q v ev c hev hvs W (h.2 _ _ _ het) hq)
  have hz0 : ((w.alloc (.cells #[.int .i64 qu] 3)).alloc (.cells #[.func (.func gf) #[] caps] 58)).heap.size = w.heap.size + 1 + 1 := by simp
  have hdoH := Lib.hid hdo
  clear hdo hge het
  go_enter Tryz.func43, Tryz.ntmps43
  go_wp2_with fail
  with_reducible refine HO.mono ?_
  rintro e w1 ⟨q, v1, rfl, hqw, q1, o1', B1⟩
  clear HO
  go_wp2_with fail
  generalize hW0 : (w.alloc (.cells #[.int .i64 qu] 3)).alloc (.cells #[.func (.func gf) #[] caps] 58) = W0 at *
  clear hW0 o0
  have e2 := Boxed.new w1 62 (.pointer (some ⟨q, 0, none⟩))
  have A2 := Below.alloc (Below.refl w1.heap.size w1) (Nat.le_refl _) (.cells #[.pointer (some ⟨q, 0, none⟩)] 62)
  have b2 : Below w.heap.size w (w1.alloc (.cells #[.pointer (some ⟨q, 0, none⟩)] 62)) := (B0.trans (B1.mono B0.size)).alloc (B0.trans (B1.mono B0.size)).size _
  have q2 := q1.below A2 q1.lt
  have o2 := (o1'.kept (grown_of_below A2 none) (RowT.none _ _)).base (by rw [hz0]; omega : w.heap.size ≤ W0.heap.size)
  have p2 : Boxed (w1.alloc (.cells #[.pointer (some ⟨q, 0, none⟩)] 62)) (w.heap.size + 1) 58 (.func (.func gf) #[] caps) := (show Boxed w1 _ 58 (.func (.func gf) #[] caps) from (B1.block _ (by omega)).trans p0).alloc _
  have i2 : Boxed (w1.alloc (.cells #[.pointer (some ⟨q, 0, none⟩)] 62)) w.heap.size 3 (.int .i64 qu) := (show Boxed w1 _ 3 (.int .i64 qu) from (B1.block _ (by omega)).trans o1).alloc _
  have hqw2 : w.heap.size ≤ q := by omega
  have hew : w.heap.size ≤ w1.heap.size := by have := B1.size; omega
  clear q1 o1' A2 o1 p0 B0 B1 hqw hz0
  generalize heb : w1.heap.size = eb at *
  clear heb
  generalize w1.alloc (.cells #[.pointer (some ⟨q, 0, none⟩)] 62) = W2 at *
  obtain ⟨av1, cv1, rfl, -⟩ := o2.view.at
  by_cases hed : editE l n 1 = 0
  · have hEW : E = dataW l qu n b r := hEH.out.symm.trans (dataE_ok hed)
    obtain ⟨hsp, hi, -⟩ := edit_zero.1 hed
    have HDO := edit_do q _ l hl.1 n 1 (.inr (.inl rfl)) 85 #[.pointer (some ⟨eb, 0, none⟩), .pointer (some ⟨w.heap.size + 1, 0, none⟩), .pointer (some ⟨w.heap.size, 0, none⟩)]
      (fun why W' => E = why ∧ ObjsO w.heap.size 48 9 W' (.slice av1 l.length cv1) (setS l n (withD (fL b r))) ∧ W2.grownBy W' (Value.ownBlock (.slice av1 l.length cv1)) ∧ Blk W' q #[.slice av1 l.length cv1, .nilIface] 71)
      W2 q2 o2.view hed (enters_of Tryz.func85 (by kernel_rfl) rfl) (fun W hW => by
        have hKW := KeepC.of_below hW
        have q3 : Blk W q #[.slice av1 l.length cv1, .nilIface] 71 := by
          have := q2.below hW q2.lt
          rw [hsp] at this
          simpa using this
        have := data1_any q eb (w.heap.size + 1) w.heap.size w.heap.size l hl hsp n hi (.slice av1 l.length cv1) qu gf caps b r hr W q3 (hKW.2 _ _ _ e2.cell) (hKW.2 _ _ _ p2.cell) (hKW.2 _ _ _ i2.cell) (o2.kept (grown_of_below hW none) (RowT.none _ _)) (Nat.le_trans b2.size hW.size) hqw2
          ⟨(hW.block _ (Array.getElem?_eq_some_iff.1 e2).1).trans e2, (hW.block _ (Array.getElem?_eq_some_iff.1 i2).1).trans i2⟩ eg (fun W' hW' => hdoH.out hed W' (KeepC.of_below (b2.trans ((hW.trans (hW'.mono hW.size)).mono b2.size))))
        refine this.mono fun e W' ⟨h1, h2, h3, h4⟩ => ⟨_, h1, ⟨hEW, h3, grownBy_t (grown_of_below hW _) h4, h2⟩, _, h2⟩)
    have hEcase : E = 0 → b = true := fun h => by
      rw [hEW] at h
      unfold dataW at h
      cases b with
      | true => rfl
      | false => simp at h
    have hSH : Hid (S = if E = 0 then setS l n (withD r) else []) := hdS.out
    clear hdS hEH hEW hdoH p2 i2
    with_reducible refine HDO.mono ?_
    rintro e w3 ⟨rfl, why, W', ⟨rfl, o3, g3, q3⟩, -, hw3⟩
    have hrowne : some eb ≠ Value.ownBlock (.slice av1 l.length cv1) := by
      obtain ⟨cs, h1, -⟩ := o2
      exact boxed_ne_row e2 h1 (by decide)
    have e3 := e2.kept g3 hrowne
    have hbr : ∀ k, Value.ownBlock (.slice av1 l.length cv1) = some k → w.heap.size ≤ k := by
      obtain ⟨cs, h1, -⟩ := o2
      exact fun k hk => (h1.lt k hk).1
    have b3 := b2.grown g3 b2.size hbr
    clear HDO g3 hrowne hbr o2 q2 e2 b2
    by_cases h0 : E = 0
    · subst h0
      have hb := hEcase rfl
      subst hb
      have hS : S = setS l n (withD r) := hSH.out
      subst hS
      rw [if_pos rfl] at hw3
      subst hw3
      have HXx := HX.out W' (KeepC.of_below b3) q _ _ 0 (.inl ⟨rfl, rfl⟩) ⟨_, _, _, rfl⟩ q3
      rw [if_pos rfl] at HXx
      have e3c := e3.cell
      have o3' : ObjsO w.heap.size 48 9 W' (.slice av1 l.length cv1) (setS l n (withD r)) := o3
      clear HX q3 e3 hSH o3
      go_wp2_with fail
      with_reducible refine HXx.mono ?_
      rintro e w4 ⟨rfl, b4⟩
      go_wp2_with fail
      go_ret2
      exact ⟨_, rfl, o3'.kept (grown_of_below b4 none) (RowT.none _ _), b3.trans (b4.mono b3.size)⟩
    · have hS : S = [] := by rw [hSH.out, if_neg h0]
      subst hS
      rw [if_neg h0] at hw3
      have q3' : Blk w3 q #[.slice av1 l.length cv1, withinV n E] 71 := by rw [← hw3]; simpa using q3.set 1 (withinV n E)
      have e3' : Boxed w3 eb 62 (.pointer (some ⟨q, 0, none⟩)) := by rw [← hw3]; exact e3.kept (grownBy_setCellB W' q 1 _) (by simpa using boxed_ne_blk e3 q3 (by decide))
      have b3' : Below w.heap.size w w3 := by rw [← hw3]; exact b3.setCell (p := ⟨q, 1, none⟩) hqw2 _
      have HXx := HX.out w3 (KeepC.of_below b3') q _ _ E (.inr (.inr ⟨h0, _, rfl⟩)) ⟨_, _, _, rfl⟩ q3'
      rw [if_neg h0] at HXx
      have e3c := e3'.cell
      clear HX q3 e3 hSH q3' e3' hw3 o3 b3
      go_wp2_with fail
      with_reducible refine HXx.mono ?_
      rintro e w4 ⟨rfl, b4⟩
      go_wp2_with fail
      go_ret2
      exact ⟨_, rfl, ObjsO.nil _ _ _ _, b3'.trans (b4.mono b3'.size)⟩
  · have hE : E = editE l n 1 := hEH.out.symm.trans (dataE_no hed)
    have hS : S = [] := by rw [hdS.out, if_neg (by rw [hE]; exact hed)]
    subst hS
    have HN := edit_no q _ l hl.1 n 1 (.inr (.inl rfl)) (.func (.func 85) #[] #[.pointer (some ⟨eb, 0, none⟩), .pointer (some ⟨w.heap.size + 1, 0, none⟩), .pointer (some ⟨w.heap.size, 0, none⟩)]) W2 q2 o2.view hed
    rw [← hE] at HN
    have hE0 : E ≠ 0 := by rw [hE]; exact hed
    clear hE hed hEH hdS
    with_reducible refine HN.mono ?_
    rintro e w3 ⟨rfl, q3, g3⟩
    have e3 := (e2.kept g3 (by simpa using boxed_ne_blk e2 q2 (by decide))).cell
    have b3 := b2.grown g3 b2.size (fun k e => by cases e; exact hqw2)
    have HXx := HX.out w3 (KeepC.of_below b3) q _ _ E (.inr (.inl ⟨hE0, rfl⟩)) ⟨_, _, _, rfl⟩ q3
    rw [if_neg hE0] at HXx
    clear HN HX q3 g3 e2 p2 i2 o2 q2 b2 hdoH
    go_wp2_with fail
    with_reducible refine HXx.mono ?_
    rintro e w4 ⟨rfl, b4⟩
    go_wp2_with fail
    go_ret2
    exact ⟨_, rfl, ObjsO.nil _ _ _ _, b3.trans (b4.mono b3.size)⟩
end Go.Proofs.YthclfkhakmcnbaaGreatDoor
/- Walks of layer 10: Write, Cut. -/
namespace Go.Proofs.YthclfkhakmcnbaaGreatDoor
open Go.RowKit Go.Shelf
attribute [local go_sem] Oper.semAt_some
theorem edit_data {l : List ObjD} {n : List UInt8} {k : Int} (h : editE l n k = 0) : (objS l n).data.length ≤ 1000 := by
  obtain ⟨hsp, hi, -⟩ := edit_zero.1 h
  exact (small_of hsp _ (objS_mem hi)).2.1
theorem makeP.base {base b' : Nat} {w w0 : World} {l : List ObjD} {x : Int} {e : Ending} {w' : World} (h : makeP base w0 l x e w') (hb : b' ≤ base) (h0 : Below b' w w0) (hb0 : b' ≤ w0.heap.size) : makeP b' w l x e w' := by
  obtain ⟨v, h1, h2, h3⟩ := h
  exact ⟨v, h1, h2.base hb, h0.trans (h3.mono hb)⟩
set_option maxRecDepth 100000 in
set_option maxHeartbeats 4000000 in
theorem write1_any (s t : List UInt8) (hs : s.length ≤ 1000000) (ht : t.length ≤ 1000000) (k : Int) (ab tb : Nat) (W : World) (h1 : W.cell? ⟨ab, 0, none⟩ = some (.int .i64 k)) (h2 : W.cell? ⟨tb, 0, none⟩ = some (.string ⟨t.toArray⟩)) (het : ErrT W) :
    Calls Tryz.prog 44 #[.string ⟨s.toArray⟩, .pointer (some ⟨ab, 0, none⟩), .pointer (some ⟨tb, 0, none⟩)] W (fileP W (fwriteB s k t) (fwriteL s k t)) := by
  have H := Lib.hid (fWrite_any s t hs ht k W het)
  clear het
  go_enter Tryz.func44, Tryz.ntmps44
  go_wp2_with fail
  with_reducible refine H.out.mono ?_
  rintro e w1 ⟨rfl, b1⟩
  go_wp2_with fail
  go_ret2
  exact ⟨rfl, b1⟩
set_option maxRecDepth 100000 in
set_option maxHeartbeats 4000000 in
theorem cut1_any (s : List UInt8) (hs : s.length ≤ 1000000) (k : Int) (ab : Nat) (W : World) (h1 : W.cell? ⟨ab, 0, none⟩ = some (.int .i64 k)) (het : ErrT W) :
    Calls Tryz.prog 55 #[.string ⟨s.toArray⟩, .pointer (some ⟨ab, 0, none⟩)] W (fileP W (fcutB s k) (fcutL s k)) := by
  have H := Lib.hid (fCut_any s hs k W het)
  clear het
  go_enter Tryz.func55, Tryz.ntmps55
  go_wp2_with fail
  with_reducible refine H.out.mono ?_
  rintro e w1 ⟨rfl, b1⟩
  go_wp2_with fail
  go_ret2
  exact ⟨rfl, b1⟩
set_option maxRecDepth 100000 in
set_option maxHeartbeats 4000000 in
theorem Write_any (l : List ObjD) (hl : FitsS l) (v : Value) (qu : Int) (n : List UInt8) (k : Int) (t : List UInt8) (ht : t.length ≤ 1000000) (ea : Addr) (w : World) (hge : w.cell? ⟨0, 0, none⟩ = some (errV8 ea)) (het : ErrT w) (hv : ObjsV w v l) :
    Calls Tryz.prog 12 #[v, .int .i64 qu, .string ⟨n.toArray⟩, .int .i64 k, .string ⟨t.toArray⟩] w (makeP w.heap.size w (writeS l qu n k t) (writeE l qu n k t)) := by
  have hmf : ∀ (fn : Fn) (first cap : Array Value) (w : World), (Instr.makeFunc fn first cap).run Tryz.prog w = .ok (.func fn first cap) w := fun _ _ _ _ => rfl
  have o0 := Boxed.new w 3 (.int .i64 k)
  have p0 := Boxed.new (w.alloc (.cells #[.int .i64 k] 3)) 9 (.string ⟨t.toArray⟩)
  rw [World.size_alloc] at p0
  have o1 := o0.alloc (.cells #[.string ⟨t.toArray⟩] 9)
  have B0 : Below w.heap.size w ((w.alloc (.cells #[.int .i64 k] 3)).alloc (.cells #[.string ⟨t.toArray⟩] 9)) := ((Below.refl _ w).alloc (Nat.le_refl _) _).alloc (by simp) _
  have K0 := KeepC.of_below B0
  have HD := Lib.hid (data_any l hl v qu n 44 #[.pointer (some ⟨w.heap.size, 0, none⟩), .pointer (some ⟨w.heap.size + 1, 0, none⟩)] (fwriteB (objS l n).data k t) (fwriteL (objS l n).data k t) fwrite_len ea _ (K0.2 _ _ _ hge) (K0.2 _ _ _ het) (hv.keep K0) (enters_of Tryz.func44 (by kernel_rfl) rfl)
    (fun hed W hW => write1_any _ t (Nat.le_trans (edit_data hed) (by decide)) ht k _ _ W (hW.2 _ _ _ o1.cell) (hW.2 _ _ _ p0.cell) ((K0.trans hW).2 _ _ _ het)))
  have e1 : dataS l qu n (fwriteB (objS l n).data k t) (fwriteL (objS l n).data k t) = writeS l qu n k t := rfl
  have e2 : dataE l qu n (fwriteB (objS l n).data k t) (fwriteL (objS l n).data k t) = writeE l qu n k t := rfl
  rw [e1, e2] at HD
  clear e1 e2
  generalize writeS l qu n k t = S at *
  generalize writeE l qu n k t = E at *
  obtain ⟨av, cv, rfl, -⟩ := hv.at
  clear hge het hv o1 p0 o0 K0
  go_enter Tryz.func12, Tryz.ntmps12
  go_wp2_with fail
  refine HD.out.mono ?_
  rintro e w1 hP
  obtain ⟨v1, rfl, h2, h3⟩ := hP.base B0.size B0 B0.size
  clear HD
  go_wp2_with fail
  go_ret2
  exact ⟨v1, rfl, h2, h3⟩
set_option maxRecDepth 100000 in
set_option maxHeartbeats 4000000 in
theorem CutS_any (l : List ObjD) (hl : FitsS l) (v : Value) (qu : Int) (n : List UInt8) (k : Int) (ea : Addr) (w : World) (hge : w.cell? ⟨0, 0, none⟩ = some (errV8 ea)) (het : ErrT w) (hv : ObjsV w v l) :
    Calls Tryz.prog 18 #[v, .int .i64 qu, .string ⟨n.toArray⟩, .int .i64 k] w (makeP w.heap.size w (cutS l qu n k) (cutE l qu n k)) := by
  have hmf : ∀ (fn : Fn) (first cap : Array Value) (w : World), (Instr.makeFunc fn first cap).run Tryz.prog w = .ok (.func fn first cap) w := fun _ _ _ _ => rfl
  have o0 := Boxed.new w 3 (.int .i64 k)
  have B0 : Below w.heap.size w (w.alloc (.cells #[.int .i64 k] 3)) := (Below.refl _ w).alloc (Nat.le_refl _) _
  have K0 := KeepC.of_below B0
  have HD := Lib.hid (data_any l hl v qu n 55 #[.pointer (some ⟨w.heap.size, 0, none⟩)] (fcutB (objS l n).data k) (fcutL (objS l n).data k) fcut_len ea _ (K0.2 _ _ _ hge) (K0.2 _ _ _ het) (hv.keep K0) (enters_of Tryz.func55 (by kernel_rfl) rfl)
    (fun hed W hW => cut1_any _ (Nat.le_trans (edit_data hed) (by decide)) k _ W (hW.2 _ _ _ o0.cell) ((K0.trans hW).2 _ _ _ het)))
  have e1 : dataS l qu n (fcutB (objS l n).data k) (fcutL (objS l n).data k) = cutS l qu n k := rfl
  have e2 : dataE l qu n (fcutB (objS l n).data k) (fcutL (objS l n).data k) = cutE l qu n k := rfl
  rw [e1, e2] at HD
  clear e1 e2
  generalize cutS l qu n k = S at *
  generalize cutE l qu n k = E at *
  obtain ⟨av, cv, rfl, -⟩ := hv.at
  clear hge het hv o0 K0
  go_enter Tryz.func18, Tryz.ntmps18
  go_wp2_with fail
  refine HD.out.mono ?_
  rintro e w1 hP
  obtain ⟨v1, rfl, h2, h3⟩ := hP.base B0.size B0 B0.size
  clear HD
  go_wp2_with fail
  go_ret2
  exact ⟨v1, rfl, h2, h3⟩
end Go.Proofs.YthclfkhakmcnbaaGreatDoor
/- Walks of layer 10: Read. -/
namespace Go.Proofs.YthclfkhakmcnbaaGreatDoor
open Go.RowKit Go.Shelf
attribute [local go_sem] Oper.semAt_some
theorem readE_ok {l : List ObjD} {n : List UInt8} {k m : Int} (h : editE l n 1 = 0) : readE l n k m = fE (freadB (objS l n).data k m) := by unfold readE; rw [if_pos h]
theorem readE_no {l : List ObjD} {n : List UInt8} {k m : Int} (h : editE l n 1 ≠ 0) : readE l n k m = editE l n 1 := by unfold readE; rw [if_neg h]
theorem fE_zero {b : Bool} (h : fE b = 0) : b = true := by cases b with | true => rfl | false => simp [fE] at h
def read1P (q ob : Nat) (W : World) (v : Value) (b : Bool) (r : List UInt8) (e : Ending) (W' : World) : Prop :=
  e = .returned (.int .i64 (fE b)) ∧ Blk W' q #[v, .nilIface] 71 ∧ Boxed W' ob 9 (.string ⟨(fL b r).toArray⟩) ∧ W.grownBy W' (some ob)
set_option maxRecDepth 100000 in
set_option maxHeartbeats 8000000 in
theorem read1_any (q eb ab nb ob base : Nat) (l : List ObjD) (hl : FitsS l) (n : List UInt8) (hi : idxS l n < l.length) (hd : (objS l n).data.length ≤ 1000000) (v : Value) (k m : Int) (W : World)
    (hq : Blk W q #[v, .nilIface] 71) (he : W.cell? ⟨eb, 0, none⟩ = some (.pointer (some ⟨q, 0, none⟩))) (hab : W.cell? ⟨ab, 0, none⟩ = some (.int .i64 k)) (hnb : W.cell? ⟨nb, 0, none⟩ = some (.int .i64 m)) (hob : Boxed W ob 9 (.string ⟨#[]⟩)) (hv : ObjsO base 48 9 W v l) (het : ErrT W) :
    Calls Tryz.prog 51 #[.int .i64 (idxS l n), .pointer (some ⟨eb, 0, none⟩), .pointer (some ⟨ab, 0, none⟩), .pointer (some ⟨nb, 0, none⟩), .pointer (some ⟨ob, 0, none⟩)] W (read1P q ob W v (freadB (objS l n).data k m) (freadL (objS l n).data k m)) := by
  have HD := fun W' (h : KeepC W W') => fRead_any (objS l n).data hd k m W' (h.2 _ _ _ het)
  have hlm := hl.1
  have hoS : objS l n = l[idxS l n] := objS_at hi
  have hge : (0 : Int) ≤ (idxS l n : Int) := by omega
  have hltz : ((idxS l n : Nat) : Int) < (l.length : Int) := by omega
  obtain ⟨g, cap, hat | hat⟩ := objsO_at hv (idxS l n) hi
  rotate_left 1
  · exact absurd hat (by decide)
  obtain ⟨rfl, hbg, hgl, -, -, k2, -, -, -, -⟩ := hat
  rw [← hoS] at k2
  have e0 := hq.cell 0
  simp at e0
  generalize freadB (objS l n).data k m = b at *
  generalize freadL (objS l n).data k m = r at *
  generalize (objS l n).data = D at *
  clear hoS hv hd
  generalize idxS l n = ix at *
  have SK : Hid (∀ u, Below W.heap.size W u → u.cell? ⟨eb, 0, none⟩ = some (.pointer (some ⟨q, 0, none⟩)) ∧ u.cell? ⟨q, 0, none⟩ = some (.slice (some ⟨g, 0, none⟩) l.length cap) ∧ u.cell? ⟨g, ix * 5 + 2, none⟩ = some (.string ⟨D.toArray⟩) ∧ u.cell? ⟨ab, 0, none⟩ = some (.int .i64 k) ∧ u.cell? ⟨nb, 0, none⟩ = some (.int .i64 m)) := by
    show ∀ u, _
    intro u hu
    have k := (KeepC.of_below hu).2
    exact ⟨k _ _ _ he, k _ _ _ e0, k _ _ _ k2, k _ _ _ hab, k _ _ _ hnb⟩
  have hobq : q ≠ ob := fun e => by
    subst e
    have h1 : W.heap[q]? = some (.cells #[.string ⟨#[]⟩] 9 (0, 0)) := hob
    have h2 : W.heap[q]? = some (.cells #[.slice (some ⟨g, 0, none⟩) l.length cap, .nilIface] 71 (0, 0)) := hq
    rw [h1] at h2
    injection h2 with h2
    injection h2 with _ h2
    cases h2
  clear he e0 k2 hab hnb het
  go_enter Tryz.func51, Tryz.ntmps51
  go_wp2_with fail
  refine wp_region_noPanic ?_
  refine wp_region_held_drew (S := (fun u => u.cell? ⟨eb, 0, none⟩ = some (.pointer (some ⟨q, 0, none⟩)) ∧ u.cell? ⟨q, 0, none⟩ = some (.slice (some ⟨g, 0, none⟩) l.length cap) ∧ u.cell? ⟨g, ix * 5 + 2, none⟩ = some (.string ⟨D.toArray⟩) ∧ u.cell? ⟨ab, 0, none⟩ = some (.int .i64 k) ∧ u.cell? ⟨nb, 0, none⟩ = some (.int .i64 m))) (by kernel_rfl) ?_ (fun hHeld => ?_)
  · exact SK.out _ (Below.refl W.heap.size W).drew
  refine wpAnyH_take (i := 0) (oi := _) (v := ?_) (nth_at rfl) (by kernel_rfl) (by kernel_rfl) (by kernel_rfl) (fun _ _ _ h => h) (Or.inl ⟨by rfl, ?_⟩) (by assumption) ?_
  rotate_left 1
  · intro w hSw; (try dsimp only at hSw); (go_simp <;> with_reducible rfl)
  try simp only [Act.put, List.setIfInBounds_toArray, List.set_cons_zero, List.set_cons_succ]
  refine wpAnyH_take (i := 1) (oi := _) (v := ?_) (nth_at rfl) (by kernel_rfl) (by kernel_rfl) (by kernel_rfl) (fun _ _ _ h => h) (Or.inl ⟨by rfl, ?_⟩) (by assumption) ?_
  rotate_left 1
  · intro w hSw; (try dsimp only at hSw); (go_simp <;> with_reducible rfl)
  try simp only [Act.put, List.setIfInBounds_toArray, List.set_cons_zero, List.set_cons_succ]
  refine wpAnyH_take (i := 2) (oi := _) (v := ?_) (nth_at rfl) (by kernel_rfl) (by kernel_rfl) (by kernel_rfl) (fun _ _ _ h => h) (Or.inl ⟨by rfl, ?_⟩) (by assumption) ?_
  rotate_left 1
  · intro w hSw; (try dsimp only at hSw); (go_simp <;> with_reducible rfl)
  try simp only [Act.put, List.setIfInBounds_toArray, List.set_cons_zero, List.set_cons_succ]
  refine wpAnyH_take (i := 3) (oi := _) (v := ?_) (nth_at rfl) (by kernel_rfl) (by kernel_rfl) (by kernel_rfl) (fun _ _ _ h => h) (Or.inl ⟨by rfl, ?_⟩) (by assumption) ?_
  rotate_left 1
  · intro w hSw; (try dsimp only at hSw); (go_simp <;> with_reducible rfl)
  try simp only [Act.put, List.setIfInBounds_toArray, List.set_cons_zero, List.set_cons_succ]
  refine wpAnyH_take (i := 4) (oi := _) (v := ?_) (nth_at rfl) (by kernel_rfl) (by kernel_rfl) (by kernel_rfl) (fun _ _ _ h => h) (Or.inl ⟨by rfl, ?_⟩) (by assumption) ?_
  rotate_left 1
  · intro w hSw; (try dsimp only at hSw); (go_simp <;> with_reducible rfl)
  try simp only [Act.put, List.setIfInBounds_toArray, List.set_cons_zero, List.set_cons_succ]
  refine wpAnyH_take (i := 5) (oi := _) (v := ?_) (nth_at rfl) (by kernel_rfl) (by kernel_rfl) (by kernel_rfl) (fun _ _ _ h => h) (Or.inl ⟨by rfl, ?_⟩) (by assumption) ?_
  rotate_left 1
  · intro w hSw; (try dsimp only at hSw); (go_simp <;> with_reducible rfl)
  try simp only [Act.put, List.setIfInBounds_toArray, List.set_cons_zero, List.set_cons_succ]
  refine wpAnyH_take (i := 6) (oi := _) (v := ?_) (nth_at rfl) (by kernel_rfl) (by kernel_rfl) (by kernel_rfl) (fun _ _ _ h => h) (Or.inl ⟨by rfl, ?_⟩) (by assumption) ?_
  rotate_left 1
  · intro w hSw; (try dsimp only at hSw); (go_simp <;> with_reducible rfl)
  try simp only [Act.put, List.setIfInBounds_toArray, List.set_cons_zero, List.set_cons_succ]
  refine wpAnyH_take (i := 7) (oi := _) (v := ?_) (nth_at rfl) (by kernel_rfl) (by kernel_rfl) (by kernel_rfl) (fun _ _ _ h => h) (Or.inl ⟨by rfl, ?_⟩) (by assumption) ?_
  rotate_left 1
  · intro w hSw; (try dsimp only at hSw); (go_simp <;> with_reducible rfl)
  try simp only [Act.put, List.setIfInBounds_toArray, List.set_cons_zero, List.set_cons_succ]
  refine wpAnyH_take (i := 8) (oi := _) (v := ?_) (nth_at rfl) (by kernel_rfl) (by kernel_rfl) (by kernel_rfl) (fun _ _ _ h => h) (Or.inl ⟨by rfl, ?_⟩) (by assumption) ?_
  rotate_left 1
  · intro w hSw; (try dsimp only at hSw); (go_simp <;> with_reducible rfl)
  try simp only [Act.put, List.setIfInBounds_toArray, List.set_cons_zero, List.set_cons_succ]
  refine wpAnyH_take (i := 9) (oi := _) (v := ?_) (nth_at rfl) (by kernel_rfl) (by kernel_rfl) (by kernel_rfl) (fun _ _ _ h => h) (Or.inl ⟨by rfl, ?_⟩) (by assumption) ?_
  rotate_left 1
  · intro w hSw; (try dsimp only at hSw); (go_simp <;> with_reducible rfl)
  try simp only [Act.put, List.setIfInBounds_toArray, List.set_cons_zero, List.set_cons_succ]
  refine wpAnyH_take (i := 10) (oi := _) (v := ?_) (nth_at rfl) (by kernel_rfl) (by kernel_rfl) (by kernel_rfl) (fun _ _ _ h => h) (Or.inl ⟨by rfl, ?_⟩) (by assumption) ?_
  rotate_left 1
  · intro w hSw; (try dsimp only at hSw); (go_simp <;> with_reducible rfl)
  try simp only [Act.put, List.setIfInBounds_toArray, List.set_cons_zero, List.set_cons_succ]
  refine wpAnyH_ready (rs := [11]) (by kernel_rfl) (by simp) ?_
  refine AllReadyH.cons (o := _) (nth_at rfl) (fun K hK => ?_) AllReadyH.nil
  go_simp
  with_reducible refine (HD _ (KeepC.of_below (Below.refl W.heap.size W).drew)).mono ?_
  rintro e w2 ⟨rfl, b2d⟩
  have b2 : Below W.heap.size W w2 := (Below.refl W.heap.size W).drew.trans b2d
  try dsimp only
  refine hK.out _ _ ?_ (fun hHeld => ?_)
  · exact SK.out _ b2
  clear hK K
  try simp only [Act.put, List.setIfInBounds_toArray, List.set_cons_zero, List.set_cons_succ]
  refine wpAnyH_take (i := 12) (oi := _) (v := ?_) (nth_at rfl) (by kernel_rfl) (by kernel_rfl) (by kernel_rfl) (fun _ _ _ h => h) (Or.inl ⟨by rfl, ?_⟩) (by assumption) ?_
  rotate_left 1
  · intro w hSw; (try dsimp only at hSw); (go_simp <;> with_reducible rfl)
  try simp only [Act.put, List.setIfInBounds_toArray, List.set_cons_zero, List.set_cons_succ]
  refine wpAnyH_take (i := 13) (oi := _) (v := ?_) (nth_at rfl) (by kernel_rfl) (by kernel_rfl) (by kernel_rfl) (fun _ _ _ h => h) (Or.inl ⟨by rfl, ?_⟩) (by assumption) ?_
  rotate_left 1
  · intro w hSw; (try dsimp only at hSw); (go_simp <;> with_reducible rfl)
  try simp only [Act.put, List.setIfInBounds_toArray, List.set_cons_zero, List.set_cons_succ]
  refine wpAnyH_take (i := 14) (oi := _) (v := ?_) (nth_at rfl) (by kernel_rfl) (by kernel_rfl) (by kernel_rfl) (fun _ _ _ h => h) (Or.inl ⟨by rfl, ?_⟩) (by assumption) ?_
  rotate_left 1
  · intro w hSw; (try dsimp only at hSw); (go_simp <;> with_reducible rfl)
  try simp only [Act.put, List.setIfInBounds_toArray, List.set_cons_zero, List.set_cons_succ]
  refine wpAnyH_take (i := 15) (oi := _) (v := ?_) (nth_at rfl) (by kernel_rfl) (by kernel_rfl) (by kernel_rfl) (fun _ _ _ h => h) (Or.inl ⟨by rfl, ?_⟩) (by assumption) ?_
  rotate_left 1
  · intro w hSw; (try dsimp only at hSw); (go_simp <;> with_reducible rfl)
  try simp only [Act.put, List.setIfInBounds_toArray, List.set_cons_zero, List.set_cons_succ]
  refine wpAnyH_take (i := 16) (oi := _) (v := ?_) (nth_at rfl) (by kernel_rfl) (by kernel_rfl) (by kernel_rfl) (fun _ _ _ h => h) (Or.inl ⟨by rfl, ?_⟩) (by assumption) ?_
  rotate_left 1
  · intro w hSw; (try dsimp only at hSw); (go_simp <;> with_reducible rfl)
  try simp only [Act.put, List.setIfInBounds_toArray, List.set_cons_zero, List.set_cons_succ]
  refine wpAnyH_done (by kernel_rfl) ?_ _
  refine NoPanic.normal ?_
  have q2 := hq.below b2 hq.lt
  have o2 : Boxed w2 ob 9 (.string ⟨#[]⟩) := hob.kept (grown_of_below b2 none) (by simp)
  have oc := o2.cell
  have of := o2.frozen
  have FF : Hid (Blk (w2.setCell ⟨ob, 0, none⟩ (.string ⟨(fL b r).toArray⟩)) q #[.slice (some ⟨g, 0, none⟩) l.length cap, .nilIface] 71 ∧ Boxed (w2.setCell ⟨ob, 0, none⟩ (.string ⟨(fL b r).toArray⟩)) ob 9 (.string ⟨(fL b r).toArray⟩) ∧ W.grownBy (w2.setCell ⟨ob, 0, none⟩ (.string ⟨(fL b r).toArray⟩)) (some ob)) :=
    ⟨q2.kept (grownBy_setCellB w2 ob 0 _) (by simpa using hobq), o2.set _, grownBy_t (grown_of_below b2 _) (grownBy_setCellB w2 ob 0 _)⟩
  clear SK q2 o2 hq hob b2
  go_wp2_with fail
  go_ret
  exact ⟨rfl, FF.out⟩
set_option maxRecDepth 100000 in
set_option maxHeartbeats 8000000 in
theorem Read_any (l : List ObjD) (hl : FitsS l) (v : Value) (n : List UInt8) (k m : Int) (ea : Addr) (w : World) (hge : w.cell? ⟨0, 0, none⟩ = some (errV8 ea)) (het : ErrT w) (hv : ObjsV w v l) :
    Calls Tryz.prog 16 #[v, .string ⟨n.toArray⟩, .int .i64 k, .int .i64 m] w fun e w' => e = .returned (.tuple #[.string ⟨(readS l n k m).toArray⟩, .int .i64 (readE l n k m)]) ∧ Below w.heap.size w w' := by
  have hmf : ∀ (fn : Fn) (first cap : Array Value) (w : World), (Instr.makeFunc fn first cap).run Tryz.prog w = .ok (.func fn first cap) w := fun _ _ _ _ => rfl
  obtain ⟨E, hE⟩ : ∃ E, readE l n k m = E := ⟨_, rfl⟩
  have hdS : Hid (readS l n k m = if E = 0 then freadL (objS l n).data k m else []) := by show _ = _; rw [← hE]; rfl
  have hEH := Lib.hid hE
  rw [hE]
  clear hE
  generalize readS l n k m = S at *
  have o0 := Boxed.new w 3 (.int .i64 k)
  have p0 := Boxed.new (w.alloc (.cells #[.int .i64 k] 3)) 3 (.int .i64 m)
  rw [World.size_alloc] at p0
  have o1 := o0.alloc (.cells #[.int .i64 m] 3)
  have B0 : Below w.heap.size w ((w.alloc (.cells #[.int .i64 k] 3)).alloc (.cells #[.int .i64 m] 3)) := ((Below.refl _ w).alloc (Nat.le_refl _) _).alloc (by simp) _
  obtain ⟨av, cv, rfl, -⟩ := hv.at
  have HO := open_any l hl (.slice av l.length cv) ea _ ((KeepC.of_below B0).2 _ _ _ hge) (hv.keep (KeepC.of_below B0))
  have HX := Lib.hid (fun W (h : KeepC w W) q v ev c hev hvs hq => end_any q v ev c hev hvs W (h.2 _ _ _ het) hq)
  have hz0 : ((w.alloc (.cells #[.int .i64 k] 3)).alloc (.cells #[.int .i64 m] 3)).heap.size = w.heap.size + 1 + 1 := by simp
  have hetH := Lib.hid het
  clear hge het
  go_enter Tryz.func16, Tryz.ntmps16
  go_wp2_with fail
  with_reducible refine HO.mono ?_
  rintro e w1 ⟨q, v1, rfl, hqw, q1, o1', B1⟩
  clear HO
  go_wp2_with fail
  generalize hW0 : (w.alloc (.cells #[.int .i64 k] 3)).alloc (.cells #[.int .i64 m] 3) = W0 at *
  clear hW0 o0
  have e2 := (Boxed.new w1 62 (.pointer (some ⟨q, 0, none⟩))).alloc (.cells #[.string ⟨#[]⟩] 9)
  have ob2 := Boxed.new (w1.alloc (.cells #[.pointer (some ⟨q, 0, none⟩)] 62)) 9 (.string ⟨#[]⟩)
  rw [World.size_alloc] at ob2
  have A2 := (Below.alloc (Below.refl w1.heap.size w1) (Nat.le_refl _) (.cells #[.pointer (some ⟨q, 0, none⟩)] 62)).alloc (by simp) (.cells #[.string ⟨#[]⟩] 9)
  have B1w := B0.trans (B1.mono B0.size)
  have b2 := B1w.trans (A2.mono B1w.size)
  have q2 := q1.below A2 q1.lt
  have o2 := (o1'.kept (grown_of_below A2 none) (RowT.none _ _)).base (by rw [hz0]; omega : w.heap.size ≤ W0.heap.size)
  have p2 : Boxed ((w1.alloc (.cells #[.pointer (some ⟨q, 0, none⟩)] 62)).alloc (.cells #[.string ⟨#[]⟩] 9)) (w.heap.size + 1) 3 (.int .i64 m) := ((show Boxed w1 _ 3 (.int .i64 m) from (B1.block _ (by omega)).trans p0).alloc _).alloc _
  have i2 : Boxed ((w1.alloc (.cells #[.pointer (some ⟨q, 0, none⟩)] 62)).alloc (.cells #[.string ⟨#[]⟩] 9)) w.heap.size 3 (.int .i64 k) := ((show Boxed w1 _ 3 (.int .i64 k) from (B1.block _ (by omega)).trans o1).alloc _).alloc _
  have hqw2 : w.heap.size ≤ q := by omega
  have hew : w.heap.size ≤ w1.heap.size := by have := B1.size; omega
  clear q1 o1' A2 o1 p0 B0 B1 hqw hz0 B1w
  generalize heb : w1.heap.size = eb at *
  clear heb
  generalize (w1.alloc (.cells #[.pointer (some ⟨q, 0, none⟩)] 62)).alloc (.cells #[.string ⟨#[]⟩] 9) = W2 at *
  obtain ⟨av1, cv1, rfl, -⟩ := o2.view.at
  by_cases hed : editE l n 1 = 0
  · have hEW : E = fE (freadB (objS l n).data k m) := hEH.out.symm.trans (readE_ok hed)
    obtain ⟨hsp, hi, -⟩ := edit_zero.1 hed
    have HDO := edit_do q _ l hl.1 n 1 (.inr (.inl rfl)) 51 #[.pointer (some ⟨eb, 0, none⟩), .pointer (some ⟨w.heap.size, 0, none⟩), .pointer (some ⟨w.heap.size + 1, 0, none⟩), .pointer (some ⟨eb + 1, 0, none⟩)]
      (fun why W' => E = why ∧ Blk W' q #[.slice av1 l.length cv1, .nilIface] 71 ∧ Boxed W' (eb + 1) 9 (.string ⟨(fL (freadB (objS l n).data k m) (freadL (objS l n).data k m)).toArray⟩) ∧ W2.grownBy W' (some (eb + 1)))
      W2 q2 o2.view hed (enters_of Tryz.func51 (by kernel_rfl) rfl) (fun W hW => by
        have hKW := KeepC.of_below hW
        have q3 : Blk W q #[.slice av1 l.length cv1, .nilIface] 71 := by
          have := q2.below hW q2.lt
          rw [hsp] at this
          simpa using this
        have := read1_any q eb w.heap.size (w.heap.size + 1) (eb + 1) w.heap.size l hl n hi (Nat.le_trans (edit_data hed) (by decide)) (.slice av1 l.length cv1) k m W q3 (hKW.2 _ _ _ e2.cell) (hKW.2 _ _ _ i2.cell) (hKW.2 _ _ _ p2.cell)
          ((hW.block _ (Array.getElem?_eq_some_iff.1 ob2).1).trans ob2) (o2.kept (grown_of_below hW none) (RowT.none _ _)) (((KeepC.of_below b2).trans hKW).2 _ _ _ hetH.out)
        refine this.mono fun e W' ⟨h1, h2, h3, h4⟩ => ⟨_, h1, ⟨hEW, h2, h3, grownBy_t (grown_of_below hW _) h4⟩, _, h2⟩)
    have hEcase : Hid (E = 0 → freadB (objS l n).data k m = true) := fun h => fE_zero (hEW ▸ h)
    clear hEH hEW hetH p2 i2
    with_reducible refine HDO.mono ?_
    rintro e w3 ⟨rfl, why, W', ⟨rfl, q3, o3, g3⟩, -, hw3⟩
    have e3 := e2.kept g3 (by simp)
    have b3 := b2.grown g3 b2.size (fun k e => by cases e; omega)
    clear HDO g3 o2 q2 e2 b2 ob2
    by_cases h0 : E = 0
    · subst h0
      have hb := hEcase.out rfl
      have hS : S = freadL (objS l n).data k m := hdS.out
      rw [hb] at o3
      have o3' : Boxed W' (eb + 1) 9 (.string ⟨S.toArray⟩) := by rw [hS]; exact o3
      clear hS hdS hb o3 hEcase
      rw [if_pos rfl] at hw3
      subst hw3
      have HXx := HX.out W' (KeepC.of_below b3) q _ _ 0 (.inl ⟨rfl, rfl⟩) ⟨_, _, _, rfl⟩ q3
      rw [if_pos rfl] at HXx
      have e3c := e3.cell
      have o3c := o3'.cell
      clear HX q3 e3
      go_wp2_with fail
      with_reducible refine HXx.mono ?_
      rintro e w4 ⟨rfl, b4⟩
      have o4c := (KeepC.of_below b4).2 _ _ _ o3c
      clear o3c o3' HXx e3c
      go_wp2_with fail
      go_ret2
      exact ⟨rfl, b3.trans (b4.mono b3.size)⟩
    · have hS : S = [] := by rw [hdS.out, if_neg h0]
      subst hS
      rw [if_neg h0] at hw3
      have q3' : Blk w3 q #[.slice av1 l.length cv1, withinV n E] 71 := by rw [← hw3]; simpa using q3.set 1 (withinV n E)
      have e3' : Boxed w3 eb 62 (.pointer (some ⟨q, 0, none⟩)) := by rw [← hw3]; exact e3.kept (grownBy_setCellB W' q 1 _) (by simpa using boxed_ne_blk e3 q3 (by decide))
      have b3' : Below w.heap.size w w3 := by rw [← hw3]; exact b3.setCell (p := ⟨q, 1, none⟩) hqw2 _
      have HXx := HX.out w3 (KeepC.of_below b3') q _ _ E (.inr (.inr ⟨h0, _, rfl⟩)) ⟨_, _, _, rfl⟩ q3'
      rw [if_neg h0] at HXx
      have e3c := e3'.cell
      have h0b : (E != 0) = true := by simpa using h0
      clear HX q3 e3 q3' e3' hw3 o3 b3 hdS hEcase
      go_wp2_with fail
      with_reducible refine HXx.mono ?_
      rintro e w4 ⟨rfl, b4⟩
      go_wp2_with fail
      go_ret2
      exact ⟨rfl, b3'.trans (b4.mono b3'.size)⟩
  · have hE : E = editE l n 1 := hEH.out.symm.trans (readE_no hed)
    have hS : S = [] := by rw [hdS.out, if_neg (by rw [hE]; exact hed)]
    subst hS
    have HN := edit_no q _ l hl.1 n 1 (.inr (.inl rfl)) (.func (.func 51) #[] #[.pointer (some ⟨eb, 0, none⟩), .pointer (some ⟨w.heap.size, 0, none⟩), .pointer (some ⟨w.heap.size + 1, 0, none⟩), .pointer (some ⟨eb + 1, 0, none⟩)]) W2 q2 o2.view hed
    rw [← hE] at HN
    have hE0 : E ≠ 0 := by rw [hE]; exact hed
    have h0b : (E != 0) = true := by simpa using hE0
    clear hE hed hEH hdS
    with_reducible refine HN.mono ?_
    rintro e w3 ⟨rfl, q3, g3⟩
    have e3 := (e2.kept g3 (by simpa using boxed_ne_blk e2 q2 (by decide))).cell
    have b3 := b2.grown g3 b2.size (fun k e => by cases e; exact hqw2)
    have HXx := HX.out w3 (KeepC.of_below b3) q _ _ E (.inr (.inl ⟨hE0, rfl⟩)) ⟨_, _, _, rfl⟩ q3
    rw [if_neg hE0] at HXx
    clear HN HX q3 g3 e2 p2 i2 o2 q2 b2 ob2 hetH
    go_wp2_with fail
    with_reducible refine HXx.mono ?_
    rintro e w4 ⟨rfl, b4⟩
    go_wp2_with fail
    go_ret2
    exact ⟨rfl, b3.trans (b4.mono b3.size)⟩
end Go.Proofs.YthclfkhakmcnbaaGreatDoor
