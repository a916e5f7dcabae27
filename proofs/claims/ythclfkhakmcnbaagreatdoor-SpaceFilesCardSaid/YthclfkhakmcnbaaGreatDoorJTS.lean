/- Joined: RtB; RtS; RtC; RtD -/
import Derived.Test.YthclfkhakmcnbaaGreatDoorJTR
import Derived.Test.YthclfkhakmcnbaaGreatDoorJTA
import Derived.Test.YthclfkhakmcnbaaGreatDoorJTH
/- Walks of the reference, layer 10: Drop. -/
namespace Go.Proofs.YthclfkhakmcnbaaGreatDoor
open Go.RowKit Go.Shelf
attribute [local go_sem] Oper.semAt_some
def viewP (w : World) (l : List ObjD) (x : Int) (e : Ending) (w' : World) : Prop :=
  ∃ v', e = .returned (.tuple #[v', .int .i64 x]) ∧ ObjsV w' v' l ∧ Below w.heap.size w w'
/-- a list's cells, taken apart -/
theorem objs_parts {w : World} {v : Value} {l : List ObjD} (h : ObjsV w v l) (k : Nat) (hk : k < l.length) : ∃ b o cap cs, v = .slice (some ⟨b, o, none⟩) l.length cap ∧ l.length ≤ cap ∧ Rows (ObjC w) l cs ∧ cs.length = l.length * 5 ∧ (∀ u ∈ cs, u.oneCell' = true) ∧ ∀ W, KeepC w W → ∀ j u, cs[j]? = some u → W.cell? ⟨b, o + j, none⟩ = some u := by
  obtain ⟨cs, h1, h2⟩ := h
  obtain ⟨b, o, cap, rfl, hc, hb, hcell⟩ := h1.pos (by omega)
  refine ⟨b, o, cap, cs, rfl, hc, h2, h1.1, objs_one h2, fun W hW j u hu => ?_⟩
  obtain ⟨hj, rfl⟩ := List.getElem?_eq_some_iff.1 hu
  exact hW.2 _ _ _ (hcell j hj)
theorem view_of_row {w W : World} {base : Nat} {v : Value} {l : List ObjD} {cs : List Value} {n : Nat} (h : W.ownsRow base 48 5 v n cs) (hn : n = l.length) (hr : Rows (ObjC w) l cs) (hk : KeepC w W) : ObjsV W v l := by
  subst hn
  exact ⟨cs, SlR.of_row h, hr.mono fun x _ c hc => hc.keep hk⟩
set_option maxRecDepth 100000 in
set_option maxHeartbeats 4000000 in
theorem DropR_any (l : List ObjD) (hl : FitsS l) (v : Value) (n : List UInt8) (w : World) (hv : ObjsV w v l) :
    Calls Tryz.prog 24 #[v, .string ⟨n.toArray⟩] w (viewP w (dropS l n) (dropE l n)) := by
  obtain ⟨i0, hI, hz0, hz1, hz2⟩ := info_parts infoO
  have HR := refRight_any l hl v w hv
  have HF := fun W (h : KeepC w W) => FindR_any l hl.1 v n W (hv.keep h)
  have hlm := hl.1
  obtain ⟨E, hE⟩ : ∃ E, dropE l n = E := ⟨_, rfl⟩
  obtain ⟨S, hS⟩ : ∃ S, dropS l n = S := ⟨_, rfl⟩
  have hEd : E = if spaceB l then if idxS l n < l.length then 0 else 102 else 110 := by
    rw [← hE]; unfold dropE editE
    by_cases hi : idxS l n < l.length
    · simp [hi]
    · simp [hi]
  have hSd : S = if E = 0 then l.take (idxS l n) ++ l.drop (idxS l n + 1) else [] := by rw [← hS, ← hE]; rfl
  have hfd : findS l n = if idxS l n < l.length then (idxS l n : Int) else -1 := rfl
  rw [hE, hS]
  clear hE hS
  have hEH := Lib.hid hEd
  have hSH := Lib.hid hSd
  clear hEd hSd
  cases hsp : spaceB l with
  | false =>
    rw [hsp] at HR hEH
    have hE : E = 110 := hEH.out
    subst hE
    have hS : S = [] := hSH.out
    subst hS
    obtain ⟨av, cv, rfl, -⟩ := hv.at
    clear HF hv hEH hSH hfd
    go_enter Tryz.func24, Tryz.ntmps24
    go_wp2_with fail
    with_reducible refine HR.mono ?_
    rintro e w1 ⟨rfl, b1⟩
    go_wp2_with fail
    go_ret2
    exact ⟨_, rfl, ObjsV.nil _, b1⟩
  | true =>
    rw [hsp] at HR hEH
    by_cases hi : idxS l n < l.length
    · rw [if_pos hi] at hfd
      rw [hfd] at HF
      have hE : E = 0 := by rw [hEH.out]; simp [hi]
      subst hE
      have hS : S = l.take (idxS l n) ++ l.drop (idxS l n + 1) := hSH.out
      obtain ⟨b, o, cap, cs, rfl, hcap, hrows, hcl, hone, hcell⟩ := objs_parts hv _ hi
      have hSlen : S.length = idxS l n + (l.length - (idxS l n + 1)) := by rw [hS, List.length_append, List.length_take, List.length_drop]; omega
      have r1 := hrows.take ObjC.len (idxS l n)
      have r2 := hrows.drop ObjC.len (idxS l n + 1)
      have hr12 := r1.append r2
      rw [← hS] at hr12
      clear r1 r2 hS hEH hSH hv hfd hrows
      generalize idxS l n = ix at *
      obtain ⟨o3, ho3⟩ : ∃ o3, (if cap = ix + 1 then o else o + (ix + 1) * 5) = o3 := ⟨_, rfl⟩
      have hy1 : sliced (some ⟨b, o, none⟩) 0 ix cap 5 = .slice (some ⟨b, o, none⟩) ix cap := by simp [sliced, Addr.add]
      have hy3 : sliced (some ⟨b, o, none⟩) (ix + 1) l.length cap 5 = .slice (some ⟨b, o3, none⟩) (l.length - (ix + 1)) (cap - (ix + 1)) := by
        rw [← ho3]
        simp only [sliced]
        split
        · simp
        · simp [Addr.add_lit]
      have HY1 := Lib.hid hy1
      have HY3 := Lib.hid hy3
      have hge : (0 : Int) ≤ (ix : Int) := by omega
      have hicap : (ix : Int) ≤ (cap : Int) := by omega
      have hltz : (ix : Int) + 1 ≤ (l.length : Int) := by omega
      have hcz : (l.length : Int) ≤ (cap : Int) := by omega
      have hi10 : (0 : Int) ≤ (ix : Int) + 1 := by omega
      have hi3 : ((ix : Int) + 1).toNat = ix + 1 := by omega
      have hw1 : IntKind.i64.wrap ((ix : Int) + 1) = (ix : Int) + 1 := IntWalk.i64_in _ (by omega)
      obtain ⟨c1, hc1⟩ : ∃ c1, cs.take (ix * 5) = c1 := ⟨_, rfl⟩
      obtain ⟨c2, hc2⟩ : ∃ c2, cs.drop ((ix + 1) * 5) = c2 := ⟨_, rfl⟩
      rw [hc1, hc2] at hr12
      have l1 : c1.length = ix * 5 := by rw [← hc1, List.length_take, hcl]; omega
      have l2 : c2.length = (l.length - (ix + 1)) * 5 := by rw [← hc2, List.length_drop, hcl, Nat.sub_mul]
      have k1 : Hid (∀ W, KeepC w W → ∀ j u, c1[j]? = some u → W.cell? ((⟨b, o, none⟩ : Addr).add j) = some u) := by
        show ∀ W, _
        intro W hW j u hu
        rw [Addr.add_lit]
        obtain ⟨hj, -⟩ := List.getElem?_eq_some_iff.1 hu
        rw [← hc1, List.getElem?_take, if_pos (by omega)] at hu
        exact hcell W hW j u hu
      have k2 : Hid (∀ W, KeepC w W → ∀ j u, c2[j]? = some u → W.cell? ((⟨b, o3, none⟩ : Addr).add j) = some u) := by
        show ∀ W, _
        intro W hW j u hu
        obtain ⟨hj, -⟩ := List.getElem?_eq_some_iff.1 hu
        rw [Addr.add_lit, ← ho3, if_neg (by omega)]
        rw [← hc2, List.getElem?_drop] at hu
        have := hcell W hW _ u hu
        rw [Nat.add_assoc]; exact this
      have one1 : Hid (∀ u ∈ c1, u.oneCell' = true) := fun u hu => hone u (by rw [← hc1] at hu; exact List.mem_of_mem_take hu)
      have one2 : Hid (∀ u ∈ c2, u.oneCell' = true) := fun u hu => hone u (by rw [← hc2] at hu; exact List.mem_of_mem_drop hu)
      have hrH := Lib.hid hr12
      clear hy1 hy3 hcell hone hc1 hc2 hcl ho3 hr12
      go_enter Tryz.func24, Tryz.ntmps24
      go_wp2_with fail
      with_reducible refine HR.mono ?_
      rintro e w1 ⟨rfl, b1⟩
      go_wp2_with fail
      with_reducible refine (HF _ (KeepC.of_below b1)).mono ?_
      rintro e w2 ⟨rfl, rfl⟩
      have K1 := KeepC.of_below b1
      have Kd : KeepC w w1.drew := K1.trans (KeepC.of_below (Below.refl w1.heap.size w1).drew)
      clear HR HF
      go_wp2_with fail
      refine wp_region_noPanic ?_
      refine wp_region_held_drew (S := (fun _ => True)) (by kernel_rfl) ?_ (fun hHeld => ?_)
      · exact trivial
      refine wpAnyH_take (i := 0) (oi := _) (v := ?_) (nth_at rfl) (by kernel_rfl) (by kernel_rfl) (by kernel_rfl) (fun _ _ _ h => h) (Or.inl ⟨by rfl, ?_⟩) (by assumption) ?_
      rotate_left 1
      · intro w hSw; (try dsimp only at hSw); (go_simp <;> with_reducible rfl)
      try simp only [Act.put, List.setIfInBounds_toArray, List.set_cons_zero, List.set_cons_succ]
      refine wpAnyH_take (i := 1) (oi := _) (v := ?_) (nth_at rfl) (by kernel_rfl) (by kernel_rfl) (by kernel_rfl) (fun _ _ _ h => h) (Or.inl ⟨by rfl, ?_⟩) (by assumption) ?_
      rotate_left 1
      · intro w hSw; (try dsimp only at hSw); (go_simp <;> with_reducible rfl)
      try simp only [Act.put, List.setIfInBounds_toArray, List.set_cons_zero, List.set_cons_succ]
      refine wpAnyH_take (i := 2) (oi := _) (v := ?_) (nth_at rfl) (by kernel_rfl) (by kernel_rfl) (by kernel_rfl) (fun _ _ _ h => h) (Or.inl ⟨by rfl, ?_⟩) (by assumption) ?_
      rotate_left 1
      · intro w hSw; (try dsimp only at hSw); (go_simp <;> with_reducible rfl)
      try simp only [Act.put, List.setIfInBounds_toArray, List.set_cons_zero, List.set_cons_succ]
      refine wpAnyH_take (i := 3) (oi := _) (v := .slice (some ⟨b, o, none⟩) ix cap) (nth_at rfl) (by kernel_rfl) (by kernel_rfl) (by kernel_rfl) (fun _ _ _ h => h) (Or.inl ⟨by rfl, ?_⟩) (by assumption) ?_
      · intro w hSw; (try dsimp only at hSw); (go_simp <;> (have h := HY1.out; simp [sliced] at h ⊢; first | done | exact h))
      try simp only [Act.put, List.setIfInBounds_toArray, List.set_cons_zero, List.set_cons_succ]
      refine wpAnyH_take (i := 5) (oi := _) (v := ?_) (nth_at rfl) (by kernel_rfl) (by kernel_rfl) (by kernel_rfl) (fun _ _ _ h => h) (Or.inl ⟨by rfl, ?_⟩) (by assumption) ?_
      rotate_left 1
      · intro w hSw; (try dsimp only at hSw); (go_simp <;> with_reducible rfl)
      try simp only [Act.put, List.setIfInBounds_toArray, List.set_cons_zero, List.set_cons_succ]
      refine wpAnyH_take (i := 6) (oi := _) (v := ?_) (nth_at rfl) (by kernel_rfl) (by kernel_rfl) (by kernel_rfl) (fun _ _ _ h => h) (Or.inl ⟨by rfl, ?_⟩) (by assumption) ?_
      rotate_left 1
      · intro w hSw; (try dsimp only at hSw); (go_simp <;> with_reducible rfl)
      try simp only [Act.put, List.setIfInBounds_toArray, List.set_cons_zero, List.set_cons_succ]
      refine wpAnyH_take (i := 7) (oi := _) (v := ?_) (nth_at rfl) (by kernel_rfl) (by kernel_rfl) (by kernel_rfl) (fun _ _ _ h => h) (Or.inl ⟨by rfl, ?_⟩) (by assumption) ?_
      rotate_left 1
      · intro w hSw; (try dsimp only at hSw); (go_simp <;> with_reducible rfl)
      try simp only [Act.put, List.setIfInBounds_toArray, List.set_cons_zero, List.set_cons_succ]
      refine wpAnyH_take (i := 8) (oi := _) (v := .slice (some ⟨b, o3, none⟩) (l.length - (ix + 1)) (cap - (ix + 1))) (nth_at rfl) (by kernel_rfl) (by kernel_rfl) (by kernel_rfl) (fun _ _ _ h => h) (Or.inl ⟨by rfl, ?_⟩) (by assumption) ?_
      · intro w hSw; (try dsimp only at hSw); (go_simp <;> (have h := HY3.out; simp [sliced, hi3, Addr.add_lit] at h ⊢; exact h))
      try simp only [Act.put, List.setIfInBounds_toArray, List.set_cons_zero, List.set_cons_succ]
      refine wpAnyH_ready (rs := [4]) (by kernel_rfl) (by simp) ?_
      refine AllReadyH.cons (o := _) (nth_at rfl) (fun K hK => ?_) AllReadyH.nil
      rw [if_pos (by rfl)]
      refine wp_append_own w1.drew _ _ 22 rfl w.heap.size 48 i0 (.agg #[.string ⟨#[]⟩, .int .i64 0, .string ⟨#[]⟩, .int .i64 0, .slice none 0 0]) 5 72 Tryz.underlying22 hI hz0 hz1 hz2 rfl (by decide) (.slice none 0 0) 0 [] rfl (World.ownsRow_nil _ _ _ _) ⟨b, o, none⟩ ix cap c1 rfl l1 (k1.out _ Kd) one1.out (by unfold maxLen; omega) (by omega) b1.size ?_
      intro v4 w4 h4 g4 _
      rw [Nat.zero_add, List.nil_append] at h4
      have B4 : Below w.heap.size w w4 := b1.drew.grown g4 b1.size (fun k e => by simp [Value.ownBlock] at e)
      obtain ⟨a4, cp4, rfl, -⟩ := row_form h4
      refine hK.out _ _ ?_ (fun hHeld => ?_)
      · exact trivial
      clear hK K
      try simp only [Act.put, List.setIfInBounds_toArray, List.set_cons_zero, List.set_cons_succ]
      refine wpAnyH_ready (rs := [9]) (by kernel_rfl) (by simp) ?_
      refine AllReadyH.cons (o := _) (nth_at rfl) (fun K hK => ?_) AllReadyH.nil
      rw [if_pos (by rfl)]
      refine wp_append_own w4 _ _ 22 rfl w.heap.size 48 i0 (.agg #[.string ⟨#[]⟩, .int .i64 0, .string ⟨#[]⟩, .int .i64 0, .slice none 0 0]) 5 72 Tryz.underlying22 hI hz0 hz1 hz2 rfl (by decide) _ _ _ rfl h4 ⟨b, o3, none⟩ (l.length - (ix + 1)) (cap - (ix + 1)) c2 rfl l2 (k2.out _ (KeepC.of_below B4)) one2.out (by unfold maxLen; omega) (by omega) B4.size ?_
      intro v5 w5 h5 g5 _
      have B5 : Below w.heap.size w w5 := B4.grown g5 B4.size (fun k e => (h4.lt k e).1)
      obtain ⟨a5, cp5, rfl, -⟩ := row_form h5
      refine hK.out _ _ ?_ (fun hHeld => ?_)
      · exact trivial
      clear hK K
      try simp only [Act.put, List.setIfInBounds_toArray, List.set_cons_zero, List.set_cons_succ]
      refine wpAnyH_take (i := 10) (oi := _) (v := ?_) (nth_at rfl) (by kernel_rfl) (by kernel_rfl) (by kernel_rfl) (fun _ _ _ h => h) (Or.inl ⟨by rfl, ?_⟩) (by assumption) ?_
      rotate_left 1
      · intro w hSw; (try dsimp only at hSw); (go_simp <;> with_reducible rfl)
      try simp only [Act.put, List.setIfInBounds_toArray, List.set_cons_zero, List.set_cons_succ]
      refine wpAnyH_take (i := 11) (oi := _) (v := ?_) (nth_at rfl) (by kernel_rfl) (by kernel_rfl) (by kernel_rfl) (fun _ _ _ h => h) (Or.inl ⟨by rfl, ?_⟩) (by assumption) ?_
      rotate_left 1
      · intro w hSw; (try dsimp only at hSw); (go_simp <;> with_reducible rfl)
      try simp only [Act.put, List.setIfInBounds_toArray, List.set_cons_zero, List.set_cons_succ]
      refine wpAnyH_done (by kernel_rfl) ?_ _
      refine NoPanic.normal ?_
      go_wp2_with fail
      go_ret2
      exact ⟨_, rfl, view_of_row h5 hSlen.symm hrH.out (KeepC.of_below B5), B5⟩
    · rw [if_neg hi] at hfd
      rw [hfd] at HF
      have hE : E = 102 := by rw [hEH.out]; simp [hi]
      subst hE
      have hS : S = [] := hSH.out
      subst hS
      obtain ⟨av, cv, rfl, -⟩ := hv.at
      clear hv hEH hSH hfd
      go_enter Tryz.func24, Tryz.ntmps24
      go_wp2_with fail
      with_reducible refine HR.mono ?_
      rintro e w1 ⟨rfl, b1⟩
      go_wp2_with fail
      with_reducible refine (HF _ (KeepC.of_below b1)).mono ?_
      rintro e w2 ⟨rfl, rfl⟩
      go_wp2_with fail
      go_ret2
      exact ⟨_, rfl, ObjsV.nil _, b1⟩
end Go.Proofs.YthclfkhakmcnbaaGreatDoor
/- Sources of appends: a part of a list that may be nil. -/
namespace Go.Proofs.YthclfkhakmcnbaaGreatDoor
open Go.RowKit Go.Shelf
theorem blk_srcs {W : World} {b : Nat} {cs : Array Value} {t : TypeId} (h : Blk W b cs t) : ∀ j u, cs.toList[j]? = some u → W.cell? ((⟨b, 0, none⟩ : Addr).add j) = some u := fun j u hu => by
  rw [Addr.add_lit, Nat.zero_add, h.cell, ← Array.getElem?_toList]; exact hu
theorem run_append_no {P : Program} {w : World} {base size : Nat} (t ty e : TypeId) (i : TypeInfo) (ht : P.underlying t = some (.slice e)) (hi : P.info? e = some i)
    (v : Value) (n : Nat) (xs : List Value) (hown : w.ownsRow base e size v n xs) (c : Nat) :
    (Builtin.append_ #[t, t] ty #[v, .slice none 0 c]).run P w = .ok v w := by
  rcases hown.2 with ⟨rfl, rfl⟩ | ⟨g, cap, cur, rfl, _, _, hnc, _⟩
  · simp [Builtin.append_, run_underlying ht, sizeOf, typeInfo, hi, Builtin.lenOf, Builtin.firstCells]
  · simp [Builtin.append_, run_underlying ht, sizeOf, typeInfo, hi, Builtin.lenOf, Builtin.firstCells, hnc, storeCells]
theorem wp_append_src {P : Program} {w : World} {o : Oper} {a : Act} {K : Act → World → Prop} {Q : Exit → Act → World → Prop} (s x : Operand) (t : TypeId)
    (ho : o.op = .call { callee := .builtin .append, args := #[s, x], argTypes := #[t, t] })
    (base : Nat) (e : TypeId) (i : TypeInfo) (z : Value) (size bytes : Nat) (ht : P.underlying t = some (.slice e)) (hi : P.info? e = some i) (hz : i.zero = some z)
    (hsize : i.size = size) (hby : i.bytes = bytes) (hzs : z.cells.size = size) (hsz : 0 < size)
    (v : Value) (n : Nat) (xs : List Value) (hs : a.eval s = v) (hown : w.ownsRow base e size v n xs)
    (ao : Option Addr) (m c : Nat) (news : List Value) (hx : a.eval x = .slice ao m c) (hno : ao = none → m = 0) (hl : news.length = m * size) (hnews : ∀ ad, ao = some ad → ∀ j u, news[j]? = some u → w.cell? (ad.add j) = some u) (h1 : ∀ u ∈ news, u.oneCell' = true)
    (h63 : n + m ≤ maxLen) (hbytes : (n + m) * bytes ≤ 140737488355328) (hbase : base ≤ w.heap.size)
    (h : ∀ v' w', w'.ownsRow base e size v' (n + m) (xs ++ news) → w.grownBy w' v.ownBlock → K (a.put o.dst v') w') : o.wp P a w K Q := by
  cases ao with
  | some ad => exact wp_append_own w s x t ho base e i z size bytes ht hi hz hsize hby hzs hsz v n xs hs hown ad m c news hx hl (hnews ad rfl) h1 h63 hbytes hbase fun v' w' h2 h3 _ => h v' w' h2 h3
  | none =>
    obtain rfl := hno rfl
    obtain rfl : news = [] := by rw [Nat.zero_mul] at hl; exact List.eq_nil_of_length_eq_zero hl
    refine Lib.wp_append_run w s x t t ho v (.slice none 0 c) hs hx v w (run_append_no t _ e i ht hi v n xs hown c) (h v w (by simpa using hown) (World.grownBy.refl _ _))
theorem objs_src {w : World} {v : Value} {l : List ObjD} (h : ObjsV w v l) (k : Nat) (hk : k ≤ l.length) : ∃ ao cap cs, v = .slice ao l.length cap ∧ l.length ≤ cap ∧ Rows (ObjC w) l cs ∧ cs.length = l.length * 5 ∧ (∀ u ∈ cs, u.oneCell' = true) ∧
    (∃ a1 c1, sliced ao 0 k cap 5 = .slice a1 k c1 ∧ (a1 = none → k = 0) ∧ ∀ W, KeepC w W → ∀ ad, a1 = some ad → ∀ j u, (cs.take (k * 5))[j]? = some u → W.cell? (ad.add j) = some u) ∧
    (∃ a2 c2, sliced ao k l.length cap 5 = .slice a2 (l.length - k) c2 ∧ (a2 = none → l.length - k = 0) ∧ ∀ W, KeepC w W → ∀ ad, a2 = some ad → ∀ j u, (cs.drop (k * 5))[j]? = some u → W.cell? (ad.add j) = some u) := by
  obtain ⟨cs, h1, h2⟩ := h
  have hone := objs_one h2
  rcases Nat.eq_zero_or_pos l.length with h0 | h0
  · obtain ⟨hl, ao, cap, rfl, hc, -⟩ := h1
    have hk0 : k = 0 := by omega
    have hcs : cs = [] := List.eq_nil_of_length_eq_zero (by rw [hl, h0])
    subst hk0 hcs
    exact ⟨ao, cap, [], rfl, hc, h2, hl, hone, ⟨_, _, rfl, fun _ => rfl, fun W _ ad _ j u hu => by simp at hu⟩, ⟨_, _, rfl, fun _ => by omega, fun W _ ad _ j u hu => by simp at hu⟩⟩
  · obtain ⟨b, o, cap, rfl, hc, hb, hcell⟩ := h1.pos h0
    have hl := h1.1
    have hcw : ∀ W, KeepC w W → ∀ j u, cs[j]? = some u → W.cell? ⟨b, o + j, none⟩ = some u := fun W hW j u hu => by
      obtain ⟨hj, rfl⟩ := List.getElem?_eq_some_iff.1 hu
      exact hW.2 _ _ _ (hcell j hj)
    refine ⟨_, cap, cs, rfl, hc, h2, hl, hone, ⟨some ⟨b, o, none⟩, cap, by simp [sliced, Addr.add], by simp, fun W hW ad hd j u hu => ?_⟩, ?_⟩
    · cases hd
      rw [Addr.add_lit]
      obtain ⟨hj, -⟩ := List.getElem?_eq_some_iff.1 hu
      rw [List.length_take] at hj
      rw [List.getElem?_take, if_pos (by omega)] at hu
      exact hcw W hW j u hu
    · refine ⟨some ⟨b, if cap = k then o else o + k * 5, none⟩, cap - k, by simp only [sliced]; split <;> simp [Addr.add_lit], by simp, fun W hW ad hd j u hu => ?_⟩
      cases hd
      obtain ⟨hj, -⟩ := List.getElem?_eq_some_iff.1 hu
      rw [List.length_drop] at hj
      rw [Addr.add_lit, if_neg (by omega)]
      rw [List.getElem?_drop] at hu
      have := hcw W hW _ u hu
      rw [Nat.add_assoc]; exact this
end Go.Proofs.YthclfkhakmcnbaaGreatDoor
/- Walks of the reference, layer 10: Make. -/
namespace Go.Proofs.YthclfkhakmcnbaaGreatDoor
open Go.RowKit Go.Shelf
attribute [local go_sem] Oper.semAt_some undef
set_option maxRecDepth 100000 in
set_option maxHeartbeats 2000000 in
theorem newR_any (m : Int) (w : World) :
    Calls Tryz.prog 66 #[.int .i64 m] w fun e w' => e = .returned (.tuple #[.agg #[.int .i64 (if maxB m then m else 0), .slice none 0 0], .int .i64 (if maxB m then 0 else 2)]) ∧ Below w.heap.size w w' := by
  have hB := (Below.refl _ w).alloc (Nat.le_refl _) (.cells #[.int .i64 0, .slice none 0 0] 46)
  by_cases h0 : m < 0
  · have hb : maxB m = false := by unfold maxB; simp; omega
    rw [hb]
    go_enter Tryz.func66, Tryz.ntmps66
    go_wp2_with fail
    exact bodyPost_ret (v := .tuple #[.agg #[.int .i64 0, .slice none 0 0], .int .i64 2]) (by simp [results, Tryz.results66, go_sem]) rfl ⟨rfl, (Below.refl _ w).alloc (Nat.le_refl _) _⟩
  · by_cases h1 : 2000 < m
    · have hb : maxB m = false := by unfold maxB; simp; omega
      rw [hb]
      go_enter Tryz.func66, Tryz.ntmps66
      go_wp2_with fail
      exact bodyPost_ret (v := .tuple #[.agg #[.int .i64 0, .slice none 0 0], .int .i64 2]) (by simp [results, Tryz.results66, go_sem]) rfl ⟨rfl, (Below.refl _ w).alloc (Nat.le_refl _) _⟩
    · have hb : maxB m = true := by unfold maxB; simp; omega
      rw [hb]
      go_enter Tryz.func66, Tryz.ntmps66
      go_wp2_with fail
      exact bodyPost_ret (v := .tuple #[.agg #[.int .i64 m, .slice none 0 0], .int .i64 0]) (by simp [results, Tryz.results66, go_sem]) rfl ⟨rfl, (Below.refl _ w).alloc (Nat.le_refl _) _⟩
theorem makeE_cases (l : List ObjD) (q : Int) (n : List UInt8) (k m : Int) : makeE l q n k m = if spaceB l then if nameB n then if (k == 1 || k == 2) then if idxS l n < l.length then 101 else if maxB m && (k == 2 || m == 0) then
    if decide (l.length + 1 ≤ 20) && decide (costL (insS l (mkO n k m)) ≤ q) then 0 else 104 else 2 else 103 else 100 else 110 := by
  unfold makeE hasS
  by_cases h : idxS l n < l.length <;> simp [h]
set_option maxRecDepth 100000 in
set_option maxHeartbeats 8000000 in
theorem makeR_in (l : List ObjD) (hl : FitsS l) (v : Value) (qu : Int) (n : List UInt8) (hn : n.length ≤ maxLen) (k m : Int) (w : World) (hv : ObjsV w v l)
    (hsp : spaceB l = true) (hnb : nameB n = true) (hk12 : k = 1 ∨ k = 2) (hi : ¬ idxS l n < l.length) (hx : maxB m = true) (hkm : k = 2 ∨ m = 0) :
    Calls Tryz.prog 22 #[v, .int .i64 qu, .string ⟨n.toArray⟩, .int .i64 k, .int .i64 m] w (viewP w (if decide (l.length + 1 ≤ 20) && decide (costL (insS l (mkO n k m)) ≤ qu) then insS l (mkO n k m) else []) (if decide (l.length + 1 ≤ 20) && decide (costL (insS l (mkO n k m)) ≤ qu) then 0 else 104)) := by
  obtain ⟨i0, hI, hz0, hz1, hz2⟩ := info_parts infoO
  have HR := refRight_any l hl v w hv
  rw [hsp] at HR
  have HN := fun W => isNameR_below n hn W
  rw [hnb] at HN
  have HF := fun W (h : KeepC w W) => FindR_any l hl.1 v n W (hv.keep h)
  rw [find_no hi] at HF
  have HM := fun W => newR_any m W
  rw [hx] at HM
  simp only [if_true] at HM
  have hlm := hl.1
  have hkmb : Hid ((k == 1 && m != 0) = false) := by
    show _ = _
    rcases hkm with rfl | rfl <;> simp
  have hg5 : Hid ((k != 1 && k != 2) = false) := by show _ = _; rcases hk12 with rfl | rfl <;> rfl
  have hsrt := Lib.hid (fun i (hi : i < l.length) => pos_at n (space_iff.1 hsp).1 i hi)
  have hple := pos_le l n
  have hnc : ¬ hasS l n = true := by unfold hasS; simpa using hi
  have hcost : ∀ S, S = insS l (mkO n k m) → l.length + 1 ≤ 20 → FitsS S := fun S hS h20 => by
    subst hS
    refine ⟨by rw [ins_len]; omega, fun x hx => ?_⟩
    rcases ins_mem.1 hx with rfl | hx
    · exact ⟨hn, by simp [mkO], by simp [mkO], fun s hs => by simp [mkO] at hs⟩
    · exact hl.2 x hx
  have hcS := fun S hS h20 => refCost_any S (hcost S hS h20)
  obtain ⟨ao, cap, cs, rfl, hcap, hrows, hcl, hone, ⟨a1, c1, hy1, hn1, hk1⟩, ⟨a2, c2, hy2, hn2, hk2⟩⟩ := objs_src hv (posS l n) hple
  obtain ⟨av, cv, hvv, hc⟩ := hv.at
  cases hvv
  have r1 := hrows.take ObjC.len (posS l n)
  have r2 := hrows.drop ObjC.len (posS l n)
  have r0 : Rows (ObjC w) [mkO n k m] [.string ⟨n.toArray⟩, .int .i64 k, .string ⟨#[]⟩, .int .i64 m, .slice none 0 0] := Rows.one ⟨_, rfl, SlR.nil _ _⟩
  have hr := (r1.append (r0.append r2))
  have hSl := ins_len l (mkO n k m)
  change Rows (ObjC w) (insS l (mkO n k m)) _ at hr
  clear r1 r2 r0 hrows hv hl hnc hcost
  obtain ⟨S, hS⟩ : ∃ S, insS l (mkO n k m) = S := ⟨_, rfl⟩
  rw [hS] at hr hSl ⊢
  have hspc : Hid (l.length + 1 ≤ 20 → spaceB S = true) := by
    subst hS
    exact fun h6 => ins_space hsp (mk_obj hnb (by rcases hk12 with rfl | rfl <;> rfl) (by rcases hkm with rfl | rfl <;> simp [hx])) (by unfold hasS; exact decide_eq_false hi) h6
  have hcT := Lib.hid (fun h => hcS S hS.symm h)
  clear hcS
  generalize posS l n = ix at *
  obtain ⟨d1, hd1⟩ : ∃ d1, cs.take (ix * 5) = d1 := ⟨_, rfl⟩
  obtain ⟨d2, hd2⟩ : ∃ d2, cs.drop (ix * 5) = d2 := ⟨_, rfl⟩
  have l1 : d1.length = ix * 5 := by rw [← hd1, List.length_take, hcl]; omega
  have l2 : d2.length = (l.length - ix) * 5 := by rw [← hd2, List.length_drop, hcl, Nat.sub_mul]
  have one1 : Hid (∀ u ∈ d1, u.oneCell' = true) := fun u hu => hone u (by rw [← hd1] at hu; exact List.mem_of_mem_take hu)
  have one2 : Hid (∀ u ∈ d2, u.oneCell' = true) := fun u hu => hone u (by rw [← hd2] at hu; exact List.mem_of_mem_drop hu)
  have oneO : Hid (∀ u ∈ ([.string ⟨n.toArray⟩, .int .i64 k, .string ⟨#[]⟩, .int .i64 m, .slice none 0 0] : List Value), u.oneCell' = true) := fun u hu => by
    simp only [List.mem_cons, List.mem_nil_iff, or_false] at hu
    rcases hu with rfl | rfl | rfl | rfl | rfl <;> rfl
  rw [hd1] at hk1 hr
  rw [hd2] at hk2 hr
  have k1 := Lib.hid hk1
  have k2 := Lib.hid hk2
  have n1 := Lib.hid hn1
  have n2 := Lib.hid hn2
  have HY1 := Lib.hid hy1
  have HY2 := Lib.hid hy2
  have hrH := Lib.hid hr
  have hcH := Lib.hid hc
  clear hsp hnb hi hx hkm hk1 hk2 hn1 hn2 hy1 hy2 hr hone hd1 hd2 hcl hS hc
  have hl9 : Hid (ix + 1 + (l.length - ix) = S.length) := by show _ = _; omega
  have hSH := Lib.hid hSl
  clear hSl
  have hge : (0 : Int) ≤ (ix : Int) := by omega
  have hicap : (ix : Int) ≤ (cap : Int) := by omega
  have hltz : (ix : Int) ≤ (l.length : Int) := by omega
  have hcz : (l.length : Int) ≤ (cap : Int) := by omega
  have hkA : Hid ((k != 1) = false ∧ (k == 1) = true ∧ (m != 0) = false ∨ (k != 1) = true ∧ (k != 2) = false ∧ (k == 1) = false) := by
    show _ ∨ _
    rcases hk12 with rfl | rfl
    · exact .inl ⟨rfl, rfl, by have := hkmb.out; simpa using this⟩
    · exact .inr ⟨rfl, rfl, rfl⟩
  clear hg5 hkmb hk12
  obtain ⟨E, hE⟩ : ∃ E, (if decide (l.length + 1 ≤ 20) && decide (costL S ≤ qu) then 0 else 104 : Int) = E := ⟨_, rfl⟩
  obtain ⟨R, hR⟩ : ∃ R, (if decide (l.length + 1 ≤ 20) && decide (costL S ≤ qu) then S else []) = R := ⟨_, rfl⟩
  rw [hE, hR]
  have hEH := Lib.hid hE
  have hRH := Lib.hid hR
  clear hE hR
  rcases hkA.out with ⟨g1, g2, g3⟩ | ⟨g1, g2, g3⟩
  all_goals
    clear hkA
    go_enter Tryz.func22, Tryz.ntmps22
    go_wp2_with fail
    with_reducible refine HR.mono ?_
    rintro e w1 ⟨rfl, b1⟩
    go_wp2_with fail
    with_reducible refine (HN _).mono ?_
    rintro e w2 ⟨rfl, b2⟩
    have B2 := b1.trans (b2.mono b1.size)
    go_wp2_with fail
    with_reducible refine (HF _ (KeepC.of_below B2)).mono ?_
    rintro e w3 ⟨rfl, rfl⟩
    go_wp2_with fail
    with_reducible refine (HM _).mono ?_
    rintro e w4 ⟨rfl, b4⟩
    go_wp2_with fail
    obtain ⟨W5, hW5⟩ : ∃ W5, w4.alloc (.cells #[.int .i64 m, .slice none 0 0] 46) = W5 := ⟨_, rfl⟩
    rw [hW5]
    have q5 : Blk W5 w4.heap.size #[.int .i64 m, .slice none 0 0] 46 := hW5 ▸ Blk.new _ _ _
    have B4 := B2.trans (b4.mono B2.size)
    have B5 : Below w.heap.size w W5 := hW5 ▸ B4.alloc B4.size _
    clear hW5 b4 B4 B2
    generalize w4.heap.size = rb at *
    clear HR HN HF HM
    go_loopg [14] ix (fun gg s14 wr => ∃ kk : Nat, kk ≤ ix ∧ ix - kk ≤ gg ∧ s14 = .int .i64 kk ∧ W5 = wr)
    case atStart => exact ⟨0, Nat.zero_le _, by omega, rfl, rfl⟩
    case round =>
      obtain ⟨kk, hkk, hgg, rfl, rfl⟩ := hrel
      have hkz : (0 : Int) ≤ (kk : Int) := by omega
      by_cases hlt : kk < ix
      · have hltl : (kk : Int) < (l.length : Int) := by omega
        have hb : Op.bytesLess l[kk].name n = true := (hsrt.out kk (by omega)).2 hlt
        obtain ⟨b, o, lv, rfl, hbl, hlv, k0, -, -, -, -⟩ := hcH.out kk (by omega)
        replace k0 := (KeepC.of_below B5).2 _ _ _ k0
        clear hcH hlv
        generalize l[kk].name = n1 at *
        go_wp2_with fail
        go_roundg (ix - (kk + 1))
        case measure => omega
        case rel => exact ⟨kk + 1, by omega, by omega, by go_num, rfl⟩
      · have hke : kk = ix := by omega
        rw [hke]
        clear hke hkk hgg hlt hkz
        clear kk
        have Cd : Below W5.heap.size W5 W5.drew := (Below.refl _ W5).drew
        have Kd := (KeepC.of_below B5).trans (KeepC.of_below Cd)
        have s50 := q5.cell 0
        have s51 := q5.cell 1
        simp at s50 s51
        have sd0 : W5.drew.cell? ⟨rb, 0, none⟩ = some (.int .i64 m) := s50
        have sd1 : W5.drew.cell? ⟨rb, 1, none⟩ = some (.slice none 0 0) := s51
        by_cases hll : ix < l.length
        · have hlz : (ix : Int) < (l.length : Int) := by omega
          have hb : Op.bytesLess l[ix].name n = false := by
            have := hsrt.out ix hll
            cases hx : Op.bytesLess l[ix].name n with
            | false => rfl
            | true => exact absurd (this.1 hx) (by omega)
          obtain ⟨b, o, lv, rfl, hbl, hlv, k0, -, -, -, -⟩ := hcH.out ix hll
          replace k0 := (KeepC.of_below B5).2 _ _ _ k0
          clear hcH hlv hsrt
          generalize l[ix].name = nm at *
          go_wp2_with fail
          clear k0 hb hbl hll
          refine wp_region_noPanic ?_
          refine wp_region_held_drew (S := (fun W => W.cell? ⟨rb, 0, none⟩ = some (.int .i64 m) ∧ W.cell? ⟨rb, 1, none⟩ = some (.slice none 0 0))) (by kernel_rfl) ?_ (fun hHeld => ?_)
          · exact ⟨s50, s51⟩
          refine wpAnyH_take (i := 0) (oi := _) (v := ?_) (nth_at rfl) (by kernel_rfl) (by kernel_rfl) (by kernel_rfl) (fun _ _ _ h => h) (Or.inl ⟨by rfl, ?_⟩) (by assumption) ?_
          rotate_left 1
          · intro w hSw; (try dsimp only at hSw); (go_simp <;> with_reducible rfl)
          try simp only [Act.put, List.setIfInBounds_toArray, List.set_cons_zero, List.set_cons_succ]
          refine wpAnyH_take (i := 1) (oi := _) (v := ?_) (nth_at rfl) (by kernel_rfl) (by kernel_rfl) (by kernel_rfl) (fun _ _ _ h => h) (Or.inl ⟨by rfl, ?_⟩) (by assumption) ?_
          rotate_left 1
          · intro w hSw; (try dsimp only at hSw); (go_simp <;> with_reducible rfl)
          try simp only [Act.put, List.setIfInBounds_toArray, List.set_cons_zero, List.set_cons_succ]
          refine wpAnyH_take (i := 2) (oi := _) (v := ?_) (nth_at rfl) (by kernel_rfl) (by kernel_rfl) (by kernel_rfl) (fun _ _ _ h => h) (Or.inl ⟨by rfl, ?_⟩) (by assumption) ?_
          rotate_left 1
          · intro w hSw; (try dsimp only at hSw); (go_simp <;> with_reducible rfl)
          try simp only [Act.put, List.setIfInBounds_toArray, List.set_cons_zero, List.set_cons_succ]
          refine wpAnyH_take (i := 3) (oi := _) (v := .slice a1 ix c1) (nth_at rfl) (by kernel_rfl) (by kernel_rfl) (by kernel_rfl) (fun _ _ _ h => h) (Or.inl ⟨by rfl, ?_⟩) (by assumption) ?_
          · intro w hSw; (try dsimp only at hSw); (go_simp <;> (first | done | (simp only [Int.toNat_natCast, Int.toNat_zero]; exact congrArg (fun v => Result.ok v _) HY1.out) | (have h := HY1.out; simp only [sliced] at h; first | (simp [Addr.add] at h ⊢; exact h) | (simp [Addr.add_lit] at h ⊢; exact h))))
          try simp only [Act.put, List.setIfInBounds_toArray, List.set_cons_zero, List.set_cons_succ]
          refine wpAnyH_take (i := 5) (oi := _) (v := ?_) (nth_at rfl) (by kernel_rfl) (by kernel_rfl) (by kernel_rfl) (fun _ _ _ h => h) (Or.inl ⟨by rfl, ?_⟩) (by assumption) ?_
          rotate_left 1
          · intro w hSw; (try dsimp only at hSw); (go_simp <;> with_reducible rfl)
          try simp only [Act.put, List.setIfInBounds_toArray, List.set_cons_zero, List.set_cons_succ]
          refine wpAnyH_take (i := 6) (oi := _) (v := ?_) (nth_at rfl) (by kernel_rfl) (by kernel_rfl) (by kernel_rfl) (fun _ _ _ h => h) (Or.inl ⟨by rfl, ?_⟩) (by assumption) ?_
          rotate_left 1
          · intro w hSw; (try dsimp only at hSw); (go_simp <;> with_reducible rfl)
          try simp only [Act.put, List.setIfInBounds_toArray, List.set_cons_zero, List.set_cons_succ]
          refine wpAnyH_take (i := 7) (oi := _) (v := ?_) (nth_at rfl) (by kernel_rfl) (by kernel_rfl) (by kernel_rfl) (fun _ _ _ h => h) (Or.inl ⟨by rfl, ?_⟩) (by assumption) ?_
          rotate_left 1
          · intro w hSw; (try dsimp only at hSw); (go_simp <;> with_reducible rfl)
          try simp only [Act.put, List.setIfInBounds_toArray, List.set_cons_zero, List.set_cons_succ]
          refine wpAnyH_take (i := 8) (oi := _) (v := ?_) (nth_at rfl) (by kernel_rfl) (by kernel_rfl) (by kernel_rfl) (fun _ _ _ h => h) (Or.inl ⟨by rfl, ?_⟩) (by assumption) ?_
          rotate_left 1
          · intro w hSw; (try dsimp only at hSw); (go_simp <;> with_reducible rfl)
          try simp only [Act.put, List.setIfInBounds_toArray, List.set_cons_zero, List.set_cons_succ]
          refine wpAnyH_take (i := 11) (oi := _) (v := ?_) (nth_at rfl) (by kernel_rfl) (by kernel_rfl) (by kernel_rfl) (fun _ _ _ h => h) (Or.inl ⟨by rfl, ?_⟩) (by assumption) ?_
          rotate_left 1
          · intro w hSw; (try dsimp only at hSw); (go_simp <;> with_reducible rfl)
          try simp only [Act.put, List.setIfInBounds_toArray, List.set_cons_zero, List.set_cons_succ]
          refine wpAnyH_take (i := 12) (oi := _) (v := ?_) (nth_at rfl) (by kernel_rfl) (by kernel_rfl) (by kernel_rfl) (fun _ _ _ h => h) (Or.inl ⟨by rfl, ?_⟩) (by assumption) ?_
          rotate_left 1
          · intro w hSw; (try dsimp only at hSw); (go_simp <;> with_reducible rfl)
          try simp only [Act.put, List.setIfInBounds_toArray, List.set_cons_zero, List.set_cons_succ]
          refine wpAnyH_take (i := 13) (oi := _) (v := .slice a2 (l.length - ix) c2) (nth_at rfl) (by kernel_rfl) (by kernel_rfl) (by kernel_rfl) (fun _ _ _ h => h) (Or.inl ⟨by rfl, ?_⟩) (by assumption) ?_
          · intro w hSw; (try dsimp only at hSw); (go_simp <;> (first | done | (simp only [Int.toNat_natCast, Int.toNat_zero]; exact congrArg (fun v => Result.ok v _) HY2.out) | (have h := HY2.out; simp only [sliced] at h; first | (simp [Addr.add] at h ⊢; exact h) | (simp [Addr.add_lit] at h ⊢; exact h))))
          try simp only [Act.put, List.setIfInBounds_toArray, List.set_cons_zero, List.set_cons_succ]
          refine wpAnyH_ready (rs := [4, 9]) (by kernel_rfl) (by simp) ?_
          refine AllReadyH.cons (o := _) (nth_at rfl) (fun K hK => ?_) ?_
          · rw [if_pos (by rfl)]
            refine wp_append_src _ _ 22 rfl W5.heap.size 48 i0 (.agg #[.string ⟨#[]⟩, .int .i64 0, .string ⟨#[]⟩, .int .i64 0, .slice none 0 0]) 5 72 Tryz.underlying22 hI hz0 hz1 hz2 rfl (by decide) (.slice none 0 0) 0 _ rfl (World.ownsRow_nil _ _ _ _) a1 ix c1 d1 rfl n1.out l1 (k1.out _ Kd) one1.out (by unfold maxLen; omega) (by omega) (Nat.le_refl _) ?_
            intro v6 w6 h6 g6
            rw [Nat.zero_add, List.nil_append] at h6
            have C6 : Below W5.heap.size W5 w6 := Cd.grown g6 Cd.size (fun k e => by simp [Value.ownBlock] at e)
            have K6 := (KeepC.of_below B5).trans (KeepC.of_below C6)
            have s60 := (KeepC.of_below C6).2 _ _ _ s50
            have s61 := (KeepC.of_below C6).2 _ _ _ s51
            obtain ⟨a6, cp6, rfl, -⟩ := row_form h6
            refine hK.out _ _ ?_ (fun hHeld => ?_)
            · exact ⟨s60, s61⟩
            clear hK K
            try simp only [Act.put, List.setIfInBounds_toArray, List.set_cons_zero, List.set_cons_succ]
            refine wpAnyH_ready (rs := [9]) (by kernel_rfl) (by simp) ?_
            refine AllReadyH.cons (o := _) (nth_at rfl) (fun K hK => ?_) AllReadyH.nil
            go_simp
            refine hK.out _ _ ?_ (fun hHeld => ?_)
            · exact ⟨(KeepC.alloc _ _).2 _ _ _ s60, (KeepC.alloc _ _).2 _ _ _ s61⟩
            clear hK K
            try simp only [Act.put, List.setIfInBounds_toArray, List.set_cons_zero, List.set_cons_succ]
            refine wpAnyH_ready (rs := [10]) (by kernel_rfl) (by simp) ?_
            refine AllReadyH.cons (o := _) (nth_at rfl) (fun K hK => ?_) AllReadyH.nil
            rw [if_pos (by rfl)]
            obtain ⟨W7, hW7⟩ : ∃ W7, w6.alloc (.cells #[.string ⟨n.toArray⟩, .int .i64 k, .string ⟨#[]⟩, .int .i64 m, .slice none 0 0] 48) = W7 := ⟨_, rfl⟩
            rw [hW7]
            have q7 : Blk W7 w6.heap.size #[.string ⟨n.toArray⟩, .int .i64 k, .string ⟨#[]⟩, .int .i64 m, .slice none 0 0] 48 := hW7 ▸ Blk.new _ _ _
            have C7 : Below W5.heap.size W5 W7 := hW7 ▸ C6.alloc C6.size _
            have K7 := (KeepC.of_below B5).trans (KeepC.of_below C7)
            have s70 := (KeepC.of_below C7).2 _ _ _ s50
            have s71 := (KeepC.of_below C7).2 _ _ _ s51
            have h7 := own_kept h6 (show w6.grownBy W7 none from hW7 ▸ World.grownBy_alloc _ _ none) (RowT.none _ _)
            clear hW7
            refine wp_append_src _ _ 22 rfl W5.heap.size 48 i0 (.agg #[.string ⟨#[]⟩, .int .i64 0, .string ⟨#[]⟩, .int .i64 0, .slice none 0 0]) 5 72 Tryz.underlying22 hI hz0 hz1 hz2 rfl (by decide) _ _ _ rfl h7 _ 1 1 [.string ⟨n.toArray⟩, .int .i64 k, .string ⟨#[]⟩, .int .i64 m, .slice none 0 0] rfl (fun h => by cases h) rfl (fun ad hd => by cases hd; exact blk_srcs q7) oneO.out (by unfold maxLen; omega) (by omega) C7.size ?_
            intro v8 w8 h8 g8
            have C8 : Below W5.heap.size W5 w8 := C7.grown g8 C7.size (fun k e => (h7.lt k e).1)
            have K8 := (KeepC.of_below B5).trans (KeepC.of_below C8)
            have s80 := (KeepC.of_below C8).2 _ _ _ s50
            have s81 := (KeepC.of_below C8).2 _ _ _ s51
            obtain ⟨a8, cp8, rfl, -⟩ := row_form h8
            refine hK.out _ _ ?_ (fun hHeld => ?_)
            · exact ⟨s80, s81⟩
            clear hK K
            try simp only [Act.put, List.setIfInBounds_toArray, List.set_cons_zero, List.set_cons_succ]
            refine wpAnyH_ready (rs := [14]) (by kernel_rfl) (by simp) ?_
            refine AllReadyH.cons (o := _) (nth_at rfl) (fun K hK => ?_) AllReadyH.nil
            rw [if_pos (by rfl)]
            refine wp_append_src _ _ 22 rfl W5.heap.size 48 i0 (.agg #[.string ⟨#[]⟩, .int .i64 0, .string ⟨#[]⟩, .int .i64 0, .slice none 0 0]) 5 72 Tryz.underlying22 hI hz0 hz1 hz2 rfl (by decide) _ _ _ rfl h8 a2 (l.length - ix) c2 d2 rfl n2.out l2 (k2.out _ K8) one2.out (by unfold maxLen; omega) (by omega) C8.size ?_
            intro v9 w9 h9 g9
            have C9 : Below W5.heap.size W5 w9 := C8.grown g9 C8.size (fun k e => (h8.lt k e).1)
            have K9 := (KeepC.of_below B5).trans (KeepC.of_below C9)
            have s90 := (KeepC.of_below C9).2 _ _ _ s50
            have s91 := (KeepC.of_below C9).2 _ _ _ s51
            rw [hl9.out, List.append_assoc] at h9
            obtain ⟨a9, cp9, rfl, -⟩ := row_form h9
            refine hK.out _ _ ?_ (fun hHeld => ?_)
            · exact ⟨s90, s91⟩
            clear hK K
            try simp only [Act.put, List.setIfInBounds_toArray, List.set_cons_zero, List.set_cons_succ]
            refine wpAnyH_take (i := 15) (oi := _) (v := ?_) (nth_at rfl) (by kernel_rfl) (by kernel_rfl) (by kernel_rfl) (fun _ _ _ h => h) (Or.inl ⟨by rfl, ?_⟩) (by assumption) ?_
            rotate_left 1
            · intro w hSw; (try dsimp only at hSw); (go_simp <;> with_reducible rfl)
            try simp only [Act.put, List.setIfInBounds_toArray, List.set_cons_zero, List.set_cons_succ]
            refine wpAnyH_done (by kernel_rfl) ?_ _
            refine NoPanic.normal ?_
            have V9 := view_of_row h9 rfl hrH.out K9
            have B9 := B5.trans (C9.mono B5.size)
            clear h9 g9 h8 g8 g6 h6 C9 C8 C7 C6
            by_cases h20 : l.length + 1 ≤ 20
            · have h20z : ¬ (20 : Int) < (S.length : Int) := by have := hSH.out; omega
              have HC := hcT.out h20 _ w9 V9
              have hcs := costS_of (hspc.out h20)
              have hE1 := hEH.out
              have hR1 := hRH.out
              rw [← hcs, decide_eq_true h20, Bool.true_and] at hE1 hR1
              generalize costS S = ct at *
              by_cases hq : ct ≤ qu
              · have hqb : ¬ qu < ct := by omega
                rw [if_pos (decide_eq_true hq)] at hE1 hR1
                subst hE1 hR1
                clear hcs
                go_wp2_with fail
                with_reducible refine HC.mono ?_
                rintro e w10 ⟨rfl, b10⟩
                go_wp2_with fail
                go_ret2
                exact ⟨_, rfl, V9.keep (KeepC.of_below b10), B9.trans (b10.mono B9.size)⟩
              · have hqb : qu < ct := by omega
                rw [decide_eq_false hq] at hE1 hR1
                have hE2 : 104 = E := hE1
                have hR2 : [] = R := hR1
                subst hE2 hR2
                clear hcs hE1 hR1
                go_wp2_with fail
                with_reducible refine HC.mono ?_
                rintro e w10 ⟨rfl, b10⟩
                go_wp2_with fail
                go_ret2
                exact ⟨_, rfl, ObjsV.nil _, B9.trans (b10.mono B9.size)⟩
            · have h20z : (20 : Int) < (S.length : Int) := by have := hSH.out; omega
              have hE1 := hEH.out
              have hR1 := hRH.out
              rw [decide_eq_false h20, Bool.false_and] at hE1 hR1
              have hE2 : 104 = E := hE1
              have hR2 : [] = R := hR1
              subst hE2 hR2
              clear hE1 hR1
              go_wp2_with fail
              go_ret2
              exact ⟨_, rfl, ObjsV.nil _, B9⟩
          refine AllReadyH.cons (o := _) (nth_at rfl) (fun K hK => ?_) AllReadyH.nil
          go_simp
          refine hK.out _ _ ?_ (fun hHeld => ?_)
          · exact ⟨(KeepC.alloc _ _).2 _ _ _ sd0, (KeepC.alloc _ _).2 _ _ _ sd1⟩
          clear hK K
          try simp only [Act.put, List.setIfInBounds_toArray, List.set_cons_zero, List.set_cons_succ]
          refine wpAnyH_ready (rs := [4]) (by kernel_rfl) (by simp) ?_
          refine AllReadyH.cons (o := _) (nth_at rfl) (fun K hK => ?_) AllReadyH.nil
          rw [if_pos (by rfl)]
          obtain ⟨W7, hW7⟩ : ∃ W7, (W5.alloc (.cells #[.string ⟨n.toArray⟩, .int .i64 k, .string ⟨#[]⟩, .int .i64 m, .slice none 0 0] 48)).drew = W7 := ⟨_, rfl⟩
          rw [hW7]
          have q7 : Blk W7 W5.heap.size #[.string ⟨n.toArray⟩, .int .i64 k, .string ⟨#[]⟩, .int .i64 m, .slice none 0 0] 48 := hW7 ▸ (Blk.new _ _ _).drew
          have C7 : Below W5.heap.size W5 W7 := hW7 ▸ ((Below.refl _ W5).alloc (Nat.le_refl _) _).drew
          have K7 := (KeepC.of_below B5).trans (KeepC.of_below C7)
          have s70 := (KeepC.of_below C7).2 _ _ _ s50
          have s71 := (KeepC.of_below C7).2 _ _ _ s51
          clear hW7
          refine wp_append_src _ _ 22 rfl W7.heap.size 48 i0 (.agg #[.string ⟨#[]⟩, .int .i64 0, .string ⟨#[]⟩, .int .i64 0, .slice none 0 0]) 5 72 Tryz.underlying22 hI hz0 hz1 hz2 rfl (by decide) (.slice none 0 0) 0 _ rfl (World.ownsRow_nil _ _ _ _) a1 ix c1 d1 rfl n1.out l1 (k1.out _ K7) one1.out (by unfold maxLen; omega) (by omega) (Nat.le_refl _) ?_
          intro v6 w6 h6 g6
          rw [Nat.zero_add, List.nil_append] at h6
          have C6 : Below W5.heap.size W5 w6 := C7.grown g6 C7.size (fun k e => by simp [Value.ownBlock] at e)
          have K6 := (KeepC.of_below B5).trans (KeepC.of_below C6)
          have s60 := (KeepC.of_below C6).2 _ _ _ s50
          have s61 := (KeepC.of_below C6).2 _ _ _ s51
          obtain ⟨a6, cp6, rfl, -⟩ := row_form h6
          have q6 := q7.kept g6 (by simp [Value.ownBlock])
          clear q7
          refine hK.out _ _ ?_ (fun hHeld => ?_)
          · exact ⟨s60, s61⟩
          clear hK K
          try simp only [Act.put, List.setIfInBounds_toArray, List.set_cons_zero, List.set_cons_succ]
          refine wpAnyH_ready (rs := [10]) (by kernel_rfl) (by simp) ?_
          refine AllReadyH.cons (o := _) (nth_at rfl) (fun K hK => ?_) AllReadyH.nil
          rw [if_pos (by rfl)]
          refine wp_append_src _ _ 22 rfl W7.heap.size 48 i0 (.agg #[.string ⟨#[]⟩, .int .i64 0, .string ⟨#[]⟩, .int .i64 0, .slice none 0 0]) 5 72 Tryz.underlying22 hI hz0 hz1 hz2 rfl (by decide) _ _ _ rfl h6 _ 1 1 [.string ⟨n.toArray⟩, .int .i64 k, .string ⟨#[]⟩, .int .i64 m, .slice none 0 0] rfl (fun h => by cases h) rfl (fun ad hd => by cases hd; exact blk_srcs q6) oneO.out (by unfold maxLen; omega) (by omega) g6.size ?_
          intro v8 w8 h8 g8
          have C8 : Below W5.heap.size W5 w8 := C6.grown g8 C6.size (fun k e => Nat.le_trans C7.size (h6.lt k e).1)
          have K8 := (KeepC.of_below B5).trans (KeepC.of_below C8)
          have s80 := (KeepC.of_below C8).2 _ _ _ s50
          have s81 := (KeepC.of_below C8).2 _ _ _ s51
          obtain ⟨a8, cp8, rfl, -⟩ := row_form h8
          refine hK.out _ _ ?_ (fun hHeld => ?_)
          · exact ⟨s80, s81⟩
          clear hK K
          try simp only [Act.put, List.setIfInBounds_toArray, List.set_cons_zero, List.set_cons_succ]
          refine wpAnyH_ready (rs := [14]) (by kernel_rfl) (by simp) ?_
          refine AllReadyH.cons (o := _) (nth_at rfl) (fun K hK => ?_) AllReadyH.nil
          rw [if_pos (by rfl)]
          refine wp_append_src _ _ 22 rfl W7.heap.size 48 i0 (.agg #[.string ⟨#[]⟩, .int .i64 0, .string ⟨#[]⟩, .int .i64 0, .slice none 0 0]) 5 72 Tryz.underlying22 hI hz0 hz1 hz2 rfl (by decide) _ _ _ rfl h8 a2 (l.length - ix) c2 d2 rfl n2.out l2 (k2.out _ K8) one2.out (by unfold maxLen; omega) (by omega) (Nat.le_trans g6.size g8.size) ?_
          intro v9 w9 h9 g9
          have C9 : Below W5.heap.size W5 w9 := C8.grown g9 C8.size (fun k e => Nat.le_trans C7.size (h8.lt k e).1)
          have K9 := (KeepC.of_below B5).trans (KeepC.of_below C9)
          have s90 := (KeepC.of_below C9).2 _ _ _ s50
          have s91 := (KeepC.of_below C9).2 _ _ _ s51
          rw [hl9.out, List.append_assoc] at h9
          obtain ⟨a9, cp9, rfl, -⟩ := row_form h9
          refine hK.out _ _ ?_ (fun hHeld => ?_)
          · exact ⟨s90, s91⟩
          clear hK K
          try simp only [Act.put, List.setIfInBounds_toArray, List.set_cons_zero, List.set_cons_succ]
          refine wpAnyH_take (i := 15) (oi := _) (v := ?_) (nth_at rfl) (by kernel_rfl) (by kernel_rfl) (by kernel_rfl) (fun _ _ _ h => h) (Or.inl ⟨by rfl, ?_⟩) (by assumption) ?_
          rotate_left 1
          · intro w hSw; (try dsimp only at hSw); (go_simp <;> with_reducible rfl)
          try simp only [Act.put, List.setIfInBounds_toArray, List.set_cons_zero, List.set_cons_succ]
          refine wpAnyH_done (by kernel_rfl) ?_ _
          refine NoPanic.normal ?_
          have V9 := view_of_row h9 rfl hrH.out K9
          have B9 := B5.trans (C9.mono B5.size)
          clear h9 g9 h8 g8 g6 h6 C9 C8 C7 C6
          by_cases h20 : l.length + 1 ≤ 20
          · have h20z : ¬ (20 : Int) < (S.length : Int) := by have := hSH.out; omega
            have HC := hcT.out h20 _ w9 V9
            have hcs := costS_of (hspc.out h20)
            have hE1 := hEH.out
            have hR1 := hRH.out
            rw [← hcs, decide_eq_true h20, Bool.true_and] at hE1 hR1
            generalize costS S = ct at *
            by_cases hq : ct ≤ qu
            · have hqb : ¬ qu < ct := by omega
              rw [if_pos (decide_eq_true hq)] at hE1 hR1
              subst hE1 hR1
              clear hcs
              go_wp2_with fail
              with_reducible refine HC.mono ?_
              rintro e w10 ⟨rfl, b10⟩
              go_wp2_with fail
              go_ret2
              exact ⟨_, rfl, V9.keep (KeepC.of_below b10), B9.trans (b10.mono B9.size)⟩
            · have hqb : qu < ct := by omega
              rw [decide_eq_false hq] at hE1 hR1
              have hE2 : 104 = E := hE1
              have hR2 : [] = R := hR1
              subst hE2 hR2
              clear hcs hE1 hR1
              go_wp2_with fail
              with_reducible refine HC.mono ?_
              rintro e w10 ⟨rfl, b10⟩
              go_wp2_with fail
              go_ret2
              exact ⟨_, rfl, ObjsV.nil _, B9.trans (b10.mono B9.size)⟩
          · have h20z : (20 : Int) < (S.length : Int) := by have := hSH.out; omega
            have hE1 := hEH.out
            have hR1 := hRH.out
            rw [decide_eq_false h20, Bool.false_and] at hE1 hR1
            have hE2 : 104 = E := hE1
            have hR2 : [] = R := hR1
            subst hE2 hR2
            clear hE1 hR1
            go_wp2_with fail
            go_ret2
            exact ⟨_, rfl, ObjsV.nil _, B9⟩
        · have hlz : ¬ (ix : Int) < (l.length : Int) := by omega
          clear hcH hsrt
          go_wp2_with fail
          refine wp_region_noPanic ?_
          refine wp_region_held_drew (S := (fun W => W.cell? ⟨rb, 0, none⟩ = some (.int .i64 m) ∧ W.cell? ⟨rb, 1, none⟩ = some (.slice none 0 0))) (by kernel_rfl) ?_ (fun hHeld => ?_)
          · exact ⟨s50, s51⟩
          refine wpAnyH_take (i := 0) (oi := _) (v := ?_) (nth_at rfl) (by kernel_rfl) (by kernel_rfl) (by kernel_rfl) (fun _ _ _ h => h) (Or.inl ⟨by rfl, ?_⟩) (by assumption) ?_
          rotate_left 1
          · intro w hSw; (try dsimp only at hSw); (go_simp <;> with_reducible rfl)
          try simp only [Act.put, List.setIfInBounds_toArray, List.set_cons_zero, List.set_cons_succ]
          refine wpAnyH_take (i := 1) (oi := _) (v := ?_) (nth_at rfl) (by kernel_rfl) (by kernel_rfl) (by kernel_rfl) (fun _ _ _ h => h) (Or.inl ⟨by rfl, ?_⟩) (by assumption) ?_
          rotate_left 1
          · intro w hSw; (try dsimp only at hSw); (go_simp <;> with_reducible rfl)
          try simp only [Act.put, List.setIfInBounds_toArray, List.set_cons_zero, List.set_cons_succ]
          refine wpAnyH_take (i := 2) (oi := _) (v := ?_) (nth_at rfl) (by kernel_rfl) (by kernel_rfl) (by kernel_rfl) (fun _ _ _ h => h) (Or.inl ⟨by rfl, ?_⟩) (by assumption) ?_
          rotate_left 1
          · intro w hSw; (try dsimp only at hSw); (go_simp <;> with_reducible rfl)
          try simp only [Act.put, List.setIfInBounds_toArray, List.set_cons_zero, List.set_cons_succ]
          refine wpAnyH_take (i := 3) (oi := _) (v := .slice a1 ix c1) (nth_at rfl) (by kernel_rfl) (by kernel_rfl) (by kernel_rfl) (fun _ _ _ h => h) (Or.inl ⟨by rfl, ?_⟩) (by assumption) ?_
          · intro w hSw; (try dsimp only at hSw); (go_simp <;> (first | done | (simp only [Int.toNat_natCast, Int.toNat_zero]; exact congrArg (fun v => Result.ok v _) HY1.out) | (have h := HY1.out; simp only [sliced] at h; first | (simp [Addr.add] at h ⊢; exact h) | (simp [Addr.add_lit] at h ⊢; exact h))))
          try simp only [Act.put, List.setIfInBounds_toArray, List.set_cons_zero, List.set_cons_succ]
          refine wpAnyH_take (i := 5) (oi := _) (v := ?_) (nth_at rfl) (by kernel_rfl) (by kernel_rfl) (by kernel_rfl) (fun _ _ _ h => h) (Or.inl ⟨by rfl, ?_⟩) (by assumption) ?_
          rotate_left 1
          · intro w hSw; (try dsimp only at hSw); (go_simp <;> with_reducible rfl)
          try simp only [Act.put, List.setIfInBounds_toArray, List.set_cons_zero, List.set_cons_succ]
          refine wpAnyH_take (i := 6) (oi := _) (v := ?_) (nth_at rfl) (by kernel_rfl) (by kernel_rfl) (by kernel_rfl) (fun _ _ _ h => h) (Or.inl ⟨by rfl, ?_⟩) (by assumption) ?_
          rotate_left 1
          · intro w hSw; (try dsimp only at hSw); (go_simp <;> with_reducible rfl)
          try simp only [Act.put, List.setIfInBounds_toArray, List.set_cons_zero, List.set_cons_succ]
          refine wpAnyH_take (i := 7) (oi := _) (v := ?_) (nth_at rfl) (by kernel_rfl) (by kernel_rfl) (by kernel_rfl) (fun _ _ _ h => h) (Or.inl ⟨by rfl, ?_⟩) (by assumption) ?_
          rotate_left 1
          · intro w hSw; (try dsimp only at hSw); (go_simp <;> with_reducible rfl)
          try simp only [Act.put, List.setIfInBounds_toArray, List.set_cons_zero, List.set_cons_succ]
          refine wpAnyH_take (i := 8) (oi := _) (v := ?_) (nth_at rfl) (by kernel_rfl) (by kernel_rfl) (by kernel_rfl) (fun _ _ _ h => h) (Or.inl ⟨by rfl, ?_⟩) (by assumption) ?_
          rotate_left 1
          · intro w hSw; (try dsimp only at hSw); (go_simp <;> with_reducible rfl)
          try simp only [Act.put, List.setIfInBounds_toArray, List.set_cons_zero, List.set_cons_succ]
          refine wpAnyH_take (i := 11) (oi := _) (v := ?_) (nth_at rfl) (by kernel_rfl) (by kernel_rfl) (by kernel_rfl) (fun _ _ _ h => h) (Or.inl ⟨by rfl, ?_⟩) (by assumption) ?_
          rotate_left 1
          · intro w hSw; (try dsimp only at hSw); (go_simp <;> with_reducible rfl)
          try simp only [Act.put, List.setIfInBounds_toArray, List.set_cons_zero, List.set_cons_succ]
          refine wpAnyH_take (i := 12) (oi := _) (v := ?_) (nth_at rfl) (by kernel_rfl) (by kernel_rfl) (by kernel_rfl) (fun _ _ _ h => h) (Or.inl ⟨by rfl, ?_⟩) (by assumption) ?_
          rotate_left 1
          · intro w hSw; (try dsimp only at hSw); (go_simp <;> with_reducible rfl)
          try simp only [Act.put, List.setIfInBounds_toArray, List.set_cons_zero, List.set_cons_succ]
          refine wpAnyH_take (i := 13) (oi := _) (v := .slice a2 (l.length - ix) c2) (nth_at rfl) (by kernel_rfl) (by kernel_rfl) (by kernel_rfl) (fun _ _ _ h => h) (Or.inl ⟨by rfl, ?_⟩) (by assumption) ?_
          · intro w hSw; (try dsimp only at hSw); (go_simp <;> (first | done | (simp only [Int.toNat_natCast, Int.toNat_zero]; exact congrArg (fun v => Result.ok v _) HY2.out) | (have h := HY2.out; simp only [sliced] at h; first | (simp [Addr.add] at h ⊢; exact h) | (simp [Addr.add_lit] at h ⊢; exact h))))
          try simp only [Act.put, List.setIfInBounds_toArray, List.set_cons_zero, List.set_cons_succ]
          refine wpAnyH_ready (rs := [4, 9]) (by kernel_rfl) (by simp) ?_
          refine AllReadyH.cons (o := _) (nth_at rfl) (fun K hK => ?_) ?_
          · rw [if_pos (by rfl)]
            refine wp_append_src _ _ 22 rfl W5.heap.size 48 i0 (.agg #[.string ⟨#[]⟩, .int .i64 0, .string ⟨#[]⟩, .int .i64 0, .slice none 0 0]) 5 72 Tryz.underlying22 hI hz0 hz1 hz2 rfl (by decide) (.slice none 0 0) 0 _ rfl (World.ownsRow_nil _ _ _ _) a1 ix c1 d1 rfl n1.out l1 (k1.out _ Kd) one1.out (by unfold maxLen; omega) (by omega) (Nat.le_refl _) ?_
            intro v6 w6 h6 g6
            rw [Nat.zero_add, List.nil_append] at h6
            have C6 : Below W5.heap.size W5 w6 := Cd.grown g6 Cd.size (fun k e => by simp [Value.ownBlock] at e)
            have K6 := (KeepC.of_below B5).trans (KeepC.of_below C6)
            have s60 := (KeepC.of_below C6).2 _ _ _ s50
            have s61 := (KeepC.of_below C6).2 _ _ _ s51
            obtain ⟨a6, cp6, rfl, -⟩ := row_form h6
            refine hK.out _ _ ?_ (fun hHeld => ?_)
            · exact ⟨s60, s61⟩
            clear hK K
            try simp only [Act.put, List.setIfInBounds_toArray, List.set_cons_zero, List.set_cons_succ]
            refine wpAnyH_ready (rs := [9]) (by kernel_rfl) (by simp) ?_
            refine AllReadyH.cons (o := _) (nth_at rfl) (fun K hK => ?_) AllReadyH.nil
            go_simp
            refine hK.out _ _ ?_ (fun hHeld => ?_)
            · exact ⟨(KeepC.alloc _ _).2 _ _ _ s60, (KeepC.alloc _ _).2 _ _ _ s61⟩
            clear hK K
            try simp only [Act.put, List.setIfInBounds_toArray, List.set_cons_zero, List.set_cons_succ]
            refine wpAnyH_ready (rs := [10]) (by kernel_rfl) (by simp) ?_
            refine AllReadyH.cons (o := _) (nth_at rfl) (fun K hK => ?_) AllReadyH.nil
            rw [if_pos (by rfl)]
            obtain ⟨W7, hW7⟩ : ∃ W7, w6.alloc (.cells #[.string ⟨n.toArray⟩, .int .i64 k, .string ⟨#[]⟩, .int .i64 m, .slice none 0 0] 48) = W7 := ⟨_, rfl⟩
            rw [hW7]
            have q7 : Blk W7 w6.heap.size #[.string ⟨n.toArray⟩, .int .i64 k, .string ⟨#[]⟩, .int .i64 m, .slice none 0 0] 48 := hW7 ▸ Blk.new _ _ _
            have C7 : Below W5.heap.size W5 W7 := hW7 ▸ C6.alloc C6.size _
            have K7 := (KeepC.of_below B5).trans (KeepC.of_below C7)
            have s70 := (KeepC.of_below C7).2 _ _ _ s50
            have s71 := (KeepC.of_below C7).2 _ _ _ s51
            have h7 := own_kept h6 (show w6.grownBy W7 none from hW7 ▸ World.grownBy_alloc _ _ none) (RowT.none _ _)
            clear hW7
            refine wp_append_src _ _ 22 rfl W5.heap.size 48 i0 (.agg #[.string ⟨#[]⟩, .int .i64 0, .string ⟨#[]⟩, .int .i64 0, .slice none 0 0]) 5 72 Tryz.underlying22 hI hz0 hz1 hz2 rfl (by decide) _ _ _ rfl h7 _ 1 1 [.string ⟨n.toArray⟩, .int .i64 k, .string ⟨#[]⟩, .int .i64 m, .slice none 0 0] rfl (fun h => by cases h) rfl (fun ad hd => by cases hd; exact blk_srcs q7) oneO.out (by unfold maxLen; omega) (by omega) C7.size ?_
            intro v8 w8 h8 g8
            have C8 : Below W5.heap.size W5 w8 := C7.grown g8 C7.size (fun k e => (h7.lt k e).1)
            have K8 := (KeepC.of_below B5).trans (KeepC.of_below C8)
            have s80 := (KeepC.of_below C8).2 _ _ _ s50
            have s81 := (KeepC.of_below C8).2 _ _ _ s51
            obtain ⟨a8, cp8, rfl, -⟩ := row_form h8
            refine hK.out _ _ ?_ (fun hHeld => ?_)
            · exact ⟨s80, s81⟩
            clear hK K
            try simp only [Act.put, List.setIfInBounds_toArray, List.set_cons_zero, List.set_cons_succ]
            refine wpAnyH_ready (rs := [14]) (by kernel_rfl) (by simp) ?_
            refine AllReadyH.cons (o := _) (nth_at rfl) (fun K hK => ?_) AllReadyH.nil
            rw [if_pos (by rfl)]
            refine wp_append_src _ _ 22 rfl W5.heap.size 48 i0 (.agg #[.string ⟨#[]⟩, .int .i64 0, .string ⟨#[]⟩, .int .i64 0, .slice none 0 0]) 5 72 Tryz.underlying22 hI hz0 hz1 hz2 rfl (by decide) _ _ _ rfl h8 a2 (l.length - ix) c2 d2 rfl n2.out l2 (k2.out _ K8) one2.out (by unfold maxLen; omega) (by omega) C8.size ?_
            intro v9 w9 h9 g9
            have C9 : Below W5.heap.size W5 w9 := C8.grown g9 C8.size (fun k e => (h8.lt k e).1)
            have K9 := (KeepC.of_below B5).trans (KeepC.of_below C9)
            have s90 := (KeepC.of_below C9).2 _ _ _ s50
            have s91 := (KeepC.of_below C9).2 _ _ _ s51
            rw [hl9.out, List.append_assoc] at h9
            obtain ⟨a9, cp9, rfl, -⟩ := row_form h9
            refine hK.out _ _ ?_ (fun hHeld => ?_)
            · exact ⟨s90, s91⟩
            clear hK K
            try simp only [Act.put, List.setIfInBounds_toArray, List.set_cons_zero, List.set_cons_succ]
            refine wpAnyH_take (i := 15) (oi := _) (v := ?_) (nth_at rfl) (by kernel_rfl) (by kernel_rfl) (by kernel_rfl) (fun _ _ _ h => h) (Or.inl ⟨by rfl, ?_⟩) (by assumption) ?_
            rotate_left 1
            · intro w hSw; (try dsimp only at hSw); (go_simp <;> with_reducible rfl)
            try simp only [Act.put, List.setIfInBounds_toArray, List.set_cons_zero, List.set_cons_succ]
            refine wpAnyH_done (by kernel_rfl) ?_ _
            refine NoPanic.normal ?_
            have V9 := view_of_row h9 rfl hrH.out K9
            have B9 := B5.trans (C9.mono B5.size)
            clear h9 g9 h8 g8 g6 h6 C9 C8 C7 C6
            by_cases h20 : l.length + 1 ≤ 20
            · have h20z : ¬ (20 : Int) < (S.length : Int) := by have := hSH.out; omega
              have HC := hcT.out h20 _ w9 V9
              have hcs := costS_of (hspc.out h20)
              have hE1 := hEH.out
              have hR1 := hRH.out
              rw [← hcs, decide_eq_true h20, Bool.true_and] at hE1 hR1
              generalize costS S = ct at *
              by_cases hq : ct ≤ qu
              · have hqb : ¬ qu < ct := by omega
                rw [if_pos (decide_eq_true hq)] at hE1 hR1
                subst hE1 hR1
                clear hcs
                go_wp2_with fail
                with_reducible refine HC.mono ?_
                rintro e w10 ⟨rfl, b10⟩
                go_wp2_with fail
                go_ret2
                exact ⟨_, rfl, V9.keep (KeepC.of_below b10), B9.trans (b10.mono B9.size)⟩
              · have hqb : qu < ct := by omega
                rw [decide_eq_false hq] at hE1 hR1
                have hE2 : 104 = E := hE1
                have hR2 : [] = R := hR1
                subst hE2 hR2
                clear hcs hE1 hR1
                go_wp2_with fail
                with_reducible refine HC.mono ?_
                rintro e w10 ⟨rfl, b10⟩
                go_wp2_with fail
                go_ret2
                exact ⟨_, rfl, ObjsV.nil _, B9.trans (b10.mono B9.size)⟩
            · have h20z : (20 : Int) < (S.length : Int) := by have := hSH.out; omega
              have hE1 := hEH.out
              have hR1 := hRH.out
              rw [decide_eq_false h20, Bool.false_and] at hE1 hR1
              have hE2 : 104 = E := hE1
              have hR2 : [] = R := hR1
              subst hE2 hR2
              clear hE1 hR1
              go_wp2_with fail
              go_ret2
              exact ⟨_, rfl, ObjsV.nil _, B9⟩
          refine AllReadyH.cons (o := _) (nth_at rfl) (fun K hK => ?_) AllReadyH.nil
          go_simp
          refine hK.out _ _ ?_ (fun hHeld => ?_)
          · exact ⟨(KeepC.alloc _ _).2 _ _ _ sd0, (KeepC.alloc _ _).2 _ _ _ sd1⟩
          clear hK K
          try simp only [Act.put, List.setIfInBounds_toArray, List.set_cons_zero, List.set_cons_succ]
          refine wpAnyH_ready (rs := [4]) (by kernel_rfl) (by simp) ?_
          refine AllReadyH.cons (o := _) (nth_at rfl) (fun K hK => ?_) AllReadyH.nil
          rw [if_pos (by rfl)]
          obtain ⟨W7, hW7⟩ : ∃ W7, (W5.alloc (.cells #[.string ⟨n.toArray⟩, .int .i64 k, .string ⟨#[]⟩, .int .i64 m, .slice none 0 0] 48)).drew = W7 := ⟨_, rfl⟩
          rw [hW7]
          have q7 : Blk W7 W5.heap.size #[.string ⟨n.toArray⟩, .int .i64 k, .string ⟨#[]⟩, .int .i64 m, .slice none 0 0] 48 := hW7 ▸ (Blk.new _ _ _).drew
          have C7 : Below W5.heap.size W5 W7 := hW7 ▸ ((Below.refl _ W5).alloc (Nat.le_refl _) _).drew
          have K7 := (KeepC.of_below B5).trans (KeepC.of_below C7)
          have s70 := (KeepC.of_below C7).2 _ _ _ s50
          have s71 := (KeepC.of_below C7).2 _ _ _ s51
          clear hW7
          refine wp_append_src _ _ 22 rfl W7.heap.size 48 i0 (.agg #[.string ⟨#[]⟩, .int .i64 0, .string ⟨#[]⟩, .int .i64 0, .slice none 0 0]) 5 72 Tryz.underlying22 hI hz0 hz1 hz2 rfl (by decide) (.slice none 0 0) 0 _ rfl (World.ownsRow_nil _ _ _ _) a1 ix c1 d1 rfl n1.out l1 (k1.out _ K7) one1.out (by unfold maxLen; omega) (by omega) (Nat.le_refl _) ?_
          intro v6 w6 h6 g6
          rw [Nat.zero_add, List.nil_append] at h6
          have C6 : Below W5.heap.size W5 w6 := C7.grown g6 C7.size (fun k e => by simp [Value.ownBlock] at e)
          have K6 := (KeepC.of_below B5).trans (KeepC.of_below C6)
          have s60 := (KeepC.of_below C6).2 _ _ _ s50
          have s61 := (KeepC.of_below C6).2 _ _ _ s51
          obtain ⟨a6, cp6, rfl, -⟩ := row_form h6
          have q6 := q7.kept g6 (by simp [Value.ownBlock])
          clear q7
          refine hK.out _ _ ?_ (fun hHeld => ?_)
          · exact ⟨s60, s61⟩
          clear hK K
          try simp only [Act.put, List.setIfInBounds_toArray, List.set_cons_zero, List.set_cons_succ]
          refine wpAnyH_ready (rs := [10]) (by kernel_rfl) (by simp) ?_
          refine AllReadyH.cons (o := _) (nth_at rfl) (fun K hK => ?_) AllReadyH.nil
          rw [if_pos (by rfl)]
          refine wp_append_src _ _ 22 rfl W7.heap.size 48 i0 (.agg #[.string ⟨#[]⟩, .int .i64 0, .string ⟨#[]⟩, .int .i64 0, .slice none 0 0]) 5 72 Tryz.underlying22 hI hz0 hz1 hz2 rfl (by decide) _ _ _ rfl h6 _ 1 1 [.string ⟨n.toArray⟩, .int .i64 k, .string ⟨#[]⟩, .int .i64 m, .slice none 0 0] rfl (fun h => by cases h) rfl (fun ad hd => by cases hd; exact blk_srcs q6) oneO.out (by unfold maxLen; omega) (by omega) g6.size ?_
          intro v8 w8 h8 g8
          have C8 : Below W5.heap.size W5 w8 := C6.grown g8 C6.size (fun k e => Nat.le_trans C7.size (h6.lt k e).1)
          have K8 := (KeepC.of_below B5).trans (KeepC.of_below C8)
          have s80 := (KeepC.of_below C8).2 _ _ _ s50
          have s81 := (KeepC.of_below C8).2 _ _ _ s51
          obtain ⟨a8, cp8, rfl, -⟩ := row_form h8
          refine hK.out _ _ ?_ (fun hHeld => ?_)
          · exact ⟨s80, s81⟩
          clear hK K
          try simp only [Act.put, List.setIfInBounds_toArray, List.set_cons_zero, List.set_cons_succ]
          refine wpAnyH_ready (rs := [14]) (by kernel_rfl) (by simp) ?_
          refine AllReadyH.cons (o := _) (nth_at rfl) (fun K hK => ?_) AllReadyH.nil
          rw [if_pos (by rfl)]
          refine wp_append_src _ _ 22 rfl W7.heap.size 48 i0 (.agg #[.string ⟨#[]⟩, .int .i64 0, .string ⟨#[]⟩, .int .i64 0, .slice none 0 0]) 5 72 Tryz.underlying22 hI hz0 hz1 hz2 rfl (by decide) _ _ _ rfl h8 a2 (l.length - ix) c2 d2 rfl n2.out l2 (k2.out _ K8) one2.out (by unfold maxLen; omega) (by omega) (Nat.le_trans g6.size g8.size) ?_
          intro v9 w9 h9 g9
          have C9 : Below W5.heap.size W5 w9 := C8.grown g9 C8.size (fun k e => Nat.le_trans C7.size (h8.lt k e).1)
          have K9 := (KeepC.of_below B5).trans (KeepC.of_below C9)
          have s90 := (KeepC.of_below C9).2 _ _ _ s50
          have s91 := (KeepC.of_below C9).2 _ _ _ s51
          rw [hl9.out, List.append_assoc] at h9
          obtain ⟨a9, cp9, rfl, -⟩ := row_form h9
          refine hK.out _ _ ?_ (fun hHeld => ?_)
          · exact ⟨s90, s91⟩
          clear hK K
          try simp only [Act.put, List.setIfInBounds_toArray, List.set_cons_zero, List.set_cons_succ]
          refine wpAnyH_take (i := 15) (oi := _) (v := ?_) (nth_at rfl) (by kernel_rfl) (by kernel_rfl) (by kernel_rfl) (fun _ _ _ h => h) (Or.inl ⟨by rfl, ?_⟩) (by assumption) ?_
          rotate_left 1
          · intro w hSw; (try dsimp only at hSw); (go_simp <;> with_reducible rfl)
          try simp only [Act.put, List.setIfInBounds_toArray, List.set_cons_zero, List.set_cons_succ]
          refine wpAnyH_done (by kernel_rfl) ?_ _
          refine NoPanic.normal ?_
          have V9 := view_of_row h9 rfl hrH.out K9
          have B9 := B5.trans (C9.mono B5.size)
          clear h9 g9 h8 g8 g6 h6 C9 C8 C7 C6
          by_cases h20 : l.length + 1 ≤ 20
          · have h20z : ¬ (20 : Int) < (S.length : Int) := by have := hSH.out; omega
            have HC := hcT.out h20 _ w9 V9
            have hcs := costS_of (hspc.out h20)
            have hE1 := hEH.out
            have hR1 := hRH.out
            rw [← hcs, decide_eq_true h20, Bool.true_and] at hE1 hR1
            generalize costS S = ct at *
            by_cases hq : ct ≤ qu
            · have hqb : ¬ qu < ct := by omega
              rw [if_pos (decide_eq_true hq)] at hE1 hR1
              subst hE1 hR1
              clear hcs
              go_wp2_with fail
              with_reducible refine HC.mono ?_
              rintro e w10 ⟨rfl, b10⟩
              go_wp2_with fail
              go_ret2
              exact ⟨_, rfl, V9.keep (KeepC.of_below b10), B9.trans (b10.mono B9.size)⟩
            · have hqb : qu < ct := by omega
              rw [decide_eq_false hq] at hE1 hR1
              have hE2 : 104 = E := hE1
              have hR2 : [] = R := hR1
              subst hE2 hR2
              clear hcs hE1 hR1
              go_wp2_with fail
              with_reducible refine HC.mono ?_
              rintro e w10 ⟨rfl, b10⟩
              go_wp2_with fail
              go_ret2
              exact ⟨_, rfl, ObjsV.nil _, B9.trans (b10.mono B9.size)⟩
          · have h20z : (20 : Int) < (S.length : Int) := by have := hSH.out; omega
            have hE1 := hEH.out
            have hR1 := hRH.out
            rw [decide_eq_false h20, Bool.false_and] at hE1 hR1
            have hE2 : 104 = E := hE1
            have hR2 : [] = R := hR1
            subst hE2 hR2
            clear hE1 hR1
            go_wp2_with fail
            go_ret2
            exact ⟨_, rfl, ObjsV.nil _, B9⟩

end Go.Proofs.YthclfkhakmcnbaaGreatDoor
/- Walks of the reference, layer 10: Make, whole. -/
namespace Go.Proofs.YthclfkhakmcnbaaGreatDoor
open Go.RowKit Go.Shelf
attribute [local go_sem] Oper.semAt_some undef
set_option maxRecDepth 100000 in
set_option maxHeartbeats 8000000 in
theorem MakeR_any (l : List ObjD) (hl : FitsS l) (v : Value) (qu : Int) (n : List UInt8) (hn : n.length ≤ maxLen) (k m : Int) (w : World) (hv : ObjsV w v l) :
    Calls Tryz.prog 22 #[v, .int .i64 qu, .string ⟨n.toArray⟩, .int .i64 k, .int .i64 m] w (viewP w (makeS l qu n k m) (makeE l qu n k m)) := by
  obtain ⟨i0, hI, hz0, hz1, hz2⟩ := info_parts infoO
  have HR := refRight_any l hl v w hv
  have HN := fun W => isNameR_below n hn W
  have HF := fun W (h : KeepC w W) => FindR_any l hl.1 v n W (hv.keep h)
  have HM := fun W => newR_any m W
  have hlm := hl.1
  have hEd := makeE_cases l qu n k m
  have hSd : makeS l qu n k m = if makeE l qu n k m = 0 then insS l (mkO n k m) else [] := rfl
  have hfd : findS l n = if idxS l n < l.length then (idxS l n : Int) else -1 := rfl
  have hsp0 : Hid (spaceB l = true → ¬ idxS l n < l.length → nameB n = true → (k == 1 || k == 2) = true → (maxB m && (k == 2 || m == 0)) = true → l.length + 1 ≤ 20 → spaceB (insS l (mkO n k m)) = true) := fun h1 h2 h3 h4 h5 h6 => ins_space h1 (mk_obj h3 h4 h5) (by unfold hasS; exact decide_eq_false h2) h6
  have hsrt : Hid (spaceB l = true → ∀ i (hi : i < l.length), Op.bytesLess l[i].name n = true ↔ i < posS l n) := fun h i hi => pos_at n (space_iff.1 h).1 i hi
  obtain ⟨E, hE⟩ : ∃ E, makeE l qu n k m = E := ⟨_, rfl⟩
  obtain ⟨S, hS⟩ : ∃ S, makeS l qu n k m = S := ⟨_, rfl⟩
  rw [hE] at hEd hSd
  rw [hS] at hSd
  rw [hE, hS]
  clear hE hS
  have hEH := Lib.hid hEd
  have hSH := Lib.hid hSd
  have hfH := Lib.hid hfd
  clear hEd hSd hfd
  cases hsp : spaceB l with
  | false =>
    rw [hsp] at HR hEH
    have hE : E = 110 := hEH.out
    subst hE
    have hS : S = [] := hSH.out
    subst hS
    obtain ⟨av, cv, rfl, -⟩ := hv.at
    clear HF HN HM hv hEH hSH hfH hsp0 hsrt
    go_enter Tryz.func22, Tryz.ntmps22
    go_wp2_with fail
    with_reducible refine HR.mono ?_
    rintro e w1 ⟨rfl, b1⟩
    go_wp2_with fail
    go_ret2
    exact ⟨_, rfl, ObjsV.nil _, b1⟩
  | true =>
    rw [hsp] at HR hEH
    cases hnb : nameB n with
    | false =>
      rw [hnb] at HN hEH
      have hE : E = 100 := hEH.out
      subst hE
      have hS : S = [] := hSH.out
      subst hS
      obtain ⟨av, cv, rfl, -⟩ := hv.at
      clear HF HM hv hEH hSH hfH hsp0 hsrt
      go_enter Tryz.func22, Tryz.ntmps22
      go_wp2_with fail
      with_reducible refine HR.mono ?_
      rintro e w1 ⟨rfl, b1⟩
      go_wp2_with fail
      with_reducible refine (HN _).mono ?_
      rintro e w2 ⟨rfl, b2⟩
      go_wp2_with fail
      go_ret2
      exact ⟨_, rfl, ObjsV.nil _, b1.trans (b2.mono b1.size)⟩
    | true =>
      rw [hnb] at HN hEH
      by_cases hk12 : k = 1 ∨ k = 2
      rotate_left 1
      · have hk1 : (k != 1) = true := by simp; omega
        have hk2 : (k != 2) = true := by simp; omega
        have hkb : (k == 1 || k == 2) = false := by simp; omega
        rw [hkb] at hEH
        have hE : E = 103 := hEH.out
        subst hE
        have hS : S = [] := hSH.out
        subst hS
        obtain ⟨av, cv, rfl, -⟩ := hv.at
        clear HF HM hv hEH hSH hfH hsp0 hsrt hkb hk12
        go_enter Tryz.func22, Tryz.ntmps22
        go_wp2_with fail
        with_reducible refine HR.mono ?_
        rintro e w1 ⟨rfl, b1⟩
        go_wp2_with fail
        with_reducible refine (HN _).mono ?_
        rintro e w2 ⟨rfl, b2⟩
        go_wp2_with fail
        go_ret2
        exact ⟨_, rfl, ObjsV.nil _, b1.trans (b2.mono b1.size)⟩
      · have hkb : (k == 1 || k == 2) = true := by simp; exact hk12
        have hg5 : Hid ((k != 1 && k != 2) = false) := by show _ = _; rcases hk12 with rfl | rfl <;> rfl
        rw [hkb] at hEH
        by_cases hi : idxS l n < l.length
        · have hfs := hfH.out
          rw [if_pos hi] at hfs
          rw [hfs] at HF
          have hE : E = 101 := by rw [hEH.out]; simp [hi]
          subst hE
          have hS : S = [] := hSH.out
          subst hS
          have hge : (0 : Int) ≤ (idxS l n : Int) := by omega
          obtain ⟨av, cv, rfl, -⟩ := hv.at
          clear HM hv hEH hSH hfH hsp0 hsrt hfs hkb
          generalize idxS l n = ix at *
          rcases hk12 with rfl | rfl
          all_goals
            go_enter Tryz.func22, Tryz.ntmps22
            go_wp2_with fail
            with_reducible refine HR.mono ?_
            rintro e w1 ⟨rfl, b1⟩
            go_wp2_with fail
            with_reducible refine (HN _).mono ?_
            rintro e w2 ⟨rfl, b2⟩
            have B2 := b1.trans (b2.mono b1.size)
            go_wp2_with fail
            with_reducible refine (HF _ (KeepC.of_below B2)).mono ?_
            rintro e w3 ⟨rfl, rfl⟩
            go_wp2_with fail
            go_ret2
            exact ⟨_, rfl, ObjsV.nil _, B2⟩
        · have hfs := hfH.out
          rw [if_neg hi] at hfs
          rw [hfs] at HF
          have hE2 : E = if maxB m && (k == 2 || m == 0) then if decide (l.length + 1 ≤ 20) && decide (costL (insS l (mkO n k m)) ≤ qu) then 0 else 104 else 2 := by rw [hEH.out]; simp [hi]
          have hE2H := Lib.hid hE2
          clear hE2 hEH hfs hfH
          cases hmb : (maxB m && (k == 2 || m == 0)) with
          | false =>
            rw [hmb] at hE2H
            have hE : E = 2 := hE2H.out
            subst hE
            have hS : S = [] := hSH.out
            subst hS
            obtain ⟨av, cv, rfl, -⟩ := hv.at
            have hmH := Lib.hid hmb
            clear hv hSH hsp0 hsrt hmb hE2H
            rcases hk12 with rfl | rfl
            · cases hx : maxB m with
              | false =>
                simp only [hx, Bool.false_eq_true, if_false] at HM
                clear hmH hx
                go_enter Tryz.func22, Tryz.ntmps22
                go_wp2_with fail
                with_reducible refine HR.mono ?_
                rintro e w1 ⟨rfl, b1⟩
                go_wp2_with fail
                with_reducible refine (HN _).mono ?_
                rintro e w2 ⟨rfl, b2⟩
                have B2 := b1.trans (b2.mono b1.size)
                go_wp2_with fail
                with_reducible refine (HF _ (KeepC.of_below B2)).mono ?_
                rintro e w3 ⟨rfl, rfl⟩
                go_wp2_with fail
                with_reducible refine (HM _).mono ?_
                rintro e w4 ⟨rfl, b4⟩
                go_wp2_with fail
                go_ret2
                exact ⟨_, rfl, ObjsV.nil _, (B2.trans (b4.mono B2.size)).alloc (B2.trans (b4.mono B2.size)).size _⟩
              | true =>
                have hm0 : (m != 0) = true := by
                  have := hmH.out
                  rw [hx] at this
                  simpa using this
                simp only [hx, if_true] at HM
                clear hmH hx
                go_enter Tryz.func22, Tryz.ntmps22
                go_wp2_with fail
                with_reducible refine HR.mono ?_
                rintro e w1 ⟨rfl, b1⟩
                go_wp2_with fail
                with_reducible refine (HN _).mono ?_
                rintro e w2 ⟨rfl, b2⟩
                have B2 := b1.trans (b2.mono b1.size)
                go_wp2_with fail
                with_reducible refine (HF _ (KeepC.of_below B2)).mono ?_
                rintro e w3 ⟨rfl, rfl⟩
                go_wp2_with fail
                with_reducible refine (HM _).mono ?_
                rintro e w4 ⟨rfl, b4⟩
                go_wp2_with fail
                go_ret2
                exact ⟨_, rfl, ObjsV.nil _, (B2.trans (b4.mono B2.size)).alloc (B2.trans (b4.mono B2.size)).size _⟩
            · have hx : maxB m = false := by have := hmH.out; simpa using this
              simp only [hx, Bool.false_eq_true, if_false] at HM
              clear hmH hx
              go_enter Tryz.func22, Tryz.ntmps22
              go_wp2_with fail
              with_reducible refine HR.mono ?_
              rintro e w1 ⟨rfl, b1⟩
              go_wp2_with fail
              with_reducible refine (HN _).mono ?_
              rintro e w2 ⟨rfl, b2⟩
              have B2 := b1.trans (b2.mono b1.size)
              go_wp2_with fail
              with_reducible refine (HF _ (KeepC.of_below B2)).mono ?_
              rintro e w3 ⟨rfl, rfl⟩
              go_wp2_with fail
              with_reducible refine (HM _).mono ?_
              rintro e w4 ⟨rfl, b4⟩
              go_wp2_with fail
              go_ret2
              exact ⟨_, rfl, ObjsV.nil _, (B2.trans (b4.mono B2.size)).alloc (B2.trans (b4.mono B2.size)).size _⟩
          | true =>
            rw [hmb] at hE2H
            have hm2 : maxB m = true ∧ (k = 2 ∨ m = 0) := by simpa using hmb
            have h := makeR_in l hl v qu n hn k m w hv hsp hnb hk12 hi hm2.1 hm2.2
            have hE3 := hE2H.out
            have hS3 := hSH.out
            rw [hS3, hE3]
            simp only [hsp, hmb, Bool.false_eq_true, if_true, if_false, reduceCtorEq] 
            cases hcc : (decide (l.length + 1 ≤ 20) && decide (costL (insS l (mkO n k m)) ≤ qu)) with
            | true => rw [hcc] at h; exact h
            | false => rw [hcc] at h; exact h
end Go.Proofs.YthclfkhakmcnbaaGreatDoor
