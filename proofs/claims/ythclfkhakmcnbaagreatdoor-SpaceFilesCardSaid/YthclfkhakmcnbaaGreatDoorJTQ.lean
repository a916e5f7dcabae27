/- Joined: DrpA; DrpB; DrpC; Sl1 -/
import Derived.Test.YthclfkhakmcnbaaGreatDoorJTM
import Derived.Test.YthclfkhakmcnbaaGreatDoorJTA
import Derived.Test.YthclfkhakmcnbaaGreatDoorJTP
import Derived.Test.YthclfkhakmcnbaaGreatDoorJTN
/- Walks of layer 10: slices.Delete at objects. -/
namespace Go.Proofs.YthclfkhakmcnbaaGreatDoor
open Go.RowKit Go.Shelf
attribute [local go_sem] Oper.semAt_some
/-- 'clear' of elements that lie in a row -/
theorem run_clear_row {P : Program} (w : World) (t e ty : TypeId) (z : Value) (ht : P.underlying t = some (.slice e)) (hv : ∀ w, (zeroValue e).run P w = .ok z w) (g o n c : Nat) (hn : 0 < n) (cur : Array Value) (te : TypeId) (hg : w.heap[g]? = some (.cells cur te (0, 0)))
    (hfit : o + (Builtin.zeroCells z.cells n).toList.length ≤ cur.size) (h1 : ∀ v ∈ (Builtin.zeroCells z.cells n).toList, v.oneCell' = true) :
    (Builtin.clear_ #[t] ty #[.slice (some ⟨g, o, none⟩) n c]).run P w = .ok (.tuple #[]) (w.setRow g (cur.toList.take o ++ (Builtin.zeroCells z.cells n).toList ++ cur.toList.drop (o + (Builtin.zeroCells z.cells n).toList.length)).toArray) := by
  have hst := run_storeCells_at P g o te (Builtin.zeroCells z.cells n).toList 0 cur w hg (by simpa using hfit) h1
  simp only [Nat.add_zero] at hst
  obtain ⟨m, rfl⟩ : ∃ m, n = m + 1 := ⟨n - 1, by omega⟩
  simp [Builtin.clear_, run_underlying ht, hv, hst]
set_option maxRecDepth 100000 in
set_option maxHeartbeats 8000000 in
theorem delete_any (base : Nat) (l : List ObjD) (hlm : l.length ≤ 1000000) (i : Nat) (hi : i < l.length) (g cap : Nat) (w : World) (hv : ObjsO base 48 9 w (.slice (some ⟨g, 0, none⟩) l.length cap) l) :
    Calls Tryz.prog 68 #[.slice (some ⟨g, 0, none⟩) l.length cap, .int .i64 i, .int .i64 ((i : Int) + 1)] w fun e w' => ∃ v', e = .returned v' ∧ ObjsO base 48 9 w' v' (l.take i ++ l.drop (i + 1)) ∧ w.grownBy w' (some g) := by
  have hge : (0 : Int) ≤ (i : Int) := by omega
  have hlt : (i : Int) + 1 ≤ (l.length : Int) := by omega
  have hne : ¬ ((i : Int) = (i : Int) + 1) := by omega
  have hcap : l.length ≤ cap := by
    obtain ⟨cs, h1, -⟩ := hv
    obtain ⟨-, a', c', e, hn, -⟩ := SlR.of_row h1
    cases e; exact hn
  have hcz : (l.length : Int) ≤ (cap : Int) := by omega
  obtain ⟨i0, hI, hz0, hz1, hz2⟩ := info_parts infoO
  obtain ⟨cs, hown, hrows⟩ := hv
  obtain ⟨cur, hbg, hh, hncap, hcm, hcs, htake⟩ : ∃ cur, base ≤ g ∧ w.heap[g]? = some (.cells cur 48 (0, 0)) ∧ l.length ≤ cap ∧ cap ≤ maxLen ∧ cur.size = cap * 5 ∧ cur.toList.take cs.length = cs := by
    rcases hown.2 with ⟨h', _⟩ | ⟨g', cap', cur, h', h1, h2, h3, h4, h5, h6⟩
    · cases h'
    · cases h'
      exact ⟨cur, h1, h2, h3, h4, h5, by rw [hown.1]; exact h6⟩
  have hcl0 := hown.1
  obtain ⟨o3, ho3⟩ : ∃ o3, (if cap = i + 1 then 0 else (i + 1) * 5) = o3 := ⟨_, rfl⟩
  have hy1 : sliced (some ⟨g, 0, none⟩) 0 i cap 5 = .slice (some ⟨g, 0, none⟩) i cap := by simp [sliced, Addr.add]
  have hy3 : sliced (some ⟨g, 0, none⟩) (i + 1) l.length cap 5 = .slice (some ⟨g, o3, none⟩) (l.length - (i + 1)) (cap - (i + 1)) := by
    rw [← ho3]
    simp only [sliced]
    split
    · simp
    · simp [Addr.add_lit]
  have hicap : (i : Int) ≤ (cap : Int) := by omega
  have hi10 : (0 : Int) ≤ (i : Int) + 1 := by omega
  have hi3 : ((i : Int) + 1).toNat = i + 1 := by omega
  have HY1 := Lib.hid hy1
  have HY3 := Lib.hid hy3
  obtain ⟨news, hnews⟩ : ∃ news, cs.drop ((i + 1) * 5) = news := ⟨_, rfl⟩
  have hnl : news.length = (l.length - (i + 1)) * 5 := by rw [← hnews, List.length_drop, hcl0, Nat.sub_mul]
  have hone : ∀ u ∈ cs, u.oneCell' = true := objsO_rows (tO := 0) hrows
  have hnone : ∀ u ∈ news, u.oneCell' = true := fun u hu => hone u (by rw [← hnews] at hu; exact List.mem_of_mem_drop hu)
  have hncell : ∀ j u, news[j]? = some u → w.drew.cell? ((⟨g, o3, none⟩ : Addr).add j) = some u := fun j u hu => by
    obtain ⟨hj, -⟩ := List.getElem?_eq_some_iff.1 hu
    rw [hnl] at hj
    rw [Addr.add_lit, ← ho3, if_neg (by omega)]
    rw [← hnews, List.getElem?_drop] at hu
    exact row_at hown ((i + 1) * 5 + j) (by omega) u hu
  have HAP := run_append_room (P := Tryz.prog) w.drew 22 22 48 i0 Tryz.underlying22 hI g i cap cur hh ⟨g, o3, none⟩ (l.length - (i + 1)) (cap - (i + 1)) news (by rw [hz1]; exact hnl) hncell hnone (by omega) (by rw [hz1, hnl, hcs]; omega)
  rw [hz1] at HAP
  have hlen1 : i + (l.length - (i + 1)) = l.length - 1 := by omega
  rw [hlen1] at HAP
  obtain ⟨row, hrow⟩ : ∃ row, (cur.toList.take (i * 5) ++ news ++ cur.toList.drop (i * 5 + news.length)) = row := ⟨_, rfl⟩
  rw [hrow] at HAP
  have hrl : row.length = cap * 5 := by
    rw [← hrow]
    simp only [List.length_append, List.length_take, List.length_drop, Array.length_toList, hcs, hnl]
    omega
  have hh1 : (w.drew.setRow g row.toArray).heap[g]? = some (.cells row.toArray 48 (0, 0)) := setRow_heap _ _ _ _ _ _ hh
  have g1 : w.grownBy (w.drew.setRow g row.toArray) (some g) := ⟨rfl, rfl, rfl, by simp, fun k _ hk => setRow_other _ _ _ _ (fun e => hk (by rw [e]))⟩
  have hzv : ∀ w, (zeroValue 48).run Tryz.prog w = .ok (.agg #[.string ⟨#[]⟩, .int .i64 0, .string ⟨#[]⟩, .int .i64 0, .slice none 0 0]) w := fun w => by simp [zeroValue, typeInfo, hI, hz0]
  have hzc : (Builtin.zeroCells (Value.cells (.agg #[.string ⟨#[]⟩, .int .i64 0, .string ⟨#[]⟩, .int .i64 0, .slice none 0 0])) 1).toList = [.string ⟨#[]⟩, .int .i64 0, .string ⟨#[]⟩, .int .i64 0, .slice none 0 0] := by kernel_rfl
  obtain ⟨W1, hW1⟩ : ∃ W1, w.drew.setRow g row.toArray = W1 := ⟨_, rfl⟩
  rw [hW1] at HAP hh1 g1
  obtain ⟨o4, ho4⟩ : ∃ o4, (l.length - 1) * 5 = o4 := ⟨_, rfl⟩
  have hcl := fun ty => run_clear_row (P := Tryz.prog) W1 22 48 ty _ Tryz.underlying22 hzv g o4 1 (cap - (l.length - 1)) (by omega) row.toArray 48 hh1 (by rw [hzc]; simp; rw [hrl]; omega) (by rw [hzc]; simp [Value.oneCell'])
  rw [hzc] at hcl
  obtain ⟨row2, hrow2⟩ : ∃ row2, (row.toArray.toList.take o4 ++ [Value.string ⟨#[]⟩, .int .i64 0, .string ⟨#[]⟩, .int .i64 0, .slice none 0 0] ++ row.toArray.toList.drop (o4 + [Value.string ⟨#[]⟩, .int .i64 0, .string ⟨#[]⟩, .int .i64 0, .slice none 0 0].length)) = row2 := ⟨_, rfl⟩
  rw [hrow2] at hcl
  have FIN : Hid (ObjsO base 48 9 (W1.setRow g row2.toArray) (.slice (some ⟨g, 0, none⟩) (l.length - 1) cap) (l.take i ++ l.drop (i + 1)) ∧ w.grownBy (W1.setRow g row2.toArray) (some g)) := by
    have h2 : (W1.setRow g row2.toArray).heap[g]? = some (.cells row2.toArray 48 (0, 0)) := setRow_heap _ _ _ _ _ _ hh1
    have g2 : w.grownBy (W1.setRow g row2.toArray) (some g) := grownBy_t g1 ⟨rfl, rfl, rfl, by simp, fun k _ hk => setRow_other _ _ _ _ (fun e => hk (by rw [e]))⟩
    have hr : RowT w [9] (some g) := by
      have := RowT.of_row hown [9] (by decide)
      simpa [Value.ownBlock] using this
    have hlen : (l.take i ++ l.drop (i + 1)).length = l.length - 1 := by rw [List.length_append, List.length_take, List.length_drop]; omega
    refine ⟨⟨cs.take (i * 5) ++ news, ?_, ?_⟩, g2⟩
    · rw [hlen]
      refine ⟨by rw [List.length_append, List.length_take, hnl, hcl0]; omega, .inr ⟨g, cap, row2.toArray, rfl, hbg, h2, by omega, hcm, ?_, ?_⟩⟩
      · rw [← hrow2]
        simp only [List.size_toArray, List.length_append, List.length_take, List.length_drop, List.length_cons, List.length_nil, hrl]
        omega
      · rw [← hrow2]
        have e1 : (l.length - 1) * 5 = i * 5 + news.length := by rw [hnl]; omega
        have e2 : row.take (i * 5 + news.length) = cs.take (i * 5) ++ news := by
          rw [← hrow]
          have l1 : (cur.toList.take (i * 5)).length = i * 5 := by rw [List.length_take, Array.length_toList, hcs]; omega
          have l2 : (cur.toList.take (i * 5) ++ news).length = i * 5 + news.length := by rw [List.length_append, l1]
          rw [List.take_append_of_le_length (by rw [l2]; exact Nat.le_refl _), List.take_of_length_le (by rw [l2]; exact Nat.le_refl _)]
          congr 1
          rw [← htake, List.take_take, Nat.min_eq_left (by rw [hcl0]; omega)]
        have l3 : (row.take o4).length = o4 := by rw [List.length_take, hrl]; omega
        rw [← ho4, e1] at l3
        rw [← ho4, e1]
        rw [List.append_assoc, List.take_append_of_le_length (by rw [l3]; exact Nat.le_refl _), List.take_of_length_le (by rw [l3]; exact Nat.le_refl _), e2]
    · have r1 := hrows.take ObjO.len i
      have r2 := hrows.drop ObjO.len (i + 1)
      rw [hnews] at r2
      exact (r1.append r2).mono fun x _ c hc => hc.kept g2 hr
  have hcapne : ¬ (cap = l.length - 1) := by omega
  have h5 : l.length - (l.length - 1) = 1 := by omega
  have h6 : ((l.length - 1 : Nat) : Int) ≤ (l.length : Int) := by omega
  clear hzv hzc hown hrows hh hcs htake hncell hnone hone hnl hrow hrl hW1 hrow2 g1 hh1 hnews hI hz0 hz1 hz2 hcl0 hbg hncap hcm hlen1 hy1 hy3 ho3
  have hclH := Lib.hid hcl
  have hAH := Lib.hid HAP
  clear hcl HAP
  go_enter Tryz.func68, Tryz.ntmps68
  go_wp2_with fail
  refine wp_region_noPanic ?_
  refine wp_region_held_drew (S := (fun _ => True)) (by kernel_rfl) ?_ (fun hHeld => ?_)
  · exact trivial
  refine wpAnyH_take (i := 0) (oi := _) (v := ?_) (nth_at rfl) (by kernel_rfl) (by kernel_rfl) (by kernel_rfl) (fun _ _ _ h => h) (Or.inl ⟨by rfl, ?_⟩) (by assumption) ?_
  rotate_left 1
  · intro w hSw; (try dsimp only at hSw); (go_simp <;> with_reducible rfl)
  try simp only [Act.put, List.setIfInBounds_toArray, List.set_cons_zero, List.set_cons_succ]
  refine wpAnyH_take (i := 1) (oi := _) (v := ?_) (nth_at rfl) (by kernel_rfl) (by kernel_rfl) (by kernel_rfl) (fun _ _ _ h => h) (Or.inl ⟨by rfl, ?_⟩) (by assumption) ?_
  rotate_left 1
  · intro w hSw; (try dsimp only at hSw); (go_simp <;> with_reducible rfl)
  try simp only [Act.put, List.setIfInBounds_toArray, List.set_cons_zero, List.set_cons_succ]
  refine wpAnyH_take (i := 2) (oi := _) (v := .slice (some ⟨g, 0, none⟩) i cap) (nth_at rfl) (by kernel_rfl) (by kernel_rfl) (by kernel_rfl) (fun _ _ _ h => h) (Or.inl ⟨by rfl, ?_⟩) (by assumption) ?_
  · intro w hSw; (try dsimp only at hSw); (go_simp <;> (have h := HY1.out; simp [sliced] at h ⊢; first | done | exact h))
  try simp only [Act.put, List.setIfInBounds_toArray, List.set_cons_zero, List.set_cons_succ]
  refine wpAnyH_take (i := 3) (oi := _) (v := ?_) (nth_at rfl) (by kernel_rfl) (by kernel_rfl) (by kernel_rfl) (fun _ _ _ h => h) (Or.inl ⟨by rfl, ?_⟩) (by assumption) ?_
  rotate_left 1
  · intro w hSw; (try dsimp only at hSw); (go_simp <;> with_reducible rfl)
  try simp only [Act.put, List.setIfInBounds_toArray, List.set_cons_zero, List.set_cons_succ]
  refine wpAnyH_take (i := 4) (oi := _) (v := ?_) (nth_at rfl) (by kernel_rfl) (by kernel_rfl) (by kernel_rfl) (fun _ _ _ h => h) (Or.inl ⟨by rfl, ?_⟩) (by assumption) ?_
  rotate_left 1
  · intro w hSw; (try dsimp only at hSw); (go_simp <;> with_reducible rfl)
  try simp only [Act.put, List.setIfInBounds_toArray, List.set_cons_zero, List.set_cons_succ]
  refine wpAnyH_take (i := 5) (oi := _) (v := .slice (some ⟨g, o3, none⟩) (l.length - (i + 1)) (cap - (i + 1))) (nth_at rfl) (by kernel_rfl) (by kernel_rfl) (by kernel_rfl) (fun _ _ _ h => h) (Or.inl ⟨by rfl, ?_⟩) (by assumption) ?_
  · intro w hSw; (try dsimp only at hSw); (go_simp <;> (have h := HY3.out; simp [sliced, hi3, Addr.add_lit] at h ⊢; exact h))
  try simp only [Act.put, List.setIfInBounds_toArray, List.set_cons_zero, List.set_cons_succ]
  refine wpAnyH_ready (rs := [6]) (by kernel_rfl) (by simp) ?_
  refine AllReadyH.cons (o := _) (nth_at rfl) (fun K hK => ?_) AllReadyH.nil
  rw [if_pos (by rfl)]
  refine Lib.wp_append_run _ _ _ _ _ rfl _ _ rfl rfl _ _ hAH.out ?_
  refine hK.out _ _ ?_ (fun hHeld => ?_)
  · exact trivial
  clear hK K
  try simp only [Act.put, List.setIfInBounds_toArray, List.set_cons_zero, List.set_cons_succ]
  refine wpAnyH_take (i := 7) (oi := _) (v := ?_) (nth_at rfl) (by kernel_rfl) (by kernel_rfl) (by kernel_rfl) (fun _ _ _ h => h) (Or.inl ⟨by rfl, ?_⟩) (by assumption) ?_
  rotate_left 1
  · intro w hSw; (try dsimp only at hSw); (go_simp <;> with_reducible rfl)
  try simp only [Act.put, List.setIfInBounds_toArray, List.set_cons_zero, List.set_cons_succ]
  refine wpAnyH_done (by kernel_rfl) ?_ _
  refine NoPanic.normal ?_
  have hcl := hclH.out
  clear hclH hAH
  go_wp2_with fail
  go_ret
  exact ⟨_, rfl, by have := FIN.out.1; exact this, FIN.out.2⟩
end Go.Proofs.YthclfkhakmcnbaaGreatDoor
/- Walks of layer 10: Drop. -/
namespace Go.Proofs.YthclfkhakmcnbaaGreatDoor
open Go.RowKit Go.Shelf
attribute [local go_sem] Oper.semAt_some
def drop1P (base q eb : Nat) (W : World) (L : List ObjD) (e : Ending) (W' : World) : Prop :=
  e = .returned (.int .i64 0) ∧ ∃ v', Blk W' q #[v', .nilIface] 71 ∧ ObjsO base 48 9 W' v' L ∧ Boxed W' eb 62 (.pointer (some ⟨q, 0, none⟩)) ∧ Below base W W'
theorem objsO_ne_boxed {base tO tS g cap : Nat} {W : World} {l : List ObjD} {eb : Nat} {t : TypeId} {u : Value} (hv : ObjsO base tO tS W (.slice (some ⟨g, 0, none⟩) l.length cap) l) (h : Boxed W eb t u) (hne : t ≠ tO) : g ≠ eb := by
  rintro rfl
  obtain ⟨cs, h1, -⟩ := hv
  rcases h1.2 with ⟨h', _⟩ | ⟨g', cap', cur, h', _, hh, _⟩
  · cases h'
  · cases h'
    have h2 : W.heap[g]? = some (.cells #[u] t (0, 0)) := h
    rw [h2] at hh
    injection hh with hh
    injection hh with _ hh
    exact hne hh
theorem objsO_ne_blk {base tO tS g cap : Nat} {W : World} {l : List ObjD} {q : Nat} {t : TypeId} {cs' : Array Value} (hv : ObjsO base tO tS W (.slice (some ⟨g, 0, none⟩) l.length cap) l) (h : Blk W q cs' t) (hne : t ≠ tO) : g ≠ q := by
  rintro rfl
  obtain ⟨cs, h1, -⟩ := hv
  rcases h1.2 with ⟨h', _⟩ | ⟨g', cap', cur, h', _, hh, _⟩
  · cases h'
  · cases h'
    have h2 : W.heap[g]? = some (.cells cs' t (0, 0)) := h
    rw [h2] at hh
    injection hh with hh
    injection hh with _ hh
    exact hne hh
set_option maxRecDepth 100000 in
set_option maxHeartbeats 8000000 in
theorem drop1_any (q eb base : Nat) (l : List ObjD) (hl : FitsS l) (n : List UInt8) (hi : idxS l n < l.length) (v : Value) (W : World)
    (hq : Blk W q #[v, .nilIface] 71) (he : Boxed W eb 62 (.pointer (some ⟨q, 0, none⟩))) (hv : ObjsO base 48 9 W v l) (hbase : base ≤ W.heap.size) (hbq : base ≤ q) :
    Calls Tryz.prog 67 #[.int .i64 (idxS l n), .pointer (some ⟨eb, 0, none⟩)] W (drop1P base q eb W (l.take (idxS l n) ++ l.drop (idxS l n + 1))) := by
  have hlm := hl.1
  obtain ⟨g, cap, hat | hat⟩ := objsO_at hv (idxS l n) hi
  rotate_left 1
  · exact absurd hat (by decide)
  obtain ⟨rfl, hbg, hgl, -, -, -, -, -, -, -⟩ := hat
  have hgq := objsO_ne_blk hv hq (by decide)
  have hge := objsO_ne_boxed hv he (by decide)
  have hqe := boxed_ne_blk he hq (by decide)
  have HDel := Lib.hid (delete_any base l hlm (idxS l n) hi g cap W.drew (hv.kept (row := none) ⟨rfl, rfl, rfl, Nat.le_refl _, fun _ _ _ => rfl⟩ (RowT.none _ _)))
  generalize idxS l n = ix at *
  generalize l.take ix ++ l.drop (ix + 1) = L at *
  have e0 := hq.cell 0
  have ec := he.cell
  simp at e0
  have hw1 : IntKind.i64.wrap ((ix : Int) + 1) = (ix : Int) + 1 := IntWalk.i64_in _ (by omega)
  have F2 : Hid (∀ w2 v2, ObjsO base 48 9 w2 v2 L → W.drew.grownBy w2 (some g) → w2.cell? ⟨eb, 0, none⟩ = some (.pointer (some ⟨q, 0, none⟩)) ∧ w2.cell? ⟨q, 0, none⟩ = some (.slice (some ⟨g, 0, none⟩) l.length cap) ∧ w2.frozen? ⟨q, 0, none⟩ = false ∧ (∃ a n c, v2 = .slice a n c) ∧
      drop1P base q eb W L (.returned (.int .i64 0)) (w2.setCell ⟨q, 0, none⟩ v2)) := by
    show ∀ w2, _
    intro w2 v2 o2 g2
    have he2 : Boxed w2 eb 62 (.pointer (some ⟨q, 0, none⟩)) := (show Boxed W.drew eb _ _ from he).kept g2 (by simp; omega)
    have hq2 : Blk w2 q #[.slice (some ⟨g, 0, none⟩) l.length cap, .nilIface] 71 := (show Blk W.drew q _ _ from hq).kept g2 (by simp; omega)
    have gs := grownBy_setCellB w2 q 0 v2
    obtain ⟨a2, c2, rfl, -⟩ := o2.view.at
    refine ⟨he2.cell, (hq2.cell 0).trans rfl, hq2.frozen 0, ⟨_, _, _, rfl⟩, rfl, _, by simpa using hq2.set 0 (.slice a2 L.length c2), o2.kept gs (RowT.blk hq2 _ (by decide)), he2.kept gs (by simpa using hqe), ?_⟩
    exact (((Below.refl W.heap.size W).drew.mono hbase).grown g2 hbase (fun k e => by cases e; exact hbg)).setCell (p := ⟨q, 0, none⟩) hbq _
  clear hq he hv hgq hge hqe
  go_enter Tryz.func67, Tryz.ntmps67
  go_wp2_with fail
  refine wp_region_noPanic ?_
  refine wp_region_any (by kernel_rfl) ?_
  change wpAny _ _ _ _ _ _ _ (World.drew _)
  refine wpAny_take (i := 6) (oi := _) (v := ?_) (nth_at rfl) (by kernel_rfl) (by kernel_rfl) (by kernel_rfl) (fun _ _ _ h => h) (Or.inl ⟨by rfl, ?_⟩) ?_
  rotate_left 1
  · intro w; (go_simp <;> with_reducible rfl)
  try simp only [Act.put, List.setIfInBounds_toArray, List.set_cons_zero, List.set_cons_succ]
  refine wpAny_take (i := 7) (oi := _) (v := ?_) (nth_at rfl) (by kernel_rfl) (by kernel_rfl) (by kernel_rfl) (fun _ _ _ h => h) (Or.inl ⟨by rfl, ?_⟩) ?_
  rotate_left 1
  · intro w; (go_simp <;> with_reducible rfl)
  try simp only [Act.put, List.setIfInBounds_toArray, List.set_cons_zero, List.set_cons_succ]
  refine wpAny_take (i := 8) (oi := _) (v := ?_) (nth_at rfl) (by kernel_rfl) (by kernel_rfl) (by kernel_rfl) (fun _ _ _ h => h) (Or.inl ⟨by rfl, ?_⟩) ?_
  rotate_left 1
  · intro w; (go_simp <;> with_reducible rfl)
  try simp only [Act.put, List.setIfInBounds_toArray, List.set_cons_zero, List.set_cons_succ]
  refine wpAny_ready (rs := [0, 1]) (by kernel_rfl) (by simp) ?_
  refine AllReady.cons (o := _) (nth_at rfl) (fun K hK => ?_) ?_
  · go_simp
    refine hK _ _ ?_
    clear hK K
    try simp only [Act.put, List.setIfInBounds_toArray, List.set_cons_zero, List.set_cons_succ]
    refine wpAny_ready (rs := [1]) (by kernel_rfl) (by simp) ?_
    refine AllReady.cons (o := _) (nth_at rfl) (fun K hK => ?_) AllReady.nil
    go_simp
    refine hK _ _ ?_
    clear hK K
    try simp only [Act.put, List.setIfInBounds_toArray, List.set_cons_zero, List.set_cons_succ]
    refine wpAny_take (i := 2) (oi := _) (v := ?_) (nth_at rfl) (by kernel_rfl) (by kernel_rfl) (by kernel_rfl) (fun _ _ _ h => h) (Or.inl ⟨by rfl, ?_⟩) ?_
    rotate_left 1
    · intro w; (go_simp <;> with_reducible rfl)
    try simp only [Act.put, List.setIfInBounds_toArray, List.set_cons_zero, List.set_cons_succ]
    refine wpAny_take (i := 3) (oi := _) (v := ?_) (nth_at rfl) (by kernel_rfl) (by kernel_rfl) (by kernel_rfl) (fun _ _ _ h => h) (Or.inl ⟨by rfl, ?_⟩) ?_
    rotate_left 1
    · intro w; (go_simp <;> with_reducible rfl)
    try simp only [Act.put, List.setIfInBounds_toArray, List.set_cons_zero, List.set_cons_succ]
    refine wpAny_take (i := 4) (oi := _) (v := ?_) (nth_at rfl) (by kernel_rfl) (by kernel_rfl) (by kernel_rfl) (fun _ _ _ h => h) (Or.inl ⟨by rfl, ?_⟩) ?_
    rotate_left 1
    · intro w; (go_simp <;> with_reducible rfl)
    try simp only [Act.put, List.setIfInBounds_toArray, List.set_cons_zero, List.set_cons_succ]
    refine wpAny_ready (rs := [5]) (by kernel_rfl) (by simp) ?_
    refine AllReady.cons (o := _) (nth_at rfl) (fun K hK => ?_) AllReady.nil
    go_simp
    refine hK _ _ ?_
    clear hK K
    try simp only [Act.put, List.setIfInBounds_toArray, List.set_cons_zero, List.set_cons_succ]
    refine wpAny_ready (rs := [9]) (by kernel_rfl) (by simp) ?_
    refine AllReady.cons (o := _) (nth_at rfl) (fun K hK => ?_) AllReady.nil
    go_simp
    with_reducible refine HDel.out.mono ?_
    rintro e w2 ⟨v2, rfl, o2, g2⟩
    obtain ⟨x1, x2, x3, ⟨_, _, _, rfl⟩, x4⟩ := F2.out _ _ o2 g2
    have X4 := Lib.hid x4
    clear o2 x4
    refine hK _ _ ?_
    clear hK K
    try simp only [Act.put, List.setIfInBounds_toArray, List.set_cons_zero, List.set_cons_succ]
    refine wpAny_take (i := 10) (oi := _) (v := ?_) (nth_at rfl) (by kernel_rfl) (by kernel_rfl) (by kernel_rfl) (fun _ _ _ h => h) (Or.inl ⟨by rfl, ?_⟩) ?_
    rotate_left 1
    · intro w; (go_simp <;> with_reducible rfl)
    try simp only [Act.put, List.setIfInBounds_toArray, List.set_cons_zero, List.set_cons_succ]
    refine wpAny_take (i := 11) (oi := _) (v := ?_) (nth_at rfl) (by kernel_rfl) (by kernel_rfl) (by kernel_rfl) (fun _ _ _ h => h) (Or.inl ⟨by rfl, ?_⟩) ?_
    rotate_left 1
    · intro w; (go_simp <;> with_reducible rfl)
    try simp only [Act.put, List.setIfInBounds_toArray, List.set_cons_zero, List.set_cons_succ]
    refine wpAny_take (i := 12) (oi := _) (v := ?_) (nth_at rfl) (by kernel_rfl) (by kernel_rfl) (by kernel_rfl) (fun _ _ _ h => h) (Or.inl ⟨by rfl, ?_⟩) ?_
    rotate_left 1
    · intro w; (go_simp <;> with_reducible rfl)
    try simp only [Act.put, List.setIfInBounds_toArray, List.set_cons_zero, List.set_cons_succ]
    refine wpAny_ready (rs := [13]) (by kernel_rfl) (by simp) ?_
    refine AllReady.cons (o := _) (nth_at rfl) (fun K hK => ?_) AllReady.nil
    go_simp
    refine hK _ _ ?_
    clear hK K
    try simp only [Act.put, List.setIfInBounds_toArray, List.set_cons_zero, List.set_cons_succ]
    refine wpAny_done (by kernel_rfl) ?_ _
    refine NoPanic.normal ?_
    go_wp2_with fail
    go_ret
    exact X4.out
  refine AllReady.cons (o := _) (nth_at rfl) (fun K hK => ?_) AllReady.nil
  go_simp
  refine hK _ _ ?_
  clear hK K
  try simp only [Act.put, List.setIfInBounds_toArray, List.set_cons_zero, List.set_cons_succ]
  refine wpAny_take (i := 2) (oi := _) (v := ?_) (nth_at rfl) (by kernel_rfl) (by kernel_rfl) (by kernel_rfl) (fun _ _ _ h => h) (Or.inl ⟨by rfl, ?_⟩) ?_
  rotate_left 1
  · intro w; (go_simp <;> with_reducible rfl)
  try simp only [Act.put, List.setIfInBounds_toArray, List.set_cons_zero, List.set_cons_succ]
  refine wpAny_take (i := 3) (oi := _) (v := ?_) (nth_at rfl) (by kernel_rfl) (by kernel_rfl) (by kernel_rfl) (fun _ _ _ h => h) (Or.inl ⟨by rfl, ?_⟩) ?_
  rotate_left 1
  · intro w; (go_simp <;> with_reducible rfl)
  try simp only [Act.put, List.setIfInBounds_toArray, List.set_cons_zero, List.set_cons_succ]
  refine wpAny_take (i := 4) (oi := _) (v := ?_) (nth_at rfl) (by kernel_rfl) (by kernel_rfl) (by kernel_rfl) (fun _ _ _ h => h) (Or.inl ⟨by rfl, ?_⟩) ?_
  rotate_left 1
  · intro w; (go_simp <;> with_reducible rfl)
  try simp only [Act.put, List.setIfInBounds_toArray, List.set_cons_zero, List.set_cons_succ]
  refine wpAny_ready (rs := [0, 5]) (by kernel_rfl) (by simp) ?_
  refine AllReady.cons (o := _) (nth_at rfl) (fun K hK => ?_) ?_
  · go_simp
    refine hK _ _ ?_
    clear hK K
    try simp only [Act.put, List.setIfInBounds_toArray, List.set_cons_zero, List.set_cons_succ]
    refine wpAny_ready (rs := [5]) (by kernel_rfl) (by simp) ?_
    refine AllReady.cons (o := _) (nth_at rfl) (fun K hK => ?_) AllReady.nil
    go_simp
    refine hK _ _ ?_
    clear hK K
    try simp only [Act.put, List.setIfInBounds_toArray, List.set_cons_zero, List.set_cons_succ]
    refine wpAny_ready (rs := [9]) (by kernel_rfl) (by simp) ?_
    refine AllReady.cons (o := _) (nth_at rfl) (fun K hK => ?_) AllReady.nil
    go_simp
    with_reducible refine HDel.out.mono ?_
    rintro e w2 ⟨v2, rfl, o2, g2⟩
    obtain ⟨x1, x2, x3, ⟨_, _, _, rfl⟩, x4⟩ := F2.out _ _ o2 g2
    have X4 := Lib.hid x4
    clear o2 x4
    refine hK _ _ ?_
    clear hK K
    try simp only [Act.put, List.setIfInBounds_toArray, List.set_cons_zero, List.set_cons_succ]
    refine wpAny_take (i := 10) (oi := _) (v := ?_) (nth_at rfl) (by kernel_rfl) (by kernel_rfl) (by kernel_rfl) (fun _ _ _ h => h) (Or.inl ⟨by rfl, ?_⟩) ?_
    rotate_left 1
    · intro w; (go_simp <;> with_reducible rfl)
    try simp only [Act.put, List.setIfInBounds_toArray, List.set_cons_zero, List.set_cons_succ]
    refine wpAny_take (i := 11) (oi := _) (v := ?_) (nth_at rfl) (by kernel_rfl) (by kernel_rfl) (by kernel_rfl) (fun _ _ _ h => h) (Or.inl ⟨by rfl, ?_⟩) ?_
    rotate_left 1
    · intro w; (go_simp <;> with_reducible rfl)
    try simp only [Act.put, List.setIfInBounds_toArray, List.set_cons_zero, List.set_cons_succ]
    refine wpAny_take (i := 12) (oi := _) (v := ?_) (nth_at rfl) (by kernel_rfl) (by kernel_rfl) (by kernel_rfl) (fun _ _ _ h => h) (Or.inl ⟨by rfl, ?_⟩) ?_
    rotate_left 1
    · intro w; (go_simp <;> with_reducible rfl)
    try simp only [Act.put, List.setIfInBounds_toArray, List.set_cons_zero, List.set_cons_succ]
    refine wpAny_ready (rs := [13]) (by kernel_rfl) (by simp) ?_
    refine AllReady.cons (o := _) (nth_at rfl) (fun K hK => ?_) AllReady.nil
    go_simp
    refine hK _ _ ?_
    clear hK K
    try simp only [Act.put, List.setIfInBounds_toArray, List.set_cons_zero, List.set_cons_succ]
    refine wpAny_done (by kernel_rfl) ?_ _
    refine NoPanic.normal ?_
    go_wp2_with fail
    go_ret
    exact X4.out
  refine AllReady.cons (o := _) (nth_at rfl) (fun K hK => ?_) AllReady.nil
  go_simp
  refine hK _ _ ?_
  clear hK K
  try simp only [Act.put, List.setIfInBounds_toArray, List.set_cons_zero, List.set_cons_succ]
  refine wpAny_ready (rs := [0, 9]) (by kernel_rfl) (by simp) ?_
  refine AllReady.cons (o := _) (nth_at rfl) (fun K hK => ?_) ?_
  · go_simp
    refine hK _ _ ?_
    clear hK K
    try simp only [Act.put, List.setIfInBounds_toArray, List.set_cons_zero, List.set_cons_succ]
    refine wpAny_ready (rs := [9]) (by kernel_rfl) (by simp) ?_
    refine AllReady.cons (o := _) (nth_at rfl) (fun K hK => ?_) AllReady.nil
    go_simp
    with_reducible refine HDel.out.mono ?_
    rintro e w2 ⟨v2, rfl, o2, g2⟩
    obtain ⟨x1, x2, x3, ⟨_, _, _, rfl⟩, x4⟩ := F2.out _ _ o2 g2
    have X4 := Lib.hid x4
    clear o2 x4
    refine hK _ _ ?_
    clear hK K
    try simp only [Act.put, List.setIfInBounds_toArray, List.set_cons_zero, List.set_cons_succ]
    refine wpAny_take (i := 10) (oi := _) (v := ?_) (nth_at rfl) (by kernel_rfl) (by kernel_rfl) (by kernel_rfl) (fun _ _ _ h => h) (Or.inl ⟨by rfl, ?_⟩) ?_
    rotate_left 1
    · intro w; (go_simp <;> with_reducible rfl)
    try simp only [Act.put, List.setIfInBounds_toArray, List.set_cons_zero, List.set_cons_succ]
    refine wpAny_take (i := 11) (oi := _) (v := ?_) (nth_at rfl) (by kernel_rfl) (by kernel_rfl) (by kernel_rfl) (fun _ _ _ h => h) (Or.inl ⟨by rfl, ?_⟩) ?_
    rotate_left 1
    · intro w; (go_simp <;> with_reducible rfl)
    try simp only [Act.put, List.setIfInBounds_toArray, List.set_cons_zero, List.set_cons_succ]
    refine wpAny_take (i := 12) (oi := _) (v := ?_) (nth_at rfl) (by kernel_rfl) (by kernel_rfl) (by kernel_rfl) (fun _ _ _ h => h) (Or.inl ⟨by rfl, ?_⟩) ?_
    rotate_left 1
    · intro w; (go_simp <;> with_reducible rfl)
    try simp only [Act.put, List.setIfInBounds_toArray, List.set_cons_zero, List.set_cons_succ]
    refine wpAny_ready (rs := [13]) (by kernel_rfl) (by simp) ?_
    refine AllReady.cons (o := _) (nth_at rfl) (fun K hK => ?_) AllReady.nil
    go_simp
    refine hK _ _ ?_
    clear hK K
    try simp only [Act.put, List.setIfInBounds_toArray, List.set_cons_zero, List.set_cons_succ]
    refine wpAny_done (by kernel_rfl) ?_ _
    refine NoPanic.normal ?_
    go_wp2_with fail
    go_ret
    exact X4.out
  refine AllReady.cons (o := _) (nth_at rfl) (fun K hK => ?_) AllReady.nil
  go_simp
  with_reducible refine HDel.out.mono ?_
  rintro e w2 ⟨v2, rfl, o2, g2⟩
  obtain ⟨x1, x2, x3, ⟨_, _, _, rfl⟩, x4⟩ := F2.out _ _ o2 g2
  have X4 := Lib.hid x4
  clear o2 x4
  refine hK _ _ ?_
  clear hK K
  try simp only [Act.put, List.setIfInBounds_toArray, List.set_cons_zero, List.set_cons_succ]
  refine wpAny_ready (rs := [0]) (by kernel_rfl) (by simp) ?_
  refine AllReady.cons (o := _) (nth_at rfl) (fun K hK => ?_) AllReady.nil
  go_simp
  refine hK _ _ ?_
  clear hK K
  try simp only [Act.put, List.setIfInBounds_toArray, List.set_cons_zero, List.set_cons_succ]
  refine wpAny_take (i := 10) (oi := _) (v := ?_) (nth_at rfl) (by kernel_rfl) (by kernel_rfl) (by kernel_rfl) (fun _ _ _ h => h) (Or.inl ⟨by rfl, ?_⟩) ?_
  rotate_left 1
  · intro w; (go_simp <;> with_reducible rfl)
  try simp only [Act.put, List.setIfInBounds_toArray, List.set_cons_zero, List.set_cons_succ]
  refine wpAny_take (i := 11) (oi := _) (v := ?_) (nth_at rfl) (by kernel_rfl) (by kernel_rfl) (by kernel_rfl) (fun _ _ _ h => h) (Or.inl ⟨by rfl, ?_⟩) ?_
  rotate_left 1
  · intro w; (go_simp <;> with_reducible rfl)
  try simp only [Act.put, List.setIfInBounds_toArray, List.set_cons_zero, List.set_cons_succ]
  refine wpAny_take (i := 12) (oi := _) (v := ?_) (nth_at rfl) (by kernel_rfl) (by kernel_rfl) (by kernel_rfl) (fun _ _ _ h => h) (Or.inl ⟨by rfl, ?_⟩) ?_
  rotate_left 1
  · intro w; (go_simp <;> with_reducible rfl)
  try simp only [Act.put, List.setIfInBounds_toArray, List.set_cons_zero, List.set_cons_succ]
  refine wpAny_ready (rs := [13]) (by kernel_rfl) (by simp) ?_
  refine AllReady.cons (o := _) (nth_at rfl) (fun K hK => ?_) AllReady.nil
  go_simp
  refine hK _ _ ?_
  clear hK K
  try simp only [Act.put, List.setIfInBounds_toArray, List.set_cons_zero, List.set_cons_succ]
  refine wpAny_done (by kernel_rfl) ?_ _
  refine NoPanic.normal ?_
  go_wp2_with fail
  go_ret
  exact X4.out
end Go.Proofs.YthclfkhakmcnbaaGreatDoor
/- Walks of layer 10: Drop. -/
namespace Go.Proofs.YthclfkhakmcnbaaGreatDoor
open Go.RowKit Go.Shelf
attribute [local go_sem] Oper.semAt_some
set_option maxRecDepth 100000 in
set_option maxHeartbeats 8000000 in
theorem Drop_any (l : List ObjD) (hl : FitsS l) (v : Value) (n : List UInt8) (ea : Addr) (w : World) (hge : w.cell? ⟨0, 0, none⟩ = some (errV8 ea)) (het : ErrT w) (hv : ObjsV w v l) :
    Calls Tryz.prog 23 #[v, .string ⟨n.toArray⟩] w (makeP w.heap.size w (dropS l n) (dropE l n)) := by
  have hmf : ∀ (fn : Fn) (first cap : Array Value) (w : World), (Instr.makeFunc fn first cap).run Tryz.prog w = .ok (.func fn first cap) w := fun _ _ _ _ => rfl
  obtain ⟨E, hE⟩ : ∃ E, dropE l n = E := ⟨_, rfl⟩
  have hdS : Hid (dropS l n = if E = 0 then l.take (idxS l n) ++ l.drop (idxS l n + 1) else []) := by show _ = _; rw [← hE]; rfl
  have hEW : E = editE l n 0 := hE.symm
  rw [hE]
  clear hE
  generalize dropS l n = S at *
  obtain ⟨av, cv, rfl, -⟩ := hv.at
  have HO := open_any l hl (.slice av l.length cv) ea _ hge hv
  have HX := Lib.hid (fun W (h : KeepC w W) q v ev c hev hvs hq => end_any q v ev c hev hvs W (h.2 _ _ _ het) hq)
  clear hge het
  have hEWH := Lib.hid hEW
  clear hEW
  go_enter Tryz.func23, Tryz.ntmps23
  go_wp2_with fail
  with_reducible refine HO.mono ?_
  rintro e w1 ⟨q, v1, rfl, hqw, q1, o1', B1⟩
  clear HO
  go_wp2_with fail
  have e2 := Boxed.new w1 62 (.pointer (some ⟨q, 0, none⟩))
  have A2 := Below.alloc (Below.refl w1.heap.size w1) (Nat.le_refl _) (.cells #[.pointer (some ⟨q, 0, none⟩)] 62)
  have b2 := B1.trans (A2.mono B1.size)
  have q2 := q1.below A2 q1.lt
  have o2 := o1'.kept (grown_of_below A2 none) (RowT.none _ _)
  have hew : w.heap.size ≤ w1.heap.size := B1.size
  clear q1 o1' A2 B1
  generalize heb : w1.heap.size = eb at *
  clear heb
  generalize w1.alloc (.cells #[.pointer (some ⟨q, 0, none⟩)] 62) = W2 at *
  obtain ⟨av1, cv1, rfl, -⟩ := o2.view.at
  by_cases hed : editE l n 0 = 0
  · obtain rfl : E = 0 := hEWH.out.trans hed
    obtain ⟨hsp, hi, -⟩ := edit_zero.1 hed
    have HDO := edit_do q _ l hl.1 n 0 (.inl rfl) 67 #[.pointer (some ⟨eb, 0, none⟩)]
      (fun why W' => 0 = why ∧ ∃ v', Blk W' q #[v', .nilIface] 71 ∧ ObjsO w.heap.size 48 9 W' v' (l.take (idxS l n) ++ l.drop (idxS l n + 1)) ∧ Boxed W' eb 62 (.pointer (some ⟨q, 0, none⟩)) ∧ Below w.heap.size W2 W')
      W2 q2 o2.view hed (enters_of Tryz.func67 (by kernel_rfl) rfl) (fun W hW => by
        have q3 : Blk W q #[.slice av1 l.length cv1, .nilIface] 71 := by
          have := q2.below hW q2.lt
          rw [hsp] at this
          simpa using this
        have := drop1_any q eb w.heap.size l hl n hi (.slice av1 l.length cv1) W q3 ((hW.block _ (Array.getElem?_eq_some_iff.1 e2).1).trans e2) (o2.kept (grown_of_below hW none) (RowT.none _ _)) (Nat.le_trans b2.size hW.size) hqw
        refine this.mono fun e W' ⟨h1, v', h2, h3, h4, h5⟩ => ⟨_, h1, ⟨rfl, v', h2, h3, h4, (hW.mono b2.size).trans h5⟩, _, h2⟩)
    have hS : S = l.take (idxS l n) ++ l.drop (idxS l n + 1) := hdS.out
    rw [← hS] at HDO
    clear hdS hEWH hS
    with_reducible refine HDO.mono ?_
    rintro e w3 ⟨rfl, why, W', ⟨rfl, v', q3, o3, e3, b3'⟩, -, hw3⟩
    rw [if_pos rfl] at hw3
    subst hw3
    have b3 := b2.trans b3'
    obtain ⟨av', cv', rfl, -⟩ := o3.view.at
    have HXx := HX.out W' (KeepC.of_below b3) q _ _ 0 (.inl ⟨rfl, rfl⟩) ⟨_, _, _, rfl⟩ q3
    rw [if_pos rfl] at HXx
    have e3c := e3.cell
    clear HX q3 e3 HDO o2 q2 e2 b2 b3'
    go_wp2_with fail
    with_reducible refine HXx.mono ?_
    rintro e w4 ⟨rfl, b4⟩
    go_wp2_with fail
    go_ret2
    exact ⟨_, rfl, o3.kept (grown_of_below b4 none) (RowT.none _ _), b3.trans (b4.mono b3.size)⟩
  · have hE := hEWH.out
    have hS : S = [] := by rw [hdS.out, if_neg (by rw [hE]; exact hed)]
    subst hS
    have HN := edit_no q _ l hl.1 n 0 (.inl rfl) (.func (.func 67) #[] #[.pointer (some ⟨eb, 0, none⟩)]) W2 q2 o2.view hed
    rw [← hE] at HN
    have hE0 : E ≠ 0 := by rw [hE]; exact hed
    clear hE hed hEWH hdS
    with_reducible refine HN.mono ?_
    rintro e w3 ⟨rfl, q3, g3⟩
    have e3 := (e2.kept g3 (by simpa using boxed_ne_blk e2 q2 (by decide))).cell
    have b3 := b2.grown g3 b2.size (fun k e => by cases e; exact hqw)
    have HXx := HX.out w3 (KeepC.of_below b3) q _ _ E (.inr (.inl ⟨hE0, rfl⟩)) ⟨_, _, _, rfl⟩ q3
    rw [if_neg hE0] at HXx
    clear HN HX q3 g3 e2 o2 q2 b2
    go_wp2_with fail
    with_reducible refine HXx.mono ?_
    rintro e w4 ⟨rfl, b4⟩
    go_wp2_with fail
    go_ret2
    exact ⟨_, rfl, ObjsO.nil _ _ _ _, b3.trans (b4.mono b3.size)⟩
end Go.Proofs.YthclfkhakmcnbaaGreatDoor
/- What the laws of layer 10 hand on fits: what is written, cut, dropped. -/
namespace Go.Proofs.YthclfkhakmcnbaaGreatDoor
theorem dataS_fits {l : List ObjD} (hl : FitsS l) (q : Int) (n : List UInt8) (b : Bool) (s : List UInt8) (hs : b = true → s.length ≤ 1000) : FitsS (dataS l q n b s) := by
  by_cases h : dataE l q n b s = 0
  · obtain ⟨h1, h2, -⟩ := data_zero.1 h
    obtain ⟨-, hi, -⟩ := edit_zero.1 h1
    unfold dataS
    rw [if_pos h]
    exact setD_fits s (hs h2) hl hi
  · unfold dataS
    rw [if_neg h]
    exact nil_fitSX
theorem writeS_fits {l : List ObjD} (hl : FitsS l) (q : Int) (n : List UInt8) (k : Int) (t : List UInt8) : FitsS (writeS l q n k t) := dataS_fits hl q n _ _ fun hb => fwrite_len hb
theorem cutS_fits {l : List ObjD} (hl : FitsS l) (q : Int) (n : List UInt8) (k : Int) : FitsS (cutS l q n k) := dataS_fits hl q n _ _ fun hb => fcut_len hb
theorem dropS_fits {l : List ObjD} (hl : FitsS l) (n : List UInt8) : FitsS (dropS l n) := by
  unfold dropS
  split
  · refine ⟨?_, fun x hx => hl.2 x (drop_mem hx)⟩
    have := hl.1
    rw [List.length_append, List.length_take, List.length_drop]
    omega
  · exact nil_fitSX
end Go.Proofs.YthclfkhakmcnbaaGreatDoor
