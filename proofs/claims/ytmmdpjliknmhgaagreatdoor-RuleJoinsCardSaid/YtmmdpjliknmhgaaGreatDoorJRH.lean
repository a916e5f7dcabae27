/- Joined: RuL; RuB; RuC; RulAs; RuT -/
import Derived.Test.YtmmdpjliknmhgaaGreatDoorJRG
import Derived.Test.YtmmdpjliknmhgaaGreatDoorJRF
import Derived.Test.YtmmdpjliknmhgaaGreatDoorJRA
import Derived.LaidEql
import Derived.Stop.Asserts
import Derived.RowKitTokens
/- Walks of layer 14: line. -/
namespace Go.Proofs.YtmmdpjliknmhgaaGreatDoor
open Go.RowKit Go.Shelf
attribute [local go_sem] Oper.semAt_some
theorem join6 (a b c d e f : List UInt8) (hlen : (a ++ 32 :: (b ++ 32 :: (c ++ 32 :: (d ++ 32 :: (e ++ 32 :: f))))).length ≤ 1000000) (W : World) (bk : Nat) (q : Blk W bk #[.string ⟨a.toArray⟩, .string ⟨b.toArray⟩, .string ⟨c.toArray⟩, .string ⟨d.toArray⟩, .string ⟨e.toArray⟩, .string ⟨f.toArray⟩] 9) :
    Calls Tryz.prog 42 #[.slice (some ⟨bk, 0, none⟩) 6 6, .string ⟨#[32]⟩] W fun x w' => x = .returned (.string ⟨(a ++ 32 :: (b ++ 32 :: (c ++ 32 :: (d ++ 32 :: (e ++ 32 :: f))))).toArray⟩) ∧ Below W.heap.size W w' := by
  have hj : Lib.join ([⟨a.toArray⟩, ⟨b.toArray⟩, ⟨c.toArray⟩, ⟨d.toArray⟩, ⟨e.toArray⟩, ⟨f.toArray⟩].map fun (x : ByteArray) => x.data.toList) (ByteArray.mk #[32]).data.toList = a ++ 32 :: (b ++ 32 :: (c ++ 32 :: (d ++ 32 :: (e ++ 32 :: f)))) := by
    simp [Lib.join]
  have := Tryz.strings_Join bk 0 6 [⟨a.toArray⟩, ⟨b.toArray⟩, ⟨c.toArray⟩, ⟨d.toArray⟩, ⟨e.toArray⟩, ⟨f.toArray⟩] ⟨#[32]⟩ W (fun j x hx => by
    rw [Nat.zero_add, q.cell j]
    match j, hx with
    | 0, hx => cases hx; rfl
    | 1, hx => cases hx; rfl
    | 2, hx => cases hx; rfl
    | 3, hx => cases hx; rfl
    | 4, hx => cases hx; rfl
    | 5, hx => cases hx; rfl
    | j + 6, hx => simp at hx) q.lt (by simp) (by simp) (by rw [hj]; omega)
  rw [hj] at this
  exact this
theorem isRX_facts {r : RuT} (h : isRX labK filK r = true) : (1 ≤ r.id ∧ r.id ≤ 99) ∧ labB r.src.1 r.src.2.2 = true ∧ labB r.dst.1 r.dst.2.2 = true ∧ (0 ≤ r.budget ∧ r.budget ≤ 1000) ∧ rightB r.what.1 r.what.2.1 r.what.2.2 = true := by
  simp only [isRX, labK, filK, Bool.and_eq_true, decide_eq_true_eq] at h
  obtain ⟨⟨⟨⟨⟨⟨⟨i1, i2⟩, s1, -⟩, s2, -⟩, -⟩, b1⟩, b2⟩, f1⟩ := h
  exact ⟨⟨i1, i2⟩, s1, s2, ⟨b1, b2⟩, f1⟩
theorem labT_len (lv ig : Int) (S : Nat) (h : labB lv ig = true) : (labT lv S ig).length ≤ 1500 := by
  obtain ⟨h1, h2, h3, h4⟩ := (labB_iff lv ig).1 h
  have a := digL_len lv (by omega)
  have b := digL_len ig (by omega)
  have c := setT_len S
  simp [labT]; omega
theorem head_len (r : RuT) (h : isRX labK filK r = true) : (headX labK filK r).length ≤ 10000 := by
  obtain ⟨⟨i1, i2⟩, s1, s2, ⟨b1, b2⟩, f1⟩ := isRX_facts h
  have a := digL_len r.id (by omega)
  have b := digL_len r.budget (by omega)
  have c := labT_len r.src.1 r.src.2.2 r.src.2.1 s1
  have d := labT_len r.dst.1 r.dst.2.2 r.dst.2.1 s2
  have e := fprint_len r.what.1 r.what.2.1 r.what.2.2 f1
  unfold headX
  simp [labK, filK]; omega
set_option maxRecDepth 100000 in
set_option maxHeartbeats 4000000 in
theorem line_any (r : RuT) (hr : OkR r) (h : isRX labK filK r = true) (ea : Addr) (w : World) (hge : w.cell? ⟨1, 0, none⟩ = some (eV ea)) (hT : Tab w) :
    Calls Tryz.prog 28 #[ruV r] w fun e w' => e = .returned (.string ⟨(lineX labK filK r).toArray⟩) ∧ Below w.heap.size w w' := by
  obtain ⟨⟨i1', i2'⟩, s1, s2, ⟨b1', b2'⟩, f1⟩ := isRX_facts h
  have hlen := head_len r h
  have hhead : headX labK filK r = [114, 117, 108, 101] ++ 32 :: (digL r.id ++ 32 :: (labT r.src.1 r.src.2.1 r.src.2.2 ++ 32 :: (labT r.dst.1 r.dst.2.1 r.dst.2.2 ++ 32 :: (digL r.budget ++ 32 :: fprintL r.what.1 r.what.2.1 r.what.2.2)))) := rfl
  have hline : lineX labK filK r = headX labK filK r ++ [10] := rfl
  obtain ⟨id, ⟨l1, S1, i1⟩, ⟨l2, S2, i2⟩, bu, ⟨k, m, form⟩⟩ := r
  obtain ⟨hS1, hS2, hfm⟩ := hr
  dsimp only at *
  obtain ⟨p1, p2, p3, p4⟩ := (labB_iff _ _).1 s1
  obtain ⟨q1, q2, q3, q4⟩ := (labB_iff _ _).1 s2
  have hTl := hT.lt
  have H1 := fun W (h : Below w.heap.size w W) => print_yes l1 i1 S1 hS1 W (hT.same (h.block _ hTl)) p1 p2 p3 p4
  have H2 := fun W (h : Below w.heap.size w W) => print_yes l2 i2 S2 hS2 W (hT.same (h.block _ hTl)) q1 q2 q3 q4
  have H3 := fun W (h : KeepC w W) => print2 k m form (Nat.le_trans hfm (by unfold maxLen; omega)) ea W (h.2 _ _ _ hge)
  have hpA : printA k m form = fprintL k m form := by unfold printA; rw [if_pos f1]
  have hpE : errE k m form = 0 := by unfold errE; rw [if_pos f1]
  rw [hpA, hpE] at H3
  have HD1 := fun W => Digits_any id W (by omega)
  have HD2 := fun W => Digits_any bu W (by omega)
  have HJ := fun W bk q => join6 [114, 117, 108, 101] (digL id) (labT l1 S1 i1) (labT l2 S2 i2) (digL bu) (fprintL k m form) (by rw [← hhead]; omega) W bk q
  rw [← hhead] at HJ
  rw [hline]
  generalize headX labK filK ⟨id, (l1, S1, i1), (l2, S2, i2), bu, (k, m, form)⟩ = HX at *
  generalize labT l1 S1 i1 = T1 at *
  generalize labT l2 S2 i2 = T2 at *
  generalize fprintL k m form = T3 at *
  generalize digL id = T4 at *
  generalize digL bu = T5 at *
  have hzs : ¬ (9223372036854775807 < HX.length + 1) := by omega
  have hz0 := ba_size HX
  have B0 := (Below.refl _ w).alloc (Nat.le_refl _) (.cells #[.int .i64 id, .int .i64 l1, .int .u64 S1, .int .i64 i1, .int .i64 l2, .int .u64 S2, .int .i64 i2, .int .i64 bu, .int .i64 k, .int .i64 m, .string ⟨form.toArray⟩] 40)
  have n0 := Blk.new w #[.int .i64 id, .int .i64 l1, .int .u64 S1, .int .i64 i1, .int .i64 l2, .int .u64 S2, .int .i64 i2, .int .i64 bu, .int .i64 k, .int .i64 m, .string ⟨form.toArray⟩] 40
  obtain ⟨W0, hW0⟩ : ∃ W0, w.alloc (.cells #[.int .i64 id, .int .i64 l1, .int .u64 S1, .int .i64 i1, .int .i64 l2, .int .u64 S2, .int .i64 i2, .int .i64 bu, .int .i64 k, .int .i64 m, .string ⟨form.toArray⟩] 40) = W0 := ⟨_, rfl⟩
  rw [hW0] at B0 n0
  have SK : Hid (∀ W, Below W0.heap.size W0 W → W.cell? ⟨w.heap.size, 0, none⟩ = some (.int .i64 id) ∧ (W.cell? ⟨w.heap.size, 1, none⟩ = some (.int .i64 l1) ∧ W.cell? ⟨w.heap.size, 2, none⟩ = some (.int .u64 S1) ∧ W.cell? ⟨w.heap.size, 3, none⟩ = some (.int .i64 i1)) ∧ (W.cell? ⟨w.heap.size, 4, none⟩ = some (.int .i64 l2) ∧ W.cell? ⟨w.heap.size, 5, none⟩ = some (.int .u64 S2) ∧ W.cell? ⟨w.heap.size, 6, none⟩ = some (.int .i64 i2)) ∧ W.cell? ⟨w.heap.size, 7, none⟩ = some (.int .i64 bu) ∧
      (W.cell? ⟨w.heap.size, 8, none⟩ = some (.int .i64 k) ∧ W.cell? ⟨w.heap.size, 9, none⟩ = some (.int .i64 m) ∧ W.cell? ⟨w.heap.size, 10, none⟩ = some (.string ⟨form.toArray⟩))) := by
    show ∀ W, _
    intro W h
    have q := n0.below h n0.lt
    exact ⟨(q.cell 0).trans rfl, ⟨(q.cell 1).trans rfl, (q.cell 2).trans rfl, (q.cell 3).trans rfl⟩, ⟨(q.cell 4).trans rfl, (q.cell 5).trans rfl, (q.cell 6).trans rfl⟩, (q.cell 7).trans rfl, (q.cell 8).trans rfl, (q.cell 9).trans rfl, (q.cell 10).trans rfl⟩
  obtain ⟨c0, ⟨c1, c2, c3⟩, ⟨c4, c5, c6⟩, c7, c8, c9, c10⟩ := SK.out W0 (Below.refl _ _)
  clear n0 hge hfm hS1 hS2 hT hhead hline hlen h f1 hpA hpE s1 s2
  go_enter Tryz.func28, Tryz.ntmps28
  go_wp2_with fail
  with_reducible refine (H1 _ B0).mono ?_
  rintro e w1 ⟨rfl, b1⟩
  have C1 := b1
  have B1 := B0.trans (b1.mono B0.size)
  clear c0 c1 c2 c3 c4 c5 c6 c7 c8 c9 c10 H1 b1
  obtain ⟨-, -, ⟨c4, c5, c6⟩, -, -, -, -⟩ := SK.out w1 C1
  go_wp2_with fail
  with_reducible refine (H2 _ B1).mono ?_
  rintro e w2 ⟨rfl, b2⟩
  have C2 := C1.trans (b2.mono C1.size)
  have B2 := B1.trans (b2.mono B1.size)
  clear c4 c5 c6 H2 b2 B1 C1
  obtain ⟨-, -, -, -, c8, c9, c10⟩ := SK.out w2 C2
  go_wp2_with fail
  with_reducible refine (H3 _ (KeepC.of_below B2)).mono ?_
  rintro e w3 ⟨rfl, b3⟩
  have C3 := C2.trans (b3.mono C2.size)
  have B3 := B2.trans (b3.mono B2.size)
  clear c8 c9 c10 H3 b3 B2 C2
  have SK3 : Hid (∀ u, Below w3.heap.size w3 u → u.cell? ⟨w.heap.size, 0, none⟩ = some (.int .i64 id) ∧ u.cell? ⟨w.heap.size, 7, none⟩ = some (.int .i64 bu)) := by
    show ∀ u, _
    intro u h
    obtain ⟨d0, -, -, d7, -⟩ := SK.out u (C3.trans (h.mono C3.size))
    exact ⟨d0, d7⟩
  have D3 : Below w3.heap.size w3 w3.drew := (Below.refl _ w3).drew
  clear SK
  go_wp2_with fail
  refine wp_region_noPanic ?_
  refine wp_region_held_drew (S := (fun u => u.cell? ⟨w.heap.size, 0, none⟩ = some (.int .i64 id) ∧ u.cell? ⟨w.heap.size, 7, none⟩ = some (.int .i64 bu))) (by kernel_rfl) ?_ (fun hHeld => ?_)
  · exact SK3.out _ D3
  refine wpAnyH_take (i := 0) (oi := _) (v := ?_) (nth_at rfl) (by kernel_rfl) (by kernel_rfl) (by kernel_rfl) (fun _ _ _ h => h) (Or.inl ⟨by rfl, ?_⟩) (by assumption) ?_
  rotate_left 1
  · intro w hSw; (try dsimp only at hSw); (go_simp <;> with_reducible rfl)
  try simp only [Act.put, List.setIfInBounds_toArray, List.set_cons_zero, List.set_cons_succ]
  refine wpAnyH_take (i := 1) (oi := _) (v := ?_) (nth_at rfl) (by kernel_rfl) (by kernel_rfl) (by kernel_rfl) (fun _ _ _ h => h) (Or.inl ⟨by rfl, ?_⟩) (by assumption) ?_
  rotate_left 1
  · intro w hSw; (try dsimp only at hSw); (go_simp <;> with_reducible rfl)
  try simp only [Act.put, List.setIfInBounds_toArray, List.set_cons_zero, List.set_cons_succ]
  refine wpAnyH_take (i := 3) (oi := _) (v := ?_) (nth_at rfl) (by kernel_rfl) (by kernel_rfl) (by kernel_rfl) (fun _ _ _ h => h) (Or.inl ⟨by rfl, ?_⟩) (by assumption) ?_
  rotate_left 1
  · intro w hSw; (try dsimp only at hSw); (go_simp <;> with_reducible rfl)
  try simp only [Act.put, List.setIfInBounds_toArray, List.set_cons_zero, List.set_cons_succ]
  refine wpAnyH_take (i := 4) (oi := _) (v := ?_) (nth_at rfl) (by kernel_rfl) (by kernel_rfl) (by kernel_rfl) (fun _ _ _ h => h) (Or.inl ⟨by rfl, ?_⟩) (by assumption) ?_
  rotate_left 1
  · intro w hSw; (try dsimp only at hSw); (go_simp <;> with_reducible rfl)
  try simp only [Act.put, List.setIfInBounds_toArray, List.set_cons_zero, List.set_cons_succ]
  refine wpAnyH_take (i := 5) (oi := _) (v := ?_) (nth_at rfl) (by kernel_rfl) (by kernel_rfl) (by kernel_rfl) (fun _ _ _ h => h) (Or.inl ⟨by rfl, ?_⟩) (by assumption) ?_
  rotate_left 1
  · intro w hSw; (try dsimp only at hSw); (go_simp <;> with_reducible rfl)
  try simp only [Act.put, List.setIfInBounds_toArray, List.set_cons_zero, List.set_cons_succ]
  refine wpAnyH_take (i := 6) (oi := _) (v := ?_) (nth_at rfl) (by kernel_rfl) (by kernel_rfl) (by kernel_rfl) (fun _ _ _ h => h) (Or.inl ⟨by rfl, ?_⟩) (by assumption) ?_
  rotate_left 1
  · intro w hSw; (try dsimp only at hSw); (go_simp <;> with_reducible rfl)
  try simp only [Act.put, List.setIfInBounds_toArray, List.set_cons_zero, List.set_cons_succ]
  refine wpAnyH_take (i := 8) (oi := _) (v := ?_) (nth_at rfl) (by kernel_rfl) (by kernel_rfl) (by kernel_rfl) (fun _ _ _ h => h) (Or.inl ⟨by rfl, ?_⟩) (by assumption) ?_
  rotate_left 1
  · intro w hSw; (try dsimp only at hSw); (go_simp <;> with_reducible rfl)
  try simp only [Act.put, List.setIfInBounds_toArray, List.set_cons_zero, List.set_cons_succ]
  refine wpAnyH_ready (rs := [2]) (by kernel_rfl) (by simp) ?_
  refine AllReadyH.cons (o := _) (nth_at rfl) (fun K hK => ?_) AllReadyH.nil
  go_simp
  with_reducible refine (HD1 _).mono ?_
  rintro e w4 ⟨rfl, b4⟩
  have D4 := D3.trans (b4.mono D3.size)
  have s4 := SK3.out _ D4
  try clear hHeld
  refine hK.out _ _ ?_ (fun hHeld => ?_)
  · exact s4
  clear hK K
  try simp only [Act.put, List.setIfInBounds_toArray, List.set_cons_zero, List.set_cons_succ]
  refine wpAnyH_ready (rs := [7]) (by kernel_rfl) (by simp) ?_
  refine AllReadyH.cons (o := _) (nth_at rfl) (fun K hK => ?_) AllReadyH.nil
  go_simp
  with_reducible refine (HD2 _).mono ?_
  rintro e w5 ⟨rfl, b5⟩
  have D5 := D4.trans (b5.mono D4.size)
  have s5 := SK3.out _ D5
  try clear hHeld
  refine hK.out _ _ ?_ (fun hHeld => ?_)
  · exact s5
  clear hK K
  try simp only [Act.put, List.setIfInBounds_toArray, List.set_cons_zero, List.set_cons_succ]
  refine wpAnyH_ready (rs := [9]) (by kernel_rfl) (by simp) ?_
  refine AllReadyH.cons (o := _) (nth_at rfl) (fun K hK => ?_) AllReadyH.nil
  go_simp
  try clear hHeld
  refine hK.out _ _ ?_ (fun hHeld => ?_)
  · exact SK3.out _ (D5.alloc D5.size _)
  clear hK K
  try simp only [Act.put, List.setIfInBounds_toArray, List.set_cons_zero, List.set_cons_succ]
  refine wpAnyH_ready (rs := [10]) (by kernel_rfl) (by simp) ?_
  refine AllReadyH.cons (o := _) (nth_at rfl) (fun K hK => ?_) AllReadyH.nil
  go_simp
  obtain ⟨W7, hW7⟩ : ∃ W7, w5.alloc (.cells #[.string ⟨#[114, 117, 108, 101]⟩, .string ⟨T4.toArray⟩, .string ⟨T1.toArray⟩, .string ⟨T2.toArray⟩, .string ⟨T5.toArray⟩, .string ⟨T3.toArray⟩] 9) = W7 := ⟨_, rfl⟩
  rw [hW7]
  have q7 : Blk W7 w5.heap.size #[.string ⟨#[114, 117, 108, 101]⟩, .string ⟨T4.toArray⟩, .string ⟨T1.toArray⟩, .string ⟨T2.toArray⟩, .string ⟨T5.toArray⟩, .string ⟨T3.toArray⟩] 9 := hW7 ▸ Blk.new _ _ _
  have D7 : Below w3.heap.size w3 W7 := hW7 ▸ D5.alloc D5.size _
  refine (HJ _ _ q7).mono ?_
  rintro e w8 ⟨rfl, b8⟩
  have D8 := D7.trans (b8.mono D7.size)
  have s8 := SK3.out _ D8
  try clear hHeld
  refine hK.out _ _ ?_ (fun hHeld => ?_)
  · exact s8
  clear hK K
  try simp only [Act.put, List.setIfInBounds_toArray, List.set_cons_zero, List.set_cons_succ]
  refine wpAnyH_take (i := 11) (oi := _) (v := ?_) (nth_at rfl) (by kernel_rfl) (by kernel_rfl) (by kernel_rfl) (fun _ _ _ h => h) (Or.inl ⟨by rfl, ?_⟩) (by assumption) ?_
  rotate_left 1
  · intro w hSw; (try dsimp only at hSw); (go_simp <;> with_reducible rfl)
  try simp only [Act.put, List.setIfInBounds_toArray, List.set_cons_zero, List.set_cons_succ]
  refine wpAnyH_take (i := 12) (oi := _) (v := ?_) (nth_at rfl) (by kernel_rfl) (by kernel_rfl) (by kernel_rfl) (fun _ _ _ h => h) (Or.inl ⟨by rfl, ?_⟩) (by assumption) ?_
  rotate_left 1
  · intro w hSw; (try dsimp only at hSw); (go_simp <;> with_reducible rfl)
  try simp only [Act.put, List.setIfInBounds_toArray, List.set_cons_zero, List.set_cons_succ]
  refine wpAnyH_done (by kernel_rfl) ?_ _
  refine NoPanic.normal ?_
  try clear hHeld
  go_wp2_with fail
  go_ret
  exact ⟨rfl, B3.trans (D8.mono B3.size)⟩
end Go.Proofs.YtmmdpjliknmhgaaGreatDoor
/- Walks of layer 14: areRight, Right, Find. -/
namespace Go.Proofs.YtmmdpjliknmhgaaGreatDoor
open Go.RowKit Go.Shelf
attribute [local go_sem] Oper.semAt_some
/-- the Id of the last of the first k rules -/
def lastR (l : List RuT) (k : Nat) : Int := ((l.take k).getLast?.map RuleX.id).getD 0
theorem lastR_succ (l : List RuT) (k : Nat) (hk : k < l.length) : lastR l (k + 1) = l[k].id := by
  unfold lastR
  rw [List.take_succ_eq_append_getElem hk, List.getLast?_concat]; rfl
theorem asc_succ (l : List RuT) (k : Nat) (hk : k < l.length) : ruL.asc 0 (l.take (k + 1)) = (ruL.asc 0 (l.take k) && (isRX labK filK l[k] && decide (lastR l k < l[k].id))) := by
  rw [List.take_succ_eq_append_getElem hk, LineS.asc_app]
  congr 1
  simp only [LineS.asc, Bool.and_true]
  rfl
theorem asc_no (l : List RuT) (k : Nat) (h : ruL.asc 0 (l.take k) = false) : ruL.right l = false := by
  have e : ruL.asc 0 l = false := by
    have := LineS.asc_app ruL (l.take k) (l.drop k) 0
    rw [List.take_append_drop, h] at this
    rw [this]; rfl
  unfold LineS.right
  rw [e]; rfl
set_option maxRecDepth 100000 in
set_option maxHeartbeats 4000000 in
theorem areRight_any (l : List RuT) (hl : l.length ≤ 1000000) (hok : ∀ r ∈ l, OkR r) (v : Value) (ea : Addr) (w : World) (hge : w.cell? ⟨1, 0, none⟩ = some (eV ea)) (hv : RulesV w v l) :
    Calls Tryz.prog 34 #[v] w fun e w' => e = .returned (.bool (ruL.right l)) ∧ Below w.heap.size w w' := by
  obtain ⟨a, cap, rfl, -, hc⟩ := hv.at
  have HI := fun r (hr : OkR r) W (h : KeepC w W) => isRule_any r hr ea W (h.2 _ _ _ hge)
  have hstep := Lib.hid (asc_succ l)
  have hlast := Lib.hid (lastR_succ l)
  have hno := Lib.hid (asc_no l)
  have hend : Hid (ruL.asc 0 (l.take l.length) = true → ruL.right l = decide (l.length ≤ 8)) := fun h => by
    rw [List.take_length] at h
    unfold LineS.right
    rw [h]; rfl
  generalize ruL.right l = R at *
  have h0 : lastR l 0 = 0 := rfl
  generalize hlr : lastR l = lr at *
  clear hv hge hlr
  go_enter Tryz.func34, Tryz.ntmps34
  go_wp2_with fail
  go_loopg [3, 8] l.length (fun gg s3 s8 wr => ∃ kk : Nat, kk ≤ l.length ∧ l.length - kk ≤ gg ∧ s3 = .int .i64 (lr kk) ∧ s8 = .int .i64 kk ∧ Below w.heap.size w wr ∧ Hid (ruL.asc 0 (l.take kk) = true))
  case atStart => exact ⟨0, Nat.zero_le _, by omega, by rw [h0], rfl, Below.refl _ _, rfl⟩
  case round =>
    obtain ⟨kk, hkk, hg, rfl, rfl, hB, A⟩ := hrel
    by_cases hlt : kk < l.length
    · have hltz : (kk : Int) < (l.length : Int) := by omega
      have hkz : (0 : Int) ≤ (kk : Int) := by omega
      obtain ⟨b, o, rfl, -, hcl⟩ := hc kk hlt
      obtain ⟨k0, k1, k2, k3, k4, k5, k6, k7, k8, k9, k10⟩ := hcl _ (KeepC.of_below hB)
      have hst := hstep.out kk hlt
      rw [A.out, Bool.true_and] at hst
      have hls := hlast.out kk hlt
      have HIx := fun W (h : KeepC w W) => HI l[kk] (hok _ (List.getElem_mem hlt)) W h
      have hN : Hid (ruL.asc 0 (l.take (kk + 1)) = false → R = false) := fun h => hno.out (kk + 1) h
      clear hc hcl hstep hlast hno hend A HI hok
      generalize isRX labK filK l[kk] = ir at *
      generalize has : ruL.asc 0 (l.take (kk + 1)) = aq at *
      have hasH := Lib.hid has
      clear has
      obtain ⟨x, hx⟩ : ∃ x, l[kk] = x := ⟨_, rfl⟩
      rw [hx] at k0 k1 k2 k3 k4 k5 k6 k7 k8 k9 k10 hst hls
      simp only [hx] at HIx
      clear hx
      obtain ⟨id, ⟨l1, S1, i1⟩, ⟨l2, S2, i2⟩, bu, ⟨k, m, form⟩⟩ := x
      dsimp only at *
      have b1 := Blk.new wr #[.int .i64 id, .int .i64 l1, .int .u64 S1, .int .i64 i1, .int .i64 l2, .int .u64 S2, .int .i64 i2, .int .i64 bu, .int .i64 k, .int .i64 m, .string ⟨form.toArray⟩] 40
      obtain ⟨W1, hW1⟩ : ∃ W1, wr.alloc (.cells #[.int .i64 id, .int .i64 l1, .int .u64 S1, .int .i64 i1, .int .i64 l2, .int .u64 S2, .int .i64 i2, .int .i64 bu, .int .i64 k, .int .i64 m, .string ⟨form.toArray⟩] 40) = W1 := ⟨_, rfl⟩
      rw [hW1] at b1
      have B1 : Below w.heap.size w W1 := hW1 ▸ hB.alloc hB.size _
      have HIy := HIx W1 (KeepC.of_below B1)
      have c0 : W1.cell? ⟨wr.heap.size, 0, none⟩ = some (.int .i64 id) := (b1.cell 0).trans rfl
      have c1 : W1.cell? ⟨wr.heap.size, 1, none⟩ = some (.int .i64 l1) := (b1.cell 1).trans rfl
      have c2 : W1.cell? ⟨wr.heap.size, 2, none⟩ = some (.int .u64 S1) := (b1.cell 2).trans rfl
      have c3 : W1.cell? ⟨wr.heap.size, 3, none⟩ = some (.int .i64 i1) := (b1.cell 3).trans rfl
      have c4 : W1.cell? ⟨wr.heap.size, 4, none⟩ = some (.int .i64 l2) := (b1.cell 4).trans rfl
      have c5 : W1.cell? ⟨wr.heap.size, 5, none⟩ = some (.int .u64 S2) := (b1.cell 5).trans rfl
      have c6 : W1.cell? ⟨wr.heap.size, 6, none⟩ = some (.int .i64 i2) := (b1.cell 6).trans rfl
      have c7 : W1.cell? ⟨wr.heap.size, 7, none⟩ = some (.int .i64 bu) := (b1.cell 7).trans rfl
      have c8 : W1.cell? ⟨wr.heap.size, 8, none⟩ = some (.int .i64 k) := (b1.cell 8).trans rfl
      have c9 : W1.cell? ⟨wr.heap.size, 9, none⟩ = some (.int .i64 m) := (b1.cell 9).trans rfl
      have c10 : W1.cell? ⟨wr.heap.size, 10, none⟩ = some (.string ⟨form.toArray⟩) := (b1.cell 10).trans rfl
      clear HIx
      cases ir with
      | false =>
        have hR := hN.out (by rw [hst]; rfl)
        subst hR
        clear hN hst hls
        go_wp2_with fail
        with_reducible refine HIy.mono ?_
        rintro e w2 ⟨rfl, b2⟩
        go_wp2_with fail
        go_ret
        exact ⟨rfl, B1.trans (b2.mono B1.size)⟩
      | true =>
        rw [Bool.true_and] at hst
        generalize hla : lr kk = la at *
        clear hla
        by_cases h : la < id
        · have hz : ¬ id ≤ la := by omega
          have A2 : Hid (aq = true) := by show _ = _; rw [hst]; exact decide_eq_true h
          have hls2 := Lib.hid hls
          clear hN hst hls h
          go_wp2_with fail
          with_reducible refine HIy.mono ?_
          rintro e w2 ⟨rfl, b2⟩
          have d0 : w2.cell? ⟨wr.heap.size, 0, none⟩ = some (.int .i64 id) := ((b1.below b2 b1.lt).cell 0).trans rfl
          go_wp2_with fail
          go_roundg (l.length - (kk + 1))
          case measure => omega
          case rel => exact ⟨kk + 1, by omega, by omega, by rw [hls2.out], by go_num, B1.trans (b2.mono B1.size), by show _ = _; rw [hasH.out]; exact A2.out⟩
        · have hz : id ≤ la := by omega
          have hR := hN.out (by rw [hst]; exact decide_eq_false h)
          subst hR
          clear hN hst hls h
          go_wp2_with fail
          with_reducible refine HIy.mono ?_
          rintro e w2 ⟨rfl, b2⟩
          have d0 : w2.cell? ⟨wr.heap.size, 0, none⟩ = some (.int .i64 id) := ((b1.below b2 b1.lt).cell 0).trans rfl
          go_wp2_with fail
          go_ret
          exact ⟨rfl, B1.trans (b2.mono B1.size)⟩
    · have hltz : ¬ (kk : Int) < (l.length : Int) := by omega
      have hkl : kk = l.length := by omega
      subst hkl
      have hR := hend.out A.out
      clear hc hstep hlast hno hend A HI hok
      go_wp2_with fail
      go_ret
      exact ⟨ret_bool (decide_eq_decide.2 (by omega)), hB⟩
end Go.Proofs.YtmmdpjliknmhgaaGreatDoor
/- Walks of layer 14: Right, Find. -/
namespace Go.Proofs.YtmmdpjliknmhgaaGreatDoor
open Go.RowKit Go.Shelf
attribute [local go_sem] Oper.semAt_some
set_option maxRecDepth 100000 in
theorem ruRight_any (l : List RuT) (hl : l.length ≤ 1000000) (hok : ∀ r ∈ l, OkR r) (v : Value) (ea : Addr) (w : World) (hge : w.cell? ⟨1, 0, none⟩ = some (eV ea)) (hv : RulesV w v l) :
    Calls Tryz.prog 17 #[v] w fun e w' => e = .returned (.bool (ruL.right l)) ∧ Below w.heap.size w w' := by
  have H := areRight_any l hl hok v ea w hge hv
  generalize ruL.right l = R at *
  clear hge hv
  go_enter Tryz.func17, Tryz.ntmps17
  go_wp2_with fail
  with_reducible refine H.mono ?_
  rintro e w1 ⟨rfl, b1⟩
  go_wp2_with fail
  go_ret
  exact ⟨rfl, b1⟩
def zRu : RuT := ⟨0, (0, 0, 0), (0, 0, 0), 0, (0, 0, [])⟩
def findRu (l : List RuT) (n : Int) : Option RuT := l.find? fun r => r.id == n
theorem findRu_in {l : List RuT} {n : Int} (k : Nat) (hk : k < l.length) (h : ∀ i (hi : i < l.length), i < k → l[i].id ≠ n) (he : l[k].id = n) : findRu l n = some l[k] := by
  unfold findRu
  rw [List.find?_eq_some_iff_getElem]
  exact ⟨by simpa using he, k, hk, rfl, fun j hj => by simpa using h j (by omega) hj⟩
theorem findRu_out {l : List RuT} {n : Int} (h : ∀ i (hi : i < l.length), l[i].id ≠ n) : findRu l n = none := by
  unfold findRu
  rw [List.find?_eq_none]
  intro x hx
  obtain ⟨i, hi, rfl⟩ := List.mem_iff_getElem.1 hx
  simpa using h i hi
set_option maxRecDepth 100000 in
set_option maxHeartbeats 4000000 in
theorem ruFind_any (l : List RuT) (hl : l.length ≤ 1000000) (v : Value) (n : Int) (w : World) (hv : RulesV w v l) :
    Calls Tryz.prog 18 #[v, .int .i64 n] w fun e w' => e = .returned (.tuple #[ruV ((findRu l n).getD zRu), .bool (findRu l n).isSome]) ∧ Below w.heap.size w w' := by
  obtain ⟨a, cap, rfl, -, hc⟩ := hv.at
  have hin := Lib.hid (fun k hk h he => findRu_in (l := l) (n := n) k hk h he)
  have hout := Lib.hid (fun h => findRu_out (l := l) (n := n) h)
  generalize findRu l n = F at *
  have B0 := (Below.refl _ w).alloc (Nat.le_refl _) (.cells #[.int .i64 0, .int .i64 0, .int .u64 0, .int .i64 0, .int .i64 0, .int .u64 0, .int .i64 0, .int .i64 0, .int .i64 0, .int .i64 0, .string ⟨#[]⟩] 40)
  have r0 := Blk.new w #[.int .i64 0, .int .i64 0, .int .u64 0, .int .i64 0, .int .i64 0, .int .u64 0, .int .i64 0, .int .i64 0, .int .i64 0, .int .i64 0, .string ⟨#[]⟩] 40
  clear hv
  go_enter Tryz.func18, Tryz.ntmps18
  go_wp2_with fail
  generalize w.alloc (.cells #[.int .i64 0, .int .i64 0, .int .u64 0, .int .i64 0, .int .i64 0, .int .u64 0, .int .i64 0, .int .i64 0, .int .i64 0, .int .i64 0, .string ⟨#[]⟩] 40) = W0 at *
  go_loopg [10] l.length (fun gg s8 wr => ∃ kk : Nat, kk ≤ l.length ∧ l.length - kk ≤ gg ∧ s8 = .int .i64 kk ∧ Below W0.heap.size W0 wr ∧ Hid (∀ i (hi : i < l.length), i < kk → l[i].id ≠ n))
  case atStart => exact ⟨0, Nat.zero_le _, by omega, rfl, Below.refl _ _, fun i _ h => absurd h (by omega)⟩
  case round =>
    obtain ⟨kk, hkk, hg, rfl, hB, A⟩ := hrel
    have B1 := B0.trans (hB.mono B0.size)
    by_cases hlt : kk < l.length
    · have hltz : (kk : Int) < (l.length : Int) := by omega
      have hkz : (0 : Int) ≤ (kk : Int) := by omega
      obtain ⟨b, o, rfl, -, hcl⟩ := hc kk hlt
      obtain ⟨k0, k1, k2, k3, k4, k5, k6, k7, k8, k9, k10⟩ := hcl _ (KeepC.of_below B1)
      have HY : Hid (l[kk].id = n → F = some l[kk]) := fun h => hin.out kk hlt A.out h
      have HN : Hid (l[kk].id ≠ n → ∀ i (hi : i < l.length), i < kk + 1 → l[i].id ≠ n) := fun h i hi hik => by
        by_cases e : i = kk
        · subst e; exact h
        · exact A.out i hi (by omega)
      clear hc hcl hin hout A
      obtain ⟨x, hx⟩ : ∃ x, l[kk] = x := ⟨_, rfl⟩
      rw [hx] at k0 k1 k2 k3 k4 k5 k6 k7 k8 k9 k10 HY HN
      clear hx
      obtain ⟨id, ⟨l1, S1, i1⟩, ⟨l2, S2, i2⟩, bu, ⟨k, m, form⟩⟩ := x
      dsimp only at *
      have b1 := Blk.new wr #[.int .i64 id, .int .i64 l1, .int .u64 S1, .int .i64 i1, .int .i64 l2, .int .u64 S2, .int .i64 i2, .int .i64 bu, .int .i64 k, .int .i64 m, .string ⟨form.toArray⟩] 40
      have r1 := (r0.below hB r0.lt).alloc (.cells #[.int .i64 id, .int .i64 l1, .int .u64 S1, .int .i64 i1, .int .i64 l2, .int .u64 S2, .int .i64 i2, .int .i64 bu, .int .i64 k, .int .i64 m, .string ⟨form.toArray⟩] 40)
      obtain ⟨W1, hW1⟩ : ∃ W1, wr.alloc (.cells #[.int .i64 id, .int .i64 l1, .int .u64 S1, .int .i64 i1, .int .i64 l2, .int .u64 S2, .int .i64 i2, .int .i64 bu, .int .i64 k, .int .i64 m, .string ⟨form.toArray⟩] 40) = W1 := ⟨_, rfl⟩
      rw [hW1] at b1 r1
      have C1 : Below W0.heap.size W0 W1 := hW1 ▸ hB.alloc hB.size _
      have D1 := B0.trans (C1.mono B0.size)
      have c0 : W1.cell? ⟨wr.heap.size, 0, none⟩ = some (.int .i64 id) := (b1.cell 0).trans rfl
      have c1 : W1.cell? ⟨wr.heap.size, 1, none⟩ = some (.int .i64 l1) := (b1.cell 1).trans rfl
      have c2 : W1.cell? ⟨wr.heap.size, 2, none⟩ = some (.int .u64 S1) := (b1.cell 2).trans rfl
      have c3 : W1.cell? ⟨wr.heap.size, 3, none⟩ = some (.int .i64 i1) := (b1.cell 3).trans rfl
      have c4 : W1.cell? ⟨wr.heap.size, 4, none⟩ = some (.int .i64 l2) := (b1.cell 4).trans rfl
      have c5 : W1.cell? ⟨wr.heap.size, 5, none⟩ = some (.int .u64 S2) := (b1.cell 5).trans rfl
      have c6 : W1.cell? ⟨wr.heap.size, 6, none⟩ = some (.int .i64 i2) := (b1.cell 6).trans rfl
      have c7 : W1.cell? ⟨wr.heap.size, 7, none⟩ = some (.int .i64 bu) := (b1.cell 7).trans rfl
      have c8 : W1.cell? ⟨wr.heap.size, 8, none⟩ = some (.int .i64 k) := (b1.cell 8).trans rfl
      have c9 : W1.cell? ⟨wr.heap.size, 9, none⟩ = some (.int .i64 m) := (b1.cell 9).trans rfl
      have c10 : W1.cell? ⟨wr.heap.size, 10, none⟩ = some (.string ⟨form.toArray⟩) := (b1.cell 10).trans rfl
      by_cases h : id = n
      · have hF := HY.out h
        subst hF h
        have hb : (id == id) = true := by simp
        have f0 : W1.frozen? ⟨w.heap.size, 0, none⟩ = false := r1.frozen 0
        have x0 : W1.cell? ⟨w.heap.size, 0, none⟩ = some (.int .i64 0) := (r1.cell 0).trans rfl
        have f1 : W1.frozen? ⟨w.heap.size, 1, none⟩ = false := r1.frozen 1
        have x1 : W1.cell? ⟨w.heap.size, 1, none⟩ = some (.int .i64 0) := (r1.cell 1).trans rfl
        have f2 : W1.frozen? ⟨w.heap.size, 2, none⟩ = false := r1.frozen 2
        have x2 : W1.cell? ⟨w.heap.size, 2, none⟩ = some (.int .u64 0) := (r1.cell 2).trans rfl
        have f3 : W1.frozen? ⟨w.heap.size, 3, none⟩ = false := r1.frozen 3
        have x3 : W1.cell? ⟨w.heap.size, 3, none⟩ = some (.int .i64 0) := (r1.cell 3).trans rfl
        have f4 : W1.frozen? ⟨w.heap.size, 4, none⟩ = false := r1.frozen 4
        have x4 : W1.cell? ⟨w.heap.size, 4, none⟩ = some (.int .i64 0) := (r1.cell 4).trans rfl
        have f5 : W1.frozen? ⟨w.heap.size, 5, none⟩ = false := r1.frozen 5
        have x5 : W1.cell? ⟨w.heap.size, 5, none⟩ = some (.int .u64 0) := (r1.cell 5).trans rfl
        have f6 : W1.frozen? ⟨w.heap.size, 6, none⟩ = false := r1.frozen 6
        have x6 : W1.cell? ⟨w.heap.size, 6, none⟩ = some (.int .i64 0) := (r1.cell 6).trans rfl
        have f7 : W1.frozen? ⟨w.heap.size, 7, none⟩ = false := r1.frozen 7
        have x7 : W1.cell? ⟨w.heap.size, 7, none⟩ = some (.int .i64 0) := (r1.cell 7).trans rfl
        have f8 : W1.frozen? ⟨w.heap.size, 8, none⟩ = false := r1.frozen 8
        have x8 : W1.cell? ⟨w.heap.size, 8, none⟩ = some (.int .i64 0) := (r1.cell 8).trans rfl
        have f9 : W1.frozen? ⟨w.heap.size, 9, none⟩ = false := r1.frozen 9
        have x9 : W1.cell? ⟨w.heap.size, 9, none⟩ = some (.int .i64 0) := (r1.cell 9).trans rfl
        have f10 : W1.frozen? ⟨w.heap.size, 10, none⟩ = false := r1.frozen 10
        have x10 : W1.cell? ⟨w.heap.size, 10, none⟩ = some ((.string ⟨#[]⟩)) := (r1.cell 10).trans rfl
        clear HY HN
        go_wp2_with fail
        have r9 := (((((((((((r1.set 0 (.int .i64 id)).set 1 (.int .i64 l1)).set 2 (.int .u64 S1)).set 3 (.int .i64 i1)).set 4 (.int .i64 l2)).set 5 (.int .u64 S2)).set 6 (.int .i64 i2)).set 7 (.int .i64 bu)).set 8 (.int .i64 k)).set 9 (.int .i64 m)).set 10 (.string ⟨form.toArray⟩))
        have B9 := (((((((((((D1.setCell (p := ⟨w.heap.size, 0, none⟩) (Nat.le_refl _) (.int .i64 id)).setCell (p := ⟨w.heap.size, 1, none⟩) (Nat.le_refl _) (.int .i64 l1)).setCell (p := ⟨w.heap.size, 2, none⟩) (Nat.le_refl _) (.int .u64 S1)).setCell (p := ⟨w.heap.size, 3, none⟩) (Nat.le_refl _) (.int .i64 i1)).setCell (p := ⟨w.heap.size, 4, none⟩) (Nat.le_refl _) (.int .i64 l2)).setCell (p := ⟨w.heap.size, 5, none⟩) (Nat.le_refl _) (.int .u64 S2)).setCell (p := ⟨w.heap.size, 6, none⟩) (Nat.le_refl _) (.int .i64 i2)).setCell (p := ⟨w.heap.size, 7, none⟩) (Nat.le_refl _) (.int .i64 bu)).setCell (p := ⟨w.heap.size, 8, none⟩) (Nat.le_refl _) (.int .i64 k)).setCell (p := ⟨w.heap.size, 9, none⟩) (Nat.le_refl _) (.int .i64 m)).setCell (p := ⟨w.heap.size, 10, none⟩) (Nat.le_refl _) (.string ⟨form.toArray⟩))
        simp only [List.setIfInBounds_toArray, List.set_cons_zero, List.set_cons_succ] at r9
        generalize ((((((((((W1.setCell ⟨w.heap.size, 0, none⟩ (.int .i64 id)).setCell ⟨w.heap.size, 1, none⟩ (.int .i64 l1)).setCell ⟨w.heap.size, 2, none⟩ (.int .u64 S1)).setCell ⟨w.heap.size, 3, none⟩ (.int .i64 i1)).setCell ⟨w.heap.size, 4, none⟩ (.int .i64 l2)).setCell ⟨w.heap.size, 5, none⟩ (.int .u64 S2)).setCell ⟨w.heap.size, 6, none⟩ (.int .i64 i2)).setCell ⟨w.heap.size, 7, none⟩ (.int .i64 bu)).setCell ⟨w.heap.size, 8, none⟩ (.int .i64 k)).setCell ⟨w.heap.size, 9, none⟩ (.int .i64 m)).setCell ⟨w.heap.size, 10, none⟩ (.string ⟨form.toArray⟩) = W9 at *
        have q0 : W9.cell? ⟨w.heap.size, 0, none⟩ = some (.int .i64 id) := (r9.cell 0).trans rfl
        have q1 : W9.cell? ⟨w.heap.size, 1, none⟩ = some (.int .i64 l1) := (r9.cell 1).trans rfl
        have q2 : W9.cell? ⟨w.heap.size, 2, none⟩ = some (.int .u64 S1) := (r9.cell 2).trans rfl
        have q3 : W9.cell? ⟨w.heap.size, 3, none⟩ = some (.int .i64 i1) := (r9.cell 3).trans rfl
        have q4 : W9.cell? ⟨w.heap.size, 4, none⟩ = some (.int .i64 l2) := (r9.cell 4).trans rfl
        have q5 : W9.cell? ⟨w.heap.size, 5, none⟩ = some (.int .u64 S2) := (r9.cell 5).trans rfl
        have q6 : W9.cell? ⟨w.heap.size, 6, none⟩ = some (.int .i64 i2) := (r9.cell 6).trans rfl
        have q7 : W9.cell? ⟨w.heap.size, 7, none⟩ = some (.int .i64 bu) := (r9.cell 7).trans rfl
        have q8 : W9.cell? ⟨w.heap.size, 8, none⟩ = some (.int .i64 k) := (r9.cell 8).trans rfl
        have q9 : W9.cell? ⟨w.heap.size, 9, none⟩ = some (.int .i64 m) := (r9.cell 9).trans rfl
        have q10 : W9.cell? ⟨w.heap.size, 10, none⟩ = some (.string ⟨form.toArray⟩) := (r9.cell 10).trans rfl
        exact bodyPost_ret (v := .tuple #[.agg #[.int .i64 id, .int .i64 l1, .int .u64 S1, .int .i64 i1, .int .i64 l2, .int .u64 S2, .int .i64 i2, .int .i64 bu, .int .i64 k, .int .i64 m, .string ⟨form.toArray⟩], .bool true]) (by simp [results, Tryz.results18, go_sem, q0, q1, q2, q3, q4, q5, q6, q7, q8, q9, q10]) rfl ⟨rfl, B9⟩
      · have HN2 := Lib.hid (HN.out h)
        have hb : (id == n) = false := by simpa using h
        clear HY HN h r1
        go_wp2_with fail
        go_roundg (l.length - (kk + 1))
        case measure => omega
        case rel => exact ⟨kk + 1, by omega, by omega, by go_num, C1, HN2.out⟩
    · have hltz : ¬ (kk : Int) < (l.length : Int) := by omega
      have hF := hout.out (fun i hi => A.out i hi (by omega))
      subst hF
      have r1 := r0.below hB r0.lt
      have f0 : wr.frozen? ⟨w.heap.size, 0, none⟩ = false := r1.frozen 0
      have x0 : wr.cell? ⟨w.heap.size, 0, none⟩ = some (.int .i64 0) := (r1.cell 0).trans rfl
      have f1 : wr.frozen? ⟨w.heap.size, 1, none⟩ = false := r1.frozen 1
      have x1 : wr.cell? ⟨w.heap.size, 1, none⟩ = some (.int .i64 0) := (r1.cell 1).trans rfl
      have f2 : wr.frozen? ⟨w.heap.size, 2, none⟩ = false := r1.frozen 2
      have x2 : wr.cell? ⟨w.heap.size, 2, none⟩ = some (.int .u64 0) := (r1.cell 2).trans rfl
      have f3 : wr.frozen? ⟨w.heap.size, 3, none⟩ = false := r1.frozen 3
      have x3 : wr.cell? ⟨w.heap.size, 3, none⟩ = some (.int .i64 0) := (r1.cell 3).trans rfl
      have f4 : wr.frozen? ⟨w.heap.size, 4, none⟩ = false := r1.frozen 4
      have x4 : wr.cell? ⟨w.heap.size, 4, none⟩ = some (.int .i64 0) := (r1.cell 4).trans rfl
      have f5 : wr.frozen? ⟨w.heap.size, 5, none⟩ = false := r1.frozen 5
      have x5 : wr.cell? ⟨w.heap.size, 5, none⟩ = some (.int .u64 0) := (r1.cell 5).trans rfl
      have f6 : wr.frozen? ⟨w.heap.size, 6, none⟩ = false := r1.frozen 6
      have x6 : wr.cell? ⟨w.heap.size, 6, none⟩ = some (.int .i64 0) := (r1.cell 6).trans rfl
      have f7 : wr.frozen? ⟨w.heap.size, 7, none⟩ = false := r1.frozen 7
      have x7 : wr.cell? ⟨w.heap.size, 7, none⟩ = some (.int .i64 0) := (r1.cell 7).trans rfl
      have f8 : wr.frozen? ⟨w.heap.size, 8, none⟩ = false := r1.frozen 8
      have x8 : wr.cell? ⟨w.heap.size, 8, none⟩ = some (.int .i64 0) := (r1.cell 8).trans rfl
      have f9 : wr.frozen? ⟨w.heap.size, 9, none⟩ = false := r1.frozen 9
      have x9 : wr.cell? ⟨w.heap.size, 9, none⟩ = some (.int .i64 0) := (r1.cell 9).trans rfl
      have f10 : wr.frozen? ⟨w.heap.size, 10, none⟩ = false := r1.frozen 10
      have x10 : wr.cell? ⟨w.heap.size, 10, none⟩ = some ((.string ⟨#[]⟩)) := (r1.cell 10).trans rfl
      clear hc hin hout A
      go_wp2_with fail
      have r9 := (((((((((((r1.set 0 (.int .i64 0)).set 1 (.int .i64 0)).set 2 (.int .u64 0)).set 3 (.int .i64 0)).set 4 (.int .i64 0)).set 5 (.int .u64 0)).set 6 (.int .i64 0)).set 7 (.int .i64 0)).set 8 (.int .i64 0)).set 9 (.int .i64 0)).set 10 (.string ⟨#[]⟩))
      have B9 := (((((((((((B1.setCell (p := ⟨w.heap.size, 0, none⟩) (Nat.le_refl _) (.int .i64 0)).setCell (p := ⟨w.heap.size, 1, none⟩) (Nat.le_refl _) (.int .i64 0)).setCell (p := ⟨w.heap.size, 2, none⟩) (Nat.le_refl _) (.int .u64 0)).setCell (p := ⟨w.heap.size, 3, none⟩) (Nat.le_refl _) (.int .i64 0)).setCell (p := ⟨w.heap.size, 4, none⟩) (Nat.le_refl _) (.int .i64 0)).setCell (p := ⟨w.heap.size, 5, none⟩) (Nat.le_refl _) (.int .u64 0)).setCell (p := ⟨w.heap.size, 6, none⟩) (Nat.le_refl _) (.int .i64 0)).setCell (p := ⟨w.heap.size, 7, none⟩) (Nat.le_refl _) (.int .i64 0)).setCell (p := ⟨w.heap.size, 8, none⟩) (Nat.le_refl _) (.int .i64 0)).setCell (p := ⟨w.heap.size, 9, none⟩) (Nat.le_refl _) (.int .i64 0)).setCell (p := ⟨w.heap.size, 10, none⟩) (Nat.le_refl _) (.string ⟨#[]⟩))
      simp only [List.setIfInBounds_toArray, List.set_cons_zero, List.set_cons_succ] at r9
      generalize ((((((((((wr.setCell ⟨w.heap.size, 0, none⟩ (.int .i64 0)).setCell ⟨w.heap.size, 1, none⟩ (.int .i64 0)).setCell ⟨w.heap.size, 2, none⟩ (.int .u64 0)).setCell ⟨w.heap.size, 3, none⟩ (.int .i64 0)).setCell ⟨w.heap.size, 4, none⟩ (.int .i64 0)).setCell ⟨w.heap.size, 5, none⟩ (.int .u64 0)).setCell ⟨w.heap.size, 6, none⟩ (.int .i64 0)).setCell ⟨w.heap.size, 7, none⟩ (.int .i64 0)).setCell ⟨w.heap.size, 8, none⟩ (.int .i64 0)).setCell ⟨w.heap.size, 9, none⟩ (.int .i64 0)).setCell ⟨w.heap.size, 10, none⟩ (.string ⟨#[]⟩) = W9 at *
      have q0 : W9.cell? ⟨w.heap.size, 0, none⟩ = some (.int .i64 0) := (r9.cell 0).trans rfl
      have q1 : W9.cell? ⟨w.heap.size, 1, none⟩ = some (.int .i64 0) := (r9.cell 1).trans rfl
      have q2 : W9.cell? ⟨w.heap.size, 2, none⟩ = some (.int .u64 0) := (r9.cell 2).trans rfl
      have q3 : W9.cell? ⟨w.heap.size, 3, none⟩ = some (.int .i64 0) := (r9.cell 3).trans rfl
      have q4 : W9.cell? ⟨w.heap.size, 4, none⟩ = some (.int .i64 0) := (r9.cell 4).trans rfl
      have q5 : W9.cell? ⟨w.heap.size, 5, none⟩ = some (.int .u64 0) := (r9.cell 5).trans rfl
      have q6 : W9.cell? ⟨w.heap.size, 6, none⟩ = some (.int .i64 0) := (r9.cell 6).trans rfl
      have q7 : W9.cell? ⟨w.heap.size, 7, none⟩ = some (.int .i64 0) := (r9.cell 7).trans rfl
      have q8 : W9.cell? ⟨w.heap.size, 8, none⟩ = some (.int .i64 0) := (r9.cell 8).trans rfl
      have q9 : W9.cell? ⟨w.heap.size, 9, none⟩ = some (.int .i64 0) := (r9.cell 9).trans rfl
      have q10 : W9.cell? ⟨w.heap.size, 10, none⟩ = some (.string ⟨#[]⟩) := (r9.cell 10).trans rfl
      exact bodyPost_ret (v := .tuple #[.agg #[.int .i64 0, .int .i64 0, .int .u64 0, .int .i64 0, .int .i64 0, .int .u64 0, .int .i64 0, .int .i64 0, .int .i64 0, .int .i64 0, .string ⟨#[]⟩], .bool false]) (by simp [results, Tryz.results18, go_sem, q0, q1, q2, q3, q4, q5, q6, q7, q8, q9, q10]) rfl ⟨rfl, B9⟩
end Go.Proofs.YtmmdpjliknmhgaaGreatDoor
/- errors.As at a concrete target: a struct of a number and an error. (Turned from the worked Toyas texts.) -/
namespace Go.Proofs.YtmmdpjliknmhgaaGreatDoor.RulAs
open Go.RowKit Go.Extern.Stop Go.Stop Go.Extern
abbrev T : Nat := 52
abbrev PT : Nat := 76
abbrev RT : Nat := 145
/-- the handle of a type -/
abbrev H (t : Nat) : Value := .pointer (some ⟨7, t, none⟩)
theorem valueOfP (t : Addr) (w : World) : (ReflectliteValue.unpack (.iface PT (.pointer (some t)))).run Tryz.prog w
    = .ok (.agg #[H PT, .pointer (some ⟨w.heap.size, 0, none⟩), .int .u64 150]) (w.alloc (.cells #[.pointer (some t)] PT)) := by kernel_rfl
theorem typeP (a : Addr) (w : World) : (ReflectliteValue.methodAny (ReflectliteValue.valueError "reflectlite.Value.Type" 0) (fun t _ _ _ => ReflectliteType.toType t) #[.agg #[H PT, .pointer (some a), .int .u64 150]]).run Tryz.prog w
    = .ok (.iface RT (.agg #[H PT])) w := by kernel_rfl
theorem methodKind (h : Value) (w : World) : (Go.method 369 RT (.agg #[h]) "Kind").run Tryz.prog w = .ok (182, h) w := by kernel_rfl
theorem kindP (w : World) : ((ReflectliteType.abiMethod fun t => (fun a : Nat => Value.int IntKind.u8 (a : Int)) <$> Rtype.kind t) #[H PT]).run Tryz.prog w = .ok (.int .u8 22) w := by kernel_rfl
theorem kindT (w : World) : ((ReflectliteType.abiMethod fun t => (fun a : Nat => Value.int IntKind.u8 (a : Int)) <$> Rtype.kind t) #[H T]).run Tryz.prog w = .ok (.int .u8 25) w := by kernel_rfl
theorem rlm (z : Sem Value) (f : TypeId → Addr → Nat → Nat → Sem Value) (v : Value) :
    ReflectliteValue.method z f #[v] = (do match ← ReflectliteValue.parts v with | none => z | some (t, a, fl) => f t a fl (fl % 32)) := rfl
theorem partsP (a : Addr) (w : World) : (ReflectliteValue.parts (.agg #[H PT, .pointer (some a), .int .u64 150])).run Tryz.prog w = .ok (some (PT, a, 150)) w := by kernel_rfl
theorem isNilP (a p : Addr) (W : World) (ha : W.cell? a = some (.pointer (some p))) :
    (ReflectliteValue.method (ReflectliteValue.valueError "reflectlite.Value.IsNil" 0) ReflectliteValue.isNil #[.agg #[H PT, .pointer (some a), .int .u64 150]]).run Tryz.prog W = .ok (.bool false) W := by
  rw [rlm]
  simp only [Sem.run_bind, partsP, Result.andThen]
  simp [ReflectliteValue.isNil, loadVar, isAgg, underlying, Tryz.underlying76, ha, Result.andThen]
theorem methodElem (h : Value) (w : World) : (Go.method 369 RT (.agg #[h]) "Elem").run Tryz.prog w = .ok (194, .agg #[h]) w := by kernel_rfl
theorem methodImplements (h : Value) (w : World) : (Go.method 369 RT (.agg #[h]) "Implements").run Tryz.prog w = .ok (195, .agg #[h]) w := by kernel_rfl
theorem methodAssignableTo (h : Value) (w : World) : (Go.method 369 RT (.agg #[h]) "AssignableTo").run Tryz.prog w = .ok (192, .agg #[h]) w := by kernel_rfl
theorem elemP (w : World) : (ReflectliteType.method ReflectliteType.elem #[.agg #[H PT]]).run Tryz.prog w = .ok (.iface RT (.agg #[H T])) w := by kernel_rfl
theorem implementsT (w : World) : (ReflectliteType.relation "Implements" ReflectliteType.implements_ #[.agg #[H T], .iface RT (.agg #[H 50])]).run Tryz.prog w = .ok (.bool true) w := by kernel_rfl
theorem typeOfT (v : Value) (w : World) : (ReflectliteType.typeOf #[.iface T v]).run Tryz.prog w = .ok (.iface RT (.agg #[H T])) w := by kernel_rfl
theorem assignableT (w : World) : (ReflectliteType.relation "AssignableTo" ReflectliteType.assignableTo #[.agg #[H T], .iface RT (.agg #[H T])]).run Tryz.prog w = .ok (.bool true) w := by kernel_rfl
theorem valueOfT (x : Int) (ev : Value) (w : World) : (ReflectliteValue.unpack (.iface T (.agg #[.int .i64 x, ev]))).run Tryz.prog w
    = .ok (.agg #[H T, .pointer (some ⟨w.heap.size, 0, none⟩), .int .u64 153]) (w.alloc (.cells #[.int .i64 x, ev] T)) := by kernel_rfl
theorem elemOfP (w : World) : (Rtype.elem? PT).run Tryz.prog w = .ok (some T) w := by kernel_rfl
theorem mkT (p : Addr) (w : World) : (ReflectliteValue.mk T p ReflectliteValue.flagAddr).run Tryz.prog w = .ok (.agg #[H T, .pointer (some p), .int .u64 409]) w := by kernel_rfl
theorem elemVP (a p : Addr) (W : World) (ha : W.cell? a = some (.pointer (some p))) :
    (ReflectliteValue.method (ReflectliteValue.valueError "reflectlite.Value.Elem" 0) ReflectliteValue.elem #[.agg #[H PT, .pointer (some a), .int .u64 150]]).run Tryz.prog W
      = .ok (.agg #[H T, .pointer (some p), .int .u64 409]) W := by
  rw [rlm]
  simp only [Sem.run_bind, partsP, Result.andThen]
  simp [ReflectliteValue.elem, loadVar, isAgg, underlying, Tryz.underlying76, ha, Result.andThen, elemOfP, mkT]
theorem rls (v x : Value) : ReflectliteValue.set #[v, x] = (do
    let (some (dst, a, fl), some (src, b, _)) := (← ReflectliteValue.parts v, ← ReflectliteValue.parts x)
      | unsupported (.noEntry "extern/(internal/reflectlite.Value).Set.zeroValue")
    if fl / ReflectliteValue.flagAddr % 2 == 0 then unsupported (.noEntry "extern/(internal/reflectlite.Value).Set.unaddressable")
    let val ← loadVar src b
    if ← Rtype.directlyAssignable dst src then storeVar dst a val
    else if ← Rtype.implements dst src then
      if (← Rtype.kind src) == 20 then
        match val with
        | .nilIface => unsupported (.noEntry "extern/reflectlite: a nil value of one interface type handed on as a value of another")
        | _ => storeVar dst a val
      else storeVar dst a (.iface src val)
    else panicString ("reflectlite.Set: value of type " ++ (← Rtype.spelt src) ++ " is not assignable to type " ++ (← Rtype.spelt dst))
    pure (.tuple #[])) := rfl
theorem partsTa (a : Addr) (w : World) : (ReflectliteValue.parts (.agg #[H T, .pointer (some a), .int .u64 409])).run Tryz.prog w = .ok (some (T, a, 409)) w := by kernel_rfl
theorem partsT (a : Addr) (w : World) : (ReflectliteValue.parts (.agg #[H T, .pointer (some a), .int .u64 153])).run Tryz.prog w = .ok (some (T, a, 153)) w := by kernel_rfl
theorem directT (w : World) : (Rtype.directlyAssignable T T).run Tryz.prog w = .ok true w := by kernel_rfl
theorem sizeT (w : World) : (Go.sizeOf T).run Tryz.prog w = .ok 2 w := by kernel_rfl
theorem isAggT (w : World) : (isAgg T).run Tryz.prog w = .ok true w := by kernel_rfl
theorem setT (ta b : Addr) (x : Int) (ev old old1 : Value) (he : ev.oneCell' = true) (W : World) (hb : W.cell? b = some (.int .i64 x)) (hb1 : W.cell? (b.add 1) = some ev) (ht : W.cell? ta = some old) (hf : W.frozen? ta = false) (ht1 : (W.setCell ta (.int .i64 x)).cell? (ta.add 1) = some old1) (hf1 : (W.setCell ta (.int .i64 x)).frozen? (ta.add 1) = false) :
    (ReflectliteValue.set #[.agg #[H T, .pointer (some ta), .int .u64 409], .agg #[H T, .pointer (some b), .int .u64 153]]).run Tryz.prog W
      = .ok (.tuple #[]) ((W.setCell ta (.int .i64 x)).setCell (ta.add 1) ev) := by
  rw [rls]
  simp only [Sem.run_bind, partsTa, partsT, Result.andThen]
  have hl : (loadCells b 2).run Tryz.prog W = .ok #[.int .i64 x, ev] W := by
    have := run_loadCells_list (P := Tryz.prog) (w := W) b [.int .i64 x, ev] (by
      intro j v hv
      match j, hv with
      | 0, hv => simp at hv; subst hv; rw [show b.add 0 = b by cases b; simp [Addr.add]]; exact hb
      | 1, hv => simp at hv; subst hv; exact hb1
      | j + 2, hv => simp at hv)
    simpa using this
  have ha0 : ta.add 0 = ta := by cases ta; simp [Addr.add]
  have s0 := run_store Tryz.prog W ta (.int .i64 x) .plain (by rfl)
  simp [ReflectliteValue.flagAddr, loadVar, hl, Result.andThen, directT, storeVar, Value.cells, storeCells, ha0]
  have s1 := run_store Tryz.prog (W.setCell ta (.int .i64 x)) (ta.add 1) ev .plain he
  simp only [ht, hf] at s0
  simp only [ht1, hf1] at s1
  rw [s0]
  simp [s1]
theorem as_nil (t : Value) (w : World) :
    Calls Tryz.prog 38 #[.nilIface, t] w fun e w' => e = .returned (.bool false) ∧ w = w' := by
  go_enter Tryz.func38, Tryz.ntmps38
  go_wp2
  go_ret
  exact ⟨rfl, rfl⟩
abbrev W1 (w : World) (tb : Nat) : World := w.alloc (.cells #[.pointer (some ⟨tb, 0, none⟩)] PT)
abbrev VT : Nat := 98
abbrev W3 (w : World) (tb : Nat) : World := ((W1 w tb).alloc (.cells #[H PT, .pointer (some ⟨w.heap.size, 0, none⟩), .int .u64 150] VT)).alloc (.cells #[H PT, .pointer (some ⟨w.heap.size, 0, none⟩), .int .u64 150] VT)
set_option maxRecDepth 100000 in
set_option maxHeartbeats 4000000 in
theorem as_hit (x : Int) (ev : Value) (he : ev.oneCell' = true) (tb : Nat) (old old1 : Value) (w : World) (hg : w.cell? ⟨0, 0, none⟩ = some (.iface RT (.agg #[H 50]))) (ht : Blk w tb #[old, old1] T) :
    Calls Tryz.prog 38 #[.iface T (.agg #[.int .i64 x, ev]), .iface PT (.pointer (some ⟨tb, 0, none⟩))] w fun e w' => e = .returned (.bool true) ∧ w' = (((W3 w tb).alloc (.cells #[.int .i64 x, ev] T)).setCell ⟨tb, 0, none⟩ (.int .i64 x)).setCell ⟨tb, 1, none⟩ ev := by
  have h6 := @run_callFunc_extern Tryz.prog 58 _ (fun args => ReflectliteValue.unpack (args.getD 0 (.tuple #[]))) Tryz.func58 (by kernel_rfl) (by kernel_rfl) (by kernel_rfl) (by kernel_rfl)
  have h7 := @run_callFunc_extern Tryz.prog 59 _ (ReflectliteValue.methodAny (ReflectliteValue.valueError "reflectlite.Value.Type" 0) (fun t _ _ _ => ReflectliteType.toType t)) Tryz.func59 (by kernel_rfl) (by kernel_rfl) (by kernel_rfl) (by kernel_rfl)
  have h8 := @run_callFunc_extern Tryz.prog 60 _ (ReflectliteValue.method (ReflectliteValue.valueError "reflectlite.Value.IsNil" 0) ReflectliteValue.isNil) Tryz.func60 (by kernel_rfl) (by kernel_rfl) (by kernel_rfl) (by kernel_rfl)
  have h27 := @run_callFunc_extern Tryz.prog 182 _ (ReflectliteType.abiMethod fun t => do pure (.int .u8 (← Rtype.kind t))) Tryz.func182 (by kernel_rfl) (by kernel_rfl) (by kernel_rfl) (by kernel_rfl)
  have h37 := @run_callFunc_extern Tryz.prog 194 _ (ReflectliteType.method ReflectliteType.elem) Tryz.func194 (by kernel_rfl) (by kernel_rfl) (by kernel_rfl) (by kernel_rfl)
  have h38 := @run_callFunc_extern Tryz.prog 195 _ (ReflectliteType.relation "Implements" ReflectliteType.implements_) Tryz.func195 (by kernel_rfl) (by kernel_rfl) (by kernel_rfl) (by kernel_rfl)
  have h10 := @run_callFunc_extern Tryz.prog 84 _ ReflectliteType.typeOf Tryz.func84 (by kernel_rfl) (by kernel_rfl) (by kernel_rfl) (by kernel_rfl)
  have h35 := @run_callFunc_extern Tryz.prog 192 _ (ReflectliteType.relation "AssignableTo" ReflectliteType.assignableTo) Tryz.func192 (by kernel_rfl) (by kernel_rfl) (by kernel_rfl) (by kernel_rfl)
  have h11 := @run_callFunc_extern Tryz.prog 85 _ (ReflectliteValue.method (ReflectliteValue.valueError "reflectlite.Value.Elem" 0) ReflectliteValue.elem) Tryz.func85 (by kernel_rfl) (by kernel_rfl) (by kernel_rfl) (by kernel_rfl)
  have h12 := @run_callFunc_extern Tryz.prog 86 _ ReflectliteValue.set Tryz.func86 (by kernel_rfl) (by kernel_rfl) (by kernel_rfl) (by kernel_rfl)
  have tO := typeOfT
  have mA := methodAssignableTo
  have a25 := assignableT
  have v25 := valueOfT
  have f6 := valueOfP
  have f7 := typeP
  have mK := methodKind
  have mE := methodElem
  have mI := methodImplements
  have k27 := kindP
  have k25 := kindT
  have e27 := elemP
  have i25 := implementsT
  have htl := ht.lt
  have hgl := World.block_lt_of_cell? w _ hg
  have b1 := Blk.new w #[.pointer (some ⟨tb, 0, none⟩)] PT
  have b2 := b1.alloc (.cells #[H PT, .pointer (some ⟨w.heap.size, 0, none⟩), .int .u64 150] VT)
  have b3 := b2.alloc (.cells #[H PT, .pointer (some ⟨w.heap.size, 0, none⟩), .int .u64 150] VT)
  have n8 := isNilP ⟨w.heap.size, 0, none⟩ ⟨tb, 0, none⟩ _ ((b2.cell 0).trans rfl)
  have hB2 := ((Below.refl w.heap.size w).alloc (Nat.le_refl _) (.cells #[.pointer (some ⟨tb, 0, none⟩)] PT)).alloc (by simp) (.cells #[H PT, .pointer (some ⟨w.heap.size, 0, none⟩), .int .u64 150] VT)
  have hB3 := hB2.alloc (by simp; omega) (.cells #[H PT, .pointer (some ⟨w.heap.size, 0, none⟩), .int .u64 150] VT)
  have hg2 := (hB2.cell (p := ⟨0, 0, none⟩) hgl).trans hg
  have el := elemVP ⟨w.heap.size, 0, none⟩ ⟨tb, 0, none⟩ _ ((b3.cell 0).trans rfl)
  have ht4 := (ht.below hB3 htl).alloc (.cells #[.int .i64 x, ev] T)
  have hadd : ∀ b : Nat, (⟨b, 0, none⟩ : Addr).add 1 = ⟨b, 1, none⟩ := fun b => by rw [Addr.add_lit]
  have bn := Blk.new (W3 w tb) #[.int .i64 x, ev] T
  rw [show (W3 w tb).heap.size = w.heap.size + 1 + 1 + 1 by simp] at bn
  have st := setT ⟨tb, 0, none⟩ ⟨w.heap.size + 1 + 1 + 1, 0, none⟩ x ev old old1 he ((W3 w tb).alloc (.cells #[.int .i64 x, ev] T))
    ((bn.cell 0).trans rfl) (by rw [hadd]; exact (bn.cell 1).trans rfl) ((ht4.cell 0).trans rfl) (ht4.frozen 0) (by rw [hadd]; exact ((ht4.set 0 (.int .i64 x)).cell 1).trans rfl) (by rw [hadd]; exact (ht4.set 0 (.int .i64 x)).frozen 1)
  rw [hadd] at st
  clear hadd bn
  clear b1 b2 b3 hB2 hB3 ht4 ht hg htl
  go_enter Tryz.func38, Tryz.ntmps38
  go_wp2
  refine wp_loop_rounds 1 ?_
  rw [rounds_succ]
  go_wp2
  go_ret
  exact ⟨rfl, rfl⟩
end Go.Proofs.YtmmdpjliknmhgaaGreatDoor.RulAs
/- Walks of layer 14: told. -/
namespace Go.Proofs.YtmmdpjliknmhgaaGreatDoor
open Go.RowKit Go.Shelf
attribute [local go_sem] Oper.semAt_some
set_option maxRecDepth 100000 in
theorem ruTold_any (x : Int) (ev : Value) (he : ev.oneCell' = true) (w : World) (hg : ErrT w) :
    Calls Tryz.prog 26 #[.iface 52 (.agg #[.int .i64 x, ev])] w fun e w' => e = .returned (.tuple #[.int .i64 x, .int .i64 140]) ∧ Below w.heap.size w w' := by
  have b0 := Blk.new w #[.int .i64 0, .nilIface] 52
  have hB0 := (Below.refl w.heap.size w).alloc (Nat.le_refl _) (.cells #[.int .i64 0, .nilIface] 52)
  have hgl := World.block_lt_of_cell? w _ hg
  have HA := Lib.hid (RulAs.as_hit x ev he w.heap.size _ _ _ ((hB0.cell (p := ⟨0, 0, none⟩) hgl).trans hg) b0)
  clear hg
  go_enter Tryz.func26, Tryz.ntmps26
  go_wp2_with fail
  refine HA.out.mono ?_
  rintro e w1 ⟨rfl, hw1⟩
  have hB1 : Below w.heap.size w w1 := by
    rw [hw1]
    exact (((((hB0.alloc (by simp) _).alloc (by simp; omega) _).alloc (by simp; omega) _).alloc (by simp; omega) _).setCell (p := ⟨w.heap.size, 0, none⟩) (Nat.le_refl _) _).setCell (p := ⟨w.heap.size, 1, none⟩) (Nat.le_refl _) _
  have hc : w1.cell? ⟨w.heap.size, 0, none⟩ = some (.int .i64 x) := by
    have b4 := (((b0.alloc (.cells #[.pointer (some ⟨w.heap.size, 0, none⟩)] RulAs.PT)).alloc (.cells #[RulAs.H RulAs.PT, .pointer (some ⟨w.heap.size + 1, 0, none⟩), .int .u64 150] RulAs.VT)).alloc (.cells #[RulAs.H RulAs.PT, .pointer (some ⟨w.heap.size + 1, 0, none⟩), .int .u64 150] RulAs.VT)).alloc (.cells #[.int .i64 x, ev] RulAs.T)
    have := ((b4.set 0 (.int .i64 x)).set 1 ev).cell 0
    rw [hw1]
    simpa [RulAs.W3, RulAs.W1] using this
  clear hw1 HA
  go_wp2_with fail
  go_ret2
  exact ⟨rfl, hB1⟩
end Go.Proofs.YtmmdpjliknmhgaaGreatDoor
