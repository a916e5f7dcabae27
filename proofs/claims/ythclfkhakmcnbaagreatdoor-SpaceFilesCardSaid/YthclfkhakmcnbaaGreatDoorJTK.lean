/- Joined: FileE; FileF; FileG -/
import Derived.Test.YthclfkhakmcnbaaGreatDoorJTJ
import Derived.Deep.RegionHeld3
import Derived.Test.YthclfkhakmcnbaaGreatDoorJTA
import Derived.StillTailTactics
/- Walks of layer 9: splice. -/
namespace Go.Proofs.YthclfkhakmcnbaaGreatDoor
open Go.RowKit Go.Shelf
attribute [local go_sem] Oper.semAt_some
theorem bytes_new (W : World) (t : List UInt8) : Below W.heap.size W (Lib.bytesWorld W 5 ⟨t.toArray⟩) ∧ (Lib.bytesWorld W 5 ⟨t.toArray⟩).heap.size = W.heap.size + 1 ∧ ∀ (j : Nat) u, (u8C t)[j]? = some u → (Lib.bytesWorld W 5 ⟨t.toArray⟩).cell? ⟨W.heap.size, j, none⟩ = some u := by
  refine ⟨⟨rfl, rfl, rfl, by rw [Lib.bytesWorld_size]; omega, fun k hk => Lib.bytesWorld_at_old _ _ _ k hk⟩, Lib.bytesWorld_size _ _ _, fun j u hu => ?_⟩
  obtain ⟨hj, rfl⟩ := List.getElem?_eq_some_iff.1 hu
  rw [u8C_len] at hj
  rw [Lib.bytesWorld_cell _ _ _ j (by rw [ba_size]; exact hj)]
  simp [u8C, List.getD, hj]
set_option maxRecDepth 100000 in
set_option maxHeartbeats 4000000 in
/-- what is spliced is there -/
theorem splice_do (q g : Nat) (s : List UInt8) (hs : s.length ≤ 1000000) (k n : Nat) (hk : k ≤ s.length) (hn : n ≤ s.length - k) (t : List UInt8) (ht : t.length ≤ 1000000) (w : World) (hq : Blk w q #[.slice (some ⟨g, 0, none⟩) s.length s.length, errF true] 111) (hg : At8 w g s) (hgq : g ≠ q) :
    Calls Tryz.prog 87 #[.pointer (some ⟨q, 0, none⟩), .int .i64 k, .int .i64 n, .string ⟨t.toArray⟩] w fun e w' => e = .returned (.tuple #[]) ∧ ∃ v', Blk w' q #[v', errF (decide (k + t.length + (s.length - (k + n)) ≤ 1000))] 111 ∧ (k + t.length + (s.length - (k + n)) ≤ 1000 → BySl w' v' (s.take k ++ (t ++ s.drop (k + n)))) ∧ w.grownBy w' (some q) := by
  have HI := isOffset_any q _ s.length s.length hs k w ((hq.cell 0).trans rfl)
  have hkz : (0 : Int) ≤ (k : Int) := by omega
  have hkl : (k : Int) ≤ (s.length : Int) := by omega
  have hoff : (decide ((0 : Int) ≤ (k : Int)) && decide ((k : Int) ≤ (s.length : Int))) = true := by simp [hkl]
  rw [hoff] at HI
  clear hoff
  have hql := hq.lt
  have b1 : Blk (w.alloc (.cells #[.bool true, .bool true] 4)) w.heap.size #[.bool true, .bool true] 4 := Blk.new _ _ _
  have HM := mustF_any q w.heap.size 2 _ true [true, true] (by simp) _ (hq.alloc (.cells #[.bool true, .bool true] 4)) (blk_bools (bs := [true, true]) b1) (by omega)
  have gA := World.grownBy_alloc w (.cells #[.bool true, .bool true] 4) (some q)
  clear b1
  have hnz : (0 : Int) ≤ (n : Int) := by omega
  go_enter Tryz.func87, Tryz.ntmps87
  go_wp2_with fail
  with_reducible refine HI.mono ?_
  rintro e w1 ⟨rfl, rfl⟩
  go_wp2_with fail
  refine HM.mono ?_
  rintro e w2 ⟨rfl, q2, g2⟩
  have e2 : w2.cell? ⟨q, 1, none⟩ = some .nilIface := (q2.cell 1).trans rfl
  have e20 : w2.cell? ⟨q, 0, none⟩ = some (.slice (some ⟨g, 0, none⟩) s.length s.length) := (q2.cell 0).trans rfl
  have G2 := grownBy_t gA g2
  clear HM HI gA g2
  have hle : (n : Int) ≤ (s.length : Int) - (k : Int) := by omega
  have b3 : Blk (w2.alloc (.cells #[.bool true] 4)) w2.heap.size #[.bool true] 4 := Blk.new _ _ _
  have q2' : Blk w2 q #[.slice (some ⟨g, 0, none⟩) s.length s.length, errF true] 111 := q2
  have HM := mustF_any q w2.heap.size 1 _ true [true] (by simp) _ (q2'.alloc (.cells #[.bool true] 4)) (blk_bools (bs := [true]) b3) (by have := q2.lt; omega)
  have gA := World.grownBy_alloc w2 (.cells #[.bool true] 4) (some q)
  clear b3 q2 q2'
  go_wp2_with fail
  refine HM.mono ?_
  rintro e w3 ⟨rfl, q3, g3⟩
  have e3 : w3.cell? ⟨q, 1, none⟩ = some .nilIface := (q3.cell 1).trans rfl
  have q3' : Blk w3 q #[.slice (some ⟨g, 0, none⟩) s.length s.length, errF true] 111 := q3
  have G3 := grownBy_t G2 (grownBy_t gA g3)
  clear HM gA g3 e2 e20 q3 G2
  have hg3 : At8 w3 g s := ⟨Nat.lt_of_lt_of_le hg.1 G3.size, fun j u hu => (World.cell?_of_block (w := w) (a := ⟨g, j, none⟩) (G3.block g hg.1 (by simpa using hgq))).trans (hg.2 j u hu)⟩
  have hcv := Lib.run_convert_string_bytes (P := Tryz.prog) w3.drew 9 107 5 ⟨t.toArray⟩ Tryz.underlying9 Tryz.underlying107 Tryz.underlying5
  rw [ba_size] at hcv
  obtain ⟨hX0, hX2, hX3⟩ := bytes_new w3.drew t
  have hX1 : Below w3.heap.size w3 (Lib.bytesWorld w3.drew 5 ⟨t.toArray⟩) := (Below.refl w3.heap.size w3).drew.trans hX0
  clear hX0
  generalize grownCap w3.drew t.length 0 5 = C at *
  generalize Lib.bytesWorld w3.drew 5 ⟨t.toArray⟩ = W1 at *
  have e30 : w3.cell? ⟨q, 0, none⟩ = some (.slice (some ⟨g, 0, none⟩) s.length s.length) := (q3'.cell 0).trans rfl
  have e31 : W1.cell? ⟨q, 0, none⟩ = some (.slice (some ⟨g, 0, none⟩) s.length s.length) := (KeepC.of_below hX1).2 _ _ _ e30
  have q1' : Blk W1 q #[.slice (some ⟨g, 0, none⟩) s.length s.length, errF true] 111 := q3'.below hX1 q3'.lt
  have hg1 : At8 W1 g s := hg3.keep (KeepC.of_below hX1)
  obtain ⟨o3, ho3⟩ : ∃ o3, (if s.length = k + n then 0 else k + n) = o3 := ⟨_, rfl⟩
  have hy1 : sliced (some ⟨g, 0, none⟩) 0 k k 1 = .slice (some ⟨g, 0, none⟩) k k := by simp [sliced, Addr.add]
  have hy3 : sliced (some ⟨g, 0, none⟩) (k + n) s.length s.length 1 = .slice (some ⟨g, o3, none⟩) (s.length - (k + n)) (s.length - (k + n)) := by
    rw [← ho3]
    simp only [sliced]
    split
    · simp
    · simp [Addr.add_lit]
  have HY1 := Lib.hid hy1
  have HY3 := Lib.hid hy3
  have HO3 := Lib.hid ho3
  have hwn : IntKind.i64.wrap ((k : Int) + (n : Int)) = ((k + n : Nat) : Int) := by rw [Int.natCast_add]; exact IntWalk.i64_in _ (by omega)
  have hkn : ((k : Int) + (n : Int)) ≤ (s.length : Int) := by omega
  have hkn3 : ((k : Int) + (n : Int)).toNat = k + n := by omega
  have hkn0 : (0 : Int) ≤ ((k : Int) + (n : Int)) := by omega
  have HSET : Hid (∀ W2, W2 = W1.alloc (.cells #[.slice (some ⟨g, 0, none⟩) k k, .slice (some ⟨w3.heap.size, 0, none⟩) t.length C, .slice (some ⟨g, o3, none⟩) (s.length - (k + n)) (s.length - (k + n))] 107) →
      Calls Tryz.prog 94 #[.pointer (some ⟨q, 0, none⟩), .slice (some ⟨W1.heap.size, 0, none⟩) 3 3] W2 fun e w' => e = .returned (.tuple #[]) ∧ ∃ v', Blk w' q #[v', errF (decide (k + t.length + (s.length - (k + n)) ≤ 1000))] 111 ∧ (k + t.length + (s.length - (k + n)) ≤ 1000 → BySl w' v' (s.take k ++ (t ++ s.drop (k + n)))) ∧ w.grownBy w' (some q)) := by
    show ∀ W2, _
    rintro W2 hW2
    have nb : Blk W2 W1.heap.size #[.slice (some ⟨g, 0, none⟩) k k, .slice (some ⟨w3.heap.size, 0, none⟩) t.length C, .slice (some ⟨g, o3, none⟩) (s.length - (k + n)) (s.length - (k + n))] 107 := by rw [hW2]; exact Blk.new _ _ _
    have hB2 : Below W1.heap.size W1 W2 := by rw [hW2]; exact (Below.refl _ W1).alloc (Nat.le_refl _) _
    have hK2 := KeepC.of_below hB2
    have l1 : (s.take k).length = k := by rw [List.length_take]; omega
    have l3 : (s.drop (k + n)).length = s.length - (k + n) := List.length_drop
    have g2 := (hg1.keep hK2).2
    have ok1 : ∀ (j : Nat) u, (u8C (s.take k))[j]? = some u → W2.cell? ⟨g, 0 + j, none⟩ = some u := fun j u hu => by
      rw [Nat.zero_add]
      refine g2 j u ?_
      obtain ⟨hj, rfl⟩ := List.getElem?_eq_some_iff.1 hu
      rw [u8C_len, l1] at hj
      simp only [u8C, List.getElem?_map]
      rw [List.getElem?_eq_getElem (by omega)]
      simp
    have ok2 : ∀ (j : Nat) u, (u8C t)[j]? = some u → W2.cell? ⟨w3.heap.size, 0 + j, none⟩ = some u := fun j u hu => by
      rw [Nat.zero_add]; exact hK2.2 _ _ _ (hX3 j u hu)
    have ok3 : ∀ (j : Nat) u, (u8C (s.drop (k + n)))[j]? = some u → W2.cell? ⟨g, o3 + j, none⟩ = some u := fun j u hu => by
      obtain ⟨hj, rfl⟩ := List.getElem?_eq_some_iff.1 hu
      rw [u8C_len, l3] at hj
      rw [← ho3, if_neg (by omega)]
      refine g2 _ _ ?_
      simp only [u8C, List.getElem?_map]
      rw [List.getElem?_eq_getElem (by omega)]
      simp
    have HS := setF_any q W1.heap.size 3 W2 [⟨g, 0, k, s.take k, ok1, by omega⟩, ⟨w3.heap.size, 0, C, t, ok2, ht⟩, ⟨g, o3, s.length - (k + n), s.drop (k + n), ok3, by omega⟩] (by simp) _ true (q1'.below hB2 q1'.lt)
      (fun i hi => by
        rw [nb.cell i]
        have hi' : i < 3 := hi
        match i, hi' with
        | 0, _ => simp [pcV, l1]
        | 1, _ => simp [pcV]
        | 2, _ => simp [pcV, l3]) nb.lt (by have := q1'.lt; omega) ⟨_, _, _, rfl⟩
    have hsum : sumP [(⟨g, 0, k, s.take k, ok1, by omega⟩ : PcD W2), ⟨w3.heap.size, 0, C, t, ok2, ht⟩, ⟨g, o3, s.length - (k + n), s.drop (k + n), ok3, by omega⟩] = k + t.length + (s.length - (k + n)) := by simp only [sumP, List.map_cons, List.map_nil, List.sum_cons, List.sum_nil, l1, l3]; omega
    have hcat : catP [(⟨g, 0, k, s.take k, ok1, by omega⟩ : PcD W2), ⟨w3.heap.size, 0, C, t, ok2, ht⟩, ⟨g, o3, s.length - (k + n), s.drop (k + n), ok3, by omega⟩] = s.take k ++ (t ++ s.drop (k + n)) := by simp [catP]
    rw [hsum, hcat] at HS
    refine HS.mono fun e w' ⟨he, v', h1, h2, h3, h4⟩ => ⟨he, v', by simpa using h1, fun h => ?_, ?_⟩
    · have := SlR.of_row (h2 h)
      rw [show k + t.length + (s.length - (k + n)) = (s.take k ++ (t ++ s.drop (k + n))).length by rw [List.length_append, List.length_append, l1, l3]; omega] at this
      exact this
    · exact grownBy_t (grownBy_t G3 (grown_of_below (hX1.trans (hB2.mono hX1.size)) _)) h3
  have hX2H : Hid (W1.heap.size = w3.heap.size + 1) := hX2
  clear hg1 q1' hg3 hX3 hX1 q3' G3 hg hq ho3 hy1 hy3 hX2
  go_wp2_with fail
  refine wp_region_noPanic ?_
  refine wp_region_any (by kernel_rfl) ?_
  change wpAny _ _ _ _ _ _ _ (World.drew _)
  refine wpAny_take (i := 0) (oi := _) (v := ?_) (nth_at rfl) (by kernel_rfl) (by kernel_rfl) (by kernel_rfl) (fun _ _ _ h => h) (Or.inl ⟨by rfl, ?_⟩) ?_
  rotate_left 1
  · intro w; (go_simp <;> with_reducible rfl)
  try simp only [Act.put, List.setIfInBounds_toArray, List.set_cons_zero, List.set_cons_succ]
  refine wpAny_take (i := 1) (oi := _) (v := ?_) (nth_at rfl) (by kernel_rfl) (by kernel_rfl) (by kernel_rfl) (fun _ _ _ h => h) (Or.inl ⟨by rfl, ?_⟩) ?_
  rotate_left 1
  · intro w; (go_simp <;> with_reducible rfl)
  try simp only [Act.put, List.setIfInBounds_toArray, List.set_cons_zero, List.set_cons_succ]
  refine wpAny_take (i := 2) (oi := _) (v := ?_) (nth_at rfl) (by kernel_rfl) (by kernel_rfl) (by kernel_rfl) (fun _ _ _ h => h) (Or.inl ⟨by rfl, ?_⟩) ?_
  rotate_left 1
  · intro w; (go_simp <;> with_reducible rfl)
  try simp only [Act.put, List.setIfInBounds_toArray, List.set_cons_zero, List.set_cons_succ]
  refine wpAny_take (i := 3) (oi := _) (v := ?_) (nth_at rfl) (by kernel_rfl) (by kernel_rfl) (by kernel_rfl) (fun _ _ _ h => h) (Or.inl ⟨by rfl, ?_⟩) ?_
  rotate_left 1
  · intro w; (go_simp <;> with_reducible rfl)
  try simp only [Act.put, List.setIfInBounds_toArray, List.set_cons_zero, List.set_cons_succ]
  refine wpAny_take (i := 4) (oi := _) (v := ?_) (nth_at rfl) (by kernel_rfl) (by kernel_rfl) (by kernel_rfl) (fun _ _ _ h => h) (Or.inl ⟨by rfl, ?_⟩) ?_
  rotate_left 1
  · intro w; (go_simp <;> with_reducible rfl)
  try simp only [Act.put, List.setIfInBounds_toArray, List.set_cons_zero, List.set_cons_succ]
  refine wpAny_take (i := 6) (oi := _) (v := ?_) (nth_at rfl) (by kernel_rfl) (by kernel_rfl) (by kernel_rfl) (fun _ _ _ h => h) (Or.inl ⟨by rfl, ?_⟩) ?_
  rotate_left 1
  · intro w; (go_simp <;> with_reducible rfl)
  try simp only [Act.put, List.setIfInBounds_toArray, List.set_cons_zero, List.set_cons_succ]
  refine wpAny_take (i := 7) (oi := _) (v := ?_) (nth_at rfl) (by kernel_rfl) (by kernel_rfl) (by kernel_rfl) (fun _ _ _ h => h) (Or.inl ⟨by rfl, ?_⟩) ?_
  rotate_left 1
  · intro w; (go_simp <;> with_reducible rfl)
  try simp only [Act.put, List.setIfInBounds_toArray, List.set_cons_zero, List.set_cons_succ]
  refine wpAny_take (i := 9) (oi := _) (v := ?_) (nth_at rfl) (by kernel_rfl) (by kernel_rfl) (by kernel_rfl) (fun _ _ _ h => h) (Or.inl ⟨by rfl, ?_⟩) ?_
  rotate_left 1
  · intro w; (go_simp <;> with_reducible rfl)
  try simp only [Act.put, List.setIfInBounds_toArray, List.set_cons_zero, List.set_cons_succ]
  refine wpAny_take (i := 11) (oi := _) (v := ?_) (nth_at rfl) (by kernel_rfl) (by kernel_rfl) (by kernel_rfl) (fun _ _ _ h => h) (Or.inl ⟨by rfl, ?_⟩) ?_
  rotate_left 1
  · intro w; (go_simp <;> with_reducible rfl)
  try simp only [Act.put, List.setIfInBounds_toArray, List.set_cons_zero, List.set_cons_succ]
  refine wpAny_take (i := 12) (oi := _) (v := ?_) (nth_at rfl) (by kernel_rfl) (by kernel_rfl) (by kernel_rfl) (fun _ _ _ h => h) (Or.inl ⟨by rfl, ?_⟩) ?_
  rotate_left 1
  · intro w; (go_simp <;> with_reducible rfl)
  try simp only [Act.put, List.setIfInBounds_toArray, List.set_cons_zero, List.set_cons_succ]
  refine wpAny_take (i := 13) (oi := _) (v := ?_) (nth_at rfl) (by kernel_rfl) (by kernel_rfl) (by kernel_rfl) (fun _ _ _ h => h) (Or.inl ⟨by rfl, ?_⟩) ?_
  rotate_left 1
  · intro w; (go_simp <;> with_reducible rfl)
  try simp only [Act.put, List.setIfInBounds_toArray, List.set_cons_zero, List.set_cons_succ]
  refine wpAny_take (i := 14) (oi := _) (v := ?_) (nth_at rfl) (by kernel_rfl) (by kernel_rfl) (by kernel_rfl) (fun _ _ _ h => h) (Or.inl ⟨by rfl, ?_⟩) ?_
  rotate_left 1
  · intro w; (go_simp <;> with_reducible rfl)
  try simp only [Act.put, List.setIfInBounds_toArray, List.set_cons_zero, List.set_cons_succ]
  refine wpAny_take (i := 16) (oi := _) (v := ?_) (nth_at rfl) (by kernel_rfl) (by kernel_rfl) (by kernel_rfl) (fun _ _ _ h => h) (Or.inl ⟨by rfl, ?_⟩) ?_
  rotate_left 1
  · intro w; (go_simp <;> with_reducible rfl)
  try simp only [Act.put, List.setIfInBounds_toArray, List.set_cons_zero, List.set_cons_succ]
  refine wpAny_take (i := 17) (oi := _) (v := ?_) (nth_at rfl) (by kernel_rfl) (by kernel_rfl) (by kernel_rfl) (fun _ _ _ h => h) (Or.inl ⟨by rfl, ?_⟩) ?_
  rotate_left 1
  · intro w; (go_simp <;> with_reducible rfl)
  try simp only [Act.put, List.setIfInBounds_toArray, List.set_cons_zero, List.set_cons_succ]
  refine wpAny_take (i := 18) (oi := _) (v := ?_) (nth_at rfl) (by kernel_rfl) (by kernel_rfl) (by kernel_rfl) (fun _ _ _ h => h) (Or.inl ⟨by rfl, ?_⟩) ?_
  rotate_left 1
  · intro w; (go_simp <;> with_reducible rfl)
  try simp only [Act.put, List.setIfInBounds_toArray, List.set_cons_zero, List.set_cons_succ]
  refine wpAny_ready (rs := [5, 10, 15]) (by kernel_rfl) (by simp) ?_
  refine AllReady.cons (o := _) (nth_at rfl) (fun K hK => ?_) ?_
  · go_simp
    refine hK _ _ ?_
    clear hK K
    try simp only [Act.put, List.setIfInBounds_toArray, List.set_cons_zero, List.set_cons_succ]
    refine wpAny_take (i := 8) (oi := _) (v := .slice (some ⟨g, 0, none⟩) k k) (nth_at rfl) (by kernel_rfl) (by kernel_rfl) (by kernel_rfl) (fun _ _ _ h => h) (Or.inl ⟨by rfl, ?_⟩) ?_
    · intro w; (go_simp <;> (have h := HY1.out; simp [sliced] at h ⊢; first | done | exact h))
    try simp only [Act.put, List.setIfInBounds_toArray, List.set_cons_zero, List.set_cons_succ]
    refine wpAny_ready (rs := [10, 15]) (by kernel_rfl) (by simp) ?_
    refine AllReady.cons (o := _) (nth_at rfl) (fun K hK => ?_) ?_
    · go_simp
      refine hK _ _ ?_
      clear hK K
      try simp only [Act.put, List.setIfInBounds_toArray, List.set_cons_zero, List.set_cons_succ]
      refine wpAny_ready (rs := [15]) (by kernel_rfl) (by simp) ?_
      refine AllReady.cons (o := _) (nth_at rfl) (fun K hK => ?_) AllReady.nil
      go_simp
      refine hK _ _ ?_
      clear hK K
      try simp only [Act.put, List.setIfInBounds_toArray, List.set_cons_zero, List.set_cons_succ]
      refine wpAny_take (i := 19) (oi := _) (v := .slice (some ⟨g, o3, none⟩) (s.length - (k + n)) (s.length - (k + n))) (nth_at rfl) (by kernel_rfl) (by kernel_rfl) (by kernel_rfl) (fun _ _ _ h => h) (Or.inl ⟨by rfl, ?_⟩) ?_
      · intro w; (go_simp <;> (have h := HY3.out; simp [sliced, hkn3, Addr.add_lit] at h ⊢; exact h))
      try simp only [Act.put, List.setIfInBounds_toArray, List.set_cons_zero, List.set_cons_succ]
      refine wpAny_ready (rs := [20]) (by kernel_rfl) (by simp) ?_
      refine AllReady.cons (o := _) (nth_at rfl) (fun K hK => ?_) AllReady.nil
      go_simp
      refine hK _ _ ?_
      clear hK K
      try simp only [Act.put, List.setIfInBounds_toArray, List.set_cons_zero, List.set_cons_succ]
      refine wpAny_ready (rs := [21]) (by kernel_rfl) (by simp) ?_
      refine AllReady.cons (o := _) (nth_at rfl) (fun K hK => ?_) AllReady.nil
      go_simp
      with_reducible refine (HSET.out _ rfl).mono ?_
      rintro e w4 ⟨rfl, v4, f4⟩
      refine hK _ _ ?_
      clear hK K
      try simp only [Act.put, List.setIfInBounds_toArray, List.set_cons_zero, List.set_cons_succ]
      refine wpAny_done (by kernel_rfl) ?_ _
      refine NoPanic.normal ?_
      go_end0
      exact ⟨rfl, v4, f4⟩
    refine AllReady.cons (o := _) (nth_at rfl) (fun K hK => ?_) AllReady.nil
    go_simp
    refine hK _ _ ?_
    clear hK K
    try simp only [Act.put, List.setIfInBounds_toArray, List.set_cons_zero, List.set_cons_succ]
    refine wpAny_take (i := 19) (oi := _) (v := .slice (some ⟨g, o3, none⟩) (s.length - (k + n)) (s.length - (k + n))) (nth_at rfl) (by kernel_rfl) (by kernel_rfl) (by kernel_rfl) (fun _ _ _ h => h) (Or.inl ⟨by rfl, ?_⟩) ?_
    · intro w; (go_simp <;> (have h := HY3.out; simp [sliced, hkn3, Addr.add_lit] at h ⊢; exact h))
    try simp only [Act.put, List.setIfInBounds_toArray, List.set_cons_zero, List.set_cons_succ]
    refine wpAny_ready (rs := [10]) (by kernel_rfl) (by simp) ?_
    refine AllReady.cons (o := _) (nth_at rfl) (fun K hK => ?_) AllReady.nil
    go_simp
    refine hK _ _ ?_
    clear hK K
    try simp only [Act.put, List.setIfInBounds_toArray, List.set_cons_zero, List.set_cons_succ]
    refine wpAny_ready (rs := [20]) (by kernel_rfl) (by simp) ?_
    refine AllReady.cons (o := _) (nth_at rfl) (fun K hK => ?_) AllReady.nil
    go_simp
    refine hK _ _ ?_
    clear hK K
    try simp only [Act.put, List.setIfInBounds_toArray, List.set_cons_zero, List.set_cons_succ]
    refine wpAny_ready (rs := [21]) (by kernel_rfl) (by simp) ?_
    refine AllReady.cons (o := _) (nth_at rfl) (fun K hK => ?_) AllReady.nil
    go_simp
    with_reducible refine (HSET.out _ rfl).mono ?_
    rintro e w4 ⟨rfl, v4, f4⟩
    refine hK _ _ ?_
    clear hK K
    try simp only [Act.put, List.setIfInBounds_toArray, List.set_cons_zero, List.set_cons_succ]
    refine wpAny_done (by kernel_rfl) ?_ _
    refine NoPanic.normal ?_
    go_end0
    exact ⟨rfl, v4, f4⟩
  refine AllReady.cons (o := _) (nth_at rfl) (fun K hK => ?_) ?_
  · go_simp
    refine hK _ _ ?_
    clear hK K
    try simp only [Act.put, List.setIfInBounds_toArray, List.set_cons_zero, List.set_cons_succ]
    refine wpAny_ready (rs := [5, 15]) (by kernel_rfl) (by simp) ?_
    refine AllReady.cons (o := _) (nth_at rfl) (fun K hK => ?_) ?_
    · go_simp
      refine hK _ _ ?_
      clear hK K
      try simp only [Act.put, List.setIfInBounds_toArray, List.set_cons_zero, List.set_cons_succ]
      refine wpAny_take (i := 8) (oi := _) (v := .slice (some ⟨g, 0, none⟩) k k) (nth_at rfl) (by kernel_rfl) (by kernel_rfl) (by kernel_rfl) (fun _ _ _ h => h) (Or.inl ⟨by rfl, ?_⟩) ?_
      · intro w; (go_simp <;> (have h := HY1.out; simp [sliced] at h ⊢; first | done | exact h))
      try simp only [Act.put, List.setIfInBounds_toArray, List.set_cons_zero, List.set_cons_succ]
      refine wpAny_ready (rs := [15]) (by kernel_rfl) (by simp) ?_
      refine AllReady.cons (o := _) (nth_at rfl) (fun K hK => ?_) AllReady.nil
      go_simp
      refine hK _ _ ?_
      clear hK K
      try simp only [Act.put, List.setIfInBounds_toArray, List.set_cons_zero, List.set_cons_succ]
      refine wpAny_take (i := 19) (oi := _) (v := .slice (some ⟨g, o3, none⟩) (s.length - (k + n)) (s.length - (k + n))) (nth_at rfl) (by kernel_rfl) (by kernel_rfl) (by kernel_rfl) (fun _ _ _ h => h) (Or.inl ⟨by rfl, ?_⟩) ?_
      · intro w; (go_simp <;> (have h := HY3.out; simp [sliced, hkn3, Addr.add_lit] at h ⊢; exact h))
      try simp only [Act.put, List.setIfInBounds_toArray, List.set_cons_zero, List.set_cons_succ]
      refine wpAny_ready (rs := [20]) (by kernel_rfl) (by simp) ?_
      refine AllReady.cons (o := _) (nth_at rfl) (fun K hK => ?_) AllReady.nil
      go_simp
      refine hK _ _ ?_
      clear hK K
      try simp only [Act.put, List.setIfInBounds_toArray, List.set_cons_zero, List.set_cons_succ]
      refine wpAny_ready (rs := [21]) (by kernel_rfl) (by simp) ?_
      refine AllReady.cons (o := _) (nth_at rfl) (fun K hK => ?_) AllReady.nil
      go_simp
      with_reducible refine (HSET.out _ rfl).mono ?_
      rintro e w4 ⟨rfl, v4, f4⟩
      refine hK _ _ ?_
      clear hK K
      try simp only [Act.put, List.setIfInBounds_toArray, List.set_cons_zero, List.set_cons_succ]
      refine wpAny_done (by kernel_rfl) ?_ _
      refine NoPanic.normal ?_
      go_end0
      exact ⟨rfl, v4, f4⟩
    refine AllReady.cons (o := _) (nth_at rfl) (fun K hK => ?_) AllReady.nil
    go_simp
    refine hK _ _ ?_
    clear hK K
    try simp only [Act.put, List.setIfInBounds_toArray, List.set_cons_zero, List.set_cons_succ]
    refine wpAny_take (i := 19) (oi := _) (v := .slice (some ⟨g, o3, none⟩) (s.length - (k + n)) (s.length - (k + n))) (nth_at rfl) (by kernel_rfl) (by kernel_rfl) (by kernel_rfl) (fun _ _ _ h => h) (Or.inl ⟨by rfl, ?_⟩) ?_
    · intro w; (go_simp <;> (have h := HY3.out; simp [sliced, hkn3, Addr.add_lit] at h ⊢; exact h))
    try simp only [Act.put, List.setIfInBounds_toArray, List.set_cons_zero, List.set_cons_succ]
    refine wpAny_ready (rs := [5]) (by kernel_rfl) (by simp) ?_
    refine AllReady.cons (o := _) (nth_at rfl) (fun K hK => ?_) AllReady.nil
    go_simp
    refine hK _ _ ?_
    clear hK K
    try simp only [Act.put, List.setIfInBounds_toArray, List.set_cons_zero, List.set_cons_succ]
    refine wpAny_take (i := 8) (oi := _) (v := .slice (some ⟨g, 0, none⟩) k k) (nth_at rfl) (by kernel_rfl) (by kernel_rfl) (by kernel_rfl) (fun _ _ _ h => h) (Or.inl ⟨by rfl, ?_⟩) ?_
    · intro w; (go_simp <;> (have h := HY1.out; simp [sliced] at h ⊢; first | done | exact h))
    try simp only [Act.put, List.setIfInBounds_toArray, List.set_cons_zero, List.set_cons_succ]
    refine wpAny_ready (rs := [20]) (by kernel_rfl) (by simp) ?_
    refine AllReady.cons (o := _) (nth_at rfl) (fun K hK => ?_) AllReady.nil
    go_simp
    refine hK _ _ ?_
    clear hK K
    try simp only [Act.put, List.setIfInBounds_toArray, List.set_cons_zero, List.set_cons_succ]
    refine wpAny_ready (rs := [21]) (by kernel_rfl) (by simp) ?_
    refine AllReady.cons (o := _) (nth_at rfl) (fun K hK => ?_) AllReady.nil
    go_simp
    with_reducible refine (HSET.out _ rfl).mono ?_
    rintro e w4 ⟨rfl, v4, f4⟩
    refine hK _ _ ?_
    clear hK K
    try simp only [Act.put, List.setIfInBounds_toArray, List.set_cons_zero, List.set_cons_succ]
    refine wpAny_done (by kernel_rfl) ?_ _
    refine NoPanic.normal ?_
    go_end0
    exact ⟨rfl, v4, f4⟩
  refine AllReady.cons (o := _) (nth_at rfl) (fun K hK => ?_) AllReady.nil
  go_simp
  refine hK _ _ ?_
  clear hK K
  try simp only [Act.put, List.setIfInBounds_toArray, List.set_cons_zero, List.set_cons_succ]
  refine wpAny_take (i := 19) (oi := _) (v := .slice (some ⟨g, o3, none⟩) (s.length - (k + n)) (s.length - (k + n))) (nth_at rfl) (by kernel_rfl) (by kernel_rfl) (by kernel_rfl) (fun _ _ _ h => h) (Or.inl ⟨by rfl, ?_⟩) ?_
  · intro w; (go_simp <;> (have h := HY3.out; simp [sliced, hkn3, Addr.add_lit] at h ⊢; exact h))
  try simp only [Act.put, List.setIfInBounds_toArray, List.set_cons_zero, List.set_cons_succ]
  refine wpAny_ready (rs := [5, 10]) (by kernel_rfl) (by simp) ?_
  refine AllReady.cons (o := _) (nth_at rfl) (fun K hK => ?_) ?_
  · go_simp
    refine hK _ _ ?_
    clear hK K
    try simp only [Act.put, List.setIfInBounds_toArray, List.set_cons_zero, List.set_cons_succ]
    refine wpAny_take (i := 8) (oi := _) (v := .slice (some ⟨g, 0, none⟩) k k) (nth_at rfl) (by kernel_rfl) (by kernel_rfl) (by kernel_rfl) (fun _ _ _ h => h) (Or.inl ⟨by rfl, ?_⟩) ?_
    · intro w; (go_simp <;> (have h := HY1.out; simp [sliced] at h ⊢; first | done | exact h))
    try simp only [Act.put, List.setIfInBounds_toArray, List.set_cons_zero, List.set_cons_succ]
    refine wpAny_ready (rs := [10]) (by kernel_rfl) (by simp) ?_
    refine AllReady.cons (o := _) (nth_at rfl) (fun K hK => ?_) AllReady.nil
    go_simp
    refine hK _ _ ?_
    clear hK K
    try simp only [Act.put, List.setIfInBounds_toArray, List.set_cons_zero, List.set_cons_succ]
    refine wpAny_ready (rs := [20]) (by kernel_rfl) (by simp) ?_
    refine AllReady.cons (o := _) (nth_at rfl) (fun K hK => ?_) AllReady.nil
    go_simp
    refine hK _ _ ?_
    clear hK K
    try simp only [Act.put, List.setIfInBounds_toArray, List.set_cons_zero, List.set_cons_succ]
    refine wpAny_ready (rs := [21]) (by kernel_rfl) (by simp) ?_
    refine AllReady.cons (o := _) (nth_at rfl) (fun K hK => ?_) AllReady.nil
    go_simp
    with_reducible refine (HSET.out _ rfl).mono ?_
    rintro e w4 ⟨rfl, v4, f4⟩
    refine hK _ _ ?_
    clear hK K
    try simp only [Act.put, List.setIfInBounds_toArray, List.set_cons_zero, List.set_cons_succ]
    refine wpAny_done (by kernel_rfl) ?_ _
    refine NoPanic.normal ?_
    go_end0
    exact ⟨rfl, v4, f4⟩
  refine AllReady.cons (o := _) (nth_at rfl) (fun K hK => ?_) AllReady.nil
  go_simp
  refine hK _ _ ?_
  clear hK K
  try simp only [Act.put, List.setIfInBounds_toArray, List.set_cons_zero, List.set_cons_succ]
  refine wpAny_ready (rs := [5]) (by kernel_rfl) (by simp) ?_
  refine AllReady.cons (o := _) (nth_at rfl) (fun K hK => ?_) AllReady.nil
  go_simp
  refine hK _ _ ?_
  clear hK K
  try simp only [Act.put, List.setIfInBounds_toArray, List.set_cons_zero, List.set_cons_succ]
  refine wpAny_take (i := 8) (oi := _) (v := .slice (some ⟨g, 0, none⟩) k k) (nth_at rfl) (by kernel_rfl) (by kernel_rfl) (by kernel_rfl) (fun _ _ _ h => h) (Or.inl ⟨by rfl, ?_⟩) ?_
  · intro w; (go_simp <;> (have h := HY1.out; simp [sliced] at h ⊢; first | done | exact h))
  try simp only [Act.put, List.setIfInBounds_toArray, List.set_cons_zero, List.set_cons_succ]
  refine wpAny_ready (rs := [20]) (by kernel_rfl) (by simp) ?_
  refine AllReady.cons (o := _) (nth_at rfl) (fun K hK => ?_) AllReady.nil
  go_simp
  refine hK _ _ ?_
  clear hK K
  try simp only [Act.put, List.setIfInBounds_toArray, List.set_cons_zero, List.set_cons_succ]
  refine wpAny_ready (rs := [21]) (by kernel_rfl) (by simp) ?_
  refine AllReady.cons (o := _) (nth_at rfl) (fun K hK => ?_) AllReady.nil
  go_simp
  with_reducible refine (HSET.out _ rfl).mono ?_
  rintro e w4 ⟨rfl, v4, f4⟩
  refine hK _ _ ?_
  clear hK K
  try simp only [Act.put, List.setIfInBounds_toArray, List.set_cons_zero, List.set_cons_succ]
  refine wpAny_done (by kernel_rfl) ?_ _
  refine NoPanic.normal ?_
  go_end0
  exact ⟨rfl, v4, f4⟩
end Go.Proofs.YthclfkhakmcnbaaGreatDoor
/- Walks of layer 9: Write. -/
namespace Go.Proofs.YthclfkhakmcnbaaGreatDoor
open Go.RowKit Go.Shelf
attribute [local go_sem] Oper.semAt_some
def fileP (w : World) (b : Bool) (s : List UInt8) (e : Ending) (w' : World) : Prop := e = .returned (.tuple #[.string ⟨(fL b s).toArray⟩, .int .i64 (fE b)]) ∧ Below w.heap.size w w'
theorem fwriteB_eq (s t : List UInt8) (k : Int) : fwriteB s k t = ((decide (s.length ≤ 1000) && (decide (0 ≤ k) && decide (k ≤ s.length))) && decide (k + t.length ≤ 1000)) := by
  unfold fwriteB
  cases decide (s.length ≤ 1000) <;> cases decide (0 ≤ k) <;> cases decide (k ≤ s.length) <;> rfl
set_option maxRecDepth 100000 in
set_option maxHeartbeats 4000000 in
theorem fWrite_any (s t : List UInt8) (hs : s.length ≤ 1000000) (ht : t.length ≤ 1000000) (k : Int) (w : World) (hgE : w.cell? ⟨4, 0, none⟩ = some (.iface FileAs.RT (.agg #[FileAs.H 69]))) :
    Calls Tryz.prog 45 #[.string ⟨s.toArray⟩, .int .i64 k, .string ⟨t.toArray⟩] w (fileP w (fwriteB s k t) (fwriteL s k t)) := by
  have HO := openF_any s hs w
  have hz1 := ba_size s
  have hz2 := ba_size t
  have HE := fun q v ok r W (h : KeepC w W) (h1 : Blk W q #[v, errF ok] 111) h2 => endF_any q r v ok W (h.2 _ _ _ hgE) h1 h2
  rw [fwriteB_eq]
  cases hc : (decide (s.length ≤ 1000) && (decide (0 ≤ k) && decide (k ≤ s.length))) with
  | false =>
    rw [Bool.false_and]
    clear hgE
    have HcH := Lib.hid hc
    clear hc
    generalize decide (s.length ≤ 1000) = ok at *
    go_enter Tryz.func45, Tryz.ntmps45
    go_wp2_with fail
    with_reducible refine HO.mono ?_
    rintro e w1 ⟨q, g, rfl, hqw, hgw, hgq, q1, g1, b1⟩
    clear HO
    go_wp2_with fail
    have HS := fun n hn => splice_no q _ s.length s.length hs ok k n hn t w1 q1 HcH.out
    with_reducible refine (HS _ (Int.le_max_left _ _)).mono ?_
    rintro e w2 ⟨rfl, q2, g2⟩
    have b2 := b1.grown g2 b1.size (fun k e => by cases e; exact hqw)
    have HEx := HE q _ false (fwriteL s k t) w2 (KeepC.of_below b2) q2 (fun h => by cases h)
    clear HE HS q1 g1
    go_wp2_with fail
    with_reducible refine HEx.mono ?_
    rintro e w3 ⟨rfl, b3⟩
    go_wp2_with fail
    go_ret2
    exact ⟨rfl, b2.trans (b3.mono b2.size)⟩
  | true =>
    simp only [Bool.and_eq_true, decide_eq_true_eq] at hc
    obtain ⟨hs1, hk0, hkl⟩ := hc
    obtain ⟨kk, rfl⟩ : ∃ kk : Nat, k = kk := ⟨k.toNat, by omega⟩
    have hkl' : kk ≤ s.length := by omega
    have hd : decide (s.length ≤ 1000) = true := by simpa using hs1
    rw [hd] at HO
    obtain ⟨nn, hnn⟩ : ∃ nn, min t.length (s.length - kk) = nn := ⟨_, rfl⟩
    have hnz : max 0 (min (t.length : Int) ((s.length : Int) - (kk : Int))) = (nn : Int) := by omega
    have HS := fun q g W h1 h2 h3 => splice_do q g s hs kk nn hkl' (by omega) t ht W h1 h2 h3
    have hb : decide (kk + t.length + (s.length - (kk + nn)) ≤ 1000) = decide ((kk : Int) + t.length ≤ 1000) := decide_eq_decide.2 (by omega)
    have hl : s.take kk ++ (t ++ s.drop (kk + nn)) = fwriteL s kk t := by
      unfold fwriteL
      rw [Int.toNat_natCast]
      congr 2
      by_cases h : t.length ≤ s.length - kk
      · rw [show nn = t.length by omega]
      · rw [List.drop_of_length_le (by omega), List.drop_of_length_le (by omega)]
    simp only [hb, hl] at HS
    have hpr : kk + t.length + (s.length - (kk + nn)) ≤ 1000 ↔ decide ((kk : Int) + t.length ≤ 1000) = true := by rw [decide_eq_true_eq]; omega
    rw [Bool.true_and]
    simp only [hpr] at HS
    clear hgE hb hl hd hpr hnn
    generalize decide ((kk : Int) + t.length ≤ 1000) = ok at *
    generalize fwriteL s kk t = R at *
    go_enter Tryz.func45, Tryz.ntmps45
    go_wp2_with fail
    with_reducible refine HO.mono ?_
    rintro e w1 ⟨q, g, rfl, hqw, hgw, hgq, q1, g1, b1⟩
    clear HO
    have HSx := HS q g w1 q1 g1 hgq
    clear HS
    go_wp2_with fail
    with_reducible refine HSx.mono ?_
    rintro e w2 ⟨rfl, v2, q2, hv2, g2⟩
    have b2 := b1.grown g2 b1.size (fun k e => by cases e; exact hqw)
    have HEx := HE q _ ok R w2 (KeepC.of_below b2) q2 hv2
    clear HE HSx q1 g1 hv2
    go_wp2_with fail
    with_reducible refine HEx.mono ?_
    rintro e w3 ⟨rfl, b3⟩
    go_wp2_with fail
    go_ret2
    exact ⟨rfl, b2.trans (b3.mono b2.size)⟩
end Go.Proofs.YthclfkhakmcnbaaGreatDoor
/- Walks of layer 9: Read. -/
namespace Go.Proofs.YthclfkhakmcnbaaGreatDoor
open Go.RowKit Go.Shelf
attribute [local go_sem] Oper.semAt_some
theorem jump_retF {l : Nat} {J : Act → World → Prop} {Q : Exit → Act → World → Prop} {a : Act} {w : World} : Exit.jump l J Q .ret a w = Q .ret a w := rfl
set_option maxRecDepth 100000 in
set_option maxHeartbeats 4000000 in
theorem fRead_any (s : List UInt8) (hs : s.length ≤ 1000000) (k n : Int) (w : World) (hgE : w.cell? ⟨4, 0, none⟩ = some (.iface FileAs.RT (.agg #[FileAs.H 69]))) :
    Calls Tryz.prog 52 #[.string ⟨s.toArray⟩, .int .i64 k, .int .i64 n] w (fileP w (freadB s k n) (freadL s k n)) := by
  have HO := openF_any s hs w
  have HE := fun q v ok r W (h : KeepC w W) (h1 : Blk W q #[v, errF ok] 111) h2 => endF_any q r v ok W (h.2 _ _ _ hgE) h1 h2
  have HF := fun q a W h => isOffset_any q a s.length s.length hs k W h
  have hB : freadB s k n = (decide (s.length ≤ 1000) && [decide (0 ≤ k) && decide (k ≤ s.length), decide (0 ≤ n)].all id) := by
    unfold freadB
    cases decide (s.length ≤ 1000) <;> cases decide (0 ≤ k) <;> cases decide (k ≤ s.length) <;> cases decide (0 ≤ n) <;> rfl
  have HM := fun q g W v h1 h2 h3 => mustF_any q g 2 v (decide (s.length ≤ 1000)) [decide (0 ≤ k) && decide (k ≤ s.length), decide (0 ≤ n)] (by simp) W h1 h2 h3
  rw [← hB] at HM
  clear hgE
  cases hc : freadB s k n with
  | false =>
    rw [hc] at HM
    clear hc hB
    generalize decide (s.length ≤ 1000) = ok at *
    generalize (decide (0 ≤ k) && decide (k ≤ (s.length : Int))) = bo at *
    go_enter Tryz.func52, Tryz.ntmps52
    go_wp2_with fail
    refine wp_scope_jumps (l := 0) (J := fun a W => ∃ (q : Nat) (v : Value), Blk W q #[v, errF false] 111 ∧ Below w.heap.size w W ∧ ∃ u0 u1 u2 u3 u4 u5 u6 u7 u9 u10 u11 u12 u13 u14 u15 u16 u17 u18 u19 u20 u21 u22 u23 u24 u25 u26 u27 u28 u29 u30 u31 u32 u33 u34 u35 u36 u37 u38 u39 u40 u41 u42 u43 u44 u45 u46 u47 u48 u49 u50 : Value, a = { tmps := #[u0, u1, u2, u3, u4, u5, u6, u7, .pointer (some ⟨q, 0, none⟩), u9, u10, u11, u12, u13, u14, u15, u16, u17, u18, u19, u20, u21, u22, u23, u24, u25, u26, u27, u28, u29, u30, u31, u32, u33, u34, u35, u36, u37, u38, u39, u40, u41, u42, u43, u44, u45, u46, u47, u48, u49, u50], defers := [] }) (μ := fun _ _ => 0) rfl ?first ?pass
    case pass =>
      rintro a W ⟨q, v, q3, b3, u0, u1, u2, u3, u4, u5, u6, u7, u9, u10, u11, u12, u13, u14, u15, u16, u17, u18, u19, u20, u21, u22, u23, u24, u25, u26, u27, u28, u29, u30, u31, u32, u33, u34, u35, u36, u37, u38, u39, u40, u41, u42, u43, u44, u45, u46, u47, u48, u49, u50, rfl⟩
      have HEx := Lib.hid (HE q _ false (freadL s k n) W (KeepC.of_below b3) q3 (fun h => by cases h))
      clear HE q3 HM HF HO
      go_wp2_with fail
      with_reducible refine HEx.out.mono ?_
      rintro e w4 ⟨rfl, b4⟩
      go_wp2_with fail
      rw [jump_retF]
      go_ret2
      exact ⟨rfl, b3.trans (b4.mono b3.size)⟩
    case first =>
      clear HE
      go_wp2_with fail
      with_reducible refine HO.mono ?_
      rintro e w1 ⟨q, g, rfl, hqw, hgw, hgq, q1, g1, b1⟩
      clear HO
      have HFx := HF q _ w1 ((q1.cell 0).trans rfl)
      go_wp2_with fail
      with_reducible refine HFx.mono ?_
      rintro e w2 ⟨rfl, rfl⟩
      have nb : Blk (w1.alloc (.cells #[.bool bo, .bool (decide (0 ≤ n))] 4)) w1.heap.size #[.bool bo, .bool (decide (0 ≤ n))] 4 := Blk.new _ _ _
      have HMx := HM q w1.heap.size _ _ (q1.alloc (.cells #[.bool bo, .bool (decide (0 ≤ n))] 4)) (blk_bools (bs := [bo, decide (0 ≤ n)]) nb) (by have := q1.lt; omega)
      have b2 := b1.alloc b1.size (.cells #[.bool bo, .bool (decide (0 ≤ n))] 4)
      clear HM nb HF HFx
      go_wp2_with fail
      refine HMx.mono ?_
      rintro e w3 ⟨rfl, q3, g3⟩
      have b3 := b2.grown g3 b2.size (fun k e => by cases e; exact hqw)
      have e3 : w3.cell? ⟨q, 1, none⟩ = some fwV := (q3.cell 1).trans rfl
      clear HMx q1 g1 g3 b2 b1
      go_wp2_with fail
      exact wp_goto ⟨rfl, q, _, q3, b3, _, _, _, _, _, _, _, _, _, _, _, _, _, _, _, _, _, _, _, _, _, _, _, _, _, _, _, _, _, _, _, _, _, _, _, _, _, _, _, _, _, _, _, _, _, _, _, _, _, _, rfl⟩
  | true =>
    have hB1 := hc
    simp only [freadB, Bool.and_eq_true, decide_eq_true_eq] at hB1
    obtain ⟨⟨⟨hs1, hk0⟩, hkl⟩, hn0⟩ := hB1
    rw [hc] at HM
    have hd : decide (s.length ≤ 1000) = true := by simpa using hs1
    have hbo : (decide (0 ≤ k) && decide (k ≤ (s.length : Int))) = true := by simp [hk0, hkl]
    have hn1 : decide (0 ≤ n) = true := by simpa using hn0
    rw [hd, hbo, hn1] at HM
    rw [hd] at HO
    rw [hbo] at HF
    obtain ⟨kk, rfl⟩ : ∃ kk : Nat, k = kk := ⟨k.toNat, by omega⟩
    obtain ⟨nn, rfl⟩ : ∃ nn : Nat, n = nn := ⟨n.toNat, by omega⟩
    clear hc hB hd hbo hn1
    go_enter Tryz.func52, Tryz.ntmps52
    go_wp2_with fail
    refine wp_scope_straight ?_
    go_wp2_with fail
    with_reducible refine HO.mono ?_
    rintro e w1 ⟨q, g, rfl, hqw, hgw, hgq, q1, g1, b1⟩
    clear HO
    have HFx := HF q _ w1 ((q1.cell 0).trans rfl)
    go_wp2_with fail
    with_reducible refine HFx.mono ?_
    rintro e w2 ⟨rfl, rfl⟩
    have nb : Blk (w1.alloc (.cells #[.bool true, .bool true] 4)) w1.heap.size #[.bool true, .bool true] 4 := Blk.new _ _ _
    have HMx := HM q w1.heap.size _ _ (q1.alloc (.cells #[.bool true, .bool true] 4)) (blk_bools (bs := [true, true]) nb) (by have := q1.lt; omega)
    have b2 := b1.alloc b1.size (.cells #[.bool true, .bool true] 4)
    have g2 := g1.keep (KeepC.alloc w1 (.cells #[.bool true, .bool true] 4))
    clear HM nb HF HFx
    go_wp2_with fail
    refine HMx.mono ?_
    rintro e w3 ⟨rfl, q3, g3⟩
    have b3 := b2.grown g3 b2.size (fun k e => by cases e; exact hqw)
    have e3 : w3.cell? ⟨q, 1, none⟩ = some .nilIface := (q3.cell 1).trans rfl
    have e30 : w3.cell? ⟨q, 0, none⟩ = some (.slice (some ⟨g, 0, none⟩) s.length s.length) := (q3.cell 0).trans rfl
    have f30 := q3.frozen 0
    have g30 : At8 w3 g s := ⟨Nat.lt_of_lt_of_le g2.1 g3.size, fun j u hu => (World.cell?_of_block (a := ⟨g, j, none⟩) (g3.block g g2.1 (by simpa using hgq))).trans (g2.2 j u hu)⟩
    have b3H := Lib.hid b3
    clear HMx q1 g1 g3 b2 b1 g2 b3
    obtain ⟨mm, hmm⟩ : ∃ mm, min nn (s.length - kk) = mm := ⟨_, rfl⟩
    have hm1 : min (nn : Int) ((s.length : Int) - (kk : Int)) = (mm : Int) := by omega
    have hm2 : (kk : Int) + (mm : Int) ≤ (s.length : Int) := by omega
    have hm3 : (0 : Int) ≤ (kk : Int) + (mm : Int) := by omega
    have hm4 : (kk : Int) ≤ (kk : Int) + (mm : Int) := by omega
    obtain ⟨o3, ho3⟩ : ∃ o3, (if s.length = kk then 0 else kk) = o3 := ⟨_, rfl⟩
    have hkl' : kk ≤ s.length := by omega
    have hy3 : sliced (some ⟨g, 0, none⟩) kk (kk + mm) s.length 1 = .slice (some ⟨g, o3, none⟩) mm (s.length - kk) := by
      rw [← ho3]
      simp only [sliced]
      split
      · simp
      · simp [Addr.add_lit]
    have HY3 := Lib.hid hy3
    have hkn3 : ((kk : Int) + (mm : Int)).toNat = kk + mm := by omega
    have hR : freadL s kk nn = (s.drop kk).take mm := by
      unfold freadL
      rw [Int.toNat_natCast, Int.toNat_natCast, ← hmm]
      by_cases h : nn ≤ s.length - kk
      · rw [Nat.min_eq_left h]
      · rw [Nat.min_eq_right (by omega), List.take_of_length_le (by rw [List.length_drop]; omega), List.take_of_length_le (by rw [List.length_drop]; exact Nat.le_refl _)]
    have hlen : ((s.drop kk).take mm).length = mm := by rw [List.length_take, List.length_drop]; omega
    have HFIN : Hid (∀ W, W = (w3.setCell ⟨q, 0, none⟩ (.slice (some ⟨g, o3, none⟩) mm (s.length - kk))).drew → Below w.heap.size w W ∧
        Calls Tryz.prog 88 #[.pointer (some ⟨q, 0, none⟩)] W fun e w' => e = .returned (.tuple #[.string ⟨(fL true (freadL s kk nn)).toArray⟩, .int .i64 (fE true)]) ∧ Below W.heap.size W w') := by
      show ∀ W, _
      intro W hW
      have q4 : Blk W q #[.slice (some ⟨g, o3, none⟩) mm (s.length - kk), errF true] 111 := by rw [hW]; exact Blk.drew (by simpa using q3.set 0 (.slice (some ⟨g, o3, none⟩) mm (s.length - kk)))
      have b4 : Below w.heap.size w W := by rw [hW]; exact (b3H.out.setCell (p := ⟨q, 0, none⟩) hqw _).drew
      refine ⟨b4, HE q _ true _ W (KeepC.of_below b4) q4 (fun _ => ?_)⟩
      rw [hR]
      refine ⟨by rw [u8C_len, hlen]; omega, some ⟨g, o3, none⟩, s.length - kk, by rw [hlen], by rw [hlen]; omega, ?_⟩
      rw [hlen]
      by_cases h0 : mm = 0
      · exact .inl h0
      · refine .inr ⟨g, o3, rfl, ?_, fun j hj => ?_⟩
        · rw [hW]; show g < (w3.setCell _ _).heap.size; rw [size_setCell]; exact g30.1
        · rw [u8C_len, hlen] at hj
          rw [← ho3, if_neg (by omega), hW]
          show (w3.setCell _ _).cell? _ = _
          rw [World.cell?_setCell_other _ _ _ _ (fun e => hgq (by injection e; omega))]
          refine g30.2 (kk + j) _ ?_
          simp only [u8C, List.getElem?_map]
          rw [List.getElem?_eq_getElem (by omega)]
          simp
    have hw1 : IntKind.i64.wrap ((s.length : Int) - (kk : Int)) = (s.length : Int) - (kk : Int) := IntWalk.i64_in _ (by omega)
    have hw2 : IntKind.i64.wrap ((kk : Int) + (mm : Int)) = (kk : Int) + (mm : Int) := IntWalk.i64_in _ (by omega)
    clear hR hlen HE g30 q3 b3H ho3 hy3 hmm
    go_wp2_with fail
    refine wp_region_noPanic ?_
    refine wp_region_any (by kernel_rfl) ?_
    change wpAny _ _ _ _ _ _ _ (World.drew _)
    refine wpAny_take (i := 0) (oi := _) (v := ?_) (nth_at rfl) (by kernel_rfl) (by kernel_rfl) (by kernel_rfl) (fun _ _ _ h => h) (Or.inl ⟨by rfl, ?_⟩) ?_
    rotate_left 1
    · intro w; (go_simp <;> with_reducible rfl)
    try simp only [Act.put, List.setIfInBounds_toArray, List.set_cons_zero, List.set_cons_succ]
    refine wpAny_take (i := 1) (oi := _) (v := ?_) (nth_at rfl) (by kernel_rfl) (by kernel_rfl) (by kernel_rfl) (fun _ _ _ h => h) (Or.inl ⟨by rfl, ?_⟩) ?_
    rotate_left 1
    · intro w; (go_simp <;> with_reducible rfl)
    try simp only [Act.put, List.setIfInBounds_toArray, List.set_cons_zero, List.set_cons_succ]
    refine wpAny_take (i := 2) (oi := _) (v := ?_) (nth_at rfl) (by kernel_rfl) (by kernel_rfl) (by kernel_rfl) (fun _ _ _ h => h) (Or.inl ⟨by rfl, ?_⟩) ?_
    rotate_left 1
    · intro w; (go_simp <;> with_reducible rfl)
    try simp only [Act.put, List.setIfInBounds_toArray, List.set_cons_zero, List.set_cons_succ]
    refine wpAny_take (i := 3) (oi := _) (v := ?_) (nth_at rfl) (by kernel_rfl) (by kernel_rfl) (by kernel_rfl) (fun _ _ _ h => h) (Or.inl ⟨by rfl, ?_⟩) ?_
    rotate_left 1
    · intro w; (go_simp <;> with_reducible rfl)
    try simp only [Act.put, List.setIfInBounds_toArray, List.set_cons_zero, List.set_cons_succ]
    refine wpAny_take (i := 4) (oi := _) (v := ?_) (nth_at rfl) (by kernel_rfl) (by kernel_rfl) (by kernel_rfl) (fun _ _ _ h => h) (Or.inl ⟨by rfl, ?_⟩) ?_
    rotate_left 1
    · intro w; (go_simp <;> with_reducible rfl)
    try simp only [Act.put, List.setIfInBounds_toArray, List.set_cons_zero, List.set_cons_succ]
    refine wpAny_take (i := 6) (oi := _) (v := ?_) (nth_at rfl) (by kernel_rfl) (by kernel_rfl) (by kernel_rfl) (fun _ _ _ h => h) (Or.inl ⟨by rfl, ?_⟩) ?_
    rotate_left 1
    · intro w; (go_simp <;> with_reducible rfl)
    try simp only [Act.put, List.setIfInBounds_toArray, List.set_cons_zero, List.set_cons_succ]
    refine wpAny_take (i := 7) (oi := _) (v := ?_) (nth_at rfl) (by kernel_rfl) (by kernel_rfl) (by kernel_rfl) (fun _ _ _ h => h) (Or.inl ⟨by rfl, ?_⟩) ?_
    rotate_left 1
    · intro w; (go_simp <;> with_reducible rfl)
    try simp only [Act.put, List.setIfInBounds_toArray, List.set_cons_zero, List.set_cons_succ]
    refine wpAny_take (i := 8) (oi := _) (v := ?_) (nth_at rfl) (by kernel_rfl) (by kernel_rfl) (by kernel_rfl) (fun _ _ _ h => h) (Or.inl ⟨by rfl, ?_⟩) ?_
    rotate_left 1
    · intro w; (go_simp <;> with_reducible rfl)
    try simp only [Act.put, List.setIfInBounds_toArray, List.set_cons_zero, List.set_cons_succ]
    refine wpAny_take (i := 9) (oi := _) (v := ?_) (nth_at rfl) (by kernel_rfl) (by kernel_rfl) (by kernel_rfl) (fun _ _ _ h => h) (Or.inl ⟨by rfl, ?_⟩) ?_
    rotate_left 1
    · intro w; (go_simp <;> with_reducible rfl)
    try simp only [Act.put, List.setIfInBounds_toArray, List.set_cons_zero, List.set_cons_succ]
    refine wpAny_take (i := 10) (oi := _) (v := ?_) (nth_at rfl) (by kernel_rfl) (by kernel_rfl) (by kernel_rfl) (fun _ _ _ h => h) (Or.inl ⟨by rfl, ?_⟩) ?_
    rotate_left 1
    · intro w; (go_simp <;> with_reducible rfl)
    try simp only [Act.put, List.setIfInBounds_toArray, List.set_cons_zero, List.set_cons_succ]
    refine wpAny_take (i := 11) (oi := _) (v := ?_) (nth_at rfl) (by kernel_rfl) (by kernel_rfl) (by kernel_rfl) (fun _ _ _ h => h) (Or.inl ⟨by rfl, ?_⟩) ?_
    rotate_left 1
    · intro w; (go_simp <;> with_reducible rfl)
    try simp only [Act.put, List.setIfInBounds_toArray, List.set_cons_zero, List.set_cons_succ]
    refine wpAny_take (i := 12) (oi := _) (v := ?_) (nth_at rfl) (by kernel_rfl) (by kernel_rfl) (by kernel_rfl) (fun _ _ _ h => h) (Or.inl ⟨by rfl, ?_⟩) ?_
    rotate_left 1
    · intro w; (go_simp <;> with_reducible rfl)
    try simp only [Act.put, List.setIfInBounds_toArray, List.set_cons_zero, List.set_cons_succ]
    refine wpAny_take (i := 15) (oi := _) (v := ?_) (nth_at rfl) (by kernel_rfl) (by kernel_rfl) (by kernel_rfl) (fun _ _ _ h => h) (Or.inl ⟨by rfl, ?_⟩) ?_
    rotate_left 1
    · intro w; (go_simp <;> with_reducible rfl)
    try simp only [Act.put, List.setIfInBounds_toArray, List.set_cons_zero, List.set_cons_succ]
    refine wpAny_ready (rs := [5, 13]) (by kernel_rfl) (by simp) ?_
    refine AllReady.cons (o := _) (nth_at rfl) (fun K hK => ?_) ?_
    · go_simp
      refine hK _ _ ?_
      clear hK K
      try simp only [Act.put, List.setIfInBounds_toArray, List.set_cons_zero, List.set_cons_succ]
      refine wpAny_ready (rs := [13]) (by kernel_rfl) (by simp) ?_
      refine AllReady.cons (o := _) (nth_at rfl) (fun K hK => ?_) AllReady.nil
      go_simp
      refine hK _ _ ?_
      clear hK K
      try simp only [Act.put, List.setIfInBounds_toArray, List.set_cons_zero, List.set_cons_succ]
      refine wpAny_take (i := 14) (oi := _) (v := ?_) (nth_at rfl) (by kernel_rfl) (by kernel_rfl) (by kernel_rfl) (fun _ _ _ h => h) (Or.inl ⟨by rfl, ?_⟩) ?_
      rotate_left 1
      · intro w; (go_simp <;> with_reducible rfl)
      try simp only [Act.put, List.setIfInBounds_toArray, List.set_cons_zero, List.set_cons_succ]
      refine wpAny_take (i := 16) (oi := _) (v := ?_) (nth_at rfl) (by kernel_rfl) (by kernel_rfl) (by kernel_rfl) (fun _ _ _ h => h) (Or.inl ⟨by rfl, ?_⟩) ?_
      rotate_left 1
      · intro w; (go_simp <;> with_reducible rfl)
      try simp only [Act.put, List.setIfInBounds_toArray, List.set_cons_zero, List.set_cons_succ]
      refine wpAny_take (i := 17) (oi := _) (v := ?_) (nth_at rfl) (by kernel_rfl) (by kernel_rfl) (by kernel_rfl) (fun _ _ _ h => h) (Or.inl ⟨by rfl, ?_⟩) ?_
      rotate_left 1
      · intro w; (go_simp <;> with_reducible rfl)
      try simp only [Act.put, List.setIfInBounds_toArray, List.set_cons_zero, List.set_cons_succ]
      refine wpAny_take (i := 18) (oi := _) (v := ?_) (nth_at rfl) (by kernel_rfl) (by kernel_rfl) (by kernel_rfl) (fun _ _ _ h => h) (Or.inl ⟨by rfl, ?_⟩) ?_
      rotate_left 1
      · intro w; (go_simp <;> with_reducible rfl)
      try simp only [Act.put, List.setIfInBounds_toArray, List.set_cons_zero, List.set_cons_succ]
      refine wpAny_take (i := 19) (oi := _) (v := .slice (some ⟨g, o3, none⟩) mm (s.length - kk)) (nth_at rfl) (by kernel_rfl) (by kernel_rfl) (by kernel_rfl) (fun _ _ _ h => h) (Or.inl ⟨by rfl, ?_⟩) ?_
      · intro w; (go_simp <;> (have h := HY3.out; simp [sliced, hkn3, Addr.add_lit] at h ⊢; exact h))
      try simp only [Act.put, List.setIfInBounds_toArray, List.set_cons_zero, List.set_cons_succ]
      refine wpAny_take (i := 20) (oi := _) (v := ?_) (nth_at rfl) (by kernel_rfl) (by kernel_rfl) (by kernel_rfl) (fun _ _ _ h => h) (Or.inl ⟨by rfl, ?_⟩) ?_
      rotate_left 1
      · intro w; (go_simp <;> with_reducible rfl)
      try simp only [Act.put, List.setIfInBounds_toArray, List.set_cons_zero, List.set_cons_succ]
      refine wpAny_take (i := 21) (oi := _) (v := ?_) (nth_at rfl) (by kernel_rfl) (by kernel_rfl) (by kernel_rfl) (fun _ _ _ h => h) (Or.inl ⟨by rfl, ?_⟩) ?_
      rotate_left 1
      · intro w; (go_simp <;> with_reducible rfl)
      try simp only [Act.put, List.setIfInBounds_toArray, List.set_cons_zero, List.set_cons_succ]
      refine wpAny_take (i := 22) (oi := _) (v := ?_) (nth_at rfl) (by kernel_rfl) (by kernel_rfl) (by kernel_rfl) (fun _ _ _ h => h) (Or.inl ⟨by rfl, ?_⟩) ?_
      rotate_left 1
      · intro w; (go_simp <;> with_reducible rfl)
      try simp only [Act.put, List.setIfInBounds_toArray, List.set_cons_zero, List.set_cons_succ]
      refine wpAny_ready (rs := [23]) (by kernel_rfl) (by simp) ?_
      refine AllReady.cons (o := _) (nth_at rfl) (fun K hK => ?_) AllReady.nil
      go_simp
      refine hK _ _ ?_
      clear hK K
      try simp only [Act.put, List.setIfInBounds_toArray, List.set_cons_zero, List.set_cons_succ]
      refine wpAny_done (by kernel_rfl) ?_ _
      refine NoPanic.normal ?_
      obtain ⟨b4, HEx⟩ := HFIN.out _ rfl
      have HEy := Lib.hid HEx
      clear HFIN HEx
      go_wp2_with fail
      refine wp_label ?_
      go_wp2_with fail
      with_reducible refine HEy.out.mono ?_
      rintro e w5 ⟨rfl, b5⟩
      go_wp2_with fail
      simp only [Exit.noGoto_ret]
      go_ret2
      exact ⟨rfl, b4.trans (b5.mono b4.size)⟩
    refine AllReady.cons (o := _) (nth_at rfl) (fun K hK => ?_) AllReady.nil
    go_simp
    refine hK _ _ ?_
    clear hK K
    try simp only [Act.put, List.setIfInBounds_toArray, List.set_cons_zero, List.set_cons_succ]
    refine wpAny_take (i := 14) (oi := _) (v := ?_) (nth_at rfl) (by kernel_rfl) (by kernel_rfl) (by kernel_rfl) (fun _ _ _ h => h) (Or.inl ⟨by rfl, ?_⟩) ?_
    rotate_left 1
    · intro w; (go_simp <;> with_reducible rfl)
    try simp only [Act.put, List.setIfInBounds_toArray, List.set_cons_zero, List.set_cons_succ]
    refine wpAny_take (i := 16) (oi := _) (v := ?_) (nth_at rfl) (by kernel_rfl) (by kernel_rfl) (by kernel_rfl) (fun _ _ _ h => h) (Or.inl ⟨by rfl, ?_⟩) ?_
    rotate_left 1
    · intro w; (go_simp <;> with_reducible rfl)
    try simp only [Act.put, List.setIfInBounds_toArray, List.set_cons_zero, List.set_cons_succ]
    refine wpAny_take (i := 17) (oi := _) (v := ?_) (nth_at rfl) (by kernel_rfl) (by kernel_rfl) (by kernel_rfl) (fun _ _ _ h => h) (Or.inl ⟨by rfl, ?_⟩) ?_
    rotate_left 1
    · intro w; (go_simp <;> with_reducible rfl)
    try simp only [Act.put, List.setIfInBounds_toArray, List.set_cons_zero, List.set_cons_succ]
    refine wpAny_take (i := 18) (oi := _) (v := ?_) (nth_at rfl) (by kernel_rfl) (by kernel_rfl) (by kernel_rfl) (fun _ _ _ h => h) (Or.inl ⟨by rfl, ?_⟩) ?_
    rotate_left 1
    · intro w; (go_simp <;> with_reducible rfl)
    try simp only [Act.put, List.setIfInBounds_toArray, List.set_cons_zero, List.set_cons_succ]
    refine wpAny_ready (rs := [5]) (by kernel_rfl) (by simp) ?_
    refine AllReady.cons (o := _) (nth_at rfl) (fun K hK => ?_) AllReady.nil
    go_simp
    refine hK _ _ ?_
    clear hK K
    try simp only [Act.put, List.setIfInBounds_toArray, List.set_cons_zero, List.set_cons_succ]
    refine wpAny_take (i := 19) (oi := _) (v := .slice (some ⟨g, o3, none⟩) mm (s.length - kk)) (nth_at rfl) (by kernel_rfl) (by kernel_rfl) (by kernel_rfl) (fun _ _ _ h => h) (Or.inl ⟨by rfl, ?_⟩) ?_
    · intro w; (go_simp <;> (have h := HY3.out; simp [sliced, hkn3, Addr.add_lit] at h ⊢; exact h))
    try simp only [Act.put, List.setIfInBounds_toArray, List.set_cons_zero, List.set_cons_succ]
    refine wpAny_take (i := 20) (oi := _) (v := ?_) (nth_at rfl) (by kernel_rfl) (by kernel_rfl) (by kernel_rfl) (fun _ _ _ h => h) (Or.inl ⟨by rfl, ?_⟩) ?_
    rotate_left 1
    · intro w; (go_simp <;> with_reducible rfl)
    try simp only [Act.put, List.setIfInBounds_toArray, List.set_cons_zero, List.set_cons_succ]
    refine wpAny_take (i := 21) (oi := _) (v := ?_) (nth_at rfl) (by kernel_rfl) (by kernel_rfl) (by kernel_rfl) (fun _ _ _ h => h) (Or.inl ⟨by rfl, ?_⟩) ?_
    rotate_left 1
    · intro w; (go_simp <;> with_reducible rfl)
    try simp only [Act.put, List.setIfInBounds_toArray, List.set_cons_zero, List.set_cons_succ]
    refine wpAny_take (i := 22) (oi := _) (v := ?_) (nth_at rfl) (by kernel_rfl) (by kernel_rfl) (by kernel_rfl) (fun _ _ _ h => h) (Or.inl ⟨by rfl, ?_⟩) ?_
    rotate_left 1
    · intro w; (go_simp <;> with_reducible rfl)
    try simp only [Act.put, List.setIfInBounds_toArray, List.set_cons_zero, List.set_cons_succ]
    refine wpAny_ready (rs := [23]) (by kernel_rfl) (by simp) ?_
    refine AllReady.cons (o := _) (nth_at rfl) (fun K hK => ?_) AllReady.nil
    go_simp
    refine hK _ _ ?_
    clear hK K
    try simp only [Act.put, List.setIfInBounds_toArray, List.set_cons_zero, List.set_cons_succ]
    refine wpAny_done (by kernel_rfl) ?_ _
    refine NoPanic.normal ?_
    obtain ⟨b4, HEx⟩ := HFIN.out _ rfl
    have HEy := Lib.hid HEx
    clear HFIN HEx
    go_wp2_with fail
    refine wp_label ?_
    go_wp2_with fail
    with_reducible refine HEy.out.mono ?_
    rintro e w5 ⟨rfl, b5⟩
    go_wp2_with fail
    simp only [Exit.noGoto_ret]
    go_ret2
    exact ⟨rfl, b4.trans (b5.mono b4.size)⟩
end Go.Proofs.YthclfkhakmcnbaaGreatDoor
