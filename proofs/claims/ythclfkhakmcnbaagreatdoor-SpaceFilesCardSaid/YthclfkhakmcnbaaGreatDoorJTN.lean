/- Joined: FewA; FewB; FewC; FewD; Sl0 -/
import Derived.Test.YthclfkhakmcnbaaGreatDoorJTE
import Derived.Test.YthclfkhakmcnbaaGreatDoorJTD
/- Walks of the laws' own functions: how what comes in is cut: texts. -/
namespace Go.Proofs.YthclfkhakmcnbaaGreatDoor
open Go.RowKit Go.Shelf
attribute [local go_sem] Oper.semAt_some
theorem blk_news {W : World} {b : Nat} {cs : Array Value} {t : TypeId} (h : Blk W b cs t) : ∀ j u, cs.toList[j]? = some u → W.cell? ((⟨b, 0, none⟩ : Addr).add j) = some u := fun j u hu => by
  rw [Addr.add_lit, Nat.zero_add, h.cell j]
  simpa using hu
theorem take_min (s : List UInt8) (k : Nat) : s.take (min (s.length : Int) (k : Int)).toNat = s.take k := by
  by_cases h : s.length ≤ k
  · rw [List.take_of_length_le h, List.take_of_length_le]; omega
  · congr 1; omega
theorem cut8_any (s : List UInt8) (hs : s.length ≤ maxLen) (w : World) : Calls Tryz.prog 108 #[.string ⟨s.toArray⟩] w fun e w' => e = .returned (.string ⟨(s.take 210).toArray⟩) ∧ w' = w := by
  have hz := ba_size s
  unfold maxLen at hs
  have hm := take_min s 210
  have H := Lib.hid hm
  clear hm
  have h1 : (0 : Int) ≤ min (s.length : Int) 210 := by omega
  have h2 : min (s.length : Int) 210 ≤ (s.length : Int) := by omega
  go_enter Tryz.func108, Tryz.ntmps108
  go_wp2
  go_ret
  refine ⟨ret_str ?_, rfl⟩
  simpa using H.out
theorem cut10_any (s : List UInt8) (hs : s.length ≤ maxLen) (w : World) : Calls Tryz.prog 13 #[.string ⟨s.toArray⟩] w fun e w' => e = .returned (.string ⟨(s.take 50).toArray⟩) ∧ w' = w := by
  have hz := ba_size s
  unfold maxLen at hs
  have hm := take_min s 50
  have H := Lib.hid hm
  clear hm
  have h1 : (0 : Int) ≤ min (s.length : Int) 50 := by omega
  have h2 : min (s.length : Int) 50 ≤ (s.length : Int) := by omega
  go_enter Tryz.func13, Tryz.ntmps13
  go_wp2
  go_ret
  refine ⟨ret_str ?_, rfl⟩
  simpa using H.out
theorem long10_any (s : List UInt8) (hs : s.length ≤ maxLen) (w : World) : Calls Tryz.prog 14 #[.string ⟨s.toArray⟩] w fun e w' => e = .returned (.string ⟨(s.take 1010).toArray⟩) ∧ w' = w := by
  have hz := ba_size s
  unfold maxLen at hs
  have hm := take_min s 1010
  have H := Lib.hid hm
  clear hm
  have h1 : (0 : Int) ≤ min (s.length : Int) 1010 := by omega
  have h2 : min (s.length : Int) 1010 ≤ (s.length : Int) := by omega
  go_enter Tryz.func14, Tryz.ntmps14
  go_wp2
  go_ret
  refine ⟨ret_str ?_, rfl⟩
  simpa using H.out
end Go.Proofs.YthclfkhakmcnbaaGreatDoor
/- Walks of the laws' own functions: how what comes in is cut: items. -/
namespace Go.Proofs.YthclfkhakmcnbaaGreatDoor
open Go.RowKit Go.Shelf
attribute [local go_sem] Oper.semAt_some
theorem fewI_succ (l : List (List UInt8)) (k : Nat) (h : k < l.length) (h2 : k < 40) : fewI (l.take (k + 1)) = fewI (l.take k) ++ [l[k].take 210] := by
  unfold fewI
  rw [List.take_take, List.take_take, Nat.min_eq_right (by omega), Nat.min_eq_right (by omega), List.take_succ_eq_append_getElem h, List.map_append]; rfl
theorem fewI_end (l : List (List UInt8)) (k : Nat) (h : k ≤ l.length) (h2 : k ≤ 40) (hk : ¬ (k < l.length ∧ k < 40)) : fewI (l.take k) = fewI l := by
  unfold fewI
  rw [List.take_take, Nat.min_eq_right h2]
  by_cases h3 : k < l.length
  · rw [show k = 40 by omega]
  · rw [show k = l.length by omega, List.take_of_length_le (Nat.le_refl _), List.take_of_length_le (by omega)]
theorem fewI_len (l : List (List UInt8)) (k : Nat) (h : k ≤ l.length) (h2 : k ≤ 40) : (fewI (l.take k)).length = k := by
  simp [fewI]; omega
set_option maxRecDepth 100000 in
set_option maxHeartbeats 4000000 in
theorem few8_any (l : List (List UInt8)) (hl : l.length ≤ maxLen) (hi : ∀ s ∈ l, s.length ≤ maxLen) (v : Value) (w : World) (hv : StrsV w v l) :
    Calls Tryz.prog 84 #[v] w fun e w' => ∃ v', e = .returned v' ∧ StrsO w.heap.size 9 w' v' (fewI l) ∧ Below w.heap.size w w' := by
  obtain ⟨a, cap, rfl, hc⟩ := hv.at
  obtain ⟨i0, hI, hz0, hz1, hz2⟩ := info_parts infoS
  unfold maxLen at hl
  have hll : (l.length : Int) ≤ 9223372036854775807 := by omega
  clear hv
  go_enter Tryz.func84, Tryz.ntmps84
  go_wp2_with fail
  go_loopg [3, 4] 40 (fun gg s3 s4 wr => ∃ (kk : Nat) (vv : Value), kk ≤ l.length ∧ kk ≤ 40 ∧ 40 - kk ≤ gg ∧ s3 = vv ∧ s4 = .int .i64 kk ∧ Below w.heap.size w wr ∧ StrsO w.heap.size 9 wr vv (fewI (l.take kk)))
  case atStart => exact ⟨0, _, Nat.zero_le _, by omega, by omega, rfl, rfl, Below.refl _ _, StrsO.nil _ _ _⟩
  case round =>
    obtain ⟨kk, s3, hkk, hk40, hg, rfl, rfl, hB, hS⟩ := hrel
    by_cases hlt : kk < l.length
    · have hltz : (kk : Int) < (l.length : Int) := by omega
      by_cases h40 : kk < 40
      · have h40z : (kk : Int) < 40 := by omega
        obtain ⟨b, o, rfl, -, hcell⟩ := hc kk hlt
        have k0 := (KeepC.of_below hB).2 _ _ _ hcell
        have hlen := fewI_len l kk hkk hk40
        have hsucc := fewI_succ l kk hlt h40
        have HCx := cut8_any l[kk] (hi _ (List.getElem_mem _)) wr
        have hrow := hS
        unfold StrsO at hrow
        rw [hlen] at hrow
        have hstr : strsC (fewI (l.take (kk + 1))) = strsC (fewI (l.take kk)) ++ [.string ⟨(l[kk].take 210).toArray⟩] := by rw [hsucc]; simp [strsC]
        have hlen1 := fewI_len l (kk + 1) (by omega) (by omega)
        have HX : Hid (∀ W v', W.ownsRow w.heap.size 9 1 v' (kk + 1) (strsC (fewI (l.take kk)) ++ [.string ⟨(l[kk].take 210).toArray⟩]) → StrsO w.heap.size 9 W v' (fewI (l.take (kk + 1)))) := by
          show ∀ W, _
          intro W v' h
          unfold StrsO
          rw [hlen1, hstr]; exact h
        clear hc hS hlen hsucc hstr hlen1 hcell
        generalize strsC (fewI (l.take kk)) = cs at *
        generalize l[kk] = x at *
        generalize x.take 210 = y at *
        go_wp2_with fail
        with_reducible refine HCx.mono ?_
        rintro e w1 ⟨rfl, rfl⟩
        go_wp2_with (at_builtin; refine wpList_append_own _ rfl _ _ 42 rfl w.heap.size 9 i0 (.string ⟨#[]⟩) 1 16 Tryz.underlying42 hI hz0 hz1 hz2 rfl (by decide) _ _ _ rfl (hrow.alloc _) ⟨w1.heap.size, 0, none⟩ 1 1 [.string ⟨y.toArray⟩] rfl rfl (cell_one_new _ _ _) (by simp [Value.oneCell']) (by unfold maxLen; omega) (by omega) (by have := hB.size; simp; omega) ?_)
        intro v' w2 hown hgrow _
        have hB2 : Below w.heap.size w w2 := (hB.alloc hB.size _).grown hgrow (by have := hB.size; simp; omega) (fun k hk => (hrow.lt k hk).1)
        have HX2 := Lib.hid (HX.out _ _ hown)
        clear hown hgrow hrow HCx
        go_wp2_with fail
        go_roundg (40 - (kk + 1))
        case measure => omega
        case rel => exact ⟨kk + 1, _, by omega, by omega, by omega, rfl, by go_num, hB2, HX2.out⟩
      · have h40z : ¬ (kk : Int) < 40 := by omega
        have he := fewI_end l kk hkk hk40 (by omega)
        rw [he] at hS
        clear hc
        go_wp2_with fail
        go_ret
        exact ⟨_, rfl, hS, hB⟩
    · have hltz : ¬ (kk : Int) < (l.length : Int) := by omega
      have he := fewI_end l kk hkk hk40 (by omega)
      rw [he] at hS
      clear hc
      go_wp2_with fail
      go_ret
      exact ⟨_, rfl, hS, hB⟩
end Go.Proofs.YthclfkhakmcnbaaGreatDoor
/- Walks of the laws' own functions: how a ring is cut. -/
namespace Go.Proofs.YthclfkhakmcnbaaGreatDoor
open Go.RowKit Go.Shelf
attribute [local go_sem] Oper.semAt_some
set_option maxRecDepth 100000 in
set_option maxHeartbeats 4000000 in
theorem Few8_any (m : Int) (l : List (List UInt8)) (hl : l.length ≤ maxLen) (hi : ∀ s ∈ l, s.length ≤ maxLen) (a : Option Addr) (cap : Nat) (w : World) (hv : StrsV w (.slice a l.length cap) l) :
    Calls Tryz.prog 42 #[.agg #[.int .i64 m, .slice a l.length cap]] w fun e w' => ∃ a' cap', e = .returned (.agg #[.int .i64 m, .slice a' (fewI l).length cap']) ∧ StrsO w.heap.size 9 w' (.slice a' (fewI l).length cap') (fewI l) ∧ Below w.heap.size w w' := by
  have HF := fun W (h : KeepC w W) => few8_any l hl hi _ W (hv.keep h)
  generalize hn : (fewI l).length = n at *
  have hB0 := ((Below.refl _ w).alloc (Nat.le_refl _) (.cells #[.int .i64 m, .slice a l.length cap] 46)).alloc (by simp) (.cells #[.int .i64 0, .slice none 0 0] 46)
  have b1 := (Blk.new w #[.int .i64 m, .slice a l.length cap] 46).alloc (.cells #[.int .i64 0, .slice none 0 0] 46)
  have b2 := Blk.new (w.alloc (.cells #[.int .i64 m, .slice a l.length cap] 46)) #[.int .i64 0, .slice none 0 0] 46
  rw [World.size_alloc] at b2
  have hz : ((w.alloc (.cells #[.int .i64 m, .slice a l.length cap] 46)).alloc (.cells #[.int .i64 0, .slice none 0 0] 46)).heap.size = w.heap.size + 2 := by simp
  have HFx := HF _ (KeepC.of_below hB0.drew)
  clear HF hv
  go_enter Tryz.func42, Tryz.ntmps42
  go_wp2_with fail
  generalize (w.alloc (.cells #[.int .i64 m, .slice a l.length cap] 46)).alloc (.cells #[.int .i64 0, .slice none 0 0] 46) = W0 at *
  have j0 := b1.cell 0
  have j1 := b1.cell 1
  simp at j0 j1
  have SK : Hid (∀ W, Below W0.heap.size W0 W → (W.cell? ⟨w.heap.size, 0, none⟩ = some (.int .i64 m) ∧ W.cell? ⟨w.heap.size, 1, none⟩ = some (.slice a l.length cap)) ∧ Blk W (w.heap.size + 1) #[.int .i64 0, .slice none 0 0] 46) := by
    show ∀ W, _
    intro W h
    have hk := (KeepC.of_below h).2
    exact ⟨⟨hk _ _ _ j0, hk _ _ _ j1⟩, b2.below h (by omega)⟩
  clear b1 b2
  go_region_held3 (fun u => u.cell? ⟨w.heap.size, 0, none⟩ = some (.int .i64 m) ∧ u.cell? ⟨w.heap.size, 1, none⟩ = some (.slice a l.length cap))
    (first | go_keep | exact (SK.out _ hbb).1)
    (first
      | (go_at_call 84; go_must (with_reducible refine HFx.mono ?_); rintro e w2 ⟨v2, rfl, ho2, hb2⟩; have hbb := (Below.refl W0.heap.size W0).drew.trans hb2; have kk2 := (SK.out _ hbb).2; have kk0 := kk2.cell 0; have kk1 := kk2.cell 1; have kf0 := kk2.frozen 0; have kf1 := kk2.frozen 1; simp at kk0 kk1; obtain ⟨a2, c2, hv2, -⟩ := StrsV.at ho2.view; subst hv2; clear kk2))
  all_goals (have kb := (SK.out _ hbb).2)
  all_goals (have zf := (Blk.set 0 (.int .i64 m) kb).set 1 (.slice a2 n c2))
  all_goals (have q0 := zf.cell 0)
  all_goals (have q1 := zf.cell 1)
  all_goals (simp at q0 q1)
  all_goals (have g1 := grownBy_t (grownBy_setCellB w2 (w.heap.size + 1) 0 (.int .i64 m)) (grownBy_setCellB (w2.setCell ⟨w.heap.size + 1, 0, none⟩ (.int .i64 m)) (w.heap.size + 1) 1 (.slice a2 n c2)))
  all_goals (have hO := own_base (own_kept ho2 g1 (RowT.blk kb _ (by decide))) (show w.heap.size ≤ W0.drew.heap.size from hB0.size))
  all_goals (have hE := ((hB0.trans (hbb.mono hB0.size)).setCell (p := ⟨w.heap.size + 1, 0, none⟩) (by show _ ≤ w.heap.size + 1; omega) (.int .i64 m)).setCell (p := ⟨w.heap.size + 1, 1, none⟩) (by show _ ≤ w.heap.size + 1; omega) (.slice a2 n c2))
  all_goals (clear kb zf SK HFx kk0 kk1 kf0 kf1 g1)
  all_goals (rw [hn] at hO)
  all_goals go_wp2_with fail
  all_goals exact bodyPost_ret (v := .agg #[.int .i64 m, .slice a2 n c2]) (by simp [results, Tryz.results42, go_sem, q0, q1]) rfl ⟨a2, c2, rfl, by unfold StrsO; rw [hn]; exact hO, hE⟩
end Go.Proofs.YthclfkhakmcnbaaGreatDoor
/- Walks of the laws' own functions: how objects are cut. -/
namespace Go.Proofs.YthclfkhakmcnbaaGreatDoor
open Go.RowKit Go.Shelf
attribute [local go_sem] Oper.semAt_some
theorem fewS_succ (l : List ObjD) (k : Nat) (h : k < l.length) (h2 : k < 22) : fewS (l.take (k + 1)) = fewS (l.take k) ++ [fewO l[k]] := by
  unfold fewS
  rw [List.take_take, List.take_take, Nat.min_eq_right (by omega), Nat.min_eq_right (by omega), List.take_succ_eq_append_getElem h, List.map_append]; rfl
theorem fewS_end (l : List ObjD) (k : Nat) (h : k ≤ l.length) (h2 : k ≤ 22) (hk : ¬ (k < l.length ∧ k < 22)) : fewS (l.take k) = fewS l := by
  unfold fewS
  rw [List.take_take, Nat.min_eq_right h2]
  by_cases h3 : k < l.length
  · rw [show k = 22 by omega]
  · rw [show k = l.length by omega, List.take_of_length_le (Nat.le_refl _), List.take_of_length_le (by omega)]
theorem fewS_at (l : List ObjD) (k : Nat) (h : k ≤ l.length) (h2 : k ≤ 22) : (fewS (l.take k)).length = k := by
  simp [fewS]; omega
/-- what the call's argument must be: lengths that a machine holds -/
def OkO (x : ObjD) : Prop := x.name.length ≤ maxLen ∧ x.data.length ≤ maxLen ∧ x.items.length ≤ maxLen ∧ ∀ s ∈ x.items, s.length ≤ maxLen
set_option maxRecDepth 100000 in
set_option maxHeartbeats 4000000 in
theorem few10_any (l : List ObjD) (hl : l.length ≤ maxLen) (hi : ∀ x ∈ l, OkO x) (v : Value) (w : World) (hv : ObjsV w v l) :
    Calls Tryz.prog 11 #[v] w fun e w' => ∃ v', e = .returned v' ∧ ObjsO w.heap.size 48 9 w' v' (fewS l) ∧ Below w.heap.size w w' := by
  obtain ⟨a, cap, rfl, hc⟩ := hv.at
  obtain ⟨i0, hI, hz0, hz1, hz2⟩ := info_parts infoO
  unfold maxLen at hl
  have hll : (l.length : Int) ≤ 9223372036854775807 := by omega
  clear hv
  go_enter Tryz.func11, Tryz.ntmps11
  go_wp2_with fail
  go_loopg [3, 4] 22 (fun gg s3 s4 wr => ∃ (kk : Nat) (vv : Value), kk ≤ l.length ∧ kk ≤ 22 ∧ 22 - kk ≤ gg ∧ s3 = vv ∧ s4 = .int .i64 kk ∧ Below w.heap.size w wr ∧ Hid (ObjsO w.heap.size 48 9 wr vv (fewS (l.take kk))))
  case atStart => exact ⟨0, _, Nat.zero_le _, by omega, by omega, rfl, rfl, Below.refl _ _, ObjsO.nil _ _ _ _⟩
  case round =>
    obtain ⟨kk, s3, hkk, hk40, hg, rfl, rfl, hB, hS⟩ := hrel
    by_cases hlt : kk < l.length
    · have hltz : (kk : Int) < (l.length : Int) := by omega
      by_cases h40 : kk < 22
      · have h40z : (kk : Int) < 22 := by omega
        have hkz : (0 : Int) ≤ (kk : Int) := by omega
        obtain ⟨b, o, lv, rfl, -, hlv, k0, k1, k2, k3, k4⟩ := hc kk hlt
        have hBk := KeepC.of_below hB
        replace k0 := hBk.2 _ _ _ k0
        replace k1 := hBk.2 _ _ _ k1
        replace k2 := hBk.2 _ _ _ k2
        replace k3 := hBk.2 _ _ _ k3
        replace k4 := hBk.2 _ _ _ k4
        replace hlv := hlv.keep hBk
        have hok := hi l[kk] (List.getElem_mem _)
        have hlen := fewS_at l kk hkk hk40
        have hlen1 := fewS_at l (kk + 1) (by omega) (by omega)
        have hsucc := fewS_succ l kk hlt h40
        obtain ⟨cs, hrow, hrows⟩ := hS.out
        rw [hlen] at hrow
        clear hc hS hBk
        generalize l[kk] = x at *
        obtain ⟨name, kind, data, max, items⟩ := x
        obtain ⟨ok1, ok2, ok3, ok4⟩ := hok
        dsimp only at *
        obtain ⟨a2, cap2, rfl, -⟩ := hlv.at
        have HN := fun W => cut10_any name ok1 W
        have HD := fun W => long10_any data ok2 W
        have hB1 := (Below.refl wr.heap.size wr).alloc (Nat.le_refl _) (.cells #[.string ⟨name.toArray⟩, .int .i64 kind, .string ⟨data.toArray⟩, .int .i64 max, .slice a2 items.length cap2] 48)
        have b1 := Blk.new wr #[.string ⟨name.toArray⟩, .int .i64 kind, .string ⟨data.toArray⟩, .int .i64 max, .slice a2 items.length cap2] 48
        have hBW := hB.trans (hB1.mono hB.size)
        have HF := fun W (h : KeepC wr W) => Few8_any max items ok3 ok4 a2 cap2 W (hlv.keep h)
        clear hlv ok1 ok2 ok3 ok4
        go_wp2_with fail
        generalize wr.alloc (.cells #[.string ⟨name.toArray⟩, .int .i64 kind, .string ⟨data.toArray⟩, .int .i64 max, .slice a2 items.length cap2] 48) = W0 at *
        have xc0 := b1.cell 0
        have xc1 := b1.cell 1
        have xc2 := b1.cell 2
        have xc3 := b1.cell 3
        have xc4 := b1.cell 4
        simp at xc0 xc1 xc2 xc3 xc4
        clear b1 k0 k1 k2 k3 k4
        have SK : Hid (∀ u, Below W0.heap.size W0 u → u.cell? ⟨wr.heap.size, 0, none⟩ = some (.string ⟨name.toArray⟩) ∧ u.cell? ⟨wr.heap.size, 1, none⟩ = some (.int .i64 kind) ∧ u.cell? ⟨wr.heap.size, 2, none⟩ = some (.string ⟨data.toArray⟩) ∧ u.cell? ⟨wr.heap.size, 3, none⟩ = some (.int .i64 max) ∧ u.cell? ⟨wr.heap.size, 4, none⟩ = some (.slice a2 items.length cap2)) := by
          show ∀ u, _
          intro u h
          have hk := (KeepC.of_below h).2
          exact ⟨hk _ _ _ xc0, hk _ _ _ xc1, hk _ _ _ xc2, hk _ _ _ xc3, hk _ _ _ xc4⟩
        have SKg : Hid (∀ W u row, Below W0.heap.size W0 W → W.grownBy u row → (∀ k, row = some k → k < wr.heap.size) → u.cell? ⟨wr.heap.size, 0, none⟩ = some (.string ⟨name.toArray⟩) ∧ u.cell? ⟨wr.heap.size, 1, none⟩ = some (.int .i64 kind) ∧ u.cell? ⟨wr.heap.size, 2, none⟩ = some (.string ⟨data.toArray⟩) ∧ u.cell? ⟨wr.heap.size, 3, none⟩ = some (.int .i64 max) ∧ u.cell? ⟨wr.heap.size, 4, none⟩ = some (.slice a2 items.length cap2)) := by
          show ∀ W, _
          intro W u row h hg hr
          have hlt : wr.heap.size < W.heap.size := Nat.lt_of_lt_of_le (World.block_lt_of_cell? W0 _ xc0) h.size
          have hk := (KeepC.of_below h).2
          have e : ∀ o x, W.cell? ⟨wr.heap.size, o, none⟩ = some x → u.cell? ⟨wr.heap.size, o, none⟩ = some x := fun o x hx => (World.cell?_of_block (w := W) (a := ⟨wr.heap.size, o, none⟩) (hg.block _ hlt (fun e => absurd (hr _ e.symm) (Nat.lt_irrefl _)))).trans hx
          exact ⟨e _ _ (hk _ _ _ xc0), e _ _ (hk _ _ _ xc1), e _ _ (hk _ _ _ xc2), e _ _ (hk _ _ _ xc3), e _ _ (hk _ _ _ xc4)⟩
        refine wp_region_noPanic ?_
        refine wp_region_held_drew (S := (fun u => u.cell? ⟨wr.heap.size, 0, none⟩ = some (.string ⟨name.toArray⟩) ∧ u.cell? ⟨wr.heap.size, 1, none⟩ = some (.int .i64 kind) ∧ u.cell? ⟨wr.heap.size, 2, none⟩ = some (.string ⟨data.toArray⟩) ∧ u.cell? ⟨wr.heap.size, 3, none⟩ = some (.int .i64 max) ∧ u.cell? ⟨wr.heap.size, 4, none⟩ = some (.slice a2 items.length cap2))) (by kernel_rfl) ?_ (fun hHeld => ?_)
        · exact SK.out _ (Below.refl W0.heap.size W0).drew
        refine wpAnyH_take (i := 0) (oi := _) (v := ?_) (nth_at rfl) (by kernel_rfl) (by kernel_rfl) (by kernel_rfl) (fun _ _ _ h => h) (Or.inl ⟨by rfl, ?_⟩) (by assumption) ?_
        rotate_left 1
        · intro w hSw; (try dsimp only at hSw); (go_simp <;> with_reducible rfl)
        try simp only [Act.put, List.setIfInBounds_toArray, List.set_cons_zero, List.set_cons_succ]
        refine wpAnyH_take (i := 1) (oi := _) (v := ?_) (nth_at rfl) (by kernel_rfl) (by kernel_rfl) (by kernel_rfl) (fun _ _ _ h => h) (Or.inl ⟨by rfl, ?_⟩) (by assumption) ?_
        rotate_left 1
        · intro w hSw; (try dsimp only at hSw); (go_simp <;> with_reducible rfl)
        try simp only [Act.put, List.setIfInBounds_toArray, List.set_cons_zero, List.set_cons_succ]
        refine wpAnyH_take (i := 2) (oi := _) (v := ?_) (nth_at rfl) (by kernel_rfl) (by kernel_rfl) (by kernel_rfl) (fun _ _ _ h => h) (Or.inl ⟨by rfl, ?_⟩) (by assumption) ?_
        rotate_left 1
        · intro w hSw; (try dsimp only at hSw); (go_simp <;> with_reducible rfl)
        try simp only [Act.put, List.setIfInBounds_toArray, List.set_cons_zero, List.set_cons_succ]
        refine wpAnyH_take (i := 4) (oi := _) (v := ?_) (nth_at rfl) (by kernel_rfl) (by kernel_rfl) (by kernel_rfl) (fun _ _ _ h => h) (Or.inl ⟨by rfl, ?_⟩) (by assumption) ?_
        rotate_left 1
        · intro w hSw; (try dsimp only at hSw); (go_simp <;> with_reducible rfl)
        try simp only [Act.put, List.setIfInBounds_toArray, List.set_cons_zero, List.set_cons_succ]
        refine wpAnyH_take (i := 5) (oi := _) (v := ?_) (nth_at rfl) (by kernel_rfl) (by kernel_rfl) (by kernel_rfl) (fun _ _ _ h => h) (Or.inl ⟨by rfl, ?_⟩) (by assumption) ?_
        rotate_left 1
        · intro w hSw; (try dsimp only at hSw); (go_simp <;> with_reducible rfl)
        try simp only [Act.put, List.setIfInBounds_toArray, List.set_cons_zero, List.set_cons_succ]
        refine wpAnyH_take (i := 6) (oi := _) (v := ?_) (nth_at rfl) (by kernel_rfl) (by kernel_rfl) (by kernel_rfl) (fun _ _ _ h => h) (Or.inl ⟨by rfl, ?_⟩) (by assumption) ?_
        rotate_left 1
        · intro w hSw; (try dsimp only at hSw); (go_simp <;> with_reducible rfl)
        try simp only [Act.put, List.setIfInBounds_toArray, List.set_cons_zero, List.set_cons_succ]
        refine wpAnyH_take (i := 7) (oi := _) (v := ?_) (nth_at rfl) (by kernel_rfl) (by kernel_rfl) (by kernel_rfl) (fun _ _ _ h => h) (Or.inl ⟨by rfl, ?_⟩) (by assumption) ?_
        rotate_left 1
        · intro w hSw; (try dsimp only at hSw); (go_simp <;> with_reducible rfl)
        try simp only [Act.put, List.setIfInBounds_toArray, List.set_cons_zero, List.set_cons_succ]
        refine wpAnyH_take (i := 9) (oi := _) (v := ?_) (nth_at rfl) (by kernel_rfl) (by kernel_rfl) (by kernel_rfl) (fun _ _ _ h => h) (Or.inl ⟨by rfl, ?_⟩) (by assumption) ?_
        rotate_left 1
        · intro w hSw; (try dsimp only at hSw); (go_simp <;> with_reducible rfl)
        try simp only [Act.put, List.setIfInBounds_toArray, List.set_cons_zero, List.set_cons_succ]
        refine wpAnyH_take (i := 10) (oi := _) (v := ?_) (nth_at rfl) (by kernel_rfl) (by kernel_rfl) (by kernel_rfl) (fun _ _ _ h => h) (Or.inl ⟨by rfl, ?_⟩) (by assumption) ?_
        rotate_left 1
        · intro w hSw; (try dsimp only at hSw); (go_simp <;> with_reducible rfl)
        try simp only [Act.put, List.setIfInBounds_toArray, List.set_cons_zero, List.set_cons_succ]
        refine wpAnyH_ready (rs := [3]) (by kernel_rfl) (by simp) ?_
        refine AllReadyH.cons (o := _) (nth_at rfl) (fun K hK => ?_) AllReadyH.nil
        go_simp
        with_reducible refine (HN _).mono ?_
        rintro e w1 ⟨rfl, rfl⟩
        try dsimp only
        refine hK.out _ _ ?_ (fun hHeld => ?_)
        · exact hHeld
        clear hK K
        try simp only [Act.put, List.setIfInBounds_toArray, List.set_cons_zero, List.set_cons_succ]
        refine wpAnyH_ready (rs := [8]) (by kernel_rfl) (by simp) ?_
        refine AllReadyH.cons (o := _) (nth_at rfl) (fun K hK => ?_) AllReadyH.nil
        go_simp
        with_reducible refine (HD _).mono ?_
        rintro e w1 ⟨rfl, rfl⟩
        try dsimp only
        refine hK.out _ _ ?_ (fun hHeld => ?_)
        · exact hHeld
        clear hK K
        try simp only [Act.put, List.setIfInBounds_toArray, List.set_cons_zero, List.set_cons_succ]
        refine wpAnyH_ready (rs := [11]) (by kernel_rfl) (by simp) ?_
        refine AllReadyH.cons (o := _) (nth_at rfl) (fun K hK => ?_) AllReadyH.nil
        go_simp
        with_reducible refine (HF _ (KeepC.of_below hB1.drew)).mono ?_
        rintro e w2 ⟨a3, c3, rfl, ho3, hb2⟩
        have hc2 := (Below.refl W0.heap.size W0).drew.trans hb2
        have B2 := hBW.trans (hc2.mono hBW.size)
        try dsimp only
        refine hK.out _ _ ?_ (fun hHeld => ?_)
        · exact SK.out _ hc2
        clear hK K
        try simp only [Act.put, List.setIfInBounds_toArray, List.set_cons_zero, List.set_cons_succ]
        refine wpAnyH_take (i := 12) (oi := _) (v := ?_) (nth_at rfl) (by kernel_rfl) (by kernel_rfl) (by kernel_rfl) (fun _ _ _ h => h) (Or.inl ⟨by rfl, ?_⟩) (by assumption) ?_
        rotate_left 1
        · intro w hSw; (try dsimp only at hSw); (go_simp <;> with_reducible rfl)
        try simp only [Act.put, List.setIfInBounds_toArray, List.set_cons_zero, List.set_cons_succ]
        refine wpAnyH_ready (rs := [13]) (by kernel_rfl) (by simp) ?_
        refine AllReadyH.cons (o := _) (nth_at rfl) (fun K hK => ?_) AllReadyH.nil
        go_simp
        obtain ⟨W3, hW3⟩ : ∃ W3, w2.alloc (.cells #[.string ⟨(name.take 50).toArray⟩, .int .i64 kind, .string ⟨(data.take 1010).toArray⟩, .int .i64 max, .slice a3 (fewI items).length c3] 48) = W3 := ⟨_, rfl⟩
        rw [hW3]
        have n3 : Blk W3 w2.heap.size #[.string ⟨(name.take 50).toArray⟩, .int .i64 kind, .string ⟨(data.take 1010).toArray⟩, .int .i64 max, .slice a3 (fewI items).length c3] 48 := by rw [← hW3]; exact Blk.new w2 _ _
        have b23 : Below w2.heap.size w2 W3 := by rw [← hW3]; exact (Below.refl _ w2).alloc (Nat.le_refl _) _
        have hc3 := hc2.trans (b23.mono hc2.size)
        have B3 := B2.trans (b23.mono B2.size)
        have hrow3 := hrow.kept (grown_of_below (hB1.trans (hc3.mono hB1.size)) none) (by cases hvb : (Value.ownBlock _ : Option Nat) <;> simp)
        refine hK.out _ _ ?_ (fun hHeld => ?_)
        · exact SK.out _ hc3
        clear hK K
        try simp only [Act.put, List.setIfInBounds_toArray, List.set_cons_zero, List.set_cons_succ]
        refine wpAnyH_ready (rs := [14]) (by kernel_rfl) (by simp) ?_
        refine AllReadyH.cons (o := _) (nth_at rfl) (fun K hK => ?_) AllReadyH.nil
        rw [if_pos (by rfl)]
        refine wp_append_own _ _ _ _ rfl w.heap.size 48 i0 (.agg #[.string ⟨#[]⟩, .int .i64 0, .string ⟨#[]⟩, .int .i64 0, .slice none 0 0]) 5 72 Tryz.underlying22 hI hz0 hz1 hz2 rfl (by decide) _ _ _ rfl hrow3 ⟨w2.heap.size, 0, none⟩ 1 1 (Array.toList #[.string ⟨(name.take 50).toArray⟩, .int .i64 kind, .string ⟨(data.take 1010).toArray⟩, .int .i64 max, .slice a3 (fewI items).length c3]) rfl rfl (blk_news n3) (by simp [Value.oneCell']) (by unfold maxLen; omega) (by omega) B3.size ?_
        intro v4 w4 hown hgrow _
        have B4 : Below w.heap.size w w4 := B3.grown hgrow B3.size (fun k hk => (hrow3.lt k hk).1)
        refine hK.out _ _ ?_ (fun hHeld => ?_)
        · exact SKg.out _ _ _ hc3 hgrow (fun k hk => (hrow.lt k hk).2)
        clear hK K
        try simp only [Act.put, List.setIfInBounds_toArray, List.set_cons_zero, List.set_cons_succ]
        refine wpAnyH_take (i := 15) (oi := _) (v := ?_) (nth_at rfl) (by kernel_rfl) (by kernel_rfl) (by kernel_rfl) (fun _ _ _ h => h) (Or.inl ⟨by rfl, ?_⟩) (by assumption) ?_
        rotate_left 1
        · intro w hSw; (try dsimp only at hSw); (go_simp <;> with_reducible rfl)
        try simp only [Act.put, List.setIfInBounds_toArray, List.set_cons_zero, List.set_cons_succ]
        refine wpAnyH_done (by kernel_rfl) ?_ _
        refine NoPanic.normal ?_
        have gA := grownBy_t (grown_of_below (hB1.trans (hc3.mono hB1.size)) _) hgrow
        have rT := RowT.of_row hrow [9] (by decide)
        have rT3 := RowT.of_row hrow3 [9] (by decide)
        have hO : ObjsO w.heap.size 48 9 w4 v4 (fewS (l.take (kk + 1))) := by
          refine ⟨_, by rw [hlen1]; exact hown, ?_⟩
          rw [hsucc]
          refine (hrows.mono fun x _ c hcx => hcx.kept gA rT).append (Rows.one ⟨_, rfl, ?_⟩)
          exact own_kept (own_kept (own_base ho3 (show w.heap.size ≤ W0.drew.heap.size from hBW.size)) (grown_of_below b23 none) (RowT.none _ _)) hgrow rT3
        have HO := Lib.hid hO
        clear hO gA rT rT3 hrows ho3 hown hrow hrow3 n3 hgrow HF HN HD SK SKg xc0 xc1 xc2 xc3 xc4
        go_wp2_with fail
        go_roundg (22 - (kk + 1))
        case measure => omega
        case rel => exact ⟨kk + 1, _, by omega, by omega, by omega, rfl, by go_num, B4, HO.out⟩
      · have h40z : ¬ (kk : Int) < 22 := by omega
        have he := fewS_end l kk hkk hk40 (by omega)
        rw [he] at hS
        clear hc
        go_wp2_with fail
        go_ret
        exact ⟨_, rfl, hS.out, hB⟩
    · have hltz : ¬ (kk : Int) < (l.length : Int) := by omega
      have he := fewS_end l kk hkk hk40 (by omega)
      rw [he] at hS
      clear hc
      go_wp2_with fail
      go_ret
      exact ⟨_, rfl, hS.out, hB⟩
end Go.Proofs.YthclfkhakmcnbaaGreatDoor
/- What the laws of layer 10 hand on fits. -/
namespace Go.Proofs.YthclfkhakmcnbaaGreatDoor
open Go.RowKit Go.Shelf
theorem fewI_fitsX (l : List (List UInt8)) : FitsL (fewI l) := by
  constructor
  · simp [fewI]; omega
  · intro s hs
    unfold fewI at hs
    obtain ⟨t, _, rfl⟩ := List.mem_map.1 hs
    unfold maxLen
    simp; omega
theorem fewO_fitsX (x : ObjD) : FitsO (fewO x) := ⟨by unfold maxLen; simp [fewO]; omega, by unfold maxLen; simp [fewO]; omega, fewI_fitsX _⟩
theorem fewS_fitsX (l : List ObjD) : FitsS (fewS l) := ⟨Nat.le_trans (fewS_len l) (by decide), fun x hx => by
  unfold fewS at hx
  obtain ⟨t, _, rfl⟩ := List.mem_map.1 hx
  exact fewO_fitsX t⟩
end Go.Proofs.YthclfkhakmcnbaaGreatDoor
