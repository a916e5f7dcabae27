/- Joined: FewA; FewB; FewC; FewD; FewE; Shown; LawA; Row; WldSeat -/
import Derived.Test.YtmjmmcdhpognaaaGreatDoorJWG
import Derived.Test.YtmjmmcdhpognaaaGreatDoorJWA
import Derived.Carry
import Derived.ChangeSame
import Derived.WideKeyArgs
import Derived.ProofKit
import Derived.Deep.DeepHandedRow
import Derived.Deep.DeepWitnessRowRef
import Derived.LaidMore
import Derived.Stop.LaidErr
import Derived.Test.YtmjmmcdhpognaaaGreatDoorCards
import Derived.Test.YtmjmmcdhpognaaaGreatDoorTie
/- Walks of the laws' own functions: how what comes in is cut: texts. -/
namespace Go.Proofs.YtmjmmcdhpognaaaGreatDoor
open Go.RowKit Go.Shelf
attribute [local go_sem] Oper.semAt_some
theorem blk_news {W : World} {b : Nat} {cs : Array Value} {t : TypeId} (h : Blk W b cs t) : ∀ j u, cs.toList[j]? = some u → W.cell? ((⟨b, 0, none⟩ : Addr).add j) = some u := fun j u hu => by
  rw [Addr.add_lit, Nat.zero_add, h.cell j]
  simpa using hu
theorem take_min (s : List UInt8) (k : Nat) : s.take (min (s.length : Int) (k : Int)).toNat = s.take k := by
  by_cases h : s.length ≤ k
  · rw [List.take_of_length_le h, List.take_of_length_le]; omega
  · congr 1; omega
theorem cut8_any (s : List UInt8) (hs : s.length ≤ maxLen) (w : World) : Calls Tryz.prog 83 #[.string ⟨s.toArray⟩] w fun e w' => e = .returned (.string ⟨(s.take 210).toArray⟩) ∧ w' = w := by
  have hz := ba_size s
  unfold maxLen at hs
  have hm := take_min s 210
  have H := Lib.hid hm
  clear hm
  have h1 : (0 : Int) ≤ min (s.length : Int) 210 := by omega
  have h2 : min (s.length : Int) 210 ≤ (s.length : Int) := by omega
  go_enter Tryz.func83, Tryz.ntmps83
  go_wp2
  go_ret
  refine ⟨ret_str ?_, rfl⟩
  simpa using H.out
theorem cut10_any (s : List UInt8) (hs : s.length ≤ maxLen) (w : World) : Calls Tryz.prog 41 #[.string ⟨s.toArray⟩] w fun e w' => e = .returned (.string ⟨(s.take 50).toArray⟩) ∧ w' = w := by
  have hz := ba_size s
  unfold maxLen at hs
  have hm := take_min s 50
  have H := Lib.hid hm
  clear hm
  have h1 : (0 : Int) ≤ min (s.length : Int) 50 := by omega
  have h2 : min (s.length : Int) 50 ≤ (s.length : Int) := by omega
  go_enter Tryz.func41, Tryz.ntmps41
  go_wp2
  go_ret
  refine ⟨ret_str ?_, rfl⟩
  simpa using H.out
theorem long10_any (s : List UInt8) (hs : s.length ≤ maxLen) (w : World) : Calls Tryz.prog 42 #[.string ⟨s.toArray⟩] w fun e w' => e = .returned (.string ⟨(s.take 1010).toArray⟩) ∧ w' = w := by
  have hz := ba_size s
  unfold maxLen at hs
  have hm := take_min s 1010
  have H := Lib.hid hm
  clear hm
  have h1 : (0 : Int) ≤ min (s.length : Int) 1010 := by omega
  have h2 : min (s.length : Int) 1010 ≤ (s.length : Int) := by omega
  go_enter Tryz.func42, Tryz.ntmps42
  go_wp2
  go_ret
  refine ⟨ret_str ?_, rfl⟩
  simpa using H.out
end Go.Proofs.YtmjmmcdhpognaaaGreatDoor
/- Walks of the laws' own functions: how what comes in is cut: items. -/
namespace Go.Proofs.YtmjmmcdhpognaaaGreatDoor
open Go.RowKit Go.Shelf
attribute [local go_sem] Oper.semAt_some
theorem fewI_succ (l : List (List UInt8)) (k : Nat) (h : k < l.length) (h2 : k < 40) : fewI (l.take (k + 1)) = fewI (l.take k) ++ [l[k].take 210] := by
  unfold fewI
  rw [List.take_take, List.take_take, Nat.min_eq_right (by omega), Nat.min_eq_right (by omega), List.take_succ_eq_append_getElem h, List.map_append]; rfl
theorem fewI_end (l : List (List UInt8)) (k : Nat) (h : k ≤ l.length) (h2 : k ≤ 40) (hk : ¬ (k < l.length ∧ k < 40)) : fewI (l.take k) = fewI l := by
  unfold fewI
  rw [List.take_take, Nat.min_eq_right h2]
  by_cases h3 : k < l.length
  · rw [show k = 40 by omega]
  · rw [show k = l.length by omega, List.take_of_length_le (Nat.le_refl _), List.take_of_length_le (by omega)]
theorem fewI_len (l : List (List UInt8)) (k : Nat) (h : k ≤ l.length) (h2 : k ≤ 40) : (fewI (l.take k)).length = k := by
  simp [fewI]; omega
set_option maxRecDepth 100000 in
set_option maxHeartbeats 4000000 in
theorem few8_any (l : List (List UInt8)) (hl : l.length ≤ maxLen) (hi : ∀ s ∈ l, s.length ≤ maxLen) (v : Value) (w : World) (hv : StrsV w v l) :
    Calls Tryz.prog 65 #[v] w fun e w' => ∃ v', e = .returned v' ∧ StrsO w.heap.size 9 w' v' (fewI l) ∧ Below w.heap.size w w' := by
  obtain ⟨a, cap, rfl, hc⟩ := hv.at
  obtain ⟨i0, hI, hz0, hz1, hz2⟩ := info_parts infoS
  unfold maxLen at hl
  have hll : (l.length : Int) ≤ 9223372036854775807 := by omega
  clear hv
  go_enter Tryz.func65, Tryz.ntmps65
  go_wp2_with fail
  go_loopg [3, 4] 40 (fun gg s3 s4 wr => ∃ (kk : Nat) (vv : Value), kk ≤ l.length ∧ kk ≤ 40 ∧ 40 - kk ≤ gg ∧ s3 = vv ∧ s4 = .int .i64 kk ∧ Below w.heap.size w wr ∧ StrsO w.heap.size 9 wr vv (fewI (l.take kk)))
  case atStart => exact ⟨0, _, Nat.zero_le _, by omega, by omega, rfl, rfl, Below.refl _ _, StrsO.nil _ _ _⟩
  case round =>
    obtain ⟨kk, s3, hkk, hk40, hg, rfl, rfl, hB, hS⟩ := hrel
    by_cases hlt : kk < l.length
    · have hltz : (kk : Int) < (l.length : Int) := by omega
      by_cases h40 : kk < 40
      · have h40z : (kk : Int) < 40 := by omega
        obtain ⟨b, o, rfl, -, hcell⟩ := hc kk hlt
        have k0 := (KeepC.of_below hB).2 _ _ _ hcell
        have hlen := fewI_len l kk hkk hk40
        have hsucc := fewI_succ l kk hlt h40
        have HCx := cut8_any l[kk] (hi _ (List.getElem_mem _)) wr
        have hrow := hS
        unfold StrsO at hrow
        rw [hlen] at hrow
        have hstr : strsC (fewI (l.take (kk + 1))) = strsC (fewI (l.take kk)) ++ [.string ⟨(l[kk].take 210).toArray⟩] := by rw [hsucc]; simp [strsC]
        have hlen1 := fewI_len l (kk + 1) (by omega) (by omega)
        have HX : Hid (∀ W v', W.ownsRow w.heap.size 9 1 v' (kk + 1) (strsC (fewI (l.take kk)) ++ [.string ⟨(l[kk].take 210).toArray⟩]) → StrsO w.heap.size 9 W v' (fewI (l.take (kk + 1)))) := by
          show ∀ W, _
          intro W v' h
          unfold StrsO
          rw [hlen1, hstr]; exact h
        clear hc hS hlen hsucc hstr hlen1 hcell
        generalize strsC (fewI (l.take kk)) = cs at *
        generalize l[kk] = x at *
        generalize x.take 210 = y at *
        go_wp2_with fail
        with_reducible refine HCx.mono ?_
        rintro e w1 ⟨rfl, rfl⟩
        go_wp2_with (at_builtin; refine wpList_append_own _ rfl _ _ 36 rfl w.heap.size 9 i0 (.string ⟨#[]⟩) 1 16 Tryz.underlying36 hI hz0 hz1 hz2 rfl (by decide) _ _ _ rfl (hrow.alloc _) ⟨w1.heap.size, 0, none⟩ 1 1 [.string ⟨y.toArray⟩] rfl rfl (cell_one_new _ _ _) (by simp [Value.oneCell']) (by unfold maxLen; omega) (by omega) (by have := hB.size; simp; omega) ?_)
        intro v' w2 hown hgrow _
        have hB2 : Below w.heap.size w w2 := (hB.alloc hB.size _).grown hgrow (by have := hB.size; simp; omega) (fun k hk => (hrow.lt k hk).1)
        have HX2 := Lib.hid (HX.out _ _ hown)
        clear hown hgrow hrow HCx
        go_wp2_with fail
        go_roundg (40 - (kk + 1))
        case measure => omega
        case rel => exact ⟨kk + 1, _, by omega, by omega, by omega, rfl, by go_num, hB2, HX2.out⟩
      · have h40z : ¬ (kk : Int) < 40 := by omega
        have he := fewI_end l kk hkk hk40 (by omega)
        rw [he] at hS
        clear hc
        go_wp2_with fail
        go_ret
        exact ⟨_, rfl, hS, hB⟩
    · have hltz : ¬ (kk : Int) < (l.length : Int) := by omega
      have he := fewI_end l kk hkk hk40 (by omega)
      rw [he] at hS
      clear hc
      go_wp2_with fail
      go_ret
      exact ⟨_, rfl, hS, hB⟩
end Go.Proofs.YtmjmmcdhpognaaaGreatDoor
/- Walks of the laws' own functions: how a ring is cut. -/
namespace Go.Proofs.YtmjmmcdhpognaaaGreatDoor
open Go.RowKit Go.Shelf
attribute [local go_sem] Oper.semAt_some
set_option maxRecDepth 100000 in
set_option maxHeartbeats 4000000 in
theorem Few8_any (m : Int) (l : List (List UInt8)) (hl : l.length ≤ maxLen) (hi : ∀ s ∈ l, s.length ≤ maxLen) (a : Option Addr) (cap : Nat) (w : World) (hv : StrsV w (.slice a l.length cap) l) :
    Calls Tryz.prog 43 #[.agg #[.int .i64 m, .slice a l.length cap]] w fun e w' => ∃ a' cap', e = .returned (.agg #[.int .i64 m, .slice a' (fewI l).length cap']) ∧ StrsO w.heap.size 9 w' (.slice a' (fewI l).length cap') (fewI l) ∧ Below w.heap.size w w' := by
  have HF := fun W (h : KeepC w W) => few8_any l hl hi _ W (hv.keep h)
  generalize hn : (fewI l).length = n at *
  have hB0 := ((Below.refl _ w).alloc (Nat.le_refl _) (.cells #[.int .i64 m, .slice a l.length cap] 38)).alloc (by simp) (.cells #[.int .i64 0, .slice none 0 0] 38)
  have b1 := (Blk.new w #[.int .i64 m, .slice a l.length cap] 38).alloc (.cells #[.int .i64 0, .slice none 0 0] 38)
  have b2 := Blk.new (w.alloc (.cells #[.int .i64 m, .slice a l.length cap] 38)) #[.int .i64 0, .slice none 0 0] 38
  rw [World.size_alloc] at b2
  have hz : ((w.alloc (.cells #[.int .i64 m, .slice a l.length cap] 38)).alloc (.cells #[.int .i64 0, .slice none 0 0] 38)).heap.size = w.heap.size + 2 := by simp
  have HFx := HF _ (KeepC.of_below hB0.drew)
  clear HF hv
  go_enter Tryz.func43, Tryz.ntmps43
  go_wp2_with fail
  generalize (w.alloc (.cells #[.int .i64 m, .slice a l.length cap] 38)).alloc (.cells #[.int .i64 0, .slice none 0 0] 38) = W0 at *
  have j0 := b1.cell 0
  have j1 := b1.cell 1
  simp at j0 j1
  have SK : Hid (∀ W, Below W0.heap.size W0 W → (W.cell? ⟨w.heap.size, 0, none⟩ = some (.int .i64 m) ∧ W.cell? ⟨w.heap.size, 1, none⟩ = some (.slice a l.length cap)) ∧ Blk W (w.heap.size + 1) #[.int .i64 0, .slice none 0 0] 38) := by
    show ∀ W, _
    intro W h
    have hk := (KeepC.of_below h).2
    exact ⟨⟨hk _ _ _ j0, hk _ _ _ j1⟩, b2.below h (by omega)⟩
  clear b1 b2
  go_region_held3 (fun u => u.cell? ⟨w.heap.size, 0, none⟩ = some (.int .i64 m) ∧ u.cell? ⟨w.heap.size, 1, none⟩ = some (.slice a l.length cap))
    (first | go_keep | exact (SK.out _ hbb).1)
    (first
      | (go_at_call 65; go_must (with_reducible refine HFx.mono ?_); rintro e w2 ⟨v2, rfl, ho2, hb2⟩; have hbb := (Below.refl W0.heap.size W0).drew.trans hb2; have kk2 := (SK.out _ hbb).2; have kk0 := kk2.cell 0; have kk1 := kk2.cell 1; have kf0 := kk2.frozen 0; have kf1 := kk2.frozen 1; simp at kk0 kk1; obtain ⟨a2, c2, hv2, -⟩ := StrsV.at ho2.view; subst hv2; clear kk2))
  all_goals (have kb := (SK.out _ hbb).2)
  all_goals (have zf := (Blk.set 0 (.int .i64 m) kb).set 1 (.slice a2 n c2))
  all_goals (have q0 := zf.cell 0)
  all_goals (have q1 := zf.cell 1)
  all_goals (simp at q0 q1)
  all_goals (have g1 := grownBy_t (grownBy_setCellB w2 (w.heap.size + 1) 0 (.int .i64 m)) (grownBy_setCellB (w2.setCell ⟨w.heap.size + 1, 0, none⟩ (.int .i64 m)) (w.heap.size + 1) 1 (.slice a2 n c2)))
  all_goals (have hO := own_base (own_kept ho2 g1 (RowT.blk kb _ (by decide))) (show w.heap.size ≤ W0.drew.heap.size from hB0.size))
  all_goals (have hE := ((hB0.trans (hbb.mono hB0.size)).setCell (p := ⟨w.heap.size + 1, 0, none⟩) (by show _ ≤ w.heap.size + 1; omega) (.int .i64 m)).setCell (p := ⟨w.heap.size + 1, 1, none⟩) (by show _ ≤ w.heap.size + 1; omega) (.slice a2 n c2))
  all_goals (clear kb zf SK HFx kk0 kk1 kf0 kf1 g1)
  all_goals (rw [hn] at hO)
  all_goals go_wp2_with fail
  all_goals exact bodyPost_ret (v := .agg #[.int .i64 m, .slice a2 n c2]) (by simp [results, Tryz.results43, go_sem, q0, q1]) rfl ⟨a2, c2, rfl, by unfold StrsO; rw [hn]; exact hO, hE⟩
end Go.Proofs.YtmjmmcdhpognaaaGreatDoor
/- Walks of the laws' own functions: how objects are cut. -/
namespace Go.Proofs.YtmjmmcdhpognaaaGreatDoor
open Go.RowKit Go.Shelf
attribute [local go_sem] Oper.semAt_some
theorem fewS_succ (l : List ObjD) (k : Nat) (h : k < l.length) (h2 : k < 22) : fewS (l.take (k + 1)) = fewS (l.take k) ++ [fewO l[k]] := by
  unfold fewS
  rw [List.take_take, List.take_take, Nat.min_eq_right (by omega), Nat.min_eq_right (by omega), List.take_succ_eq_append_getElem h, List.map_append]; rfl
theorem fewS_end (l : List ObjD) (k : Nat) (h : k ≤ l.length) (h2 : k ≤ 22) (hk : ¬ (k < l.length ∧ k < 22)) : fewS (l.take k) = fewS l := by
  unfold fewS
  rw [List.take_take, Nat.min_eq_right h2]
  by_cases h3 : k < l.length
  · rw [show k = 22 by omega]
  · rw [show k = l.length by omega, List.take_of_length_le (Nat.le_refl _), List.take_of_length_le (by omega)]
theorem fewS_at (l : List ObjD) (k : Nat) (h : k ≤ l.length) (h2 : k ≤ 22) : (fewS (l.take k)).length = k := by
  simp [fewS]; omega
/-- what the call's argument must be: lengths that a machine holds -/
def OkO (x : ObjD) : Prop := x.name.length ≤ maxLen ∧ x.data.length ≤ maxLen ∧ x.items.length ≤ maxLen ∧ ∀ s ∈ x.items, s.length ≤ maxLen
set_option maxRecDepth 100000 in
set_option maxHeartbeats 4000000 in
theorem few10_any (l : List ObjD) (hl : l.length ≤ maxLen) (hi : ∀ x ∈ l, OkO x) (v : Value) (w : World) (hv : ObjsV w v l) :
    Calls Tryz.prog 19 #[v] w fun e w' => ∃ v', e = .returned v' ∧ ObjsO w.heap.size 40 9 w' v' (fewS l) ∧ Below w.heap.size w w' := by
  obtain ⟨a, cap, rfl, hc⟩ := hv.at
  obtain ⟨i0, hI, hz0, hz1, hz2⟩ := info_parts infoO
  unfold maxLen at hl
  have hll : (l.length : Int) ≤ 9223372036854775807 := by omega
  clear hv
  go_enter Tryz.func19, Tryz.ntmps19
  go_wp2_with fail
  go_loopg [3, 4] 22 (fun gg s3 s4 wr => ∃ (kk : Nat) (vv : Value), kk ≤ l.length ∧ kk ≤ 22 ∧ 22 - kk ≤ gg ∧ s3 = vv ∧ s4 = .int .i64 kk ∧ Below w.heap.size w wr ∧ Hid (ObjsO w.heap.size 40 9 wr vv (fewS (l.take kk))))
  case atStart => exact ⟨0, _, Nat.zero_le _, by omega, by omega, rfl, rfl, Below.refl _ _, ObjsO.nil _ _ _ _⟩
  case round =>
    obtain ⟨kk, s3, hkk, hk40, hg, rfl, rfl, hB, hS⟩ := hrel
    by_cases hlt : kk < l.length
    · have hltz : (kk : Int) < (l.length : Int) := by omega
      by_cases h40 : kk < 22
      · have h40z : (kk : Int) < 22 := by omega
        have hkz : (0 : Int) ≤ (kk : Int) := by omega
        obtain ⟨b, o, lv, rfl, -, hlv, k0, k1, k2, k3, k4⟩ := hc kk hlt
        have hBk := KeepC.of_below hB
        replace k0 := hBk.2 _ _ _ k0
        replace k1 := hBk.2 _ _ _ k1
        replace k2 := hBk.2 _ _ _ k2
        replace k3 := hBk.2 _ _ _ k3
        replace k4 := hBk.2 _ _ _ k4
        replace hlv := hlv.keep hBk
        have hok := hi l[kk] (List.getElem_mem _)
        have hlen := fewS_at l kk hkk hk40
        have hlen1 := fewS_at l (kk + 1) (by omega) (by omega)
        have hsucc := fewS_succ l kk hlt h40
        obtain ⟨cs, hrow, hrows⟩ := hS.out
        rw [hlen] at hrow
        clear hc hS hBk
        generalize l[kk] = x at *
        obtain ⟨name, kind, data, max, items⟩ := x
        obtain ⟨ok1, ok2, ok3, ok4⟩ := hok
        dsimp only at *
        obtain ⟨a2, cap2, rfl, -⟩ := hlv.at
        have HN := fun W => cut10_any name ok1 W
        have HD := fun W => long10_any data ok2 W
        have hB1 := (Below.refl wr.heap.size wr).alloc (Nat.le_refl _) (.cells #[.string ⟨name.toArray⟩, .int .i64 kind, .string ⟨data.toArray⟩, .int .i64 max, .slice a2 items.length cap2] 40)
        have b1 := Blk.new wr #[.string ⟨name.toArray⟩, .int .i64 kind, .string ⟨data.toArray⟩, .int .i64 max, .slice a2 items.length cap2] 40
        have hBW := hB.trans (hB1.mono hB.size)
        have HF := fun W (h : KeepC wr W) => Few8_any max items ok3 ok4 a2 cap2 W (hlv.keep h)
        clear hlv ok1 ok2 ok3 ok4
        go_wp2_with fail
        generalize wr.alloc (.cells #[.string ⟨name.toArray⟩, .int .i64 kind, .string ⟨data.toArray⟩, .int .i64 max, .slice a2 items.length cap2] 40) = W0 at *
        have xc0 := b1.cell 0
        have xc1 := b1.cell 1
        have xc2 := b1.cell 2
        have xc3 := b1.cell 3
        have xc4 := b1.cell 4
        simp at xc0 xc1 xc2 xc3 xc4
        clear b1 k0 k1 k2 k3 k4
        have SK : Hid (∀ u, Below W0.heap.size W0 u → u.cell? ⟨wr.heap.size, 0, none⟩ = some (.string ⟨name.toArray⟩) ∧ u.cell? ⟨wr.heap.size, 1, none⟩ = some (.int .i64 kind) ∧ u.cell? ⟨wr.heap.size, 2, none⟩ = some (.string ⟨data.toArray⟩) ∧ u.cell? ⟨wr.heap.size, 3, none⟩ = some (.int .i64 max) ∧ u.cell? ⟨wr.heap.size, 4, none⟩ = some (.slice a2 items.length cap2)) := by
          show ∀ u, _
          intro u h
          have hk := (KeepC.of_below h).2
          exact ⟨hk _ _ _ xc0, hk _ _ _ xc1, hk _ _ _ xc2, hk _ _ _ xc3, hk _ _ _ xc4⟩
        have SKg : Hid (∀ W u row, Below W0.heap.size W0 W → W.grownBy u row → (∀ k, row = some k → k < wr.heap.size) → u.cell? ⟨wr.heap.size, 0, none⟩ = some (.string ⟨name.toArray⟩) ∧ u.cell? ⟨wr.heap.size, 1, none⟩ = some (.int .i64 kind) ∧ u.cell? ⟨wr.heap.size, 2, none⟩ = some (.string ⟨data.toArray⟩) ∧ u.cell? ⟨wr.heap.size, 3, none⟩ = some (.int .i64 max) ∧ u.cell? ⟨wr.heap.size, 4, none⟩ = some (.slice a2 items.length cap2)) := by
          show ∀ W, _
          intro W u row h hg hr
          have hlt : wr.heap.size < W.heap.size := Nat.lt_of_lt_of_le (World.block_lt_of_cell? W0 _ xc0) h.size
          have hk := (KeepC.of_below h).2
          have e : ∀ o x, W.cell? ⟨wr.heap.size, o, none⟩ = some x → u.cell? ⟨wr.heap.size, o, none⟩ = some x := fun o x hx => (World.cell?_of_block (w := W) (a := ⟨wr.heap.size, o, none⟩) (hg.block _ hlt (fun e => absurd (hr _ e.symm) (Nat.lt_irrefl _)))).trans hx
          exact ⟨e _ _ (hk _ _ _ xc0), e _ _ (hk _ _ _ xc1), e _ _ (hk _ _ _ xc2), e _ _ (hk _ _ _ xc3), e _ _ (hk _ _ _ xc4)⟩
        refine wp_region_noPanic ?_
        refine wp_region_held_drew (S := (fun u => u.cell? ⟨wr.heap.size, 0, none⟩ = some (.string ⟨name.toArray⟩) ∧ u.cell? ⟨wr.heap.size, 1, none⟩ = some (.int .i64 kind) ∧ u.cell? ⟨wr.heap.size, 2, none⟩ = some (.string ⟨data.toArray⟩) ∧ u.cell? ⟨wr.heap.size, 3, none⟩ = some (.int .i64 max) ∧ u.cell? ⟨wr.heap.size, 4, none⟩ = some (.slice a2 items.length cap2))) (by kernel_rfl) ?_ (fun hHeld => ?_)
        · exact SK.out _ (Below.refl W0.heap.size W0).drew
        refine wpAnyH_take (i := 0) (oi := _) (v := ?_) (nth_at rfl) (by kernel_rfl) (by kernel_rfl) (by kernel_rfl) (fun _ _ _ h => h) (Or.inl ⟨by rfl, ?_⟩) (by assumption) ?_
        rotate_left 1
        · intro w hSw; (try dsimp only at hSw); (go_simp <;> with_reducible rfl)
        try simp only [Act.put, List.setIfInBounds_toArray, List.set_cons_zero, List.set_cons_succ]
        refine wpAnyH_take (i := 1) (oi := _) (v := ?_) (nth_at rfl) (by kernel_rfl) (by kernel_rfl) (by kernel_rfl) (fun _ _ _ h => h) (Or.inl ⟨by rfl, ?_⟩) (by assumption) ?_
        rotate_left 1
        · intro w hSw; (try dsimp only at hSw); (go_simp <;> with_reducible rfl)
        try simp only [Act.put, List.setIfInBounds_toArray, List.set_cons_zero, List.set_cons_succ]
        refine wpAnyH_take (i := 2) (oi := _) (v := ?_) (nth_at rfl) (by kernel_rfl) (by kernel_rfl) (by kernel_rfl) (fun _ _ _ h => h) (Or.inl ⟨by rfl, ?_⟩) (by assumption) ?_
        rotate_left 1
        · intro w hSw; (try dsimp only at hSw); (go_simp <;> with_reducible rfl)
        try simp only [Act.put, List.setIfInBounds_toArray, List.set_cons_zero, List.set_cons_succ]
        refine wpAnyH_take (i := 4) (oi := _) (v := ?_) (nth_at rfl) (by kernel_rfl) (by kernel_rfl) (by kernel_rfl) (fun _ _ _ h => h) (Or.inl ⟨by rfl, ?_⟩) (by assumption) ?_
        rotate_left 1
        · intro w hSw; (try dsimp only at hSw); (go_simp <;> with_reducible rfl)
        try simp only [Act.put, List.setIfInBounds_toArray, List.set_cons_zero, List.set_cons_succ]
        refine wpAnyH_take (i := 5) (oi := _) (v := ?_) (nth_at rfl) (by kernel_rfl) (by kernel_rfl) (by kernel_rfl) (fun _ _ _ h => h) (Or.inl ⟨by rfl, ?_⟩) (by assumption) ?_
        rotate_left 1
        · intro w hSw; (try dsimp only at hSw); (go_simp <;> with_reducible rfl)
        try simp only [Act.put, List.setIfInBounds_toArray, List.set_cons_zero, List.set_cons_succ]
        refine wpAnyH_take (i := 6) (oi := _) (v := ?_) (nth_at rfl) (by kernel_rfl) (by kernel_rfl) (by kernel_rfl) (fun _ _ _ h => h) (Or.inl ⟨by rfl, ?_⟩) (by assumption) ?_
        rotate_left 1
        · intro w hSw; (try dsimp only at hSw); (go_simp <;> with_reducible rfl)
        try simp only [Act.put, List.setIfInBounds_toArray, List.set_cons_zero, List.set_cons_succ]
        refine wpAnyH_take (i := 7) (oi := _) (v := ?_) (nth_at rfl) (by kernel_rfl) (by kernel_rfl) (by kernel_rfl) (fun _ _ _ h => h) (Or.inl ⟨by rfl, ?_⟩) (by assumption) ?_
        rotate_left 1
        · intro w hSw; (try dsimp only at hSw); (go_simp <;> with_reducible rfl)
        try simp only [Act.put, List.setIfInBounds_toArray, List.set_cons_zero, List.set_cons_succ]
        refine wpAnyH_take (i := 9) (oi := _) (v := ?_) (nth_at rfl) (by kernel_rfl) (by kernel_rfl) (by kernel_rfl) (fun _ _ _ h => h) (Or.inl ⟨by rfl, ?_⟩) (by assumption) ?_
        rotate_left 1
        · intro w hSw; (try dsimp only at hSw); (go_simp <;> with_reducible rfl)
        try simp only [Act.put, List.setIfInBounds_toArray, List.set_cons_zero, List.set_cons_succ]
        refine wpAnyH_take (i := 10) (oi := _) (v := ?_) (nth_at rfl) (by kernel_rfl) (by kernel_rfl) (by kernel_rfl) (fun _ _ _ h => h) (Or.inl ⟨by rfl, ?_⟩) (by assumption) ?_
        rotate_left 1
        · intro w hSw; (try dsimp only at hSw); (go_simp <;> with_reducible rfl)
        try simp only [Act.put, List.setIfInBounds_toArray, List.set_cons_zero, List.set_cons_succ]
        refine wpAnyH_ready (rs := [3]) (by kernel_rfl) (by simp) ?_
        refine AllReadyH.cons (o := _) (nth_at rfl) (fun K hK => ?_) AllReadyH.nil
        go_simp
        with_reducible refine (HN _).mono ?_
        rintro e w1 ⟨rfl, rfl⟩
        try dsimp only
        refine hK.out _ _ ?_ (fun hHeld => ?_)
        · exact hHeld
        clear hK K
        try simp only [Act.put, List.setIfInBounds_toArray, List.set_cons_zero, List.set_cons_succ]
        refine wpAnyH_ready (rs := [8]) (by kernel_rfl) (by simp) ?_
        refine AllReadyH.cons (o := _) (nth_at rfl) (fun K hK => ?_) AllReadyH.nil
        go_simp
        with_reducible refine (HD _).mono ?_
        rintro e w1 ⟨rfl, rfl⟩
        try dsimp only
        refine hK.out _ _ ?_ (fun hHeld => ?_)
        · exact hHeld
        clear hK K
        try simp only [Act.put, List.setIfInBounds_toArray, List.set_cons_zero, List.set_cons_succ]
        refine wpAnyH_ready (rs := [11]) (by kernel_rfl) (by simp) ?_
        refine AllReadyH.cons (o := _) (nth_at rfl) (fun K hK => ?_) AllReadyH.nil
        go_simp
        with_reducible refine (HF _ (KeepC.of_below hB1.drew)).mono ?_
        rintro e w2 ⟨a3, c3, rfl, ho3, hb2⟩
        have hc2 := (Below.refl W0.heap.size W0).drew.trans hb2
        have B2 := hBW.trans (hc2.mono hBW.size)
        try dsimp only
        refine hK.out _ _ ?_ (fun hHeld => ?_)
        · exact SK.out _ hc2
        clear hK K
        try simp only [Act.put, List.setIfInBounds_toArray, List.set_cons_zero, List.set_cons_succ]
        refine wpAnyH_take (i := 12) (oi := _) (v := ?_) (nth_at rfl) (by kernel_rfl) (by kernel_rfl) (by kernel_rfl) (fun _ _ _ h => h) (Or.inl ⟨by rfl, ?_⟩) (by assumption) ?_
        rotate_left 1
        · intro w hSw; (try dsimp only at hSw); (go_simp <;> with_reducible rfl)
        try simp only [Act.put, List.setIfInBounds_toArray, List.set_cons_zero, List.set_cons_succ]
        refine wpAnyH_ready (rs := [13]) (by kernel_rfl) (by simp) ?_
        refine AllReadyH.cons (o := _) (nth_at rfl) (fun K hK => ?_) AllReadyH.nil
        go_simp
        obtain ⟨W3, hW3⟩ : ∃ W3, w2.alloc (.cells #[.string ⟨(name.take 50).toArray⟩, .int .i64 kind, .string ⟨(data.take 1010).toArray⟩, .int .i64 max, .slice a3 (fewI items).length c3] 40) = W3 := ⟨_, rfl⟩
        rw [hW3]
        have n3 : Blk W3 w2.heap.size #[.string ⟨(name.take 50).toArray⟩, .int .i64 kind, .string ⟨(data.take 1010).toArray⟩, .int .i64 max, .slice a3 (fewI items).length c3] 40 := by rw [← hW3]; exact Blk.new w2 _ _
        have b23 : Below w2.heap.size w2 W3 := by rw [← hW3]; exact (Below.refl _ w2).alloc (Nat.le_refl _) _
        have hc3 := hc2.trans (b23.mono hc2.size)
        have B3 := B2.trans (b23.mono B2.size)
        have hrow3 := hrow.kept (grown_of_below (hB1.trans (hc3.mono hB1.size)) none) (by cases hvb : (Value.ownBlock _ : Option Nat) <;> simp)
        refine hK.out _ _ ?_ (fun hHeld => ?_)
        · exact SK.out _ hc3
        clear hK K
        try simp only [Act.put, List.setIfInBounds_toArray, List.set_cons_zero, List.set_cons_succ]
        refine wpAnyH_ready (rs := [14]) (by kernel_rfl) (by simp) ?_
        refine AllReadyH.cons (o := _) (nth_at rfl) (fun K hK => ?_) AllReadyH.nil
        rw [if_pos (by rfl)]
        refine wp_append_own _ _ _ _ rfl w.heap.size 40 i0 (.agg #[.string ⟨#[]⟩, .int .i64 0, .string ⟨#[]⟩, .int .i64 0, .slice none 0 0]) 5 72 Tryz.underlying30 hI hz0 hz1 hz2 rfl (by decide) _ _ _ rfl hrow3 ⟨w2.heap.size, 0, none⟩ 1 1 (Array.toList #[.string ⟨(name.take 50).toArray⟩, .int .i64 kind, .string ⟨(data.take 1010).toArray⟩, .int .i64 max, .slice a3 (fewI items).length c3]) rfl rfl (blk_news n3) (by simp [Value.oneCell']) (by unfold maxLen; omega) (by omega) B3.size ?_
        intro v4 w4 hown hgrow _
        have B4 : Below w.heap.size w w4 := B3.grown hgrow B3.size (fun k hk => (hrow3.lt k hk).1)
        refine hK.out _ _ ?_ (fun hHeld => ?_)
        · exact SKg.out _ _ _ hc3 hgrow (fun k hk => (hrow.lt k hk).2)
        clear hK K
        try simp only [Act.put, List.setIfInBounds_toArray, List.set_cons_zero, List.set_cons_succ]
        refine wpAnyH_take (i := 15) (oi := _) (v := ?_) (nth_at rfl) (by kernel_rfl) (by kernel_rfl) (by kernel_rfl) (fun _ _ _ h => h) (Or.inl ⟨by rfl, ?_⟩) (by assumption) ?_
        rotate_left 1
        · intro w hSw; (try dsimp only at hSw); (go_simp <;> with_reducible rfl)
        try simp only [Act.put, List.setIfInBounds_toArray, List.set_cons_zero, List.set_cons_succ]
        refine wpAnyH_done (by kernel_rfl) ?_ _
        refine NoPanic.normal ?_
        have gA := grownBy_t (grown_of_below (hB1.trans (hc3.mono hB1.size)) _) hgrow
        have rT := RowT.of_row hrow [9] (by decide)
        have rT3 := RowT.of_row hrow3 [9] (by decide)
        have hO : ObjsO w.heap.size 40 9 w4 v4 (fewS (l.take (kk + 1))) := by
          refine ⟨_, by rw [hlen1]; exact hown, ?_⟩
          rw [hsucc]
          refine (hrows.mono fun x _ c hcx => hcx.kept gA rT).append (Rows.one ⟨_, rfl, ?_⟩)
          exact own_kept (own_kept (own_base ho3 (show w.heap.size ≤ W0.drew.heap.size from hBW.size)) (grown_of_below b23 none) (RowT.none _ _)) hgrow rT3
        have HO := Lib.hid hO
        clear hO gA rT rT3 hrows ho3 hown hrow hrow3 n3 hgrow HF HN HD SK SKg xc0 xc1 xc2 xc3 xc4
        go_wp2_with fail
        go_roundg (22 - (kk + 1))
        case measure => omega
        case rel => exact ⟨kk + 1, _, by omega, by omega, by omega, rfl, by go_num, B4, HO.out⟩
      · have h40z : ¬ (kk : Int) < 22 := by omega
        have he := fewS_end l kk hkk hk40 (by omega)
        rw [he] at hS
        clear hc
        go_wp2_with fail
        go_ret
        exact ⟨_, rfl, hS.out, hB⟩
    · have hltz : ¬ (kk : Int) < (l.length : Int) := by omega
      have he := fewS_end l kk hkk hk40 (by omega)
      rw [he] at hS
      clear hc
      go_wp2_with fail
      go_ret
      exact ⟨_, rfl, hS.out, hB⟩
end Go.Proofs.YtmjmmcdhpognaaaGreatDoor
/- Walks of the laws' own functions: how parts are cut. -/
namespace Go.Proofs.YtmjmmcdhpognaaaGreatDoor
open Go.RowKit Go.Shelf
attribute [local go_sem] Oper.semAt_some
theorem fewW_succ (l : List PartD) (k : Nat) (h : k < l.length) (h2 : k < 8) : fewW (l.take (k + 1)) = fewW (l.take k) ++ [fewP l[k]] := by
  unfold fewW
  rw [List.take_take, List.take_take, Nat.min_eq_right (by omega), Nat.min_eq_right (by omega), List.take_succ_eq_append_getElem h, List.map_append]; rfl
theorem fewW_end (l : List PartD) (k : Nat) (h : k ≤ l.length) (h2 : k ≤ 8) (hk : ¬ (k < l.length ∧ k < 8)) : fewW (l.take k) = fewW l := by
  unfold fewW
  rw [List.take_take, Nat.min_eq_right h2]
  by_cases h3 : k < l.length
  · rw [show k = 8 by omega]
  · rw [show k = l.length by omega, List.take_of_length_le (Nat.le_refl _), List.take_of_length_le (by omega)]
theorem fewW_at (l : List PartD) (k : Nat) (h : k ≤ l.length) (h2 : k ≤ 8) : (fewW (l.take k)).length = k := by
  simp [fewW]; omega
/-- what the call's argument must be: lengths that a machine holds -/
def OkP (x : PartD) : Prop := x.l.length ≤ maxLen ∧ ∀ y ∈ x.l, OkO y
set_option maxRecDepth 100000 in
set_option maxHeartbeats 4000000 in
theorem few11_any (l : List PartD) (hl : l.length ≤ maxLen) (hi : ∀ x ∈ l, OkP x) (v : Value) (w : World) (hv : PartsV w v l) :
    Calls Tryz.prog 5 #[v] w fun e w' => ∃ v', e = .returned v' ∧ PartsO w.heap.size 46 40 9 w' v' (fewW l) ∧ Below w.heap.size w w' := by
  obtain ⟨a, cap, rfl, hc⟩ := hv.at
  obtain ⟨i0, hI, hz0, hz1, hz2⟩ := info_parts infoP
  unfold maxLen at hl
  have hll : (l.length : Int) ≤ 9223372036854775807 := by omega
  clear hv
  go_enter Tryz.func5, Tryz.ntmps5
  go_wp2_with fail
  go_loopg [3, 4] 8 (fun gg s3 s4 wr => ∃ (kk : Nat) (vv : Value), kk ≤ l.length ∧ kk ≤ 8 ∧ 8 - kk ≤ gg ∧ s3 = vv ∧ s4 = .int .i64 kk ∧ Below w.heap.size w wr ∧ Hid (PartsO w.heap.size 46 40 9 wr vv (fewW (l.take kk))))
  case atStart => exact ⟨0, _, Nat.zero_le _, by omega, by omega, rfl, rfl, Below.refl _ _, PartsO.nil _ _ _ _ _⟩
  case round =>
    obtain ⟨kk, s3, hkk, hk40, hg, rfl, rfl, hB, hS⟩ := hrel
    by_cases hlt : kk < l.length
    · have hltz : (kk : Int) < (l.length : Int) := by omega
      by_cases h40 : kk < 8
      · have h40z : (kk : Int) < 8 := by omega
        have hkz : (0 : Int) ≤ (kk : Int) := by omega
        obtain ⟨b, o, a2, cap2, rfl, -, hlv, k0, k1, k2, k3⟩ := hc kk hlt
        have hok := hi l[kk] (List.getElem_mem _)
        have hlen := fewW_at l kk hkk hk40
        have hlen1 := fewW_at l (kk + 1) (by omega) (by omega)
        have hsucc := fewW_succ l kk hlt h40
        obtain ⟨cs, hrow, hrows⟩ := hS.out
        rw [hlen] at hrow
        clear hc hS
        generalize l[kk] = x at *
        obtain ⟨lv, S, ig, pl⟩ := x
        obtain ⟨ok1, ok2⟩ := hok
        dsimp only at *
        have HF := fun W (h : KeepC wr W) => few10_any pl ok1 ok2 (.slice a2 pl.length cap2) W ((hlv.keep (KeepC.of_below hB)).keep h)
        clear hlv ok1 ok2
        go_wp2_with fail
        have SK : Hid (∀ u, Below w.heap.size w u → u.cell? ⟨b, o + kk * 4, none⟩ = some (.int .i64 lv) ∧ u.cell? ⟨b, o + kk * 4 + 1, none⟩ = some (.int .u64 S) ∧ u.cell? ⟨b, o + kk * 4 + 2, none⟩ = some (.int .i64 ig) ∧ u.cell? ⟨b, o + kk * 4 + 3, none⟩ = some (.slice a2 pl.length cap2)) := by
          show ∀ u, _
          intro u h
          have hk := (KeepC.of_below h).2
          exact ⟨hk _ _ _ k0, hk _ _ _ k1, hk _ _ _ k2, hk _ _ _ k3⟩
        refine wp_region_noPanic ?_
        refine wp_region_held_drew (S := (fun u => u.cell? ⟨b, o + kk * 4, none⟩ = some (.int .i64 lv) ∧ u.cell? ⟨b, o + kk * 4 + 1, none⟩ = some (.int .u64 S) ∧ u.cell? ⟨b, o + kk * 4 + 2, none⟩ = some (.int .i64 ig) ∧ u.cell? ⟨b, o + kk * 4 + 3, none⟩ = some (.slice a2 pl.length cap2))) (by kernel_rfl) ?_ (fun hHeld => ?_)
        · exact SK.out _ hB.drew
        refine wpAnyH_take (i := 0) (oi := _) (v := ?_) (nth_at rfl) (by kernel_rfl) (by kernel_rfl) (by kernel_rfl) (fun _ _ _ h => h) (Or.inl ⟨by rfl, ?_⟩) (by assumption) ?_
        rotate_left 1
        · intro w hSw; (try dsimp only at hSw); (go_simp <;> with_reducible rfl)
        try simp only [Act.put, List.setIfInBounds_toArray, List.set_cons_zero, List.set_cons_succ]
        refine wpAnyH_take (i := 1) (oi := _) (v := ?_) (nth_at rfl) (by kernel_rfl) (by kernel_rfl) (by kernel_rfl) (fun _ _ _ h => h) (Or.inl ⟨by rfl, ?_⟩) (by assumption) ?_
        rotate_left 1
        · intro w hSw; (try dsimp only at hSw); (go_simp <;> with_reducible rfl)
        try simp only [Act.put, List.setIfInBounds_toArray, List.set_cons_zero, List.set_cons_succ]
        refine wpAnyH_take (i := 2) (oi := _) (v := ?_) (nth_at rfl) (by kernel_rfl) (by kernel_rfl) (by kernel_rfl) (fun _ _ _ h => h) (Or.inl ⟨by rfl, ?_⟩) (by assumption) ?_
        rotate_left 1
        · intro w hSw; (try dsimp only at hSw); (go_simp <;> with_reducible rfl)
        try simp only [Act.put, List.setIfInBounds_toArray, List.set_cons_zero, List.set_cons_succ]
        refine wpAnyH_take (i := 3) (oi := _) (v := ?_) (nth_at rfl) (by kernel_rfl) (by kernel_rfl) (by kernel_rfl) (fun _ _ _ h => h) (Or.inl ⟨by rfl, ?_⟩) (by assumption) ?_
        rotate_left 1
        · intro w hSw; (try dsimp only at hSw); (go_simp <;> with_reducible rfl)
        try simp only [Act.put, List.setIfInBounds_toArray, List.set_cons_zero, List.set_cons_succ]
        refine wpAnyH_take (i := 4) (oi := _) (v := ?_) (nth_at rfl) (by kernel_rfl) (by kernel_rfl) (by kernel_rfl) (fun _ _ _ h => h) (Or.inl ⟨by rfl, ?_⟩) (by assumption) ?_
        rotate_left 1
        · intro w hSw; (try dsimp only at hSw); (go_simp <;> with_reducible rfl)
        try simp only [Act.put, List.setIfInBounds_toArray, List.set_cons_zero, List.set_cons_succ]
        refine wpAnyH_take (i := 5) (oi := _) (v := ?_) (nth_at rfl) (by kernel_rfl) (by kernel_rfl) (by kernel_rfl) (fun _ _ _ h => h) (Or.inl ⟨by rfl, ?_⟩) (by assumption) ?_
        rotate_left 1
        · intro w hSw; (try dsimp only at hSw); (go_simp <;> with_reducible rfl)
        try simp only [Act.put, List.setIfInBounds_toArray, List.set_cons_zero, List.set_cons_succ]
        refine wpAnyH_take (i := 6) (oi := _) (v := ?_) (nth_at rfl) (by kernel_rfl) (by kernel_rfl) (by kernel_rfl) (fun _ _ _ h => h) (Or.inl ⟨by rfl, ?_⟩) (by assumption) ?_
        rotate_left 1
        · intro w hSw; (try dsimp only at hSw); (go_simp <;> with_reducible rfl)
        try simp only [Act.put, List.setIfInBounds_toArray, List.set_cons_zero, List.set_cons_succ]
        refine wpAnyH_take (i := 7) (oi := _) (v := ?_) (nth_at rfl) (by kernel_rfl) (by kernel_rfl) (by kernel_rfl) (fun _ _ _ h => h) (Or.inl ⟨by rfl, ?_⟩) (by assumption) ?_
        rotate_left 1
        · intro w hSw; (try dsimp only at hSw); (go_simp <;> with_reducible rfl)
        try simp only [Act.put, List.setIfInBounds_toArray, List.set_cons_zero, List.set_cons_succ]
        refine wpAnyH_take (i := 8) (oi := _) (v := ?_) (nth_at rfl) (by kernel_rfl) (by kernel_rfl) (by kernel_rfl) (fun _ _ _ h => h) (Or.inl ⟨by rfl, ?_⟩) (by assumption) ?_
        rotate_left 1
        · intro w hSw; (try dsimp only at hSw); (go_simp <;> with_reducible rfl)
        try simp only [Act.put, List.setIfInBounds_toArray, List.set_cons_zero, List.set_cons_succ]
        refine wpAnyH_take (i := 9) (oi := _) (v := ?_) (nth_at rfl) (by kernel_rfl) (by kernel_rfl) (by kernel_rfl) (fun _ _ _ h => h) (Or.inl ⟨by rfl, ?_⟩) (by assumption) ?_
        rotate_left 1
        · intro w hSw; (try dsimp only at hSw); (go_simp <;> with_reducible rfl)
        try simp only [Act.put, List.setIfInBounds_toArray, List.set_cons_zero, List.set_cons_succ]
        refine wpAnyH_take (i := 10) (oi := _) (v := ?_) (nth_at rfl) (by kernel_rfl) (by kernel_rfl) (by kernel_rfl) (fun _ _ _ h => h) (Or.inl ⟨by rfl, ?_⟩) (by assumption) ?_
        rotate_left 1
        · intro w hSw; (try dsimp only at hSw); (go_simp <;> with_reducible rfl)
        try simp only [Act.put, List.setIfInBounds_toArray, List.set_cons_zero, List.set_cons_succ]
        refine wpAnyH_ready (rs := [11]) (by kernel_rfl) (by simp) ?_
        refine AllReadyH.cons (o := _) (nth_at rfl) (fun K hK => ?_) AllReadyH.nil
        go_simp
        with_reducible refine (HF _ (KeepC.of_below (Below.refl wr.heap.size wr).drew)).mono ?_
        rintro e w2 ⟨v2, rfl, ho3, hb2⟩
        obtain ⟨a3, c3, rfl, -⟩ := ho3.view.at
        have hc2 := (Below.refl wr.heap.size wr).drew.trans hb2
        have B2 := hB.trans (hc2.mono hB.size)
        try dsimp only
        refine hK.out _ _ ?_ (fun hHeld => ?_)
        · exact SK.out _ B2
        clear hK K
        try simp only [Act.put, List.setIfInBounds_toArray, List.set_cons_zero, List.set_cons_succ]
        refine wpAnyH_take (i := 12) (oi := _) (v := ?_) (nth_at rfl) (by kernel_rfl) (by kernel_rfl) (by kernel_rfl) (fun _ _ _ h => h) (Or.inl ⟨by rfl, ?_⟩) (by assumption) ?_
        rotate_left 1
        · intro w hSw; (try dsimp only at hSw); (go_simp <;> with_reducible rfl)
        try simp only [Act.put, List.setIfInBounds_toArray, List.set_cons_zero, List.set_cons_succ]
        refine wpAnyH_ready (rs := [13]) (by kernel_rfl) (by simp) ?_
        refine AllReadyH.cons (o := _) (nth_at rfl) (fun K hK => ?_) AllReadyH.nil
        go_simp
        obtain ⟨W3, hW3⟩ : ∃ W3, w2.alloc (.cells #[.int .i64 lv, .int .u64 S, .int .i64 ig, .slice a3 (fewS pl).length c3] 46) = W3 := ⟨_, rfl⟩
        rw [hW3]
        have n3 : Blk W3 w2.heap.size #[.int .i64 lv, .int .u64 S, .int .i64 ig, .slice a3 (fewS pl).length c3] 46 := by rw [← hW3]; exact Blk.new w2 _ _
        have b23 : Below w2.heap.size w2 W3 := by rw [← hW3]; exact (Below.refl _ w2).alloc (Nat.le_refl _) _
        have hc3 := hc2.trans (b23.mono hc2.size)
        have B3 := B2.trans (b23.mono B2.size)
        have hrow3 := hrow.kept (grown_of_below hc3 none) (by cases hvb : (Value.ownBlock _ : Option Nat) <;> simp)
        refine hK.out _ _ ?_ (fun hHeld => ?_)
        · exact SK.out _ B3
        clear hK K
        try simp only [Act.put, List.setIfInBounds_toArray, List.set_cons_zero, List.set_cons_succ]
        refine wpAnyH_ready (rs := [14]) (by kernel_rfl) (by simp) ?_
        refine AllReadyH.cons (o := _) (nth_at rfl) (fun K hK => ?_) AllReadyH.nil
        rw [if_pos (by rfl)]
        refine wp_append_own _ _ _ _ rfl w.heap.size 46 i0 (.agg #[.int .i64 0, .int .u64 0, .int .i64 0, .slice none 0 0]) 4 48 Tryz.underlying22 hI hz0 hz1 hz2 rfl (by decide) _ _ _ rfl hrow3 ⟨w2.heap.size, 0, none⟩ 1 1 (Array.toList #[.int .i64 lv, .int .u64 S, .int .i64 ig, .slice a3 (fewS pl).length c3]) rfl rfl (blk_news n3) (by simp [Value.oneCell']) (by unfold maxLen; omega) (by omega) B3.size ?_
        intro v4 w4 hown hgrow _
        have B4 : Below w.heap.size w w4 := B3.grown hgrow B3.size (fun k hk => (hrow3.lt k hk).1)
        refine hK.out _ _ ?_ (fun hHeld => ?_)
        · exact SK.out _ B4
        clear hK K
        try simp only [Act.put, List.setIfInBounds_toArray, List.set_cons_zero, List.set_cons_succ]
        refine wpAnyH_take (i := 15) (oi := _) (v := ?_) (nth_at rfl) (by kernel_rfl) (by kernel_rfl) (by kernel_rfl) (fun _ _ _ h => h) (Or.inl ⟨by rfl, ?_⟩) (by assumption) ?_
        rotate_left 1
        · intro w hSw; (try dsimp only at hSw); (go_simp <;> with_reducible rfl)
        try simp only [Act.put, List.setIfInBounds_toArray, List.set_cons_zero, List.set_cons_succ]
        refine wpAnyH_done (by kernel_rfl) ?_ _
        refine NoPanic.normal ?_
        have gA := grownBy_t (grown_of_below hc3 _) hgrow
        have rT := RowT.of_row hrow [40, 9] (by decide)
        have rT3 := RowT.of_row hrow3 [40, 9] (by decide)
        have hO : PartsO w.heap.size 46 40 9 w4 v4 (fewW (l.take (kk + 1))) := by
          refine ⟨_, by rw [hlen1]; exact hown, ?_⟩
          rw [hsucc]
          refine (hrows.mono fun x _ c hcx => hcx.kept gA rT).append (Rows.one ⟨_, rfl, ?_⟩)
          exact ((ho3.base (show w.heap.size ≤ wr.drew.heap.size from hB.size)).kept (grown_of_below b23 none) (RowT.none _ _)).kept hgrow rT3
        have HO := Lib.hid hO
        clear hO gA rT rT3 hrows ho3 hown hrow hrow3 n3 hgrow HF SK k0 k1 k2 k3
        go_wp2_with fail
        go_roundg (8 - (kk + 1))
        case measure => omega
        case rel => exact ⟨kk + 1, _, by omega, by omega, by omega, rfl, by go_num, B4, HO.out⟩
      · have h40z : ¬ (kk : Int) < 8 := by omega
        have he := fewW_end l kk hkk hk40 (by omega)
        rw [he] at hS
        clear hc
        go_wp2_with fail
        go_ret
        exact ⟨_, rfl, hS.out, hB⟩
    · have hltz : ¬ (kk : Int) < (l.length : Int) := by omega
      have he := fewW_end l kk hkk hk40 (by omega)
      rw [he] at hS
      clear hc
      go_wp2_with fail
      go_ret
      exact ⟨_, rfl, hS.out, hB⟩
end Go.Proofs.YtmjmmcdhpognaaaGreatDoor
/- Walks of the laws' own functions: shown. -/
namespace Go.Proofs.YtmjmmcdhpognaaaGreatDoor
open Go.RowKit Go.Shelf
attribute [local go_sem] Oper.semAt_some
abbrev botL : LblD := ⟨0, 0, 7⟩
abbrev shO : ObjD := ⟨[97], 1, [], 0, []⟩
abbrev shW : List PartD := [⟨0, 0, 7, [shO]⟩]
set_option maxRecDepth 100000 in
theorem bottom_any (w : World) : Calls Tryz.prog 18 #[] w fun e w' => e = .returned (lblV botL) ∧ Below w.heap.size w w' := by
  have b0 := Blk.new w #[.int .i64 0, .int .u64 0, .int .i64 7] 25
  have hE := (Below.refl _ w).alloc (Nat.le_refl _) (.cells #[.int .i64 0, .int .u64 0, .int .i64 7] 25)
  have q0 := b0.cell 0
  have q1 := b0.cell 1
  have q2 := b0.cell 2
  clear b0
  go_enter Tryz.func18, Tryz.ntmps18
  go_wp2_with fail
  exact bodyPost_ret (v := .agg #[.int .i64 0, .int .u64 0, .int .i64 7]) (by simp [results, Tryz.results18, go_sem, q0, q1, q2]) rfl ⟨rfl, hE⟩
theorem sh_fit : FitsS [shO] := ⟨by decide, fun x hx => by
  rcases List.mem_singleton.1 hx with rfl
  exact ⟨by decide, by decide, by decide, fun s hs => by cases hs⟩⟩
theorem sh_fitW : FitsW shW := ⟨by decide, fun x hx => by rcases List.mem_singleton.1 hx with rfl; exact sh_fit⟩
theorem nil_fitW : FitsW [] := ⟨by decide, fun x hx => by cases hx⟩
theorem nil_fitS : FitsS [] := ⟨by decide, fun x hx => by cases hx⟩
theorem sh1 : setE [] botL [shO] = 0 := by decide +kernel
theorem sh1w : setW [] botL [shO] = shW := by unfold setW; rw [sh1]; rfl
theorem sh2 : setE shW botL [] = 0 := by decide +kernel
theorem sh2w : setW shW botL [] = [] := by unfold setW; rw [sh2]; rfl
theorem sh3 : setE [] ⟨16, 0, 0⟩ [shO] = 20 := by decide +kernel
theorem sh3w : setW [] ⟨16, 0, 0⟩ [shO] = [] := by unfold setW; rw [sh3]; rfl
theorem sh4 : worldB shW = true := by decide +kernel
theorem sh5 : getW shW botL = [shO] := by unfold getW; rw [sh4]; rfl
theorem sh6 : withinB shW 11 = true := by decide +kernel
theorem sh7 : withinB shW 10 = false := by decide +kernel
set_option maxRecDepth 100000 in
set_option maxHeartbeats 4000000 in
theorem shown_any (ea : Addr) (w : World) (hge : w.cell? ⟨1, 0, none⟩ = some (errV8 ea)) (het : ErrT w) :
    Calls Tryz.prog 4 #[] w fun e w' => e = .returned (.bool true) ∧ Below w.heap.size w w' := by
  have H1 := fun W (h : KeepC w W) ov (hv : ObjsV W ov [shO]) => Set_any [] nil_fitW [shO] sh_fit (.slice none 0 0) ov botL ea W (h.2 _ _ _ hge) (h.2 _ _ _ het) (PartsV.nil W) hv
  have H2 := fun W (h : KeepC w W) v (hv : PartsV W v shW) => Set_any shW sh_fitW [] nil_fitS v (.slice none 0 0) botL ea W (h.2 _ _ _ hge) (h.2 _ _ _ het) hv (ObjsV.nil W)
  have H3 := fun W (h : KeepC w W) ov (hv : ObjsV W ov [shO]) => Set_any [] nil_fitW [shO] sh_fit (.slice none 0 0) ov ⟨16, 0, 0⟩ ea W (h.2 _ _ _ hge) (h.2 _ _ _ het) (PartsV.nil W) hv
  have H4 := fun W (h : KeepC w W) v (hv : PartsV W v shW) => Get_any shW sh_fitW v botL ea W (h.2 _ _ _ hge) hv
  have H5 := fun W (h : KeepC w W) v (hv : PartsV W v shW) => Within_any shW sh_fitW v 11 ea W (h.2 _ _ _ hge) hv
  have H6 := fun W (h : KeepC w W) v (hv : PartsV W v shW) => Within_any shW sh_fitW v 10 ea W (h.2 _ _ _ hge) hv
  rw [sh1, sh1w] at H1
  rw [sh2, sh2w] at H2
  rw [sh3, sh3w] at H3
  rw [sh5] at H4
  rw [sh6] at H5
  rw [sh7] at H6
  have HB := fun W => bottom_any W
  clear hge het
  have b0 := Blk.new w #[.string ⟨#[97]⟩, .int .i64 1, .string ⟨#[]⟩, .int .i64 0, .slice none 0 0] 40
  have B0 := (Below.refl _ w).alloc (Nat.le_refl _) (.cells #[.string ⟨#[97]⟩, .int .i64 1, .string ⟨#[]⟩, .int .i64 0, .slice none 0 0] 40)
  have o0 : ObjsV (w.alloc (.cells #[.string ⟨#[97]⟩, .int .i64 1, .string ⟨#[]⟩, .int .i64 0, .slice none 0 0] 40)) (.slice (some ⟨w.heap.size, 0, none⟩) 1 1) [shO] :=
    ⟨_, SlR.of_row (World.ownsRow_lit (base := 0) w #[.string ⟨#[97]⟩, .int .i64 1, .string ⟨#[]⟩, .int .i64 0, .slice none 0 0] 1 (Nat.zero_le _) (by decide) rfl), Rows.one ⟨_, rfl, SlR.nil 1 _⟩⟩
  clear b0
  go_enter Tryz.func4, Tryz.ntmps4
  go_wp2_with fail
  generalize (w.alloc (.cells #[.string ⟨#[97]⟩, .int .i64 1, .string ⟨#[]⟩, .int .i64 0, .slice none 0 0] 40)) = W0 at *
  with_reducible refine (HB _).mono ?_
  rintro e w1 ⟨rfl, hb1⟩
  have B1 := B0.trans (hb1.mono B0.size)
  have o1 := o0.keep (KeepC.of_below hb1)
  go_wp2_with fail
  with_reducible refine (H1 _ (KeepC.of_below B1) _ o1).mono ?_
  rintro e w2 ⟨v2, rfl, p2, hb2⟩
  have B2 := B1.trans (hb2.mono B1.size)
  have o2 := o1.keep (KeepC.of_below hb2)
  have p2' := p2.view
  clear p2 H1
  obtain ⟨a2, c2, rfl, -⟩ := p2'.at
  change PartsV w2 (.slice a2 1 c2) shW at p2'
  go_wp2_with fail
  with_reducible refine (HB _).mono ?_
  rintro e w3 ⟨rfl, hb3⟩
  have B3 := B2.trans (hb3.mono B2.size)
  have p3 := p2'.keep (KeepC.of_below hb3)
  have o3 := o2.keep (KeepC.of_below hb3)
  go_wp2_with fail
  with_reducible refine (H2 _ (KeepC.of_below B3) _ p3).mono ?_
  rintro e w4 ⟨v4, rfl, p4, hb4⟩
  have B4 := B3.trans (hb4.mono B3.size)
  have o4 := o3.keep (KeepC.of_below hb4)
  have q4 := p3.keep (KeepC.of_below hb4)
  obtain ⟨a4, c4, rfl, -⟩ := p4.view.at
  clear H2 p4
  go_wp2_with fail
  refine (H3 _ (KeepC.of_below B4) _ o4).mono ?_
  rintro e w5 ⟨v5, rfl, p5, hb5⟩
  have B5 := B4.trans (hb5.mono B4.size)
  have q5 := q4.keep (KeepC.of_below hb5)
  clear H3 p5
  go_wp2_with fail
  with_reducible refine (HB _).mono ?_
  rintro e w6 ⟨rfl, hb6⟩
  have B6 := B5.trans (hb6.mono B5.size)
  have q6 := q5.keep (KeepC.of_below hb6)
  go_wp2_with fail
  with_reducible refine (H4 _ (KeepC.of_below B6) _ q6).mono ?_
  rintro e w7 ⟨v7, rfl, p7, hb7⟩
  have B7 := B6.trans (hb7.mono B6.size)
  have q7 := q6.keep (KeepC.of_below hb7)
  obtain ⟨a7, c7, rfl, -⟩ := p7.view.at
  clear H4 p7
  go_wp2_with fail
  with_reducible refine (H5 _ (KeepC.of_below B7) _ q7).mono ?_
  rintro e w8 ⟨rfl, hb8⟩
  have B8 := B7.trans (hb8.mono B7.size)
  have q8 := q7.keep (KeepC.of_below hb8)
  go_wp2_with fail
  with_reducible refine (H6 _ (KeepC.of_below B8) _ q8).mono ?_
  rintro e w9 ⟨rfl, hb9⟩
  go_wp2_with fail
  go_ret
  exact ⟨rfl, B8.trans (hb9.mono B8.size)⟩
end Go.Proofs.YtmjmmcdhpognaaaGreatDoor
/- What the laws' functions hand on fits; the end of a comparison of labels. -/
namespace Go.Proofs.YtmjmmcdhpognaaaGreatDoor
open Go.RowKit Go.Shelf
theorem fewI_fits (l : List (List UInt8)) : FitsL (fewI l) := by
  constructor
  · simp [fewI]; omega
  · intro s hs
    unfold fewI at hs
    obtain ⟨t, _, rfl⟩ := List.mem_map.1 hs
    unfold maxLen
    simp; omega
theorem fewO_fits (x : ObjD) : FitsO (fewO x) := ⟨by unfold maxLen; simp [fewO]; omega, by unfold maxLen; simp [fewO]; omega, fewI_fits _⟩
theorem fewS_fits (l : List ObjD) : FitsS (fewS l) := ⟨Nat.le_trans (fewS_len l) (by decide), fun x hx => by
  unfold fewS at hx
  obtain ⟨t, _, rfl⟩ := List.mem_map.1 hx
  exact fewO_fits t⟩
/-- parts, at most k -/
def FitsK (k : Nat) (l : List PartD) : Prop := l.length ≤ k ∧ ∀ x ∈ l, FitsS x.l
theorem FitsK.w {k : Nat} {l : List PartD} (h : FitsK k l) (hk : k ≤ 1000000 := by decide) : FitsW l := ⟨Nat.le_trans h.1 hk, h.2⟩
theorem fewW_fits (l : List PartD) : FitsK 8 (fewW l) := ⟨fewW_len l, fun x hx => by
  unfold fewW at hx
  obtain ⟨t, _, rfl⟩ := List.mem_map.1 hx
  exact fewS_fits _⟩
theorem put_len (w : List PartD) (a : LblD) (l : List ObjD) : (putW w a l).length ≤ w.length + 1 := by
  rw [putW_eq, List.length_append, List.length_append]
  have h1 : (midP a l).length ≤ 1 := by unfold midP; split <;> simp
  have h2 : (w.filter (fun p => decide (lblC p.lab a < 0))).length + (w.filter (fun p => decide (0 < lblC p.lab a))).length ≤ w.length := by
    induction w with
    | nil => simp
    | cons p w ih =>
      by_cases h1 : lblC p.lab a < 0
      · rw [List.filter_cons_of_pos (by simpa using h1), List.filter_cons_of_neg (by simp; omega)]
        simp; omega
      · rw [List.filter_cons_of_neg (by simpa using h1)]
        have := List.length_filter_le (fun p : PartD => decide (0 < lblC p.lab a)) [p]
        by_cases h2 : 0 < lblC p.lab a
        · rw [List.filter_cons_of_pos (by simpa using h2)]; simp; omega
        · rw [List.filter_cons_of_neg (by simpa using h2)]; simp; omega
  omega
theorem set_fits {k : Nat} {w : List PartD} {a : LblD} {l : List ObjD} (hw : FitsK k w) (hl : FitsS l) : FitsK (k + 1) (setW w a l) := by
  unfold setW
  split
  · refine ⟨Nat.le_trans (put_len w a l) (by have := hw.1; omega), fun x hx => ?_⟩
    rcases put_mem.1 hx with ⟨h, _⟩ | h
    · exact hw.2 x h
    · rw [(midP_mem h).1]; exact hl
  · exact ⟨Nat.zero_le _, fun x hx => by cases hx⟩
theorem get_fits {k : Nat} {w : List PartD} (a : LblD) (hw : FitsK k w) : FitsS (getW w a) := by
  unfold getW
  split
  · split
    · rename_i p hf; exact hw.2 p (List.mem_of_find?_eq_some hf)
    · exact nil_fitS
  · exact nil_fitS
/-- how two labels' parts compare, for the walk: the same, or where they first differ -/
theorem lbl_cases (l1 : Int) (S1 : Nat) (i1 l2 : Int) (S2 : Nat) (i2 : Int) : ((⟨l1, S1, i1⟩ : LblD) = ⟨l2, S2, i2⟩ ∧ l1 = l2 ∧ S1 = S2 ∧ i1 = i2) ∨ ((⟨l1, S1, i1⟩ : LblD) ≠ ⟨l2, S2, i2⟩ ∧
    ((l1 == l2) = false ∨ ((l1 == l2) = true ∧ ((S1 : Int) == (S2 : Int)) = false) ∨ ((l1 == l2) = true ∧ ((S1 : Int) == (S2 : Int)) = true ∧ (i1 == i2) = false))) := by
  by_cases h1 : l1 = l2
  · by_cases h2 : S1 = S2
    · by_cases h3 : i1 = i2
      · left; subst h1 h2 h3; exact ⟨rfl, rfl, rfl, rfl⟩
      · right; exact ⟨fun e => h3 (by injection e), .inr (.inr ⟨by simpa using h1, by rw [beq_iff_eq]; omega, by simpa using h3⟩)⟩
    · right; exact ⟨fun e => h2 (by injection e), .inr (.inl ⟨by simpa using h1, by rw [beq_eq_false_iff_ne]; omega⟩)⟩
  · right; exact ⟨fun e => h1 (by injection e), .inl (by simpa using h1)⟩
end Go.Proofs.YtmjmmcdhpognaaaGreatDoor
/- A law's row: its post, where the call's old heap stays and the result is true. On no program. -/
namespace Go.Proofs.YtmjmmcdhpognaaaGreatDoor
open Go.RowKit Go.ChangeShapes Go.WideShapes Go.ChangeAt
theorem trodAll_stays {H : Type} {enc : TypeId × Value → H} {P : Program} (hl : laidOutB P = true) {W W' : World} {sp : Nat → Bool} :
    ∀ {ts : List TypeId} {vs : List Value} {ds : List (DataW H)} {ps : List MemPlace}, (∀ t ∈ ts, P.readableRec t = true ∧ t < P.types.size) → DataW.TrodAll enc P W 0 (fun _ => true) true ts vs ds ps → (∀ p ∈ ps, W.sameAt W' p) → (∀ p ∈ ps, sp p.block = true) →
      DataW.TrodAll enc P W' 0 sp true ts vs ds ps
  | [], vs, ds, ps, _, h, _, _ => by
    obtain ⟨rfl, rfl, rfl⟩ := trodAll_nil h
    exact trodAll_mk0
  | t :: ts, vs, ds, ps, ht, h, hs, hp => by
    obtain ⟨v, vs1, d, ds1, a, b, rfl, rfl, rfl, h1, h2⟩ := trodAll_cons h
    exact trodAll_cons_mk (WideElems.Trod_stays hl (ht t (by simp)).1 (ht t (by simp)).2 h1 (fun p m => hs p (by simp [m])) (fun p m => hp p (by simp [m])))
      (trodAll_stays hl (fun u m => ht u (by simp [m])) h2 (fun p m => hs p (by simp [m])) (fun p m => hp p (by simp [m])))

/-- THE POST OF A LAW: the old heap stays, true comes back, each argument reads as it did. -/
theorem post_true {H : Type} {enc : TypeId × Value → H} {P : Program} {f : Func} {s : ChangeSpec} {apart fresh handsOn again : Bool} {W W' : World} {args : Array Value} {ds gs : List (DataW H)} {before : List MemPlace} {t : TypeId}
    (hW : DataW.Whole enc P f.params.toList s.vars apart W args.toList ds gs before) (hb : Below W.heap.size W W') (hv : s.vars = []) (hs : s.fn H (ds ++ gs) = { results := [.lit (.bool true)], args := ds })
    (hrt : f.resultTypes = #[t]) (ht : P.underlying t = some .bool) (hl : laidOutB P = true) (hrb : (f.params.toList.all fun t => P.readableRec t && decide (t < P.types.size)) = true) :
    s.post enc P f apart fresh handsOn again W args (.bool true) W' := by
  have hr : ∀ t ∈ f.params.toList, P.readableRec t = true ∧ t < P.types.size := fun t ht => by simpa using List.all_eq_true.1 hrb t ht
  have hlt := fun p hp => hW.lt p hp
  have hW' := hW
  obtain ⟨p, q, hA, hV, rfl, hz, hn⟩ := hW
  rw [hv] at hV
  obtain ⟨rfl, rfl⟩ := trodVars_none hV
  have hsame : ∀ x ∈ p, W.sameAt W' x := fun x hx => hb.same (hlt x (by simp [hx]))
  have hsp : ∀ x ∈ p, (fun b => decide (b < W.heap.size)) x.block = true := fun x hx => by simpa using hlt x (by simp [hx])
  have hres : ∀ (b : Nat) (sp : Nat → Bool) (hd : Bool), DataW.TrodAll enc P W' b sp hd f.resultTypes.toList ((Value.bool true).resultList f.resultTypes.size) (s.fn H (ds ++ [])).results [] := by
    intro b sp hd
    rw [hs, hrt]
    exact trodAll_cons_mk (shut_bool ht _) trodAll_mk0
  have hargs : ∀ sp : Nat → Bool, (∀ x ∈ p, sp x.block = true) → DataW.TrodAll enc P W' 0 sp true f.params.toList args.toList (s.fn H (ds ++ [])).args p := by
    intro sp h
    rw [hs]
    exact trodAll_stays hl hr hA hsame h
  have hvars : ∀ sp : Nat → Bool, DataW.TrodVars enc P W' sp s.vars (s.fn H (ds ++ [])).vars [] := by
    intro sp; rw [hv, hs]; rfl
  refine ⟨ds, [], _, [], p, [], hW', hres _ _ _, hargs _ hsp, hvars _, hb.frame _, fun _ => ?_⟩
  refine ⟨ok_one hrt rfl (okWide_bool_mk ht _), _, _, ([] ++ p) ++ [], ⟨[] ++ p, [], trodAll_append (hargs _ (fun _ _ => rfl)) (hres _ _ _), hvars _, rfl, ?_, ?_⟩, ?_⟩
  · intro b off hp
    have hp' : MemPlace.cell b off ∈ p ++ [] := by simpa using hp
    exact (hb.frozen (p := ⟨b, off, none⟩) (hlt _ hp')).trans (hz b off hp')
  · intro ha
    simpa using hn ha
  · intro x hx _
    simpa using hx
end Go.Proofs.YtmjmmcdhpognaaaGreatDoor
/- The seat's closed facts on its laid variables, a start that fits, and the arguments opened. -/
namespace Go.Proofs.YtmjmmcdhpognaaaGreatDoor
open Go.RowKit Go.ChangeShapes Go.WideShapes Go.ChangeAt Go.Deep
theorem own : ownKnob Tryz.prog.godebug = none := by kernel_rfl
theorem gLaidOut : laidOutB Tryz.prog = true := by kernel_rfl
abbrev lE : String × DataW Unit := ("errors.errorType", Rows.laid_errors_errorType)
abbrev lA : String × DataW Unit := ("plimsoll/ring.errArg", Rows.laid_plimsoll_ring_errArg)
theorem gE : Tryz.prog.globalNamed "plimsoll/ring.errArg" = some 1 := by kernel_rfl
theorem gEType : (Tryz.prog.globals[1]?).map (·.type) = some 73 := by kernel_rfl
theorem gECells : Tryz.prog.cellsOf 168 = 1 := by kernel_rfl
theorem gSCells : Tryz.prog.cellsOf 9 = 1 := by kernel_rfl
theorem gStar : "*" ++ "errors.errorString" = "*errors.errorString" := by decide
theorem gRow (u : TypeId) (h : Tryz.prog.typeName? 3 u = some "*errors.errorString") : u = 147 :=
  typeName_ptr_named (nm := "errors.errorString") (by rw [gStar]; kernel_rfl) (by kernel_rfl) (by decide) u (by rw [gStar]; exact h)
theorem gET : Tryz.prog.globalNamed "errors.errorType" = some 0 := by kernel_rfl
theorem gRT : (Tryz.prog.cutTypes.find? (·.1 == "internal/reflectlite.rtype")).map (·.2) = some 132 := by kernel_rfl
theorem gSize : Tryz.prog.types.size = 180 := by kernel_rfl
theorem gOne : ((List.range 180).filter fun t => Tryz.prog.rowNamed t [101, 114, 114, 111, 114]) = [73] := by kernel_rfl
theorem gHandle : typeHandle Tryz.prog 73 = .pointer (some ⟨2, 73, none⟩) := by kernel_rfl
theorem laid_parts {W : World} (h : laidMetH Tryz.prog [lE, lA] W) : laidMet Tryz.prog [lA] W ∧ handlesMet Tryz.prog [lE] W := h
theorem sentinel {W : World} (h : laidMet Tryz.prog [lA] W) : ∃ ea, W.cell? ⟨1, 0, none⟩ = some (errV8 ea) := by
  obtain ⟨a0, s0, hv0, -, -, -⟩ := laid_sentinel h gE gEType Tryz.underlying73 gRow Tryz.underlying147 Tryz.underlying168 rfl rfl Tryz.underlying9 gECells gSCells
  exact ⟨a0, by simpa using World.var?_cell gE hv0 0⟩
theorem errT_of {W : World} (h : handlesMet Tryz.prog [lE] W) : ErrT W := by
  obtain ⟨name, u, ty, e1, e2, e3, e4, e5⟩ := h _ (List.mem_singleton.2 rfl)
  have en : name = [101, 114, 114, 111, 114] := (Option.some.inj e1).symm
  subst en
  obtain rfl := Option.some.inj (gRT.symm.trans e2)
  have hm : ty ∈ (List.range 180).filter fun t => Tryz.prog.rowNamed t [101, 114, 114, 111, 114] := List.mem_filter.2 ⟨List.mem_range.2 (by rw [← gSize]; exact e3), e4⟩
  rw [gOne] at hm
  obtain rfl := List.mem_singleton.1 hm
  rw [gHandle] at e5
  simpa using World.var?_cell gET e5 0
theorem door_met (os : Os) (args : Array Value) : laidMetH Tryz.prog [lE, lA] ((World.doorLaid Tryz.prog 100 os).forCall (fun _ _ => 0) ⟨#[], args, []⟩).memory :=
  laidMetH_of_parts3 (fuel := 8) (laidMet_of_run' 8 (by kernel_rfl) (by kernel_rfl)) (by kernel_rfl) (by kernel_rfl)
theorem wf_u64 {n : Int} (h : (Lit.int .u64 n).wf = true) : ∃ S : Nat, n = S ∧ S < 18446744073709551616 := by
  simp [Lit.wf, IntKind.min, IntKind.max, IntKind.bits, IntKind.signed] at h
  exact ⟨n.toNat, by omega, by omega⟩
theorem wf_i64 {n : Int} (h : (Lit.int .i64 n).wf = true) : -9223372036854775808 ≤ n ∧ n ≤ 9223372036854775807 := by
  simp [Lit.wf, IntKind.min, IntKind.max, IntKind.bits, IntKind.signed] at h
  omega
theorem Rows.both {α : Type} {E : α → List Value → Prop} {Q : α → Prop} : ∀ {l : List α} {cs : List Value}, Rows (fun x c => E x c ∧ Q x) l cs → Rows E l cs ∧ ∀ x ∈ l, Q x
  | [], _, h => ⟨h, fun x hx => by cases hx⟩
  | x :: l, _, ⟨c, r, e, h1, h2⟩ => by
    obtain ⟨i1, i2⟩ := Rows.both h2
    refine ⟨⟨c, r, e, h1.1, i1⟩, fun y hy => ?_⟩
    rcases List.mem_cons.1 hy with rfl | hy
    · exact h1.2
    · exact i2 y hy
theorem cIntC : Tryz.prog.cellsOf 3 = 1 := by kernel_rfl
theorem cU64C : Tryz.prog.cellsOf 23 = 1 := by kernel_rfl
theorem cStrsC : Tryz.prog.cellsOf 36 = 1 := by kernel_rfl
theorem cObjsC : Tryz.prog.cellsOf 30 = 1 := by kernel_rfl
theorem cRingC : Tryz.prog.cellsOf 38 = 2 := by kernel_rfl
theorem cObjC : Tryz.prog.cellsOf 40 = 5 := by kernel_rfl
theorem cLblC : Tryz.prog.cellsOf 25 = 3 := by kernel_rfl
theorem cPartC : Tryz.prog.cellsOf 46 = 4 := by kernel_rfl
theorem len2 {cs : List Value} (h : cs.length = 2) : ∃ a b, cs = [a, b] := by match cs, h with | [a, b], _ => exact ⟨a, b, rfl⟩
theorem len3 {cs : List Value} (h : cs.length = 3) : ∃ a b c, cs = [a, b, c] := by match cs, h with | [a, b, c], _ => exact ⟨a, b, c, rfl⟩
theorem len4 {cs : List Value} (h : cs.length = 4) : ∃ a b c d, cs = [a, b, c, d] := by match cs, h with | [a, b, c, d], _ => exact ⟨a, b, c, d, rfl⟩
theorem len5 {cs : List Value} (h : cs.length = 5) : ∃ a b c d e, cs = [a, b, c, d, e] := by match cs, h with | [a, b, c, d, e], _ => exact ⟨a, b, c, d, e, rfl⟩
section
variable {H : Type} {enc : TypeId × Value → H} {w : World} {base : Nat} {spare : Nat → Bool} {held : Bool} {r : Reach} {b0 : Nat} {v : Value} {d : DataW H} {p : List MemPlace}
set_option maxRecDepth 100000 in
theorem strs_open2 {fuel : Nat} {cs : List Value} {x : DataW H × List MemPlace} (h : DataW.trod enc Tryz.prog w base spare held fuel 36 cs = some x) : ∃ v l, cs = [v] ∧ StrsV w v l ∧ l.length ≤ maxLen ∧ ∀ s ∈ l, s.length ≤ maxLen := by
  obtain ⟨v, l, css, rfl, h1, h2, h3⟩ := slR_open (α := List UInt8) (k := 1) (fun s c => c = [.string ⟨s.toArray⟩] ∧ s.length ≤ maxLen) Tryz.underlying36 gSCells (by omega) (fun n cs' y hy => by
    obtain ⟨s, rfl, hs⟩ := str_open Tryz.underlying9 hy; exact ⟨s, rfl, hs⟩) (fun x c hc => by rw [hc.1]; rfl) h
  obtain ⟨h4, h5⟩ := Rows.both h2
  refine ⟨v, l, rfl, ?_, h3, h5⟩
  have e : css = strsC l := by
    clear h1 h h3 h2 h5
    induction l generalizing css with
    | nil => exact h4
    | cons s l ih =>
      obtain ⟨c, r, e, e2, h3⟩ := h4
      rw [e, e2, ih r h3]; rfl
  rw [e] at h1
  exact h1
set_option maxRecDepth 100000 in
theorem obj_open {fuel : Nat} {cs : List Value} {x : DataW H × List MemPlace} (h : DataW.trod enc Tryz.prog w base spare held fuel 40 cs = some x) : ∃ o : ObjD, ObjC w o cs ∧ OkO o := by
  obtain ⟨y0, y1, y2, y3, n, -, hl, h0, h1, h2, h3⟩ := Go.Joins.trod_struct4 Tryz.underlying40 h
  rw [cObjC] at hl
  obtain ⟨c0, c1, c2, c3, c4, rfl⟩ := len5 hl
  simp only [gSCells, cIntC, cRingC] at h0 h1 h2 h3
  obtain ⟨z0, z1, m, -, hl2, k0, k1⟩ := trod_struct2 Tryz.underlying38 h3
  simp only [cIntC, cStrsC] at k0 k1
  simp at h0 h1 h2 k0 k1
  obtain ⟨s0, e0, w0⟩ := str_open Tryz.underlying9 h0
  obtain ⟨i1, e1, -⟩ := int_open Tryz.underlying3 h1
  obtain ⟨s2, e2, w2⟩ := str_open Tryz.underlying9 h2
  obtain ⟨i3, e3, -⟩ := int_open Tryz.underlying3 k0
  obtain ⟨v4, l4, e4, o4, w4, w5⟩ := strs_open2 k1
  cases e0; cases e1; cases e2; cases e3; cases e4
  exact ⟨⟨s0, i1, s2, i3, l4⟩, ⟨_, rfl, o4⟩, w0, w2, w4, w5⟩
set_option maxRecDepth 100000 in
theorem objs_open2 {fuel : Nat} {cs : List Value} {x : DataW H × List MemPlace} (h : DataW.trod enc Tryz.prog w base spare held fuel 30 cs = some x) : ∃ v l, cs = [v] ∧ ObjsV w v l ∧ l.length ≤ maxLen ∧ ∀ o ∈ l, OkO o := by
  obtain ⟨v, l, css, rfl, h1, h2, h3⟩ := slR_open (α := ObjD) (k := 5) (fun o c => ObjC w o c ∧ OkO o) Tryz.underlying30 cObjC (by omega) (fun n cs' y hy => obj_open hy) (fun x c hc => hc.1.len) h
  obtain ⟨h4, h5⟩ := Rows.both h2
  exact ⟨v, l, rfl, ⟨css, h1, h4⟩, h3, h5⟩
set_option maxRecDepth 100000 in
theorem part_open {fuel : Nat} {cs : List Value} {x : DataW H × List MemPlace} (h : DataW.trod enc Tryz.prog w base spare held fuel 46 cs = some x) : ∃ o : PartD, PartC w o cs ∧ OkP o := by
  obtain ⟨y0, y1, n, -, hl, h0, h1⟩ := trod_struct2 Tryz.underlying46 h
  rw [cPartC] at hl
  obtain ⟨c0, c1, c2, c3, rfl⟩ := len4 hl
  simp only [cLblC, cObjsC] at h0 h1
  obtain ⟨z0, z1, z2, m, -, hl2, k0, k1, k2⟩ := trod_struct3 Tryz.underlying25 h0
  simp only [cIntC, cU64C] at k0 k1 k2
  simp at h1 k0 k1 k2
  obtain ⟨i0, e0, -⟩ := int_open Tryz.underlying3 k0
  obtain ⟨i1, e1, w1⟩ := int_open Tryz.underlying23 k1
  obtain ⟨i2, e2, -⟩ := int_open Tryz.underlying3 k2
  obtain ⟨v3, l3, e3, o3, w3, w4⟩ := objs_open2 h1
  obtain ⟨S, rfl, -⟩ := wf_u64 w1
  cases e0; cases e1; cases e2; cases e3
  exact ⟨⟨i0, S, i2, l3⟩, ⟨_, rfl, o3⟩, w3, w4⟩
set_option maxRecDepth 100000 in
theorem open_parts (hv : Value.okWide Tryz.prog w r b0 22 v) (h : DataW.Trod enc Tryz.prog w base spare held 22 v d p) : ∃ l, PartsV w v l ∧ l.length ≤ maxLen ∧ ∀ x ∈ l, OkP x := by
  obtain ⟨a, n, c, rfl⟩ := okWide_slice Tryz.underlying22 hv
  obtain ⟨fuel, hf⟩ := h
  obtain ⟨v', l, css, e, h1, h2, h3⟩ := slR_open (α := PartD) (k := 4) (fun o c => PartC w o c ∧ OkP o) Tryz.underlying22 cPartC (by omega) (fun n cs' y hy => part_open hy) (fun x c hc => hc.1.len) hf
  cases e
  obtain ⟨h4, h5⟩ := Rows.both h2
  exact ⟨l, ⟨css, h1, h4⟩, h3, h5⟩
set_option maxRecDepth 100000 in
theorem open_objs (hv : Value.okWide Tryz.prog w r b0 30 v) (h : DataW.Trod enc Tryz.prog w base spare held 30 v d p) : ∃ l, ObjsV w v l ∧ l.length ≤ maxLen ∧ ∀ x ∈ l, OkO x := by
  obtain ⟨a, n, c, rfl⟩ := okWide_slice Tryz.underlying30 hv
  obtain ⟨fuel, hf⟩ := h
  obtain ⟨v', l, e, h1, h2, h3⟩ := objs_open2 hf
  cases e
  exact ⟨l, h1, h2, h3⟩
set_option maxRecDepth 100000 in
theorem open_label (hv : Value.okWide Tryz.prog w r b0 25 v) (h : DataW.Trod enc Tryz.prog w base spare held 25 v d p) :
    ∃ a : LblD, v = lblV a ∧ a.cs < 18446744073709551616 := by
  obtain ⟨c0, c1, c2, y0, y1, y2, n, rfl, -, -, hy0, hy1, hy2⟩ := Go.Joins.open_agg3 Tryz.underlying25 (by kernel_rfl) (by kernel_rfl) hv h
  obtain ⟨k, e0, -, wk⟩ := DataW.trod_int Tryz.underlying3 hy0
  obtain ⟨m, e1, -, wm⟩ := DataW.trod_int Tryz.underlying23 hy1
  obtain ⟨s, e2, -, ws⟩ := DataW.trod_int Tryz.underlying3 hy2
  simp at e0 e1 e2
  subst e0 e1 e2
  obtain ⟨S, rfl, hS⟩ := wf_u64 wm
  exact ⟨⟨k, S, s⟩, rfl, hS⟩
end
end Go.Proofs.YtmjmmcdhpognaaaGreatDoor
