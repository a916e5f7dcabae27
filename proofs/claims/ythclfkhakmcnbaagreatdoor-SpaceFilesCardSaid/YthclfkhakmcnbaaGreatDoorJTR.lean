/- Joined: RtA; SpcF; RefC -/
import Derived.Test.YthclfkhakmcnbaaGreatDoorJTG
import Derived.Test.YthclfkhakmcnbaaGreatDoorJTE
import Derived.Test.YthclfkhakmcnbaaGreatDoorJTD
import Derived.Test.YthclfkhakmcnbaaGreatDoorJTA
/- Walks of the reference, layer 10: Find; names. -/
namespace Go.Proofs.YthclfkhakmcnbaaGreatDoor
open Go.RowKit Go.Shelf
attribute [local go_sem] Oper.semAt_some
set_option maxRecDepth 100000 in
set_option maxHeartbeats 2000000 in
theorem FindR_any (l : List ObjD) (hm : l.length ≤ 1000000) (v : Value) (n : List UInt8) (w : World) (hv : ObjsV w v l) :
    Calls Tryz.prog 32 #[v, .string ⟨n.toArray⟩] w fun e w' => e = .returned (.int .i64 (findS l n)) ∧ w = w' := by
  obtain ⟨a, cap, rfl, hc⟩ := hv.at
  have hin := fun k (hk : k < l.length) (h : ∀ i (hi : i < l.length), i < k → l[i].name ≠ n) (hn : l[k].name = n) => idx_eq hk h hn
  have hout := fun (h : ∀ i (hi : i < l.length), i < l.length → l[i].name ≠ n) => idx_none h
  have hfin : ∀ k, idxS l n = k → findS l n = if k < l.length then (k : Int) else -1 := fun k hk => by unfold findS; rw [hk]
  have hinH := Lib.hid hin
  have houtH := Lib.hid hout
  have hfinH := Lib.hid hfin
  clear hin hout hfin hv
  generalize findS l n = R at *
  go_enter Tryz.func32, Tryz.ntmps32
  go_wp2_with fail
  go_loopg [5] l.length (fun gg s5 wr => ∃ kk : Nat, kk ≤ l.length ∧ l.length - kk ≤ gg ∧ s5 = .int .i64 kk ∧ w = wr ∧ Hid (∀ i (hi : i < l.length), i < kk → l[i].name ≠ n))
  case atStart => exact ⟨0, Nat.zero_le _, by omega, rfl, rfl, fun i _ h => absurd h (by omega)⟩
  case round =>
    obtain ⟨kk, hkk, hg, rfl, rfl, A⟩ := hrel
    by_cases hlt : kk < l.length
    · have hltz : (kk : Int) < (l.length : Int) := by omega
      have hkz : (0 : Int) ≤ (kk : Int) := by omega
      obtain ⟨b, o, lv, rfl, -, hlv, k0, -, -, -, -⟩ := hc kk hlt
      have HY : Hid (l[kk].name = n → R = (kk : Int)) := fun h => by rw [hfinH.out _ (hinH.out kk hlt A.out h), if_pos hlt]
      have HN : Hid (l[kk].name ≠ n → ∀ i (hi : i < l.length), i < kk + 1 → l[i].name ≠ n) := fun h i hi hik => by
        by_cases e : i = kk
        · subst e; exact h
        · exact A.out i hi (by omega)
      clear hc hlv A hinH houtH hfinH
      generalize l[kk].name = n1 at *
      by_cases e : n1 = n
      · have hr : R = (kk : Int) := HY.out e
        subst e hr
        clear HY HN
        go_wp2_with fail
        go_ret
        exact ⟨rfl, rfl⟩
      · have HN1 := Lib.hid (HN.out e)
        have hb : (n1 == n) = false := by simpa using e
        clear HY HN
        go_wp2_with fail
        go_roundg (l.length - (kk + 1))
        case measure => omega
        case rel => exact ⟨kk + 1, by omega, by omega, by go_num, by trivial, HN1.out⟩
    · have hltz : ¬ (kk : Int) < (l.length : Int) := by omega
      have hkl : kk = l.length := by omega
      subst hkl
      have hr : R = -1 := by rw [hfinH.out _ (houtH.out A.out), if_neg (by omega)]
      subst hr
      clear hc hinH houtH hfinH A
      go_wp2_with fail
      go_ret
      exact ⟨rfl, rfl⟩
def namesL (l : List ObjD) : List (List UInt8) := l.map (·.name)
theorem namesL_take (l : List ObjD) (k : Nat) (h : k < l.length) : namesL (l.take (k + 1)) = namesL (l.take k) ++ [l[k].name] := by
  unfold namesL; rw [List.take_succ_eq_append_getElem h, List.map_append]; rfl
set_option maxRecDepth 100000 in
set_option maxHeartbeats 4000000 in
theorem Names_any (l : List ObjD) (hl : l.length ≤ 1000000) (v : Value) (w : World) (hv : ObjsV w v l) :
    Calls Tryz.prog 34 #[v] w fun e w' => ∃ v', e = .returned v' ∧ StrsO w.heap.size 9 w' v' (namesL l) ∧ Below w.heap.size w w' := by
  obtain ⟨a, cap, rfl, hc⟩ := hv.at
  obtain ⟨i0, hI, hz0, hz1, hz2⟩ := info_parts infoS
  clear hv
  go_enter Tryz.func34, Tryz.ntmps34
  go_wp2_with fail
  go_loopg [3, 8] l.length (fun gg s3 s8 wr => ∃ (kk : Nat) (vv : Value), kk ≤ l.length ∧ l.length - kk ≤ gg ∧ s3 = vv ∧ s8 = .int .i64 kk ∧ Below w.heap.size w wr ∧ StrsO w.heap.size 9 wr vv (namesL (l.take kk)))
  case atStart => exact ⟨0, _, Nat.zero_le _, by omega, rfl, rfl, Below.refl _ _, StrsO.nil _ _ _⟩
  case round =>
    obtain ⟨kk, s3, hkk, hg, rfl, rfl, hB, hS⟩ := hrel
    by_cases hlt : kk < l.length
    · have hltz : (kk : Int) < (l.length : Int) := by omega
      have hkz : (0 : Int) ≤ (kk : Int) := by omega
      obtain ⟨b, o, lv, rfl, -, hlv, k0, k1, k2, k3, k4⟩ := hc kk hlt
      have K := (KeepC.of_below hB).2
      replace k0 := K _ _ _ k0
      replace k1 := K _ _ _ k1
      replace k2 := K _ _ _ k2
      replace k3 := K _ _ _ k3
      replace k4 := K _ _ _ k4
      obtain ⟨a4, c4, rfl, -⟩ := hlv.at
      have hlen : (namesL (l.take kk)).length = kk := by simp [namesL]; omega
      have hrow := hS
      unfold StrsO at hrow
      rw [hlen] at hrow
      have HX : Hid (∀ W v', W.ownsRow w.heap.size 9 1 v' (kk + 1) (strsC (namesL (l.take kk)) ++ [.string ⟨l[kk].name.toArray⟩]) → StrsO w.heap.size 9 W v' (namesL (l.take (kk + 1)))) := by
        show ∀ W, _
        intro W v' h
        unfold StrsO
        rw [namesL_take l kk hlt, List.length_append, hlen]
        have e : strsC (namesL (l.take kk) ++ [l[kk].name]) = strsC (namesL (l.take kk)) ++ [.string ⟨l[kk].name.toArray⟩] := by simp [strsC]
        rw [e]; exact h
      clear hc hS hlen hlv K
      generalize strsC (namesL (l.take kk)) = cs at *
      generalize l[kk].items.length = il at *
      generalize l[kk].name = nm at *
      generalize l[kk].kind = kd at *
      generalize l[kk].data = dt at *
      generalize l[kk].max = mx at *
      have hB1 := hB.alloc hB.size (.cells #[.string ⟨nm.toArray⟩, .int .i64 kd, .string ⟨dt.toArray⟩, .int .i64 mx, .slice a4 il c4] 48)
      have hr1 := hrow.alloc (.cells #[.string ⟨nm.toArray⟩, .int .i64 kd, .string ⟨dt.toArray⟩, .int .i64 mx, .slice a4 il c4] 48)
      have n0 := (Blk.new wr #[.string ⟨nm.toArray⟩, .int .i64 kd, .string ⟨dt.toArray⟩, .int .i64 mx, .slice a4 il c4] 48).cell 0
      have hz : (wr.alloc (.cells #[.string ⟨nm.toArray⟩, .int .i64 kd, .string ⟨dt.toArray⟩, .int .i64 mx, .slice a4 il c4] 48)).heap.size = wr.heap.size + 1 := by simp
      simp at n0
      go_wp2_with (at_builtin; refine wpList_append_own _ rfl _ _ 42 rfl w.heap.size 9 i0 (.string ⟨#[]⟩) 1 16 Tryz.underlying42 hI hz0 hz1 hz2 rfl (by decide) _ _ _ rfl (hr1.alloc _) ⟨wr.heap.size + 1, 0, none⟩ 1 1 [.string ⟨nm.toArray⟩] rfl rfl (by rw [← hz]; exact cell_one_new _ _ _) (by simp [Value.oneCell']) (by unfold maxLen; omega) (by omega) (by have := hB1.size; simp; omega) ?_)
      intro v' w2 hown hgrow _
      have hB2 : Below w.heap.size w w2 := (hB1.alloc hB1.size _).grown hgrow (by have := hB1.size; simp; omega) (fun k hk => (hrow.lt k hk).1)
      have HX2 := Lib.hid (HX.out _ _ hown)
      clear hown hgrow hrow hr1 n0 hz
      go_wp2_with fail
      go_roundg (l.length - (kk + 1))
      case measure => omega
      case rel => exact ⟨kk + 1, _, by omega, by omega, rfl, by go_num, hB2, HX2.out⟩
    · have hltz : ¬ (kk : Int) < (l.length : Int) := by omega
      have hkl : kk = l.length := by omega
      subst hkl
      rw [List.take_of_length_le (Nat.le_refl _)] at hS
      clear hc
      go_wp2_with fail
      go_ret
      exact ⟨_, rfl, hS, hB⟩
set_option maxRecDepth 100000 in
set_option maxHeartbeats 4000000 in
theorem NamesR_any (l : List ObjD) (hl : l.length ≤ 1000000) (v : Value) (w : World) (hv : ObjsV w v l) :
    Calls Tryz.prog 35 #[v] w fun e w' => ∃ v', e = .returned v' ∧ StrsO w.heap.size 9 w' v' (namesL l) ∧ Below w.heap.size w w' := by
  obtain ⟨a, cap, rfl, hc⟩ := hv.at
  obtain ⟨i0, hI, hz0, hz1, hz2⟩ := info_parts infoS
  clear hv
  go_enter Tryz.func35, Tryz.ntmps35
  go_wp2_with fail
  go_loopg [3, 4] l.length (fun gg s3 s8 wr => ∃ (kk : Nat) (vv : Value), kk ≤ l.length ∧ l.length - kk ≤ gg ∧ s3 = vv ∧ s8 = .int .i64 kk ∧ Below w.heap.size w wr ∧ StrsO w.heap.size 9 wr vv (namesL (l.take kk)))
  case atStart => exact ⟨0, _, Nat.zero_le _, by omega, rfl, rfl, Below.refl _ _, StrsO.nil _ _ _⟩
  case round =>
    obtain ⟨kk, s3, hkk, hg, rfl, rfl, hB, hS⟩ := hrel
    by_cases hlt : kk < l.length
    · have hltz : (kk : Int) < (l.length : Int) := by omega
      have hkz : (0 : Int) ≤ (kk : Int) := by omega
      obtain ⟨b, o, lv, rfl, -, hlv, k0, -, -, -, -⟩ := hc kk hlt
      have K := (KeepC.of_below hB).2
      replace k0 := K _ _ _ k0
      have hlen : (namesL (l.take kk)).length = kk := by simp [namesL]; omega
      have hrow := hS
      unfold StrsO at hrow
      rw [hlen] at hrow
      have HX : Hid (∀ W v', W.ownsRow w.heap.size 9 1 v' (kk + 1) (strsC (namesL (l.take kk)) ++ [.string ⟨l[kk].name.toArray⟩]) → StrsO w.heap.size 9 W v' (namesL (l.take (kk + 1)))) := by
        show ∀ W, _
        intro W v' h
        unfold StrsO
        rw [namesL_take l kk hlt, List.length_append, hlen]
        have e : strsC (namesL (l.take kk) ++ [l[kk].name]) = strsC (namesL (l.take kk)) ++ [.string ⟨l[kk].name.toArray⟩] := by simp [strsC]
        rw [e]; exact h
      clear hc hS hlen hlv K
      generalize strsC (namesL (l.take kk)) = cs at *
      generalize l[kk].name = nm at *
      go_wp2_with (at_builtin; refine wpList_append_own _ rfl _ _ 42 rfl w.heap.size 9 i0 (.string ⟨#[]⟩) 1 16 Tryz.underlying42 hI hz0 hz1 hz2 rfl (by decide) _ _ _ rfl (hrow.alloc _) ⟨wr.heap.size, 0, none⟩ 1 1 [.string ⟨nm.toArray⟩] rfl rfl (cell_one_new _ _ _) (by simp [Value.oneCell']) (by unfold maxLen; omega) (by omega) (by have := hB.size; simp; omega) ?_)
      intro v' w2 hown hgrow _
      have hB2 : Below w.heap.size w w2 := (hB.alloc hB.size _).grown hgrow (by have := hB.size; simp; omega) (fun k hk => (hrow.lt k hk).1)
      have HX2 := Lib.hid (HX.out _ _ hown)
      clear hown hgrow hrow
      go_wp2_with fail
      go_roundg (l.length - (kk + 1))
      case measure => omega
      case rel => exact ⟨kk + 1, _, by omega, by omega, rfl, by go_num, hB2, HX2.out⟩
    · have hltz : ¬ (kk : Int) < (l.length : Int) := by omega
      have hkl : kk = l.length := by omega
      subst hkl
      rw [List.take_of_length_le (Nat.le_refl _)] at hS
      clear hc
      go_wp2_with fail
      go_ret
      exact ⟨_, rfl, hS, hB⟩
end Go.Proofs.YthclfkhakmcnbaaGreatDoor
/- Walks of layer 10's reference: Right. -/
namespace Go.Proofs.YthclfkhakmcnbaaGreatDoor
open Go.RowKit Go.Shelf
attribute [local go_sem] Oper.semAt_some
theorem objB_name {x : ObjD} (h : objB x = true) : x.name ≠ [] := by
  intro e
  unfold objB at h
  rw [e] at h
  split at h
  · simp [nameB] at h
  · split at h
    · simp [nameB] at h
    · cases h
set_option maxRecDepth 100000 in
set_option maxHeartbeats 4000000 in
theorem refRight_any (l : List ObjD) (hl : FitsS l) (v : Value) (w : World) (hv : ObjsV w v l) :
    Calls Tryz.prog 28 #[v] w fun e w' => e = .returned (.bool (spaceB l)) ∧ Below w.heap.size w w' := by
  obtain ⟨a, cap, rfl, hc⟩ := hv.at
  have hlm : l.length ≤ 1000000 := hl.1
  generalize hR : spaceB l = R
  have HR := Lib.hid hR
  clear hR hv
  go_enter Tryz.func28, Tryz.ntmps28
  go_wp2_with fail
  go_loopg [3] l.length (fun gg s3 wr => ∃ (kk : Nat) (last : List UInt8), kk ≤ l.length ∧ l.length - kk ≤ gg ∧ s3 = .int .i64 kk ∧ Below w.heap.size w wr ∧ Hid (spB [] l = spB last (l.drop kk)) ∧ Hid ((kk = 0 → last = []) ∧ ∀ (h : 0 < kk) (h2 : kk - 1 < l.length), last = l[kk-1].name))
  case atStart => exact ⟨0, [], Nat.zero_le _, by omega, rfl, Below.refl _ _, rfl, ⟨fun _ => rfl, fun h => absurd h (by omega)⟩⟩
  case round =>
    obtain ⟨kk, last, hkk, hg, rfl, hB, hS, hL⟩ := hrel
    by_cases hlt : kk < l.length
    · have hltz : (kk : Int) < (l.length : Int) := by omega
      have hkz : (0 : Int) ≤ (kk : Int) := by omega
      obtain ⟨b, o, lv, rfl, hb, hlv, k0, k1, k2, k3, k4⟩ := hc kk hlt
      have hpre : 0 < kk → w.cell? ⟨b, o + (kk - 1) * 5, none⟩ = some (.string ⟨last.toArray⟩) := by
        intro h0
        obtain ⟨b', o', lv', e, -, -, k0', -⟩ := hc (kk - 1) (by omega)
        cases e
        rw [hL.out.2 h0 (by omega)]; exact k0'
      have hlast0 := hL.out.1
      have hnext : ∀ h2 : kk + 1 - 1 < l.length, l[kk].name = l[kk + 1 - 1].name := fun _ => rfl
      have hfx := hl.2 l[kk] (List.getElem_mem _)
      have HS : Hid (spB [] l = spB last (l[kk] :: l.drop (kk + 1))) := by show _ = _; rw [hS.out, drop_cons l kk hlt]
      have hBk := KeepC.of_below hB
      replace hlv := hlv.keep hBk
      have HI := fun W (h : KeepC wr W) => isObjR_any l[kk] hfx lv W (hlv.keep h)
      have hobn : objB l[kk] = true → l[kk].name ≠ [] := objB_name
      clear hc hS hL
      have HN := Lib.hid hnext
      clear hnext
      generalize hx : l[kk] = x at HI hobn HS k0 k1 k2 k3 k4 hlv hfx
      have HX := Lib.hid hx
      clear hx
      obtain ⟨name, kind, data, max, items⟩ := x
      dsimp only at *
      obtain ⟨a2, cap2, rfl, -⟩ := hlv.at
      clear hlv hfx
      generalize hO : objB ⟨name, kind, data, max, items⟩ = ob at *
      have HO := Lib.hid hO
      clear hO
      have hle := leq_not name last
      have hle2 : (name == last) = (last == name) := by rw [Bool.eq_iff_iff, beq_iff_eq, beq_iff_eq]; exact ⟨Eq.symm, Eq.symm⟩
      have hwl := fun (h : 0 < kk) => hpre h
      have SK : Hid (∀ u, Below w.heap.size w u → u.cell? ⟨b, o + kk * 5, none⟩ = some (.string ⟨name.toArray⟩) ∧ u.cell? ⟨b, o + kk * 5 + 1, none⟩ = some (.int .i64 kind) ∧ u.cell? ⟨b, o + kk * 5 + 2, none⟩ = some (.string ⟨data.toArray⟩) ∧ u.cell? ⟨b, o + kk * 5 + 3, none⟩ = some (.int .i64 max) ∧ u.cell? ⟨b, o + kk * 5 + 4, none⟩ = some (.slice a2 items.length cap2)) := by
        show ∀ u, _
        intro u h
        have hk := (KeepC.of_below h).2
        exact ⟨hk _ _ _ k0, hk _ _ _ k1, hk _ _ _ k2, hk _ _ _ k3, hk _ _ _ k4⟩
      clear k0 k1 k2 k3 k4
      go_wp2_with fail
      cases ob with
      | false =>
        have HRF : Hid (false = R) := by
          show _ = _
          rw [← HR.out, spaceB, HS.out, spB, HO.out]; rfl
        clear HR HS hle hle2 hwl hpre hlast0 hobn
        refine wp_region_noPanic ?_
        refine wp_region_held_drew (S := (fun u => u.cell? ⟨b, o + kk * 5, none⟩ = some (.string ⟨name.toArray⟩) ∧ u.cell? ⟨b, o + kk * 5 + 1, none⟩ = some (.int .i64 kind) ∧ u.cell? ⟨b, o + kk * 5 + 2, none⟩ = some (.string ⟨data.toArray⟩) ∧ u.cell? ⟨b, o + kk * 5 + 3, none⟩ = some (.int .i64 max) ∧ u.cell? ⟨b, o + kk * 5 + 4, none⟩ = some (.slice a2 items.length cap2))) (by kernel_rfl) ?_ (fun hHeld => ?_)
        · exact SK.out _ hB.drew
        refine wpAnyH_take (i := 0) (oi := _) (v := ?_) (nth_at rfl) (by kernel_rfl) (by kernel_rfl) (by kernel_rfl) (fun _ _ _ h => h) (Or.inl ⟨by rfl, ?_⟩) (by assumption) ?_
        rotate_left 1
        · intro w hSw; (try dsimp only at hSw); (go_simp <;> with_reducible rfl)
        try simp only [Act.put, List.setIfInBounds_toArray, List.set_cons_zero, List.set_cons_succ]
        refine wpAnyH_take (i := 1) (oi := _) (v := ?_) (nth_at rfl) (by kernel_rfl) (by kernel_rfl) (by kernel_rfl) (fun _ _ _ h => h) (Or.inl ⟨by rfl, ?_⟩) (by assumption) ?_
        rotate_left 1
        · intro w hSw; (try dsimp only at hSw); (go_simp <;> with_reducible rfl)
        try simp only [Act.put, List.setIfInBounds_toArray, List.set_cons_zero, List.set_cons_succ]
        refine wpAnyH_take (i := 2) (oi := _) (v := ?_) (nth_at rfl) (by kernel_rfl) (by kernel_rfl) (by kernel_rfl) (fun _ _ _ h => h) (Or.inl ⟨by rfl, ?_⟩) (by assumption) ?_
        rotate_left 1
        · intro w hSw; (try dsimp only at hSw); (go_simp <;> with_reducible rfl)
        try simp only [Act.put, List.setIfInBounds_toArray, List.set_cons_zero, List.set_cons_succ]
        refine wpAnyH_take (i := 3) (oi := _) (v := ?_) (nth_at rfl) (by kernel_rfl) (by kernel_rfl) (by kernel_rfl) (fun _ _ _ h => h) (Or.inl ⟨by rfl, ?_⟩) (by assumption) ?_
        rotate_left 1
        · intro w hSw; (try dsimp only at hSw); (go_simp <;> with_reducible rfl)
        try simp only [Act.put, List.setIfInBounds_toArray, List.set_cons_zero, List.set_cons_succ]
        refine wpAnyH_ready (rs := [4]) (by kernel_rfl) (by simp) ?_
        refine AllReadyH.cons (o := _) (nth_at rfl) (fun K hK => ?_) AllReadyH.nil
        go_simp
        with_reducible refine (HI _ (KeepC.of_below (Below.refl wr.heap.size wr).drew)).mono ?_
        rintro e w2 ⟨rfl, hb2⟩
        have hc2 := (Below.refl wr.heap.size wr).drew.trans hb2
        have B2 := hB.trans (hc2.mono hB.size)
        try dsimp only
        refine hK.out _ _ ?_ (fun hHeld => ?_)
        · exact SK.out _ B2
        clear hK K
        try simp only [Act.put, List.setIfInBounds_toArray, List.set_cons_zero, List.set_cons_succ]
        refine wpAnyH_take (i := 5) (oi := _) (v := ?_) (nth_at rfl) (by kernel_rfl) (by kernel_rfl) (by kernel_rfl) (fun _ _ _ h => h) (Or.inl ⟨by rfl, ?_⟩) (by assumption) ?_
        rotate_left 1
        · intro w hSw; (try dsimp only at hSw); (go_simp <;> with_reducible rfl)
        try simp only [Act.put, List.setIfInBounds_toArray, List.set_cons_zero, List.set_cons_succ]
        refine wpAnyH_take (i := 6) (oi := _) (v := ?_) (nth_at rfl) (by kernel_rfl) (by kernel_rfl) (by kernel_rfl) (fun _ _ _ h => h) (Or.inl ⟨by rfl, ?_⟩) (by assumption) ?_
        rotate_left 1
        · intro w hSw; (try dsimp only at hSw); (go_simp <;> with_reducible rfl)
        try simp only [Act.put, List.setIfInBounds_toArray, List.set_cons_zero, List.set_cons_succ]
        refine wpAnyH_take (i := 7) (oi := _) (v := undef) (nth_at rfl) (by kernel_rfl) (by kernel_rfl) (by kernel_rfl) (fun _ _ _ h => h) (Or.inr ⟨by rfl, rfl⟩) (by assumption) ?_
        try simp only [Act.put, List.setIfInBounds_toArray, List.set_cons_zero, List.set_cons_succ]
        refine wpAnyH_take (i := 8) (oi := _) (v := undef) (nth_at rfl) (by kernel_rfl) (by kernel_rfl) (by kernel_rfl) (fun _ _ _ h => h) (Or.inr ⟨by rfl, rfl⟩) (by assumption) ?_
        try simp only [Act.put, List.setIfInBounds_toArray, List.set_cons_zero, List.set_cons_succ]
        refine wpAnyH_take (i := 9) (oi := _) (v := undef) (nth_at rfl) (by kernel_rfl) (by kernel_rfl) (by kernel_rfl) (fun _ _ _ h => h) (Or.inr ⟨by rfl, rfl⟩) (by assumption) ?_
        try simp only [Act.put, List.setIfInBounds_toArray, List.set_cons_zero, List.set_cons_succ]
        refine wpAnyH_take (i := 10) (oi := _) (v := undef) (nth_at rfl) (by kernel_rfl) (by kernel_rfl) (by kernel_rfl) (fun _ _ _ h => h) (Or.inr ⟨by rfl, rfl⟩) (by assumption) ?_
        try simp only [Act.put, List.setIfInBounds_toArray, List.set_cons_zero, List.set_cons_succ]
        refine wpAnyH_take (i := 11) (oi := _) (v := undef) (nth_at rfl) (by kernel_rfl) (by kernel_rfl) (by kernel_rfl) (fun _ _ _ h => h) (Or.inr ⟨by rfl, rfl⟩) (by assumption) ?_
        try simp only [Act.put, List.setIfInBounds_toArray, List.set_cons_zero, List.set_cons_succ]
        refine wpAnyH_take (i := 12) (oi := _) (v := undef) (nth_at rfl) (by kernel_rfl) (by kernel_rfl) (by kernel_rfl) (fun _ _ _ h => h) (Or.inr ⟨by rfl, rfl⟩) (by assumption) ?_
        try simp only [Act.put, List.setIfInBounds_toArray, List.set_cons_zero, List.set_cons_succ]
        refine wpAnyH_take (i := 13) (oi := _) (v := undef) (nth_at rfl) (by kernel_rfl) (by kernel_rfl) (by kernel_rfl) (fun _ _ _ h => h) (Or.inr ⟨by rfl, rfl⟩) (by assumption) ?_
        try simp only [Act.put, List.setIfInBounds_toArray, List.set_cons_zero, List.set_cons_succ]
        refine wpAnyH_take (i := 14) (oi := _) (v := undef) (nth_at rfl) (by kernel_rfl) (by kernel_rfl) (by kernel_rfl) (fun _ _ _ h => h) (Or.inr ⟨by rfl, rfl⟩) (by assumption) ?_
        try simp only [Act.put, List.setIfInBounds_toArray, List.set_cons_zero, List.set_cons_succ]
        refine wpAnyH_take (i := 15) (oi := _) (v := undef) (nth_at rfl) (by kernel_rfl) (by kernel_rfl) (by kernel_rfl) (fun _ _ _ h => h) (Or.inr ⟨by rfl, rfl⟩) (by assumption) ?_
        try simp only [Act.put, List.setIfInBounds_toArray, List.set_cons_zero, List.set_cons_succ]
        refine wpAnyH_take (i := 16) (oi := _) (v := undef) (nth_at rfl) (by kernel_rfl) (by kernel_rfl) (by kernel_rfl) (fun _ _ _ h => h) (Or.inr ⟨by rfl, rfl⟩) (by assumption) ?_
        try simp only [Act.put, List.setIfInBounds_toArray, List.set_cons_zero, List.set_cons_succ]
        refine wpAnyH_take (i := 17) (oi := _) (v := undef) (nth_at rfl) (by kernel_rfl) (by kernel_rfl) (by kernel_rfl) (fun _ _ _ h => h) (Or.inr ⟨by rfl, rfl⟩) (by assumption) ?_
        try simp only [Act.put, List.setIfInBounds_toArray, List.set_cons_zero, List.set_cons_succ]
        refine wpAnyH_take (i := 18) (oi := _) (v := undef) (nth_at rfl) (by kernel_rfl) (by kernel_rfl) (by kernel_rfl) (fun _ _ _ h => h) (Or.inr ⟨by rfl, rfl⟩) (by assumption) ?_
        try simp only [Act.put, List.setIfInBounds_toArray, List.set_cons_zero, List.set_cons_succ]
        refine wpAnyH_take (i := 19) (oi := _) (v := undef) (nth_at rfl) (by kernel_rfl) (by kernel_rfl) (by kernel_rfl) (fun _ _ _ h => h) (Or.inr ⟨by rfl, rfl⟩) (by assumption) ?_
        try simp only [Act.put, List.setIfInBounds_toArray, List.set_cons_zero, List.set_cons_succ]
        refine wpAnyH_take (i := 20) (oi := _) (v := undef) (nth_at rfl) (by kernel_rfl) (by kernel_rfl) (by kernel_rfl) (fun _ _ _ h => h) (Or.inr ⟨by rfl, rfl⟩) (by assumption) ?_
        try simp only [Act.put, List.setIfInBounds_toArray, List.set_cons_zero, List.set_cons_succ]
        refine wpAnyH_take (i := 21) (oi := _) (v := undef) (nth_at rfl) (by kernel_rfl) (by kernel_rfl) (by kernel_rfl) (fun _ _ _ h => h) (Or.inr ⟨by rfl, rfl⟩) (by assumption) ?_
        try simp only [Act.put, List.setIfInBounds_toArray, List.set_cons_zero, List.set_cons_succ]
        refine wpAnyH_take (i := 22) (oi := _) (v := undef) (nth_at rfl) (by kernel_rfl) (by kernel_rfl) (by kernel_rfl) (fun _ _ _ h => h) (Or.inr ⟨by rfl, rfl⟩) (by assumption) ?_
        try simp only [Act.put, List.setIfInBounds_toArray, List.set_cons_zero, List.set_cons_succ]
        refine wpAnyH_take (i := 23) (oi := _) (v := ?_) (nth_at rfl) (by kernel_rfl) (by kernel_rfl) (by kernel_rfl) (fun _ _ _ h => h) (Or.inl ⟨by rfl, ?_⟩) (by assumption) ?_
        rotate_left 1
        · intro w hSw; (try dsimp only at hSw); (go_simp <;> with_reducible rfl)
        try simp only [Act.put, List.setIfInBounds_toArray, List.set_cons_zero, List.set_cons_succ]
        refine wpAnyH_done (by kernel_rfl) ?_ _
        refine NoPanic.normal ?_
        go_wp2_with fail
        go_ret
        exact ⟨ret_bool (by rw [← HRF.out]), B2⟩
      | true =>
        by_cases hk0 : 0 < kk
        · have hgz : decide ((0 : Int) < (kk : Int)) = true := by simp; omega
          have hw1 : IntKind.i64.wrap ((kk : Int) - 1) = ((kk - 1 : Nat) : Int) := by rw [IntWalk.i64_in _ (by omega)]; omega
          have hz1 : (0 : Int) ≤ ((kk - 1 : Nat) : Int) := by omega
          have hz2 : ((kk - 1 : Nat) : Int) < (l.length : Int) := by omega
          have kp := hpre hk0
          have SK2 : Hid (∀ u, Below w.heap.size w u → (u.cell? ⟨b, o + kk * 5, none⟩ = some (.string ⟨name.toArray⟩) ∧ u.cell? ⟨b, o + kk * 5 + 1, none⟩ = some (.int .i64 kind) ∧ u.cell? ⟨b, o + kk * 5 + 2, none⟩ = some (.string ⟨data.toArray⟩) ∧ u.cell? ⟨b, o + kk * 5 + 3, none⟩ = some (.int .i64 max) ∧ u.cell? ⟨b, o + kk * 5 + 4, none⟩ = some (.slice a2 items.length cap2)) ∧ u.cell? ⟨b, o + (kk - 1) * 5, none⟩ = some (.string ⟨last.toArray⟩)) := by
            show ∀ u, _
            intro u h
            exact ⟨SK.out u h, (KeepC.of_below h).2 _ _ _ kp⟩
          clear hpre hlast0 hobn hwl SK kp
          have SK := SK2
          clear SK2
          clear hle
          cases hb0 : Op.bytesLess last name with
          | true =>
            have HLB := Lib.hid hb0
            have HS2 : Hid (spB [] l = spB name (l.drop (kk + 1))) := by
              show _ = _
              rw [HS.out, spB, HO.out, HLB.out]; rfl
            clear HS HO HLB
            refine wp_region_noPanic ?_
            refine wp_region_held_drew (S := (fun u => (u.cell? ⟨b, o + kk * 5, none⟩ = some (.string ⟨name.toArray⟩) ∧ u.cell? ⟨b, o + kk * 5 + 1, none⟩ = some (.int .i64 kind) ∧ u.cell? ⟨b, o + kk * 5 + 2, none⟩ = some (.string ⟨data.toArray⟩) ∧ u.cell? ⟨b, o + kk * 5 + 3, none⟩ = some (.int .i64 max) ∧ u.cell? ⟨b, o + kk * 5 + 4, none⟩ = some (.slice a2 items.length cap2)) ∧ u.cell? ⟨b, o + (kk - 1) * 5, none⟩ = some (.string ⟨last.toArray⟩))) (by kernel_rfl) ?_ (fun hHeld => ?_)
            · exact SK.out _ hB.drew
            refine wpAnyH_take (i := 0) (oi := _) (v := ?_) (nth_at rfl) (by kernel_rfl) (by kernel_rfl) (by kernel_rfl) (fun _ _ _ h => h) (Or.inl ⟨by rfl, ?_⟩) (by assumption) ?_
            rotate_left 1
            · intro w hSw; (try dsimp only at hSw); (go_simp <;> with_reducible rfl)
            try simp only [Act.put, List.setIfInBounds_toArray, List.set_cons_zero, List.set_cons_succ]
            refine wpAnyH_take (i := 1) (oi := _) (v := ?_) (nth_at rfl) (by kernel_rfl) (by kernel_rfl) (by kernel_rfl) (fun _ _ _ h => h) (Or.inl ⟨by rfl, ?_⟩) (by assumption) ?_
            rotate_left 1
            · intro w hSw; (try dsimp only at hSw); (go_simp <;> with_reducible rfl)
            try simp only [Act.put, List.setIfInBounds_toArray, List.set_cons_zero, List.set_cons_succ]
            refine wpAnyH_take (i := 2) (oi := _) (v := ?_) (nth_at rfl) (by kernel_rfl) (by kernel_rfl) (by kernel_rfl) (fun _ _ _ h => h) (Or.inl ⟨by rfl, ?_⟩) (by assumption) ?_
            rotate_left 1
            · intro w hSw; (try dsimp only at hSw); (go_simp <;> with_reducible rfl)
            try simp only [Act.put, List.setIfInBounds_toArray, List.set_cons_zero, List.set_cons_succ]
            refine wpAnyH_take (i := 3) (oi := _) (v := ?_) (nth_at rfl) (by kernel_rfl) (by kernel_rfl) (by kernel_rfl) (fun _ _ _ h => h) (Or.inl ⟨by rfl, ?_⟩) (by assumption) ?_
            rotate_left 1
            · intro w hSw; (try dsimp only at hSw); (go_simp <;> with_reducible rfl)
            try simp only [Act.put, List.setIfInBounds_toArray, List.set_cons_zero, List.set_cons_succ]
            refine wpAnyH_ready (rs := [4]) (by kernel_rfl) (by simp) ?_
            refine AllReadyH.cons (o := _) (nth_at rfl) (fun K hK => ?_) AllReadyH.nil
            go_simp
            with_reducible refine (HI _ (KeepC.of_below (Below.refl wr.heap.size wr).drew)).mono ?_
            rintro e w2 ⟨rfl, hb2⟩
            have hc2 := (Below.refl wr.heap.size wr).drew.trans hb2
            have B2 := hB.trans (hc2.mono hB.size)
            try dsimp only
            refine hK.out _ _ ?_ (fun hHeld => ?_)
            · exact SK.out _ B2
            clear hK K
            try simp only [Act.put, List.setIfInBounds_toArray, List.set_cons_zero, List.set_cons_succ]
            refine wpAnyH_take (i := 5) (oi := _) (v := ?_) (nth_at rfl) (by kernel_rfl) (by kernel_rfl) (by kernel_rfl) (fun _ _ _ h => h) (Or.inl ⟨by rfl, ?_⟩) (by assumption) ?_
            rotate_left 1
            · intro w hSw; (try dsimp only at hSw); (go_simp <;> with_reducible rfl)
            try simp only [Act.put, List.setIfInBounds_toArray, List.set_cons_zero, List.set_cons_succ]
            refine wpAnyH_take (i := 6) (oi := _) (v := ?_) (nth_at rfl) (by kernel_rfl) (by kernel_rfl) (by kernel_rfl) (fun _ _ _ h => h) (Or.inl ⟨by rfl, ?_⟩) (by assumption) ?_
            rotate_left 1
            · intro w hSw; (try dsimp only at hSw); (go_simp <;> with_reducible rfl)
            try simp only [Act.put, List.setIfInBounds_toArray, List.set_cons_zero, List.set_cons_succ]
            refine wpAnyH_take (i := 7) (oi := _) (v := ?_) (nth_at rfl) (by kernel_rfl) (by kernel_rfl) (by kernel_rfl) (fun _ _ _ h => h) (Or.inl ⟨by rfl, ?_⟩) (by assumption) ?_
            rotate_left 1
            · intro w hSw; (try dsimp only at hSw); (go_simp <;> with_reducible rfl)
            try simp only [Act.put, List.setIfInBounds_toArray, List.set_cons_zero, List.set_cons_succ]
            refine wpAnyH_take (i := 8) (oi := _) (v := ?_) (nth_at rfl) (by kernel_rfl) (by kernel_rfl) (by kernel_rfl) (fun _ _ _ h => h) (Or.inl ⟨by rfl, ?_⟩) (by assumption) ?_
            rotate_left 1
            · intro w hSw; (try dsimp only at hSw); (go_simp <;> with_reducible rfl)
            try simp only [Act.put, List.setIfInBounds_toArray, List.set_cons_zero, List.set_cons_succ]
            refine wpAnyH_take (i := 9) (oi := _) (v := ?_) (nth_at rfl) (by kernel_rfl) (by kernel_rfl) (by kernel_rfl) (fun _ _ _ h => h) (Or.inl ⟨by rfl, ?_⟩) (by assumption) ?_
            rotate_left 1
            · intro w hSw; (try dsimp only at hSw); (go_simp <;> with_reducible rfl)
            try simp only [Act.put, List.setIfInBounds_toArray, List.set_cons_zero, List.set_cons_succ]
            refine wpAnyH_take (i := 10) (oi := _) (v := ?_) (nth_at rfl) (by kernel_rfl) (by kernel_rfl) (by kernel_rfl) (fun _ _ _ h => h) (Or.inl ⟨by rfl, ?_⟩) (by assumption) ?_
            rotate_left 1
            · intro w hSw; (try dsimp only at hSw); (go_simp <;> with_reducible rfl)
            try simp only [Act.put, List.setIfInBounds_toArray, List.set_cons_zero, List.set_cons_succ]
            refine wpAnyH_take (i := 11) (oi := _) (v := ?_) (nth_at rfl) (by kernel_rfl) (by kernel_rfl) (by kernel_rfl) (fun _ _ _ h => h) (Or.inl ⟨by rfl, ?_⟩) (by assumption) ?_
            rotate_left 1
            · intro w hSw; (try dsimp only at hSw); (go_simp <;> with_reducible rfl)
            try simp only [Act.put, List.setIfInBounds_toArray, List.set_cons_zero, List.set_cons_succ]
            refine wpAnyH_take (i := 12) (oi := _) (v := ?_) (nth_at rfl) (by kernel_rfl) (by kernel_rfl) (by kernel_rfl) (fun _ _ _ h => h) (Or.inl ⟨by rfl, ?_⟩) (by assumption) ?_
            rotate_left 1
            · intro w hSw; (try dsimp only at hSw); (go_simp <;> with_reducible rfl)
            try simp only [Act.put, List.setIfInBounds_toArray, List.set_cons_zero, List.set_cons_succ]
            refine wpAnyH_take (i := 13) (oi := _) (v := ?_) (nth_at rfl) (by kernel_rfl) (by kernel_rfl) (by kernel_rfl) (fun _ _ _ h => h) (Or.inl ⟨by rfl, ?_⟩) (by assumption) ?_
            rotate_left 1
            · intro w hSw; (try dsimp only at hSw); (go_simp <;> with_reducible rfl)
            try simp only [Act.put, List.setIfInBounds_toArray, List.set_cons_zero, List.set_cons_succ]
            refine wpAnyH_take (i := 14) (oi := _) (v := ?_) (nth_at rfl) (by kernel_rfl) (by kernel_rfl) (by kernel_rfl) (fun _ _ _ h => h) (Or.inl ⟨by rfl, ?_⟩) (by assumption) ?_
            rotate_left 1
            · intro w hSw; (try dsimp only at hSw); (go_simp <;> with_reducible rfl)
            try simp only [Act.put, List.setIfInBounds_toArray, List.set_cons_zero, List.set_cons_succ]
            refine wpAnyH_take (i := 15) (oi := _) (v := ?_) (nth_at rfl) (by kernel_rfl) (by kernel_rfl) (by kernel_rfl) (fun _ _ _ h => h) (Or.inl ⟨by rfl, ?_⟩) (by assumption) ?_
            rotate_left 1
            · intro w hSw; (try dsimp only at hSw); (go_simp <;> with_reducible rfl)
            try simp only [Act.put, List.setIfInBounds_toArray, List.set_cons_zero, List.set_cons_succ]
            refine wpAnyH_take (i := 16) (oi := _) (v := ?_) (nth_at rfl) (by kernel_rfl) (by kernel_rfl) (by kernel_rfl) (fun _ _ _ h => h) (Or.inl ⟨by rfl, ?_⟩) (by assumption) ?_
            rotate_left 1
            · intro w hSw; (try dsimp only at hSw); (go_simp <;> with_reducible rfl)
            try simp only [Act.put, List.setIfInBounds_toArray, List.set_cons_zero, List.set_cons_succ]
            refine wpAnyH_take (i := 17) (oi := _) (v := ?_) (nth_at rfl) (by kernel_rfl) (by kernel_rfl) (by kernel_rfl) (fun _ _ _ h => h) (Or.inl ⟨by rfl, ?_⟩) (by assumption) ?_
            rotate_left 1
            · intro w hSw; (try dsimp only at hSw); (go_simp <;> with_reducible rfl)
            try simp only [Act.put, List.setIfInBounds_toArray, List.set_cons_zero, List.set_cons_succ]
            refine wpAnyH_take (i := 18) (oi := _) (v := ?_) (nth_at rfl) (by kernel_rfl) (by kernel_rfl) (by kernel_rfl) (fun _ _ _ h => h) (Or.inl ⟨by rfl, ?_⟩) (by assumption) ?_
            rotate_left 1
            · intro w hSw; (try dsimp only at hSw); (go_simp <;> with_reducible rfl)
            try simp only [Act.put, List.setIfInBounds_toArray, List.set_cons_zero, List.set_cons_succ]
            refine wpAnyH_take (i := 19) (oi := _) (v := ?_) (nth_at rfl) (by kernel_rfl) (by kernel_rfl) (by kernel_rfl) (fun _ _ _ h => h) (Or.inl ⟨by rfl, ?_⟩) (by assumption) ?_
            rotate_left 1
            · intro w hSw; (try dsimp only at hSw); (go_simp <;> with_reducible rfl)
            try simp only [Act.put, List.setIfInBounds_toArray, List.set_cons_zero, List.set_cons_succ]
            refine wpAnyH_take (i := 20) (oi := _) (v := ?_) (nth_at rfl) (by kernel_rfl) (by kernel_rfl) (by kernel_rfl) (fun _ _ _ h => h) (Or.inl ⟨by rfl, ?_⟩) (by assumption) ?_
            rotate_left 1
            · intro w hSw; (try dsimp only at hSw); (go_simp <;> with_reducible rfl)
            try simp only [Act.put, List.setIfInBounds_toArray, List.set_cons_zero, List.set_cons_succ]
            refine wpAnyH_take (i := 21) (oi := _) (v := ?_) (nth_at rfl) (by kernel_rfl) (by kernel_rfl) (by kernel_rfl) (fun _ _ _ h => h) (Or.inl ⟨by rfl, ?_⟩) (by assumption) ?_
            rotate_left 1
            · intro w hSw; (try dsimp only at hSw); (go_simp <;> with_reducible rfl)
            try simp only [Act.put, List.setIfInBounds_toArray, List.set_cons_zero, List.set_cons_succ]
            refine wpAnyH_take (i := 22) (oi := _) (v := ?_) (nth_at rfl) (by kernel_rfl) (by kernel_rfl) (by kernel_rfl) (fun _ _ _ h => h) (Or.inl ⟨by rfl, ?_⟩) (by assumption) ?_
            rotate_left 1
            · intro w hSw; (try dsimp only at hSw); (go_simp <;> with_reducible rfl)
            try simp only [Act.put, List.setIfInBounds_toArray, List.set_cons_zero, List.set_cons_succ]
            refine wpAnyH_take (i := 23) (oi := _) (v := ?_) (nth_at rfl) (by kernel_rfl) (by kernel_rfl) (by kernel_rfl) (fun _ _ _ h => h) (Or.inl ⟨by rfl, ?_⟩) (by assumption) ?_
            rotate_left 1
            · intro w hSw; (try dsimp only at hSw); (go_simp <;> with_reducible rfl)
            try simp only [Act.put, List.setIfInBounds_toArray, List.set_cons_zero, List.set_cons_succ]
            refine wpAnyH_done (by kernel_rfl) ?_ _
            refine NoPanic.normal ?_
            go_wp2_with fail
            go_roundg (l.length - (kk + 1))
            case measure => omega
            case rel => exact ⟨kk + 1, name, by omega, by omega, by go_num, B2, HS2, ⟨fun h => absurd h (by omega), fun _ h2 => by show name = l[kk].name; rw [HX.out]⟩⟩
          | false =>
            have HLB := Lib.hid hb0
            have HRF : Hid (false = R) := by
              show _ = _
              rw [← HR.out, spaceB, HS.out, spB, HO.out, HLB.out]; rfl
            clear HR HS
            refine wp_region_noPanic ?_
            refine wp_region_held_drew (S := (fun u => (u.cell? ⟨b, o + kk * 5, none⟩ = some (.string ⟨name.toArray⟩) ∧ u.cell? ⟨b, o + kk * 5 + 1, none⟩ = some (.int .i64 kind) ∧ u.cell? ⟨b, o + kk * 5 + 2, none⟩ = some (.string ⟨data.toArray⟩) ∧ u.cell? ⟨b, o + kk * 5 + 3, none⟩ = some (.int .i64 max) ∧ u.cell? ⟨b, o + kk * 5 + 4, none⟩ = some (.slice a2 items.length cap2)) ∧ u.cell? ⟨b, o + (kk - 1) * 5, none⟩ = some (.string ⟨last.toArray⟩))) (by kernel_rfl) ?_ (fun hHeld => ?_)
            · exact SK.out _ hB.drew
            refine wpAnyH_take (i := 0) (oi := _) (v := ?_) (nth_at rfl) (by kernel_rfl) (by kernel_rfl) (by kernel_rfl) (fun _ _ _ h => h) (Or.inl ⟨by rfl, ?_⟩) (by assumption) ?_
            rotate_left 1
            · intro w hSw; (try dsimp only at hSw); (go_simp <;> with_reducible rfl)
            try simp only [Act.put, List.setIfInBounds_toArray, List.set_cons_zero, List.set_cons_succ]
            refine wpAnyH_take (i := 1) (oi := _) (v := ?_) (nth_at rfl) (by kernel_rfl) (by kernel_rfl) (by kernel_rfl) (fun _ _ _ h => h) (Or.inl ⟨by rfl, ?_⟩) (by assumption) ?_
            rotate_left 1
            · intro w hSw; (try dsimp only at hSw); (go_simp <;> with_reducible rfl)
            try simp only [Act.put, List.setIfInBounds_toArray, List.set_cons_zero, List.set_cons_succ]
            refine wpAnyH_take (i := 2) (oi := _) (v := ?_) (nth_at rfl) (by kernel_rfl) (by kernel_rfl) (by kernel_rfl) (fun _ _ _ h => h) (Or.inl ⟨by rfl, ?_⟩) (by assumption) ?_
            rotate_left 1
            · intro w hSw; (try dsimp only at hSw); (go_simp <;> with_reducible rfl)
            try simp only [Act.put, List.setIfInBounds_toArray, List.set_cons_zero, List.set_cons_succ]
            refine wpAnyH_take (i := 3) (oi := _) (v := ?_) (nth_at rfl) (by kernel_rfl) (by kernel_rfl) (by kernel_rfl) (fun _ _ _ h => h) (Or.inl ⟨by rfl, ?_⟩) (by assumption) ?_
            rotate_left 1
            · intro w hSw; (try dsimp only at hSw); (go_simp <;> with_reducible rfl)
            try simp only [Act.put, List.setIfInBounds_toArray, List.set_cons_zero, List.set_cons_succ]
            refine wpAnyH_ready (rs := [4]) (by kernel_rfl) (by simp) ?_
            refine AllReadyH.cons (o := _) (nth_at rfl) (fun K hK => ?_) AllReadyH.nil
            go_simp
            with_reducible refine (HI _ (KeepC.of_below (Below.refl wr.heap.size wr).drew)).mono ?_
            rintro e w2 ⟨rfl, hb2⟩
            have hc2 := (Below.refl wr.heap.size wr).drew.trans hb2
            have B2 := hB.trans (hc2.mono hB.size)
            try dsimp only
            refine hK.out _ _ ?_ (fun hHeld => ?_)
            · exact SK.out _ B2
            clear hK K
            try simp only [Act.put, List.setIfInBounds_toArray, List.set_cons_zero, List.set_cons_succ]
            refine wpAnyH_take (i := 5) (oi := _) (v := ?_) (nth_at rfl) (by kernel_rfl) (by kernel_rfl) (by kernel_rfl) (fun _ _ _ h => h) (Or.inl ⟨by rfl, ?_⟩) (by assumption) ?_
            rotate_left 1
            · intro w hSw; (try dsimp only at hSw); (go_simp <;> with_reducible rfl)
            try simp only [Act.put, List.setIfInBounds_toArray, List.set_cons_zero, List.set_cons_succ]
            refine wpAnyH_take (i := 6) (oi := _) (v := ?_) (nth_at rfl) (by kernel_rfl) (by kernel_rfl) (by kernel_rfl) (fun _ _ _ h => h) (Or.inl ⟨by rfl, ?_⟩) (by assumption) ?_
            rotate_left 1
            · intro w hSw; (try dsimp only at hSw); (go_simp <;> with_reducible rfl)
            try simp only [Act.put, List.setIfInBounds_toArray, List.set_cons_zero, List.set_cons_succ]
            refine wpAnyH_take (i := 7) (oi := _) (v := ?_) (nth_at rfl) (by kernel_rfl) (by kernel_rfl) (by kernel_rfl) (fun _ _ _ h => h) (Or.inl ⟨by rfl, ?_⟩) (by assumption) ?_
            rotate_left 1
            · intro w hSw; (try dsimp only at hSw); (go_simp <;> with_reducible rfl)
            try simp only [Act.put, List.setIfInBounds_toArray, List.set_cons_zero, List.set_cons_succ]
            refine wpAnyH_take (i := 8) (oi := _) (v := ?_) (nth_at rfl) (by kernel_rfl) (by kernel_rfl) (by kernel_rfl) (fun _ _ _ h => h) (Or.inl ⟨by rfl, ?_⟩) (by assumption) ?_
            rotate_left 1
            · intro w hSw; (try dsimp only at hSw); (go_simp <;> with_reducible rfl)
            try simp only [Act.put, List.setIfInBounds_toArray, List.set_cons_zero, List.set_cons_succ]
            refine wpAnyH_take (i := 9) (oi := _) (v := ?_) (nth_at rfl) (by kernel_rfl) (by kernel_rfl) (by kernel_rfl) (fun _ _ _ h => h) (Or.inl ⟨by rfl, ?_⟩) (by assumption) ?_
            rotate_left 1
            · intro w hSw; (try dsimp only at hSw); (go_simp <;> with_reducible rfl)
            try simp only [Act.put, List.setIfInBounds_toArray, List.set_cons_zero, List.set_cons_succ]
            refine wpAnyH_take (i := 10) (oi := _) (v := ?_) (nth_at rfl) (by kernel_rfl) (by kernel_rfl) (by kernel_rfl) (fun _ _ _ h => h) (Or.inl ⟨by rfl, ?_⟩) (by assumption) ?_
            rotate_left 1
            · intro w hSw; (try dsimp only at hSw); (go_simp <;> with_reducible rfl)
            try simp only [Act.put, List.setIfInBounds_toArray, List.set_cons_zero, List.set_cons_succ]
            refine wpAnyH_take (i := 11) (oi := _) (v := ?_) (nth_at rfl) (by kernel_rfl) (by kernel_rfl) (by kernel_rfl) (fun _ _ _ h => h) (Or.inl ⟨by rfl, ?_⟩) (by assumption) ?_
            rotate_left 1
            · intro w hSw; (try dsimp only at hSw); (go_simp <;> with_reducible rfl)
            try simp only [Act.put, List.setIfInBounds_toArray, List.set_cons_zero, List.set_cons_succ]
            refine wpAnyH_take (i := 12) (oi := _) (v := ?_) (nth_at rfl) (by kernel_rfl) (by kernel_rfl) (by kernel_rfl) (fun _ _ _ h => h) (Or.inl ⟨by rfl, ?_⟩) (by assumption) ?_
            rotate_left 1
            · intro w hSw; (try dsimp only at hSw); (go_simp <;> with_reducible rfl)
            try simp only [Act.put, List.setIfInBounds_toArray, List.set_cons_zero, List.set_cons_succ]
            refine wpAnyH_take (i := 13) (oi := _) (v := ?_) (nth_at rfl) (by kernel_rfl) (by kernel_rfl) (by kernel_rfl) (fun _ _ _ h => h) (Or.inl ⟨by rfl, ?_⟩) (by assumption) ?_
            rotate_left 1
            · intro w hSw; (try dsimp only at hSw); (go_simp <;> with_reducible rfl)
            try simp only [Act.put, List.setIfInBounds_toArray, List.set_cons_zero, List.set_cons_succ]
            refine wpAnyH_take (i := 14) (oi := _) (v := ?_) (nth_at rfl) (by kernel_rfl) (by kernel_rfl) (by kernel_rfl) (fun _ _ _ h => h) (Or.inl ⟨by rfl, ?_⟩) (by assumption) ?_
            rotate_left 1
            · intro w hSw; (try dsimp only at hSw); (go_simp <;> with_reducible rfl)
            try simp only [Act.put, List.setIfInBounds_toArray, List.set_cons_zero, List.set_cons_succ]
            refine wpAnyH_take (i := 15) (oi := _) (v := ?_) (nth_at rfl) (by kernel_rfl) (by kernel_rfl) (by kernel_rfl) (fun _ _ _ h => h) (Or.inl ⟨by rfl, ?_⟩) (by assumption) ?_
            rotate_left 1
            · intro w hSw; (try dsimp only at hSw); (go_simp <;> with_reducible rfl)
            try simp only [Act.put, List.setIfInBounds_toArray, List.set_cons_zero, List.set_cons_succ]
            refine wpAnyH_take (i := 16) (oi := _) (v := ?_) (nth_at rfl) (by kernel_rfl) (by kernel_rfl) (by kernel_rfl) (fun _ _ _ h => h) (Or.inl ⟨by rfl, ?_⟩) (by assumption) ?_
            rotate_left 1
            · intro w hSw; (try dsimp only at hSw); (go_simp <;> with_reducible rfl)
            try simp only [Act.put, List.setIfInBounds_toArray, List.set_cons_zero, List.set_cons_succ]
            refine wpAnyH_take (i := 17) (oi := _) (v := ?_) (nth_at rfl) (by kernel_rfl) (by kernel_rfl) (by kernel_rfl) (fun _ _ _ h => h) (Or.inl ⟨by rfl, ?_⟩) (by assumption) ?_
            rotate_left 1
            · intro w hSw; (try dsimp only at hSw); (go_simp <;> with_reducible rfl)
            try simp only [Act.put, List.setIfInBounds_toArray, List.set_cons_zero, List.set_cons_succ]
            refine wpAnyH_take (i := 18) (oi := _) (v := ?_) (nth_at rfl) (by kernel_rfl) (by kernel_rfl) (by kernel_rfl) (fun _ _ _ h => h) (Or.inl ⟨by rfl, ?_⟩) (by assumption) ?_
            rotate_left 1
            · intro w hSw; (try dsimp only at hSw); (go_simp <;> with_reducible rfl)
            try simp only [Act.put, List.setIfInBounds_toArray, List.set_cons_zero, List.set_cons_succ]
            refine wpAnyH_take (i := 19) (oi := _) (v := ?_) (nth_at rfl) (by kernel_rfl) (by kernel_rfl) (by kernel_rfl) (fun _ _ _ h => h) (Or.inl ⟨by rfl, ?_⟩) (by assumption) ?_
            rotate_left 1
            · intro w hSw; (try dsimp only at hSw); (go_simp <;> with_reducible rfl)
            try simp only [Act.put, List.setIfInBounds_toArray, List.set_cons_zero, List.set_cons_succ]
            refine wpAnyH_take (i := 20) (oi := _) (v := ?_) (nth_at rfl) (by kernel_rfl) (by kernel_rfl) (by kernel_rfl) (fun _ _ _ h => h) (Or.inl ⟨by rfl, ?_⟩) (by assumption) ?_
            rotate_left 1
            · intro w hSw; (try dsimp only at hSw); (go_simp <;> with_reducible rfl)
            try simp only [Act.put, List.setIfInBounds_toArray, List.set_cons_zero, List.set_cons_succ]
            refine wpAnyH_take (i := 21) (oi := _) (v := ?_) (nth_at rfl) (by kernel_rfl) (by kernel_rfl) (by kernel_rfl) (fun _ _ _ h => h) (Or.inl ⟨by rfl, ?_⟩) (by assumption) ?_
            rotate_left 1
            · intro w hSw; (try dsimp only at hSw); (go_simp <;> with_reducible rfl)
            try simp only [Act.put, List.setIfInBounds_toArray, List.set_cons_zero, List.set_cons_succ]
            refine wpAnyH_take (i := 22) (oi := _) (v := ?_) (nth_at rfl) (by kernel_rfl) (by kernel_rfl) (by kernel_rfl) (fun _ _ _ h => h) (Or.inl ⟨by rfl, ?_⟩) (by assumption) ?_
            rotate_left 1
            · intro w hSw; (try dsimp only at hSw); (go_simp <;> with_reducible rfl)
            try simp only [Act.put, List.setIfInBounds_toArray, List.set_cons_zero, List.set_cons_succ]
            refine wpAnyH_take (i := 23) (oi := _) (v := ?_) (nth_at rfl) (by kernel_rfl) (by kernel_rfl) (by kernel_rfl) (fun _ _ _ h => h) (Or.inl ⟨by rfl, ?_⟩) (by assumption) ?_
            rotate_left 1
            · intro w hSw; (try dsimp only at hSw); (go_simp <;> with_reducible rfl)
            try simp only [Act.put, List.setIfInBounds_toArray, List.set_cons_zero, List.set_cons_succ]
            refine wpAnyH_done (by kernel_rfl) ?_ _
            refine NoPanic.normal ?_
            go_wp2_with fail
            go_ret
            exact ⟨ret_bool (by rw [← HRF.out]), B2⟩
        · have hkk0 : kk = 0 := by omega
          have hl0 := hlast0 hkk0
          have hne := hobn rfl
          have HS2 : Hid (spB [] l = spB name (l.drop (kk + 1))) := by
            show _ = _
            rw [HS.out, spB, HO.out, hl0, less_nil]
            have : name.isEmpty = false := by simpa using hne
            rw [this]; rfl
          have hgz : decide ((0 : Int) < (kk : Int)) = false := by simp; omega
          clear HS HO hle hle2 hwl hpre hlast0 hobn hl0 hne hkk0
          refine wp_region_noPanic ?_
          refine wp_region_held_drew (S := (fun u => u.cell? ⟨b, o + kk * 5, none⟩ = some (.string ⟨name.toArray⟩) ∧ u.cell? ⟨b, o + kk * 5 + 1, none⟩ = some (.int .i64 kind) ∧ u.cell? ⟨b, o + kk * 5 + 2, none⟩ = some (.string ⟨data.toArray⟩) ∧ u.cell? ⟨b, o + kk * 5 + 3, none⟩ = some (.int .i64 max) ∧ u.cell? ⟨b, o + kk * 5 + 4, none⟩ = some (.slice a2 items.length cap2))) (by kernel_rfl) ?_ (fun hHeld => ?_)
          · exact SK.out _ hB.drew
          refine wpAnyH_take (i := 0) (oi := _) (v := ?_) (nth_at rfl) (by kernel_rfl) (by kernel_rfl) (by kernel_rfl) (fun _ _ _ h => h) (Or.inl ⟨by rfl, ?_⟩) (by assumption) ?_
          rotate_left 1
          · intro w hSw; (try dsimp only at hSw); (go_simp <;> with_reducible rfl)
          try simp only [Act.put, List.setIfInBounds_toArray, List.set_cons_zero, List.set_cons_succ]
          refine wpAnyH_take (i := 1) (oi := _) (v := ?_) (nth_at rfl) (by kernel_rfl) (by kernel_rfl) (by kernel_rfl) (fun _ _ _ h => h) (Or.inl ⟨by rfl, ?_⟩) (by assumption) ?_
          rotate_left 1
          · intro w hSw; (try dsimp only at hSw); (go_simp <;> with_reducible rfl)
          try simp only [Act.put, List.setIfInBounds_toArray, List.set_cons_zero, List.set_cons_succ]
          refine wpAnyH_take (i := 2) (oi := _) (v := ?_) (nth_at rfl) (by kernel_rfl) (by kernel_rfl) (by kernel_rfl) (fun _ _ _ h => h) (Or.inl ⟨by rfl, ?_⟩) (by assumption) ?_
          rotate_left 1
          · intro w hSw; (try dsimp only at hSw); (go_simp <;> with_reducible rfl)
          try simp only [Act.put, List.setIfInBounds_toArray, List.set_cons_zero, List.set_cons_succ]
          refine wpAnyH_take (i := 3) (oi := _) (v := ?_) (nth_at rfl) (by kernel_rfl) (by kernel_rfl) (by kernel_rfl) (fun _ _ _ h => h) (Or.inl ⟨by rfl, ?_⟩) (by assumption) ?_
          rotate_left 1
          · intro w hSw; (try dsimp only at hSw); (go_simp <;> with_reducible rfl)
          try simp only [Act.put, List.setIfInBounds_toArray, List.set_cons_zero, List.set_cons_succ]
          refine wpAnyH_ready (rs := [4]) (by kernel_rfl) (by simp) ?_
          refine AllReadyH.cons (o := _) (nth_at rfl) (fun K hK => ?_) AllReadyH.nil
          go_simp
          with_reducible refine (HI _ (KeepC.of_below (Below.refl wr.heap.size wr).drew)).mono ?_
          rintro e w2 ⟨rfl, hb2⟩
          have hc2 := (Below.refl wr.heap.size wr).drew.trans hb2
          have B2 := hB.trans (hc2.mono hB.size)
          try dsimp only
          refine hK.out _ _ ?_ (fun hHeld => ?_)
          · exact SK.out _ B2
          clear hK K
          try simp only [Act.put, List.setIfInBounds_toArray, List.set_cons_zero, List.set_cons_succ]
          refine wpAnyH_take (i := 5) (oi := _) (v := ?_) (nth_at rfl) (by kernel_rfl) (by kernel_rfl) (by kernel_rfl) (fun _ _ _ h => h) (Or.inl ⟨by rfl, ?_⟩) (by assumption) ?_
          rotate_left 1
          · intro w hSw; (try dsimp only at hSw); (go_simp <;> with_reducible rfl)
          try simp only [Act.put, List.setIfInBounds_toArray, List.set_cons_zero, List.set_cons_succ]
          refine wpAnyH_take (i := 6) (oi := _) (v := ?_) (nth_at rfl) (by kernel_rfl) (by kernel_rfl) (by kernel_rfl) (fun _ _ _ h => h) (Or.inl ⟨by rfl, ?_⟩) (by assumption) ?_
          rotate_left 1
          · intro w hSw; (try dsimp only at hSw); (go_simp <;> with_reducible rfl)
          try simp only [Act.put, List.setIfInBounds_toArray, List.set_cons_zero, List.set_cons_succ]
          refine wpAnyH_take (i := 7) (oi := _) (v := ?_) (nth_at rfl) (by kernel_rfl) (by kernel_rfl) (by kernel_rfl) (fun _ _ _ h => h) (Or.inl ⟨by rfl, ?_⟩) (by assumption) ?_
          rotate_left 1
          · intro w hSw; (try dsimp only at hSw); (go_simp <;> with_reducible rfl)
          try simp only [Act.put, List.setIfInBounds_toArray, List.set_cons_zero, List.set_cons_succ]
          refine wpAnyH_take (i := 8) (oi := _) (v := ?_) (nth_at rfl) (by kernel_rfl) (by kernel_rfl) (by kernel_rfl) (fun _ _ _ h => h) (Or.inl ⟨by rfl, ?_⟩) (by assumption) ?_
          rotate_left 1
          · intro w hSw; (try dsimp only at hSw); (go_simp <;> with_reducible rfl)
          try simp only [Act.put, List.setIfInBounds_toArray, List.set_cons_zero, List.set_cons_succ]
          refine wpAnyH_take (i := 9) (oi := _) (v := ?_) (nth_at rfl) (by kernel_rfl) (by kernel_rfl) (by kernel_rfl) (fun _ _ _ h => h) (Or.inl ⟨by rfl, ?_⟩) (by assumption) ?_
          rotate_left 1
          · intro w hSw; (try dsimp only at hSw); (go_simp <;> with_reducible rfl)
          try simp only [Act.put, List.setIfInBounds_toArray, List.set_cons_zero, List.set_cons_succ]
          refine wpAnyH_take (i := 10) (oi := _) (v := undef) (nth_at rfl) (by kernel_rfl) (by kernel_rfl) (by kernel_rfl) (fun _ _ _ h => h) (Or.inr ⟨by rfl, rfl⟩) (by assumption) ?_
          try simp only [Act.put, List.setIfInBounds_toArray, List.set_cons_zero, List.set_cons_succ]
          refine wpAnyH_take (i := 11) (oi := _) (v := undef) (nth_at rfl) (by kernel_rfl) (by kernel_rfl) (by kernel_rfl) (fun _ _ _ h => h) (Or.inr ⟨by rfl, rfl⟩) (by assumption) ?_
          try simp only [Act.put, List.setIfInBounds_toArray, List.set_cons_zero, List.set_cons_succ]
          refine wpAnyH_take (i := 12) (oi := _) (v := undef) (nth_at rfl) (by kernel_rfl) (by kernel_rfl) (by kernel_rfl) (fun _ _ _ h => h) (Or.inr ⟨by rfl, rfl⟩) (by assumption) ?_
          try simp only [Act.put, List.setIfInBounds_toArray, List.set_cons_zero, List.set_cons_succ]
          refine wpAnyH_take (i := 13) (oi := _) (v := undef) (nth_at rfl) (by kernel_rfl) (by kernel_rfl) (by kernel_rfl) (fun _ _ _ h => h) (Or.inr ⟨by rfl, rfl⟩) (by assumption) ?_
          try simp only [Act.put, List.setIfInBounds_toArray, List.set_cons_zero, List.set_cons_succ]
          refine wpAnyH_take (i := 14) (oi := _) (v := undef) (nth_at rfl) (by kernel_rfl) (by kernel_rfl) (by kernel_rfl) (fun _ _ _ h => h) (Or.inr ⟨by rfl, rfl⟩) (by assumption) ?_
          try simp only [Act.put, List.setIfInBounds_toArray, List.set_cons_zero, List.set_cons_succ]
          refine wpAnyH_take (i := 15) (oi := _) (v := undef) (nth_at rfl) (by kernel_rfl) (by kernel_rfl) (by kernel_rfl) (fun _ _ _ h => h) (Or.inr ⟨by rfl, rfl⟩) (by assumption) ?_
          try simp only [Act.put, List.setIfInBounds_toArray, List.set_cons_zero, List.set_cons_succ]
          refine wpAnyH_take (i := 16) (oi := _) (v := undef) (nth_at rfl) (by kernel_rfl) (by kernel_rfl) (by kernel_rfl) (fun _ _ _ h => h) (Or.inr ⟨by rfl, rfl⟩) (by assumption) ?_
          try simp only [Act.put, List.setIfInBounds_toArray, List.set_cons_zero, List.set_cons_succ]
          refine wpAnyH_take (i := 17) (oi := _) (v := undef) (nth_at rfl) (by kernel_rfl) (by kernel_rfl) (by kernel_rfl) (fun _ _ _ h => h) (Or.inr ⟨by rfl, rfl⟩) (by assumption) ?_
          try simp only [Act.put, List.setIfInBounds_toArray, List.set_cons_zero, List.set_cons_succ]
          refine wpAnyH_take (i := 18) (oi := _) (v := undef) (nth_at rfl) (by kernel_rfl) (by kernel_rfl) (by kernel_rfl) (fun _ _ _ h => h) (Or.inr ⟨by rfl, rfl⟩) (by assumption) ?_
          try simp only [Act.put, List.setIfInBounds_toArray, List.set_cons_zero, List.set_cons_succ]
          refine wpAnyH_take (i := 19) (oi := _) (v := undef) (nth_at rfl) (by kernel_rfl) (by kernel_rfl) (by kernel_rfl) (fun _ _ _ h => h) (Or.inr ⟨by rfl, rfl⟩) (by assumption) ?_
          try simp only [Act.put, List.setIfInBounds_toArray, List.set_cons_zero, List.set_cons_succ]
          refine wpAnyH_take (i := 20) (oi := _) (v := undef) (nth_at rfl) (by kernel_rfl) (by kernel_rfl) (by kernel_rfl) (fun _ _ _ h => h) (Or.inr ⟨by rfl, rfl⟩) (by assumption) ?_
          try simp only [Act.put, List.setIfInBounds_toArray, List.set_cons_zero, List.set_cons_succ]
          refine wpAnyH_take (i := 21) (oi := _) (v := undef) (nth_at rfl) (by kernel_rfl) (by kernel_rfl) (by kernel_rfl) (fun _ _ _ h => h) (Or.inr ⟨by rfl, rfl⟩) (by assumption) ?_
          try simp only [Act.put, List.setIfInBounds_toArray, List.set_cons_zero, List.set_cons_succ]
          refine wpAnyH_take (i := 22) (oi := _) (v := ?_) (nth_at rfl) (by kernel_rfl) (by kernel_rfl) (by kernel_rfl) (fun _ _ _ h => h) (Or.inl ⟨by rfl, ?_⟩) (by assumption) ?_
          rotate_left 1
          · intro w hSw; (try dsimp only at hSw); (go_simp <;> with_reducible rfl)
          try simp only [Act.put, List.setIfInBounds_toArray, List.set_cons_zero, List.set_cons_succ]
          refine wpAnyH_take (i := 23) (oi := _) (v := ?_) (nth_at rfl) (by kernel_rfl) (by kernel_rfl) (by kernel_rfl) (fun _ _ _ h => h) (Or.inl ⟨by rfl, ?_⟩) (by assumption) ?_
          rotate_left 1
          · intro w hSw; (try dsimp only at hSw); (go_simp <;> with_reducible rfl)
          try simp only [Act.put, List.setIfInBounds_toArray, List.set_cons_zero, List.set_cons_succ]
          refine wpAnyH_done (by kernel_rfl) ?_ _
          refine NoPanic.normal ?_
          go_wp2_with fail
          go_roundg (l.length - (kk + 1))
          case measure => omega
          case rel => exact ⟨kk + 1, name, by omega, by omega, by go_num, B2, HS2, ⟨fun h => absurd h (by omega), fun _ h2 => by show name = l[kk].name; rw [HX.out]⟩⟩
    · have hltz : ¬ (kk : Int) < (l.length : Int) := by omega
      have HR2 : Hid (decide (l.length ≤ 20) = R) := by
        show _ = _
        rw [← HR.out, spaceB, hS.out, List.drop_of_length_le (by omega)]; rfl
      clear hS HR hc hL
      by_cases h20 : (l.length : Int) ≤ 20
      · go_wp2_with fail
        go_ret
        exact ⟨ret_bool (by rw [← HR2.out]; simp; omega), hB⟩
      · go_wp2_with fail
        go_ret
        exact ⟨ret_bool (by rw [← HR2.out]; simp; omega), hB⟩
end Go.Proofs.YthclfkhakmcnbaaGreatDoor
/- Walks of layer 10's reference: Cost. -/
namespace Go.Proofs.YthclfkhakmcnbaaGreatDoor
open Go.RowKit Go.Shelf
attribute [local go_sem] Oper.semAt_some
theorem costL_take (l : List ObjD) (k : Nat) (h : k < l.length) : costL (l.take (k + 1)) = costL (l.take k) + costO l[k] := by
  unfold costL
  rw [List.take_succ_eq_append_getElem h, List.map_append, List.sum_append]; simp
theorem small_take {l : List ObjD} (h : SmallS l) (k : Nat) : SmallS (l.take k) := fun x hx => h x (List.mem_of_mem_take hx)
set_option maxRecDepth 100000 in
set_option maxHeartbeats 4000000 in
theorem refCost_any (l : List ObjD) (hl : FitsS l) (v : Value) (w : World) (hv : ObjsV w v l) :
    Calls Tryz.prog 30 #[v] w fun e w' => e = .returned (.int .i64 (costS l)) ∧ Below w.heap.size w w' := by
  obtain ⟨a, cap, rfl, hc⟩ := hv.at
  have hlm : l.length ≤ 1000000 := hl.1
  have HR := fun W (h : KeepC w W) => refRight_any l hl _ W (hv.keep h)
  have hsm : spaceB l = true → SmallS l := small_of
  have hcs : costS l = if spaceB l then costL l else 0 := rfl
  generalize costS l = C at *
  generalize spaceB l = sb at *
  clear hv hl
  cases sb with
  | false =>
    have hC : C = 0 := hcs
    subst hC
    clear hcs hsm
    by_cases hlt : 0 < l.length
    · have hltz : (0 : Int) < (l.length : Int) := by omega
      have HRx := HR w (KeepC.of_below (Below.refl _ w))
      clear HR hc
      go_enter Tryz.func30, Tryz.ntmps30
      go_wp2_with fail
      refine wp_loop_rounds 1 ?_
      rw [rounds_succ]
      go_wp2_with fail
      with_reducible refine HRx.mono ?_
      rintro e w1 ⟨rfl, b1⟩
      go_wp2_with fail
      go_ret
      exact ⟨rfl, b1⟩
    · have hl0 : l.length = 0 := by omega
      clear HR hc hlt
      have hz : decide ((0 : Int) < (l.length : Int)) = false := decide_eq_false (by omega)
      go_enter Tryz.func30, Tryz.ntmps30
      go_wp2_with fail
      refine wp_loop_rounds 1 ?_
      rw [rounds_succ]
      go_wp2_with fail
      go_ret
      exact ⟨rfl, Below.refl _ _⟩
  | true =>
    have hC : C = costL l := hcs
    subst hC
    have hsm' := hsm rfl
    clear hcs hsm
    go_enter Tryz.func30, Tryz.ntmps30
    go_wp2_with fail
    go_loopg [3, 4] l.length (fun gg s3 s4 wr => ∃ kk : Nat, kk ≤ l.length ∧ l.length - kk ≤ gg ∧ s3 = .int .i64 (costL (l.take kk)) ∧ s4 = .int .i64 kk ∧ Below w.heap.size w wr)
    case atStart => exact ⟨0, Nat.zero_le _, by omega, rfl, rfl, Below.refl _ _⟩
    case round =>
      obtain ⟨kk, hkk, hg, rfl, rfl, hB⟩ := hrel
      by_cases hlt : kk < l.length
      · have hltz : (kk : Int) < (l.length : Int) := by omega
        have hkz : (0 : Int) ≤ (kk : Int) := by omega
        obtain ⟨b, o, lv, rfl, hb, hlv, k0, k1, k2, k3, k4⟩ := hc kk hlt
        have HRx := HR wr (KeepC.of_below hB)
        have hs1 := costL_in (small_take hsm' kk)
        have hs2 := hsm' l[kk] (List.getElem_mem _)
        have hsum := costL_take l kk hlt
        have hln : (l.take kk).length ≤ 1000000 := by rw [List.length_take]; omega
        have hCo : costO l[kk] = 10 + l[kk].name.length + l[kk].data.length + l[kk].max := rfl
        clear hc HR hlv k4 k1
        rw [hCo] at hsum
        clear hCo
        generalize hgn1 : costL (l.take (kk + 1)) = n1 at *
        have HN1 := Lib.hid hgn1
        clear hgn1
        generalize costL (l.take kk) = n0 at *
        obtain ⟨x, hx⟩ : ∃ x, l[kk] = x := ⟨_, rfl⟩
        rw [hx] at k0 k2 k3 hs2 hsum
        clear hx
        obtain ⟨name, kind, data, max, items⟩ := x
        dsimp only at *
        have hz1 := ba_size name
        have hz2 := ba_size data
        have hn0 : n0 ≤ 1000000 * 3030 := by omega
        have hw0 : IntKind.i64.wrap (n0 + 10) = n0 + 10 := IntWalk.i64_in _ (by omega)
        have hw1 : IntKind.i64.wrap (n0 + 10 + name.length) = n0 + 10 + name.length := IntWalk.i64_in _ (by omega)
        have hw2 : IntKind.i64.wrap (n0 + 10 + name.length + data.length) = n0 + 10 + name.length + data.length := IntWalk.i64_in _ (by omega)
        have hw3 : IntKind.i64.wrap (n0 + 10 + name.length + data.length + max) = n0 + 10 + name.length + data.length + max := IntWalk.i64_in _ (by omega)
        go_wp2_with fail
        with_reducible refine HRx.mono ?_
        rintro e w1 ⟨rfl, b1⟩
        have B1 := hB.trans (b1.mono hB.size)
        have hk1 := (KeepC.of_below B1).2
        replace k0 := hk1 _ _ _ k0
        replace k2 := hk1 _ _ _ k2
        replace k3 := hk1 _ _ _ k3
        clear HRx b1 hk1
        go_wp2_with fail
        go_quiet (fail)
        have hN : n0 + 10 + name.length + data.length + max = n1 := by omega
        rw [hN]
        have B2 := below_drewN B1 nq
        clear k0 k2 k3 hw0 hw1 hw2 hw3 hN hsum hs1 hs2 hz1 hz2
        go_wp2_with fail
        go_roundg (l.length - (kk + 1))
        case measure => omega
        case rel => exact ⟨kk + 1, by omega, by omega, by rw [HN1.out], by go_num, B2⟩
      · have hltz : ¬ (kk : Int) < (l.length : Int) := by omega
        have hkl : kk = l.length := by omega
        subst hkl
        clear hc HR
        rw [List.take_of_length_le (Nat.le_refl _)]
        generalize hgn : costL l = n at *
        have HGN := Lib.hid hgn
        clear hgn
        have hz : decide (((l.length : Nat) : Int) < (l.length : Int)) = false := by simp
        go_wp2_with fail
        go_ret
        exact ⟨by rw [HGN.out]; rfl, hB⟩
end Go.Proofs.YthclfkhakmcnbaaGreatDoor
