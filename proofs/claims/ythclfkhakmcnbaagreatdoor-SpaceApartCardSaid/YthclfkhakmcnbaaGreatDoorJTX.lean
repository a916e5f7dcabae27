/- Joined: KeptA -/
import Derived.Test.YthclfkhakmcnbaaGreatDoorJTW
import Derived.Test.YthclfkhakmcnbaaGreatDoorJTR
/- The law's own kept. -/
namespace Go.Proofs.YthclfkhakmcnbaaGreatDoor
open Go.RowKit Go.Shelf
attribute [local go_sem] Oper.semAt_some
set_option maxRecDepth 100000 in
set_option maxHeartbeats 8000000 in
theorem kept_any (l m : List ObjD) (hl : FitsS l) (hm : FitsS m) (n : List UInt8) (v u : Value) (w : World) (hv : ObjsV w v l) (hu : ObjsV w u m) :
    Calls Tryz.prog 38 #[v, u, .string ⟨n.toArray⟩] w fun e w' => e = .returned (.bool (keptB l m n)) ∧ Below w.heap.size w w' := by
  have HA := FindR_any l hl.1 v n w hv
  have HB := FindR_any m hm.1 u n w hu
  have hfa : findS l n = if idxS l n < l.length then (idxS l n : Int) else -1 := rfl
  have hfb : findS m n = if idxS m n < m.length then (idxS m n : Int) else -1 := rfl
  rw [hfa] at HA
  rw [hfb] at HB
  obtain ⟨K, hK⟩ : ∃ K, keptB l m n = K := ⟨_, rfl⟩
  have hKH := Lib.hid hK
  rw [hK]
  clear hfa hfb hK
  unfold keptB at hKH
  obtain ⟨av, cv, rfl, hc⟩ := hv.at
  obtain ⟨au, cu, rfl, hd⟩ := hu.at
  have hll := hl.1
  have hml := hm.1
  by_cases h1 : idxS l n < l.length
  · by_cases h2 : idxS m n < m.length
    · rw [if_pos h1] at HA
      rw [if_pos h2] at HB
      have hK : K = sameO (objS l n) (objS m n) := by have := hKH.out; rw [if_pos ⟨h1, h2⟩] at this; exact this.symm
      subst hK
      rw [objS_at h1, objS_at h2]
      obtain ⟨b1, o1, lv, rfl, -, hlv, k0, k1, k2, k3, k4⟩ := hc _ h1
      obtain ⟨b2, o2, lu, rfl, -, hlu, j0, j1, j2, j3, j4⟩ := hd _ h2
      have HO := fun W (h : KeepC w W) => one_any l[idxS l n] m[idxS m n] (hl.2 _ (List.getElem_mem h1)) (hm.2 _ (List.getElem_mem h2)) lv lu W (hlv.keep h) (hlu.keep h)
      obtain ⟨lva, lvc, rfl, -⟩ := hlv.2
      obtain ⟨lua, luc, rfl, -⟩ := hlu.2
      unfold objV at HO
      generalize l[idxS l n] = x at *
      generalize m[idxS m n] = y at *
      generalize idxS l n = i at *
      generalize idxS m n = k at *
      have hi0 : (0 : Int) ≤ (i : Int) := by omega
      have hk0 : (0 : Int) ≤ (k : Int) := by omega
      have hi1 : (i : Int) < (l.length : Int) := by omega
      have hk1 : (k : Int) < (m.length : Int) := by omega
      have Kd : KeepC w w.drew := KeepC.of_below (Below.refl _ w).drew
      clear hc hd hKH hv hu hlv hlu hl hm
      go_enter Tryz.func38, Tryz.ntmps38
      go_wp2_with fail
      with_reducible refine HA.mono ?_
      rintro e w1 ⟨rfl, rfl⟩
      go_wp2_with fail
      with_reducible refine HB.mono ?_
      rintro e w2 ⟨rfl, rfl⟩
      go_wp2_with fail
      refine wp_region_noPanic ?_
      refine wp_region_held_drew (S := (fun u => u.cell? ⟨b1, o1 + i * 5, none⟩ = some (.string ⟨x.name.toArray⟩) ∧ u.cell? ⟨b1, o1 + i * 5 + 1, none⟩ = some (.int .i64 x.kind) ∧ u.cell? ⟨b1, o1 + i * 5 + 2, none⟩ = some (.string ⟨x.data.toArray⟩) ∧ u.cell? ⟨b1, o1 + i * 5 + 3, none⟩ = some (.int .i64 x.max) ∧ u.cell? ⟨b1, o1 + i * 5 + 4, none⟩ = some (.slice lva x.items.length lvc) ∧ u.cell? ⟨b2, o2 + k * 5, none⟩ = some (.string ⟨y.name.toArray⟩) ∧ u.cell? ⟨b2, o2 + k * 5 + 1, none⟩ = some (.int .i64 y.kind) ∧ u.cell? ⟨b2, o2 + k * 5 + 2, none⟩ = some (.string ⟨y.data.toArray⟩) ∧ u.cell? ⟨b2, o2 + k * 5 + 3, none⟩ = some (.int .i64 y.max) ∧ u.cell? ⟨b2, o2 + k * 5 + 4, none⟩ = some (.slice lua y.items.length luc))) (by kernel_rfl) ?_ (fun hHeld => ?_)
      · exact ⟨Kd.2 _ _ _ k0, Kd.2 _ _ _ k1, Kd.2 _ _ _ k2, Kd.2 _ _ _ k3, Kd.2 _ _ _ k4, Kd.2 _ _ _ j0, Kd.2 _ _ _ j1, Kd.2 _ _ _ j2, Kd.2 _ _ _ j3, Kd.2 _ _ _ j4⟩
      refine wpAnyH_take (i := 0) (oi := _) (v := ?_) (nth_at rfl) (by kernel_rfl) (by kernel_rfl) (by kernel_rfl) (fun _ _ _ h => h) (Or.inl ⟨by rfl, ?_⟩) (by assumption) ?_
      rotate_left 1
      · intro w hSw; (try dsimp only at hSw); (go_simp <;> with_reducible rfl)
      try simp only [Act.put, List.setIfInBounds_toArray, List.set_cons_zero, List.set_cons_succ]
      refine wpAnyH_take (i := 1) (oi := _) (v := ?_) (nth_at rfl) (by kernel_rfl) (by kernel_rfl) (by kernel_rfl) (fun _ _ _ h => h) (Or.inl ⟨by rfl, ?_⟩) (by assumption) ?_
      rotate_left 1
      · intro w hSw; (try dsimp only at hSw); (go_simp <;> with_reducible rfl)
      try simp only [Act.put, List.setIfInBounds_toArray, List.set_cons_zero, List.set_cons_succ]
      refine wpAnyH_take (i := 2) (oi := _) (v := ?_) (nth_at rfl) (by kernel_rfl) (by kernel_rfl) (by kernel_rfl) (fun _ _ _ h => h) (Or.inl ⟨by rfl, ?_⟩) (by assumption) ?_
      rotate_left 1
      · intro w hSw; (try dsimp only at hSw); (go_simp <;> with_reducible rfl)
      try simp only [Act.put, List.setIfInBounds_toArray, List.set_cons_zero, List.set_cons_succ]
      refine wpAnyH_take (i := 3) (oi := _) (v := ?_) (nth_at rfl) (by kernel_rfl) (by kernel_rfl) (by kernel_rfl) (fun _ _ _ h => h) (Or.inl ⟨by rfl, ?_⟩) (by assumption) ?_
      rotate_left 1
      · intro w hSw; (try dsimp only at hSw); (go_simp <;> with_reducible rfl)
      try simp only [Act.put, List.setIfInBounds_toArray, List.set_cons_zero, List.set_cons_succ]
      refine wpAnyH_take (i := 4) (oi := _) (v := ?_) (nth_at rfl) (by kernel_rfl) (by kernel_rfl) (by kernel_rfl) (fun _ _ _ h => h) (Or.inl ⟨by rfl, ?_⟩) (by assumption) ?_
      rotate_left 1
      · intro w hSw; (try dsimp only at hSw); (go_simp <;> with_reducible rfl)
      try simp only [Act.put, List.setIfInBounds_toArray, List.set_cons_zero, List.set_cons_succ]
      refine wpAnyH_take (i := 5) (oi := _) (v := ?_) (nth_at rfl) (by kernel_rfl) (by kernel_rfl) (by kernel_rfl) (fun _ _ _ h => h) (Or.inl ⟨by rfl, ?_⟩) (by assumption) ?_
      rotate_left 1
      · intro w hSw; (try dsimp only at hSw); (go_simp <;> with_reducible rfl)
      try simp only [Act.put, List.setIfInBounds_toArray, List.set_cons_zero, List.set_cons_succ]
      refine wpAnyH_take (i := 6) (oi := _) (v := ?_) (nth_at rfl) (by kernel_rfl) (by kernel_rfl) (by kernel_rfl) (fun _ _ _ h => h) (Or.inl ⟨by rfl, ?_⟩) (by assumption) ?_
      rotate_left 1
      · intro w hSw; (try dsimp only at hSw); (go_simp <;> with_reducible rfl)
      try simp only [Act.put, List.setIfInBounds_toArray, List.set_cons_zero, List.set_cons_succ]
      refine wpAnyH_take (i := 7) (oi := _) (v := ?_) (nth_at rfl) (by kernel_rfl) (by kernel_rfl) (by kernel_rfl) (fun _ _ _ h => h) (Or.inl ⟨by rfl, ?_⟩) (by assumption) ?_
      rotate_left 1
      · intro w hSw; (try dsimp only at hSw); (go_simp <;> with_reducible rfl)
      try simp only [Act.put, List.setIfInBounds_toArray, List.set_cons_zero, List.set_cons_succ]
      refine wpAnyH_ready (rs := [8]) (by kernel_rfl) (by simp) ?_
      refine AllReadyH.cons (o := _) (nth_at rfl) (fun K hK => ?_) AllReadyH.nil
      go_simp
      with_reducible refine (HO _ Kd).mono ?_
      rintro e w2 ⟨rfl, b2⟩
      have B2 : Below w.heap.size w w2 := (Below.refl _ w).drew.trans b2
      have K2 := KeepC.of_below B2
      try clear hHeld
      refine hK.out _ _ ?_ (fun hHeld => ?_)
      · exact ⟨K2.2 _ _ _ k0, K2.2 _ _ _ k1, K2.2 _ _ _ k2, K2.2 _ _ _ k3, K2.2 _ _ _ k4, K2.2 _ _ _ j0, K2.2 _ _ _ j1, K2.2 _ _ _ j2, K2.2 _ _ _ j3, K2.2 _ _ _ j4⟩
      clear hK K
      try simp only [Act.put, List.setIfInBounds_toArray, List.set_cons_zero, List.set_cons_succ]
      refine wpAnyH_take (i := 9) (oi := _) (v := ?_) (nth_at rfl) (by kernel_rfl) (by kernel_rfl) (by kernel_rfl) (fun _ _ _ h => h) (Or.inl ⟨by rfl, ?_⟩) (by assumption) ?_
      rotate_left 1
      · intro w hSw; (try dsimp only at hSw); (go_simp <;> with_reducible rfl)
      try simp only [Act.put, List.setIfInBounds_toArray, List.set_cons_zero, List.set_cons_succ]
      refine wpAnyH_done (by kernel_rfl) ?_ _
      refine NoPanic.normal ?_
      try clear hHeld
      go_wp2_with fail
      go_ret
      exact ⟨rfl, B2⟩
    · rw [if_pos h1] at HA
      rw [if_neg h2] at HB
      have hK : K = false := by have := hKH.out; rw [if_neg (fun h => h2 h.2)] at this; simpa [h1] using this.symm
      subst hK
      have hi0 : (0 : Int) ≤ (idxS l n : Int) := by omega
      clear hc hd hKH hv hu hl hm
      generalize idxS l n = i at *
      go_enter Tryz.func38, Tryz.ntmps38
      go_wp2_with fail
      with_reducible refine HA.mono ?_
      rintro e w1 ⟨rfl, rfl⟩
      go_wp2_with fail
      with_reducible refine HB.mono ?_
      rintro e w2 ⟨rfl, rfl⟩
      go_wp2_with fail
      go_ret
      exact ⟨rfl, Below.refl _ _⟩
  · rw [if_neg h1] at HA
    by_cases h2 : idxS m n < m.length
    · rw [if_pos h2] at HB
      have hK : K = false := by have := hKH.out; rw [if_neg (fun h => h1 h.1)] at this; simpa [h2] using this.symm
      subst hK
      have hi0 : (0 : Int) ≤ (idxS m n : Int) := by omega
      clear hc hd hKH hv hu hl hm
      generalize idxS m n = i at *
      go_enter Tryz.func38, Tryz.ntmps38
      go_wp2_with fail
      with_reducible refine HA.mono ?_
      rintro e w1 ⟨rfl, rfl⟩
      go_wp2_with fail
      with_reducible refine HB.mono ?_
      rintro e w2 ⟨rfl, rfl⟩
      go_wp2_with fail
      go_ret
      exact ⟨rfl, Below.refl _ _⟩
    · rw [if_neg h2] at HB
      have hK : K = true := by have := hKH.out; rw [if_neg (fun h => h1 h.1)] at this; simpa [h1, h2] using this.symm
      subst hK
      clear hc hd hKH hv hu hl hm
      go_enter Tryz.func38, Tryz.ntmps38
      go_wp2_with fail
      with_reducible refine HA.mono ?_
      rintro e w1 ⟨rfl, rfl⟩
      go_wp2_with fail
      with_reducible refine HB.mono ?_
      rintro e w2 ⟨rfl, rfl⟩
      go_wp2_with fail
      go_ret
      exact ⟨rfl, Below.refl _ _⟩
end Go.Proofs.YthclfkhakmcnbaaGreatDoor
