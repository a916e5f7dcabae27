/- Joined: RqB; RuKq; LabQ2 -/
import Derived.Test.YtmmdpjliknmhgaaGreatDoorJRP
import Derived.Test.YtmmdpjliknmhgaaGreatDoorJRH
import Derived.Test.YtmmdpjliknmhgaaGreatDoorJRN
/- Walks of the reference, layer 14: Right. -/
namespace Go.Proofs.YtmmdpjliknmhgaaGreatDoor
open Go.RowKit Go.Shelf
attribute [local go_sem] Oper.semAt_some
theorem less_wrap (k m : Nat) (hm : k = m + 1) (h : k ≤ 9223372036854775807) : IntKind.i64.wrap ((k : Int) - 1) = (m : Int) := by
  subst hm
  rw [IntWalk.i64_in _ (by omega)]; omega
set_option maxRecDepth 100000 in
set_option maxHeartbeats 4000000 in
theorem ruRightR_any (l : List RuT) (hl : l.length ≤ 1000000) (hok : ∀ r ∈ l, OkQ r) (v : Value) (w : World) (hv : RulesV w v l) :
    Calls Tryz.prog 22 #[v] w fun e w' => e = .returned (.bool (ruL.right l)) ∧ Below w.heap.size w w' := by
  obtain ⟨a, cap, rfl, -, hc⟩ := hv.at
  have HI := fun r (hr : OkQ r) W => ruIs_any r hr W
  have hstep := Lib.hid (asc_succ l)
  have hlast := Lib.hid (lastR_succ l)
  have hno := Lib.hid (asc_no l)
  have hend : Hid (ruL.asc 0 (l.take l.length) = true → ruL.right l = decide (l.length ≤ 8)) := fun h => by
    rw [List.take_length] at h
    unfold LineS.right
    rw [h]; rfl
  generalize ruL.right l = R at *
  have h0 : Hid (lastR l 0 = 0) := rfl
  generalize hlr : lastR l = lr at *
  clear hv hlr
  go_enter Tryz.func22, Tryz.ntmps22
  go_wp2_with fail
  go_loopg [3] l.length (fun gg s3 wr => ∃ kk : Nat, kk ≤ l.length ∧ l.length - kk ≤ gg ∧ s3 = .int .i64 kk ∧ Below w.heap.size w wr ∧ Hid (ruL.asc 0 (l.take kk) = true))
  case atStart => exact ⟨0, Nat.zero_le _, by omega, rfl, Below.refl _ _, rfl⟩
  case round =>
    obtain ⟨kk, hkk, hg, rfl, hB, A⟩ := hrel
    by_cases hlt : kk < l.length
    · have hltz : (kk : Int) < (l.length : Int) := by omega
      have hkz : (0 : Int) ≤ (kk : Int) := by omega
      obtain ⟨b, o, rfl, -, hcl⟩ := hc kk hlt
      have SK := Lib.hid hcl
      have hBd := hB.drew
      have SPP : Hid (∀ j, kk = j + 1 → ∀ W, KeepC w W → W.cell? ⟨b, o + j * 11, none⟩ = some (.int .i64 (lr kk))) := fun j hj W hW => by
        obtain ⟨b', o', he, -, hp⟩ := hc j (by omega)
        cases he
        rw [hj, hlast.out j (by omega)]
        exact (hp W hW).1
      have hst := hstep.out kk hlt
      rw [A.out, Bool.true_and] at hst
      have HIx := fun W => HI l[kk] (hok _ (List.getElem_mem hlt)) W
      have hN : Hid (ruL.asc 0 (l.take (kk + 1)) = false → R = false) := fun h => hno.out (kk + 1) h
      have hps : Hid (isRX labK filK l[kk] = true → 0 < l[kk].id) := fun h => by have := (isRX_facts h).1.1; omega
      clear hc hcl hstep hlast hno hend A HI hok
      generalize isRX labK filK l[kk] = ir at *
      generalize has : ruL.asc 0 (l.take (kk + 1)) = aq at *
      have hasH := Lib.hid has
      clear has
      obtain ⟨x, hx⟩ : ∃ x, l[kk] = x := ⟨_, rfl⟩
      simp only [hx] at HIx hst hps SK
      clear hx
      obtain ⟨id, ⟨l1, S1, i1⟩, ⟨l2, S2, i2⟩, bu, ⟨k, m, form⟩⟩ := x
      dsimp only at *
      cases ir with
      | false =>
        have hR := hN.out (by rw [hst]; rfl)
        subst hR
        clear hN hst hps SPP
        go_wp2_with fail
        refine wp_region_noPanic ?_
        refine wp_region_held_drew (S := (fun u => Below w.heap.size w u ∧ u.cell? ⟨b, o + kk * 11, none⟩ = some (.int .i64 id) ∧ u.cell? ⟨b, o + kk * 11 + 1, none⟩ = some (.int .i64 l1) ∧ u.cell? ⟨b, o + kk * 11 + 2, none⟩ = some (.int .u64 S1) ∧ u.cell? ⟨b, o + kk * 11 + 3, none⟩ = some (.int .i64 i1) ∧ u.cell? ⟨b, o + kk * 11 + 4, none⟩ = some (.int .i64 l2) ∧ u.cell? ⟨b, o + kk * 11 + 5, none⟩ = some (.int .u64 S2) ∧ u.cell? ⟨b, o + kk * 11 + 6, none⟩ = some (.int .i64 i2) ∧ u.cell? ⟨b, o + kk * 11 + 7, none⟩ = some (.int .i64 bu) ∧ u.cell? ⟨b, o + kk * 11 + 8, none⟩ = some (.int .i64 k) ∧ u.cell? ⟨b, o + kk * 11 + 9, none⟩ = some (.int .i64 m) ∧ u.cell? ⟨b, o + kk * 11 + 10, none⟩ = some (.string ⟨form.toArray⟩))) (by kernel_rfl) ?_ (fun hHeld => ?_)
        · exact ⟨hBd, SK.out _ (KeepC.of_below hBd)⟩
        refine wpAnyH_take (i := 0) (oi := _) (v := ?_) (nth_at rfl) (by kernel_rfl) (by kernel_rfl) (by kernel_rfl) (fun _ _ _ h => h) (Or.inl ⟨by rfl, ?_⟩) (by assumption) ?_
        rotate_left 1
        · intro w hSw; (try dsimp only at hSw); (go_simp <;> with_reducible rfl)
        try simp only [Act.put, List.setIfInBounds_toArray, List.set_cons_zero, List.set_cons_succ]
        refine wpAnyH_take (i := 1) (oi := _) (v := ?_) (nth_at rfl) (by kernel_rfl) (by kernel_rfl) (by kernel_rfl) (fun _ _ _ h => h) (Or.inl ⟨by rfl, ?_⟩) (by assumption) ?_
        rotate_left 1
        · intro w hSw; (try dsimp only at hSw); (go_simp <;> with_reducible rfl)
        try simp only [Act.put, List.setIfInBounds_toArray, List.set_cons_zero, List.set_cons_succ]
        refine wpAnyH_take (i := 2) (oi := _) (v := ?_) (nth_at rfl) (by kernel_rfl) (by kernel_rfl) (by kernel_rfl) (fun _ _ _ h => h) (Or.inl ⟨by rfl, ?_⟩) (by assumption) ?_
        rotate_left 1
        · intro w hSw; (try dsimp only at hSw); (go_simp <;> with_reducible rfl)
        try simp only [Act.put, List.setIfInBounds_toArray, List.set_cons_zero, List.set_cons_succ]
        refine wpAnyH_take (i := 3) (oi := _) (v := ?_) (nth_at rfl) (by kernel_rfl) (by kernel_rfl) (by kernel_rfl) (fun _ _ _ h => h) (Or.inl ⟨by rfl, ?_⟩) (by assumption) ?_
        rotate_left 1
        · intro w hSw; (try dsimp only at hSw); (go_simp <;> with_reducible rfl)
        try simp only [Act.put, List.setIfInBounds_toArray, List.set_cons_zero, List.set_cons_succ]
        refine wpAnyH_ready (rs := [4]) (by kernel_rfl) (by simp) ?_
        refine AllReadyH.cons (o := _) (nth_at rfl) (fun K hK => ?_) AllReadyH.nil
        go_simp
        with_reducible refine (HIx _).mono ?_
        rintro e w2 ⟨rfl, b2⟩
        have B2 := hBd.trans (b2.mono hBd.size)
        refine hK.out _ _ ?_ (fun hHeld => ?_)
        · exact ⟨B2, SK.out _ (KeepC.of_below B2)⟩
        clear hK K
        try simp only [Act.put, List.setIfInBounds_toArray, List.set_cons_zero, List.set_cons_succ]
        refine wpAnyH_take (i := 5) (oi := _) (v := ?_) (nth_at rfl) (by kernel_rfl) (by kernel_rfl) (by kernel_rfl) (fun _ _ _ h => h) (Or.inl ⟨by rfl, ?_⟩) (by assumption) ?_
        rotate_left 1
        · intro w hSw; (try dsimp only at hSw); (go_simp <;> with_reducible rfl)
        try simp only [Act.put, List.setIfInBounds_toArray, List.set_cons_zero, List.set_cons_succ]
        refine wpAnyH_take (i := 6) (oi := _) (v := ?_) (nth_at rfl) (by kernel_rfl) (by kernel_rfl) (by kernel_rfl) (fun _ _ _ h => h) (Or.inl ⟨by rfl, ?_⟩) (by assumption) ?_
        rotate_left 1
        · intro w hSw; (try dsimp only at hSw); (go_simp <;> with_reducible rfl)
        try simp only [Act.put, List.setIfInBounds_toArray, List.set_cons_zero, List.set_cons_succ]
        refine wpAnyH_take (i := 7) (oi := _) (v := undef) (nth_at rfl) (by kernel_rfl) (by kernel_rfl) (by kernel_rfl) (fun _ _ _ h => h) (Or.inr ⟨by rfl, rfl⟩) (by assumption) ?_
        try simp only [Act.put, List.setIfInBounds_toArray, List.set_cons_zero, List.set_cons_succ]
        refine wpAnyH_take (i := 8) (oi := _) (v := undef) (nth_at rfl) (by kernel_rfl) (by kernel_rfl) (by kernel_rfl) (fun _ _ _ h => h) (Or.inr ⟨by rfl, rfl⟩) (by assumption) ?_
        try simp only [Act.put, List.setIfInBounds_toArray, List.set_cons_zero, List.set_cons_succ]
        refine wpAnyH_take (i := 9) (oi := _) (v := undef) (nth_at rfl) (by kernel_rfl) (by kernel_rfl) (by kernel_rfl) (fun _ _ _ h => h) (Or.inr ⟨by rfl, rfl⟩) (by assumption) ?_
        try simp only [Act.put, List.setIfInBounds_toArray, List.set_cons_zero, List.set_cons_succ]
        refine wpAnyH_take (i := 10) (oi := _) (v := undef) (nth_at rfl) (by kernel_rfl) (by kernel_rfl) (by kernel_rfl) (fun _ _ _ h => h) (Or.inr ⟨by rfl, rfl⟩) (by assumption) ?_
        try simp only [Act.put, List.setIfInBounds_toArray, List.set_cons_zero, List.set_cons_succ]
        refine wpAnyH_take (i := 11) (oi := _) (v := undef) (nth_at rfl) (by kernel_rfl) (by kernel_rfl) (by kernel_rfl) (fun _ _ _ h => h) (Or.inr ⟨by rfl, rfl⟩) (by assumption) ?_
        try simp only [Act.put, List.setIfInBounds_toArray, List.set_cons_zero, List.set_cons_succ]
        refine wpAnyH_take (i := 12) (oi := _) (v := undef) (nth_at rfl) (by kernel_rfl) (by kernel_rfl) (by kernel_rfl) (fun _ _ _ h => h) (Or.inr ⟨by rfl, rfl⟩) (by assumption) ?_
        try simp only [Act.put, List.setIfInBounds_toArray, List.set_cons_zero, List.set_cons_succ]
        refine wpAnyH_take (i := 13) (oi := _) (v := undef) (nth_at rfl) (by kernel_rfl) (by kernel_rfl) (by kernel_rfl) (fun _ _ _ h => h) (Or.inr ⟨by rfl, rfl⟩) (by assumption) ?_
        try simp only [Act.put, List.setIfInBounds_toArray, List.set_cons_zero, List.set_cons_succ]
        refine wpAnyH_take (i := 14) (oi := _) (v := undef) (nth_at rfl) (by kernel_rfl) (by kernel_rfl) (by kernel_rfl) (fun _ _ _ h => h) (Or.inr ⟨by rfl, rfl⟩) (by assumption) ?_
        try simp only [Act.put, List.setIfInBounds_toArray, List.set_cons_zero, List.set_cons_succ]
        refine wpAnyH_take (i := 15) (oi := _) (v := undef) (nth_at rfl) (by kernel_rfl) (by kernel_rfl) (by kernel_rfl) (fun _ _ _ h => h) (Or.inr ⟨by rfl, rfl⟩) (by assumption) ?_
        try simp only [Act.put, List.setIfInBounds_toArray, List.set_cons_zero, List.set_cons_succ]
        refine wpAnyH_take (i := 16) (oi := _) (v := undef) (nth_at rfl) (by kernel_rfl) (by kernel_rfl) (by kernel_rfl) (fun _ _ _ h => h) (Or.inr ⟨by rfl, rfl⟩) (by assumption) ?_
        try simp only [Act.put, List.setIfInBounds_toArray, List.set_cons_zero, List.set_cons_succ]
        refine wpAnyH_take (i := 17) (oi := _) (v := undef) (nth_at rfl) (by kernel_rfl) (by kernel_rfl) (by kernel_rfl) (fun _ _ _ h => h) (Or.inr ⟨by rfl, rfl⟩) (by assumption) ?_
        try simp only [Act.put, List.setIfInBounds_toArray, List.set_cons_zero, List.set_cons_succ]
        refine wpAnyH_take (i := 18) (oi := _) (v := undef) (nth_at rfl) (by kernel_rfl) (by kernel_rfl) (by kernel_rfl) (fun _ _ _ h => h) (Or.inr ⟨by rfl, rfl⟩) (by assumption) ?_
        try simp only [Act.put, List.setIfInBounds_toArray, List.set_cons_zero, List.set_cons_succ]
        refine wpAnyH_take (i := 19) (oi := _) (v := undef) (nth_at rfl) (by kernel_rfl) (by kernel_rfl) (by kernel_rfl) (fun _ _ _ h => h) (Or.inr ⟨by rfl, rfl⟩) (by assumption) ?_
        try simp only [Act.put, List.setIfInBounds_toArray, List.set_cons_zero, List.set_cons_succ]
        refine wpAnyH_take (i := 20) (oi := _) (v := undef) (nth_at rfl) (by kernel_rfl) (by kernel_rfl) (by kernel_rfl) (fun _ _ _ h => h) (Or.inr ⟨by rfl, rfl⟩) (by assumption) ?_
        try simp only [Act.put, List.setIfInBounds_toArray, List.set_cons_zero, List.set_cons_succ]
        refine wpAnyH_take (i := 21) (oi := _) (v := undef) (nth_at rfl) (by kernel_rfl) (by kernel_rfl) (by kernel_rfl) (fun _ _ _ h => h) (Or.inr ⟨by rfl, rfl⟩) (by assumption) ?_
        try simp only [Act.put, List.setIfInBounds_toArray, List.set_cons_zero, List.set_cons_succ]
        refine wpAnyH_take (i := 22) (oi := _) (v := undef) (nth_at rfl) (by kernel_rfl) (by kernel_rfl) (by kernel_rfl) (fun _ _ _ h => h) (Or.inr ⟨by rfl, rfl⟩) (by assumption) ?_
        try simp only [Act.put, List.setIfInBounds_toArray, List.set_cons_zero, List.set_cons_succ]
        refine wpAnyH_take (i := 23) (oi := _) (v := ?_) (nth_at rfl) (by kernel_rfl) (by kernel_rfl) (by kernel_rfl) (fun _ _ _ h => h) (Or.inl ⟨by rfl, ?_⟩) (by assumption) ?_
        rotate_left 1
        · intro w hSw; (try dsimp only at hSw); (go_simp <;> with_reducible rfl)
        try simp only [Act.put, List.setIfInBounds_toArray, List.set_cons_zero, List.set_cons_succ]
        refine wpAnyH_done (by kernel_rfl) ?_ _
        refine NoPanic.normal ?_
        clear SK
        go_wp2_with fail
        go_ret
        exact ⟨rfl, hHeld.1⟩
      | true =>
        rw [Bool.true_and] at hst
        have hip := hps.out rfl
        rcases Nat.eq_zero_or_pos kk with hk0 | hk0
        · have A2 : Hid (aq = true) := by show _ = _; rw [hst, hk0, h0.out]; exact decide_eq_true hip
          have hkn : ¬ (0 : Int) < (kk : Int) := by omega
          clear hN hst hps SPP hk0
          go_wp2_with fail
          refine wp_region_noPanic ?_
          refine wp_region_held_drew (S := (fun u => Below w.heap.size w u ∧ u.cell? ⟨b, o + kk * 11, none⟩ = some (.int .i64 id) ∧ u.cell? ⟨b, o + kk * 11 + 1, none⟩ = some (.int .i64 l1) ∧ u.cell? ⟨b, o + kk * 11 + 2, none⟩ = some (.int .u64 S1) ∧ u.cell? ⟨b, o + kk * 11 + 3, none⟩ = some (.int .i64 i1) ∧ u.cell? ⟨b, o + kk * 11 + 4, none⟩ = some (.int .i64 l2) ∧ u.cell? ⟨b, o + kk * 11 + 5, none⟩ = some (.int .u64 S2) ∧ u.cell? ⟨b, o + kk * 11 + 6, none⟩ = some (.int .i64 i2) ∧ u.cell? ⟨b, o + kk * 11 + 7, none⟩ = some (.int .i64 bu) ∧ u.cell? ⟨b, o + kk * 11 + 8, none⟩ = some (.int .i64 k) ∧ u.cell? ⟨b, o + kk * 11 + 9, none⟩ = some (.int .i64 m) ∧ u.cell? ⟨b, o + kk * 11 + 10, none⟩ = some (.string ⟨form.toArray⟩))) (by kernel_rfl) ?_ (fun hHeld => ?_)
          · exact ⟨hBd, SK.out _ (KeepC.of_below hBd)⟩
          refine wpAnyH_take (i := 0) (oi := _) (v := ?_) (nth_at rfl) (by kernel_rfl) (by kernel_rfl) (by kernel_rfl) (fun _ _ _ h => h) (Or.inl ⟨by rfl, ?_⟩) (by assumption) ?_
          rotate_left 1
          · intro w hSw; (try dsimp only at hSw); (go_simp <;> with_reducible rfl)
          try simp only [Act.put, List.setIfInBounds_toArray, List.set_cons_zero, List.set_cons_succ]
          refine wpAnyH_take (i := 1) (oi := _) (v := ?_) (nth_at rfl) (by kernel_rfl) (by kernel_rfl) (by kernel_rfl) (fun _ _ _ h => h) (Or.inl ⟨by rfl, ?_⟩) (by assumption) ?_
          rotate_left 1
          · intro w hSw; (try dsimp only at hSw); (go_simp <;> with_reducible rfl)
          try simp only [Act.put, List.setIfInBounds_toArray, List.set_cons_zero, List.set_cons_succ]
          refine wpAnyH_take (i := 2) (oi := _) (v := ?_) (nth_at rfl) (by kernel_rfl) (by kernel_rfl) (by kernel_rfl) (fun _ _ _ h => h) (Or.inl ⟨by rfl, ?_⟩) (by assumption) ?_
          rotate_left 1
          · intro w hSw; (try dsimp only at hSw); (go_simp <;> with_reducible rfl)
          try simp only [Act.put, List.setIfInBounds_toArray, List.set_cons_zero, List.set_cons_succ]
          refine wpAnyH_take (i := 3) (oi := _) (v := ?_) (nth_at rfl) (by kernel_rfl) (by kernel_rfl) (by kernel_rfl) (fun _ _ _ h => h) (Or.inl ⟨by rfl, ?_⟩) (by assumption) ?_
          rotate_left 1
          · intro w hSw; (try dsimp only at hSw); (go_simp <;> with_reducible rfl)
          try simp only [Act.put, List.setIfInBounds_toArray, List.set_cons_zero, List.set_cons_succ]
          refine wpAnyH_ready (rs := [4]) (by kernel_rfl) (by simp) ?_
          refine AllReadyH.cons (o := _) (nth_at rfl) (fun K hK => ?_) AllReadyH.nil
          go_simp
          with_reducible refine (HIx _).mono ?_
          rintro e w2 ⟨rfl, b2⟩
          have B2 := hBd.trans (b2.mono hBd.size)
          refine hK.out _ _ ?_ (fun hHeld => ?_)
          · exact ⟨B2, SK.out _ (KeepC.of_below B2)⟩
          clear hK K
          try simp only [Act.put, List.setIfInBounds_toArray, List.set_cons_zero, List.set_cons_succ]
          refine wpAnyH_take (i := 5) (oi := _) (v := ?_) (nth_at rfl) (by kernel_rfl) (by kernel_rfl) (by kernel_rfl) (fun _ _ _ h => h) (Or.inl ⟨by rfl, ?_⟩) (by assumption) ?_
          rotate_left 1
          · intro w hSw; (try dsimp only at hSw); (go_simp <;> with_reducible rfl)
          try simp only [Act.put, List.setIfInBounds_toArray, List.set_cons_zero, List.set_cons_succ]
          refine wpAnyH_take (i := 6) (oi := _) (v := ?_) (nth_at rfl) (by kernel_rfl) (by kernel_rfl) (by kernel_rfl) (fun _ _ _ h => h) (Or.inl ⟨by rfl, ?_⟩) (by assumption) ?_
          rotate_left 1
          · intro w hSw; (try dsimp only at hSw); (go_simp <;> with_reducible rfl)
          try simp only [Act.put, List.setIfInBounds_toArray, List.set_cons_zero, List.set_cons_succ]
          refine wpAnyH_take (i := 7) (oi := _) (v := ?_) (nth_at rfl) (by kernel_rfl) (by kernel_rfl) (by kernel_rfl) (fun _ _ _ h => h) (Or.inl ⟨by rfl, ?_⟩) (by assumption) ?_
          rotate_left 1
          · intro w hSw; (try dsimp only at hSw); (go_simp <;> with_reducible rfl)
          try simp only [Act.put, List.setIfInBounds_toArray, List.set_cons_zero, List.set_cons_succ]
          refine wpAnyH_take (i := 8) (oi := _) (v := .bool false) (nth_at rfl) (by kernel_rfl) (by kernel_rfl) (by kernel_rfl) (fun _ _ _ h => h) (Or.inl ⟨by rfl, ?_⟩) (by assumption) ?_
          · intro w hSw; (try dsimp only at hSw); (go_simp <;> first | done | (simp; omega) | omega)
          try simp only [Act.put, List.setIfInBounds_toArray, List.set_cons_zero, List.set_cons_succ]
          refine wpAnyH_take (i := 9) (oi := _) (v := ?_) (nth_at rfl) (by kernel_rfl) (by kernel_rfl) (by kernel_rfl) (fun _ _ _ h => h) (Or.inl ⟨by rfl, ?_⟩) (by assumption) ?_
          rotate_left 1
          · intro w hSw; (try dsimp only at hSw); (go_simp <;> with_reducible rfl)
          try simp only [Act.put, List.setIfInBounds_toArray, List.set_cons_zero, List.set_cons_succ]
          refine wpAnyH_take (i := 10) (oi := _) (v := undef) (nth_at rfl) (by kernel_rfl) (by kernel_rfl) (by kernel_rfl) (fun _ _ _ h => h) (Or.inr ⟨by rfl, rfl⟩) (by assumption) ?_
          try simp only [Act.put, List.setIfInBounds_toArray, List.set_cons_zero, List.set_cons_succ]
          refine wpAnyH_take (i := 11) (oi := _) (v := undef) (nth_at rfl) (by kernel_rfl) (by kernel_rfl) (by kernel_rfl) (fun _ _ _ h => h) (Or.inr ⟨by rfl, rfl⟩) (by assumption) ?_
          try simp only [Act.put, List.setIfInBounds_toArray, List.set_cons_zero, List.set_cons_succ]
          refine wpAnyH_take (i := 12) (oi := _) (v := undef) (nth_at rfl) (by kernel_rfl) (by kernel_rfl) (by kernel_rfl) (fun _ _ _ h => h) (Or.inr ⟨by rfl, rfl⟩) (by assumption) ?_
          try simp only [Act.put, List.setIfInBounds_toArray, List.set_cons_zero, List.set_cons_succ]
          refine wpAnyH_take (i := 13) (oi := _) (v := undef) (nth_at rfl) (by kernel_rfl) (by kernel_rfl) (by kernel_rfl) (fun _ _ _ h => h) (Or.inr ⟨by rfl, rfl⟩) (by assumption) ?_
          try simp only [Act.put, List.setIfInBounds_toArray, List.set_cons_zero, List.set_cons_succ]
          refine wpAnyH_take (i := 14) (oi := _) (v := undef) (nth_at rfl) (by kernel_rfl) (by kernel_rfl) (by kernel_rfl) (fun _ _ _ h => h) (Or.inr ⟨by rfl, rfl⟩) (by assumption) ?_
          try simp only [Act.put, List.setIfInBounds_toArray, List.set_cons_zero, List.set_cons_succ]
          refine wpAnyH_take (i := 15) (oi := _) (v := undef) (nth_at rfl) (by kernel_rfl) (by kernel_rfl) (by kernel_rfl) (fun _ _ _ h => h) (Or.inr ⟨by rfl, rfl⟩) (by assumption) ?_
          try simp only [Act.put, List.setIfInBounds_toArray, List.set_cons_zero, List.set_cons_succ]
          refine wpAnyH_take (i := 16) (oi := _) (v := undef) (nth_at rfl) (by kernel_rfl) (by kernel_rfl) (by kernel_rfl) (fun _ _ _ h => h) (Or.inr ⟨by rfl, rfl⟩) (by assumption) ?_
          try simp only [Act.put, List.setIfInBounds_toArray, List.set_cons_zero, List.set_cons_succ]
          refine wpAnyH_take (i := 17) (oi := _) (v := undef) (nth_at rfl) (by kernel_rfl) (by kernel_rfl) (by kernel_rfl) (fun _ _ _ h => h) (Or.inr ⟨by rfl, rfl⟩) (by assumption) ?_
          try simp only [Act.put, List.setIfInBounds_toArray, List.set_cons_zero, List.set_cons_succ]
          refine wpAnyH_take (i := 18) (oi := _) (v := undef) (nth_at rfl) (by kernel_rfl) (by kernel_rfl) (by kernel_rfl) (fun _ _ _ h => h) (Or.inr ⟨by rfl, rfl⟩) (by assumption) ?_
          try simp only [Act.put, List.setIfInBounds_toArray, List.set_cons_zero, List.set_cons_succ]
          refine wpAnyH_take (i := 19) (oi := _) (v := undef) (nth_at rfl) (by kernel_rfl) (by kernel_rfl) (by kernel_rfl) (fun _ _ _ h => h) (Or.inr ⟨by rfl, rfl⟩) (by assumption) ?_
          try simp only [Act.put, List.setIfInBounds_toArray, List.set_cons_zero, List.set_cons_succ]
          refine wpAnyH_take (i := 20) (oi := _) (v := undef) (nth_at rfl) (by kernel_rfl) (by kernel_rfl) (by kernel_rfl) (fun _ _ _ h => h) (Or.inr ⟨by rfl, rfl⟩) (by assumption) ?_
          try simp only [Act.put, List.setIfInBounds_toArray, List.set_cons_zero, List.set_cons_succ]
          refine wpAnyH_take (i := 21) (oi := _) (v := undef) (nth_at rfl) (by kernel_rfl) (by kernel_rfl) (by kernel_rfl) (fun _ _ _ h => h) (Or.inr ⟨by rfl, rfl⟩) (by assumption) ?_
          try simp only [Act.put, List.setIfInBounds_toArray, List.set_cons_zero, List.set_cons_succ]
          refine wpAnyH_take (i := 22) (oi := _) (v := ?_) (nth_at rfl) (by kernel_rfl) (by kernel_rfl) (by kernel_rfl) (fun _ _ _ h => h) (Or.inl ⟨by rfl, ?_⟩) (by assumption) ?_
          rotate_left 1
          · intro w hSw; (try dsimp only at hSw); (go_simp <;> with_reducible rfl)
          try simp only [Act.put, List.setIfInBounds_toArray, List.set_cons_zero, List.set_cons_succ]
          refine wpAnyH_take (i := 23) (oi := _) (v := ?_) (nth_at rfl) (by kernel_rfl) (by kernel_rfl) (by kernel_rfl) (fun _ _ _ h => h) (Or.inl ⟨by rfl, ?_⟩) (by assumption) ?_
          rotate_left 1
          · intro w hSw; (try dsimp only at hSw); (go_simp <;> with_reducible rfl)
          try simp only [Act.put, List.setIfInBounds_toArray, List.set_cons_zero, List.set_cons_succ]
          refine wpAnyH_done (by kernel_rfl) ?_ _
          refine NoPanic.normal ?_
          clear SK
          go_wp2_with fail
          go_roundg (l.length - (kk + 1))
          case measure => omega
          case rel => exact ⟨kk + 1, by omega, by omega, by go_num, hHeld.1, by show _ = _; rw [hasH.out]; exact A2.out⟩
        · obtain ⟨j, hj⟩ : ∃ j, kk = j + 1 := ⟨kk - 1, by omega⟩
          have SP := Lib.hid (SPP.out j hj)
          have hjw := less_wrap kk j hj (by omega)
          have hjz : (0 : Int) ≤ (j : Int) := by omega
          have hjl : (j : Int) < (l.length : Int) := by omega
          generalize lr kk = la at *
          have hjH := Lib.hid hj
          have hkp : (0 : Int) < (kk : Int) := by omega
          clear hk0 hj SPP hps hip h0
          by_cases h : la < id
          · have hz : ¬ id ≤ la := by omega
            have A2 : Hid (aq = true) := by show _ = _; rw [hst]; exact decide_eq_true h
            clear hN hst h
            go_wp2_with fail
            refine wp_region_noPanic ?_
            refine wp_region_held_drew (S := (fun u => Below w.heap.size w u ∧ u.cell? ⟨b, o + j * 11, none⟩ = some (.int .i64 la) ∧ u.cell? ⟨b, o + kk * 11, none⟩ = some (.int .i64 id) ∧ u.cell? ⟨b, o + kk * 11 + 1, none⟩ = some (.int .i64 l1) ∧ u.cell? ⟨b, o + kk * 11 + 2, none⟩ = some (.int .u64 S1) ∧ u.cell? ⟨b, o + kk * 11 + 3, none⟩ = some (.int .i64 i1) ∧ u.cell? ⟨b, o + kk * 11 + 4, none⟩ = some (.int .i64 l2) ∧ u.cell? ⟨b, o + kk * 11 + 5, none⟩ = some (.int .u64 S2) ∧ u.cell? ⟨b, o + kk * 11 + 6, none⟩ = some (.int .i64 i2) ∧ u.cell? ⟨b, o + kk * 11 + 7, none⟩ = some (.int .i64 bu) ∧ u.cell? ⟨b, o + kk * 11 + 8, none⟩ = some (.int .i64 k) ∧ u.cell? ⟨b, o + kk * 11 + 9, none⟩ = some (.int .i64 m) ∧ u.cell? ⟨b, o + kk * 11 + 10, none⟩ = some (.string ⟨form.toArray⟩))) (by kernel_rfl) ?_ (fun hHeld => ?_)
            · exact ⟨hBd, SP.out _ (KeepC.of_below hBd), SK.out _ (KeepC.of_below hBd)⟩
            refine wpAnyH_take (i := 0) (oi := _) (v := ?_) (nth_at rfl) (by kernel_rfl) (by kernel_rfl) (by kernel_rfl) (fun _ _ _ h => h) (Or.inl ⟨by rfl, ?_⟩) (by assumption) ?_
            rotate_left 1
            · intro w hSw; (try dsimp only at hSw); (go_simp <;> with_reducible rfl)
            try simp only [Act.put, List.setIfInBounds_toArray, List.set_cons_zero, List.set_cons_succ]
            refine wpAnyH_take (i := 1) (oi := _) (v := ?_) (nth_at rfl) (by kernel_rfl) (by kernel_rfl) (by kernel_rfl) (fun _ _ _ h => h) (Or.inl ⟨by rfl, ?_⟩) (by assumption) ?_
            rotate_left 1
            · intro w hSw; (try dsimp only at hSw); (go_simp <;> with_reducible rfl)
            try simp only [Act.put, List.setIfInBounds_toArray, List.set_cons_zero, List.set_cons_succ]
            refine wpAnyH_take (i := 2) (oi := _) (v := ?_) (nth_at rfl) (by kernel_rfl) (by kernel_rfl) (by kernel_rfl) (fun _ _ _ h => h) (Or.inl ⟨by rfl, ?_⟩) (by assumption) ?_
            rotate_left 1
            · intro w hSw; (try dsimp only at hSw); (go_simp <;> with_reducible rfl)
            try simp only [Act.put, List.setIfInBounds_toArray, List.set_cons_zero, List.set_cons_succ]
            refine wpAnyH_take (i := 3) (oi := _) (v := ?_) (nth_at rfl) (by kernel_rfl) (by kernel_rfl) (by kernel_rfl) (fun _ _ _ h => h) (Or.inl ⟨by rfl, ?_⟩) (by assumption) ?_
            rotate_left 1
            · intro w hSw; (try dsimp only at hSw); (go_simp <;> with_reducible rfl)
            try simp only [Act.put, List.setIfInBounds_toArray, List.set_cons_zero, List.set_cons_succ]
            refine wpAnyH_ready (rs := [4]) (by kernel_rfl) (by simp) ?_
            refine AllReadyH.cons (o := _) (nth_at rfl) (fun K hK => ?_) AllReadyH.nil
            go_simp
            with_reducible refine (HIx _).mono ?_
            rintro e w2 ⟨rfl, b2⟩
            have B2 := hBd.trans (b2.mono hBd.size)
            refine hK.out _ _ ?_ (fun hHeld => ?_)
            · exact ⟨B2, SP.out _ (KeepC.of_below B2), SK.out _ (KeepC.of_below B2)⟩
            clear hK K
            try simp only [Act.put, List.setIfInBounds_toArray, List.set_cons_zero, List.set_cons_succ]
            refine wpAnyH_take (i := 5) (oi := _) (v := ?_) (nth_at rfl) (by kernel_rfl) (by kernel_rfl) (by kernel_rfl) (fun _ _ _ h => h) (Or.inl ⟨by rfl, ?_⟩) (by assumption) ?_
            rotate_left 1
            · intro w hSw; (try dsimp only at hSw); (go_simp <;> with_reducible rfl)
            try simp only [Act.put, List.setIfInBounds_toArray, List.set_cons_zero, List.set_cons_succ]
            refine wpAnyH_take (i := 6) (oi := _) (v := ?_) (nth_at rfl) (by kernel_rfl) (by kernel_rfl) (by kernel_rfl) (fun _ _ _ h => h) (Or.inl ⟨by rfl, ?_⟩) (by assumption) ?_
            rotate_left 1
            · intro w hSw; (try dsimp only at hSw); (go_simp <;> with_reducible rfl)
            try simp only [Act.put, List.setIfInBounds_toArray, List.set_cons_zero, List.set_cons_succ]
            refine wpAnyH_take (i := 7) (oi := _) (v := ?_) (nth_at rfl) (by kernel_rfl) (by kernel_rfl) (by kernel_rfl) (fun _ _ _ h => h) (Or.inl ⟨by rfl, ?_⟩) (by assumption) ?_
            rotate_left 1
            · intro w hSw; (try dsimp only at hSw); (go_simp <;> with_reducible rfl)
            try simp only [Act.put, List.setIfInBounds_toArray, List.set_cons_zero, List.set_cons_succ]
            refine wpAnyH_take (i := 8) (oi := _) (v := .bool true) (nth_at rfl) (by kernel_rfl) (by kernel_rfl) (by kernel_rfl) (fun _ _ _ h => h) (Or.inl ⟨by rfl, ?_⟩) (by assumption) ?_
            · intro w hSw; (try dsimp only at hSw); (go_simp <;> first | done | (simp; omega) | omega)
            try simp only [Act.put, List.setIfInBounds_toArray, List.set_cons_zero, List.set_cons_succ]
            refine wpAnyH_take (i := 9) (oi := _) (v := ?_) (nth_at rfl) (by kernel_rfl) (by kernel_rfl) (by kernel_rfl) (fun _ _ _ h => h) (Or.inl ⟨by rfl, ?_⟩) (by assumption) ?_
            rotate_left 1
            · intro w hSw; (try dsimp only at hSw); (go_simp <;> with_reducible rfl)
            try simp only [Act.put, List.setIfInBounds_toArray, List.set_cons_zero, List.set_cons_succ]
            refine wpAnyH_take (i := 10) (oi := _) (v := ?_) (nth_at rfl) (by kernel_rfl) (by kernel_rfl) (by kernel_rfl) (fun _ _ _ h => h) (Or.inl ⟨by rfl, ?_⟩) (by assumption) ?_
            rotate_left 1
            · intro w hSw; (try dsimp only at hSw); (go_simp <;> with_reducible rfl)
            try simp only [Act.put, List.setIfInBounds_toArray, List.set_cons_zero, List.set_cons_succ]
            refine wpAnyH_take (i := 11) (oi := _) (v := ?_) (nth_at rfl) (by kernel_rfl) (by kernel_rfl) (by kernel_rfl) (fun _ _ _ h => h) (Or.inl ⟨by rfl, ?_⟩) (by assumption) ?_
            rotate_left 1
            · intro w hSw; (try dsimp only at hSw); (go_simp <;> with_reducible rfl)
            try simp only [Act.put, List.setIfInBounds_toArray, List.set_cons_zero, List.set_cons_succ]
            refine wpAnyH_take (i := 12) (oi := _) (v := .int .i64 (j : Nat)) (nth_at rfl) (by kernel_rfl) (by kernel_rfl) (by kernel_rfl) (fun _ _ _ h => h) (Or.inl ⟨by rfl, ?_⟩) (by assumption) ?_
            · intro w hSw; (try dsimp only at hSw); (go_simp <;> first | done | (rw [hjw]; done) | (simp [hjw]; done))
            try simp only [Act.put, List.setIfInBounds_toArray, List.set_cons_zero, List.set_cons_succ]
            refine wpAnyH_take (i := 13) (oi := _) (v := ?_) (nth_at rfl) (by kernel_rfl) (by kernel_rfl) (by kernel_rfl) (fun _ _ _ h => h) (Or.inl ⟨by rfl, ?_⟩) (by assumption) ?_
            rotate_left 1
            · intro w hSw; (try dsimp only at hSw); (go_simp <;> with_reducible rfl)
            try simp only [Act.put, List.setIfInBounds_toArray, List.set_cons_zero, List.set_cons_succ]
            refine wpAnyH_take (i := 14) (oi := _) (v := ?_) (nth_at rfl) (by kernel_rfl) (by kernel_rfl) (by kernel_rfl) (fun _ _ _ h => h) (Or.inl ⟨by rfl, ?_⟩) (by assumption) ?_
            rotate_left 1
            · intro w hSw; (try dsimp only at hSw); (go_simp <;> with_reducible rfl)
            try simp only [Act.put, List.setIfInBounds_toArray, List.set_cons_zero, List.set_cons_succ]
            refine wpAnyH_take (i := 15) (oi := _) (v := ?_) (nth_at rfl) (by kernel_rfl) (by kernel_rfl) (by kernel_rfl) (fun _ _ _ h => h) (Or.inl ⟨by rfl, ?_⟩) (by assumption) ?_
            rotate_left 1
            · intro w hSw; (try dsimp only at hSw); (go_simp <;> with_reducible rfl)
            try simp only [Act.put, List.setIfInBounds_toArray, List.set_cons_zero, List.set_cons_succ]
            refine wpAnyH_take (i := 16) (oi := _) (v := ?_) (nth_at rfl) (by kernel_rfl) (by kernel_rfl) (by kernel_rfl) (fun _ _ _ h => h) (Or.inl ⟨by rfl, ?_⟩) (by assumption) ?_
            rotate_left 1
            · intro w hSw; (try dsimp only at hSw); (go_simp <;> with_reducible rfl)
            try simp only [Act.put, List.setIfInBounds_toArray, List.set_cons_zero, List.set_cons_succ]
            refine wpAnyH_take (i := 17) (oi := _) (v := ?_) (nth_at rfl) (by kernel_rfl) (by kernel_rfl) (by kernel_rfl) (fun _ _ _ h => h) (Or.inl ⟨by rfl, ?_⟩) (by assumption) ?_
            rotate_left 1
            · intro w hSw; (try dsimp only at hSw); (go_simp <;> with_reducible rfl)
            try simp only [Act.put, List.setIfInBounds_toArray, List.set_cons_zero, List.set_cons_succ]
            refine wpAnyH_take (i := 18) (oi := _) (v := ?_) (nth_at rfl) (by kernel_rfl) (by kernel_rfl) (by kernel_rfl) (fun _ _ _ h => h) (Or.inl ⟨by rfl, ?_⟩) (by assumption) ?_
            rotate_left 1
            · intro w hSw; (try dsimp only at hSw); (go_simp <;> with_reducible rfl)
            try simp only [Act.put, List.setIfInBounds_toArray, List.set_cons_zero, List.set_cons_succ]
            refine wpAnyH_take (i := 19) (oi := _) (v := ?_) (nth_at rfl) (by kernel_rfl) (by kernel_rfl) (by kernel_rfl) (fun _ _ _ h => h) (Or.inl ⟨by rfl, ?_⟩) (by assumption) ?_
            rotate_left 1
            · intro w hSw; (try dsimp only at hSw); (go_simp <;> with_reducible rfl)
            try simp only [Act.put, List.setIfInBounds_toArray, List.set_cons_zero, List.set_cons_succ]
            refine wpAnyH_take (i := 20) (oi := _) (v := ?_) (nth_at rfl) (by kernel_rfl) (by kernel_rfl) (by kernel_rfl) (fun _ _ _ h => h) (Or.inl ⟨by rfl, ?_⟩) (by assumption) ?_
            rotate_left 1
            · intro w hSw; (try dsimp only at hSw); (go_simp <;> with_reducible rfl)
            try simp only [Act.put, List.setIfInBounds_toArray, List.set_cons_zero, List.set_cons_succ]
            refine wpAnyH_take (i := 21) (oi := _) (v := ?_) (nth_at rfl) (by kernel_rfl) (by kernel_rfl) (by kernel_rfl) (fun _ _ _ h => h) (Or.inl ⟨by rfl, ?_⟩) (by assumption) ?_
            rotate_left 1
            · intro w hSw; (try dsimp only at hSw); (go_simp <;> with_reducible rfl)
            try simp only [Act.put, List.setIfInBounds_toArray, List.set_cons_zero, List.set_cons_succ]
            refine wpAnyH_take (i := 22) (oi := _) (v := ?_) (nth_at rfl) (by kernel_rfl) (by kernel_rfl) (by kernel_rfl) (fun _ _ _ h => h) (Or.inl ⟨by rfl, ?_⟩) (by assumption) ?_
            rotate_left 1
            · intro w hSw; (try dsimp only at hSw); (go_simp <;> with_reducible rfl)
            try simp only [Act.put, List.setIfInBounds_toArray, List.set_cons_zero, List.set_cons_succ]
            refine wpAnyH_take (i := 23) (oi := _) (v := ?_) (nth_at rfl) (by kernel_rfl) (by kernel_rfl) (by kernel_rfl) (fun _ _ _ h => h) (Or.inl ⟨by rfl, ?_⟩) (by assumption) ?_
            rotate_left 1
            · intro w hSw; (try dsimp only at hSw); (go_simp <;> with_reducible rfl)
            try simp only [Act.put, List.setIfInBounds_toArray, List.set_cons_zero, List.set_cons_succ]
            refine wpAnyH_done (by kernel_rfl) ?_ _
            refine NoPanic.normal ?_
            clear SK SP
            go_wp2_with fail
            go_roundg (l.length - (kk + 1))
            case measure => omega
            case rel => exact ⟨kk + 1, by omega, by omega, by go_num, hHeld.1, by show _ = _; rw [hasH.out]; exact A2.out⟩
          · have hz : id ≤ la := by omega
            have hR := hN.out (by rw [hst]; exact decide_eq_false h)
            subst hR
            clear hN hst h
            go_wp2_with fail
            refine wp_region_noPanic ?_
            refine wp_region_held_drew (S := (fun u => Below w.heap.size w u ∧ u.cell? ⟨b, o + j * 11, none⟩ = some (.int .i64 la) ∧ u.cell? ⟨b, o + kk * 11, none⟩ = some (.int .i64 id) ∧ u.cell? ⟨b, o + kk * 11 + 1, none⟩ = some (.int .i64 l1) ∧ u.cell? ⟨b, o + kk * 11 + 2, none⟩ = some (.int .u64 S1) ∧ u.cell? ⟨b, o + kk * 11 + 3, none⟩ = some (.int .i64 i1) ∧ u.cell? ⟨b, o + kk * 11 + 4, none⟩ = some (.int .i64 l2) ∧ u.cell? ⟨b, o + kk * 11 + 5, none⟩ = some (.int .u64 S2) ∧ u.cell? ⟨b, o + kk * 11 + 6, none⟩ = some (.int .i64 i2) ∧ u.cell? ⟨b, o + kk * 11 + 7, none⟩ = some (.int .i64 bu) ∧ u.cell? ⟨b, o + kk * 11 + 8, none⟩ = some (.int .i64 k) ∧ u.cell? ⟨b, o + kk * 11 + 9, none⟩ = some (.int .i64 m) ∧ u.cell? ⟨b, o + kk * 11 + 10, none⟩ = some (.string ⟨form.toArray⟩))) (by kernel_rfl) ?_ (fun hHeld => ?_)
            · exact ⟨hBd, SP.out _ (KeepC.of_below hBd), SK.out _ (KeepC.of_below hBd)⟩
            refine wpAnyH_take (i := 0) (oi := _) (v := ?_) (nth_at rfl) (by kernel_rfl) (by kernel_rfl) (by kernel_rfl) (fun _ _ _ h => h) (Or.inl ⟨by rfl, ?_⟩) (by assumption) ?_
            rotate_left 1
            · intro w hSw; (try dsimp only at hSw); (go_simp <;> with_reducible rfl)
            try simp only [Act.put, List.setIfInBounds_toArray, List.set_cons_zero, List.set_cons_succ]
            refine wpAnyH_take (i := 1) (oi := _) (v := ?_) (nth_at rfl) (by kernel_rfl) (by kernel_rfl) (by kernel_rfl) (fun _ _ _ h => h) (Or.inl ⟨by rfl, ?_⟩) (by assumption) ?_
            rotate_left 1
            · intro w hSw; (try dsimp only at hSw); (go_simp <;> with_reducible rfl)
            try simp only [Act.put, List.setIfInBounds_toArray, List.set_cons_zero, List.set_cons_succ]
            refine wpAnyH_take (i := 2) (oi := _) (v := ?_) (nth_at rfl) (by kernel_rfl) (by kernel_rfl) (by kernel_rfl) (fun _ _ _ h => h) (Or.inl ⟨by rfl, ?_⟩) (by assumption) ?_
            rotate_left 1
            · intro w hSw; (try dsimp only at hSw); (go_simp <;> with_reducible rfl)
            try simp only [Act.put, List.setIfInBounds_toArray, List.set_cons_zero, List.set_cons_succ]
            refine wpAnyH_take (i := 3) (oi := _) (v := ?_) (nth_at rfl) (by kernel_rfl) (by kernel_rfl) (by kernel_rfl) (fun _ _ _ h => h) (Or.inl ⟨by rfl, ?_⟩) (by assumption) ?_
            rotate_left 1
            · intro w hSw; (try dsimp only at hSw); (go_simp <;> with_reducible rfl)
            try simp only [Act.put, List.setIfInBounds_toArray, List.set_cons_zero, List.set_cons_succ]
            refine wpAnyH_ready (rs := [4]) (by kernel_rfl) (by simp) ?_
            refine AllReadyH.cons (o := _) (nth_at rfl) (fun K hK => ?_) AllReadyH.nil
            go_simp
            with_reducible refine (HIx _).mono ?_
            rintro e w2 ⟨rfl, b2⟩
            have B2 := hBd.trans (b2.mono hBd.size)
            refine hK.out _ _ ?_ (fun hHeld => ?_)
            · exact ⟨B2, SP.out _ (KeepC.of_below B2), SK.out _ (KeepC.of_below B2)⟩
            clear hK K
            try simp only [Act.put, List.setIfInBounds_toArray, List.set_cons_zero, List.set_cons_succ]
            refine wpAnyH_take (i := 5) (oi := _) (v := ?_) (nth_at rfl) (by kernel_rfl) (by kernel_rfl) (by kernel_rfl) (fun _ _ _ h => h) (Or.inl ⟨by rfl, ?_⟩) (by assumption) ?_
            rotate_left 1
            · intro w hSw; (try dsimp only at hSw); (go_simp <;> with_reducible rfl)
            try simp only [Act.put, List.setIfInBounds_toArray, List.set_cons_zero, List.set_cons_succ]
            refine wpAnyH_take (i := 6) (oi := _) (v := ?_) (nth_at rfl) (by kernel_rfl) (by kernel_rfl) (by kernel_rfl) (fun _ _ _ h => h) (Or.inl ⟨by rfl, ?_⟩) (by assumption) ?_
            rotate_left 1
            · intro w hSw; (try dsimp only at hSw); (go_simp <;> with_reducible rfl)
            try simp only [Act.put, List.setIfInBounds_toArray, List.set_cons_zero, List.set_cons_succ]
            refine wpAnyH_take (i := 7) (oi := _) (v := ?_) (nth_at rfl) (by kernel_rfl) (by kernel_rfl) (by kernel_rfl) (fun _ _ _ h => h) (Or.inl ⟨by rfl, ?_⟩) (by assumption) ?_
            rotate_left 1
            · intro w hSw; (try dsimp only at hSw); (go_simp <;> with_reducible rfl)
            try simp only [Act.put, List.setIfInBounds_toArray, List.set_cons_zero, List.set_cons_succ]
            refine wpAnyH_take (i := 8) (oi := _) (v := .bool true) (nth_at rfl) (by kernel_rfl) (by kernel_rfl) (by kernel_rfl) (fun _ _ _ h => h) (Or.inl ⟨by rfl, ?_⟩) (by assumption) ?_
            · intro w hSw; (try dsimp only at hSw); (go_simp <;> first | done | (simp; omega) | omega)
            try simp only [Act.put, List.setIfInBounds_toArray, List.set_cons_zero, List.set_cons_succ]
            refine wpAnyH_take (i := 9) (oi := _) (v := ?_) (nth_at rfl) (by kernel_rfl) (by kernel_rfl) (by kernel_rfl) (fun _ _ _ h => h) (Or.inl ⟨by rfl, ?_⟩) (by assumption) ?_
            rotate_left 1
            · intro w hSw; (try dsimp only at hSw); (go_simp <;> with_reducible rfl)
            try simp only [Act.put, List.setIfInBounds_toArray, List.set_cons_zero, List.set_cons_succ]
            refine wpAnyH_take (i := 10) (oi := _) (v := ?_) (nth_at rfl) (by kernel_rfl) (by kernel_rfl) (by kernel_rfl) (fun _ _ _ h => h) (Or.inl ⟨by rfl, ?_⟩) (by assumption) ?_
            rotate_left 1
            · intro w hSw; (try dsimp only at hSw); (go_simp <;> with_reducible rfl)
            try simp only [Act.put, List.setIfInBounds_toArray, List.set_cons_zero, List.set_cons_succ]
            refine wpAnyH_take (i := 11) (oi := _) (v := ?_) (nth_at rfl) (by kernel_rfl) (by kernel_rfl) (by kernel_rfl) (fun _ _ _ h => h) (Or.inl ⟨by rfl, ?_⟩) (by assumption) ?_
            rotate_left 1
            · intro w hSw; (try dsimp only at hSw); (go_simp <;> with_reducible rfl)
            try simp only [Act.put, List.setIfInBounds_toArray, List.set_cons_zero, List.set_cons_succ]
            refine wpAnyH_take (i := 12) (oi := _) (v := .int .i64 (j : Nat)) (nth_at rfl) (by kernel_rfl) (by kernel_rfl) (by kernel_rfl) (fun _ _ _ h => h) (Or.inl ⟨by rfl, ?_⟩) (by assumption) ?_
            · intro w hSw; (try dsimp only at hSw); (go_simp <;> first | done | (rw [hjw]; done) | (simp [hjw]; done))
            try simp only [Act.put, List.setIfInBounds_toArray, List.set_cons_zero, List.set_cons_succ]
            refine wpAnyH_take (i := 13) (oi := _) (v := ?_) (nth_at rfl) (by kernel_rfl) (by kernel_rfl) (by kernel_rfl) (fun _ _ _ h => h) (Or.inl ⟨by rfl, ?_⟩) (by assumption) ?_
            rotate_left 1
            · intro w hSw; (try dsimp only at hSw); (go_simp <;> with_reducible rfl)
            try simp only [Act.put, List.setIfInBounds_toArray, List.set_cons_zero, List.set_cons_succ]
            refine wpAnyH_take (i := 14) (oi := _) (v := ?_) (nth_at rfl) (by kernel_rfl) (by kernel_rfl) (by kernel_rfl) (fun _ _ _ h => h) (Or.inl ⟨by rfl, ?_⟩) (by assumption) ?_
            rotate_left 1
            · intro w hSw; (try dsimp only at hSw); (go_simp <;> with_reducible rfl)
            try simp only [Act.put, List.setIfInBounds_toArray, List.set_cons_zero, List.set_cons_succ]
            refine wpAnyH_take (i := 15) (oi := _) (v := ?_) (nth_at rfl) (by kernel_rfl) (by kernel_rfl) (by kernel_rfl) (fun _ _ _ h => h) (Or.inl ⟨by rfl, ?_⟩) (by assumption) ?_
            rotate_left 1
            · intro w hSw; (try dsimp only at hSw); (go_simp <;> with_reducible rfl)
            try simp only [Act.put, List.setIfInBounds_toArray, List.set_cons_zero, List.set_cons_succ]
            refine wpAnyH_take (i := 16) (oi := _) (v := ?_) (nth_at rfl) (by kernel_rfl) (by kernel_rfl) (by kernel_rfl) (fun _ _ _ h => h) (Or.inl ⟨by rfl, ?_⟩) (by assumption) ?_
            rotate_left 1
            · intro w hSw; (try dsimp only at hSw); (go_simp <;> with_reducible rfl)
            try simp only [Act.put, List.setIfInBounds_toArray, List.set_cons_zero, List.set_cons_succ]
            refine wpAnyH_take (i := 17) (oi := _) (v := ?_) (nth_at rfl) (by kernel_rfl) (by kernel_rfl) (by kernel_rfl) (fun _ _ _ h => h) (Or.inl ⟨by rfl, ?_⟩) (by assumption) ?_
            rotate_left 1
            · intro w hSw; (try dsimp only at hSw); (go_simp <;> with_reducible rfl)
            try simp only [Act.put, List.setIfInBounds_toArray, List.set_cons_zero, List.set_cons_succ]
            refine wpAnyH_take (i := 18) (oi := _) (v := ?_) (nth_at rfl) (by kernel_rfl) (by kernel_rfl) (by kernel_rfl) (fun _ _ _ h => h) (Or.inl ⟨by rfl, ?_⟩) (by assumption) ?_
            rotate_left 1
            · intro w hSw; (try dsimp only at hSw); (go_simp <;> with_reducible rfl)
            try simp only [Act.put, List.setIfInBounds_toArray, List.set_cons_zero, List.set_cons_succ]
            refine wpAnyH_take (i := 19) (oi := _) (v := ?_) (nth_at rfl) (by kernel_rfl) (by kernel_rfl) (by kernel_rfl) (fun _ _ _ h => h) (Or.inl ⟨by rfl, ?_⟩) (by assumption) ?_
            rotate_left 1
            · intro w hSw; (try dsimp only at hSw); (go_simp <;> with_reducible rfl)
            try simp only [Act.put, List.setIfInBounds_toArray, List.set_cons_zero, List.set_cons_succ]
            refine wpAnyH_take (i := 20) (oi := _) (v := ?_) (nth_at rfl) (by kernel_rfl) (by kernel_rfl) (by kernel_rfl) (fun _ _ _ h => h) (Or.inl ⟨by rfl, ?_⟩) (by assumption) ?_
            rotate_left 1
            · intro w hSw; (try dsimp only at hSw); (go_simp <;> with_reducible rfl)
            try simp only [Act.put, List.setIfInBounds_toArray, List.set_cons_zero, List.set_cons_succ]
            refine wpAnyH_take (i := 21) (oi := _) (v := ?_) (nth_at rfl) (by kernel_rfl) (by kernel_rfl) (by kernel_rfl) (fun _ _ _ h => h) (Or.inl ⟨by rfl, ?_⟩) (by assumption) ?_
            rotate_left 1
            · intro w hSw; (try dsimp only at hSw); (go_simp <;> with_reducible rfl)
            try simp only [Act.put, List.setIfInBounds_toArray, List.set_cons_zero, List.set_cons_succ]
            refine wpAnyH_take (i := 22) (oi := _) (v := ?_) (nth_at rfl) (by kernel_rfl) (by kernel_rfl) (by kernel_rfl) (fun _ _ _ h => h) (Or.inl ⟨by rfl, ?_⟩) (by assumption) ?_
            rotate_left 1
            · intro w hSw; (try dsimp only at hSw); (go_simp <;> with_reducible rfl)
            try simp only [Act.put, List.setIfInBounds_toArray, List.set_cons_zero, List.set_cons_succ]
            refine wpAnyH_take (i := 23) (oi := _) (v := ?_) (nth_at rfl) (by kernel_rfl) (by kernel_rfl) (by kernel_rfl) (fun _ _ _ h => h) (Or.inl ⟨by rfl, ?_⟩) (by assumption) ?_
            rotate_left 1
            · intro w hSw; (try dsimp only at hSw); (go_simp <;> with_reducible rfl)
            try simp only [Act.put, List.setIfInBounds_toArray, List.set_cons_zero, List.set_cons_succ]
            refine wpAnyH_done (by kernel_rfl) ?_ _
            refine NoPanic.normal ?_
            clear SK SP
            go_wp2_with fail
            go_ret
            exact ⟨rfl, hHeld.1⟩
    · have hltz : ¬ (kk : Int) < (l.length : Int) := by omega
      have hkl : kk = l.length := by omega
      subst hkl
      have hF := Lib.hid (hend.out A.out)
      clear hc hstep hlast hno hend A HI hok
      by_cases h8 : l.length ≤ 8
      · have h8z : (l.length : Int) ≤ 8 := by omega
        have hR : R = true := by rw [hF.out]; exact decide_eq_true h8
        subst hR
        go_wp2_with fail
        go_ret
        exact ⟨rfl, hB⟩
      · have h8z : ¬ (l.length : Int) ≤ 8 := by omega
        have hR : R = false := by rw [hF.out]; exact decide_eq_false h8
        subst hR
        go_wp2_with fail
        go_ret
        exact ⟨rfl, hB⟩
end Go.Proofs.YtmmdpjliknmhgaaGreatDoor
/- What the laws that hold the reference lean on, layer 14. -/
namespace Go.Proofs.YtmmdpjliknmhgaaGreatDoor
open Go.RowKit
theorem fewRu_q (l : List RuT) (h : ∀ r ∈ l, r.src.2.1 < 18446744073709551616 ∧ r.dst.2.1 < 18446744073709551616) : ∀ r ∈ fewRu l, OkQ r := by
  intro r hr
  have h1 := fewRu_ok l h r hr
  refine ⟨h1.1, h1.2.1, ?_⟩
  unfold fewRu at hr
  obtain ⟨x, -, rfl⟩ := List.mem_map.1 hr
  show (x.what.2.2.take 50).length ≤ 1000
  rw [List.length_take]; omega
end Go.Proofs.YtmmdpjliknmhgaaGreatDoor
/- Walks of the document's answer for layer 5: Print. -/
namespace Go.Proofs.YtmmdpjliknmhgaaGreatDoor
open Go.RowKit Go.Shelf
attribute [local go_sem] Oper.semAt_some
/-- what the first k categories make -/
def accT (C : List Nat) (k : Nat) : List UInt8 := if k = 0 then [] else 123 :: joinC (C.take k)
theorem joinC_snoc : ∀ (l : List Nat) (n : Nat), l ≠ [] → joinC (l ++ [n]) = joinC l ++ 44 :: digL n
  | [], _, h => absurd rfl h
  | [m], n, _ => by simp [joinC]
  | m :: k :: l, n, _ => by
    have := joinC_snoc (k :: l) n (by simp)
    simp only [List.cons_append] at this ⊢
    rw [joinC, this, joinC]
    simp
theorem accT_step (C : List Nat) (k : Nat) (hk : k < C.length) : accT C (k + 1) = accT C k ++ (if k = 0 then [123] else [44]) ++ digL C[k] := by
  unfold accT
  rw [if_neg (by omega), List.take_succ_eq_append_getElem hk]
  by_cases h : k = 0
  · subst h; simp [joinC]
  · rw [if_neg h, if_neg h, joinC_snoc _ _ (by intro e; have := congrArg List.length e; rw [List.length_take, List.length_nil] at this; omega)]
    simp
theorem accT_end (S : Nat) : setT S = accT (catsL S) (catsL S).length ++ (if catsL S = [] then [] else [125]) := by
  unfold setT accT
  by_cases h : catsL S = []
  · rw [if_pos h, h]; rfl
  · rw [if_neg h, if_neg (by intro e; exact h (List.length_eq_zero_iff.1 e)), if_neg h, List.take_length]; simp
theorem accT_len (C : List Nat) (k : Nat) (h : ∀ n ∈ C, n < 64) (hc : C.length ≤ 64) : (accT C k).length ≤ 1400 := by
  unfold accT; split
  · simp
  · have := joinC_len (C.take k) (fun n hn => h n (List.mem_of_mem_take hn))
    have := List.length_take_le k C
    have : (C.take k).length ≤ C.length := List.length_take_le' k C
    simp; omega
set_option maxRecDepth 100000 in
set_option maxHeartbeats 4000000 in
theorem printR_any (lv ig : Int) (S : Nat) (hS : S < 18446744073709551616) (w : World) :
    Calls Tryz.prog 44 #[labV lv S ig] w fun e w' => e = .returned (.tuple #[.string ⟨(printL lv S ig).toArray⟩, .int .i64 (labE lv ig)]) ∧ Below w.heap.size w w' := by
  have HR := fun W => rightR_any lv ig S W
  have b0 := label_box w lv S ig
  have hB0 := (Below.refl w.heap.size w).alloc (Nat.le_refl _) (.cells #[.int .i64 lv, .int .u64 S, .int .i64 ig] 36)
  cases hb : labB lv ig with
  | false =>
    have HZ : Hid (printL lv S ig = [] ∧ labE lv ig = 20) := by show _ ∧ _; rw [printL, labE, hb]; exact ⟨rfl, rfl⟩
    rw [hb] at HR
    clear hb
    go_enter Tryz.func44, Tryz.ntmps44
    go_wp2_with fail
    refine (HR _).mono ?_
    rintro e w1 ⟨rfl, hb1⟩
    go_wp2_with fail
    go_ret2
    exact ⟨by rw [HZ.out.1, HZ.out.2]; rfl, hB0.trans (hb1.mono hB0.size)⟩
  | true =>
    obtain ⟨h1, h2, h3, h4⟩ := (labB_iff lv ig).1 hb
    have HZ : Hid (printL lv S ig = [76] ++ digL lv ++ setT S ++ [73] ++ digL ig ∧ labE lv ig = 0) := by show _ ∧ _; rw [printL, labE, hb]; exact ⟨by simp [labT], rfl⟩
    rw [hb] at HR
    have HL := fun W => listR_any S hS W
    have HD1 := fun W => digitsR_any lv (by omega) W
    have HD2 := fun W => digitsR_any ig (by omega) W
    have L1 := digL_len lv (by omega)
    have L2 := digL_len ig (by omega)
    have hcl := catsL_len S
    have hc64 := catsL_lt S
    have HST := Lib.hid (accT_end S)
    have hal := fun k => accT_len (catsL S) k hc64 hcl
    have hstep := fun k hk => Lib.hid (accT_step (catsL S) k hk)
    have L3 := setT_len S
    generalize digL lv = DL at *
    generalize digL ig = DI at *
    generalize setT S = X at *
    generalize catsL S = C at *
    clear hb
    go_enter Tryz.func44, Tryz.ntmps44
    go_wp2_with fail
    refine (HR _).mono ?_
    rintro e w1 ⟨rfl, hb1⟩
    have b1 := b0.below hb1 b0.lt
    have b10 := b1.cell 0
    have b11 := b1.cell 1
    have b12 := b1.cell 2
    simp at b10 b11 b12
    have hB1 := hB0.trans (hb1.mono hB0.size)
    go_wp2_with fail
    refine (HD1 _).mono ?_
    rintro e w2 ⟨rfl, hb2⟩
    have hB2 := hB1.trans (hb2.mono hB1.size)
    have b2 := b1.below hb2 b1.lt
    have b21 := b2.cell 1
    simp at b21
    clear b10 b11 b12
    go_wp2_with fail
    refine (HL _).mono ?_
    rintro e w3 ⟨⟨v, rfl, hrow⟩, hb3⟩
    have hB3 := hB2.trans (hb3.mono hB2.size)
    have b3 := b2.below hb3 b2.lt
    clear b21
    by_cases hC : C = []
    · subst hC
      obtain ⟨a, cap, rfl⟩ : ∃ a cap, v = .slice a 0 cap := by
        rcases (row_cells hrow).2 with ⟨rfl, h0⟩ | ⟨g, cap, rfl, _⟩
        · exact ⟨_, _, rfl⟩
        · exact ⟨_, _, rfl⟩
      have hX : X = [] := by rw [HST.out]; rfl
      subst hX
      clear hrow HST hal hstep
      have b32 := b3.cell 2
      simp at b32
      go_wp2_with fail
      refine wp_loop_rounds 1 ?_
      rw [rounds_succ]
      go_wp2_with fail
      refine (HD2 _).mono ?_
      rintro e w4 ⟨rfl, hb4⟩
      go_wp2_with fail
      go_ret2
      exact ⟨by rw [HZ.out.1, HZ.out.2]; simp, hB3.trans (hb4.mono hB3.size)⟩
    · have hpos : 0 < C.length := List.length_pos_iff.2 hC
      have HX : Hid (X = accT C C.length ++ [125]) := by show _ = _; rw [HST.out, if_neg hC]
      clear HST
      rcases (row_cells hrow).2 with ⟨rfl, h0⟩ | ⟨g, cap, rfl, hgb, hcells⟩
      · omega
      clear hrow hgb
      have hg3 : g < w3.heap.size := World.block_lt_of_cell? w3 _ (hcells 0 (by rw [intsV_len]; omega))
      have hcl' : (C.length : Int) ≤ 64 := by omega
      go_wp2_with fail
      go_loopw [4, 6] (fun s i wr => ∃ (k : Nat) (A : List UInt8), k ≤ C.length ∧ i = .int .i64 k ∧ s = .string ⟨A.toArray⟩ ∧ Hid (A = 76 :: (DL ++ accT C k)) ∧ A.length ≤ 1500 ∧ Below w3.heap.size w3 wr) (fun _ i _ => C.length - (intOf i).toNat)
      case atStart => exact ⟨0, 76 :: DL, by omega, rfl, rfl, (by show _ = _; simp [accT]), by simp; omega, Below.refl _ _⟩
      case round =>
        obtain ⟨k, A, hk, rfl, rfl, hA, hAl, hbr⟩ := hrel
        by_cases hlt : k < C.length
        · have hcn : wr.cell? ⟨g, k, none⟩ = some (.int .i64 C[k]) := by
            rw [hbr.cell (p := ⟨g, k, none⟩) hg3, hcells k (by rw [intsV_len]; exact hlt)]; simp [intsV]
          have hD := digitsR_any (C[k] : Int) (by have := hc64 C[k] (List.getElem_mem hlt); omega) wr
          have hdl := digL_len (C[k] : Int) (by have := hc64 C[k] (List.getElem_mem hlt); omega)
          have HS := hstep k hlt
          have ha1 := hal (k + 1)
          have hlt0 : (k : Int) < C.length := by omega
          generalize C[k] = c at *
          generalize digL c = DC at *
          by_cases h0 : k = 0
          · subst h0
            have HA : Hid (A ++ 123 :: DC = 76 :: (DL ++ accT C (0 + 1))) := by show _ = _; rw [HS.out, hA.out]; simp
            have hal2 : (A ++ 123 :: DC).length ≤ 1500 := by rw [HA.out]; simp at ha1 ⊢; omega
            clear HS ha1 hal hstep hA
            go_wp2_with fail
            refine hD.mono ?_
            rintro e w4 ⟨rfl, hb4⟩
            go_wp2_with fail
            go_roundw
            case rel => exact ⟨1, A ++ 123 :: DC, by omega, by go_num, rfl, HA, hal2, hbr.trans (hb4.mono hbr.size)⟩
            case measure => simp [intOf]; omega
          · have HA : Hid (A ++ 44 :: DC = 76 :: (DL ++ accT C (k + 1))) := by show _ = _; rw [HS.out, hA.out, if_neg h0]; simp
            have hal2 : (A ++ 44 :: DC).length ≤ 1500 := by rw [HA.out]; simp at ha1 ⊢; omega
            have h0' : ((k : Int) == 0) = false := by simp; omega
            clear HS ha1 hal hstep hA
            go_wp2_with fail
            refine hD.mono ?_
            rintro e w4 ⟨rfl, hb4⟩
            go_wp2_with fail
            go_roundw
            case rel => exact ⟨k + 1, A ++ 44 :: DC, by omega, by go_num, rfl, HA, hal2, hbr.trans (hb4.mono hbr.size)⟩
            case measure => simp [intOf]; omega
        · obtain rfl : k = C.length := by omega
          have hpos' : (0 : Int) < C.length := by omega
          have b4 := b3.below hbr b3.lt
          have hB4 := hB3.trans (hbr.mono hB3.size)
          have b42 := b4.cell 2
          simp at b42
          have HF : Hid (printL lv S ig = A ++ 125 :: 73 :: DI) := by show _ = _; rw [HZ.out.1, HX.out, hA.out]; simp
          clear hal hstep hA HX
          go_wp2_with fail
          refine (HD2 _).mono ?_
          rintro e w5 ⟨rfl, hb5⟩
          go_wp2_with fail
          go_ret2
          exact ⟨by rw [HF.out, HZ.out.2]; simp, hB4.trans (hb5.mono hB4.size)⟩
end Go.Proofs.YtmmdpjliknmhgaaGreatDoor
