/- Joined: RefU; RefV; RefX -/
import Derived.Test.YtmjmmcdhpognaaaGreatDoorJWK
import Derived.Test.YtmjmmcdhpognaaaGreatDoorJWI
/- Walks of layers 1 and 2's reference: Has, Sub, Under. -/
namespace Go.Proofs.YtmjmmcdhpognaaaGreatDoor
open Go.RowKit Go.Shelf
attribute [local go_sem] Oper.semAt_some
theorem bit_eqU (S i : Nat) : (((S : Int) / 2 ^ i) % 2 == 1) = S.testBit i := by
  rw [Nat.testBit_eq_decide_div_mod_eq, Bool.eq_iff_iff, beq_iff_eq, decide_eq_true_eq]
  have e : (S : Int) / 2 ^ i = ((S / 2 ^ i : Nat) : Int) := by
    rw [show ((2 : Int) ^ i) = ((2 ^ i : Nat) : Int) from (Int.natCast_pow 2 i).symm]; rfl
  rw [e]; omega
theorem hasU_any (S i : Nat) (hi : i < 64) (w : World) :
    Calls Tryz.prog 75 #[.int .u64 S, .int .i64 i] w fun e w' => e = .returned (.bool (S.testBit i)) ∧ w = w' := by
  have hi0 : (0 : Int) ≤ (i : Int) := by omega
  have hi1 : (i : Int) < 64 := by omega
  have hq : (0 : Int) ≤ (S : Int) / 2 ^ i := Int.ediv_nonneg (by omega) (Int.pow_nonneg (by omega))
  have HB := Lib.hid (bit_eqU S i)
  go_enter Tryz.func75, Tryz.ntmps75
  go_wp2
  go_ret
  exact ⟨by rw [← HB.out]; rfl, rfl⟩
set_option maxRecDepth 100000 in
set_option maxHeartbeats 2000000 in
theorem subU_any (S T : Nat) (w : World) :
    Calls Tryz.prog 57 #[.int .u64 S, .int .u64 T] w fun e w' => e = .returned (.bool (subB S T)) ∧ w = w' := by
  have HS := fun i hi W => hasU_any S i hi W
  have HT := fun i hi W => hasU_any T i hi W
  have hno : Hid (∀ i, i < 64 → S.testBit i = true → T.testBit i = false → subB S T = false) := by
    show ∀ i, _
    intro i hi h1 h2
    unfold subB
    rw [List.all_eq_false]
    exact ⟨i, by simpa using hi, by rw [h1, h2]; simp⟩
  have hyes : Hid ((∀ i, i < 64 → (!S.testBit i || T.testBit i) = true) → subB S T = true) := fun h => by
    unfold subB
    rw [List.all_eq_true]
    exact fun i hi => h i (by simpa using hi)
  generalize subB S T = R at *
  go_enter Tryz.func57, Tryz.ntmps57
  go_wp2_with fail
  go_loopg [5] 64 (fun gg s5 wr => ∃ kk : Nat, kk ≤ 64 ∧ 64 - kk ≤ gg ∧ s5 = .int .i64 kk ∧ w = wr ∧ Hid (∀ i, i < kk → (!S.testBit i || T.testBit i) = true))
  case atStart => exact ⟨0, Nat.zero_le _, by omega, rfl, rfl, fun i h => absurd h (by omega)⟩
  case round =>
    obtain ⟨kk, hkk, hg, rfl, rfl, A⟩ := hrel
    by_cases hlt : kk < 64
    · have hltz : (kk : Int) < 64 := by omega
      have HSx := HS kk hlt
      have HTx := HT kk hlt
      have HY : Hid ((!S.testBit kk || T.testBit kk) = true → ∀ i, i < kk + 1 → (!S.testBit i || T.testBit i) = true) := fun h i hi => by
        by_cases e : i = kk
        · subst e; exact h
        · exact A.out i (by omega)
      have HN : Hid (S.testBit kk = true → T.testBit kk = false → R = false) := fun h1 h2 => hno.out kk hlt h1 h2
      clear HS HT hno hyes A
      generalize S.testBit kk = s1 at *
      generalize T.testBit kk = t1 at *
      cases s1 with
      | false =>
        have HY2 := Lib.hid (HY.out rfl)
        clear HY HN
        go_wp2_with fail
        with_reducible refine (HSx _).mono ?_
        rintro e w1 ⟨rfl, rfl⟩
        go_wp2_with fail
        go_roundg (64 - (kk + 1))
        case measure => omega
        case rel => exact ⟨kk + 1, by omega, by omega, by go_num, by trivial, HY2.out⟩
      | true =>
        cases t1 with
        | true =>
          have HY2 := Lib.hid (HY.out rfl)
          clear HY HN
          go_wp2_with fail
          with_reducible refine (HSx _).mono ?_
          rintro e w1 ⟨rfl, rfl⟩
          go_wp2_with fail
          with_reducible refine (HTx _).mono ?_
          rintro e w1 ⟨rfl, rfl⟩
          go_wp2_with fail
          go_roundg (64 - (kk + 1))
          case measure => omega
          case rel => exact ⟨kk + 1, by omega, by omega, by go_num, by trivial, HY2.out⟩
        | false =>
          have hR := HN.out rfl rfl
          subst hR
          clear HY HN
          go_wp2_with fail
          with_reducible refine (HSx _).mono ?_
          rintro e w1 ⟨rfl, rfl⟩
          go_wp2_with fail
          with_reducible refine (HTx _).mono ?_
          rintro e w1 ⟨rfl, rfl⟩
          go_wp2_with fail
          go_ret
          exact ⟨rfl, rfl⟩
    · have hltz : ¬ (kk : Int) < 64 := by omega
      have hR : R = true := hyes.out (fun i hi => A.out i (by omega))
      subst hR
      clear HS HT hno hyes A
      go_wp2_with fail
      go_ret
      exact ⟨rfl, rfl⟩
set_option maxRecDepth 100000 in
set_option maxHeartbeats 4000000 in
theorem refUnder_any (a b : LblD) (w : World) :
    Calls Tryz.prog 31 #[lblV a, lblV b] w fun e w' => e = .returned (.bool (underB a b)) ∧ Below w.heap.size w w' := by
  have HA := fun W => lblRef_any a W
  have HB := fun W => lblRef_any b W
  have HS := fun W => subU_any a.cs b.cs W
  have hU : Hid (underB a b = (lblB a && lblB b && decide (a.lv ≤ b.lv) && decide (b.ig ≤ a.ig) && subB a.cs b.cs)) := rfl
  generalize underB a b = U at *
  generalize lblB a = x at *
  generalize lblB b = y at *
  generalize subB a.cs b.cs = z at *
  obtain ⟨l1, S1, i1⟩ := a
  obtain ⟨l2, S2, i2⟩ := b
  dsimp only at *
  have B0 := ((Below.refl _ w).alloc (Nat.le_refl _) (.cells #[.int .i64 l1, .int .u64 S1, .int .i64 i1] 25)).alloc (by simp) (.cells #[.int .i64 l2, .int .u64 S2, .int .i64 i2] 25)
  have n1 := (Blk.new w #[.int .i64 l1, .int .u64 S1, .int .i64 i1] 25).alloc (.cells #[.int .i64 l2, .int .u64 S2, .int .i64 i2] 25)
  have n2 := Blk.new (w.alloc (.cells #[.int .i64 l1, .int .u64 S1, .int .i64 i1] 25)) #[.int .i64 l2, .int .u64 S2, .int .i64 i2] 25
  rw [World.size_alloc] at n2
  go_enter Tryz.func31, Tryz.ntmps31
  go_wp2_with fail
  generalize (w.alloc (.cells #[.int .i64 l1, .int .u64 S1, .int .i64 i1] 25)).alloc (.cells #[.int .i64 l2, .int .u64 S2, .int .i64 i2] 25) = W0 at *
  have NN : Hid (∀ W, Below W0.heap.size W0 W → (W.cell? ⟨w.heap.size, 0, none⟩ = some (.int .i64 l1) ∧ W.cell? ⟨w.heap.size, 1, none⟩ = some (.int .u64 S1) ∧ W.cell? ⟨w.heap.size, 2, none⟩ = some (.int .i64 i1)) ∧ (W.cell? ⟨w.heap.size + 1, 0, none⟩ = some (.int .i64 l2) ∧ W.cell? ⟨w.heap.size + 1, 1, none⟩ = some (.int .u64 S2) ∧ W.cell? ⟨w.heap.size + 1, 2, none⟩ = some (.int .i64 i2))) := by
    show ∀ W, _
    intro W h
    have m1 := n1.below h n1.lt
    have m2 := n2.below h n2.lt
    exact ⟨⟨(m1.cell 0).trans rfl, (m1.cell 1).trans rfl, (m1.cell 2).trans rfl⟩, (m2.cell 0).trans rfl, (m2.cell 1).trans rfl, (m2.cell 2).trans rfl⟩
  clear n1 n2
  with_reducible refine (HA _).mono ?_
  rintro e w1 ⟨rfl, b1⟩
  have B1 := B0.trans (b1.mono B0.size)
  obtain ⟨⟨k0, k1, k2⟩, m0, m1, m2⟩ := NN.out _ b1
  cases x with
  | false =>
    have hU2 : U = false := by rw [hU.out]; simp
    subst hU2
    clear hU NN HA HB HS
    go_wp2_with fail
    go_ret
    exact ⟨rfl, B1⟩
  | true =>
    go_wp2_with fail
    with_reducible refine (HB _).mono ?_
    rintro e w2 ⟨rfl, b2⟩
    have C2 := b1.trans (b2.mono b1.size)
    have B2 := B1.trans (b2.mono B1.size)
    clear k0 k1 k2 m0 m1 m2
    obtain ⟨⟨k0, k1, k2⟩, m0, m1, m2⟩ := NN.out _ C2
    clear NN HA HB b1 b2 B1
    cases y with
    | false =>
      have hU2 : U = false := by rw [hU.out]; simp
      subst hU2
      clear hU HS
      go_wp2_with fail
      go_ret
      exact ⟨rfl, B2⟩
    | true =>
      by_cases h1 : l1 ≤ l2
      rotate_left 1
      · have hU2 : U = false := by rw [hU.out]; simp [h1]
        subst hU2
        clear hU HS
        go_wp2_with fail
        go_ret
        exact ⟨rfl, B2⟩
      · go_wp2_with fail
        with_reducible refine (HS _).mono ?_
        rintro e w3 ⟨rfl, rfl⟩
        clear HS
        cases z with
        | false =>
          have hU2 : U = false := by rw [hU.out]; simp
          subst hU2
          clear hU
          go_wp2_with fail
          go_ret
          exact ⟨rfl, B2⟩
        | true =>
          by_cases h2 : i2 ≤ i1
          · have hU2 : U = true := by rw [hU.out]; simp [h1, h2]
            subst hU2
            clear hU
            go_wp2_with fail
            go_ret
            exact ⟨by simp, B2⟩
          · have hU2 : U = false := by rw [hU.out]; simp [h2]
            subst hU2
            clear hU
            go_wp2_with fail
            go_ret
            exact ⟨by simp; omega, B2⟩
end Go.Proofs.YtmjmmcdhpognaaaGreatDoor
/- Walks of layer 11's reference: Get, Seen, Within. -/
namespace Go.Proofs.YtmjmmcdhpognaaaGreatDoor
open Go.RowKit Go.Shelf
attribute [local go_sem] Oper.semAt_some
theorem getW_in {l : List PartD} {a : LblD} (hw : worldB l = true) (k : Nat) (hk : k < l.length) (h : ∀ i (hi : i < l.length), i < k → l[i].lab ≠ a) (he : l[k].lab = a) : getW l a = l[k].l := by
  have hf : l.find? (fun p => p.lab = a) = some l[k] := by
    rw [List.find?_eq_some_iff_getElem]
    exact ⟨by simpa using he, k, hk, rfl, fun j hj => by simpa using h j (by omega) hj⟩
  unfold getW
  rw [if_pos hw, hf]
theorem getW_out {l : List PartD} {a : LblD} (h : ∀ i (hi : i < l.length), l[i].lab ≠ a) : getW l a = [] := by
  have hf : l.find? (fun p => p.lab = a) = none := by
    rw [List.find?_eq_none]
    intro x hx
    obtain ⟨i, hi, rfl⟩ := List.mem_iff_getElem.1 hx
    simpa using h i hi
  unfold getW
  split
  · rw [hf]
  · rfl
set_option maxRecDepth 100000 in
set_option maxHeartbeats 4000000 in
theorem refGet_any (l : List PartD) (hl : FitsW l) (v : Value) (a : LblD) (w : World) (hv : PartsV w v l) :
    Calls Tryz.prog 10 #[v, lblV a] w fun e w' => ∃ v', e = .returned v' ∧ ObjsV w' v' (getW l a) ∧ Below w.heap.size w w' := by
  obtain ⟨ao, cap, rfl, hc⟩ := hv.at
  have hlm : l.length ≤ 1000000 := hl.1
  have HR := fun W (h : KeepC w W) => refWRight_any l hl _ W (hv.keep h)
  have hin := Lib.hid (fun hw => getW_in (l := l) (a := a) hw)
  have hout := Lib.hid (fun h => getW_out (l := l) (a := a) h)
  have hno : Hid (worldB l = false → getW l a = []) := fun h => by unfold getW; rw [h]; rfl
  generalize getW l a = G at *
  generalize worldB l = wb at *
  obtain ⟨l1, S1, i1⟩ := a
  have B0 := (Below.refl _ w).alloc (Nat.le_refl _) (.cells #[.int .i64 l1, .int .u64 S1, .int .i64 i1] 25)
  have n0 := Blk.new w #[.int .i64 l1, .int .u64 S1, .int .i64 i1] 25
  clear hv hl
  go_enter Tryz.func10, Tryz.ntmps10
  go_wp2_with fail
  generalize w.alloc (.cells #[.int .i64 l1, .int .u64 S1, .int .i64 i1] 25) = W0 at *
  go_loopg [5] l.length (fun gg s5 wr => ∃ kk : Nat, kk ≤ l.length ∧ l.length - kk ≤ gg ∧ s5 = .int .i64 kk ∧ Below W0.heap.size W0 wr ∧ Hid (∀ i (hi : i < l.length), i < kk → l[i].lab ≠ ⟨l1, S1, i1⟩))
  case atStart => exact ⟨0, Nat.zero_le _, by omega, rfl, Below.refl _ _, fun i _ h => absurd h (by omega)⟩
  case round =>
    obtain ⟨kk, hkk, hg, rfl, hB, A⟩ := hrel
    have B1 := B0.trans (hB.mono B0.size)
    by_cases hlt : kk < l.length
    · have hltz : (kk : Int) < (l.length : Int) := by omega
      have hkz : (0 : Int) ≤ (kk : Int) := by omega
      have HRx := HR wr (KeepC.of_below B1)
      cases wb with
      | false =>
        have hG : G = [] := hno.out rfl
        subst hG
        clear hin hout hno hc A HR
        go_wp2_with fail
        with_reducible refine HRx.mono ?_
        rintro e w1 ⟨rfl, b1⟩
        go_wp2_with fail
        go_ret
        exact ⟨_, rfl, ObjsV.nil _, B1.trans (b1.mono B1.size)⟩
      | true =>
        obtain ⟨b, o, a3, c3, rfl, -, hlv, k0, k1, k2, k3⟩ := hc kk hlt
        have HY : Hid (l[kk].lab = ⟨l1, S1, i1⟩ → G = l[kk].l) := fun h => hin.out rfl kk hlt A.out h
        have HN : Hid (l[kk].lab ≠ ⟨l1, S1, i1⟩ → ∀ i (hi : i < l.length), i < kk + 1 → l[i].lab ≠ ⟨l1, S1, i1⟩) := fun h i hi hik => by
          by_cases e : i = kk
          · subst e; exact h
          · exact A.out i hi (by omega)
        clear hin hout hno hc A HR
        obtain ⟨x, hx⟩ : ∃ x, l[kk] = x := ⟨_, rfl⟩
        rw [hx] at hlv k0 k1 k2 k3 HY HN
        clear hx
        obtain ⟨l2, S2, i2, p2⟩ := x
        dsimp only [PartD.lab] at *
        go_wp2_with fail
        with_reducible refine HRx.mono ?_
        rintro e w1 ⟨rfl, b1⟩
        have C1 := hB.trans (b1.mono hB.size)
        have D1 := B1.trans (b1.mono B1.size)
        have m := n0.below C1 n0.lt
        have e0 := m.cell 0
        have e1 := m.cell 1
        have e2 := m.cell 2
        simp at e0 e1 e2
        have hk := (KeepC.of_below D1).2
        replace k0 := hk _ _ _ k0
        replace k1 := hk _ _ _ k1
        replace k2 := hk _ _ _ k2
        replace k3 := hk _ _ _ k3
        replace hlv := hlv.keep (KeepC.of_below D1)
        clear HRx b1 hk m
        rcases lbl_cases l2 S2 i2 l1 S1 i1 with ⟨hEq, rfl, rfl, rfl⟩ | ⟨hNe, hy⟩
        · have hG := HY.out rfl
          subst hG
          clear HY HN
          go_wp2_with fail
          go_quiet (fail)
          have D2 := below_drewN D1 nq
          have hl2 := hlv.keep (KeepC.drewN w1 nq)
          replace k3 := (KeepC.drewN w1 nq).2 _ _ _ k3
          generalize World.drewN w1 nq = w2 at *
          go_wp2_with fail
          go_ret
          exact ⟨_, rfl, hl2, D2⟩
        · have HN2 := Lib.hid (HN.out hNe)
          clear HY HN
          rcases hy with hy | ⟨hy1, hy⟩ | ⟨hy1, hy2, hy⟩
          all_goals
            go_wp2_with fail
            go_quiet (fail)
            have C2 := below_drewN C1 nq
            generalize World.drewN w1 nq = w2 at *
            go_wp2_with fail
            go_roundg (l.length - (kk + 1))
            case measure => omega
            case rel => exact ⟨kk + 1, by omega, by omega, by go_num, C2, HN2.out⟩
    · have hltz : ¬ (kk : Int) < (l.length : Int) := by omega
      have hG : G = [] := hout.out (fun i hi => A.out i hi (by omega))
      subst hG
      clear hin hout hno hc A HR
      go_wp2_with fail
      go_ret
      exact ⟨_, rfl, ObjsV.nil _, B1⟩
set_option maxRecDepth 100000 in
set_option maxHeartbeats 4000000 in
theorem refWithin_any (l : List PartD) (hl : FitsW l) (v : Value) (q : Int) (w : World) (hv : PartsV w v l) :
    Calls Tryz.prog 15 #[v, .int .i64 q] w fun e w' => e = .returned (.bool (withinB l q)) ∧ Below w.heap.size w w' := by
  obtain ⟨ao, cap, rfl, hc⟩ := hv.at
  have hlm : l.length ≤ 1000000 := hl.1
  have HR := fun W (h : KeepC w W) => refWRight_any l hl _ W (hv.keep h)
  have hout : Hid ((∀ i (hi : i < l.length), costS l[i].l ≤ q) → withinB l q = worldB l) := fun h => by
    unfold withinB
    have : (l.all fun p => decide (costS p.l ≤ q)) = true := List.all_eq_true.2 fun x hx => by
      obtain ⟨i, hi, rfl⟩ := List.mem_iff_getElem.1 hx
      simpa using h i hi
    rw [this, Bool.and_true]
  have hno : Hid (∀ i (hi : i < l.length), ¬ costS l[i].l ≤ q → withinB l q = false) := by
    show ∀ i, _
    intro i hi h
    unfold withinB
    have : (l.all fun p => decide (costS p.l ≤ q)) = false := List.all_eq_false.2 ⟨_, List.getElem_mem hi, by simpa using h⟩
    rw [this, Bool.and_false]
  generalize withinB l q = R at *
  generalize worldB l = wb at *
  clear hv
  go_enter Tryz.func15, Tryz.ntmps15
  go_wp2_with fail
  go_loopg [5] l.length (fun gg s5 wr => ∃ kk : Nat, kk ≤ l.length ∧ l.length - kk ≤ gg ∧ s5 = .int .i64 kk ∧ Below w.heap.size w wr ∧ Hid (∀ i (hi : i < l.length), i < kk → costS l[i].l ≤ q))
  case atStart => exact ⟨0, Nat.zero_le _, by omega, rfl, Below.refl _ _, fun i _ h => absurd h (by omega)⟩
  case round =>
    obtain ⟨kk, hkk, hg, rfl, hB, A⟩ := hrel
    by_cases hlt : kk < l.length
    · have hltz : (kk : Int) < (l.length : Int) := by omega
      have hkz : (0 : Int) ≤ (kk : Int) := by omega
      obtain ⟨b, o, a3, c3, rfl, -, hlv, k0, k1, k2, k3⟩ := hc kk hlt
      have HCx := refCost_any l[kk].l (hl.2 _ (List.getElem_mem _)) _ wr (hlv.keep (KeepC.of_below hB))
      replace k3 := (KeepC.of_below hB).2 _ _ _ k3
      have HY : Hid (costS l[kk].l ≤ q → ∀ i (hi : i < l.length), i < kk + 1 → costS l[i].l ≤ q) := fun h i hi hik => by
        by_cases e : i = kk
        · subst e; exact h
        · exact A.out i hi (by omega)
      have HN : Hid (¬ costS l[kk].l ≤ q → R = false) := fun h => hno.out kk hlt (by omega)
      clear hout hno hc A HR hlv k0 k1 k2 hl
      generalize costS l[kk].l = c at *
      generalize l[kk].l.length = ln at *
      by_cases hcq : c ≤ q
      · have hz : ¬ q < c := by omega
        have HY2 := Lib.hid (HY.out hcq)
        clear HY HN hcq
        go_wp2_with fail
        with_reducible refine HCx.mono ?_
        rintro e w1 ⟨rfl, b1⟩
        go_wp2_with fail
        go_roundg (l.length - (kk + 1))
        case measure => omega
        case rel => exact ⟨kk + 1, by omega, by omega, by go_num, hB.trans (b1.mono hB.size), HY2.out⟩
      · have hz : q < c := by omega
        have hR := HN.out hcq
        subst hR
        clear HY HN hcq
        go_wp2_with fail
        with_reducible refine HCx.mono ?_
        rintro e w1 ⟨rfl, b1⟩
        go_wp2_with fail
        go_ret
        exact ⟨rfl, hB.trans (b1.mono hB.size)⟩
    · have hltz : ¬ (kk : Int) < (l.length : Int) := by omega
      have hR : R = wb := hout.out (fun i hi => A.out i hi (by omega))
      subst hR
      have HRx := HR wr (KeepC.of_below hB)
      clear hout hno hc A HR hl
      go_wp2_with fail
      with_reducible refine HRx.mono ?_
      rintro e w1 ⟨rfl, b1⟩
      go_wp2_with fail
      go_ret
      exact ⟨rfl, hB.trans (b1.mono hB.size)⟩
end Go.Proofs.YtmjmmcdhpognaaaGreatDoor
/- Walks of layer 11's reference: Seen. -/
namespace Go.Proofs.YtmjmmcdhpognaaaGreatDoor
open Go.RowKit Go.Shelf
attribute [local go_sem] Oper.semAt_some
theorem seen_take (l : List PartD) (a : LblD) (k : Nat) (h : k < l.length) : seenW (l.take (k + 1)) a = seenW (l.take k) a ++ if underB l[k].lab a then [l[k]] else [] := by
  unfold seenW
  rw [List.take_succ_eq_append_getElem h, List.filter_append]
  congr 1
  cases h2 : underB l[k].lab a <;> simp [h2]
set_option maxRecDepth 100000 in
set_option maxHeartbeats 4000000 in
theorem refSeen_any (l : List PartD) (hl : FitsW l) (v : Value) (a : LblD) (w : World) (hv : PartsV w v l) :
    Calls Tryz.prog 13 #[v, lblV a] w fun e w' => ∃ v', e = .returned v' ∧ PartsV w' v' (seenW l a) ∧ Below w.heap.size w w' := by
  obtain ⟨ao, cap, rfl, hc⟩ := hv.at
  obtain ⟨i0, hI, hz0, hz1, hz2⟩ := info_parts infoP
  have hlm : l.length ≤ 1000000 := hl.1
  have HU := fun p W => refUnder_any p a W
  have hst := fun k (h : k < l.length) => seen_take l a k h
  have hlen := fun k => List.length_filter_le (fun p : PartD => underB p.lab a) (l.take k)
  have hall : seenW (l.take l.length) a = seenW l a := by rw [List.take_length]
  have hnil : seenW (l.take 0) a = [] := rfl
  have hle : ∀ k, (seenW (l.take k) a).length ≤ k := fun k => Nat.le_trans (hlen k) (by rw [List.length_take]; omega)
  generalize seenW l a = R at *
  generalize hS : (fun k => seenW (l.take k) a) = S at *
  have hS' : ∀ k, seenW (l.take k) a = S k := fun k => congrFun hS k
  simp only [hS'] at hst hall hnil hle
  generalize hUf : (fun p => underB p a) = uf at *
  have hU' : ∀ p, underB p a = uf p := fun p => congrFun hUf p
  simp only [hU'] at hst HU
  have hstH := Lib.hid hst
  have hallH := Lib.hid hall
  have hnilH := Lib.hid hnil
  have hleH := Lib.hid hle
  clear hst hall hnil hle hS hS' hUf hU' hlen
  obtain ⟨l1, S1, i1⟩ := a
  have B0 := (Below.refl _ w).alloc (Nat.le_refl _) (.cells #[.int .i64 l1, .int .u64 S1, .int .i64 i1] 25)
  have n0 := Blk.new w #[.int .i64 l1, .int .u64 S1, .int .i64 i1] 25
  clear hv hl
  go_enter Tryz.func13, Tryz.ntmps13
  go_wp2_with fail
  generalize w.alloc (.cells #[.int .i64 l1, .int .u64 S1, .int .i64 i1] 25) = W0 at *
  go_loopg [5, 6] l.length (fun gg s5 s6 wr => ∃ (kk : Nat) (vv : Value) (cs : List Value), kk ≤ l.length ∧ l.length - kk ≤ gg ∧ s5 = vv ∧ s6 = .int .i64 kk ∧ Below W0.heap.size W0 wr ∧ Hid (wr.ownsRow W0.heap.size 46 4 vv (S kk).length cs) ∧ Hid (Rows (PartC w) (S kk) cs))
  case atStart => exact ⟨0, _, [], Nat.zero_le _, by omega, rfl, rfl, Below.refl _ _, by show World.ownsRow _ _ _ _ _ _ _; rw [hnilH.out]; exact World.ownsRow_nil _ _ _ _, by show Rows _ _ _; rw [hnilH.out]; rfl⟩
  case round =>
    obtain ⟨kk, vv, cs, hkk, hg, rfl, rfl, hB, hrow, hrows⟩ := hrel
    have B1 := B0.trans (hB.mono B0.size)
    by_cases hlt : kk < l.length
    · have hltz : (kk : Int) < (l.length : Int) := by omega
      have hkz : (0 : Int) ≤ (kk : Int) := by omega
      obtain ⟨b, o, a3, c3, rfl, -, hlv, k0, k1, k2, k3⟩ := hc kk hlt
      have hst := hstH.out kk hlt
      have hle := hleH.out kk
      have HUx := fun W => HU l[kk].lab W
      clear hc HU hstH hallH hnilH hleH
      obtain ⟨x, hx⟩ : ∃ x, l[kk] = x := ⟨_, rfl⟩
      rw [hx] at hlv k0 k1 k2 k3 hst
      simp only [hx] at HUx
      clear hx
      obtain ⟨l2, S2, i2, p2⟩ := x
      dsimp only [PartD.lab] at *
      have HP : Hid (PartC w ⟨l2, S2, i2, p2⟩ [.int .i64 l2, .int .u64 S2, .int .i64 i2, .slice a3 p2.length c3]) := ⟨_, rfl, hlv⟩
      have SK : Hid (∀ u, Below W0.heap.size W0 u → (u.cell? ⟨w.heap.size, 0, none⟩ = some (.int .i64 l1) ∧ u.cell? ⟨w.heap.size, 1, none⟩ = some (.int .u64 S1) ∧ u.cell? ⟨w.heap.size, 2, none⟩ = some (.int .i64 i1)) ∧ (u.cell? ⟨b, o + kk * 4, none⟩ = some (.int .i64 l2) ∧ u.cell? ⟨b, o + kk * 4 + 1, none⟩ = some (.int .u64 S2) ∧ u.cell? ⟨b, o + kk * 4 + 2, none⟩ = some (.int .i64 i2) ∧ u.cell? ⟨b, o + kk * 4 + 3, none⟩ = some (.slice a3 p2.length c3))) := by
        show ∀ u, _
        intro u h
        have m := n0.below h n0.lt
        have hk := (KeepC.of_below (B0.trans (h.mono B0.size))).2
        exact ⟨⟨(m.cell 0).trans rfl, (m.cell 1).trans rfl, (m.cell 2).trans rfl⟩, hk _ _ _ k0, hk _ _ _ k1, hk _ _ _ k2, hk _ _ _ k3⟩
      clear k0 k1 k2 k3 hlv
      have SKu : Hid (∀ u, Below wr.heap.size wr u → (u.cell? ⟨w.heap.size, 0, none⟩ = some (.int .i64 l1) ∧ u.cell? ⟨w.heap.size, 1, none⟩ = some (.int .u64 S1) ∧ u.cell? ⟨w.heap.size, 2, none⟩ = some (.int .i64 i1)) ∧ (u.cell? ⟨b, o + kk * 4, none⟩ = some (.int .i64 l2) ∧ u.cell? ⟨b, o + kk * 4 + 1, none⟩ = some (.int .u64 S2) ∧ u.cell? ⟨b, o + kk * 4 + 2, none⟩ = some (.int .i64 i2))) := by
        show ∀ u, _
        intro u h
        obtain ⟨q1, q2, q3, q4, -⟩ := SK.out u (hB.trans (h.mono hB.size))
        exact ⟨q1, q2, q3, q4⟩
      obtain ⟨⟨e0, e1, e2⟩, d0, d1, d2, d3⟩ := SK.out _ hB
      obtain ⟨ub, hub⟩ : ∃ ub, uf ⟨l2, S2, i2⟩ = ub := ⟨_, rfl⟩
      simp only [hub] at hst HUx
      clear hub
      go_wp2_with fail
      have hBd : Below wr.heap.size wr wr.drew := (Below.refl _ wr).drew
      go_region_held3 (fun u => (u.cell? ⟨w.heap.size, 0, none⟩ = some (.int .i64 l1) ∧ u.cell? ⟨w.heap.size, 1, none⟩ = some (.int .u64 S1) ∧ u.cell? ⟨w.heap.size, 2, none⟩ = some (.int .i64 i1)) ∧ (u.cell? ⟨b, o + kk * 4, none⟩ = some (.int .i64 l2) ∧ u.cell? ⟨b, o + kk * 4 + 1, none⟩ = some (.int .u64 S2) ∧ u.cell? ⟨b, o + kk * 4 + 2, none⟩ = some (.int .i64 i2))) (first | go_keep | exact ⟨⟨e0, e1, e2⟩, d0, d1, d2⟩ | exact SKu.out _ c1)
        (first
          | (go_at_call 31; (with_reducible refine (HUx _).mono ?_); rintro e w1 ⟨rfl, b1⟩; have c1 := hBd.trans (b1.mono hBd.size)))
      have C1 := hB.trans (c1.mono hB.size)
      have row1 := own_kept hrow.out (grown_of_below c1 none) (RowT.none _ _)
      clear e0 e1 e2 d0 d1 d2 d3
      obtain ⟨⟨e0, e1, e2⟩, d0, d1, d2, d3⟩ := SK.out _ C1
      clear HUx SK SKu hrow b1 c1 hBd
      cases ub with
      | false =>
        have hst2 : Hid (S (kk + 1) = S kk) := by show _ = _; rw [hst]; simp
        have R1 := Lib.hid row1
        clear hst row1 HP
        go_wp2_with fail
        go_roundg (l.length - (kk + 1))
        case measure => omega
        case rel => exact ⟨kk + 1, _, cs, by omega, by omega, rfl, by go_num, C1, by show World.ownsRow _ _ _ _ _ _ _; rw [hst2.out]; exact R1.out, by show Rows _ _ _; rw [hst2.out]; exact hrows.out⟩
      | true =>
        have hst2 : Hid (S (kk + 1) = S kk ++ [⟨l2, S2, i2, p2⟩]) := by show _ = _; rw [hst]; simp
        have n9 := Blk.new w1 #[.int .i64 l2, .int .u64 S2, .int .i64 i2, .slice a3 p2.length c3] 46
        have hlk : Hid ((S (kk + 1)).length = (S kk).length + 1) := by show _ = _; rw [hst2.out]; simp
        clear hst
        generalize (S kk).length = sl at *
        go_wp2_with (at_builtin; go_loud (refine wpList_append_own _ rfl _ _ 22 rfl W0.heap.size 46 i0 (.agg #[.int .i64 0, .int .u64 0, .int .i64 0, .slice none 0 0]) 4 48 Tryz.underlying22 hI hz0 hz1 hz2 rfl (by decide) _ _ _ rfl (row1.alloc _) ⟨w1.heap.size, 0, none⟩ 1 1 (Array.toList #[.int .i64 l2, .int .u64 S2, .int .i64 i2, .slice a3 p2.length c3]) rfl rfl (blk_news n9) (by simp [Value.oneCell']) (by unfold maxLen; omega) (by omega) (by have := C1.size; simp; omega) ?_))
        intro v9 w9 r9 g9 _
        have B9 : Below W0.heap.size W0 w9 := (C1.alloc C1.size _).grown g9 (by have := C1.size; simp; omega) (fun k hk => (row1.lt k hk).1)
        have hr9 := Lib.hid (Rows.append hrows.out (Rows.one HP.out))
        have R9 := Lib.hid r9
        clear r9 row1 n9 hrows HP
        go_wp2_with fail
        go_roundg (l.length - (kk + 1))
        case measure => omega
        case rel => exact ⟨kk + 1, _, _, by omega, by omega, rfl, by go_num, B9, by show World.ownsRow _ _ _ _ _ _ _; rw [hlk.out]; exact R9.out, by show Rows _ _ _; rw [hst2.out]; exact hr9.out⟩
    · have hltz : ¬ (kk : Int) < (l.length : Int) := by omega
      have hkl : kk = l.length := by omega
      subst hkl
      have hR : S l.length = R := hallH.out
      have hV0 : PartsV wr _ (S l.length) := ⟨cs, SlR.of_row hrow.out, hrows.out.mono fun x _ c hc => hc.keep (KeepC.of_below B1)⟩
      rw [hR] at hV0
      have HV := Lib.hid hV0
      clear hV0
      clear hc HU hstH hallH hnilH hleH hrow hrows hR
      go_wp2_with fail
      go_ret
      exact ⟨_, rfl, HV.out, B1⟩
end Go.Proofs.YtmjmmcdhpognaaaGreatDoor
