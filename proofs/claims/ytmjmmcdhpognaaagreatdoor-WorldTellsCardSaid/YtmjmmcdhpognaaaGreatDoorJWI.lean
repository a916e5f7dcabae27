/- Joined: Under; UnderB; SpcF; RefC -/
import Derived.Test.YtmjmmcdhpognaaaGreatDoorJWH
import Derived.Stop.IfaceNil
/- Walks of layer 2: under. -/
namespace Go.Proofs.YtmjmmcdhpognaaaGreatDoor
open Go.RowKit Go.Shelf
attribute [local go_sem] Oper.semAt_some
theorem natbits_andNot (a b : Nat) (ha : a < 18446744073709551616) (hb : b < 18446744073709551616) : (bits BinOp.andNot IntKind.u64 (a : Int) (b : Int) == 0) = subB a b := by
  have hw : bits BinOp.andNot IntKind.u64 (a : Int) (b : Int) = (((BitVec.ofNat 64 a &&& ~~~(BitVec.ofNat 64 b)).toNat : Nat) : Int) := by
    have hlt := (BitVec.ofNat 64 a &&& ~~~(BitVec.ofNat 64 b)).isLt
    show IntKind.u64.wrap _ = _
    rw [IntKind.wrap_u64]
    simp only [BitVec.ofInt_natCast]
    exact Int.emod_eq_of_lt (Int.natCast_nonneg _) (Int.ofNat_lt.2 hlt)
  rw [hw, Bool.eq_iff_iff, beq_iff_eq]
  unfold subB
  rw [List.all_eq_true]
  have h0 : (((BitVec.ofNat 64 a &&& ~~~(BitVec.ofNat 64 b)).toNat : Nat) : Int) = 0 ↔ BitVec.ofNat 64 a &&& ~~~(BitVec.ofNat 64 b) = 0#64 := by
    rw [show ((((BitVec.ofNat 64 a &&& ~~~(BitVec.ofNat 64 b)).toNat : Nat) : Int) = 0 ↔ (BitVec.ofNat 64 a &&& ~~~(BitVec.ofNat 64 b)).toNat = 0) from by omega]
    exact ⟨fun h => BitVec.eq_of_toNat_eq (by rw [h]; rfl), fun h => by rw [h]; rfl⟩
  rw [h0]
  have hbit : ∀ i, i < 64 → (BitVec.ofNat 64 a &&& ~~~(BitVec.ofNat 64 b)).getLsbD i = (a.testBit i && !b.testBit i) := by
    intro i hi
    rw [BitVec.getLsbD_and, BitVec.getLsbD_not, BitVec.getLsbD_ofNat, BitVec.getLsbD_ofNat, decide_eq_true hi, Bool.true_and, Bool.true_and, Bool.true_and]
  constructor
  · intro h i hi
    have hi' : i < 64 := by simpa using hi
    have := hbit i hi'
    rw [h, BitVec.getLsbD_zero] at this
    revert this
    cases a.testBit i <;> cases b.testBit i <;> simp
  · intro h
    refine BitVec.eq_of_getLsbD_eq fun i hi => ?_
    have := h i (by simpa using hi)
    rw [hbit i hi, BitVec.getLsbD_zero]
    revert this
    cases a.testBit i <;> cases b.testBit i <;> simp
theorem subB_refl (a : Nat) : subB a a = true := by
  unfold subB
  rw [List.all_eq_true]
  intro i _
  cases a.testBit i <;> rfl
set_option maxRecDepth 100000 in
theorem sub_any (a b : Nat) (ha : a < 18446744073709551616) (hb : b < 18446744073709551616) (w : World) : Calls Tryz.prog 87 #[.int .u64 a, .int .u64 b] w fun e w' => e = .returned (.bool (subB a b)) ∧ w' = w := by
  have H := Lib.hid (natbits_andNot a b ha hb)
  go_enter Tryz.func87, Tryz.ntmps87
  go_wp2
  go_ret
  exact ⟨ret_bool (by rw [H.out]), rfl⟩
abbrev pairV (a b : LblD) : Value := .agg #[.int .i64 a.lv, .int .u64 a.cs, .int .i64 a.ig, .int .i64 b.lv, .int .u64 b.cs, .int .i64 b.ig]
set_option maxRecDepth 100000 in
set_option maxHeartbeats 2000000 in
theorem checked2_any (a b : LblD) (w : World) : Calls Tryz.prog 73 #[pairV a b] w fun e w' => e = .returned (if lblB a then (if lblB b then .nilIface else .iface 130 (lblV b)) else .iface 130 (lblV a)) ∧ Below w.heap.size w w' := by
  have H1 := fun W => lblRight_any a W
  have H2 := fun W => lblRight_any b W
  generalize lblB a = x at *
  generalize lblB b = y at *
  obtain ⟨l1, S1, i1⟩ := a
  obtain ⟨l2, S2, i2⟩ := b
  have B0 := (Below.refl _ w).alloc (Nat.le_refl _) (.cells #[.int .i64 l1, .int .u64 S1, .int .i64 i1, .int .i64 l2, .int .u64 S2, .int .i64 i2] 104)
  have n0 := Blk.new w #[.int .i64 l1, .int .u64 S1, .int .i64 i1, .int .i64 l2, .int .u64 S2, .int .i64 i2] 104
  cases x with
  | false =>
    simp only [Bool.false_eq_true, if_false]
    go_enter Tryz.func73, Tryz.ntmps73
    go_wp2_with fail
    with_reducible refine (H1 _).mono ?_
    rintro e w1 ⟨rfl, b1⟩
    have m := n0.below b1 n0.lt
    have e0 := m.cell 0
    have e1 := m.cell 1
    have e2 := m.cell 2
    simp at e0 e1 e2
    go_wp2_with fail
    go_ret
    exact ⟨rfl, B0.trans (b1.mono B0.size)⟩
  | true =>
    simp only [if_true]
    cases y with
    | false =>
      simp only [Bool.false_eq_true, if_false]
      go_enter Tryz.func73, Tryz.ntmps73
      go_wp2_with fail
      with_reducible refine (H1 _).mono ?_
      rintro e w1 ⟨rfl, b1⟩
      have B1 := B0.trans (b1.mono B0.size)
      have m := n0.below b1 n0.lt
      have e0 := m.cell 3
      have e1 := m.cell 4
      have e2 := m.cell 5
      simp at e0 e1 e2
      go_wp2_with fail
      with_reducible refine (H2 _).mono ?_
      rintro e w2 ⟨rfl, b2⟩
      have m2 := m.below b2 m.lt
      have f0 := m2.cell 3
      have f1 := m2.cell 4
      have f2 := m2.cell 5
      simp at f0 f1 f2
      go_wp2_with fail
      go_ret
      exact ⟨rfl, B1.trans (b2.mono B1.size)⟩
    | true =>
      simp only [if_true]
      go_enter Tryz.func73, Tryz.ntmps73
      go_wp2_with fail
      with_reducible refine (H1 _).mono ?_
      rintro e w1 ⟨rfl, b1⟩
      have B1 := B0.trans (b1.mono B0.size)
      have m := n0.below b1 n0.lt
      have e0 := m.cell 3
      have e1 := m.cell 4
      have e2 := m.cell 5
      simp at e0 e1 e2
      go_wp2_with fail
      with_reducible refine (H2 _).mono ?_
      rintro e w2 ⟨rfl, b2⟩
      go_wp2_with fail
      go_ret
      exact ⟨rfl, B1.trans (b2.mono B1.size)⟩
set_option maxRecDepth 100000 in
set_option maxHeartbeats 2000000 in
theorem isUnder_any (a b : LblD) (ha : a.cs < 18446744073709551616) (hb : b.cs < 18446744073709551616) (w : World) : Calls Tryz.prog 74 #[pairV a b] w fun e w' => e = .returned (.bool (decide (a.lv ≤ b.lv) && decide (b.ig ≤ a.ig) && subB a.cs b.cs)) ∧ Below w.heap.size w w' := by
  have H1 := fun W => sub_any a.cs b.cs ha hb W
  obtain ⟨l1, S1, i1⟩ := a
  obtain ⟨l2, S2, i2⟩ := b
  dsimp only at *
  generalize subB S1 S2 = y at *
  have B0 := (Below.refl _ w).alloc (Nat.le_refl _) (.cells #[.int .i64 l1, .int .u64 S1, .int .i64 i1, .int .i64 l2, .int .u64 S2, .int .i64 i2] 104)
  by_cases h1 : l1 ≤ l2
  · have z1 : decide (l1 ≤ l2) = true := by simpa using h1
    by_cases h2 : i2 ≤ i1
    · have z2 : decide (i2 ≤ i1) = true := by simpa using h2
      rw [z1, z2, Bool.true_and, Bool.true_and]
      go_enter Tryz.func74, Tryz.ntmps74
      go_wp2_with fail
      with_reducible refine (H1 _).mono ?_
      rintro e w1 ⟨rfl, rfl⟩
      go_wp2_with fail
      go_ret
      exact ⟨rfl, B0⟩
    · have z2 : decide (i2 ≤ i1) = false := by simpa using h2
      rw [z1, z2, Bool.true_and, Bool.false_and]
      go_enter Tryz.func74, Tryz.ntmps74
      go_wp2_with fail
      go_ret
      exact ⟨rfl, B0⟩
  · have z1 : decide (l1 ≤ l2) = false := by simpa using h1
    rw [z1, Bool.false_and, Bool.false_and]
    go_enter Tryz.func74, Tryz.ntmps74
    go_wp2_with fail
    go_ret
    exact ⟨rfl, B0⟩
end Go.Proofs.YtmjmmcdhpognaaaGreatDoor
/- Walks of layer 2: Under, Top. -/
namespace Go.Proofs.YtmjmmcdhpognaaaGreatDoor
open Go.RowKit Go.Shelf
attribute [local go_sem] Oper.semAt_some
set_option maxRecDepth 100000 in
set_option maxHeartbeats 4000000 in
theorem under_any (a b : LblD) (ha : a.cs < 18446744073709551616) (hb : b.cs < 18446744073709551616) (w : World) : Calls Tryz.prog 55 #[lblV a, lblV b] w fun e w' => e = .returned (.bool (underB a b)) ∧ Below w.heap.size w w' := by
  have HC := fun W => checked2_any a b W
  have HU := fun W => isUnder_any a b ha hb W
  have hu : underB a b = (lblB a && lblB b && (decide (a.lv ≤ b.lv) && decide (b.ig ≤ a.ig) && subB a.cs b.cs)) := by unfold underB; simp only [Bool.and_assoc]
  have heq : a = b → underB a b = (lblB a && lblB b) := fun h => by
    subst h; unfold underB; rw [subB_refl, decide_eq_true (Int.le_refl _), decide_eq_true (Int.le_refl _)]; simp
  generalize underB a b = R at *
  generalize hx : lblB a = x at *
  generalize hy : lblB b = y at *
  generalize (decide (a.lv ≤ b.lv) && decide (b.ig ≤ a.ig) && subB a.cs b.cs) = z at *
  have hI : Tryz.prog.isIface 73 = true := by kernel_rfl
  obtain ⟨l1, S1, i1⟩ := a
  obtain ⟨l2, S2, i2⟩ := b
  have B0 := (((Below.refl _ w).alloc (Nat.le_refl _) (.cells #[.int .i64 l1, .int .u64 S1, .int .i64 i1] 25)).alloc (by simp) (.cells #[.int .i64 l2, .int .u64 S2, .int .i64 i2] 25)).alloc (by simp; omega) (.cells #[.int .i64 l1, .int .u64 S1, .int .i64 i1, .int .i64 l2, .int .u64 S2, .int .i64 i2] 104)
  have n1 := ((Blk.new w #[.int .i64 l1, .int .u64 S1, .int .i64 i1] 25).alloc (.cells #[.int .i64 l2, .int .u64 S2, .int .i64 i2] 25)).alloc (.cells #[.int .i64 l1, .int .u64 S1, .int .i64 i1, .int .i64 l2, .int .u64 S2, .int .i64 i2] 104)
  have n2 := (Blk.new (w.alloc (.cells #[.int .i64 l1, .int .u64 S1, .int .i64 i1] 25)) #[.int .i64 l2, .int .u64 S2, .int .i64 i2] 25).alloc (.cells #[.int .i64 l1, .int .u64 S1, .int .i64 i1, .int .i64 l2, .int .u64 S2, .int .i64 i2] 104)
  have n3 := Blk.new ((w.alloc (.cells #[.int .i64 l1, .int .u64 S1, .int .i64 i1] 25)).alloc (.cells #[.int .i64 l2, .int .u64 S2, .int .i64 i2] 25)) #[.int .i64 l1, .int .u64 S1, .int .i64 i1, .int .i64 l2, .int .u64 S2, .int .i64 i2] 104
  rw [World.size_alloc] at n2
  rw [World.size_alloc, World.size_alloc] at n3
  have Q1 := Lib.hid hu
  have Q2 := Lib.hid heq
  clear hu heq hx hy
  go_enter Tryz.func55, Tryz.ntmps55
  go_wp2_with fail
  generalize (((w.alloc (.cells #[.int .i64 l1, .int .u64 S1, .int .i64 i1] 25)).alloc (.cells #[.int .i64 l2, .int .u64 S2, .int .i64 i2] 25)).alloc (.cells #[.int .i64 l1, .int .u64 S1, .int .i64 i1, .int .i64 l2, .int .u64 S2, .int .i64 i2] 104)) = W0 at *
  with_reducible refine (HC _).mono ?_
  rintro e w1 ⟨rfl, b1⟩
  have B1 := B0.trans (b1.mono B0.size)
  cases x with
  | false =>
    have hR : R = false := by rw [Q1.out]; rfl
    subst hR
    simp only [Bool.false_eq_true, if_false]
    go_wp2_with fail
    go_ret
    exact ⟨rfl, B1⟩
  | true =>
    cases y with
    | false =>
      have hR : R = false := by rw [Q1.out]; rfl
      subst hR
      simp only [Bool.false_eq_true, if_false, if_true]
      go_wp2_with fail
      go_ret
      exact ⟨rfl, B1⟩
    | true =>
      simp only [if_true]
      have m1 := n1.below b1 n1.lt
      have m2 := n2.below b1 n2.lt
      have m3 := n3.below b1 n3.lt
      have d0 := m1.cell 0
      have d1 := m1.cell 1
      have d2 := m1.cell 2
      have e0 := m2.cell 0
      have e1 := m2.cell 1
      have e2 := m2.cell 2
      have f0 := m3.cell 0
      have f1 := m3.cell 1
      have f2 := m3.cell 2
      have f3 := m3.cell 3
      have f4 := m3.cell 4
      have f5 := m3.cell 5
      simp at d0 d1 d2 e0 e1 e2 f0 f1 f2 f3 f4 f5
      clear n1 n2 n3 m1 m2 m3 HC
      rcases lbl_cases l1 S1 i1 l2 S2 i2 with ⟨h, rfl, rfl, rfl⟩ | ⟨hd, hz⟩
      · have hR : R = true := by rw [Q2.out h]; rfl
        subst hR
        clear Q1 Q2 HU h
        go_wp2_with fail
        go_ret
        exact ⟨rfl, B1⟩
      · have hR : R = z := by rw [Q1.out]; rfl
        subst hR
        clear Q1 Q2 hd
        rcases hz with hz | ⟨hz1, hz⟩ | ⟨hz1, hz2, hz⟩
        all_goals go_wp2_with fail
        all_goals (with_reducible refine (HU _).mono ?_)
        all_goals (rintro e w2 ⟨rfl, b2⟩)
        all_goals go_wp2_with fail
        all_goals go_ret
        all_goals exact ⟨rfl, B1.trans (b2.mono B1.size)⟩
abbrev topL : LblD := ⟨15, 18446744073709551615, 0⟩
end Go.Proofs.YtmjmmcdhpognaaaGreatDoor
/- Walks of layer 10's reference: Right. -/
namespace Go.Proofs.YtmjmmcdhpognaaaGreatDoor
open Go.RowKit Go.Shelf
attribute [local go_sem] Oper.semAt_some
theorem objB_name {x : ObjD} (h : objB x = true) : x.name ≠ [] := by
  intro e
  unfold objB at h
  rw [e] at h
  split at h
  · simp [nameB] at h
  · split at h
    · simp [nameB] at h
    · cases h
set_option maxRecDepth 100000 in
set_option maxHeartbeats 4000000 in
theorem refRight_any (l : List ObjD) (hl : FitsS l) (v : Value) (w : World) (hv : ObjsV w v l) :
    Calls Tryz.prog 24 #[v] w fun e w' => e = .returned (.bool (spaceB l)) ∧ Below w.heap.size w w' := by
  obtain ⟨a, cap, rfl, hc⟩ := hv.at
  have hlm : l.length ≤ 1000000 := hl.1
  generalize hR : spaceB l = R
  have HR := Lib.hid hR
  clear hR hv
  go_enter Tryz.func24, Tryz.ntmps24
  go_wp2_with fail
  go_loopg [3] l.length (fun gg s3 wr => ∃ (kk : Nat) (last : List UInt8), kk ≤ l.length ∧ l.length - kk ≤ gg ∧ s3 = .int .i64 kk ∧ Below w.heap.size w wr ∧ Hid (spB [] l = spB last (l.drop kk)) ∧ Hid ((kk = 0 → last = []) ∧ ∀ (h : 0 < kk) (h2 : kk - 1 < l.length), last = l[kk-1].name))
  case atStart => exact ⟨0, [], Nat.zero_le _, by omega, rfl, Below.refl _ _, rfl, ⟨fun _ => rfl, fun h => absurd h (by omega)⟩⟩
  case round =>
    obtain ⟨kk, last, hkk, hg, rfl, hB, hS, hL⟩ := hrel
    by_cases hlt : kk < l.length
    · have hltz : (kk : Int) < (l.length : Int) := by omega
      have hkz : (0 : Int) ≤ (kk : Int) := by omega
      obtain ⟨b, o, lv, rfl, hb, hlv, k0, k1, k2, k3, k4⟩ := hc kk hlt
      have hpre : 0 < kk → w.cell? ⟨b, o + (kk - 1) * 5, none⟩ = some (.string ⟨last.toArray⟩) := by
        intro h0
        obtain ⟨b', o', lv', e, -, -, k0', -⟩ := hc (kk - 1) (by omega)
        cases e
        rw [hL.out.2 h0 (by omega)]; exact k0'
      have hlast0 := hL.out.1
      have hnext : ∀ h2 : kk + 1 - 1 < l.length, l[kk].name = l[kk + 1 - 1].name := fun _ => rfl
      have hfx := hl.2 l[kk] (List.getElem_mem _)
      have HS : Hid (spB [] l = spB last (l[kk] :: l.drop (kk + 1))) := by show _ = _; rw [hS.out, drop_cons l kk hlt]
      have hBk := KeepC.of_below hB
      replace hlv := hlv.keep hBk
      have HI := fun W (h : KeepC wr W) => isObjR_any l[kk] hfx lv W (hlv.keep h)
      have hobn : objB l[kk] = true → l[kk].name ≠ [] := objB_name
      clear hc hS hL
      have HN := Lib.hid hnext
      clear hnext
      generalize hx : l[kk] = x at HI hobn HS k0 k1 k2 k3 k4 hlv hfx
      have HX := Lib.hid hx
      clear hx
      obtain ⟨name, kind, data, max, items⟩ := x
      dsimp only at *
      obtain ⟨a2, cap2, rfl, -⟩ := hlv.at
      clear hlv hfx
      generalize hO : objB ⟨name, kind, data, max, items⟩ = ob at *
      have HO := Lib.hid hO
      clear hO
      have hle := leq_not name last
      have hle2 : (name == last) = (last == name) := by rw [Bool.eq_iff_iff, beq_iff_eq, beq_iff_eq]; exact ⟨Eq.symm, Eq.symm⟩
      have hwl := fun (h : 0 < kk) => hpre h
      have SK : Hid (∀ u, Below w.heap.size w u → u.cell? ⟨b, o + kk * 5, none⟩ = some (.string ⟨name.toArray⟩) ∧ u.cell? ⟨b, o + kk * 5 + 1, none⟩ = some (.int .i64 kind) ∧ u.cell? ⟨b, o + kk * 5 + 2, none⟩ = some (.string ⟨data.toArray⟩) ∧ u.cell? ⟨b, o + kk * 5 + 3, none⟩ = some (.int .i64 max) ∧ u.cell? ⟨b, o + kk * 5 + 4, none⟩ = some (.slice a2 items.length cap2)) := by
        show ∀ u, _
        intro u h
        have hk := (KeepC.of_below h).2
        exact ⟨hk _ _ _ k0, hk _ _ _ k1, hk _ _ _ k2, hk _ _ _ k3, hk _ _ _ k4⟩
      clear k0 k1 k2 k3 k4
      go_wp2_with fail
      cases ob with
      | false =>
        have HRF : Hid (false = R) := by
          show _ = _
          rw [← HR.out, spaceB, HS.out, spB, HO.out]; rfl
        clear HR HS hle hle2 hwl hpre hlast0 hobn
        refine wp_region_noPanic ?_
        refine wp_region_held_drew (S := (fun u => u.cell? ⟨b, o + kk * 5, none⟩ = some (.string ⟨name.toArray⟩) ∧ u.cell? ⟨b, o + kk * 5 + 1, none⟩ = some (.int .i64 kind) ∧ u.cell? ⟨b, o + kk * 5 + 2, none⟩ = some (.string ⟨data.toArray⟩) ∧ u.cell? ⟨b, o + kk * 5 + 3, none⟩ = some (.int .i64 max) ∧ u.cell? ⟨b, o + kk * 5 + 4, none⟩ = some (.slice a2 items.length cap2))) (by kernel_rfl) ?_ (fun hHeld => ?_)
        · exact SK.out _ hB.drew
        refine wpAnyH_take (i := 0) (oi := _) (v := ?_) (nth_at rfl) (by kernel_rfl) (by kernel_rfl) (by kernel_rfl) (fun _ _ _ h => h) (Or.inl ⟨by rfl, ?_⟩) (by assumption) ?_
        rotate_left 1
        · intro w hSw; (try dsimp only at hSw); (go_simp <;> with_reducible rfl)
        try simp only [Act.put, List.setIfInBounds_toArray, List.set_cons_zero, List.set_cons_succ]
        refine wpAnyH_take (i := 1) (oi := _) (v := ?_) (nth_at rfl) (by kernel_rfl) (by kernel_rfl) (by kernel_rfl) (fun _ _ _ h => h) (Or.inl ⟨by rfl, ?_⟩) (by assumption) ?_
        rotate_left 1
        · intro w hSw; (try dsimp only at hSw); (go_simp <;> with_reducible rfl)
        try simp only [Act.put, List.setIfInBounds_toArray, List.set_cons_zero, List.set_cons_succ]
        refine wpAnyH_take (i := 2) (oi := _) (v := ?_) (nth_at rfl) (by kernel_rfl) (by kernel_rfl) (by kernel_rfl) (fun _ _ _ h => h) (Or.inl ⟨by rfl, ?_⟩) (by assumption) ?_
        rotate_left 1
        · intro w hSw; (try dsimp only at hSw); (go_simp <;> with_reducible rfl)
        try simp only [Act.put, List.setIfInBounds_toArray, List.set_cons_zero, List.set_cons_succ]
        refine wpAnyH_take (i := 3) (oi := _) (v := ?_) (nth_at rfl) (by kernel_rfl) (by kernel_rfl) (by kernel_rfl) (fun _ _ _ h => h) (Or.inl ⟨by rfl, ?_⟩) (by assumption) ?_
        rotate_left 1
        · intro w hSw; (try dsimp only at hSw); (go_simp <;> with_reducible rfl)
        try simp only [Act.put, List.setIfInBounds_toArray, List.set_cons_zero, List.set_cons_succ]
        refine wpAnyH_ready (rs := [4]) (by kernel_rfl) (by simp) ?_
        refine AllReadyH.cons (o := _) (nth_at rfl) (fun K hK => ?_) AllReadyH.nil
        go_simp
        with_reducible refine (HI _ (KeepC.of_below (Below.refl wr.heap.size wr).drew)).mono ?_
        rintro e w2 ⟨rfl, hb2⟩
        have hc2 := (Below.refl wr.heap.size wr).drew.trans hb2
        have B2 := hB.trans (hc2.mono hB.size)
        try dsimp only
        refine hK.out _ _ ?_ (fun hHeld => ?_)
        · exact SK.out _ B2
        clear hK K
        try simp only [Act.put, List.setIfInBounds_toArray, List.set_cons_zero, List.set_cons_succ]
        refine wpAnyH_take (i := 5) (oi := _) (v := ?_) (nth_at rfl) (by kernel_rfl) (by kernel_rfl) (by kernel_rfl) (fun _ _ _ h => h) (Or.inl ⟨by rfl, ?_⟩) (by assumption) ?_
        rotate_left 1
        · intro w hSw; (try dsimp only at hSw); (go_simp <;> with_reducible rfl)
        try simp only [Act.put, List.setIfInBounds_toArray, List.set_cons_zero, List.set_cons_succ]
        refine wpAnyH_take (i := 6) (oi := _) (v := ?_) (nth_at rfl) (by kernel_rfl) (by kernel_rfl) (by kernel_rfl) (fun _ _ _ h => h) (Or.inl ⟨by rfl, ?_⟩) (by assumption) ?_
        rotate_left 1
        · intro w hSw; (try dsimp only at hSw); (go_simp <;> with_reducible rfl)
        try simp only [Act.put, List.setIfInBounds_toArray, List.set_cons_zero, List.set_cons_succ]
        refine wpAnyH_take (i := 7) (oi := _) (v := undef) (nth_at rfl) (by kernel_rfl) (by kernel_rfl) (by kernel_rfl) (fun _ _ _ h => h) (Or.inr ⟨by rfl, rfl⟩) (by assumption) ?_
        try simp only [Act.put, List.setIfInBounds_toArray, List.set_cons_zero, List.set_cons_succ]
        refine wpAnyH_take (i := 8) (oi := _) (v := undef) (nth_at rfl) (by kernel_rfl) (by kernel_rfl) (by kernel_rfl) (fun _ _ _ h => h) (Or.inr ⟨by rfl, rfl⟩) (by assumption) ?_
        try simp only [Act.put, List.setIfInBounds_toArray, List.set_cons_zero, List.set_cons_succ]
        refine wpAnyH_take (i := 9) (oi := _) (v := undef) (nth_at rfl) (by kernel_rfl) (by kernel_rfl) (by kernel_rfl) (fun _ _ _ h => h) (Or.inr ⟨by rfl, rfl⟩) (by assumption) ?_
        try simp only [Act.put, List.setIfInBounds_toArray, List.set_cons_zero, List.set_cons_succ]
        refine wpAnyH_take (i := 10) (oi := _) (v := undef) (nth_at rfl) (by kernel_rfl) (by kernel_rfl) (by kernel_rfl) (fun _ _ _ h => h) (Or.inr ⟨by rfl, rfl⟩) (by assumption) ?_
        try simp only [Act.put, List.setIfInBounds_toArray, List.set_cons_zero, List.set_cons_succ]
        refine wpAnyH_take (i := 11) (oi := _) (v := undef) (nth_at rfl) (by kernel_rfl) (by kernel_rfl) (by kernel_rfl) (fun _ _ _ h => h) (Or.inr ⟨by rfl, rfl⟩) (by assumption) ?_
        try simp only [Act.put, List.setIfInBounds_toArray, List.set_cons_zero, List.set_cons_succ]
        refine wpAnyH_take (i := 12) (oi := _) (v := undef) (nth_at rfl) (by kernel_rfl) (by kernel_rfl) (by kernel_rfl) (fun _ _ _ h => h) (Or.inr ⟨by rfl, rfl⟩) (by assumption) ?_
        try simp only [Act.put, List.setIfInBounds_toArray, List.set_cons_zero, List.set_cons_succ]
        refine wpAnyH_take (i := 13) (oi := _) (v := undef) (nth_at rfl) (by kernel_rfl) (by kernel_rfl) (by kernel_rfl) (fun _ _ _ h => h) (Or.inr ⟨by rfl, rfl⟩) (by assumption) ?_
        try simp only [Act.put, List.setIfInBounds_toArray, List.set_cons_zero, List.set_cons_succ]
        refine wpAnyH_take (i := 14) (oi := _) (v := undef) (nth_at rfl) (by kernel_rfl) (by kernel_rfl) (by kernel_rfl) (fun _ _ _ h => h) (Or.inr ⟨by rfl, rfl⟩) (by assumption) ?_
        try simp only [Act.put, List.setIfInBounds_toArray, List.set_cons_zero, List.set_cons_succ]
        refine wpAnyH_take (i := 15) (oi := _) (v := undef) (nth_at rfl) (by kernel_rfl) (by kernel_rfl) (by kernel_rfl) (fun _ _ _ h => h) (Or.inr ⟨by rfl, rfl⟩) (by assumption) ?_
        try simp only [Act.put, List.setIfInBounds_toArray, List.set_cons_zero, List.set_cons_succ]
        refine wpAnyH_take (i := 16) (oi := _) (v := undef) (nth_at rfl) (by kernel_rfl) (by kernel_rfl) (by kernel_rfl) (fun _ _ _ h => h) (Or.inr ⟨by rfl, rfl⟩) (by assumption) ?_
        try simp only [Act.put, List.setIfInBounds_toArray, List.set_cons_zero, List.set_cons_succ]
        refine wpAnyH_take (i := 17) (oi := _) (v := undef) (nth_at rfl) (by kernel_rfl) (by kernel_rfl) (by kernel_rfl) (fun _ _ _ h => h) (Or.inr ⟨by rfl, rfl⟩) (by assumption) ?_
        try simp only [Act.put, List.setIfInBounds_toArray, List.set_cons_zero, List.set_cons_succ]
        refine wpAnyH_take (i := 18) (oi := _) (v := undef) (nth_at rfl) (by kernel_rfl) (by kernel_rfl) (by kernel_rfl) (fun _ _ _ h => h) (Or.inr ⟨by rfl, rfl⟩) (by assumption) ?_
        try simp only [Act.put, List.setIfInBounds_toArray, List.set_cons_zero, List.set_cons_succ]
        refine wpAnyH_take (i := 19) (oi := _) (v := undef) (nth_at rfl) (by kernel_rfl) (by kernel_rfl) (by kernel_rfl) (fun _ _ _ h => h) (Or.inr ⟨by rfl, rfl⟩) (by assumption) ?_
        try simp only [Act.put, List.setIfInBounds_toArray, List.set_cons_zero, List.set_cons_succ]
        refine wpAnyH_take (i := 20) (oi := _) (v := undef) (nth_at rfl) (by kernel_rfl) (by kernel_rfl) (by kernel_rfl) (fun _ _ _ h => h) (Or.inr ⟨by rfl, rfl⟩) (by assumption) ?_
        try simp only [Act.put, List.setIfInBounds_toArray, List.set_cons_zero, List.set_cons_succ]
        refine wpAnyH_take (i := 21) (oi := _) (v := undef) (nth_at rfl) (by kernel_rfl) (by kernel_rfl) (by kernel_rfl) (fun _ _ _ h => h) (Or.inr ⟨by rfl, rfl⟩) (by assumption) ?_
        try simp only [Act.put, List.setIfInBounds_toArray, List.set_cons_zero, List.set_cons_succ]
        refine wpAnyH_take (i := 22) (oi := _) (v := undef) (nth_at rfl) (by kernel_rfl) (by kernel_rfl) (by kernel_rfl) (fun _ _ _ h => h) (Or.inr ⟨by rfl, rfl⟩) (by assumption) ?_
        try simp only [Act.put, List.setIfInBounds_toArray, List.set_cons_zero, List.set_cons_succ]
        refine wpAnyH_take (i := 23) (oi := _) (v := ?_) (nth_at rfl) (by kernel_rfl) (by kernel_rfl) (by kernel_rfl) (fun _ _ _ h => h) (Or.inl ⟨by rfl, ?_⟩) (by assumption) ?_
        rotate_left 1
        · intro w hSw; (try dsimp only at hSw); (go_simp <;> with_reducible rfl)
        try simp only [Act.put, List.setIfInBounds_toArray, List.set_cons_zero, List.set_cons_succ]
        refine wpAnyH_done (by kernel_rfl) ?_ _
        refine NoPanic.normal ?_
        go_wp2_with fail
        go_ret
        exact ⟨ret_bool (by rw [← HRF.out]), B2⟩
      | true =>
        by_cases hk0 : 0 < kk
        · have hgz : decide ((0 : Int) < (kk : Int)) = true := by simp; omega
          have hw1 : IntKind.i64.wrap ((kk : Int) - 1) = ((kk - 1 : Nat) : Int) := by rw [IntWalk.i64_in _ (by omega)]; omega
          have hz1 : (0 : Int) ≤ ((kk - 1 : Nat) : Int) := by omega
          have hz2 : ((kk - 1 : Nat) : Int) < (l.length : Int) := by omega
          have kp := hpre hk0
          have SK2 : Hid (∀ u, Below w.heap.size w u → (u.cell? ⟨b, o + kk * 5, none⟩ = some (.string ⟨name.toArray⟩) ∧ u.cell? ⟨b, o + kk * 5 + 1, none⟩ = some (.int .i64 kind) ∧ u.cell? ⟨b, o + kk * 5 + 2, none⟩ = some (.string ⟨data.toArray⟩) ∧ u.cell? ⟨b, o + kk * 5 + 3, none⟩ = some (.int .i64 max) ∧ u.cell? ⟨b, o + kk * 5 + 4, none⟩ = some (.slice a2 items.length cap2)) ∧ u.cell? ⟨b, o + (kk - 1) * 5, none⟩ = some (.string ⟨last.toArray⟩)) := by
            show ∀ u, _
            intro u h
            exact ⟨SK.out u h, (KeepC.of_below h).2 _ _ _ kp⟩
          clear hpre hlast0 hobn hwl SK kp
          have SK := SK2
          clear SK2
          clear hle
          cases hb0 : Op.bytesLess last name with
          | true =>
            have HLB := Lib.hid hb0
            have HS2 : Hid (spB [] l = spB name (l.drop (kk + 1))) := by
              show _ = _
              rw [HS.out, spB, HO.out, HLB.out]; rfl
            clear HS HO HLB
            refine wp_region_noPanic ?_
            refine wp_region_held_drew (S := (fun u => (u.cell? ⟨b, o + kk * 5, none⟩ = some (.string ⟨name.toArray⟩) ∧ u.cell? ⟨b, o + kk * 5 + 1, none⟩ = some (.int .i64 kind) ∧ u.cell? ⟨b, o + kk * 5 + 2, none⟩ = some (.string ⟨data.toArray⟩) ∧ u.cell? ⟨b, o + kk * 5 + 3, none⟩ = some (.int .i64 max) ∧ u.cell? ⟨b, o + kk * 5 + 4, none⟩ = some (.slice a2 items.length cap2)) ∧ u.cell? ⟨b, o + (kk - 1) * 5, none⟩ = some (.string ⟨last.toArray⟩))) (by kernel_rfl) ?_ (fun hHeld => ?_)
            · exact SK.out _ hB.drew
            refine wpAnyH_take (i := 0) (oi := _) (v := ?_) (nth_at rfl) (by kernel_rfl) (by kernel_rfl) (by kernel_rfl) (fun _ _ _ h => h) (Or.inl ⟨by rfl, ?_⟩) (by assumption) ?_
            rotate_left 1
            · intro w hSw; (try dsimp only at hSw); (go_simp <;> with_reducible rfl)
            try simp only [Act.put, List.setIfInBounds_toArray, List.set_cons_zero, List.set_cons_succ]
            refine wpAnyH_take (i := 1) (oi := _) (v := ?_) (nth_at rfl) (by kernel_rfl) (by kernel_rfl) (by kernel_rfl) (fun _ _ _ h => h) (Or.inl ⟨by rfl, ?_⟩) (by assumption) ?_
            rotate_left 1
            · intro w hSw; (try dsimp only at hSw); (go_simp <;> with_reducible rfl)
            try simp only [Act.put, List.setIfInBounds_toArray, List.set_cons_zero, List.set_cons_succ]
            refine wpAnyH_take (i := 2) (oi := _) (v := ?_) (nth_at rfl) (by kernel_rfl) (by kernel_rfl) (by kernel_rfl) (fun _ _ _ h => h) (Or.inl ⟨by rfl, ?_⟩) (by assumption) ?_
            rotate_left 1
            · intro w hSw; (try dsimp only at hSw); (go_simp <;> with_reducible rfl)
            try simp only [Act.put, List.setIfInBounds_toArray, List.set_cons_zero, List.set_cons_succ]
            refine wpAnyH_take (i := 3) (oi := _) (v := ?_) (nth_at rfl) (by kernel_rfl) (by kernel_rfl) (by kernel_rfl) (fun _ _ _ h => h) (Or.inl ⟨by rfl, ?_⟩) (by assumption) ?_
            rotate_left 1
            · intro w hSw; (try dsimp only at hSw); (go_simp <;> with_reducible rfl)
            try simp only [Act.put, List.setIfInBounds_toArray, List.set_cons_zero, List.set_cons_succ]
            refine wpAnyH_ready (rs := [4]) (by kernel_rfl) (by simp) ?_
            refine AllReadyH.cons (o := _) (nth_at rfl) (fun K hK => ?_) AllReadyH.nil
            go_simp
            with_reducible refine (HI _ (KeepC.of_below (Below.refl wr.heap.size wr).drew)).mono ?_
            rintro e w2 ⟨rfl, hb2⟩
            have hc2 := (Below.refl wr.heap.size wr).drew.trans hb2
            have B2 := hB.trans (hc2.mono hB.size)
            try dsimp only
            refine hK.out _ _ ?_ (fun hHeld => ?_)
            · exact SK.out _ B2
            clear hK K
            try simp only [Act.put, List.setIfInBounds_toArray, List.set_cons_zero, List.set_cons_succ]
            refine wpAnyH_take (i := 5) (oi := _) (v := ?_) (nth_at rfl) (by kernel_rfl) (by kernel_rfl) (by kernel_rfl) (fun _ _ _ h => h) (Or.inl ⟨by rfl, ?_⟩) (by assumption) ?_
            rotate_left 1
            · intro w hSw; (try dsimp only at hSw); (go_simp <;> with_reducible rfl)
            try simp only [Act.put, List.setIfInBounds_toArray, List.set_cons_zero, List.set_cons_succ]
            refine wpAnyH_take (i := 6) (oi := _) (v := ?_) (nth_at rfl) (by kernel_rfl) (by kernel_rfl) (by kernel_rfl) (fun _ _ _ h => h) (Or.inl ⟨by rfl, ?_⟩) (by assumption) ?_
            rotate_left 1
            · intro w hSw; (try dsimp only at hSw); (go_simp <;> with_reducible rfl)
            try simp only [Act.put, List.setIfInBounds_toArray, List.set_cons_zero, List.set_cons_succ]
            refine wpAnyH_take (i := 7) (oi := _) (v := ?_) (nth_at rfl) (by kernel_rfl) (by kernel_rfl) (by kernel_rfl) (fun _ _ _ h => h) (Or.inl ⟨by rfl, ?_⟩) (by assumption) ?_
            rotate_left 1
            · intro w hSw; (try dsimp only at hSw); (go_simp <;> with_reducible rfl)
            try simp only [Act.put, List.setIfInBounds_toArray, List.set_cons_zero, List.set_cons_succ]
            refine wpAnyH_take (i := 8) (oi := _) (v := ?_) (nth_at rfl) (by kernel_rfl) (by kernel_rfl) (by kernel_rfl) (fun _ _ _ h => h) (Or.inl ⟨by rfl, ?_⟩) (by assumption) ?_
            rotate_left 1
            · intro w hSw; (try dsimp only at hSw); (go_simp <;> with_reducible rfl)
            try simp only [Act.put, List.setIfInBounds_toArray, List.set_cons_zero, List.set_cons_succ]
            refine wpAnyH_take (i := 9) (oi := _) (v := ?_) (nth_at rfl) (by kernel_rfl) (by kernel_rfl) (by kernel_rfl) (fun _ _ _ h => h) (Or.inl ⟨by rfl, ?_⟩) (by assumption) ?_
            rotate_left 1
            · intro w hSw; (try dsimp only at hSw); (go_simp <;> with_reducible rfl)
            try simp only [Act.put, List.setIfInBounds_toArray, List.set_cons_zero, List.set_cons_succ]
            refine wpAnyH_take (i := 10) (oi := _) (v := ?_) (nth_at rfl) (by kernel_rfl) (by kernel_rfl) (by kernel_rfl) (fun _ _ _ h => h) (Or.inl ⟨by rfl, ?_⟩) (by assumption) ?_
            rotate_left 1
            · intro w hSw; (try dsimp only at hSw); (go_simp <;> with_reducible rfl)
            try simp only [Act.put, List.setIfInBounds_toArray, List.set_cons_zero, List.set_cons_succ]
            refine wpAnyH_take (i := 11) (oi := _) (v := ?_) (nth_at rfl) (by kernel_rfl) (by kernel_rfl) (by kernel_rfl) (fun _ _ _ h => h) (Or.inl ⟨by rfl, ?_⟩) (by assumption) ?_
            rotate_left 1
            · intro w hSw; (try dsimp only at hSw); (go_simp <;> with_reducible rfl)
            try simp only [Act.put, List.setIfInBounds_toArray, List.set_cons_zero, List.set_cons_succ]
            refine wpAnyH_take (i := 12) (oi := _) (v := ?_) (nth_at rfl) (by kernel_rfl) (by kernel_rfl) (by kernel_rfl) (fun _ _ _ h => h) (Or.inl ⟨by rfl, ?_⟩) (by assumption) ?_
            rotate_left 1
            · intro w hSw; (try dsimp only at hSw); (go_simp <;> with_reducible rfl)
            try simp only [Act.put, List.setIfInBounds_toArray, List.set_cons_zero, List.set_cons_succ]
            refine wpAnyH_take (i := 13) (oi := _) (v := ?_) (nth_at rfl) (by kernel_rfl) (by kernel_rfl) (by kernel_rfl) (fun _ _ _ h => h) (Or.inl ⟨by rfl, ?_⟩) (by assumption) ?_
            rotate_left 1
            · intro w hSw; (try dsimp only at hSw); (go_simp <;> with_reducible rfl)
            try simp only [Act.put, List.setIfInBounds_toArray, List.set_cons_zero, List.set_cons_succ]
            refine wpAnyH_take (i := 14) (oi := _) (v := ?_) (nth_at rfl) (by kernel_rfl) (by kernel_rfl) (by kernel_rfl) (fun _ _ _ h => h) (Or.inl ⟨by rfl, ?_⟩) (by assumption) ?_
            rotate_left 1
            · intro w hSw; (try dsimp only at hSw); (go_simp <;> with_reducible rfl)
            try simp only [Act.put, List.setIfInBounds_toArray, List.set_cons_zero, List.set_cons_succ]
            refine wpAnyH_take (i := 15) (oi := _) (v := ?_) (nth_at rfl) (by kernel_rfl) (by kernel_rfl) (by kernel_rfl) (fun _ _ _ h => h) (Or.inl ⟨by rfl, ?_⟩) (by assumption) ?_
            rotate_left 1
            · intro w hSw; (try dsimp only at hSw); (go_simp <;> with_reducible rfl)
            try simp only [Act.put, List.setIfInBounds_toArray, List.set_cons_zero, List.set_cons_succ]
            refine wpAnyH_take (i := 16) (oi := _) (v := ?_) (nth_at rfl) (by kernel_rfl) (by kernel_rfl) (by kernel_rfl) (fun _ _ _ h => h) (Or.inl ⟨by rfl, ?_⟩) (by assumption) ?_
            rotate_left 1
            · intro w hSw; (try dsimp only at hSw); (go_simp <;> with_reducible rfl)
            try simp only [Act.put, List.setIfInBounds_toArray, List.set_cons_zero, List.set_cons_succ]
            refine wpAnyH_take (i := 17) (oi := _) (v := ?_) (nth_at rfl) (by kernel_rfl) (by kernel_rfl) (by kernel_rfl) (fun _ _ _ h => h) (Or.inl ⟨by rfl, ?_⟩) (by assumption) ?_
            rotate_left 1
            · intro w hSw; (try dsimp only at hSw); (go_simp <;> with_reducible rfl)
            try simp only [Act.put, List.setIfInBounds_toArray, List.set_cons_zero, List.set_cons_succ]
            refine wpAnyH_take (i := 18) (oi := _) (v := ?_) (nth_at rfl) (by kernel_rfl) (by kernel_rfl) (by kernel_rfl) (fun _ _ _ h => h) (Or.inl ⟨by rfl, ?_⟩) (by assumption) ?_
            rotate_left 1
            · intro w hSw; (try dsimp only at hSw); (go_simp <;> with_reducible rfl)
            try simp only [Act.put, List.setIfInBounds_toArray, List.set_cons_zero, List.set_cons_succ]
            refine wpAnyH_take (i := 19) (oi := _) (v := ?_) (nth_at rfl) (by kernel_rfl) (by kernel_rfl) (by kernel_rfl) (fun _ _ _ h => h) (Or.inl ⟨by rfl, ?_⟩) (by assumption) ?_
            rotate_left 1
            · intro w hSw; (try dsimp only at hSw); (go_simp <;> with_reducible rfl)
            try simp only [Act.put, List.setIfInBounds_toArray, List.set_cons_zero, List.set_cons_succ]
            refine wpAnyH_take (i := 20) (oi := _) (v := ?_) (nth_at rfl) (by kernel_rfl) (by kernel_rfl) (by kernel_rfl) (fun _ _ _ h => h) (Or.inl ⟨by rfl, ?_⟩) (by assumption) ?_
            rotate_left 1
            · intro w hSw; (try dsimp only at hSw); (go_simp <;> with_reducible rfl)
            try simp only [Act.put, List.setIfInBounds_toArray, List.set_cons_zero, List.set_cons_succ]
            refine wpAnyH_take (i := 21) (oi := _) (v := ?_) (nth_at rfl) (by kernel_rfl) (by kernel_rfl) (by kernel_rfl) (fun _ _ _ h => h) (Or.inl ⟨by rfl, ?_⟩) (by assumption) ?_
            rotate_left 1
            · intro w hSw; (try dsimp only at hSw); (go_simp <;> with_reducible rfl)
            try simp only [Act.put, List.setIfInBounds_toArray, List.set_cons_zero, List.set_cons_succ]
            refine wpAnyH_take (i := 22) (oi := _) (v := ?_) (nth_at rfl) (by kernel_rfl) (by kernel_rfl) (by kernel_rfl) (fun _ _ _ h => h) (Or.inl ⟨by rfl, ?_⟩) (by assumption) ?_
            rotate_left 1
            · intro w hSw; (try dsimp only at hSw); (go_simp <;> with_reducible rfl)
            try simp only [Act.put, List.setIfInBounds_toArray, List.set_cons_zero, List.set_cons_succ]
            refine wpAnyH_take (i := 23) (oi := _) (v := ?_) (nth_at rfl) (by kernel_rfl) (by kernel_rfl) (by kernel_rfl) (fun _ _ _ h => h) (Or.inl ⟨by rfl, ?_⟩) (by assumption) ?_
            rotate_left 1
            · intro w hSw; (try dsimp only at hSw); (go_simp <;> with_reducible rfl)
            try simp only [Act.put, List.setIfInBounds_toArray, List.set_cons_zero, List.set_cons_succ]
            refine wpAnyH_done (by kernel_rfl) ?_ _
            refine NoPanic.normal ?_
            go_wp2_with fail
            go_roundg (l.length - (kk + 1))
            case measure => omega
            case rel => exact ⟨kk + 1, name, by omega, by omega, by go_num, B2, HS2, ⟨fun h => absurd h (by omega), fun _ h2 => by show name = l[kk].name; rw [HX.out]⟩⟩
          | false =>
            have HLB := Lib.hid hb0
            have HRF : Hid (false = R) := by
              show _ = _
              rw [← HR.out, spaceB, HS.out, spB, HO.out, HLB.out]; rfl
            clear HR HS
            refine wp_region_noPanic ?_
            refine wp_region_held_drew (S := (fun u => (u.cell? ⟨b, o + kk * 5, none⟩ = some (.string ⟨name.toArray⟩) ∧ u.cell? ⟨b, o + kk * 5 + 1, none⟩ = some (.int .i64 kind) ∧ u.cell? ⟨b, o + kk * 5 + 2, none⟩ = some (.string ⟨data.toArray⟩) ∧ u.cell? ⟨b, o + kk * 5 + 3, none⟩ = some (.int .i64 max) ∧ u.cell? ⟨b, o + kk * 5 + 4, none⟩ = some (.slice a2 items.length cap2)) ∧ u.cell? ⟨b, o + (kk - 1) * 5, none⟩ = some (.string ⟨last.toArray⟩))) (by kernel_rfl) ?_ (fun hHeld => ?_)
            · exact SK.out _ hB.drew
            refine wpAnyH_take (i := 0) (oi := _) (v := ?_) (nth_at rfl) (by kernel_rfl) (by kernel_rfl) (by kernel_rfl) (fun _ _ _ h => h) (Or.inl ⟨by rfl, ?_⟩) (by assumption) ?_
            rotate_left 1
            · intro w hSw; (try dsimp only at hSw); (go_simp <;> with_reducible rfl)
            try simp only [Act.put, List.setIfInBounds_toArray, List.set_cons_zero, List.set_cons_succ]
            refine wpAnyH_take (i := 1) (oi := _) (v := ?_) (nth_at rfl) (by kernel_rfl) (by kernel_rfl) (by kernel_rfl) (fun _ _ _ h => h) (Or.inl ⟨by rfl, ?_⟩) (by assumption) ?_
            rotate_left 1
            · intro w hSw; (try dsimp only at hSw); (go_simp <;> with_reducible rfl)
            try simp only [Act.put, List.setIfInBounds_toArray, List.set_cons_zero, List.set_cons_succ]
            refine wpAnyH_take (i := 2) (oi := _) (v := ?_) (nth_at rfl) (by kernel_rfl) (by kernel_rfl) (by kernel_rfl) (fun _ _ _ h => h) (Or.inl ⟨by rfl, ?_⟩) (by assumption) ?_
            rotate_left 1
            · intro w hSw; (try dsimp only at hSw); (go_simp <;> with_reducible rfl)
            try simp only [Act.put, List.setIfInBounds_toArray, List.set_cons_zero, List.set_cons_succ]
            refine wpAnyH_take (i := 3) (oi := _) (v := ?_) (nth_at rfl) (by kernel_rfl) (by kernel_rfl) (by kernel_rfl) (fun _ _ _ h => h) (Or.inl ⟨by rfl, ?_⟩) (by assumption) ?_
            rotate_left 1
            · intro w hSw; (try dsimp only at hSw); (go_simp <;> with_reducible rfl)
            try simp only [Act.put, List.setIfInBounds_toArray, List.set_cons_zero, List.set_cons_succ]
            refine wpAnyH_ready (rs := [4]) (by kernel_rfl) (by simp) ?_
            refine AllReadyH.cons (o := _) (nth_at rfl) (fun K hK => ?_) AllReadyH.nil
            go_simp
            with_reducible refine (HI _ (KeepC.of_below (Below.refl wr.heap.size wr).drew)).mono ?_
            rintro e w2 ⟨rfl, hb2⟩
            have hc2 := (Below.refl wr.heap.size wr).drew.trans hb2
            have B2 := hB.trans (hc2.mono hB.size)
            try dsimp only
            refine hK.out _ _ ?_ (fun hHeld => ?_)
            · exact SK.out _ B2
            clear hK K
            try simp only [Act.put, List.setIfInBounds_toArray, List.set_cons_zero, List.set_cons_succ]
            refine wpAnyH_take (i := 5) (oi := _) (v := ?_) (nth_at rfl) (by kernel_rfl) (by kernel_rfl) (by kernel_rfl) (fun _ _ _ h => h) (Or.inl ⟨by rfl, ?_⟩) (by assumption) ?_
            rotate_left 1
            · intro w hSw; (try dsimp only at hSw); (go_simp <;> with_reducible rfl)
            try simp only [Act.put, List.setIfInBounds_toArray, List.set_cons_zero, List.set_cons_succ]
            refine wpAnyH_take (i := 6) (oi := _) (v := ?_) (nth_at rfl) (by kernel_rfl) (by kernel_rfl) (by kernel_rfl) (fun _ _ _ h => h) (Or.inl ⟨by rfl, ?_⟩) (by assumption) ?_
            rotate_left 1
            · intro w hSw; (try dsimp only at hSw); (go_simp <;> with_reducible rfl)
            try simp only [Act.put, List.setIfInBounds_toArray, List.set_cons_zero, List.set_cons_succ]
            refine wpAnyH_take (i := 7) (oi := _) (v := ?_) (nth_at rfl) (by kernel_rfl) (by kernel_rfl) (by kernel_rfl) (fun _ _ _ h => h) (Or.inl ⟨by rfl, ?_⟩) (by assumption) ?_
            rotate_left 1
            · intro w hSw; (try dsimp only at hSw); (go_simp <;> with_reducible rfl)
            try simp only [Act.put, List.setIfInBounds_toArray, List.set_cons_zero, List.set_cons_succ]
            refine wpAnyH_take (i := 8) (oi := _) (v := ?_) (nth_at rfl) (by kernel_rfl) (by kernel_rfl) (by kernel_rfl) (fun _ _ _ h => h) (Or.inl ⟨by rfl, ?_⟩) (by assumption) ?_
            rotate_left 1
            · intro w hSw; (try dsimp only at hSw); (go_simp <;> with_reducible rfl)
            try simp only [Act.put, List.setIfInBounds_toArray, List.set_cons_zero, List.set_cons_succ]
            refine wpAnyH_take (i := 9) (oi := _) (v := ?_) (nth_at rfl) (by kernel_rfl) (by kernel_rfl) (by kernel_rfl) (fun _ _ _ h => h) (Or.inl ⟨by rfl, ?_⟩) (by assumption) ?_
            rotate_left 1
            · intro w hSw; (try dsimp only at hSw); (go_simp <;> with_reducible rfl)
            try simp only [Act.put, List.setIfInBounds_toArray, List.set_cons_zero, List.set_cons_succ]
            refine wpAnyH_take (i := 10) (oi := _) (v := ?_) (nth_at rfl) (by kernel_rfl) (by kernel_rfl) (by kernel_rfl) (fun _ _ _ h => h) (Or.inl ⟨by rfl, ?_⟩) (by assumption) ?_
            rotate_left 1
            · intro w hSw; (try dsimp only at hSw); (go_simp <;> with_reducible rfl)
            try simp only [Act.put, List.setIfInBounds_toArray, List.set_cons_zero, List.set_cons_succ]
            refine wpAnyH_take (i := 11) (oi := _) (v := ?_) (nth_at rfl) (by kernel_rfl) (by kernel_rfl) (by kernel_rfl) (fun _ _ _ h => h) (Or.inl ⟨by rfl, ?_⟩) (by assumption) ?_
            rotate_left 1
            · intro w hSw; (try dsimp only at hSw); (go_simp <;> with_reducible rfl)
            try simp only [Act.put, List.setIfInBounds_toArray, List.set_cons_zero, List.set_cons_succ]
            refine wpAnyH_take (i := 12) (oi := _) (v := ?_) (nth_at rfl) (by kernel_rfl) (by kernel_rfl) (by kernel_rfl) (fun _ _ _ h => h) (Or.inl ⟨by rfl, ?_⟩) (by assumption) ?_
            rotate_left 1
            · intro w hSw; (try dsimp only at hSw); (go_simp <;> with_reducible rfl)
            try simp only [Act.put, List.setIfInBounds_toArray, List.set_cons_zero, List.set_cons_succ]
            refine wpAnyH_take (i := 13) (oi := _) (v := ?_) (nth_at rfl) (by kernel_rfl) (by kernel_rfl) (by kernel_rfl) (fun _ _ _ h => h) (Or.inl ⟨by rfl, ?_⟩) (by assumption) ?_
            rotate_left 1
            · intro w hSw; (try dsimp only at hSw); (go_simp <;> with_reducible rfl)
            try simp only [Act.put, List.setIfInBounds_toArray, List.set_cons_zero, List.set_cons_succ]
            refine wpAnyH_take (i := 14) (oi := _) (v := ?_) (nth_at rfl) (by kernel_rfl) (by kernel_rfl) (by kernel_rfl) (fun _ _ _ h => h) (Or.inl ⟨by rfl, ?_⟩) (by assumption) ?_
            rotate_left 1
            · intro w hSw; (try dsimp only at hSw); (go_simp <;> with_reducible rfl)
            try simp only [Act.put, List.setIfInBounds_toArray, List.set_cons_zero, List.set_cons_succ]
            refine wpAnyH_take (i := 15) (oi := _) (v := ?_) (nth_at rfl) (by kernel_rfl) (by kernel_rfl) (by kernel_rfl) (fun _ _ _ h => h) (Or.inl ⟨by rfl, ?_⟩) (by assumption) ?_
            rotate_left 1
            · intro w hSw; (try dsimp only at hSw); (go_simp <;> with_reducible rfl)
            try simp only [Act.put, List.setIfInBounds_toArray, List.set_cons_zero, List.set_cons_succ]
            refine wpAnyH_take (i := 16) (oi := _) (v := ?_) (nth_at rfl) (by kernel_rfl) (by kernel_rfl) (by kernel_rfl) (fun _ _ _ h => h) (Or.inl ⟨by rfl, ?_⟩) (by assumption) ?_
            rotate_left 1
            · intro w hSw; (try dsimp only at hSw); (go_simp <;> with_reducible rfl)
            try simp only [Act.put, List.setIfInBounds_toArray, List.set_cons_zero, List.set_cons_succ]
            refine wpAnyH_take (i := 17) (oi := _) (v := ?_) (nth_at rfl) (by kernel_rfl) (by kernel_rfl) (by kernel_rfl) (fun _ _ _ h => h) (Or.inl ⟨by rfl, ?_⟩) (by assumption) ?_
            rotate_left 1
            · intro w hSw; (try dsimp only at hSw); (go_simp <;> with_reducible rfl)
            try simp only [Act.put, List.setIfInBounds_toArray, List.set_cons_zero, List.set_cons_succ]
            refine wpAnyH_take (i := 18) (oi := _) (v := ?_) (nth_at rfl) (by kernel_rfl) (by kernel_rfl) (by kernel_rfl) (fun _ _ _ h => h) (Or.inl ⟨by rfl, ?_⟩) (by assumption) ?_
            rotate_left 1
            · intro w hSw; (try dsimp only at hSw); (go_simp <;> with_reducible rfl)
            try simp only [Act.put, List.setIfInBounds_toArray, List.set_cons_zero, List.set_cons_succ]
            refine wpAnyH_take (i := 19) (oi := _) (v := ?_) (nth_at rfl) (by kernel_rfl) (by kernel_rfl) (by kernel_rfl) (fun _ _ _ h => h) (Or.inl ⟨by rfl, ?_⟩) (by assumption) ?_
            rotate_left 1
            · intro w hSw; (try dsimp only at hSw); (go_simp <;> with_reducible rfl)
            try simp only [Act.put, List.setIfInBounds_toArray, List.set_cons_zero, List.set_cons_succ]
            refine wpAnyH_take (i := 20) (oi := _) (v := ?_) (nth_at rfl) (by kernel_rfl) (by kernel_rfl) (by kernel_rfl) (fun _ _ _ h => h) (Or.inl ⟨by rfl, ?_⟩) (by assumption) ?_
            rotate_left 1
            · intro w hSw; (try dsimp only at hSw); (go_simp <;> with_reducible rfl)
            try simp only [Act.put, List.setIfInBounds_toArray, List.set_cons_zero, List.set_cons_succ]
            refine wpAnyH_take (i := 21) (oi := _) (v := ?_) (nth_at rfl) (by kernel_rfl) (by kernel_rfl) (by kernel_rfl) (fun _ _ _ h => h) (Or.inl ⟨by rfl, ?_⟩) (by assumption) ?_
            rotate_left 1
            · intro w hSw; (try dsimp only at hSw); (go_simp <;> with_reducible rfl)
            try simp only [Act.put, List.setIfInBounds_toArray, List.set_cons_zero, List.set_cons_succ]
            refine wpAnyH_take (i := 22) (oi := _) (v := ?_) (nth_at rfl) (by kernel_rfl) (by kernel_rfl) (by kernel_rfl) (fun _ _ _ h => h) (Or.inl ⟨by rfl, ?_⟩) (by assumption) ?_
            rotate_left 1
            · intro w hSw; (try dsimp only at hSw); (go_simp <;> with_reducible rfl)
            try simp only [Act.put, List.setIfInBounds_toArray, List.set_cons_zero, List.set_cons_succ]
            refine wpAnyH_take (i := 23) (oi := _) (v := ?_) (nth_at rfl) (by kernel_rfl) (by kernel_rfl) (by kernel_rfl) (fun _ _ _ h => h) (Or.inl ⟨by rfl, ?_⟩) (by assumption) ?_
            rotate_left 1
            · intro w hSw; (try dsimp only at hSw); (go_simp <;> with_reducible rfl)
            try simp only [Act.put, List.setIfInBounds_toArray, List.set_cons_zero, List.set_cons_succ]
            refine wpAnyH_done (by kernel_rfl) ?_ _
            refine NoPanic.normal ?_
            go_wp2_with fail
            go_ret
            exact ⟨ret_bool (by rw [← HRF.out]), B2⟩
        · have hkk0 : kk = 0 := by omega
          have hl0 := hlast0 hkk0
          have hne := hobn rfl
          have HS2 : Hid (spB [] l = spB name (l.drop (kk + 1))) := by
            show _ = _
            rw [HS.out, spB, HO.out, hl0, less_nil]
            have : name.isEmpty = false := by simpa using hne
            rw [this]; rfl
          have hgz : decide ((0 : Int) < (kk : Int)) = false := by simp; omega
          clear HS HO hle hle2 hwl hpre hlast0 hobn hl0 hne hkk0
          refine wp_region_noPanic ?_
          refine wp_region_held_drew (S := (fun u => u.cell? ⟨b, o + kk * 5, none⟩ = some (.string ⟨name.toArray⟩) ∧ u.cell? ⟨b, o + kk * 5 + 1, none⟩ = some (.int .i64 kind) ∧ u.cell? ⟨b, o + kk * 5 + 2, none⟩ = some (.string ⟨data.toArray⟩) ∧ u.cell? ⟨b, o + kk * 5 + 3, none⟩ = some (.int .i64 max) ∧ u.cell? ⟨b, o + kk * 5 + 4, none⟩ = some (.slice a2 items.length cap2))) (by kernel_rfl) ?_ (fun hHeld => ?_)
          · exact SK.out _ hB.drew
          refine wpAnyH_take (i := 0) (oi := _) (v := ?_) (nth_at rfl) (by kernel_rfl) (by kernel_rfl) (by kernel_rfl) (fun _ _ _ h => h) (Or.inl ⟨by rfl, ?_⟩) (by assumption) ?_
          rotate_left 1
          · intro w hSw; (try dsimp only at hSw); (go_simp <;> with_reducible rfl)
          try simp only [Act.put, List.setIfInBounds_toArray, List.set_cons_zero, List.set_cons_succ]
          refine wpAnyH_take (i := 1) (oi := _) (v := ?_) (nth_at rfl) (by kernel_rfl) (by kernel_rfl) (by kernel_rfl) (fun _ _ _ h => h) (Or.inl ⟨by rfl, ?_⟩) (by assumption) ?_
          rotate_left 1
          · intro w hSw; (try dsimp only at hSw); (go_simp <;> with_reducible rfl)
          try simp only [Act.put, List.setIfInBounds_toArray, List.set_cons_zero, List.set_cons_succ]
          refine wpAnyH_take (i := 2) (oi := _) (v := ?_) (nth_at rfl) (by kernel_rfl) (by kernel_rfl) (by kernel_rfl) (fun _ _ _ h => h) (Or.inl ⟨by rfl, ?_⟩) (by assumption) ?_
          rotate_left 1
          · intro w hSw; (try dsimp only at hSw); (go_simp <;> with_reducible rfl)
          try simp only [Act.put, List.setIfInBounds_toArray, List.set_cons_zero, List.set_cons_succ]
          refine wpAnyH_take (i := 3) (oi := _) (v := ?_) (nth_at rfl) (by kernel_rfl) (by kernel_rfl) (by kernel_rfl) (fun _ _ _ h => h) (Or.inl ⟨by rfl, ?_⟩) (by assumption) ?_
          rotate_left 1
          · intro w hSw; (try dsimp only at hSw); (go_simp <;> with_reducible rfl)
          try simp only [Act.put, List.setIfInBounds_toArray, List.set_cons_zero, List.set_cons_succ]
          refine wpAnyH_ready (rs := [4]) (by kernel_rfl) (by simp) ?_
          refine AllReadyH.cons (o := _) (nth_at rfl) (fun K hK => ?_) AllReadyH.nil
          go_simp
          with_reducible refine (HI _ (KeepC.of_below (Below.refl wr.heap.size wr).drew)).mono ?_
          rintro e w2 ⟨rfl, hb2⟩
          have hc2 := (Below.refl wr.heap.size wr).drew.trans hb2
          have B2 := hB.trans (hc2.mono hB.size)
          try dsimp only
          refine hK.out _ _ ?_ (fun hHeld => ?_)
          · exact SK.out _ B2
          clear hK K
          try simp only [Act.put, List.setIfInBounds_toArray, List.set_cons_zero, List.set_cons_succ]
          refine wpAnyH_take (i := 5) (oi := _) (v := ?_) (nth_at rfl) (by kernel_rfl) (by kernel_rfl) (by kernel_rfl) (fun _ _ _ h => h) (Or.inl ⟨by rfl, ?_⟩) (by assumption) ?_
          rotate_left 1
          · intro w hSw; (try dsimp only at hSw); (go_simp <;> with_reducible rfl)
          try simp only [Act.put, List.setIfInBounds_toArray, List.set_cons_zero, List.set_cons_succ]
          refine wpAnyH_take (i := 6) (oi := _) (v := ?_) (nth_at rfl) (by kernel_rfl) (by kernel_rfl) (by kernel_rfl) (fun _ _ _ h => h) (Or.inl ⟨by rfl, ?_⟩) (by assumption) ?_
          rotate_left 1
          · intro w hSw; (try dsimp only at hSw); (go_simp <;> with_reducible rfl)
          try simp only [Act.put, List.setIfInBounds_toArray, List.set_cons_zero, List.set_cons_succ]
          refine wpAnyH_take (i := 7) (oi := _) (v := ?_) (nth_at rfl) (by kernel_rfl) (by kernel_rfl) (by kernel_rfl) (fun _ _ _ h => h) (Or.inl ⟨by rfl, ?_⟩) (by assumption) ?_
          rotate_left 1
          · intro w hSw; (try dsimp only at hSw); (go_simp <;> with_reducible rfl)
          try simp only [Act.put, List.setIfInBounds_toArray, List.set_cons_zero, List.set_cons_succ]
          refine wpAnyH_take (i := 8) (oi := _) (v := ?_) (nth_at rfl) (by kernel_rfl) (by kernel_rfl) (by kernel_rfl) (fun _ _ _ h => h) (Or.inl ⟨by rfl, ?_⟩) (by assumption) ?_
          rotate_left 1
          · intro w hSw; (try dsimp only at hSw); (go_simp <;> with_reducible rfl)
          try simp only [Act.put, List.setIfInBounds_toArray, List.set_cons_zero, List.set_cons_succ]
          refine wpAnyH_take (i := 9) (oi := _) (v := ?_) (nth_at rfl) (by kernel_rfl) (by kernel_rfl) (by kernel_rfl) (fun _ _ _ h => h) (Or.inl ⟨by rfl, ?_⟩) (by assumption) ?_
          rotate_left 1
          · intro w hSw; (try dsimp only at hSw); (go_simp <;> with_reducible rfl)
          try simp only [Act.put, List.setIfInBounds_toArray, List.set_cons_zero, List.set_cons_succ]
          refine wpAnyH_take (i := 10) (oi := _) (v := undef) (nth_at rfl) (by kernel_rfl) (by kernel_rfl) (by kernel_rfl) (fun _ _ _ h => h) (Or.inr ⟨by rfl, rfl⟩) (by assumption) ?_
          try simp only [Act.put, List.setIfInBounds_toArray, List.set_cons_zero, List.set_cons_succ]
          refine wpAnyH_take (i := 11) (oi := _) (v := undef) (nth_at rfl) (by kernel_rfl) (by kernel_rfl) (by kernel_rfl) (fun _ _ _ h => h) (Or.inr ⟨by rfl, rfl⟩) (by assumption) ?_
          try simp only [Act.put, List.setIfInBounds_toArray, List.set_cons_zero, List.set_cons_succ]
          refine wpAnyH_take (i := 12) (oi := _) (v := undef) (nth_at rfl) (by kernel_rfl) (by kernel_rfl) (by kernel_rfl) (fun _ _ _ h => h) (Or.inr ⟨by rfl, rfl⟩) (by assumption) ?_
          try simp only [Act.put, List.setIfInBounds_toArray, List.set_cons_zero, List.set_cons_succ]
          refine wpAnyH_take (i := 13) (oi := _) (v := undef) (nth_at rfl) (by kernel_rfl) (by kernel_rfl) (by kernel_rfl) (fun _ _ _ h => h) (Or.inr ⟨by rfl, rfl⟩) (by assumption) ?_
          try simp only [Act.put, List.setIfInBounds_toArray, List.set_cons_zero, List.set_cons_succ]
          refine wpAnyH_take (i := 14) (oi := _) (v := undef) (nth_at rfl) (by kernel_rfl) (by kernel_rfl) (by kernel_rfl) (fun _ _ _ h => h) (Or.inr ⟨by rfl, rfl⟩) (by assumption) ?_
          try simp only [Act.put, List.setIfInBounds_toArray, List.set_cons_zero, List.set_cons_succ]
          refine wpAnyH_take (i := 15) (oi := _) (v := undef) (nth_at rfl) (by kernel_rfl) (by kernel_rfl) (by kernel_rfl) (fun _ _ _ h => h) (Or.inr ⟨by rfl, rfl⟩) (by assumption) ?_
          try simp only [Act.put, List.setIfInBounds_toArray, List.set_cons_zero, List.set_cons_succ]
          refine wpAnyH_take (i := 16) (oi := _) (v := undef) (nth_at rfl) (by kernel_rfl) (by kernel_rfl) (by kernel_rfl) (fun _ _ _ h => h) (Or.inr ⟨by rfl, rfl⟩) (by assumption) ?_
          try simp only [Act.put, List.setIfInBounds_toArray, List.set_cons_zero, List.set_cons_succ]
          refine wpAnyH_take (i := 17) (oi := _) (v := undef) (nth_at rfl) (by kernel_rfl) (by kernel_rfl) (by kernel_rfl) (fun _ _ _ h => h) (Or.inr ⟨by rfl, rfl⟩) (by assumption) ?_
          try simp only [Act.put, List.setIfInBounds_toArray, List.set_cons_zero, List.set_cons_succ]
          refine wpAnyH_take (i := 18) (oi := _) (v := undef) (nth_at rfl) (by kernel_rfl) (by kernel_rfl) (by kernel_rfl) (fun _ _ _ h => h) (Or.inr ⟨by rfl, rfl⟩) (by assumption) ?_
          try simp only [Act.put, List.setIfInBounds_toArray, List.set_cons_zero, List.set_cons_succ]
          refine wpAnyH_take (i := 19) (oi := _) (v := undef) (nth_at rfl) (by kernel_rfl) (by kernel_rfl) (by kernel_rfl) (fun _ _ _ h => h) (Or.inr ⟨by rfl, rfl⟩) (by assumption) ?_
          try simp only [Act.put, List.setIfInBounds_toArray, List.set_cons_zero, List.set_cons_succ]
          refine wpAnyH_take (i := 20) (oi := _) (v := undef) (nth_at rfl) (by kernel_rfl) (by kernel_rfl) (by kernel_rfl) (fun _ _ _ h => h) (Or.inr ⟨by rfl, rfl⟩) (by assumption) ?_
          try simp only [Act.put, List.setIfInBounds_toArray, List.set_cons_zero, List.set_cons_succ]
          refine wpAnyH_take (i := 21) (oi := _) (v := undef) (nth_at rfl) (by kernel_rfl) (by kernel_rfl) (by kernel_rfl) (fun _ _ _ h => h) (Or.inr ⟨by rfl, rfl⟩) (by assumption) ?_
          try simp only [Act.put, List.setIfInBounds_toArray, List.set_cons_zero, List.set_cons_succ]
          refine wpAnyH_take (i := 22) (oi := _) (v := ?_) (nth_at rfl) (by kernel_rfl) (by kernel_rfl) (by kernel_rfl) (fun _ _ _ h => h) (Or.inl ⟨by rfl, ?_⟩) (by assumption) ?_
          rotate_left 1
          · intro w hSw; (try dsimp only at hSw); (go_simp <;> with_reducible rfl)
          try simp only [Act.put, List.setIfInBounds_toArray, List.set_cons_zero, List.set_cons_succ]
          refine wpAnyH_take (i := 23) (oi := _) (v := ?_) (nth_at rfl) (by kernel_rfl) (by kernel_rfl) (by kernel_rfl) (fun _ _ _ h => h) (Or.inl ⟨by rfl, ?_⟩) (by assumption) ?_
          rotate_left 1
          · intro w hSw; (try dsimp only at hSw); (go_simp <;> with_reducible rfl)
          try simp only [Act.put, List.setIfInBounds_toArray, List.set_cons_zero, List.set_cons_succ]
          refine wpAnyH_done (by kernel_rfl) ?_ _
          refine NoPanic.normal ?_
          go_wp2_with fail
          go_roundg (l.length - (kk + 1))
          case measure => omega
          case rel => exact ⟨kk + 1, name, by omega, by omega, by go_num, B2, HS2, ⟨fun h => absurd h (by omega), fun _ h2 => by show name = l[kk].name; rw [HX.out]⟩⟩
    · have hltz : ¬ (kk : Int) < (l.length : Int) := by omega
      have HR2 : Hid (decide (l.length ≤ 20) = R) := by
        show _ = _
        rw [← HR.out, spaceB, hS.out, List.drop_of_length_le (by omega)]; rfl
      clear hS HR hc hL
      by_cases h20 : (l.length : Int) ≤ 20
      · go_wp2_with fail
        go_ret
        exact ⟨ret_bool (by rw [← HR2.out]; simp; omega), hB⟩
      · go_wp2_with fail
        go_ret
        exact ⟨ret_bool (by rw [← HR2.out]; simp; omega), hB⟩
end Go.Proofs.YtmjmmcdhpognaaaGreatDoor
/- Walks of layer 10's reference: Cost. -/
namespace Go.Proofs.YtmjmmcdhpognaaaGreatDoor
open Go.RowKit Go.Shelf
attribute [local go_sem] Oper.semAt_some
theorem costL_take (l : List ObjD) (k : Nat) (h : k < l.length) : costL (l.take (k + 1)) = costL (l.take k) + costO l[k] := by
  unfold costL
  rw [List.take_succ_eq_append_getElem h, List.map_append, List.sum_append]; simp
theorem small_take {l : List ObjD} (h : SmallS l) (k : Nat) : SmallS (l.take k) := fun x hx => h x (List.mem_of_mem_take hx)
set_option maxRecDepth 100000 in
set_option maxHeartbeats 4000000 in
theorem refCost_any (l : List ObjD) (hl : FitsS l) (v : Value) (w : World) (hv : ObjsV w v l) :
    Calls Tryz.prog 35 #[v] w fun e w' => e = .returned (.int .i64 (costS l)) ∧ Below w.heap.size w w' := by
  obtain ⟨a, cap, rfl, hc⟩ := hv.at
  have hlm : l.length ≤ 1000000 := hl.1
  have HR := fun W (h : KeepC w W) => refRight_any l hl _ W (hv.keep h)
  have hsm : spaceB l = true → SmallS l := small_of
  have hcs : costS l = if spaceB l then costL l else 0 := rfl
  generalize costS l = C at *
  generalize spaceB l = sb at *
  clear hv hl
  cases sb with
  | false =>
    have hC : C = 0 := hcs
    subst hC
    clear hcs hsm
    by_cases hlt : 0 < l.length
    · have hltz : (0 : Int) < (l.length : Int) := by omega
      have HRx := HR w (KeepC.of_below (Below.refl _ w))
      clear HR hc
      go_enter Tryz.func35, Tryz.ntmps35
      go_wp2_with fail
      refine wp_loop_rounds 1 ?_
      rw [rounds_succ]
      go_wp2_with fail
      with_reducible refine HRx.mono ?_
      rintro e w1 ⟨rfl, b1⟩
      go_wp2_with fail
      go_ret
      exact ⟨rfl, b1⟩
    · have hl0 : l.length = 0 := by omega
      clear HR hc hlt
      have hz : decide ((0 : Int) < (l.length : Int)) = false := decide_eq_false (by omega)
      go_enter Tryz.func35, Tryz.ntmps35
      go_wp2_with fail
      refine wp_loop_rounds 1 ?_
      rw [rounds_succ]
      go_wp2_with fail
      go_ret
      exact ⟨rfl, Below.refl _ _⟩
  | true =>
    have hC : C = costL l := hcs
    subst hC
    have hsm' := hsm rfl
    clear hcs hsm
    go_enter Tryz.func35, Tryz.ntmps35
    go_wp2_with fail
    go_loopg [3, 4] l.length (fun gg s3 s4 wr => ∃ kk : Nat, kk ≤ l.length ∧ l.length - kk ≤ gg ∧ s3 = .int .i64 (costL (l.take kk)) ∧ s4 = .int .i64 kk ∧ Below w.heap.size w wr)
    case atStart => exact ⟨0, Nat.zero_le _, by omega, rfl, rfl, Below.refl _ _⟩
    case round =>
      obtain ⟨kk, hkk, hg, rfl, rfl, hB⟩ := hrel
      by_cases hlt : kk < l.length
      · have hltz : (kk : Int) < (l.length : Int) := by omega
        have hkz : (0 : Int) ≤ (kk : Int) := by omega
        obtain ⟨b, o, lv, rfl, hb, hlv, k0, k1, k2, k3, k4⟩ := hc kk hlt
        have HRx := HR wr (KeepC.of_below hB)
        have hs1 := costL_in (small_take hsm' kk)
        have hs2 := hsm' l[kk] (List.getElem_mem _)
        have hsum := costL_take l kk hlt
        have hln : (l.take kk).length ≤ 1000000 := by rw [List.length_take]; omega
        have hCo : costO l[kk] = 10 + l[kk].name.length + l[kk].data.length + l[kk].max := rfl
        clear hc HR hlv k4 k1
        rw [hCo] at hsum
        clear hCo
        generalize hgn1 : costL (l.take (kk + 1)) = n1 at *
        have HN1 := Lib.hid hgn1
        clear hgn1
        generalize costL (l.take kk) = n0 at *
        obtain ⟨x, hx⟩ : ∃ x, l[kk] = x := ⟨_, rfl⟩
        rw [hx] at k0 k2 k3 hs2 hsum
        clear hx
        obtain ⟨name, kind, data, max, items⟩ := x
        dsimp only at *
        have hz1 := ba_size name
        have hz2 := ba_size data
        have hn0 : n0 ≤ 1000000 * 3030 := by omega
        have hw0 : IntKind.i64.wrap (n0 + 10) = n0 + 10 := IntWalk.i64_in _ (by omega)
        have hw1 : IntKind.i64.wrap (n0 + 10 + name.length) = n0 + 10 + name.length := IntWalk.i64_in _ (by omega)
        have hw2 : IntKind.i64.wrap (n0 + 10 + name.length + data.length) = n0 + 10 + name.length + data.length := IntWalk.i64_in _ (by omega)
        have hw3 : IntKind.i64.wrap (n0 + 10 + name.length + data.length + max) = n0 + 10 + name.length + data.length + max := IntWalk.i64_in _ (by omega)
        go_wp2_with fail
        with_reducible refine HRx.mono ?_
        rintro e w1 ⟨rfl, b1⟩
        have B1 := hB.trans (b1.mono hB.size)
        have hk1 := (KeepC.of_below B1).2
        replace k0 := hk1 _ _ _ k0
        replace k2 := hk1 _ _ _ k2
        replace k3 := hk1 _ _ _ k3
        clear HRx b1 hk1
        go_wp2_with fail
        go_quiet (fail)
        have hN : n0 + 10 + name.length + data.length + max = n1 := by omega
        rw [hN]
        have B2 := below_drewN B1 nq
        clear k0 k2 k3 hw0 hw1 hw2 hw3 hN hsum hs1 hs2 hz1 hz2
        go_wp2_with fail
        go_roundg (l.length - (kk + 1))
        case measure => omega
        case rel => exact ⟨kk + 1, by omega, by omega, by rw [HN1.out], by go_num, B2⟩
      · have hltz : ¬ (kk : Int) < (l.length : Int) := by omega
        have hkl : kk = l.length := by omega
        subst hkl
        clear hc HR
        rw [List.take_of_length_le (Nat.le_refl _)]
        generalize hgn : costL l = n at *
        have HGN := Lib.hid hgn
        clear hgn
        have hz : decide (((l.length : Nat) : Int) < (l.length : Int)) = false := by simp
        go_wp2_with fail
        go_ret
        exact ⟨by rw [HGN.out]; rfl, hB⟩
end Go.Proofs.YtmjmmcdhpognaaaGreatDoor
