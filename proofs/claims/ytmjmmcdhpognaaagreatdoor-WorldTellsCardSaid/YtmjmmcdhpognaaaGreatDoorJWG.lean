/- Joined: WldM; WldN; WldO; WldP -/
import Derived.Test.YtmjmmcdhpognaaaGreatDoorJWF
/- Walks of layer 11: Get. -/
namespace Go.Proofs.YtmjmmcdhpognaaaGreatDoor
open Go.RowKit Go.Shelf
attribute [local go_sem] Oper.semAt_some
set_option maxRecDepth 100000 in
set_option maxHeartbeats 4000000 in
theorem Get_any (l : List PartD) (hl : FitsW l) (v : Value) (a : LblD) (ea : Addr) (w : World) (hge : w.cell? ⟨1, 0, none⟩ = some (errV8 ea)) (hv : PartsV w v l) :
    Calls Tryz.prog 9 #[v, lblV a] w fun e w' => ∃ v', e = .returned v' ∧ ObjsO w.heap.size 40 9 w' v' (getW l a) ∧ Below w.heap.size w w' := by
  obtain ⟨ao, cap, rfl, hc⟩ := hv.at
  have HR := fun W (h : KeepC w W) => worldRight_any l hl (.slice ao l.length cap) ea W (h.2 _ _ _ hge) (hv.keep h)
  have HF := fun (hs : Srt l) q W (h : KeepC w W) hq => find_any l hl hs q (.slice ao l.length cap) a W hq (hv.keep h)
  have hfa := fun (hs : Srt l) => find_at a hs
  have hgw : getW l a = if worldB l then match l.find? (fun p => p.lab = a) with | some p => p.l | none => [] else [] := rfl
  have HOb := fun (x : PartD) (hx : x ∈ l) ov W (h : ObjsV W ov x.l) => objects_any x.l (hl.2 x hx).1 (fits_items (hl.2 x hx)) ov W h
  have hfn : findB l a = false → l.find? (fun p => p.lab = a) = none := by
    intro h
    rw [List.find?_eq_none]
    intro x hx
    unfold findB at h
    rw [List.any_eq_false] at h
    exact h x hx
  have hll : (l.length : Int) ≤ 1000000 := by have := hl.1; omega
  obtain ⟨l2, S2, i2⟩ := a
  have hB0 := (Below.refl _ w).alloc (Nat.le_refl _) (.cells #[.int .i64 l2, .int .u64 S2, .int .i64 i2] 25)
  have hb0 := Blk.new w #[.int .i64 l2, .int .u64 S2, .int .i64 i2] 25
  have HRx := HR _ (KeepC.of_below hB0)
  clear HR
  have hsrt := Lib.hid (fun h => worldB_srt (w := l) h)
  generalize getW l ⟨l2, S2, i2⟩ = G at *
  generalize worldB l = wb at *
  have HG := Lib.hid hgw
  have HFA := Lib.hid hfa
  have HFN := Lib.hid hfn
  clear hgw hge hfa hfn
  have hzz : (w.alloc (.cells #[.int .i64 l2, .int .u64 S2, .int .i64 i2] 25)).heap.size = w.heap.size + 1 := by simp
  cases wb with
  | false =>
    have e : G = [] := HG.out
    subst e
    clear HG HF HFA HFN HOb
    go_enter Tryz.func9, Tryz.ntmps9
    go_wp2_with fail
    with_reducible refine HRx.mono ?_
    rintro e w1 ⟨rfl, hb1⟩
    go_wp2_with fail
    go_ret
    exact ⟨_, rfl, ObjsO.nil _ _ _ _, hB0.trans (hb1.mono hB0.size)⟩
  | true =>
    have hs : Srt l := hsrt.out rfl
    have hfa := HFA.out hs
    have HF1 := HF hs
    clear HFA HF hsrt
    generalize findN l ⟨l2, S2, i2⟩ = N at *
    generalize findB l ⟨l2, S2, i2⟩ = F at *
    have e : G = match l.find? (fun p => p.lab = ⟨l2, S2, i2⟩) with | some p => p.l | none => [] := HG.out
    have HE := Lib.hid e
    have HFB := Lib.hid hfa
    clear HG e hfa
    go_enter Tryz.func9, Tryz.ntmps9
    go_wp2_with fail
    with_reducible refine HRx.mono ?_
    rintro e w1 ⟨rfl, hb1⟩
    have B1 := hB0.trans (hb1.mono hB0.size)
    have n1 := (hb0.below hb1 hb0.lt).alloc (.cells #[.slice ao l.length cap] 54)
    have d0 := n1.cell 0
    have d1 := n1.cell 1
    have d2 := n1.cell 2
    simp at d0 d1 d2
    have B2 := B1.alloc B1.size (.cells #[.slice ao l.length cap] 54)
    have n2 := Blk.new w1 #[.slice ao l.length cap] 54
    have HFx := HF1 w1.heap.size _ (KeepC.of_below B2) ((n2.cell 0).trans rfl)
    clear HRx HF1 n1 n2
    go_wp2_with fail
    with_reducible refine HFx.mono ?_
    rintro e w3 ⟨rfl, hb3⟩
    have B3 := B2.trans (hb3.mono B2.size)
    clear HFx d0 d1 d2
    cases F with
    | false =>
      have e : G = [] := by rw [HE.out, HFN.out rfl]
      subst e
      clear HE HFB HFN HOb
      go_wp2_with fail
      go_ret
      exact ⟨_, rfl, ObjsO.nil _ _ _ _, B3⟩
    | true =>
      obtain ⟨hlt, hfind⟩ := HFB.out.2 rfl
      obtain ⟨b, o, a2, cap2, rfl, hb, hov, k0, k1, k2, k3⟩ := hc N hlt
      have e : G = l[N].l := by rw [HE.out, hfind]
      subst e
      have HOx := HOb l[N] (List.getElem_mem _) _ w3 (hov.keep (KeepC.of_below B3))
      replace k3 := (KeepC.of_below B3).2 _ _ _ k3
      have hnz : (N : Int) < (l.length : Int) := by omega
      have hnz0 : (0 : Int) ≤ (N : Int) := by omega
      clear hov k0 k1 k2 HOb HE HFB HFN hfind hc
      obtain ⟨x, hx⟩ : ∃ x, l[N] = x := ⟨_, rfl⟩
      rw [hx] at k3 HOx
      have HX := Lib.hid hx
      clear hx
      go_wp2_with fail
      with_reducible refine HOx.mono ?_
      rintro e w4 ⟨v4, rfl, r4, b4⟩
      have R4 := Lib.hid (ObjsO.base r4 B3.size)
      clear HOx r4
      go_wp2_with fail
      go_ret
      exact ⟨_, rfl, by rw [HX.out]; exact R4.out, B3.trans (b4.mono B3.size)⟩
end Go.Proofs.YtmjmmcdhpognaaaGreatDoor
/- Walks of layer 11: Same. -/
namespace Go.Proofs.YtmjmmcdhpognaaaGreatDoor
open Go.RowKit Go.Shelf
attribute [local go_sem] Oper.semAt_some
theorem zipAllW_take {a b : List PartD} (k : Nat) (h1 : k < a.length) (h2 : k < b.length) : ((a.zip b).take (k + 1)).all (fun p => samePart p.1 p.2) = (((a.zip b).take k).all (fun p => samePart p.1 p.2) && samePart a[k] b[k]) := by
  rw [List.take_succ_eq_append_getElem (by rw [List.length_zip]; omega), List.all_append]; simp
theorem zipAllW_no {a b : List PartD} (k : Nat) (h1 : k < a.length) (h2 : k < b.length) (h : samePart a[k] b[k] = false) : ((a.zip b).all fun p => samePart p.1 p.2) = false := by
  rw [List.all_eq_false]
  have hk : k < (a.zip b).length := by rw [List.length_zip]; omega
  have e : (a.zip b)[k] = (a[k], b[k]) := List.getElem_zip
  exact ⟨(a[k], b[k]), by rw [← e]; exact List.getElem_mem _, by simp [h]⟩
/-- two labels as the program compares them -/
theorem lab_eq (a b : LblD) : decide (a = b) = ((a.lv == b.lv) && ((a.cs : Int) == b.cs) && (a.ig == b.ig)) := by
  obtain ⟨a1, a2, a3⟩ := a
  obtain ⟨b1, b2, b3⟩ := b
  rw [Bool.eq_iff_iff]
  simp only [decide_eq_true_eq, Bool.and_eq_true, beq_iff_eq, LblD.mk.injEq]
  omega
set_option maxRecDepth 100000 in
set_option maxHeartbeats 4000000 in
theorem samePart1_any (x y : PartD) (hx : FitsS x.l) (hy : FitsS y.l) (a1 a2 : Option Addr) (c1 c2 : Nat) (w : World) (hv : ObjsV w (.slice a1 x.l.length c1) x.l) (hu : ObjsV w (.slice a2 y.l.length c2) y.l) :
    Calls Tryz.prog 37 #[.agg #[.int .i64 x.lv, .int .u64 x.cs, .int .i64 x.ig, .slice a1 x.l.length c1], .agg #[.int .i64 y.lv, .int .u64 y.cs, .int .i64 y.ig, .slice a2 y.l.length c2]] w fun e w' => e = .returned (.bool (samePart x y)) ∧ Below w.heap.size w w' := by
  have HS := fun W (h : KeepC w W) => spaceSame_any x.l y.l hx hy _ _ W (hv.keep h) (hu.keep h)
  have hsp : samePart x y = (decide (x.lab = y.lab) && sameS x.l y.l) := rfl
  rw [lab_eq] at hsp
  obtain ⟨l1, S1, i1, p1⟩ := x
  obtain ⟨l2, S2, i2, p2⟩ := y
  dsimp only [PartD.lab] at *
  generalize samePart ⟨l1, S1, i1, p1⟩ ⟨l2, S2, i2, p2⟩ = R at *
  generalize sameS p1 p2 = ss at *
  have hB := ((Below.refl _ w).alloc (Nat.le_refl _) (.cells #[.int .i64 l1, .int .u64 S1, .int .i64 i1, .slice a1 p1.length c1] 46)).alloc (by simp) (.cells #[.int .i64 l2, .int .u64 S2, .int .i64 i2, .slice a2 p2.length c2] 46)
  have HSx := HS _ (KeepC.of_below hB)
  have HP := Lib.hid hsp
  clear HS hv hu hsp hx hy
  by_cases h1 : l1 = l2
  · have z1 : (l1 == l2) = true := by simpa using h1
    by_cases h2 : S1 = S2
    · have z2 : ((S1 : Int) == (S2 : Int)) = true := by rw [beq_iff_eq]; omega
      by_cases h3 : i1 = i2
      · have z3 : (i1 == i2) = true := by simpa using h3
        have e : R = ss := by rw [HP.out, z1, z2, z3]; simp
        subst e
        subst h1 h2 h3
        clear HP z1 z2 z3
        go_enter Tryz.func37, Tryz.ntmps37
        go_wp2_with fail
        with_reducible refine HSx.mono ?_
        rintro e w1 ⟨rfl, hb1⟩
        go_wp2_with fail
        go_ret
        exact ⟨rfl, hB.trans (hb1.mono hB.size)⟩
      · have z3 : (i1 == i2) = false := by simpa using h3
        have e : R = false := by rw [HP.out, z3]; simp
        subst e
        subst h1 h2
        clear HP z1 z2 HSx
        go_enter Tryz.func37, Tryz.ntmps37
        go_wp2_with fail
        go_ret
        exact ⟨rfl, hB⟩
    · have z2 : ((S1 : Int) == (S2 : Int)) = false := by rw [beq_eq_false_iff_ne]; omega
      have e : R = false := by rw [HP.out, z2]; simp
      subst e
      subst h1
      clear HP z1 HSx
      go_enter Tryz.func37, Tryz.ntmps37
      go_wp2_with fail
      go_ret
      exact ⟨rfl, hB⟩
  · have z1 : (l1 == l2) = false := by simpa using h1
    have e : R = false := by rw [HP.out, z1]; simp
    subst e
    clear HP HSx
    go_enter Tryz.func37, Tryz.ntmps37
    go_wp2_with fail
    go_ret
    exact ⟨rfl, hB⟩
end Go.Proofs.YtmjmmcdhpognaaaGreatDoor
/- Walks of layer 11: Same. -/
namespace Go.Proofs.YtmjmmcdhpognaaaGreatDoor
open Go.RowKit Go.Shelf
attribute [local go_sem] Oper.semAt_some
set_option maxRecDepth 100000 in
set_option maxHeartbeats 4000000 in
theorem equalW_any (l m : List PartD) (hl : FitsW l) (hm : FitsW m) (v u : Value) (w : World) (hv : PartsV w v l) (hu : PartsV w u m) :
    Calls Tryz.prog 36 #[v, u, .func (.func 37) #[] #[]] w fun e w' => e = .returned (.bool (sameW l m)) ∧ Below w.heap.size w w' := by
  obtain ⟨a, cap, rfl, hc⟩ := hv.at
  obtain ⟨a2, cap2, rfl, hc2⟩ := hu.at
  have hlm : l.length ≤ 1000000 := hl.1
  have hmm : m.length ≤ 1000000 := hm.1
  have eg : ∀ args w, (callFunc 37 args).run Tryz.prog w = .ok (.enter 37 args) w := enters_of Tryz.func37 (by kernel_rfl) rfl
  by_cases hlen : l.length = m.length
  · rw [← hlen]
    have hlH := Lib.hid hlen
    generalize hR : sameW l m = R
    rw [sameW, decide_eq_true hlen, Bool.true_and] at hR
    have HR := Lib.hid hR
    clear hR hv hu
    have hc2' : ∀ i (hi : i < l.length), ∃ y b o a4 c4, m[i]? = some y ∧ a2 = some ⟨b, o, none⟩ ∧ ObjsV w (.slice a4 y.l.length c4) y.l ∧ w.cell? ⟨b, o + i * 4, none⟩ = some (.int .i64 y.lv) ∧ w.cell? ⟨b, o + i * 4 + 1, none⟩ = some (.int .u64 y.cs) ∧ w.cell? ⟨b, o + i * 4 + 2, none⟩ = some (.int .i64 y.ig) ∧ w.cell? ⟨b, o + i * 4 + 3, none⟩ = some (.slice a4 y.l.length c4) := fun i hi => by
      have h2 : i < m.length := by omega
      obtain ⟨b, o, a4, c4, e1, _, e2, e3⟩ := hc2 i h2
      exact ⟨m[i], b, o, a4, c4, List.getElem?_eq_getElem h2, e1, e2, e3⟩
    clear hc2 hlen
    go_enter Tryz.func36, Tryz.ntmps36
    go_wp2_with fail
    go_loopg [17] l.length (fun gg s17 wr => ∃ kk : Nat, kk ≤ l.length ∧ l.length - kk ≤ gg ∧ s17 = .int .i64 kk ∧ Below w.heap.size w wr ∧ Hid (((l.zip m).take kk).all (fun p => samePart p.1 p.2) = true))
    case atStart => exact ⟨0, Nat.zero_le _, by omega, rfl, Below.refl _ _, rfl⟩
    case round =>
      obtain ⟨kk, hkk, hg, rfl, hB, hS⟩ := hrel
      by_cases hlt : kk < l.length
      · have hltz : (kk : Int) < (l.length : Int) := by omega
        have hk2 : kk < m.length := by rw [← hlH.out]; exact hlt
        obtain ⟨b, o, a3, c3, rfl, -, hlv, k0, k1, k2, k3⟩ := hc kk hlt
        obtain ⟨y, b2, o2, a4, c4, hy, rfl, hlu, j0, j1, j2, j3⟩ := hc2' kk hlt
        obtain rfl : m[kk] = y := by rw [List.getElem?_eq_getElem hk2] at hy; injection hy
        have hfx := hl.2 l[kk] (List.getElem_mem _)
        have hfy := hm.2 m[kk] (List.getElem_mem _)
        have hyes := zipAllW_take kk hlt hk2
        have hno := zipAllW_no kk hlt hk2
        rw [hS.out] at hyes
        have hBk := KeepC.of_below hB
        replace k0 := hBk.2 _ _ _ k0
        replace k1 := hBk.2 _ _ _ k1
        replace k2 := hBk.2 _ _ _ k2
        replace k3 := hBk.2 _ _ _ k3
        replace j0 := hBk.2 _ _ _ j0
        replace j1 := hBk.2 _ _ _ j1
        replace j2 := hBk.2 _ _ _ j2
        replace j3 := hBk.2 _ _ _ j3
        replace hlv := hlv.keep hBk
        replace hlu := hlu.keep hBk
        have hblt : b < wr.heap.size := World.block_lt_of_cell? wr _ k0
        have hb2lt : b2 < wr.heap.size := World.block_lt_of_cell? wr _ j0
        have hbn : b2 ≠ wr.heap.size := by omega
        clear hc hc2' hy hS hBk
        generalize l[kk] = x at *
        generalize m[kk] = y at *
        have HE := fun W (h : KeepC wr W) => samePart1_any x y hfx hfy a3 a4 c3 c4 W (hlv.keep h) (hlu.keep h)
        obtain ⟨l1, S1, i1, p1⟩ := x
        obtain ⟨l2, S2, i2, p2⟩ := y
        dsimp only at *
        have hB1 := ((Below.refl wr.heap.size wr).alloc (Nat.le_refl _) (.cells #[.int .i64 l1, .int .u64 S1, .int .i64 i1, .slice a3 p1.length c3] 46)).alloc (by simp) (.cells #[.int .i64 l2, .int .u64 S2, .int .i64 i2, .slice a4 p2.length c4] 46)
        have HE1 := HE _ (KeepC.of_below hB1)
        clear HE hlv hlu hfx hfy
        generalize samePart ⟨l1, S1, i1, p1⟩ ⟨l2, S2, i2, p2⟩ = r at *
        have HE2 := Lib.hid HE1
        clear HE1
        cases r with
        | true =>
          have HY := Lib.hid hyes
          clear hyes hno
          go_wp2_with (go_at_fn 37; refine HE2.out.mono ?_; rintro e w2 ⟨rfl, hb2⟩)
          go_roundg (l.length - (kk + 1))
          case measure => omega
          case rel => exact ⟨kk + 1, by omega, by omega, by go_num, hB.trans ((hB1.trans (hb2.mono hB1.size)).mono hB.size), HY.out⟩
        | false =>
          have HN := Lib.hid (hno rfl)
          clear hyes hno
          go_wp2_with (go_at_fn 37; refine HE2.out.mono ?_; rintro e w2 ⟨rfl, hb2⟩)
          go_ret
          exact ⟨ret_bool (by rw [← HR.out, HN.out]), hB.trans ((hB1.trans (hb2.mono hB1.size)).mono hB.size)⟩
      · have hltz : ¬ (kk : Int) < (l.length : Int) := by omega
        have hA : ((l.zip m).all fun p => samePart p.1 p.2) = true := by have := hS.out; rwa [List.take_of_length_le (by rw [List.length_zip]; omega)] at this
        have HR2 : Hid (true = R) := by show _ = _; rw [← HR.out, hA]
        clear hS hA HR hc hc2'
        go_wp2_with fail
        go_ret
        exact ⟨ret_bool (by rw [← HR2.out]), hB⟩
  · have hne : sameW l m = false := by rw [sameW, decide_eq_false hlen]; rfl
    rw [hne]
    clear hv hu hc hc2
    have hz : ¬ (l.length : Int) = (m.length : Int) := by omega
    go_enter Tryz.func36, Tryz.ntmps36
    go_wp2
    go_ret
    exact ⟨rfl, Below.refl _ _⟩
theorem worldSame_any (l m : List PartD) (hl : FitsW l) (hm : FitsW m) (v u : Value) (w : World) (hv : PartsV w v l) (hu : PartsV w u m) :
    Calls Tryz.prog 16 #[v, u] w fun e w' => e = .returned (.bool (sameW l m)) ∧ Below w.heap.size w w' := by
  have H := equalW_any l m hl hm v u w hv hu
  generalize sameW l m = r at *
  go_enter Tryz.func16, Tryz.ntmps16
  go_wp2_with (go_at_call 36; refine H.mono ?_; rintro e w' ⟨rfl, hb⟩)
  go_ret
  exact ⟨rfl, hb⟩
end Go.Proofs.YtmjmmcdhpognaaaGreatDoor
/- Walks of layer 11: Within. -/
namespace Go.Proofs.YtmjmmcdhpognaaaGreatDoor
open Go.RowKit Go.Shelf
attribute [local go_sem] Oper.semAt_some
set_option maxRecDepth 100000 in
set_option maxHeartbeats 4000000 in
theorem over_any (x : PartD) (hx : FitsS x.l) (a1 : Option Addr) (c1 : Nat) (qb : Nat) (q : Int) (ea : Addr) (w : World) (hge : w.cell? ⟨1, 0, none⟩ = some (errV8 ea)) (hq : w.cell? ⟨qb, 0, none⟩ = some (.int .i64 q)) (hv : ObjsV w (.slice a1 x.l.length c1) x.l) :
    Calls Tryz.prog 32 #[.agg #[.int .i64 x.lv, .int .u64 x.cs, .int .i64 x.ig, .slice a1 x.l.length c1], .pointer (some ⟨qb, 0, none⟩)] w fun e w' => e = .returned (.bool (decide (q < costS x.l))) ∧ Below w.heap.size w w' := by
  have HC := fun W (h : KeepC w W) => Cost_any x.l hx _ ea W (h.2 _ _ _ hge) (hv.keep h)
  obtain ⟨l1, S1, i1, p1⟩ := x
  dsimp only at *
  generalize costS p1 = c at *
  have hB := (Below.refl _ w).alloc (Nat.le_refl _) (.cells #[.int .i64 l1, .int .u64 S1, .int .i64 i1, .slice a1 p1.length c1] 46)
  have b0 := Blk.new w #[.int .i64 l1, .int .u64 S1, .int .i64 i1, .slice a1 p1.length c1] 46
  have hq0 := (KeepC.of_below hB).2 _ _ _ hq
  have HCx := HC _ (KeepC.of_below hB.drew)
  clear HC hv hge hq
  go_enter Tryz.func32, Tryz.ntmps32
  go_wp2_with fail
  generalize w.alloc (.cells #[.int .i64 l1, .int .u64 S1, .int .i64 i1, .slice a1 p1.length c1] 46) = W0 at *
  have j3 := b0.cell 3
  simp at j3
  clear b0
  have SK : Hid (∀ W, Below W0.heap.size W0 W → W.cell? ⟨w.heap.size, 3, none⟩ = some (.slice a1 p1.length c1) ∧ W.cell? ⟨qb, 0, none⟩ = some (.int .i64 q)) := by
    show ∀ W, _
    intro W h
    have hk := (KeepC.of_below h).2
    exact ⟨hk _ _ _ j3, hk _ _ _ hq0⟩
  go_region_held3 (fun u => u.cell? ⟨w.heap.size, 3, none⟩ = some (.slice a1 p1.length c1) ∧ u.cell? ⟨qb, 0, none⟩ = some (.int .i64 q))
    (first | go_keep | exact kk1)
    (first
      | (go_at_call 33; go_must (with_reducible refine HCx.mono ?_); rintro e w2 ⟨rfl, hb2⟩; have hbb := (Below.refl W0.heap.size W0).drew.trans hb2; have kk1 := SK.out _ hbb))
  all_goals go_wp2_with fail
  all_goals go_ret
  all_goals exact ⟨rfl, hB.trans (hbb.mono hB.size)⟩
set_option maxRecDepth 100000 in
set_option maxHeartbeats 4000000 in
theorem indexW_any (l : List PartD) (hl : FitsW l) (v : Value) (qb : Nat) (q : Int) (ea : Addr) (w : World) (hge : w.cell? ⟨1, 0, none⟩ = some (errV8 ea)) (hq : w.cell? ⟨qb, 0, none⟩ = some (.int .i64 q)) (hv : PartsV w v l) :
    Calls Tryz.prog 59 #[v, .func (.func 32) #[] #[.pointer (some ⟨qb, 0, none⟩)]] w fun e w' => (∃ k : Int, e = .returned (.int .i64 k) ∧ decide (0 ≤ k) = l.any fun x => decide (q < costS x.l)) ∧ Below w.heap.size w w' := by
  obtain ⟨a, cap, rfl, hc⟩ := hv.at
  have hm : l.length ≤ 1000000 := hl.1
  have eg : ∀ args w, (callFunc 32 args).run Tryz.prog w = .ok (.enter 32 args) w := enters_of Tryz.func32 (by kernel_rfl) rfl
  clear hv
  go_enter Tryz.func59, Tryz.ntmps59
  go_wp2_with fail
  go_loopg [5, 8] l.length (fun gg _ s8 wr => ∃ kk : Nat, kk ≤ l.length ∧ l.length - kk ≤ gg ∧ s8 = .int .i64 kk ∧ Below w.heap.size w wr ∧ Hid ((l.take kk).any (fun x => decide (q < costS x.l)) = false))
  case atStart => exact ⟨0, Nat.zero_le _, by omega, rfl, Below.refl _ _, rfl⟩
  case round =>
    obtain ⟨kk, hkk, hg, rfl, hB, A⟩ := hrel
    by_cases hlt : kk < l.length
    · have hltz : (kk : Int) < (l.length : Int) := by omega
      obtain ⟨b, o, a3, c3, rfl, -, hlv, k0, k1, k2, k3⟩ := hc kk hlt
      have hBk := KeepC.of_below hB
      replace k0 := hBk.2 _ _ _ k0
      replace k1 := hBk.2 _ _ _ k1
      replace k2 := hBk.2 _ _ _ k2
      replace k3 := hBk.2 _ _ _ k3
      have HE := over_any l[kk] (hl.2 _ (List.getElem_mem _)) a3 c3 qb q ea wr (hBk.2 _ _ _ hge) (hBk.2 _ _ _ hq) (hlv.keep hBk)
      have ht : (l.take (kk + 1)).any (fun x => decide (q < costS x.l)) = ((l.take kk).any (fun x => decide (q < costS x.l)) || decide (q < costS l[kk].l)) := by rw [List.take_succ_eq_append_getElem hlt, List.any_append]; simp
      have hany : decide (q < costS l[kk].l) = true → l.any (fun x => decide (q < costS x.l)) = true := fun h => List.any_eq_true.2 ⟨_, List.getElem_mem _, h⟩
      rw [A.out, Bool.false_or] at ht
      clear hc hlv hBk A
      generalize l[kk] = y at *
      obtain ⟨l1, S1, i1, p1⟩ := y
      dsimp only at *
      generalize decide (q < costS p1) = r at *
      have HT := Lib.hid ht
      have HA := Lib.hid hany
      have HE1 := Lib.hid HE
      clear ht hany HE
      cases r with
      | true =>
        go_wp2_with (go_at_fn 32; refine HE1.out.mono ?_; rintro e w2 ⟨rfl, hb2⟩)
        go_ret
        refine ⟨⟨kk, rfl, ?_⟩, hB.trans (hb2.mono hB.size)⟩
        rw [HA.out (by trivial)]; simp
      | false =>
        go_wp2_with (go_at_fn 32; refine HE1.out.mono ?_; rintro e w2 ⟨rfl, hb2⟩)
        go_roundg (l.length - (kk + 1))
        case measure => omega
        case rel => exact ⟨kk + 1, by omega, by omega, by go_num, hB.trans (hb2.mono hB.size), HT.out⟩
    · have hltz : ¬ (kk : Int) < (l.length : Int) := by omega
      have hA := A.out
      rw [List.take_of_length_le (by omega)] at hA
      have HA := Lib.hid hA
      clear hA A hc
      go_wp2_with fail
      go_ret
      exact ⟨⟨-1, rfl, by rw [HA.out]; rfl⟩, hB⟩
theorem containsW_any (l : List PartD) (hl : FitsW l) (v : Value) (qb : Nat) (q : Int) (ea : Addr) (w : World) (hge : w.cell? ⟨1, 0, none⟩ = some (errV8 ea)) (hq : w.cell? ⟨qb, 0, none⟩ = some (.int .i64 q)) (hv : PartsV w v l) :
    Calls Tryz.prog 34 #[v, .func (.func 32) #[] #[.pointer (some ⟨qb, 0, none⟩)]] w fun e w' => e = .returned (.bool (l.any fun x => decide (q < costS x.l))) ∧ Below w.heap.size w w' := by
  have H := indexW_any l hl v qb q ea w hge hq hv
  generalize (l.any fun x => decide (q < costS x.l)) = R at *
  clear hge hq hv
  go_enter Tryz.func34, Tryz.ntmps34
  go_wp2_with (go_at_call 59; refine H.mono ?_; rintro e w' ⟨⟨k, rfl, hk⟩, hb⟩)
  go_ret
  exact ⟨rfl, hb⟩
set_option maxRecDepth 100000 in
set_option maxHeartbeats 4000000 in
theorem Within_any (l : List PartD) (hl : FitsW l) (v : Value) (q : Int) (ea : Addr) (w : World) (hge : w.cell? ⟨1, 0, none⟩ = some (errV8 ea)) (hv : PartsV w v l) :
    Calls Tryz.prog 14 #[v, .int .i64 q] w fun e w' => e = .returned (.bool (withinB l q)) ∧ Below w.heap.size w w' := by
  have hB := (Below.refl _ w).alloc (Nat.le_refl _) (.cells #[.int .i64 q] 3)
  have b0 := Blk.new w #[.int .i64 q] 3
  have hw : withinB l q = (worldB l && !(l.any fun x => decide (q < costS x.l))) := by
    unfold withinB
    congr 1
    rw [List.not_any_eq_all_not]
    congr 1
    funext p
    rw [Bool.eq_iff_iff]; simp
  have HR := worldRight_any l hl v ea _ ((KeepC.of_below hB).2 _ _ _ hge) (hv.keep (KeepC.of_below hB))
  have HC := fun W (h : KeepC w W) hq => containsW_any l hl v w.heap.size q ea W (h.2 _ _ _ hge) hq (hv.keep h)
  obtain ⟨a, cap, rfl, -⟩ := hv.at
  generalize (l.any fun x => decide (q < costS x.l)) = R at *
  generalize worldB l = wb at *
  rw [hw]
  clear hw hge hv
  cases wb with
  | false =>
    clear HC
    go_enter Tryz.func14, Tryz.ntmps14
    go_wp2_with fail
    with_reducible refine HR.mono ?_
    rintro e w1 ⟨rfl, hb1⟩
    go_wp2_with fail
    go_ret
    exact ⟨rfl, hB.trans (hb1.mono hB.size)⟩
  | true =>
    go_enter Tryz.func14, Tryz.ntmps14
    go_wp2_with fail
    with_reducible refine HR.mono ?_
    rintro e w1 ⟨rfl, hb1⟩
    have B1 := hB.trans (hb1.mono hB.size)
    have HCx := HC w1 (KeepC.of_below B1) (((b0.below hb1 b0.lt).cell 0).trans rfl)
    clear HC
    go_wp2_with fail
    with_reducible refine HCx.mono ?_
    rintro e w2 ⟨rfl, hb2⟩
    go_wp2_with fail
    go_ret
    exact ⟨by rw [Bool.true_and]; rfl, B1.trans (hb2.mono B1.size)⟩
end Go.Proofs.YtmjmmcdhpognaaaGreatDoor
