/- Joined: LawF -/
import Derived.Test.YtmjmmcdhpognaaaDoorJWM
/- The law WorldSeen, walked. -/
namespace Go.Proofs.YtmjmmcdhpognaaaDoor
open Go.RowKit Go.Shelf
attribute [local go_sem] Oper.semAt_some
set_option maxRecDepth 100000 in
set_option maxHeartbeats 4000000 in
theorem seenl_any (l : List PartD) (hl : l.length ≤ maxLen) (hi : ∀ x ∈ l, OkP x) (hcl : CsK l) (s : List ObjD) (hs : s.length ≤ maxLen) (his : ∀ x ∈ s, OkO x) (v sv : Value) (a b : LblD) (ha : a.cs < 18446744073709551616) (hb : b.cs < 18446744073709551616) (ea : Addr) (w : World)
    (hge : w.cell? ⟨1, 0, none⟩ = some (errV8 ea)) (het : ErrT w) (hv : PartsV w v l) (hsv : ObjsV w sv s) :
    Calls Tryd.prog 8 #[v, lblV a, lblV b, sv] w fun e w' => e = .returned (.bool true) ∧ Below w.heap.size w w' := by
  have HSh := fun W (h : KeepC w W) => shown_any ea W (h.2 _ _ _ hge) (h.2 _ _ _ het)
  have HF := fun W (h : KeepC w W) => few11_any l hl hi v W (hv.keep h)
  have HFs := fun W (h : KeepC w W) => few10_any s hs his sv W (hsv.keep h)
  have fL := fewW_fits l
  have fs := fewS_fits s
  have cL := few_cs hcl
  generalize fewW l = L at *
  generalize fewS s = s' at *
  have fX := set_fits (a := a) fL fs
  have cX := set_cs (a := a) (l := s') cL ha
  have HX := fun W (h : KeepC w W) v1 v2 (h1 : PartsV W v1 L) (h2 : ObjsV W v2 s') => Set_any L (fL.w) s' fs v1 v2 a ea W (h.2 _ _ _ hge) (h.2 _ _ _ het) h1 h2
  have HZ := fun W v1 (h1 : PartsV W v1 (setW L a s')) => Seen_any (setW L a s') (fX.w) cX v1 b hb W h1
  have HL := fun W v1 (h1 : PartsV W v1 L) => Seen_any L (fL.w) cL v1 b hb W h1
  have hlab : ∀ i (h : i < (seenW (setW L a s') b).length), underB (seenW (setW L a s') b)[i].lab b = true := fun i h => seen_lab i h
  have hsame : setE L a s' = 0 → underB a b = false → sameW (seenW (setW L a s') b) (seenW L b) = true := fun h h2 => seen_set h h2
  have fZ := seen_fits b fX
  have cZ := seen_cs b cX
  have HS := fun W v1 v2 (h1 : PartsV W v1 (seenW (setW L a s') b)) (h2 : PartsV W v2 (seenW L b)) => worldSame_any _ _ (fZ.w) ((seen_fits b fL).w) v1 v2 W h1 h2
  have HU := fun (x : LblD) (hx : x.cs < 18446744073709551616) W => under_any x b hx hb W
  have HUa := fun W => under_any a b ha hb W
  generalize seenW (setW L a s') b = Z at *
  generalize seenW L b = Y at *
  generalize setW L a s' = X at *
  generalize setE L a s' = E at *
  generalize underB a b = ub at *
  obtain ⟨l1, S1, i1⟩ := a
  obtain ⟨l2, S2, i2⟩ := b
  have B0 := ((Below.refl _ w).alloc (Nat.le_refl _) (.cells #[.int .i64 l1, .int .u64 S1, .int .i64 i1] 25)).alloc (by simp) (.cells #[.int .i64 l2, .int .u64 S2, .int .i64 i2] 25)
  have n1 := (Blk.new w #[.int .i64 l1, .int .u64 S1, .int .i64 i1] 25).alloc (.cells #[.int .i64 l2, .int .u64 S2, .int .i64 i2] 25)
  have n2 := Blk.new (w.alloc (.cells #[.int .i64 l1, .int .u64 S1, .int .i64 i1] 25)) #[.int .i64 l2, .int .u64 S2, .int .i64 i2] 25
  rw [World.size_alloc] at n2
  have hz8 : Z.length ≤ 9 := fZ.1
  have HSame := Lib.hid hsame
  clear hge het hv hsv hi his fX fL fs hl hs cL cX hcl hsame fZ ha hb
  go_enter Tryd.func8, Tryd.ntmps8
  go_wp2_with fail
  generalize (w.alloc (.cells #[.int .i64 l1, .int .u64 S1, .int .i64 i1] 25)).alloc (.cells #[.int .i64 l2, .int .u64 S2, .int .i64 i2] 25) = W0 at *
  have NN : Hid (∀ W, Below W0.heap.size W0 W → Blk W w.heap.size #[.int .i64 l1, .int .u64 S1, .int .i64 i1] 25 ∧ Blk W (w.heap.size + 1) #[.int .i64 l2, .int .u64 S2, .int .i64 i2] 25) := by
    show ∀ W, _
    intro W h
    exact ⟨n1.below h n1.lt, n2.below h n2.lt⟩
  clear n1 n2
  with_reducible refine (HSh _ (KeepC.of_below B0)).mono ?_
  rintro e w1 ⟨rfl, b1⟩
  have C1 := b1
  have B1 := B0.trans (b1.mono B0.size)
  go_wp2_with fail
  with_reducible refine (HF _ (KeepC.of_below B1)).mono ?_
  rintro e w2 ⟨vL, rfl, oL, b2⟩
  have C2 := C1.trans (b2.mono C1.size)
  have B2 := B1.trans (b2.mono B1.size)
  have pL := oL.view
  have d := (NN.out _ C2).1
  have d0 := d.cell 0
  have d1 := d.cell 1
  have d2 := d.cell 2
  simp at d0 d1 d2
  clear d HSh HF oL b1
  have SK : Hid (∀ u, Below w2.heap.size w2 u → u.cell? ⟨w.heap.size, 0, none⟩ = some (.int .i64 l1) ∧ u.cell? ⟨w.heap.size, 1, none⟩ = some (.int .u64 S1) ∧ u.cell? ⟨w.heap.size, 2, none⟩ = some (.int .i64 i1)) := by
    show ∀ u, _
    intro u hu
    have k := (KeepC.of_below hu).2
    exact ⟨k _ _ _ d0, k _ _ _ d1, k _ _ _ d2⟩
  go_wp2_with fail
  go_region_held3 (fun u => u.cell? ⟨w.heap.size, 0, none⟩ = some (.int .i64 l1) ∧ u.cell? ⟨w.heap.size, 1, none⟩ = some (.int .u64 S1) ∧ u.cell? ⟨w.heap.size, 2, none⟩ = some (.int .i64 i1))
    (first | go_keep | exact kk1 | exact kk2)
    (first
      | (go_at_call 11; (with_reducible refine (HFs _ (KeepC.of_below B2.drew)).mono ?_); rintro e w3 ⟨vs, rfl, os, b3⟩; have b3' := (Below.refl w2.heap.size w2).drew.trans b3; have kk1 := SK.out _ b3'; have C3 := C2.trans (b3'.mono C2.size); have B3 := B2.trans (b3'.mono B2.size); have pL3 := pL.keep (KeepC.of_below b3'); have ps := os.view)
      | (go_at_call 12; (with_reducible refine (HX _ (KeepC.of_below B3) _ _ pL3 ps).mono ?_); rintro e w4 ⟨v4, rfl, o4, b4⟩; have C4 := C3.trans (b4.mono C3.size); have B4 := B3.trans (b4.mono B3.size); have pL4 := pL3.keep (KeepC.of_below b4); have px := o4.view; have kk2 := SK.out _ (b3'.trans (b4.mono b3'.size))))
  all_goals (replace pL := pL4)
  all_goals (clear SK pL4 kk1 kk2 d0 d1 d2 HX o4 ps b3 b3' os pL3)
  by_cases hE : E = 0
  · subst hE
    have d := (NN.out _ C4).2
    have d0 := d.cell 0
    have d1 := d.cell 1
    have d2 := d.cell 2
    simp at d0 d1 d2
    clear d
    go_wp2_with fail
    with_reducible refine (HZ _ _ px).mono ?_
    rintro e w5 ⟨v5, rfl, o5, b5⟩
    have C5 := C4.trans (b5.mono C4.size)
    have B5 := B4.trans (b5.mono B4.size)
    replace pL := pL.keep (KeepC.of_below b5)
    have pz := o5.view
    clear d0 d1 d2 HZ o5 px b4
    obtain ⟨ao, cap, rfl, hc⟩ := pz.at
    go_wp2_with fail
    go_loopg [13] Z.length (fun gg s8 wr => ∃ (kk : Nat), kk ≤ Z.length ∧ Z.length - kk ≤ gg ∧ s8 = .int .i64 kk ∧ Below w5.heap.size w5 wr)
    case atStart => exact ⟨0, Nat.zero_le _, by omega, rfl, Below.refl _ _⟩
    case round =>
      obtain ⟨kk, hkk, hg, rfl, hB⟩ := hrel
      by_cases hlt : kk < Z.length
      · have hltz : (kk : Int) < (Z.length : Int) := by omega
        have hkz : (0 : Int) ≤ (kk : Int) := by omega
        obtain ⟨b, o, a2, cap2, rfl, hb, hov, k0, k1, k2, k3⟩ := hc kk hlt
        have hBk := KeepC.of_below hB
        replace k0 := hBk.2 _ _ _ k0
        replace k1 := hBk.2 _ _ _ k1
        replace k2 := hBk.2 _ _ _ k2
        have C6 := C5.trans (hB.mono C5.size)
        have HUx := HU Z[kk].lab (cZ _ (List.getElem_mem _))
        rw [hlab kk hlt] at HUx
        clear hc hov k3 hlab HL HS HUa cZ HU
        obtain ⟨x, hx⟩ : ∃ x, Z[kk] = x := ⟨_, rfl⟩
        rw [hx] at k0 k1 k2
        simp only [hx] at HUx
        clear hx
        obtain ⟨lv, S, ig, pl⟩ := x
        dsimp only [PartD.lab] at *
        have d := (NN.out _ C6).2
        have d0 := d.cell 0
        have d1 := d.cell 1
        have d2 := d.cell 2
        simp at d0 d1 d2
        clear d
        have hKeep : Hid (∀ u, Below wr.heap.size wr u → (u.cell? ⟨b, o + kk * 4, none⟩ = some (.int .i64 lv) ∧ u.cell? ⟨b, o + kk * 4 + 1, none⟩ = some (.int .u64 S) ∧ u.cell? ⟨b, o + kk * 4 + 2, none⟩ = some (.int .i64 ig)) ∧ u.cell? ⟨w.heap.size + 1, 0, none⟩ = some (.int .i64 l2) ∧ u.cell? ⟨w.heap.size + 1, 1, none⟩ = some (.int .u64 S2) ∧ u.cell? ⟨w.heap.size + 1, 2, none⟩ = some (.int .i64 i2)) := by
          show ∀ u, _
          intro u hu
          have k := (KeepC.of_below hu).2
          exact ⟨⟨k _ _ _ k0, k _ _ _ k1, k _ _ _ k2⟩, k _ _ _ d0, k _ _ _ d1, k _ _ _ d2⟩
        go_wp2_with fail
        go_region_held3 (fun u => (u.cell? ⟨b, o + kk * 4, none⟩ = some (.int .i64 lv) ∧ u.cell? ⟨b, o + kk * 4 + 1, none⟩ = some (.int .u64 S) ∧ u.cell? ⟨b, o + kk * 4 + 2, none⟩ = some (.int .i64 ig)) ∧ u.cell? ⟨w.heap.size + 1, 0, none⟩ = some (.int .i64 l2) ∧ u.cell? ⟨w.heap.size + 1, 1, none⟩ = some (.int .u64 S2) ∧ u.cell? ⟨w.heap.size + 1, 2, none⟩ = some (.int .i64 i2))
          (first | go_keep | exact kk1)
          (first
            | (go_at_call 24; (with_reducible refine (HUx _).mono ?_); rintro e w6 ⟨rfl, b6⟩; have b6' := (Below.refl wr.heap.size wr).drew.trans b6; have kk1 := hKeep.out _ b6'))
        all_goals go_wp2_with fail
        all_goals go_roundg (Z.length - (kk + 1))
        all_goals first
          | omega
          | exact ⟨kk + 1, by omega, by omega, by go_num, hB.trans (b6'.mono hB.size)⟩
      · have hltz : ¬ (kk : Int) < (Z.length : Int) := by omega
        have C6 := C5.trans (hB.mono C5.size)
        have B6 := B5.trans (hB.mono B5.size)
        have p6 := pz.keep (KeepC.of_below hB)
        replace pL := pL.keep (KeepC.of_below hB)
        have d := (NN.out _ C6).1
        have d0 := d.cell 0
        have d1 := d.cell 1
        have d2 := d.cell 2
        have e := (NN.out _ C6).2
        have e0 := e.cell 0
        have e1 := e.cell 1
        have e2 := e.cell 2
        simp at d0 d1 d2 e0 e1 e2
        clear d e hc hlab HU pz hB
        cases ub with
        | true =>
          go_wp2_with fail
          with_reducible refine (HUa _).mono ?_
          rintro e w7 ⟨rfl, b7⟩
          go_wp2_with fail
          go_ret
          exact ⟨rfl, B6.trans (b7.mono B6.size)⟩
        | false =>
          have HSx := fun W v2 (h : PartsV W _ Z) (h2 : PartsV W v2 Y) => HS W (.slice ao Z.length cap) v2 h h2
          have hsm : sameW Z Y = true := by simpa using HSame.out
          rw [hsm] at HSx
          go_wp2_with fail
          with_reducible refine (HUa _).mono ?_
          rintro e w7 ⟨rfl, b7⟩
          have B7 := B6.trans (b7.mono B6.size)
          have C7 := C6.trans (b7.mono C6.size)
          replace pL := pL.keep (KeepC.of_below b7)
          replace p6 := p6.keep (KeepC.of_below b7)
          have e := (NN.out _ C7).2
          clear d0 d1 d2 e0 e1 e2
          have e0 := e.cell 0
          have e1 := e.cell 1
          have e2 := e.cell 2
          simp at e0 e1 e2
          clear e
          go_wp2_with fail
          with_reducible refine (HL _ _ pL).mono ?_
          rintro e w8 ⟨v8, rfl, o8, b8⟩
          have B8 := B7.trans (b8.mono B7.size)
          replace p6 := p6.keep (KeepC.of_below b8)
          have py := o8.view
          clear o8
          go_wp2_with fail
          with_reducible refine (HSx _ _ p6 py).mono ?_
          rintro e w9 ⟨rfl, b9⟩
          go_wp2_with fail
          go_ret
          exact ⟨rfl, B8.trans (b9.mono B8.size)⟩
  · have hE' : (E != 0) = true := by simpa using hE
    go_wp2_with fail
    go_ret
    exact ⟨rfl, B4⟩
end Go.Proofs.YtmjmmcdhpognaaaDoor
