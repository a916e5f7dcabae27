/- Joined: LawD -/
import Derived.Test.YtmjmmcdhpognaaaDoorJWI
/- The law WorldBounds, walked. -/
namespace Go.Proofs.YtmjmmcdhpognaaaDoor
open Go.RowKit Go.Shelf
attribute [local go_sem] Oper.semAt_some
def allB (L : List PartD) (n : Int) (k : Nat) : Bool := worldB L && (L.take k).all fun p => decide (costS p.l ≤ n)
theorem allB_succ (L : List PartD) (n : Int) (k : Nat) (h : k < L.length) : allB L n (k + 1) = (allB L n k && decide (costS L[k].l ≤ n)) := by
  unfold allB
  rw [List.take_succ_eq_append_getElem h, List.all_append, Bool.and_assoc]; simp
set_option maxRecDepth 100000 in
set_option maxHeartbeats 4000000 in
theorem bounds_any (l : List PartD) (hl : l.length ≤ maxLen) (hi : ∀ x ∈ l, OkP x) (v : Value) (n m : Int) (ea : Addr) (w : World)
    (hge : w.cell? ⟨1, 0, none⟩ = some (errV8 ea)) (het : ErrT w) (hv : PartsV w v l) :
    Calls Tryd.prog 4 #[v, .int .i64 n, .int .i64 m] w fun e w' => e = .returned (.bool true) ∧ Below w.heap.size w w' := by
  have HSh := fun W (h : KeepC w W) => shown_any ea W (h.2 _ _ _ hge) (h.2 _ _ _ het)
  have HF := fun W (h : KeepC w W) => few11_any l hl hi v W (hv.keep h)
  have fL := fewW_fits l
  generalize fewW l = L at *
  have fLw : FitsW L := fL.w
  have HR := fun W (h : KeepC w W) v1 (h1 : PartsV W v1 L) => worldRight_any L fLw v1 ea W (h.2 _ _ _ hge) h1
  have HW := fun q W (h : KeepC w W) v1 (h1 : PartsV W v1 L) => Within_any L fLw v1 q ea W (h.2 _ _ _ hge) h1
  have HG := fun a W (h : KeepC w W) v1 (h1 : PartsV W v1 L) => Get_any L fLw v1 a ea W (h.2 _ _ _ hge) h1
  have HC := fun s (hs : FitsS s) v1 W (h1 : ObjsV W v1 s) => refCost_any s hs v1 W h1
  have hself := fun (h : worldB L = true) i hi => get_self h i hi
  have hn8 : L.length ≤ 8 := fL.1
  have hmono := within_mono (w := L) (q := min n m) (q' := max n m) (by omega)
  clear hge het hv hi hl
  go_enter Tryd.func4, Tryd.ntmps4
  go_wp2_with fail
  with_reducible refine (HSh _ (KeepC.of_below (Below.refl _ _))).mono ?_
  rintro e w1 ⟨rfl, b1⟩
  go_wp2_with fail
  with_reducible refine (HF _ (KeepC.of_below b1)).mono ?_
  rintro e w2 ⟨vL, rfl, oL, b2⟩
  have B2 := b1.trans (b2.mono b1.size)
  have pL := oL.view
  clear HSh HF oL b1
  go_wp2_with fail
  with_reducible refine (HR _ (KeepC.of_below B2) _ pL).mono ?_
  rintro e w3 ⟨rfl, b3⟩
  have B3 := B2.trans (b3.mono B2.size)
  replace pL := pL.keep (KeepC.of_below b3)
  clear HR b2 b3 B2
  obtain ⟨ao, cap, rfl, hc⟩ := pL.at
  have hall0 : worldB L = allB L n 0 := by unfold allB; simp
  rw [hall0]
  clear hall0
  go_wp2_with fail
  go_loopg [8, 9] L.length (fun gg s8 s9 wr => ∃ (kk : Nat) (bb : Bool), kk ≤ L.length ∧ L.length - kk ≤ gg ∧ s8 = .bool bb ∧ s9 = .int .i64 kk ∧ Below w3.heap.size w3 wr ∧ Hid (bb = allB L n kk))
  case atStart => exact ⟨0, _, Nat.zero_le _, by omega, rfl, rfl, Below.refl _ _, rfl⟩
  case round =>
    obtain ⟨kk, bb, hkk, hg, rfl, rfl, hB, hbb⟩ := hrel
    by_cases hlt : kk < L.length
    · have hltz : (kk : Int) < (L.length : Int) := by omega
      have hkz : (0 : Int) ≤ (kk : Int) := by omega
      have hsc := allB_succ L n kk hlt
      rw [← hbb.out] at hsc
      cases bb with
      | false =>
        have HS : Hid (false = allB L n (kk + 1)) := by show _ = _; rw [hsc]; rfl
        clear hsc hbb hc
        go_wp2_with fail
        go_roundg (L.length - (kk + 1))
        case measure => omega
        case rel => exact ⟨kk + 1, _, by omega, by omega, rfl, by go_num, hB, HS⟩
      | true =>
        have hwB : worldB L = true := by
          have := hbb.out
          unfold allB at this
          cases hx : worldB L with
          | true => rfl
          | false => rw [hx] at this; cases this
        have hgs := hself hwB kk hlt
        obtain ⟨b, o, a2, cap2, rfl, hb, hov, k0, k1, k2, k3⟩ := hc kk hlt
        have hBk := KeepC.of_below hB
        replace k0 := hBk.2 _ _ _ k0
        replace k1 := hBk.2 _ _ _ k1
        replace k2 := hBk.2 _ _ _ k2
        have hfx := fLw.2 L[kk] (List.getElem_mem _)
        have HGx := HG L[kk].lab wr (KeepC.of_below (B3.trans (hB.mono B3.size))) _ (pL.keep hBk)
        rw [hgs] at HGx
        have HS : Hid (decide (costS L[kk].l ≤ n) = allB L n (kk + 1)) := by show _ = _; rw [hsc]; rfl
        have HCx := HC L[kk].l hfx
        clear hsc hbb hc hgs hov k3 hself
        obtain ⟨x, hx⟩ : ∃ x, L[kk] = x := ⟨_, rfl⟩
        rw [hx] at k0 k1 k2 HGx HS hfx
        simp only [hx] at HCx
        clear hx
        obtain ⟨lv, S, ig, pl⟩ := x
        dsimp only [PartD.lab] at *
        go_wp2_with fail
        with_reducible refine HGx.mono ?_
        rintro e w4 ⟨v4, rfl, o4, b4⟩
        have C4 := hB.trans (b4.mono hB.size)
        have p4 := o4.view
        clear o4 HGx
        go_wp2_with fail
        with_reducible refine (HCx _ _ p4).mono ?_
        rintro e w5 ⟨rfl, b5⟩
        have C5 := C4.trans (b5.mono C4.size)
        generalize costS pl = c at *
        go_wp2_with fail
        go_roundg (L.length - (kk + 1))
        case measure => omega
        case rel => exact ⟨kk + 1, _, by omega, by omega, rfl, by go_num, C5, HS⟩
    · have hltz : ¬ (kk : Int) < (L.length : Int) := by omega
      have hkl : kk = L.length := by omega
      have hfin : bb = withinB L n := by
        rw [hbb.out, hkl]; unfold allB withinB; rw [List.take_of_length_le (Nat.le_refl _)]
      have B4 := B3.trans (hB.mono B3.size)
      have p4 := pL.keep (KeepC.of_below hB)
      have H1 := HW n wr (KeepC.of_below B4) _ p4
      have H2 := fun W (h : KeepC w W) hp => HW (min n m) W h (.slice ao L.length cap) hp
      have H3 := fun W (h : KeepC w W) hp => HW (max n m) W h (.slice ao L.length cap) hp
      rw [← hfin] at H1
      clear hbb hc hkl HG HC HW hself hfin pL hB
      generalize withinB L (min n m) = x at *
      generalize withinB L (max n m) = y at *
      have HM := Lib.hid hmono
      clear hmono
      go_wp2_with fail
      with_reducible refine H1.mono ?_
      rintro e w5 ⟨rfl, b5⟩
      have B5 := B4.trans (b5.mono B4.size)
      have p5 := p4.keep (KeepC.of_below b5)
      clear H1
      have hbt : (bb == bb) = true := by simp
      go_wp2_with fail
      with_reducible refine (H2 _ (KeepC.of_below B5) p5).mono ?_
      rintro e w6 ⟨rfl, b6⟩
      have B6 := B5.trans (b6.mono B5.size)
      have p6 := p5.keep (KeepC.of_below b6)
      clear H2
      cases x with
      | false =>
        go_wp2_with fail
        go_ret
        exact ⟨rfl, B6⟩
      | true =>
        have hy : y = true := HM.out rfl
        subst hy
        go_wp2_with fail
        with_reducible refine (H3 _ (KeepC.of_below B6) p6).mono ?_
        rintro e w7 ⟨rfl, b7⟩
        go_wp2_with fail
        go_ret
        exact ⟨rfl, B6.trans (b7.mono B6.size)⟩
end Go.Proofs.YtmjmmcdhpognaaaDoor
