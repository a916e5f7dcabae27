/- Joined: SlSpaceQueues -/
import Derived.Test.YthclfkhakmcnbaaGreatDoorJTP
import Derived.Test.YthclfkhakmcnbaaGreatDoorJTN
import Derived.Test.YthclfkhakmcnbaaGreatDoorJTW
/- The law SpaceQueues, walked. -/
namespace Go.Proofs.YthclfkhakmcnbaaGreatDoor
open Go.RowKit Go.Shelf
attribute [local go_sem] Oper.semAt_some
theorem ring_cells {W : World} {v : Value} {l : List ObjD} (h : ObjsV W v l) {i : Nat} (hi : i < l.length) : ∃ b o a4 c4, (∃ c, v = .slice (some ⟨b, o, none⟩) l.length c) ∧ W.cell? ⟨b, o + i * 5 + 4, none⟩ = some (.slice a4 l[i].items.length c4) ∧
    ∀ s r, l[i].items = s :: r → ∃ b2 o2, a4 = some ⟨b2, o2, none⟩ ∧ W.cell? ⟨b2, o2, none⟩ = some (.string ⟨s.toArray⟩) := by
  obtain ⟨a, c, rfl, hc⟩ := h.at
  obtain ⟨b, o, lv, rfl, -, hlv, -, -, -, -, k4⟩ := hc i hi
  obtain ⟨hll, a4, c4, rfl, -, hcell⟩ := hlv
  refine ⟨b, o, a4, c4, ⟨_, rfl⟩, k4, fun s r e => ?_⟩
  rw [e] at hcell
  rcases hcell with h0 | ⟨b2, o2, h2, -, h3⟩
  · simp at h0
  · exact ⟨b2, o2, h2, h3 0 (by simp [strsC])⟩
set_option maxRecDepth 100000 in
set_option maxHeartbeats 8000000 in
theorem slQueues_any (l : List ObjD) (hl : l.length ≤ maxLen) (hi : ∀ x ∈ l, OkO x) (v : Value) (n t : List UInt8) (hn : n.length ≤ maxLen) (ht : t.length ≤ maxLen) (a f em : Addr) (ea : Addr) (w : World)
    (hge : w.cell? ⟨0, 0, none⟩ = some (errV8 ea)) (het : ErrT w) (hr : RErr w a f em) (hv : ObjsV w v l) :
    Calls Tryz.prog 9 #[v, .string ⟨n.toArray⟩, .string ⟨t.toArray⟩] w fun e w' => e = .returned (.bool true) ∧ Below w.heap.size w w' := by
  have HSh := fun W (h : KeepC w W) => shown10_any ea W (h.2 _ _ _ hge) (h.2 _ _ _ het)
  have HF := fun W (h : KeepC w W) => few10_any l hl hi v W (hv.keep h)
  have fL := fewS_fitsX l
  have hL22 := fewS_len l
  generalize fewS l = L at *
  have HC := fun W => cut10_any n hn W
  have HT := fun W => long10_any t ht W
  have hn5 : (n.take 50).length ≤ maxLen := by rw [List.length_take]; omega
  have ht5 : (t.take 1010).length ≤ 1000000 := by rw [List.length_take]; omega
  generalize n.take 50 = N at *
  generalize t.take 1010 = T at *
  have HPu := fun W (h : Below w.heap.size w W) v1 (h1 : ObjsV W v1 L) => Put_any L fL v1 N T ht5 a f em W (hr.below h) ((KeepC.of_below h).2 _ _ _ het) h1
  have fS := put_fits fL N T
  have HTk := fun W (h : Below w.heap.size w W) v1 (h1 : ObjsV W v1 (putS L N T)) => Take_any (putS L N T) fS v1 N a f em W (hr.below h) ((KeepC.of_below h).2 _ _ _ het) h1
  have fS2 := take_fits fS N
  have HFl := fun W v1 (h1 : ObjsV W v1 L) => Find_any L fL.1 v1 N W h1
  have HCL := fun W (h : KeepC w W) v1 (h1 : ObjsV W v1 L) => Cost_any L fL v1 ea W (h.2 _ _ _ hge) h1
  have HCb := fun W (h : KeepC w W) v1 h1 => Cost_any (takeS (putS L N T) N) fS2 v1 ea W (h.2 _ _ _ hge) h1
  have HSm := fun W v1 v2 h1 h2 => spaceSame_any L L fL fL v1 v2 W h1 h2
  rw [sameS_refl] at HSm
  have fQ := Lib.hid (fun h => queue_law (l := L) (n := N) (t := T) h)
  have fN : Hid (putE L N T ≠ 0 → putS L N T = []) := fun h => by unfold putS; rw [if_neg h]
  have HAT : Hid (∀ W v1, ObjsV W v1 L → ∀ hi : idxS L N < L.length, ∃ b o a4 c4, (∃ c, v1 = .slice (some ⟨b, o, none⟩) L.length c) ∧ W.cell? ⟨b, o + idxS L N * 5 + 4, none⟩ = some (.slice a4 (objS L N).items.length c4) ∧ ∀ s r, (objS L N).items = s :: r → ∃ b2 o2, a4 = some ⟨b2, o2, none⟩ ∧ W.cell? ⟨b2, o2, none⟩ = some (.string ⟨s.toArray⟩)) := fun W v1 h1 hi => by rw [objS_at hi]; exact ring_cells h1 hi
  unfold takeP at HTk
  generalize takeS (putS L N T) N = S2 at *
  generalize takeE (putS L N T) N = E2 at *
  generalize takeT (putS L N T) N = T2 at *
  generalize putS L N T = S at *
  generalize putE L N T = E at *
  generalize findS L N = FI at *
  generalize (objS L N).items = its at *
  generalize idxS L N = ix at *
  generalize costS L = cL0 at *
  generalize costS S2 = cB0 at *
  obtain ⟨av, cv, rfl, -⟩ := hv.at
  clear hge het hr hv hi hl hn ht hn5 ht5 fS fS2 fL
  go_enter Tryz.func9, Tryz.ntmps9
  go_wp2_with fail
  with_reducible refine (HSh _ (KeepC.refl _)).mono ?_
  rintro e w1 ⟨rfl, b1⟩
  have B1 := b1
  clear HSh
  go_wp2_with fail
  with_reducible refine (HF _ (KeepC.of_below B1)).mono ?_
  rintro e w2 ⟨vL, rfl, o2, b2⟩
  have B2 := B1.trans (b2.mono B1.size)
  clear b2 B1
  have pL := o2.view
  clear o2
  clear HF
  go_wp2_with fail
  with_reducible refine (HC _).mono ?_
  rintro e w2' ⟨rfl, rfl⟩
  go_wp2_with fail
  with_reducible refine (HT _).mono ?_
  rintro e w2' ⟨rfl, rfl⟩
  go_wp2_with fail
  with_reducible refine (HPu _ B2 _ pL).mono ?_
  rintro e w3 ⟨vS, rfl, pS, b3⟩
  have B3 := B2.trans (b3.mono B2.size)
  replace pL := pL.keep (KeepC.of_below b3)
  clear b3 B2
  clear HPu HC
  by_cases h1 : E = 0
  · obtain ⟨q1, q2, q3, q4, q5⟩ := fQ.out h1
    subst h1
    rw [q1] at HFl
    rw [q3] at HTk
    clear q1 q3 fQ fN
    obtain ⟨aS, cS, rfl, -⟩ := pS.at
    have hge0 : (0 : Int) ≤ (ix : Int) := by omega
    have hlt0 : (ix : Int) < (L.length : Int) := by omega
    go_wp2_with fail
    with_reducible refine (HFl _ _ pL).mono ?_
    rintro e w4 ⟨rfl, b4⟩
    have B4 := B3.trans (b4.mono B3.size)
    replace pL := pL.keep (KeepC.of_below b4)
    replace pS := pS.keep (KeepC.of_below b4)
    clear b4 B3
    go_wp2_with fail
    with_reducible refine (HTk _ B4 _ pS).mono ?_
    rintro e w5 ⟨v5, rfl, pD, b5⟩
    have B5 := B4.trans (b5.mono B4.size)
    replace pL := pL.keep (KeepC.of_below b5)
    replace pS := pS.keep (KeepC.of_below b5)
    clear b5 B4
    obtain ⟨g0, x0, a4, c4, ⟨c0, e0⟩, k4, k5⟩ := HAT.out _ _ pL q2
    subst e0
    clear HFl HTk pS q2 HAT
    have q4H := Lib.hid q4
    have q5H := Lib.hid q5
    have k5H := Lib.hid k5
    clear q4 q5 k5
    cases its with
    | nil =>
      obtain ⟨y1, y2⟩ := q4H.out rfl
      subst y1 y2
      clear q4H q5H k5H
      simp only [List.length_nil] at k4
      go_wp2_with fail
      with_reducible refine (HT _).mono ?_
      rintro e w5' ⟨rfl, rfl⟩
      go_wp2_with fail
      with_reducible refine (HSm _ _ _ pD pL).mono ?_
      rintro e w6 ⟨rfl, b6⟩
      have B6 := B5.trans (b6.mono B5.size)
      replace pL := pL.keep (KeepC.of_below b6)
      replace pD := pD.keep (KeepC.of_below b6)
      clear b6 B5
      go_wp2_with fail
      go_ret
      exact ⟨rfl, B6⟩
    | cons ss rr =>
      obtain ⟨y1, y2⟩ := q5H.out _ _ rfl
      obtain ⟨b2, o2, rfl, k5⟩ := k5H.out _ _ rfl
      rw [y2] at HCb
      subst y1
      clear q4H q5H k5H y2
      simp only [List.length_cons] at k4
      have hpos : (0 : Int) < ((rr.length + 1 : Nat) : Int) := by omega
      have hnz : ¬ (((rr.length + 1 : Nat) : Int) ≤ 0) := by omega
      go_wp2_with fail
      with_reducible refine (HCb _ (KeepC.of_below B5) _ pD).mono ?_
      rintro e w6 ⟨rfl, b6⟩
      have B6 := B5.trans (b6.mono B5.size)
      replace pL := pL.keep (KeepC.of_below b6)
      replace pD := pD.keep (KeepC.of_below b6)
      clear b6 B5
      go_wp2_with fail
      with_reducible refine (HCL _ (KeepC.of_below B6) _ pL).mono ?_
      rintro e w7 ⟨rfl, b7⟩
      have B7 := B6.trans (b7.mono B6.size)
      replace pL := pL.keep (KeepC.of_below b7)
      replace pD := pD.keep (KeepC.of_below b7)
      clear b7 B6
      go_wp2_with fail
      go_ret
      exact ⟨rfl, B7⟩
  · have hS : S.length = 0 := by rw [fN.out h1]; rfl
    have hEb : (E != 0) = true := by simpa using h1
    obtain ⟨aS, cS, rfl, -⟩ := pS.at
    clear fQ fN HFl HTk HSm HCL HCb h1 pS pL HAT
    generalize S.length = n0 at *
    subst hS
    go_wp2_with fail
    go_ret
    exact ⟨rfl, B3⟩
end Go.Proofs.YthclfkhakmcnbaaGreatDoor
