/- Joined: SlSpaceBack -/
import Derived.Test.YthclfkhakmcnbaaGreatDoorJTP
import Derived.Test.YthclfkhakmcnbaaGreatDoorJTN
import Derived.Test.YthclfkhakmcnbaaGreatDoorJTQ
/- The law SpaceBack, walked. -/
namespace Go.Proofs.YthclfkhakmcnbaaGreatDoor
open Go.RowKit Go.Shelf
attribute [local go_sem] Oper.semAt_some
theorem obj_cells {W : World} {v : Value} {l : List ObjD} (h : ObjsV W v l) {i : Nat} (hi : i < l.length) : ∃ (b o : Nat) (a4 : Option Addr) (c4 : Nat), (∃ c, v = .slice (some ⟨b, o, none⟩) l.length c) ∧ W.cell? ⟨b, o + i * 5 + 1, none⟩ = some (.int .i64 l[i].kind) ∧ W.cell? ⟨b, o + i * 5 + 2, none⟩ = some (.string ⟨l[i].data.toArray⟩) ∧ W.cell? ⟨b, o + i * 5 + 3, none⟩ = some (.int .i64 l[i].max) ∧
    W.cell? ⟨b, o + i * 5 + 4, none⟩ = some (.slice a4 l[i].items.length c4) := by
  obtain ⟨a, c, rfl, hc⟩ := h.at
  obtain ⟨b, o, lv, rfl, -, hlv, -, k1, k2, k3, k4⟩ := hc i hi
  obtain ⟨a4, c4, rfl, -⟩ := hlv.at
  exact ⟨b, o, a4, c4, ⟨_, rfl⟩, k1, k2, k3, k4⟩
set_option maxRecDepth 100000 in
set_option maxHeartbeats 8000000 in
theorem slBack_any (l : List ObjD) (hl : l.length ≤ maxLen) (hi : ∀ x ∈ l, OkO x) (v : Value) (qu : Int) (n : List UInt8) (hn : n.length ≤ maxLen) (k m : Int) (ea : Addr) (w : World)
    (hge : w.cell? ⟨0, 0, none⟩ = some (errV8 ea)) (het : ErrT w) (hv : ObjsV w v l) :
    Calls Tryz.prog 6 #[v, .int .i64 qu, .string ⟨n.toArray⟩, .int .i64 k, .int .i64 m] w fun e w' => e = .returned (.bool true) ∧ Below w.heap.size w w' := by
  have HSh := fun W (h : KeepC w W) => shown10_any ea W (h.2 _ _ _ hge) (h.2 _ _ _ het)
  have HF := fun W (h : KeepC w W) => few10_any l hl hi v W (hv.keep h)
  have fL := fewS_fitsX l
  have hL22 := fewS_len l
  generalize fewS l = L at *
  have HC := fun W => cut10_any n hn W
  have hn5 : (n.take 50).length ≤ maxLen := by rw [List.length_take]; omega
  generalize n.take 50 = N at *
  have H1 := fun W (h : KeepC w W) v1 (h1 : ObjsV W v1 L) => Make_any L fL v1 qu N hn5 k m ea W (h.2 _ _ _ hge) (h.2 _ _ _ het) h1
  have fS := make_fits fL qu N hn5 k m
  have fB := Lib.hid (fun h => make_back (l := L) (q := qu) (n := N) (k := k) (m := m) h)
  have fN : Hid (makeE L qu N k m ≠ 0 → makeS L qu N k m = []) := fun h => by unfold makeS; rw [if_neg h]
  generalize makeS L qu N k m = S at *
  generalize makeE L qu N k m = E at *
  have HFi := fun W v1 (h1 : ObjsV W v1 S) => Find_any S fS.1 v1 N W h1
  have HFl := fun W v1 (h1 : ObjsV W v1 L) => Find_any L fL.1 v1 N W h1
  have HDr := fun W (h : KeepC w W) v1 (h1 : ObjsV W v1 S) => Drop_any S fS v1 N ea W (h.2 _ _ _ hge) (h.2 _ _ _ het) h1
  have HS := fun W v1 v2 h1 h2 => spaceSame_any L L fL fL v1 v2 W h1 h2
  rw [sameS_refl] at HS
  obtain ⟨av, cv, rfl, -⟩ := hv.at
  clear hge het hv hi hl hn hn5 fS fL
  go_enter Tryz.func6, Tryz.ntmps6
  go_wp2_with fail
  with_reducible refine (HSh _ (KeepC.refl _)).mono ?_
  rintro e w1 ⟨rfl, b1⟩
  have B1 := b1
  clear HSh
  go_wp2_with fail
  with_reducible refine (HF _ (KeepC.of_below B1)).mono ?_
  rintro e w2 ⟨vL, rfl, o2, b2⟩
  have B2 := B1.trans (b2.mono B1.size)
  clear b2 B1
  have pL := o2.view
  clear o2
  clear HF
  go_wp2_with fail
  with_reducible refine (HC _).mono ?_
  rintro e w2' ⟨rfl, rfl⟩
  go_wp2_with fail
  with_reducible refine (H1 _ (KeepC.of_below B2) _ pL).mono ?_
  rintro e w3 ⟨v3, rfl, o3, b3⟩
  have B3 := B2.trans (b3.mono B2.size)
  replace pL := pL.keep (KeepC.of_below b3)
  clear b3 B2
  have pS := o3.view
  clear o3
  clear H1 HC
  by_cases h1 : E = 0
  · obtain ⟨f1, ⟨f2, f3⟩, f4, f5, f6⟩ := fB.out h1
    subst h1
    rw [f4] at HFi
    rw [f5, f6] at HDr
    rw [f1] at HFl
    clear f1 f4 f5 f6 fB fN
    obtain ⟨aS, cS, rfl, -⟩ := pS.at
    have hge0 : (0 : Int) ≤ (idxS S N : Int) := by omega
    have hlt0 : ((idxS S N : Nat) : Int) < (S.length : Int) := by omega
    have HAT := Lib.hid (fun W (h : ObjsV W (.slice aS S.length cS) S) => obj_cells h f2)
    rw [f3] at HAT
    clear f2 f3
    generalize idxS S N = ix at *
    go_wp2_with fail
    with_reducible refine (HFi _ _ pS).mono ?_
    rintro e w4 ⟨rfl, b4⟩
    have B4 := B3.trans (b4.mono B3.size)
    replace pL := pL.keep (KeepC.of_below b4)
    replace pS := pS.keep (KeepC.of_below b4)
    clear b4 B3
    go_wp2_with fail
    with_reducible refine (HDr _ (KeepC.of_below B4) _ pS).mono ?_
    rintro e w5 ⟨v5, rfl, o5, b5⟩
    have B5 := B4.trans (b5.mono B4.size)
    replace pL := pL.keep (KeepC.of_below b5)
    replace pS := pS.keep (KeepC.of_below b5)
    clear b5 B4
    have pD := o5.view
    clear o5
    go_wp2_with fail
    with_reducible refine (HS _ _ _ pD pL).mono ?_
    rintro e w6 ⟨rfl, b6⟩
    have B6 := B5.trans (b6.mono B5.size)
    replace pL := pL.keep (KeepC.of_below b6)
    replace pS := pS.keep (KeepC.of_below b6)
    replace pD := pD.keep (KeepC.of_below b6)
    clear b6 B5
    obtain ⟨g0, x0, a4, c4, ⟨c0, e0⟩, k1, k2, k3, k4⟩ := HAT.out _ pS
    injection e0 with e0 _ e1
    subst e0
    simp only [mkO, List.length_nil] at k1 k2 k3 k4
    clear HAT HFi HDr HS
    go_wp2_with fail
    with_reducible refine (HFl _ _ pL).mono ?_
    rintro e w7 ⟨rfl, b7⟩
    have B7 := B6.trans (b7.mono B6.size)
    replace pL := pL.keep (KeepC.of_below b7)
    replace pS := pS.keep (KeepC.of_below b7)
    replace pD := pD.keep (KeepC.of_below b7)
    clear b7 B6
    go_wp2_with fail
    go_ret
    exact ⟨rfl, B7⟩
  · have hS : S.length = 0 := by rw [fN.out h1]; rfl
    have hEb : (E != 0) = true := by simpa using h1
    obtain ⟨aS, cS, rfl, -⟩ := pS.at
    clear fB fN HFi HDr HS HFl h1 pS pL
    generalize S.length = n0 at *
    subst hS
    go_wp2_with fail
    go_ret
    exact ⟨rfl, B3⟩
end Go.Proofs.YthclfkhakmcnbaaGreatDoor
