/- Joined: SlSpaceTurns -/
import Derived.Test.YthclfkhakmcnbaaDoorJTP
import Derived.Test.YthclfkhakmcnbaaDoorJTN
/- The law SpaceTurns, walked. -/
namespace Go.Proofs.YthclfkhakmcnbaaDoor
open Go.RowKit Go.Shelf
attribute [local go_sem] Oper.semAt_some
theorem mturns_both (l : List ObjD) (q : Int) (n o : List UInt8) (k m k2 m2 : Int) : (makeE l q n k m = 0 ∧ makeE (makeS l q n k m) q o k2 m2 = 0) ↔ (makeE l q o k2 m2 = 0 ∧ makeE (makeS l q o k2 m2) q n k m = 0) :=
  ⟨fun h => by obtain ⟨h1, h2, -⟩ := mturns_half h.1 h.2; exact ⟨h1, h2⟩, fun h => by obtain ⟨h1, h2, -⟩ := mturns_half h.1 h.2; exact ⟨h1, h2⟩⟩
set_option maxRecDepth 100000 in
set_option maxHeartbeats 8000000 in
theorem slTurns_any (l : List ObjD) (hl : l.length ≤ maxLen) (hi : ∀ x ∈ l, OkO x) (v : Value) (n o : List UInt8) (hn : n.length ≤ maxLen) (ho : o.length ≤ maxLen) (k m k2 m2 : Int) (ea : Addr) (w : World)
    (hge : w.cell? ⟨0, 0, none⟩ = some (errV8 ea)) (het : ErrT w) (hv : ObjsV w v l) :
    Calls Tryd.prog 3 #[v, .string ⟨n.toArray⟩, .string ⟨o.toArray⟩, .int .i64 k, .int .i64 m, .int .i64 k2, .int .i64 m2] w fun e w' => e = .returned (.bool true) ∧ Below w.heap.size w w' := by
  have HSh := fun W (h : KeepC w W) => shown10_any ea W (h.2 _ _ _ hge) (h.2 _ _ _ het)
  have HF := fun W (h : KeepC w W) => few10_any l hl hi v W (hv.keep h)
  have fL := fewS_fitsX l
  have hL22 := fewS_len l
  generalize fewS l = L at *
  have HC := fun W => cut10_any n hn W
  have HD := fun W => cut10_any o ho W
  have hn5 : (n.take 50).length ≤ maxLen := by rw [List.length_take]; omega
  have ho5 : (o.take 50).length ≤ maxLen := by rw [List.length_take]; omega
  generalize n.take 50 = N at *
  generalize o.take 50 = O at *
  have H1 := fun W (h : KeepC w W) v1 (h1 : ObjsV W v1 L) => Make_any L fL v1 100000 N hn5 k m ea W (h.2 _ _ _ hge) (h.2 _ _ _ het) h1
  have H2 := fun W (h : KeepC w W) v1 h1 => Make_any (makeS L 100000 N k m) (make_fits fL _ _ hn5 _ _) v1 100000 O ho5 k2 m2 ea W (h.2 _ _ _ hge) (h.2 _ _ _ het) h1
  have H3 := fun W (h : KeepC w W) v1 (h1 : ObjsV W v1 L) => Make_any L fL v1 100000 O ho5 k2 m2 ea W (h.2 _ _ _ hge) (h.2 _ _ _ het) h1
  have H4 := fun W (h : KeepC w W) v1 h1 => Make_any (makeS L 100000 O k2 m2) (make_fits fL _ _ ho5 _ _) v1 100000 N hn5 k m ea W (h.2 _ _ _ hge) (h.2 _ _ _ het) h1
  have HS := fun W v1 v2 h1 h2 => spaceSame_any (makeS (makeS L 100000 N k m) 100000 O k2 m2) (makeS (makeS L 100000 O k2 m2) 100000 N k m) (make_fits (make_fits fL _ _ hn5 _ _) _ _ ho5 _ _) (make_fits (make_fits fL _ _ ho5 _ _) _ _ hn5 _ _) v1 v2 W h1 h2
  have hb := Lib.hid (mturns_both L 100000 N O k m k2 m2)
  have hh := Lib.hid (fun h1 h2 => (mturns_half (l := L) (q := 100000) (n := N) (o := O) (k := k) (m := m) (k2 := k2) (m2 := m2) h1 h2).2.2)
  generalize makeS (makeS L 100000 N k m) 100000 O k2 m2 = S2 at *
  generalize makeS (makeS L 100000 O k2 m2) 100000 N k m = S4 at *
  generalize makeE (makeS L 100000 N k m) 100000 O k2 m2 = E2 at *
  generalize makeE (makeS L 100000 O k2 m2) 100000 N k m = E4 at *
  generalize makeS L 100000 N k m = S1 at *
  generalize makeS L 100000 O k2 m2 = S3 at *
  generalize makeE L 100000 N k m = E1 at *
  generalize makeE L 100000 O k2 m2 = E3 at *
  obtain ⟨av, cv, rfl, -⟩ := hv.at
  clear hge het hv hi hl hn ho hn5 ho5
  go_enter Tryd.func3, Tryd.ntmps3
  go_wp2_with fail
  with_reducible refine (HSh _ (KeepC.refl _)).mono ?_
  rintro e w1 ⟨rfl, b1⟩
  have B1 := b1
  clear HSh
  go_wp2_with fail
  with_reducible refine (HF _ (KeepC.of_below B1)).mono ?_
  rintro e w2 ⟨vL, rfl, o2, b2⟩
  have B2 := B1.trans (b2.mono B1.size)
  clear b2 B1
  have pL := o2.view
  clear o2
  clear HF
  go_wp2_with fail
  with_reducible refine (HC _).mono ?_
  rintro e w2' ⟨rfl, rfl⟩
  go_wp2_with fail
  with_reducible refine (HD _).mono ?_
  rintro e w2' ⟨rfl, rfl⟩
  go_wp2_with fail
  with_reducible refine (H1 _ (KeepC.of_below B2) _ pL).mono ?_
  rintro e w3 ⟨v3, rfl, o3, b3⟩
  have B3 := B2.trans (b3.mono B2.size)
  replace pL := pL.keep (KeepC.of_below b3)
  clear b3 B2
  have p3 := o3.view
  clear o3
  go_wp2_with fail
  with_reducible refine (H2 _ (KeepC.of_below B3) _ p3).mono ?_
  rintro e w4 ⟨v4, rfl, o4, b4⟩
  have B4 := B3.trans (b4.mono B3.size)
  replace pL := pL.keep (KeepC.of_below b4)
  replace p3 := p3.keep (KeepC.of_below b4)
  clear b4 B3
  have p4 := o4.view
  clear o4
  go_wp2_with fail
  with_reducible refine (H3 _ (KeepC.of_below B4) _ pL).mono ?_
  rintro e w5 ⟨v5, rfl, o5, b5⟩
  have B5 := B4.trans (b5.mono B4.size)
  replace pL := pL.keep (KeepC.of_below b5)
  replace p4 := p4.keep (KeepC.of_below b5)
  clear b5 B4
  have p5 := o5.view
  clear o5
  go_wp2_with fail
  with_reducible refine (H4 _ (KeepC.of_below B5) _ p5).mono ?_
  rintro e w6 ⟨v6, rfl, o6, b6⟩
  have B6 := B5.trans (b6.mono B5.size)
  replace pL := pL.keep (KeepC.of_below b6)
  replace p4 := p4.keep (KeepC.of_below b6)
  replace p5 := p5.keep (KeepC.of_below b6)
  clear b6 B5
  have p6 := o6.view
  clear o6
  obtain ⟨aL, cL, rfl, -⟩ := pL.at
  obtain ⟨a4, c4, rfl, -⟩ := p4.at
  obtain ⟨a6, c6, rfl, -⟩ := p6.at
  clear H1 H2 H3 H4 HC HD fL
  by_cases h1 : E1 = 0
  · by_cases h2 : E2 = 0
    · obtain ⟨h3, h4⟩ := hb.out.1 ⟨h1, h2⟩
      obtain ⟨rfl, hlen⟩ := hh.out h1 h2
      rw [sameS_refl] at HS
      subst h1 h2 h3 h4
      have HSx := HS _ _ _ p4 p6
      have hlz : ((S2.length : Nat) : Int) = (L.length : Int) + 2 := by omega
      clear HS hb hh p4 p6 pL hlen
      generalize S2.length = n2 at *
      go_wp2_with fail
      with_reducible refine HSx.mono ?_
      rintro e w7 ⟨rfl, b7⟩
      go_wp2_with fail
      go_ret
      exact ⟨rfl, B6.trans (b7.mono B6.size)⟩
    · have hno : E3 = 0 → E4 ≠ 0 := fun h3 h4 => h2 (hb.out.2 ⟨h3, h4⟩).2
      have h2b : (E2 != 0) = true := by simpa using h2
      subst h1
      clear HS hb hh p4 p6 pL h2
      by_cases h3 : E3 = 0
      · have h4b : (E4 != 0) = true := by simpa using hno h3
        subst h3
        clear hno
        go_wp2_with fail
        go_ret
        exact ⟨rfl, B6⟩
      · have h3b : (E3 != 0) = true := by simpa using h3
        clear hno h3
        go_wp2_with fail
        go_ret
        exact ⟨rfl, B6⟩
  · have hno : E3 = 0 → E4 ≠ 0 := fun h3 h4 => h1 (hb.out.2 ⟨h3, h4⟩).1
    have h1b : (E1 != 0) = true := by simpa using h1
    clear HS hb hh p4 p6 pL h1
    by_cases h3 : E3 = 0
    · have h4b : (E4 != 0) = true := by simpa using hno h3
      subst h3
      clear hno
      go_wp2_with fail
      go_ret
      exact ⟨rfl, B6⟩
    · have h3b : (E3 != 0) = true := by simpa using h3
      clear hno h3
      go_wp2_with fail
      go_ret
      exact ⟨rfl, B6⟩
end Go.Proofs.YthclfkhakmcnbaaDoor
