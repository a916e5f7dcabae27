/- Joined: ShTen -/
import Derived.Test.YthclfkhakmcnbaaGreatDoorJTM
import Derived.Test.YthclfkhakmcnbaaGreatDoorJTN
import Derived.Test.YthclfkhakmcnbaaGreatDoorJTA
/- Walks of the laws' own functions: shown, of layer 10. -/
namespace Go.Proofs.YthclfkhakmcnbaaGreatDoor
open Go.RowKit Go.Shelf
attribute [local go_sem] Oper.semAt_some
theorem make_fits {l : List ObjD} (hl : FitsS l) (q : Int) (n : List UInt8) (hn : n.length ≤ maxLen) (k m : Int) : FitsS (makeS l q n k m) := by
  unfold makeS
  split
  · refine ⟨?_, fun x hx => ?_⟩
    · rename_i h
      obtain ⟨-, -, -, -, -, a6, -⟩ := make_zero.1 h
      rw [ins_len]; omega
    · rcases ins_mem.1 hx with rfl | hx
      · exact ⟨hn, by simp [mkO], by simp [mkO], fun s hs => by simp [mkO] at hs⟩
      · exact hl.2 x hx
  · exact ⟨by simp, fun x hx => by cases hx⟩
theorem nil_fitSX : FitsS [] := ⟨by decide, fun x hx => by cases hx⟩
abbrev shB : ObjD := ⟨[98], 2, [], 20, []⟩
abbrev shA : ObjD := ⟨[97], 1, [], 0, []⟩
abbrev shX : ObjD := ⟨[97], 1, [120, 121, 122], 0, []⟩
theorem t1 : makeE [] 100 [98] 2 20 = 0 := by decide +kernel
theorem t1s : makeS [] 100 [98] 2 20 = [shB] := by unfold makeS; rw [t1]; rfl
theorem t2 : makeE [shB] 100 [97] 1 0 = 0 := by decide +kernel
theorem t2s : makeS [shB] 100 [97] 1 0 = [shA, shB] := by unfold makeS; rw [t2]; rfl
theorem t3 : writeE [shA, shB] 100 [97] 0 [120, 121, 122] = 0 := by decide +kernel
theorem t3s : writeS [shA, shB] 100 [97] 0 [120, 121, 122] = [shX, shB] := by
  have h : dataE [shA, shB] 100 [97] (fwriteB (objS [shA, shB] [97]).data 0 [120, 121, 122]) (fwriteL (objS [shA, shB] [97]).data 0 [120, 121, 122]) = 0 := t3
  unfold writeS dataS; rw [h]; rfl
theorem t4 : makeE [shX, shB] 50 [99] 1 0 = 104 := by decide +kernel
theorem t4s : makeS [shX, shB] 50 [99] 1 0 = [] := by unfold makeS; rw [t4]; rfl
theorem t5 : readE [shX, shB] [97] 1 9 = 0 := by decide +kernel
theorem t5s : readS [shX, shB] [97] 1 9 = [121, 122] := by unfold readS; rw [t5]; rfl
theorem t6 : costS [shX, shB] = 45 := by decide +kernel
theorem t7 : findS [shX, shB] [98] = 1 := by decide +kernel
theorem fit1 {x : ObjD} (h1 : x.name.length ≤ maxLen := by decide) (h2 : x.data.length ≤ maxLen := by decide) (h3 : x.items = [] := by rfl) : FitsO x := ⟨h1, h2, by rw [h3]; exact ⟨by simp, fun s hs => by cases hs⟩⟩
theorem fB : FitsS [shB] := ⟨by decide, fun x hx => by rcases List.mem_singleton.1 hx with rfl; exact fit1⟩
theorem fAB : FitsS [shA, shB] := ⟨by decide, fun x hx => by simp at hx; rcases hx with rfl | rfl <;> exact fit1⟩
theorem fXB : FitsS [shX, shB] := ⟨by decide, fun x hx => by simp at hx; rcases hx with rfl | rfl <;> exact fit1⟩
set_option maxRecDepth 100000 in
set_option maxHeartbeats 8000000 in
theorem shown10_any (ea : Addr) (w : World) (hge : w.cell? ⟨0, 0, none⟩ = some (errV8 ea)) (het : ErrT w) :
    Calls Tryz.prog 10 #[] w fun e w' => e = .returned (.bool true) ∧ Below w.heap.size w w' := by
  have H1 := fun W (h : KeepC w W) => Make_any [] nil_fitSX (.slice none 0 0) 100 [98] (by decide) 2 20 ea W (h.2 _ _ _ hge) (h.2 _ _ _ het) (ObjsV.nil W)
  have H2 := fun W (h : KeepC w W) v hv => Make_any [shB] fB v 100 [97] (by decide) 1 0 ea W (h.2 _ _ _ hge) (h.2 _ _ _ het) hv
  have H3 := fun W (h : KeepC w W) v hv => Write_any [shA, shB] fAB v 100 [97] 0 [120, 121, 122] (by decide) ea W (h.2 _ _ _ hge) (h.2 _ _ _ het) hv
  have H4 := fun W (h : KeepC w W) v hv => Make_any [shX, shB] fXB v 50 [99] (by decide) 1 0 ea W (h.2 _ _ _ hge) (h.2 _ _ _ het) hv
  have H5 := fun W (h : KeepC w W) v hv => Read_any [shX, shB] fXB v [97] 1 9 ea W (h.2 _ _ _ hge) (h.2 _ _ _ het) hv
  have H6 := fun W (h : KeepC w W) v hv => Cost_any [shX, shB] fXB v ea W (h.2 _ _ _ hge) hv
  have H7 := fun W v hv => Find_any [shX, shB] (by decide) v [98] W hv
  rw [t1, t1s] at H1
  rw [t2, t2s] at H2
  rw [t3, t3s] at H3
  rw [t4, t4s] at H4
  rw [t5, t5s] at H5
  rw [t6] at H6
  rw [t7] at H7
  clear hge het
  go_enter Tryz.func10, Tryz.ntmps10
  go_wp2_with fail
  with_reducible refine (H1 _ (KeepC.refl _)).mono ?_
  rintro e w1 ⟨v1, rfl, o1, B1⟩
  have p1 := o1.view
  obtain ⟨a1, c1, rfl, -⟩ := p1.at
  change ObjsV w1 (.slice a1 1 c1) [shB] at p1
  clear H1 o1
  go_wp2_with fail
  refine (H2 _ (KeepC.of_below B1) _ p1).mono ?_
  rintro e w2 ⟨v2, rfl, o2, b2⟩
  have B2 := B1.trans (b2.mono B1.size)
  have p2 := o2.view
  obtain ⟨a2, c2, rfl, -⟩ := p2.at
  change ObjsV w2 (.slice a2 2 c2) [shA, shB] at p2
  clear H2 o2 p1 b2 B1
  go_wp2_with fail
  refine (H3 _ (KeepC.of_below B2) _ p2).mono ?_
  rintro e w3 ⟨v3, rfl, o3, b3⟩
  have B3 := B2.trans (b3.mono B2.size)
  have p3 := o3.view
  obtain ⟨a3, c3, rfl, hc3⟩ := p3.at
  change ObjsV w3 (.slice a3 2 c3) [shX, shB] at p3
  clear H3 o3 p2 b3 B2
  go_wp2_with fail
  refine (H4 _ (KeepC.of_below B3) _ p3).mono ?_
  rintro e w4 ⟨v4, rfl, o4, b4⟩
  have B4 := B3.trans (b4.mono B3.size)
  have p4 := p3.keep (KeepC.of_below b4)
  obtain ⟨a4, c4, rfl, -⟩ := o4.view.at
  clear H4 o4 p3 b4 B3 hc3
  go_wp2_with fail
  refine (H5 _ (KeepC.of_below B4) _ p4).mono ?_
  rintro e w5 ⟨rfl, b5⟩
  have B5 := B4.trans (b5.mono B4.size)
  have p5 := p4.keep (KeepC.of_below b5)
  clear H5 p4 b5 B4
  go_wp2_with fail
  refine (H6 _ (KeepC.of_below B5) _ p5).mono ?_
  rintro e w6 ⟨rfl, b6⟩
  have B6 := B5.trans (b6.mono B5.size)
  have p6 := p5.keep (KeepC.of_below b6)
  clear H6 p5 b6 B5
  obtain ⟨b, o, cap, e, -, -, hc⟩ := p6.pos (by decide)
  cases e
  have h0 := (hc 0 (by decide)).1
  simp at h0
  have H7x := H7 _ _ p6
  clear hc H7
  go_wp2_with fail
  refine H7x.mono ?_
  rintro e w7 ⟨rfl, b7⟩
  go_wp2_with fail
  go_ret
  exact ⟨rfl, B6.trans (b7.mono B6.size)⟩
end Go.Proofs.YthclfkhakmcnbaaGreatDoor
