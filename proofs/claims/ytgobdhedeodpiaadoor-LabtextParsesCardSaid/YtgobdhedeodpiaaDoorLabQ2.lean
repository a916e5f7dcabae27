/- Walks of the document's answer for layer 5: Print. -/
import Derived.Test.YtgobdhedeodpiaaDoorLabQ1
namespace Go.Proofs.YtgobdhedeodpiaaDoor
open Go.RowKit Go.Shelf
attribute [local go_sem] Oper.semAt_some
/-- what the first k categories make -/
def accT (C : List Nat) (k : Nat) : List UInt8 := if k = 0 then [] else 123 :: joinC (C.take k)
theorem joinC_snoc : ∀ (l : List Nat) (n : Nat), l ≠ [] → joinC (l ++ [n]) = joinC l ++ 44 :: digL n
  | [], _, h => absurd rfl h
  | [m], n, _ => by simp [joinC]
  | m :: k :: l, n, _ => by
    have := joinC_snoc (k :: l) n (by simp)
    simp only [List.cons_append] at this ⊢
    rw [joinC, this, joinC]
    simp
theorem accT_step (C : List Nat) (k : Nat) (hk : k < C.length) : accT C (k + 1) = accT C k ++ (if k = 0 then [123] else [44]) ++ digL C[k] := by
  unfold accT
  rw [if_neg (by omega), List.take_succ_eq_append_getElem hk]
  by_cases h : k = 0
  · subst h; simp [joinC]
  · rw [if_neg h, if_neg h, joinC_snoc _ _ (by intro e; have := congrArg List.length e; rw [List.length_take, List.length_nil] at this; omega)]
    simp
theorem accT_end (S : Nat) : setT S = accT (catsL S) (catsL S).length ++ (if catsL S = [] then [] else [125]) := by
  unfold setT accT
  by_cases h : catsL S = []
  · rw [if_pos h, h]; rfl
  · rw [if_neg h, if_neg (by intro e; exact h (List.length_eq_zero_iff.1 e)), if_neg h, List.take_length]; simp
theorem accT_len (C : List Nat) (k : Nat) (h : ∀ n ∈ C, n < 64) (hc : C.length ≤ 64) : (accT C k).length ≤ 1400 := by
  unfold accT; split
  · simp
  · have := joinC_len (C.take k) (fun n hn => h n (List.mem_of_mem_take hn))
    have := List.length_take_le k C
    have : (C.take k).length ≤ C.length := List.length_take_le' k C
    simp; omega
set_option maxRecDepth 100000 in
set_option maxHeartbeats 4000000 in
theorem printR_any (lv ig : Int) (S : Nat) (hS : S < 18446744073709551616) (w : World) :
    Calls Tryd.prog 11 #[labV lv S ig] w fun e w' => e = .returned (.tuple #[.string ⟨(printL lv S ig).toArray⟩, .int .i64 (labE lv ig)]) ∧ Below w.heap.size w w' := by
  have HR := fun W => rightR_any lv ig S W
  have b0 := label_box w lv S ig
  have hB0 := (Below.refl w.heap.size w).alloc (Nat.le_refl _) (.cells #[.int .i64 lv, .int .u64 S, .int .i64 ig] 24)
  cases hb : labB lv ig with
  | false =>
    have HZ : Hid (printL lv S ig = [] ∧ labE lv ig = 20) := by show _ ∧ _; rw [printL, labE, hb]; exact ⟨rfl, rfl⟩
    rw [hb] at HR
    clear hb
    go_enter Tryd.func11, Tryd.ntmps11
    go_wp2_with fail
    refine (HR _).mono ?_
    rintro e w1 ⟨rfl, hb1⟩
    go_wp2_with fail
    go_ret2
    exact ⟨by rw [HZ.out.1, HZ.out.2]; rfl, hB0.trans (hb1.mono hB0.size)⟩
  | true =>
    obtain ⟨h1, h2, h3, h4⟩ := (labB_iff lv ig).1 hb
    have HZ : Hid (printL lv S ig = [76] ++ digL lv ++ setT S ++ [73] ++ digL ig ∧ labE lv ig = 0) := by show _ ∧ _; rw [printL, labE, hb]; exact ⟨by simp [labT], rfl⟩
    rw [hb] at HR
    have HL := fun W => listR_any S hS W
    have HD1 := fun W => digitsR_any lv (by omega) W
    have HD2 := fun W => digitsR_any ig (by omega) W
    have L1 := digL_len lv (by omega)
    have L2 := digL_len ig (by omega)
    have hcl := catsL_len S
    have hc64 := catsL_lt S
    have HST := Lib.hid (accT_end S)
    have hal := fun k => accT_len (catsL S) k hc64 hcl
    have hstep := fun k hk => Lib.hid (accT_step (catsL S) k hk)
    have L3 := setT_len S
    generalize digL lv = DL at *
    generalize digL ig = DI at *
    generalize setT S = X at *
    generalize catsL S = C at *
    clear hb
    go_enter Tryd.func11, Tryd.ntmps11
    go_wp2_with fail
    refine (HR _).mono ?_
    rintro e w1 ⟨rfl, hb1⟩
    have b1 := b0.below hb1 b0.lt
    have b10 := b1.cell 0
    have b11 := b1.cell 1
    have b12 := b1.cell 2
    simp at b10 b11 b12
    have hB1 := hB0.trans (hb1.mono hB0.size)
    go_wp2_with fail
    refine (HD1 _).mono ?_
    rintro e w2 ⟨rfl, hb2⟩
    have hB2 := hB1.trans (hb2.mono hB1.size)
    have b2 := b1.below hb2 b1.lt
    have b21 := b2.cell 1
    simp at b21
    clear b10 b11 b12
    go_wp2_with fail
    refine (HL _).mono ?_
    rintro e w3 ⟨⟨v, rfl, hrow⟩, hb3⟩
    have hB3 := hB2.trans (hb3.mono hB2.size)
    have b3 := b2.below hb3 b2.lt
    clear b21
    by_cases hC : C = []
    · subst hC
      obtain ⟨a, cap, rfl⟩ : ∃ a cap, v = .slice a 0 cap := by
        rcases (row_cells hrow).2 with ⟨rfl, h0⟩ | ⟨g, cap, rfl, _⟩
        · exact ⟨_, _, rfl⟩
        · exact ⟨_, _, rfl⟩
      have hX : X = [] := by rw [HST.out]; rfl
      subst hX
      clear hrow HST hal hstep
      have b32 := b3.cell 2
      simp at b32
      go_wp2_with fail
      refine wp_loop_rounds 1 ?_
      rw [rounds_succ]
      go_wp2_with fail
      refine (HD2 _).mono ?_
      rintro e w4 ⟨rfl, hb4⟩
      go_wp2_with fail
      go_ret2
      exact ⟨by rw [HZ.out.1, HZ.out.2]; simp, hB3.trans (hb4.mono hB3.size)⟩
    · have hpos : 0 < C.length := List.length_pos_iff.2 hC
      have HX : Hid (X = accT C C.length ++ [125]) := by show _ = _; rw [HST.out, if_neg hC]
      clear HST
      rcases (row_cells hrow).2 with ⟨rfl, h0⟩ | ⟨g, cap, rfl, hgb, hcells⟩
      · omega
      clear hrow hgb
      have hg3 : g < w3.heap.size := World.block_lt_of_cell? w3 _ (hcells 0 (by rw [intsV_len]; omega))
      have hcl' : (C.length : Int) ≤ 64 := by omega
      go_wp2_with fail
      go_loopw [4, 6] (fun s i wr => ∃ (k : Nat) (A : List UInt8), k ≤ C.length ∧ i = .int .i64 k ∧ s = .string ⟨A.toArray⟩ ∧ Hid (A = 76 :: (DL ++ accT C k)) ∧ A.length ≤ 1500 ∧ Below w3.heap.size w3 wr) (fun _ i _ => C.length - (intOf i).toNat)
      case atStart => exact ⟨0, 76 :: DL, by omega, rfl, rfl, (by show _ = _; simp [accT]), by simp; omega, Below.refl _ _⟩
      case round =>
        obtain ⟨k, A, hk, rfl, rfl, hA, hAl, hbr⟩ := hrel
        by_cases hlt : k < C.length
        · have hcn : wr.cell? ⟨g, k, none⟩ = some (.int .i64 C[k]) := by
            rw [hbr.cell (p := ⟨g, k, none⟩) hg3, hcells k (by rw [intsV_len]; exact hlt)]; simp [intsV]
          have hD := digitsR_any (C[k] : Int) (by have := hc64 C[k] (List.getElem_mem hlt); omega) wr
          have hdl := digL_len (C[k] : Int) (by have := hc64 C[k] (List.getElem_mem hlt); omega)
          have HS := hstep k hlt
          have ha1 := hal (k + 1)
          have hlt0 : (k : Int) < C.length := by omega
          generalize C[k] = c at *
          generalize digL c = DC at *
          by_cases h0 : k = 0
          · subst h0
            have HA : Hid (A ++ 123 :: DC = 76 :: (DL ++ accT C (0 + 1))) := by show _ = _; rw [HS.out, hA.out]; simp
            have hal2 : (A ++ 123 :: DC).length ≤ 1500 := by rw [HA.out]; simp at ha1 ⊢; omega
            clear HS ha1 hal hstep hA
            go_wp2_with fail
            refine hD.mono ?_
            rintro e w4 ⟨rfl, hb4⟩
            go_wp2_with fail
            go_roundw
            case rel => exact ⟨1, A ++ 123 :: DC, by omega, by go_num, rfl, HA, hal2, hbr.trans (hb4.mono hbr.size)⟩
            case measure => simp [intOf]; omega
          · have HA : Hid (A ++ 44 :: DC = 76 :: (DL ++ accT C (k + 1))) := by show _ = _; rw [HS.out, hA.out, if_neg h0]; simp
            have hal2 : (A ++ 44 :: DC).length ≤ 1500 := by rw [HA.out]; simp at ha1 ⊢; omega
            have h0' : ((k : Int) == 0) = false := by simp; omega
            clear HS ha1 hal hstep hA
            go_wp2_with fail
            refine hD.mono ?_
            rintro e w4 ⟨rfl, hb4⟩
            go_wp2_with fail
            go_roundw
            case rel => exact ⟨k + 1, A ++ 44 :: DC, by omega, by go_num, rfl, HA, hal2, hbr.trans (hb4.mono hbr.size)⟩
            case measure => simp [intOf]; omega
        · obtain rfl : k = C.length := by omega
          have hpos' : (0 : Int) < C.length := by omega
          have b4 := b3.below hbr b3.lt
          have hB4 := hB3.trans (hbr.mono hB3.size)
          have b42 := b4.cell 2
          simp at b42
          have HF : Hid (printL lv S ig = A ++ 125 :: 73 :: DI) := by show _ = _; rw [HZ.out.1, HX.out, hA.out]; simp
          clear hal hstep hA HX
          go_wp2_with fail
          refine (HD2 _).mono ?_
          rintro e w5 ⟨rfl, hb5⟩
          go_wp2_with fail
          go_ret2
          exact ⟨by rw [HF.out, HZ.out.2]; simp, hB4.trans (hb5.mono hB4.size)⟩
end Go.Proofs.YtgobdhedeodpiaaDoor
