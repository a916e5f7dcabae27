/- Walks of layer 5: a label's text, printed. -/
import Derived.Test.YtgobdhedeodpiaaDoorLabA
import Derived.Outline
import Derived.Deep.CutBlock
namespace Go.Proofs.YtgobdhedeodpiaaDoor
open Go.RowKit Go.Shelf
attribute [local go_sem] Oper.semAt_some
def printL (lv : Int) (S : Nat) (ig : Int) : List UInt8 := if labB lv ig then labT lv S ig else []
def labE (lv ig : Int) : Int := if labB lv ig then 0 else 20
theorem setT_len (S : Nat) : (setT S).length ≤ 1400 := by
  unfold setT; split
  · simp
  · have h1 := joinC_len (catsL S) (fun n hn => catsL_lt S n hn)
    have h2 := catsL_len S
    simp; omega
theorem label_box (W : World) (lv : Int) (S : Nat) (ig : Int) : Blk (W.alloc (.cells #[.int .i64 lv, .int .u64 S, .int .i64 ig] 24)) W.heap.size #[.int .i64 lv, .int .u64 S, .int .i64 ig] 24 := Blk.new _ _ _
theorem row_below {W W' : World} {base : Nat} {e : TypeId} {size : Nat} {v : Value} {k : Nat} {xs : List Value} (h : W.ownsRow base e size v k xs) (hb : Below W.heap.size W W') : W'.ownsRow base e size v k xs :=
  h.kept (grown_of_below hb none) (by
    rcases h.2 with ⟨rfl, _⟩ | ⟨g, cap, cur, rfl, _⟩
    · exact .inl rfl
    · exact .inr (by simp [Value.ownBlock]))
theorem sadd {P : Program} (a b : List UInt8) (h : a.length + b.length ≤ 9223372036854775807) (W : World) : (Op.stringOp .add ⟨a.toArray⟩ ⟨b.toArray⟩).run P W = .ok (.string ⟨(a ++ b).toArray⟩) W := by
  have := run_string_add_sum (P := P) (w := W) ⟨a.toArray⟩ ⟨b.toArray⟩ (by rw [ba_size, ba_size]; exact h)
  rw [this, ba_append]
theorem row_cap {W : World} {base : Nat} {e : TypeId} {size : Nat} {v : Value} {k : Nat} {xs : List Value} (h : W.ownsRow base e size v k xs) : ∀ a n cap, v = .slice a n cap → n ≤ cap := by
  intro a n cap hv
  rcases h.2 with ⟨rfl, _⟩ | ⟨g, c, cur, rfl, _, _, hc, _⟩
  · cases hv; omega
  · cases hv; exact hc
theorem row_grow {W2 W W' W1 : World} {e : TypeId} {v : Value} {k : Nat} {xs : List Value} {o : Obj} (hbr : Below W2.heap.size W2 W) (hbd : Below W.heap.size W W') (hown : W'.ownsRow W2.heap.size e 1 v k xs) (hgrow : (W'.alloc o).grownBy W1 v.ownBlock) : Below W2.heap.size W2 W1 := by
  have h1 := hbr.trans (hbd.mono (by have := hbr.size; omega))
  have h2 := h1.alloc h1.size o
  refine h2.grown hgrow h2.size fun j ej => ?_
  rcases hown.2 with ⟨rfl, _⟩ | ⟨g, c, cur, rfl, hg, _⟩
  · simp [Value.ownBlock] at ej
  · obtain rfl : g = j := by simpa [Value.ownBlock] using ej
    exact hg
/-- a row of texts read by their numbers -/
def digsV (l : List Nat) : List Value := l.map fun (n : Nat) => Value.string ⟨(digL n).toArray⟩
set_option maxRecDepth 100000 in
set_option maxHeartbeats 4000000 in
theorem print_yes (lv ig : Int) (S : Nat) (hS : S < 18446744073709551616) (w : World) (hT : Tab w) (h1 : 0 ≤ lv) (h2 : lv ≤ 15) (h3 : 0 ≤ ig) (h4 : ig ≤ 7) :
    Calls Tryd.prog 10 #[labV lv S ig] w fun e w' => e = .returned (.tuple #[.string ⟨(labT lv S ig).toArray⟩, .int .i64 0]) ∧ Below w.heap.size w w' := by
  obtain ⟨i0, hi, hz0, hz1, hz2'⟩ := info_parts infoS
  have HR := fun W => labRight_any lv ig S W
  rw [(labB_iff lv ig).2 ⟨h1, h2, h3, h4⟩] at HR
  have HL := fun W hW => List_any S hS W hW
  have HD1 := fun W => Digits_any lv W (by omega)
  have HD2 := fun W => Digits_any ig W (by omega)
  have L1 := digL_len lv (by omega)
  have L2 := digL_len ig (by omega)
  have L3 := setT_len S
  have hTl := hT.lt
  have b0 := label_box w lv S ig
  have hB0 := (Below.refl w.heap.size w).alloc (Nat.le_refl _) (.cells #[.int .i64 lv, .int .u64 S, .int .i64 ig] 24)
  go_enter Tryd.func10, Tryd.ntmps10
  go_wp2_with fail
  refine (HR _).mono ?_
  rintro e w1 ⟨rfl, hb1⟩
  have b1 := b0.below hb1 b0.lt
  have b10 := b1.cell 0
  have b11 := b1.cell 1
  have b12 := b1.cell 2
  simp at b10 b11 b12
  have hB1 := hB0.trans (hb1.mono hB0.size)
  go_wp2_with fail
  refine (HL _ (hT.same (hB1.block _ hTl))).mono ?_
  rintro e w2 ⟨⟨v, rfl, hrow⟩, hb2⟩
  clear HL HR b10 b11 b12
  have b2 := b1.below hb2 b1.lt
  have hB2 := hB1.trans (hb2.mono hB1.size)
  have hcl := catsL_len S
  have hc64 := catsL_lt S
  have hA4 : labT lv S ig = ([76] ++ digL lv) ++ setT S ++ [73] ++ digL ig := by simp [labT]
  have hST : Hid (setT S = if catsL S = [] then [] else 123 :: (joinC (catsL S) ++ [125])) := rfl
  obtain ⟨A4, HA4⟩ : ∃ A, Hid (A = labT lv S ig) := ⟨_, rfl⟩
  have hs1 := sadd (P := Tryd.prog) [76] (digL lv) (by simp; omega)
  have hs2 := sadd (P := Tryd.prog) ([76] ++ digL lv) (setT S) (by simp; omega)
  have hs3 := sadd (P := Tryd.prog) ([76] ++ digL lv ++ setT S) [73] (by simp; omega)
  have hs4 := sadd (P := Tryd.prog) ([76] ++ digL lv ++ setT S ++ [73]) (digL ig) (by simp; omega)
  rw [← hA4, ← HA4.out] at hs4
  clear hA4
  generalize [76] ++ digL lv ++ setT S ++ [73] = A3 at *
  generalize [76] ++ digL lv ++ setT S = A2 at *
  generalize [76] ++ digL lv = A1 at *
  generalize digL lv = DL at *
  generalize digL ig = DI at *
  generalize setT S = X at *
  generalize catsL S = C at *
  by_cases hC : C = []
  · subst hC
    obtain rfl : X = [] := hST.out
    obtain ⟨a, cap, rfl⟩ : ∃ a cap, v = .slice a 0 cap := by
      rcases (row_cells hrow).2 with ⟨rfl, h0⟩ | ⟨g, cap, rfl, _⟩
      · exact ⟨_, _, rfl⟩
      · exact ⟨_, _, rfl⟩
    clear hrow hST
    have b20 := b2.cell 0
    have b22 := b2.cell 2
    simp at b20 b22
    go_wp2_with fail
    refine wp_loop_rounds 1 ?_
    rw [rounds_succ]
    have holdB := fun W (h : Below w2.heap.size w2 W) => b2.below h b2.lt
    go_upto_region 12 with fail
    go_cut [2, 3] (fun x2 x3 wx => x2 = .string ⟨A4.toArray⟩ ∧ x3 = .int .i64 0 ∧ Below w2.heap.size w2 wx)
    case first =>
      go_region_held3 (fun u => u.cell? ⟨w.heap.size, 0, none⟩ = some (.int .i64 lv) ∧ u.cell? ⟨w.heap.size, 2, none⟩ = some (.int .i64 ig)) (first | go_keep | exact ⟨k30, k32⟩ | exact ⟨k40, k42⟩)
        (first
          | (go_at_call 12; (with_reducible refine (HD1 _).mono ?_); rintro e w3 ⟨rfl, hb3⟩; have hh3 := (Below.refl w2.heap.size w2).drew.trans hb3; have k30 := (holdB w3 hh3).cell 0; have k32 := (holdB w3 hh3).cell 2; simp at k30 k32)
          | (go_at_call 12; (with_reducible refine (HD2 _).mono ?_); rintro e w4 ⟨rfl, hb4⟩; have hh4 := hh3.trans (hb4.mono hh3.size); have k40 := (holdB w4 hh4).cell 0; have k42 := (holdB w4 hh4).cell 2; simp at k40 k42))
      all_goals (go_wp2_with fail; go_meet)
      all_goals exact ⟨rfl, rfl, hh4⟩
    case rest =>
      obtain ⟨rfl, rfl, hb5⟩ := hcut
      go_wp2_with fail
      go_ret2
      exact ⟨by rw [← HA4.out]; rfl, hB2.trans (hb5.mono hB2.size)⟩
  · have hpos : 0 < C.length := List.length_pos_iff.2 hC
    have HX : Hid (X = 123 :: (joinC C ++ [125])) := by show _ = _; rw [hST.out, if_neg hC]
    clear hST
    rcases (row_cells hrow).2 with ⟨rfl, h0⟩ | ⟨g, cap, rfl, hgb, hcells⟩
    · omega
    clear hrow hgb
    have hg2 : g < w2.heap.size := World.block_lt_of_cell? w2 _ (hcells 0 (by rw [intsV_len]; omega))
    have hcl' : (C.length : Int) ≤ 64 := by omega
    go_wp2_with fail
    go_loopw [4, 6, 15, 16, 17, 18, 19, 20, 21, 22, 23, 24] (fun l _ i _ _ _ _ _ _ _ _ _ wr => ∃ n : Nat, n ≤ C.length ∧ i = .int .i64 n ∧ wr.ownsRow w2.heap.size 9 1 l n (digsV (C.take n)) ∧ Below w2.heap.size w2 wr) (fun _ _ i _ _ _ _ _ _ _ _ _ _ => C.length - (intOf i).toNat)
    case atStart => exact ⟨0, by omega, rfl, World.ownsRow_nil _ _ _ _, Below.refl _ _⟩
    case round =>
      obtain ⟨n, hn, rfl, hown, hbr⟩ := hrel
      by_cases hlt : n < C.length
      · have hcn : wr.cell? ⟨g, n, none⟩ = some (.int .i64 C[n]) := by
          rw [hbr.cell (p := ⟨g, n, none⟩) hg2, hcells n (by rw [intsV_len]; exact hlt)]; simp [intsV]
        have hD := Digits_any (C[n] : Int) wr (by have := hc64 C[n] (List.getElem_mem hlt); omega)
        have HT : Hid (digsV (C.take (n + 1)) = digsV (C.take n) ++ [.string ⟨(digL C[n]).toArray⟩]) := by
          show _ = _; rw [List.take_succ_eq_append_getElem hlt, digsV, List.map_append]; rfl
        generalize C[n] = c at *
        generalize digL c = DC at *
        go_wp2_with fail
        refine hD.mono ?_
        rintro e wd ⟨rfl, hbd⟩
        have hownd := row_below hown hbd
        have hzd := hbd.size
        have hz2 := hbr.size
        go_wp2_with (at_builtin; refine wpList_append_own _ rfl _ _ 39 rfl w2.heap.size 9 i0 (.string ⟨#[]⟩) 1 16 Tryd.underlying39 hi hz0 hz1 hz2' rfl (by decide) _ _ _ rfl (hownd.alloc _) ⟨wd.heap.size, 0, none⟩ 1 1 [.string ⟨DC.toArray⟩] rfl rfl (cell_one_new _ _ _) (by simp [Value.oneCell']) (by unfold maxLen; omega) (by omega) (by simp; omega) ?_; intro v' w1' hown' hgrow _)
        go_roundw
        case rel => exact ⟨n + 1, by omega, by go_num, by rw [HT.out]; exact hown', row_grow hbr hbd hownd hgrow⟩
        case measure => simp [intOf]; omega
      · obtain rfl : n = C.length := by omega
        rw [List.take_length] at hown
        have hcap := (row_cap hown)
        rcases (row_cells hown).2 with ⟨rfl, h0⟩ | ⟨g', cap', rfl, hgb', hcells'⟩
        · omega
        clear hown
        have HJ := joined_any g' cap' C hC hc64 hcl wr (fun j hj => by rw [hcells' j (by simpa [digsV] using hj)]; simp [digsV]) (hcap _ _ _ rfl)
        have hJ1 := sadd (P := Tryd.prog) [123] (joinC C) (by have := joinC_len C hc64; simp; omega)
        have hJ2 := sadd (P := Tryd.prog) ([123] ++ joinC C) [125] (by have := joinC_len C hc64; simp; omega)
        rw [show [123] ++ joinC C ++ [125] = X by rw [HX.out]; simp] at hJ2
        generalize [123] ++ joinC C = XJ at *
        generalize joinC C = JC at *
        have hpos' : (0 : Int) < (C.length : Int) := by omega
        clear hcells hcells'
        go_wp2_with fail
        refine HJ.mono ?_
        rintro e w5 ⟨rfl, hb5⟩
        have hbr5 := hbr.trans (hb5.mono hbr.size)
        have hB5 := hB2.trans (hbr5.mono hB2.size)
        have b5 := b2.below hbr5 b2.lt
        have b50 := b5.cell 0
        have b52 := b5.cell 2
        simp at b50 b52
        have holdB := fun W (h : Below w5.heap.size w5 W) => b5.below h b5.lt
        go_upto_region 12 with fail
        go_cut [2, 3] (fun x2 x3 wx => x2 = .string ⟨A4.toArray⟩ ∧ x3 = .int .i64 0 ∧ Below w5.heap.size w5 wx)
        case first =>
          go_region_held3 (fun u => u.cell? ⟨w.heap.size, 0, none⟩ = some (.int .i64 lv) ∧ u.cell? ⟨w.heap.size, 2, none⟩ = some (.int .i64 ig)) (first | go_keep | exact ⟨k30, k32⟩ | exact ⟨k40, k42⟩)
            (first
              | (go_at_call 12; (with_reducible refine (HD1 _).mono ?_); rintro e w3 ⟨rfl, hb3⟩; have hh3 := (Below.refl w5.heap.size w5).drew.trans hb3; have k30 := (holdB w3 hh3).cell 0; have k32 := (holdB w3 hh3).cell 2; simp at k30 k32)
              | (go_at_call 12; (with_reducible refine (HD2 _).mono ?_); rintro e w4 ⟨rfl, hb4⟩; have hh4 := hh3.trans (hb4.mono hh3.size); have k40 := (holdB w4 hh4).cell 0; have k42 := (holdB w4 hh4).cell 2; simp at k40 k42))
          all_goals (go_wp2_with fail; go_meet)
          all_goals exact ⟨rfl, rfl, hh4⟩
        case rest =>
          obtain ⟨rfl, rfl, hb6⟩ := hcut
          go_wp2_with fail
          go_ret2
          exact ⟨by rw [← HA4.out]; rfl, hB5.trans (hb6.mono hB5.size)⟩
end Go.Proofs.YtgobdhedeodpiaaDoor
