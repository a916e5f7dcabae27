/- Walks of layer 5: a text's categories. -/
import Derived.Test.YtgobdhedeodpiaaDoorLabN
import Derived.Test.YtgobdhedeodpiaaDoorCatsW
import Derived.ScopeJumps
import Derived.Deep.LoopGhost
namespace Go.Proofs.YtgobdhedeodpiaaDoor
open Go.RowKit Go.Shelf
attribute [local go_sem] Oper.semAt_some
def setK (f : Nat) (last : Int) (acc : Nat) : List UInt8 → PR Nat := pand (plist f last acc) fun s => pand (pmust 125) fun _ => ppure s
/-- behind the last category -/
def setZ (S : Nat) (R : List UInt8) : Nat × (List UInt8 × Bool) := (if (lift () (pmust 125) (R, false)).2.2 then 0 else S, (lift () (pmust 125) (R, false)).2)
theorem lift_false {α : Type} (d : α) (f : List UInt8 → PR α) (R : List UInt8) : lift d f (R, false) = match f R with | (none, r) => (d, (r, true)) | (some a, r) => (a, (r, false)) := rfl
theorem setZ_eq (S : Nat) (R : List UInt8) : lift 0 (pand (pmust 125) fun _ => ppure S) (R, false) = setZ S R := by
  unfold setZ
  rw [lift_false, lift_false, pand]
  rcases h : pmust 125 R with ⟨_ | _, r⟩ <;> rfl
theorem setK_no {f : Nat} {last : Int} {acc : Nat} {R R' : List UInt8} (h : pnum (last + 1) 63 R = (none, R')) : lift 0 (setK (f + 1) last acc) (R, false) = (0, (R', true)) := by
  rw [lift_false, setK, pand, plist, pand, h]
theorem setK_last {f : Nat} {last : Int} {acc : Nat} {R R' : List UInt8} (h : pnum (last + 1) 63 R = (some 63, R')) : lift 0 (setK (f + 1) last acc) (R, false) = setZ (acc ||| 2 ^ 63) R' := by
  rw [← setZ_eq, lift_false, lift_false, setK, pand, plist, pand, h]
  simp [ppure]
theorem setK_more {f : Nat} {last : Int} {acc n : Nat} {R R' R'' : List UInt8} (h : pnum (last + 1) 63 R = (some (n : Int), R')) (hn : n ≠ 63) (hi : pis 44 R' = (some true, R'')) : lift 0 (setK (f + 1) last acc) (R, false) = lift 0 (setK f n (acc ||| 2 ^ n)) (R'', false) := by
  rw [lift_false, lift_false, setK, setK, pand, pand, plist, pand, h]
  simp only
  rw [if_neg (by omega), pand, hi]
  rfl
theorem setK_done {f : Nat} {last : Int} {acc n : Nat} {R R' R'' : List UInt8} (h : pnum (last + 1) 63 R = (some (n : Int), R')) (hn : n ≠ 63) (hi : pis 44 R' = (some false, R'')) : lift 0 (setK (f + 1) last acc) (R, false) = setZ (acc ||| 2 ^ n) R'' := by
  rw [← setZ_eq, lift_false, lift_false, setK, pand, plist, pand, h]
  simp only
  rw [if_neg (by omega), pand, hi]
  simp [ppure]
theorem lift_len {α : Type} {f : List UInt8 → PR α} (hf : Str f) (d : α) (r : List UInt8) (bad : Bool) : (lift d f (r, bad)).2.1.length ≤ r.length := by
  cases bad with
  | true => exact Nat.le_refl _
  | false =>
    rw [lift_false]
    obtain ⟨a, b, h1, h2, -⟩ := hf r
    rcases h : f r with ⟨_ | x, r'⟩ <;> (rw [h] at h2; dsimp only at h2 ⊢; rw [h1, h2]; simp)
theorem set_start (r : List UInt8) (bad : Bool) : ((lift false (pis 123) (r, bad)).1 = false → lift 0 pset (r, bad) = (0, (lift false (pis 123) (r, bad)).2)) ∧
    ((lift false (pis 123) (r, bad)).1 = true → ∃ R0, lift 0 pset (r, bad) = lift 0 (setK 64 (-1) 0) (R0, false) ∧ (lift false (pis 123) (r, bad)).2 = (R0, false) ∧ R0.length ≤ r.length) := by
  cases bad with
  | true => exact ⟨fun _ => rfl, fun h => by cases h⟩
  | false =>
    cases r with
    | nil => exact ⟨fun _ => rfl, fun h => by cases h⟩
    | cons d r =>
      by_cases hd : d = 123
      · subst hd
        refine ⟨fun h => by simp [lift, pis] at h, fun _ => ⟨r, ?_, by simp [lift, pis], by simp⟩⟩
        rw [lift_false, lift_false, pset, pand]
        simp only [pis, if_true]
        rfl
      · have hp : pis 123 (d :: r) = (some false, d :: r) := by simp [pis, hd]
        refine ⟨fun _ => ?_, fun h => by rw [lift_false, hp] at h; cases h⟩
        rw [lift_false, lift_false, pset, pand, hp]
        rfl
theorem jump_ret {l : Nat} {J : Act → World → Prop} {Q : Exit → Act → World → Prop} {a : Act} {w : World} : Exit.jump l J Q .ret a w = Q .ret a w := rfl
def SetPost (b n : Nat) (x : Nat × (List UInt8 × Bool)) (w : World) (e : Ending) (w' : World) : Prop := ∃ v : Nat, v < 18446744073709551616 ∧ e = .returned (.int .u64 v) ∧ RdL w' b n x.2 ∧ (x.2.2 = false → v = x.1) ∧ w.grownBy w' (some b)
def SetJ (b n : Nat) (x : Nat × (List UInt8 × Bool)) (w : World) (a : Act) (w' : World) : Prop := ∃ (v : Nat) (u0 u1 u2 u4 u5 u6 u7 u8 u9 u10 u11 u12 u13 u14 u15 u16 u17 u18 u19 u20 u21 u22 u23 u24 u25 u26 u27 u28 u29 u30 u31 u32 : Value), v < 18446744073709551616 ∧ a = { tmps := #[u0, u1, u2, Value.int .u64 v, u4, u5, u6, u7, u8, u9, u10, u11, u12, u13, u14, u15, u16, u17, u18, u19, u20, u21, u22, u23, u24, u25, u26, u27, u28, u29, u30, u31, u32], defers := [] } ∧ RdL w' b n x.2 ∧ (x.2.2 = false → v = x.1) ∧ w.grownBy w' (some b)
set_option maxRecDepth 100000 in
set_option maxHeartbeats 4000000 in
theorem set_any (b n : Nat) (r : List UInt8) (bad : Bool) (w : World) (h : RdL w b n (r, bad)) (hl : r.length ≤ n) (hn : n ≤ 1000000) :
    Calls Tryd.prog 26 #[.pointer (some ⟨b, 0, none⟩)] w (SetPost b n (lift 0 pset (r, bad)) w) := by
  have HI := Lib.hid (is_any 123 b n r bad w h (by omega))
  go_enter Tryd.func26, Tryd.ntmps26
  go_wp2_with fail
  refine wp_scope_jumps (l := 0) (J := SetJ b n (lift 0 pset (r, bad)) w) (μ := fun _ _ => 0) rfl ?first ?pass
  case pass =>
    rintro a W ⟨v, u0, u1, u2, u4, u5, u6, u7, u8, u9, u10, u11, u12, u13, u14, u15, u16, u17, u18, u19, u20, u21, u22, u23, u24, u25, u26, u27, u28, u29, u30, u31, u32, hv, rfl, hr, hres, hg⟩
    have HR := Lib.hid hr
    have HV := Lib.hid hres
    clear hr hres HI h
    go_wp2_with fail
    rw [jump_ret]
    go_ret
    exact ⟨v, hv, rfl, HR.out, HV.out, hg⟩
  case first =>
    go_wp2_with fail
    refine HI.out.mono ?_
    rintro e w1 ⟨rfl, hr1, hg1⟩
    have HR1 := Lib.hid hr1
    clear hr1 HI h
    obtain ⟨hs1, hs2⟩ := set_start r bad
    cases hi : (lift false (pis 123) (r, bad)).1 with
    | false =>
      have HX := Lib.hid (hs1 hi)
      clear hs1 hs2 hi
      go_wp2_with fail
      refine wp_goto ⟨rfl, 0, _, _, _, _, _, _, _, _, _, _, _, _, _, _, _, _, _, _, _, _, _, _, _, _, _, _, _, _, _, _, _, _, by omega, rfl, ?_, ?_, hg1⟩
      · rw [HX.out]; exact HR1.out
      · rw [HX.out]; exact fun _ => rfl
    | true =>
      obtain ⟨R0, hx, he, hlen⟩ := hs2 hi
      rw [he] at HR1
      have HX := Lib.hid hx
      clear hs1 hs2 hi hx he
      go_wp2_with fail
      go_loopg [3, 4] 64 (fun gf s last wr => ∃ (k acc : Nat) (R : List UInt8), k ≤ 63 ∧ 64 ≤ gf + k ∧ s = .int .u64 acc ∧ acc < 18446744073709551616 ∧ last = .int .i64 ((k : Int) - 1) ∧ Hid (lift 0 pset (r, bad) = lift 0 (setK gf ((k : Int) - 1) acc) (R, false)) ∧ R.length ≤ r.length ∧ Hid (RdL wr b n (R, false)) ∧ w.grownBy wr (some b))
      case atStart => exact ⟨0, 0, R0, by omega, by omega, rfl, by omega, rfl, HX, hlen, HR1, hg1⟩
      case round =>
        obtain ⟨k, acc, R, hk, hf, rfl, hacc, rfl, HK, hR, HRR, hgr⟩ := hrel
        obtain ⟨g, rfl⟩ : ∃ g, gk = g + 1 := ⟨gk - 1, by omega⟩
        have HN := Lib.hid (number_i k 63 (by omega) (by omega) (by omega) b n R false wr HRR.out (by omega) hn)
        have e1 : (k : Int) - 1 + 1 = k := by omega
        have hc62 := HRR.out.cells.2.2
        have hI : Tryd.prog.isIface 51 = true := by kernel_rfl
        clear HX HRR
        go_wp2_with fail
        refine HN.out.mono ?_
        rintro e w2 ⟨rfl, hr2, hg2⟩
        clear HN
        have hg2' := grownBy_t hgr hg2
        have hlen2 := lift_len (Str.num k 63) (0 : Int) R false
        rcases hp : pnum k 63 R with ⟨_ | m, R'⟩
        · have e2 : lift (0 : Int) (pnum k 63) (R, false) = (0, (R', true)) := by rw [lift_false, hp]
          rw [e2] at hr2 ⊢
          have HX : Hid (lift 0 pset (r, bad) = (0, (R', true))) := by show _ = _; rw [HK.out]; exact setK_no (by rw [e1]; exact hp)
          have c2 := hr2.cells.2.2
          simp only [errL, if_true] at c2
          have HR2 := Lib.hid hr2
          clear hr2 e2 hp HK hlen2 e1
          go_wp2_with fail
          refine wp_goto ⟨rfl, acc, _, _, _, _, _, _, _, _, _, _, _, _, _, _, _, _, _, _, _, _, _, _, _, _, _, _, _, _, _, _, _, _, hacc, rfl, ?_, ?_, hg2'⟩
          · rw [HX.out]; exact HR2.out
          · rw [HX.out]; exact fun h => by cases h
        · obtain ⟨-, hm1, hm2⟩ := pnum_back _ _ _ _ _ (by omega) (by omega) hp
          obtain ⟨j, rfl⟩ := Int.eq_ofNat_of_zero_le (show 0 ≤ m by omega)
          have e2 : lift (0 : Int) (pnum k 63) (R, false) = ((j : Int), (R', false)) := by rw [lift_false, hp]
          rw [e2] at hr2 hlen2 ⊢
          simp only at hlen2
          have c2 := hr2.cells.2.2
          simp only [errL, Bool.false_eq_true, if_false] at c2
          have HR2 := Lib.hid hr2
          have hW := Lib.hid (With_any acc j (by omega) hacc w2)
          have hacc := or_lt acc j (by omega) hacc
          clear hr2 e2
          go_wp2_with fail
          refine hW.out.mono ?_
          rintro e w3 ⟨rfl, hb3⟩
          clear hW
          have HR3 := Lib.hid (show RdL w3 b n (R', false) from Blk.below HR2.out hb3 (Blk.lt HR2.out))
          have hg3 := grownBy_t hg2' (grown_of_below hb3 (some b))
          by_cases h63 : j = 63
          · subst h63
            have HZ : Hid (lift 0 pset (r, bad) = setZ (acc ||| 2 ^ 63) R') := by show _ = _; rw [HK.out]; exact setK_last (by rw [e1]; exact hp)
            clear hp HK HR2 c2
            have HM := Lib.hid (must_any 125 b n R' false _ HR3.out (by omega) hn)
            go_wp2_with fail
            refine HM.out.mono ?_
            rintro e w5 ⟨rfl, hr5, hg5⟩
            have HR5 := Lib.hid hr5
            clear hr5 HM
            go_wp2_with fail
            go_step3
            go_wp2_with fail
            rw [jump_ret]
            go_ret
            refine ⟨_, hacc, rfl, by rw [HZ.out]; exact HR5.out, ?_, grownBy_t hg3 hg5⟩
            intro hz
            rw [HZ.out] at hz ⊢
            unfold setZ at hz ⊢
            rw [hz]; rfl
          · have hne : ((j : Int) == 63) = false := by simp; omega
            have HI2 := Lib.hid (is_any 44 b n R' false w3 HR3.out (by omega))
            obtain ⟨bb, R'', hi, hl3⟩ : ∃ bb R'', pis 44 R' = (some bb, R'') ∧ R''.length ≤ R'.length := by
              cases R' with
              | nil => exact ⟨false, [], rfl, Nat.le_refl _⟩
              | cons d q =>
                by_cases hd : d = 44
                · exact ⟨true, q, by simp [pis, hd], by simp⟩
                · exact ⟨false, d :: q, by simp [pis, hd], Nat.le_refl _⟩
            have e3 : lift false (pis 44) (R', false) = (bb, (R'', false)) := by rw [lift_false, hi]
            rw [e3] at HI2
            cases bb with
            | true =>
              have HX : Hid (lift 0 pset (r, bad) = lift 0 (setK g j (acc ||| 2 ^ j)) (R'', false)) := by show _ = _; rw [HK.out]; exact setK_more (by rw [e1]; exact hp) h63 hi
              have e4 : ((j + 1 : Nat) : Int) - 1 = j := by omega
              clear hp hi HK HR2 c2 e3
              go_wp2_with fail
              refine HI2.out.mono ?_
              rintro e w4 ⟨rfl, hr4, hg4⟩
              have HR4 := Lib.hid hr4
              clear hr4 HI2
              go_wp2_with fail
              go_roundg g
              case measure => omega
              case rel => exact ⟨j + 1, _, R'', by omega, by omega, rfl, hacc, by rw [e4], by show _ = _; rw [HX.out, e4], by omega, HR4, grownBy_t hg3 hg4⟩
            | false =>
              have HZ : Hid (lift 0 pset (r, bad) = setZ (acc ||| 2 ^ j) R'') := by show _ = _; rw [HK.out]; exact setK_done (by rw [e1]; exact hp) h63 hi
              clear hp hi HK HR2 c2 e3
              go_wp2_with fail
              refine HI2.out.mono ?_
              rintro e w4 ⟨rfl, hr4, hg4⟩
              have HR4 := Lib.hid hr4
              have hg4' := grownBy_t hg3 hg4
              clear hr4 HI2
              have HM := Lib.hid (must_any 125 b n R'' false _ HR4.out (by omega) hn)
              go_wp2_with fail
              refine HM.out.mono ?_
              rintro e w5 ⟨rfl, hr5, hg5⟩
              have HR5 := Lib.hid hr5
              clear hr5 HM
              go_wp2_with fail
              go_step3
              go_wp2_with fail
              rw [jump_ret]
              go_ret
              refine ⟨_, hacc, rfl, by rw [HZ.out]; exact HR5.out, ?_, grownBy_t hg4' hg5⟩
              intro hz
              rw [HZ.out] at hz ⊢
              unfold setZ at hz ⊢
              rw [hz]; rfl
end Go.Proofs.YtgobdhedeodpiaaDoor
