/- Joined: CatsW; LabS; LabAs; LabP; RulW; RuA; RuO -/
import Derived.Test.YtmmdpjliknmhgaaGreatDoorJRF
import Derived.Deep.RegionHeld3
import Derived.StillTailTactics
import Derived.Stop.IfaceNil
import Derived.ScopeJumps
import Derived.Deep.LoopGhost
import Derived.Test.YtmmdpjliknmhgaaGreatDoorJRA
import Derived.LaidEql
import Derived.Stop.Asserts
import Derived.RowKitTokens
import Derived.Test.YtmmdpjliknmhgaaGreatDoorJRC
import Derived.Test.YtmmdpjliknmhgaaGreatDoorJRE
/- Walks of layer 1: a set with one category more. -/
namespace Go.Proofs.YtmmdpjliknmhgaaGreatDoor
open Go.RowKit Go.Shelf
attribute [local go_sem] Oper.semAt_some
theorem catIs_any (b i : Nat) (hi : i < 64) (w : World) :
    Calls Tryz.prog 150 #[.pointer (some ⟨b, 0, none⟩), .int .i64 i] w fun e w' => e = .returned (.bool true) ∧ w = w' := by
  go_enter Tryz.func150, Tryz.ntmps150
  go_wp2
  go_ret
  exact ⟨rfl, rfl⟩
theorem shl_one (i : Nat) (hi : i < 64) : IntKind.u64.wrap ((1 : Int) * 2 ^ i) = ((2 ^ i : Nat) : Int) := by
  have : (2 : Nat) ^ i < 18446744073709551616 := Nat.lt_of_lt_of_le (Nat.pow_lt_pow_right (by omega) hi) (by decide)
  rw [IntKind.wrap_u64, Int.one_mul]
  have e : ((2 : Int) ^ i) = ((2 ^ i : Nat) : Int) := (Int.natCast_pow 2 i).symm
  rw [e]
  exact Int.emod_eq_of_lt (Int.natCast_nonneg _) (Int.ofNat_lt.2 this)
theorem or_pow (S i : Nat) (hi : i < 64) (hS : S < 18446744073709551616) : bits BinOp.or IntKind.u64 (S : Int) (IntKind.u64.wrap (2 ^ i)) = ((S ||| 2 ^ i : Nat) : Int) := by
  have h := shl_one i hi
  rw [Int.one_mul] at h
  rw [h]
  have this : (2 : Nat) ^ i < 18446744073709551616 := Nat.lt_of_lt_of_le (Nat.pow_lt_pow_right (by omega) hi) (by decide)
  exact (bits_nat .u64 64 (by decide) (fun n h0 h1 => by rw [IntKind.wrap_u64]; exact Int.emod_eq_of_lt h0 h1) S (2 ^ i) hS this).2
set_option maxRecDepth 100000 in
set_option maxHeartbeats 1000000 in
theorem catWith_any (b g c S i : Nat) (hi : i < 64) (hS : S < 18446744073709551616) (w : World) (hb : Blk w b #[.int .u64 S, .nilIface] 162) (hg : w.cell? ⟨g, 0, none⟩ = some (.int .i64 i)) (_hne : g ≠ b) :
    Calls Tryz.prog 137 #[.pointer (some ⟨b, 0, none⟩), .slice (some ⟨g, 0, none⟩) 1 c] w fun e w' => e = .returned (.tuple #[]) ∧ Blk w' b #[.int .u64 (S ||| 2 ^ i : Nat), .nilIface] 162 ∧ w.grownBy w' (some b) := by
  have c0 := hb.cell 0
  have f0 := hb.frozen 0
  simp at c0
  have H := Lib.hid hb
  clear hb
  go_enter Tryz.func137, Tryz.ntmps137
  have hI := fun W => catIs_any b i hi W
  have hi0 : (0 : Int) ≤ (i : Int) := by omega
  have hi1 : (i : Int) < 64 := by omega
  go_wp2_with fail
  refine wp_loop_rounds 2 ?_
  rw [rounds_succ]
  go_wp2_with (go_at_call 150; refine (hI _).mono ?_; rintro e w' ⟨rfl, rfl⟩)
  go_still_tail 11, (by kernel_rfl)
  go_wp2_with fail
  rw [rounds_succ]
  go_wp2_with fail
  go_end0
  rw [or_pow S i hi hS]
  refine ⟨rfl, ?_, ?_⟩
  · have := (Blk.set 0 (.int .u64 (S ||| 2 ^ i : Nat)) H.out).drew
    simpa using this
  · exact grown_drew (grownBy_setCellB w b 0 _)
theorem catEnd_any (b S : Nat) (w : World) (hb : Blk w b #[.int .u64 S, .nilIface] 162) :
    Calls Tryz.prog 138 #[.pointer (some ⟨b, 0, none⟩)] w fun e w' => e = .returned (.tuple #[.int .u64 S, .int .i64 0]) ∧ w = w' := by
  have c0 := hb.cell 0
  have c1 := hb.cell 1
  simp at c0 c1
  clear hb
  go_enter Tryz.func138, Tryz.ntmps138
  go_wp2_with fail
  go_ret2
  exact ⟨rfl, rfl⟩
theorem or_lt (S i : Nat) (hi : i < 64) (hS : S < 18446744073709551616) : S ||| 2 ^ i < 18446744073709551616 :=
  Nat.or_lt_two_pow (n := 64) hS (Nat.pow_lt_pow_right (by omega) hi)
set_option maxRecDepth 100000 in
theorem With_any (S i : Nat) (hi : i < 64) (hS : S < 18446744073709551616) (w : World) :
    Calls Tryz.prog 120 #[.int .u64 S, .int .i64 i] w fun e w' => e = .returned (.tuple #[.int .u64 (S ||| 2 ^ i : Nat), .int .i64 0]) ∧ Below w.heap.size w w' := by
  have b0 := Blk.new w #[.int .u64 S, .nilIface] 162
  have b1 := b0.alloc (.cells #[.int .i64 i] 3)
  have hB1 := ((Below.refl w.heap.size w).alloc (Nat.le_refl _) (.cells #[.int .u64 S, .nilIface] 162)).alloc (by simp) (.cells #[.int .i64 i] 3)
  have HW := Lib.hid (catWith_any w.heap.size (w.heap.size + 1) 1 S i hi hS _ b1 (by simp) (by omega))
  go_enter Tryz.func120, Tryz.ntmps120
  go_wp2_with fail
  refine HW.out.mono ?_
  rintro e w2 ⟨rfl, hb2, hg2⟩
  have HE := Lib.hid (catEnd_any w.heap.size (S ||| 2 ^ i) w2 hb2)
  clear HW hb2
  go_wp2_with fail
  refine HE.out.mono ?_
  rintro e w3 ⟨rfl, rfl⟩
  go_wp2_with fail
  go_ret2
  exact ⟨rfl, hB1.grown hg2 (by simp; omega) (fun k hk => by cases hk; exact Nat.le_refl _)⟩
end Go.Proofs.YtmmdpjliknmhgaaGreatDoor
/- Walks of layer 5: a text's categories. -/
namespace Go.Proofs.YtmmdpjliknmhgaaGreatDoor
open Go.RowKit Go.Shelf
attribute [local go_sem] Oper.semAt_some
def setK (f : Nat) (last : Int) (acc : Nat) : List UInt8 → PR Nat := pand (plist f last acc) fun s => pand (pmust 125) fun _ => ppure s
/-- behind the last category -/
def setZ (S : Nat) (R : List UInt8) : Nat × (List UInt8 × Bool) := (if (lift () (pmust 125) (R, false)).2.2 then 0 else S, (lift () (pmust 125) (R, false)).2)
theorem lift_false {α : Type} (d : α) (f : List UInt8 → PR α) (R : List UInt8) : lift d f (R, false) = match f R with | (none, r) => (d, (r, true)) | (some a, r) => (a, (r, false)) := rfl
theorem setZ_eq (S : Nat) (R : List UInt8) : lift 0 (pand (pmust 125) fun _ => ppure S) (R, false) = setZ S R := by
  unfold setZ
  rw [lift_false, lift_false, pand]
  rcases h : pmust 125 R with ⟨_ | _, r⟩ <;> rfl
theorem setK_no {f : Nat} {last : Int} {acc : Nat} {R R' : List UInt8} (h : pnum (last + 1) 63 R = (none, R')) : lift 0 (setK (f + 1) last acc) (R, false) = (0, (R', true)) := by
  rw [lift_false, setK, pand, plist, pand, h]
theorem setK_last {f : Nat} {last : Int} {acc : Nat} {R R' : List UInt8} (h : pnum (last + 1) 63 R = (some 63, R')) : lift 0 (setK (f + 1) last acc) (R, false) = setZ (acc ||| 2 ^ 63) R' := by
  rw [← setZ_eq, lift_false, lift_false, setK, pand, plist, pand, h]
  simp [ppure]
theorem setK_more {f : Nat} {last : Int} {acc n : Nat} {R R' R'' : List UInt8} (h : pnum (last + 1) 63 R = (some (n : Int), R')) (hn : n ≠ 63) (hi : pis 44 R' = (some true, R'')) : lift 0 (setK (f + 1) last acc) (R, false) = lift 0 (setK f n (acc ||| 2 ^ n)) (R'', false) := by
  rw [lift_false, lift_false, setK, setK, pand, pand, plist, pand, h]
  simp only
  rw [if_neg (by omega), pand, hi]
  rfl
theorem setK_done {f : Nat} {last : Int} {acc n : Nat} {R R' R'' : List UInt8} (h : pnum (last + 1) 63 R = (some (n : Int), R')) (hn : n ≠ 63) (hi : pis 44 R' = (some false, R'')) : lift 0 (setK (f + 1) last acc) (R, false) = setZ (acc ||| 2 ^ n) R'' := by
  rw [← setZ_eq, lift_false, lift_false, setK, pand, plist, pand, h]
  simp only
  rw [if_neg (by omega), pand, hi]
  simp [ppure]
theorem lift_len {α : Type} {f : List UInt8 → PR α} (hf : Str f) (d : α) (r : List UInt8) (bad : Bool) : (lift d f (r, bad)).2.1.length ≤ r.length := by
  cases bad with
  | true => exact Nat.le_refl _
  | false =>
    rw [lift_false]
    obtain ⟨a, b, h1, h2, -⟩ := hf r
    rcases h : f r with ⟨_ | x, r'⟩ <;> (rw [h] at h2; dsimp only at h2 ⊢; rw [h1, h2]; simp)
theorem set_start (r : List UInt8) (bad : Bool) : ((lift false (pis 123) (r, bad)).1 = false → lift 0 pset (r, bad) = (0, (lift false (pis 123) (r, bad)).2)) ∧
    ((lift false (pis 123) (r, bad)).1 = true → ∃ R0, lift 0 pset (r, bad) = lift 0 (setK 64 (-1) 0) (R0, false) ∧ (lift false (pis 123) (r, bad)).2 = (R0, false) ∧ R0.length ≤ r.length) := by
  cases bad with
  | true => exact ⟨fun _ => rfl, fun h => by cases h⟩
  | false =>
    cases r with
    | nil => exact ⟨fun _ => rfl, fun h => by cases h⟩
    | cons d r =>
      by_cases hd : d = 123
      · subst hd
        refine ⟨fun h => by simp [lift, pis] at h, fun _ => ⟨r, ?_, by simp [lift, pis], by simp⟩⟩
        rw [lift_false, lift_false, pset, pand]
        simp only [pis, if_true]
        rfl
      · have hp : pis 123 (d :: r) = (some false, d :: r) := by simp [pis, hd]
        refine ⟨fun _ => ?_, fun h => by rw [lift_false, hp] at h; cases h⟩
        rw [lift_false, lift_false, pset, pand, hp]
        rfl
theorem jump_ret {l : Nat} {J : Act → World → Prop} {Q : Exit → Act → World → Prop} {a : Act} {w : World} : Exit.jump l J Q .ret a w = Q .ret a w := rfl
def SetPost (b n : Nat) (x : Nat × (List UInt8 × Bool)) (w : World) (e : Ending) (w' : World) : Prop := ∃ v : Nat, v < 18446744073709551616 ∧ e = .returned (.int .u64 v) ∧ RdL w' b n x.2 ∧ (x.2.2 = false → v = x.1) ∧ w.grownBy w' (some b)
def SetJ (b n : Nat) (x : Nat × (List UInt8 × Bool)) (w : World) (a : Act) (w' : World) : Prop := ∃ (v : Nat) (u0 u1 u2 u4 u5 u6 u7 u8 u9 u10 u11 u12 u13 u14 u15 u16 u17 u18 u19 u20 u21 u22 u23 u24 u25 u26 u27 u28 u29 u30 u31 u32 : Value), v < 18446744073709551616 ∧ a = { tmps := #[u0, u1, u2, Value.int .u64 v, u4, u5, u6, u7, u8, u9, u10, u11, u12, u13, u14, u15, u16, u17, u18, u19, u20, u21, u22, u23, u24, u25, u26, u27, u28, u29, u30, u31, u32], defers := [] } ∧ RdL w' b n x.2 ∧ (x.2.2 = false → v = x.1) ∧ w.grownBy w' (some b)
set_option maxRecDepth 100000 in
set_option maxHeartbeats 4000000 in
theorem set_any (b n : Nat) (r : List UInt8) (bad : Bool) (w : World) (h : RdL w b n (r, bad)) (hl : r.length ≤ n) (hn : n ≤ 1000000) :
    Calls Tryz.prog 98 #[.pointer (some ⟨b, 0, none⟩)] w (SetPost b n (lift 0 pset (r, bad)) w) := by
  have HI := Lib.hid (is_any 123 b n r bad w h (by omega))
  go_enter Tryz.func98, Tryz.ntmps98
  go_wp2_with fail
  refine wp_scope_jumps (l := 0) (J := SetJ b n (lift 0 pset (r, bad)) w) (μ := fun _ _ => 0) rfl ?first ?pass
  case pass =>
    rintro a W ⟨v, u0, u1, u2, u4, u5, u6, u7, u8, u9, u10, u11, u12, u13, u14, u15, u16, u17, u18, u19, u20, u21, u22, u23, u24, u25, u26, u27, u28, u29, u30, u31, u32, hv, rfl, hr, hres, hg⟩
    have HR := Lib.hid hr
    have HV := Lib.hid hres
    clear hr hres HI h
    go_wp2_with fail
    rw [jump_ret]
    go_ret
    exact ⟨v, hv, rfl, HR.out, HV.out, hg⟩
  case first =>
    go_wp2_with fail
    refine HI.out.mono ?_
    rintro e w1 ⟨rfl, hr1, hg1⟩
    have HR1 := Lib.hid hr1
    clear hr1 HI h
    obtain ⟨hs1, hs2⟩ := set_start r bad
    cases hi : (lift false (pis 123) (r, bad)).1 with
    | false =>
      have HX := Lib.hid (hs1 hi)
      clear hs1 hs2 hi
      go_wp2_with fail
      refine wp_goto ⟨rfl, 0, _, _, _, _, _, _, _, _, _, _, _, _, _, _, _, _, _, _, _, _, _, _, _, _, _, _, _, _, _, _, _, _, by omega, rfl, ?_, ?_, hg1⟩
      · rw [HX.out]; exact HR1.out
      · rw [HX.out]; exact fun _ => rfl
    | true =>
      obtain ⟨R0, hx, he, hlen⟩ := hs2 hi
      rw [he] at HR1
      have HX := Lib.hid hx
      clear hs1 hs2 hi hx he
      go_wp2_with fail
      go_loopg [3, 4] 64 (fun gf s last wr => ∃ (k acc : Nat) (R : List UInt8), k ≤ 63 ∧ 64 ≤ gf + k ∧ s = .int .u64 acc ∧ acc < 18446744073709551616 ∧ last = .int .i64 ((k : Int) - 1) ∧ Hid (lift 0 pset (r, bad) = lift 0 (setK gf ((k : Int) - 1) acc) (R, false)) ∧ R.length ≤ r.length ∧ Hid (RdL wr b n (R, false)) ∧ w.grownBy wr (some b))
      case atStart => exact ⟨0, 0, R0, by omega, by omega, rfl, by omega, rfl, HX, hlen, HR1, hg1⟩
      case round =>
        obtain ⟨k, acc, R, hk, hf, rfl, hacc, rfl, HK, hR, HRR, hgr⟩ := hrel
        obtain ⟨g, rfl⟩ : ∃ g, gk = g + 1 := ⟨gk - 1, by omega⟩
        have HN := Lib.hid (number_i k 63 (by omega) (by omega) (by omega) b n R false wr HRR.out (by omega) hn)
        have e1 : (k : Int) - 1 + 1 = k := by omega
        have hc62 := HRR.out.cells.2.2
        have hI : Tryz.prog.isIface 50 = true := by kernel_rfl
        clear HX HRR
        go_wp2_with fail
        refine HN.out.mono ?_
        rintro e w2 ⟨rfl, hr2, hg2⟩
        clear HN
        have hg2' := grownBy_t hgr hg2
        have hlen2 := lift_len (Str.num k 63) (0 : Int) R false
        rcases hp : pnum k 63 R with ⟨_ | m, R'⟩
        · have e2 : lift (0 : Int) (pnum k 63) (R, false) = (0, (R', true)) := by rw [lift_false, hp]
          rw [e2] at hr2 ⊢
          have HX : Hid (lift 0 pset (r, bad) = (0, (R', true))) := by show _ = _; rw [HK.out]; exact setK_no (by rw [e1]; exact hp)
          have c2 := hr2.cells.2.2
          simp only [errL, if_true] at c2
          have HR2 := Lib.hid hr2
          clear hr2 e2 hp HK hlen2 e1
          go_wp2_with fail
          refine wp_goto ⟨rfl, acc, _, _, _, _, _, _, _, _, _, _, _, _, _, _, _, _, _, _, _, _, _, _, _, _, _, _, _, _, _, _, _, _, hacc, rfl, ?_, ?_, hg2'⟩
          · rw [HX.out]; exact HR2.out
          · rw [HX.out]; exact fun h => by cases h
        · obtain ⟨-, hm1, hm2⟩ := pnum_back _ _ _ _ _ (by omega) (by omega) hp
          obtain ⟨j, rfl⟩ := Int.eq_ofNat_of_zero_le (show 0 ≤ m by omega)
          have e2 : lift (0 : Int) (pnum k 63) (R, false) = ((j : Int), (R', false)) := by rw [lift_false, hp]
          rw [e2] at hr2 hlen2 ⊢
          simp only at hlen2
          have c2 := hr2.cells.2.2
          simp only [errL, Bool.false_eq_true, if_false] at c2
          have HR2 := Lib.hid hr2
          have hW := Lib.hid (With_any acc j (by omega) hacc w2)
          have hacc := or_lt acc j (by omega) hacc
          clear hr2 e2
          go_wp2_with fail
          refine hW.out.mono ?_
          rintro e w3 ⟨rfl, hb3⟩
          clear hW
          have HR3 := Lib.hid (show RdL w3 b n (R', false) from Blk.below HR2.out hb3 (Blk.lt HR2.out))
          have hg3 := grownBy_t hg2' (grown_of_below hb3 (some b))
          by_cases h63 : j = 63
          · subst h63
            have HZ : Hid (lift 0 pset (r, bad) = setZ (acc ||| 2 ^ 63) R') := by show _ = _; rw [HK.out]; exact setK_last (by rw [e1]; exact hp)
            clear hp HK HR2 c2
            have HM := Lib.hid (must_any 125 b n R' false _ HR3.out (by omega) hn)
            go_wp2_with fail
            refine HM.out.mono ?_
            rintro e w5 ⟨rfl, hr5, hg5⟩
            have HR5 := Lib.hid hr5
            clear hr5 HM
            go_wp2_with fail
            go_step3
            go_wp2_with fail
            rw [jump_ret]
            go_ret
            refine ⟨_, hacc, rfl, by rw [HZ.out]; exact HR5.out, ?_, grownBy_t hg3 hg5⟩
            intro hz
            rw [HZ.out] at hz ⊢
            unfold setZ at hz ⊢
            rw [hz]; rfl
          · have hne : ((j : Int) == 63) = false := by simp; omega
            have HI2 := Lib.hid (is_any 44 b n R' false w3 HR3.out (by omega))
            obtain ⟨bb, R'', hi, hl3⟩ : ∃ bb R'', pis 44 R' = (some bb, R'') ∧ R''.length ≤ R'.length := by
              cases R' with
              | nil => exact ⟨false, [], rfl, Nat.le_refl _⟩
              | cons d q =>
                by_cases hd : d = 44
                · exact ⟨true, q, by simp [pis, hd], by simp⟩
                · exact ⟨false, d :: q, by simp [pis, hd], Nat.le_refl _⟩
            have e3 : lift false (pis 44) (R', false) = (bb, (R'', false)) := by rw [lift_false, hi]
            rw [e3] at HI2
            cases bb with
            | true =>
              have HX : Hid (lift 0 pset (r, bad) = lift 0 (setK g j (acc ||| 2 ^ j)) (R'', false)) := by show _ = _; rw [HK.out]; exact setK_more (by rw [e1]; exact hp) h63 hi
              have e4 : ((j + 1 : Nat) : Int) - 1 = j := by omega
              clear hp hi HK HR2 c2 e3
              go_wp2_with fail
              refine HI2.out.mono ?_
              rintro e w4 ⟨rfl, hr4, hg4⟩
              have HR4 := Lib.hid hr4
              clear hr4 HI2
              go_wp2_with fail
              go_roundg g
              case measure => omega
              case rel => exact ⟨j + 1, _, R'', by omega, by omega, rfl, hacc, by rw [e4], by show _ = _; rw [HX.out, e4], by omega, HR4, grownBy_t hg3 hg4⟩
            | false =>
              have HZ : Hid (lift 0 pset (r, bad) = setZ (acc ||| 2 ^ j) R'') := by show _ = _; rw [HK.out]; exact setK_done (by rw [e1]; exact hp) h63 hi
              clear hp hi HK HR2 c2 e3
              go_wp2_with fail
              refine HI2.out.mono ?_
              rintro e w4 ⟨rfl, hr4, hg4⟩
              have HR4 := Lib.hid hr4
              have hg4' := grownBy_t hg3 hg4
              clear hr4 HI2
              have HM := Lib.hid (must_any 125 b n R'' false _ HR4.out (by omega) hn)
              go_wp2_with fail
              refine HM.out.mono ?_
              rintro e w5 ⟨rfl, hr5, hg5⟩
              have HR5 := Lib.hid hr5
              clear hr5 HM
              go_wp2_with fail
              go_step3
              go_wp2_with fail
              rw [jump_ret]
              go_ret
              refine ⟨_, hacc, rfl, by rw [HZ.out]; exact HR5.out, ?_, grownBy_t hg4' hg5⟩
              intro hz
              rw [HZ.out] at hz ⊢
              unfold setZ at hz ⊢
              rw [hz]; rfl
end Go.Proofs.YtmmdpjliknmhgaaGreatDoor
/- errors.As at a concrete target: a struct of one number. (Turned from the worked Toyas texts.) -/
namespace Go.Proofs.YtmmdpjliknmhgaaGreatDoor.LabAs
open Go.RowKit Go.Extern.Stop Go.Stop Go.Extern
abbrev T : Nat := 194
abbrev PT : Nat := 195
abbrev RT : Nat := 145
/-- the handle of a type -/
abbrev H (t : Nat) : Value := .pointer (some ⟨7, t, none⟩)
theorem valueOfP (t : Addr) (w : World) : (ReflectliteValue.unpack (.iface PT (.pointer (some t)))).run Tryz.prog w
    = .ok (.agg #[H PT, .pointer (some ⟨w.heap.size, 0, none⟩), .int .u64 150]) (w.alloc (.cells #[.pointer (some t)] PT)) := by kernel_rfl
theorem typeP (a : Addr) (w : World) : (ReflectliteValue.methodAny (ReflectliteValue.valueError "reflectlite.Value.Type" 0) (fun t _ _ _ => ReflectliteType.toType t) #[.agg #[H PT, .pointer (some a), .int .u64 150]]).run Tryz.prog w
    = .ok (.iface RT (.agg #[H PT])) w := by kernel_rfl
theorem methodKind (h : Value) (w : World) : (Go.method 369 RT (.agg #[h]) "Kind").run Tryz.prog w = .ok (182, h) w := by kernel_rfl
theorem kindP (w : World) : ((ReflectliteType.abiMethod fun t => (fun a : Nat => Value.int IntKind.u8 (a : Int)) <$> Rtype.kind t) #[H PT]).run Tryz.prog w = .ok (.int .u8 22) w := by kernel_rfl
theorem kindT (w : World) : ((ReflectliteType.abiMethod fun t => (fun a : Nat => Value.int IntKind.u8 (a : Int)) <$> Rtype.kind t) #[H T]).run Tryz.prog w = .ok (.int .u8 25) w := by kernel_rfl
theorem rlm (z : Sem Value) (f : TypeId → Addr → Nat → Nat → Sem Value) (v : Value) :
    ReflectliteValue.method z f #[v] = (do match ← ReflectliteValue.parts v with | none => z | some (t, a, fl) => f t a fl (fl % 32)) := rfl
theorem partsP (a : Addr) (w : World) : (ReflectliteValue.parts (.agg #[H PT, .pointer (some a), .int .u64 150])).run Tryz.prog w = .ok (some (PT, a, 150)) w := by kernel_rfl
theorem isNilP (a p : Addr) (W : World) (ha : W.cell? a = some (.pointer (some p))) :
    (ReflectliteValue.method (ReflectliteValue.valueError "reflectlite.Value.IsNil" 0) ReflectliteValue.isNil #[.agg #[H PT, .pointer (some a), .int .u64 150]]).run Tryz.prog W = .ok (.bool false) W := by
  rw [rlm]
  simp only [Sem.run_bind, partsP, Result.andThen]
  simp [ReflectliteValue.isNil, loadVar, isAgg, underlying, Tryz.underlying195, ha, Result.andThen]
theorem methodElem (h : Value) (w : World) : (Go.method 369 RT (.agg #[h]) "Elem").run Tryz.prog w = .ok (194, .agg #[h]) w := by kernel_rfl
theorem methodImplements (h : Value) (w : World) : (Go.method 369 RT (.agg #[h]) "Implements").run Tryz.prog w = .ok (195, .agg #[h]) w := by kernel_rfl
theorem methodAssignableTo (h : Value) (w : World) : (Go.method 369 RT (.agg #[h]) "AssignableTo").run Tryz.prog w = .ok (192, .agg #[h]) w := by kernel_rfl
theorem elemP (w : World) : (ReflectliteType.method ReflectliteType.elem #[.agg #[H PT]]).run Tryz.prog w = .ok (.iface RT (.agg #[H T])) w := by kernel_rfl
theorem implementsT (w : World) : (ReflectliteType.relation "Implements" ReflectliteType.implements_ #[.agg #[H T], .iface RT (.agg #[H 50])]).run Tryz.prog w = .ok (.bool true) w := by kernel_rfl
theorem typeOfT (v : Value) (w : World) : (ReflectliteType.typeOf #[.iface T v]).run Tryz.prog w = .ok (.iface RT (.agg #[H T])) w := by kernel_rfl
theorem assignableT (w : World) : (ReflectliteType.relation "AssignableTo" ReflectliteType.assignableTo #[.agg #[H T], .iface RT (.agg #[H T])]).run Tryz.prog w = .ok (.bool true) w := by kernel_rfl
theorem valueOfT (x : Int) (w : World) : (ReflectliteValue.unpack (.iface T (.agg #[.int .i64 x]))).run Tryz.prog w
    = .ok (.agg #[H T, .pointer (some ⟨w.heap.size, 0, none⟩), .int .u64 153]) (w.alloc (.cells #[.int .i64 x] T)) := by kernel_rfl
theorem elemOfP (w : World) : (Rtype.elem? PT).run Tryz.prog w = .ok (some T) w := by kernel_rfl
theorem mkT (p : Addr) (w : World) : (ReflectliteValue.mk T p ReflectliteValue.flagAddr).run Tryz.prog w = .ok (.agg #[H T, .pointer (some p), .int .u64 409]) w := by kernel_rfl
theorem elemVP (a p : Addr) (W : World) (ha : W.cell? a = some (.pointer (some p))) :
    (ReflectliteValue.method (ReflectliteValue.valueError "reflectlite.Value.Elem" 0) ReflectliteValue.elem #[.agg #[H PT, .pointer (some a), .int .u64 150]]).run Tryz.prog W
      = .ok (.agg #[H T, .pointer (some p), .int .u64 409]) W := by
  rw [rlm]
  simp only [Sem.run_bind, partsP, Result.andThen]
  simp [ReflectliteValue.elem, loadVar, isAgg, underlying, Tryz.underlying195, ha, Result.andThen, elemOfP, mkT]
theorem rls (v x : Value) : ReflectliteValue.set #[v, x] = (do
    let (some (dst, a, fl), some (src, b, _)) := (← ReflectliteValue.parts v, ← ReflectliteValue.parts x)
      | unsupported (.noEntry "extern/(internal/reflectlite.Value).Set.zeroValue")
    if fl / ReflectliteValue.flagAddr % 2 == 0 then unsupported (.noEntry "extern/(internal/reflectlite.Value).Set.unaddressable")
    let val ← loadVar src b
    if ← Rtype.directlyAssignable dst src then storeVar dst a val
    else if ← Rtype.implements dst src then
      if (← Rtype.kind src) == 20 then
        match val with
        | .nilIface => unsupported (.noEntry "extern/reflectlite: a nil value of one interface type handed on as a value of another")
        | _ => storeVar dst a val
      else storeVar dst a (.iface src val)
    else panicString ("reflectlite.Set: value of type " ++ (← Rtype.spelt src) ++ " is not assignable to type " ++ (← Rtype.spelt dst))
    pure (.tuple #[])) := rfl
theorem partsTa (a : Addr) (w : World) : (ReflectliteValue.parts (.agg #[H T, .pointer (some a), .int .u64 409])).run Tryz.prog w = .ok (some (T, a, 409)) w := by kernel_rfl
theorem partsT (a : Addr) (w : World) : (ReflectliteValue.parts (.agg #[H T, .pointer (some a), .int .u64 153])).run Tryz.prog w = .ok (some (T, a, 153)) w := by kernel_rfl
theorem directT (w : World) : (Rtype.directlyAssignable T T).run Tryz.prog w = .ok true w := by kernel_rfl
theorem sizeT (w : World) : (Go.sizeOf T).run Tryz.prog w = .ok 1 w := by kernel_rfl
theorem isAggT (w : World) : (isAgg T).run Tryz.prog w = .ok true w := by kernel_rfl
theorem setT (ta b : Addr) (x : Int) (old : Value) (W : World) (hb : W.cell? b = some (.int .i64 x)) (ht : W.cell? ta = some old) (hf : W.frozen? ta = false) :
    (ReflectliteValue.set #[.agg #[H T, .pointer (some ta), .int .u64 409], .agg #[H T, .pointer (some b), .int .u64 153]]).run Tryz.prog W
      = .ok (.tuple #[]) (W.setCell ta (.int .i64 x)) := by
  rw [rls]
  simp only [Sem.run_bind, partsTa, partsT, Result.andThen]
  have hl : (loadCells b 1).run Tryz.prog W = .ok #[.int .i64 x] W := by
    have := run_loadCells_list (P := Tryz.prog) (w := W) b [.int .i64 x] (by
      intro j v hv
      cases j with
      | zero => simp at hv; subst hv; rw [show b.add 0 = b by cases b; simp [Addr.add]]; exact hb
      | succ j => simp at hv)
    simpa using this
  have ha0 : ta.add 0 = ta := by cases ta; simp [Addr.add]
  simp [ReflectliteValue.flagAddr, loadVar, hl, Result.andThen, directT, storeVar, Value.cells, storeCells, ha0]
  rw [run_store Tryz.prog W ta _ _ (by rfl)]
  simp [ht, hf]
theorem as_nil (t : Value) (w : World) :
    Calls Tryz.prog 38 #[.nilIface, t] w fun e w' => e = .returned (.bool false) ∧ w = w' := by
  go_enter Tryz.func38, Tryz.ntmps38
  go_wp2
  go_ret
  exact ⟨rfl, rfl⟩
abbrev W1 (w : World) (tb : Nat) : World := w.alloc (.cells #[.pointer (some ⟨tb, 0, none⟩)] PT)
abbrev VT : Nat := 98
abbrev W3 (w : World) (tb : Nat) : World := ((W1 w tb).alloc (.cells #[H PT, .pointer (some ⟨w.heap.size, 0, none⟩), .int .u64 150] VT)).alloc (.cells #[H PT, .pointer (some ⟨w.heap.size, 0, none⟩), .int .u64 150] VT)
set_option maxRecDepth 100000 in
set_option maxHeartbeats 4000000 in
theorem as_hit (x : Int) (tb : Nat) (old : Value) (w : World) (hg : w.cell? ⟨0, 0, none⟩ = some (.iface RT (.agg #[H 50]))) (ht : Blk w tb #[old] T) :
    Calls Tryz.prog 38 #[.iface T (.agg #[.int .i64 x]), .iface PT (.pointer (some ⟨tb, 0, none⟩))] w fun e w' => e = .returned (.bool true) ∧ w' = ((W3 w tb).alloc (.cells #[.int .i64 x] T)).setCell ⟨tb, 0, none⟩ (.int .i64 x) := by
  have h6 := @run_callFunc_extern Tryz.prog 58 _ (fun args => ReflectliteValue.unpack (args.getD 0 (.tuple #[]))) Tryz.func58 (by kernel_rfl) (by kernel_rfl) (by kernel_rfl) (by kernel_rfl)
  have h7 := @run_callFunc_extern Tryz.prog 59 _ (ReflectliteValue.methodAny (ReflectliteValue.valueError "reflectlite.Value.Type" 0) (fun t _ _ _ => ReflectliteType.toType t)) Tryz.func59 (by kernel_rfl) (by kernel_rfl) (by kernel_rfl) (by kernel_rfl)
  have h8 := @run_callFunc_extern Tryz.prog 60 _ (ReflectliteValue.method (ReflectliteValue.valueError "reflectlite.Value.IsNil" 0) ReflectliteValue.isNil) Tryz.func60 (by kernel_rfl) (by kernel_rfl) (by kernel_rfl) (by kernel_rfl)
  have h27 := @run_callFunc_extern Tryz.prog 182 _ (ReflectliteType.abiMethod fun t => do pure (.int .u8 (← Rtype.kind t))) Tryz.func182 (by kernel_rfl) (by kernel_rfl) (by kernel_rfl) (by kernel_rfl)
  have h37 := @run_callFunc_extern Tryz.prog 194 _ (ReflectliteType.method ReflectliteType.elem) Tryz.func194 (by kernel_rfl) (by kernel_rfl) (by kernel_rfl) (by kernel_rfl)
  have h38 := @run_callFunc_extern Tryz.prog 195 _ (ReflectliteType.relation "Implements" ReflectliteType.implements_) Tryz.func195 (by kernel_rfl) (by kernel_rfl) (by kernel_rfl) (by kernel_rfl)
  have h10 := @run_callFunc_extern Tryz.prog 84 _ ReflectliteType.typeOf Tryz.func84 (by kernel_rfl) (by kernel_rfl) (by kernel_rfl) (by kernel_rfl)
  have h35 := @run_callFunc_extern Tryz.prog 192 _ (ReflectliteType.relation "AssignableTo" ReflectliteType.assignableTo) Tryz.func192 (by kernel_rfl) (by kernel_rfl) (by kernel_rfl) (by kernel_rfl)
  have h11 := @run_callFunc_extern Tryz.prog 85 _ (ReflectliteValue.method (ReflectliteValue.valueError "reflectlite.Value.Elem" 0) ReflectliteValue.elem) Tryz.func85 (by kernel_rfl) (by kernel_rfl) (by kernel_rfl) (by kernel_rfl)
  have h12 := @run_callFunc_extern Tryz.prog 86 _ ReflectliteValue.set Tryz.func86 (by kernel_rfl) (by kernel_rfl) (by kernel_rfl) (by kernel_rfl)
  have tO := typeOfT
  have mA := methodAssignableTo
  have a25 := assignableT
  have v25 := valueOfT
  have f6 := valueOfP
  have f7 := typeP
  have mK := methodKind
  have mE := methodElem
  have mI := methodImplements
  have k27 := kindP
  have k25 := kindT
  have e27 := elemP
  have i25 := implementsT
  have htl := ht.lt
  have hgl := World.block_lt_of_cell? w _ hg
  have b1 := Blk.new w #[.pointer (some ⟨tb, 0, none⟩)] PT
  have b2 := b1.alloc (.cells #[H PT, .pointer (some ⟨w.heap.size, 0, none⟩), .int .u64 150] VT)
  have b3 := b2.alloc (.cells #[H PT, .pointer (some ⟨w.heap.size, 0, none⟩), .int .u64 150] VT)
  have n8 := isNilP ⟨w.heap.size, 0, none⟩ ⟨tb, 0, none⟩ _ ((b2.cell 0).trans rfl)
  have hB2 := ((Below.refl w.heap.size w).alloc (Nat.le_refl _) (.cells #[.pointer (some ⟨tb, 0, none⟩)] PT)).alloc (by simp) (.cells #[H PT, .pointer (some ⟨w.heap.size, 0, none⟩), .int .u64 150] VT)
  have hB3 := hB2.alloc (by simp; omega) (.cells #[H PT, .pointer (some ⟨w.heap.size, 0, none⟩), .int .u64 150] VT)
  have hg2 := (hB2.cell (p := ⟨0, 0, none⟩) hgl).trans hg
  have el := elemVP ⟨w.heap.size, 0, none⟩ ⟨tb, 0, none⟩ _ ((b3.cell 0).trans rfl)
  have ht4 := (ht.below hB3 htl).alloc (.cells #[.int .i64 x] T)
  have st := setT ⟨tb, 0, none⟩ ⟨w.heap.size + 1 + 1 + 1, 0, none⟩ x old ((W3 w tb).alloc (.cells #[.int .i64 x] T))
    (by have := (Blk.new (W3 w tb) #[.int .i64 x] T).cell 0; rw [show (W3 w tb).heap.size = w.heap.size + 1 + 1 + 1 by simp] at this; exact this.trans rfl) ((ht4.cell 0).trans rfl) (ht4.frozen 0)
  clear b1 b2 b3 hB2 hB3 ht4 ht hg htl
  go_enter Tryz.func38, Tryz.ntmps38
  go_wp2
  refine wp_loop_rounds 1 ?_
  rw [rounds_succ]
  go_wp2
  go_ret
  exact ⟨rfl, rfl⟩
end Go.Proofs.YtmmdpjliknmhgaaGreatDoor.LabAs
/- Walks of layer 5: a label read from a text. -/
namespace Go.Proofs.YtmmdpjliknmhgaaGreatDoor
open Go.RowKit Go.Shelf
attribute [local go_sem] Oper.semAt_some
theorem lift_cases {α : Type} {d : α} {f : List UInt8 → PR α} {r r' : List UInt8} {b b' : Bool} {x : α} (h : lift d f (r, b) = (x, (r', b'))) :
    (b = true ∧ b' = true ∧ r' = r) ∨ (b = false ∧ b' = true ∧ f r = (none, r')) ∨ (b = false ∧ b' = false ∧ f r = (some x, r')) := by
  cases b with
  | true => cases h; exact .inl ⟨rfl, rfl, rfl⟩
  | false =>
    rw [lift_false] at h
    rcases hf : f r with ⟨_ | y, q⟩ <;> rw [hf] at h <;> cases h
    · exact .inr (.inl ⟨rfl, rfl, rfl⟩)
    · exact .inr (.inr ⟨rfl, rfl, rfl⟩)
theorem pand_no {α β : Type} {f : List UInt8 → PR α} {g : α → List UInt8 → PR β} {r r' : List UInt8} (h : f r = (none, r')) : pand f g r = (none, r') := by rw [pand, h]
theorem pand_yes {α β : Type} {f : List UInt8 → PR α} {g : α → List UInt8 → PR β} {r r' : List UInt8} {x : α} (h : f r = (some x, r')) : pand f g r = g x r' := by rw [pand, h]
theorem parse_seq {s r1 r2 r3 r4 r5 : List UInt8} {b1 b2 b3 b4 b5 : Bool} {u1 u4 : Unit} {lv ig : Int} {S : Nat} (h1 : lift () (pmust 76) (s, false) = (u1, (r1, b1))) (h2 : lift 0 (pnum 0 15) (r1, b1) = (lv, (r2, b2)))
    (h3 : lift 0 pset (r2, b2) = (S, (r3, b3))) (h4 : lift () (pmust 73) (r3, b3) = (u4, (r4, b4))) (h5 : lift 0 (pnum 0 7) (r4, b4) = (ig, (r5, b5))) :
    (b5 = true → ptext s = (none, r5)) ∧ (b5 = false → b3 = false ∧ (r5 = [] → ptext s = (some (lv, S, ig), [])) ∧ (r5 ≠ [] → ptext s = (none, r5))) := by
  have fin : ∀ q, plab s = (none, q) → ptext s = (none, q) := fun q h => pand_no h
  rcases lift_cases h1 with ⟨h, -⟩ | ⟨-, rfl, e1⟩ | ⟨-, rfl, e1⟩
  · cases h
  · obtain ⟨rfl, rfl⟩ : r2 = r1 ∧ b2 = true := by rcases lift_cases h2 with ⟨-, a, b⟩ | ⟨a, -⟩ | ⟨a, -⟩ <;> first | exact ⟨b, a⟩ | cases a
    obtain ⟨rfl, rfl⟩ : r3 = r2 ∧ b3 = true := by rcases lift_cases h3 with ⟨-, a, b⟩ | ⟨a, -⟩ | ⟨a, -⟩ <;> first | exact ⟨b, a⟩ | cases a
    obtain ⟨rfl, rfl⟩ : r4 = r3 ∧ b4 = true := by rcases lift_cases h4 with ⟨-, a, b⟩ | ⟨a, -⟩ | ⟨a, -⟩ <;> first | exact ⟨b, a⟩ | cases a
    obtain ⟨rfl, rfl⟩ : r5 = r4 ∧ b5 = true := by rcases lift_cases h5 with ⟨-, a, b⟩ | ⟨a, -⟩ | ⟨a, -⟩ <;> first | exact ⟨b, a⟩ | cases a
    exact ⟨fun _ => fin _ (pand_no e1), fun h => by cases h⟩
  rcases lift_cases h2 with ⟨h, -⟩ | ⟨-, rfl, e2⟩ | ⟨-, rfl, e2⟩
  · cases h
  · obtain ⟨rfl, rfl⟩ : r3 = r2 ∧ b3 = true := by rcases lift_cases h3 with ⟨-, a, b⟩ | ⟨a, -⟩ | ⟨a, -⟩ <;> first | exact ⟨b, a⟩ | cases a
    obtain ⟨rfl, rfl⟩ : r4 = r3 ∧ b4 = true := by rcases lift_cases h4 with ⟨-, a, b⟩ | ⟨a, -⟩ | ⟨a, -⟩ <;> first | exact ⟨b, a⟩ | cases a
    obtain ⟨rfl, rfl⟩ : r5 = r4 ∧ b5 = true := by rcases lift_cases h5 with ⟨-, a, b⟩ | ⟨a, -⟩ | ⟨a, -⟩ <;> first | exact ⟨b, a⟩ | cases a
    exact ⟨fun _ => fin _ ((pand_yes e1).trans (pand_no e2)), fun h => by cases h⟩
  rcases lift_cases h3 with ⟨h, -⟩ | ⟨-, rfl, e3⟩ | ⟨-, rfl, e3⟩
  · cases h
  · obtain ⟨rfl, rfl⟩ : r4 = r3 ∧ b4 = true := by rcases lift_cases h4 with ⟨-, a, b⟩ | ⟨a, -⟩ | ⟨a, -⟩ <;> first | exact ⟨b, a⟩ | cases a
    obtain ⟨rfl, rfl⟩ : r5 = r4 ∧ b5 = true := by rcases lift_cases h5 with ⟨-, a, b⟩ | ⟨a, -⟩ | ⟨a, -⟩ <;> first | exact ⟨b, a⟩ | cases a
    exact ⟨fun _ => fin _ ((pand_yes e1).trans ((pand_yes e2).trans (pand_no e3))), fun h => by cases h⟩
  rcases lift_cases h4 with ⟨h, -⟩ | ⟨-, rfl, e4⟩ | ⟨-, rfl, e4⟩
  · cases h
  · obtain ⟨rfl, rfl⟩ : r5 = r4 ∧ b5 = true := by rcases lift_cases h5 with ⟨-, a, b⟩ | ⟨a, -⟩ | ⟨a, -⟩ <;> first | exact ⟨b, a⟩ | cases a
    exact ⟨fun _ => fin _ ((pand_yes e1).trans ((pand_yes e2).trans ((pand_yes e3).trans (pand_no e4)))), fun h => by cases h⟩
  rcases lift_cases h5 with ⟨h, -⟩ | ⟨-, rfl, e5⟩ | ⟨-, rfl, e5⟩
  · cases h
  · exact ⟨fun _ => fin _ ((pand_yes e1).trans ((pand_yes e2).trans ((pand_yes e3).trans ((pand_yes e4).trans (pand_no e5))))), fun h => by cases h⟩
  · have hl : plab s = (some (lv, S, ig), r5) := (pand_yes e1).trans ((pand_yes e2).trans ((pand_yes e3).trans ((pand_yes e4).trans (pand_yes e5))))
    refine ⟨(fun h => by cases h), fun _ => ⟨rfl, fun h => ?_, fun h => ?_⟩⟩
    · subst h; exact (pand_yes hl).trans rfl
    · refine (pand_yes hl).trans ?_
      cases r5 with
      | nil => exact absurd rfl h
      | cons c q => rfl
/-- errors.errorType, as it is laid -/
abbrev ErrT (w : World) : Prop := w.cell? ⟨0, 0, none⟩ = some (.iface LabAs.RT (.agg #[LabAs.H 50]))
set_option maxRecDepth 100000 in
theorem told_any (x : Int) (w : World) (hg : ErrT w) :
    Calls Tryz.prog 100 #[.iface 194 (.agg #[.int .i64 x])] w fun e w' => e = .returned (.tuple #[.int .i64 x, .int .i64 50]) ∧ Below w.heap.size w w' := by
  have b0 := Blk.new w #[.int .i64 0] 194
  have hB0 := (Below.refl w.heap.size w).alloc (Nat.le_refl _) (.cells #[.int .i64 0] 194)
  have hgl := World.block_lt_of_cell? w _ hg
  have HA := Lib.hid (LabAs.as_hit x w.heap.size _ _ ((hB0.cell (p := ⟨0, 0, none⟩) hgl).trans hg) b0)
  clear hg
  go_enter Tryz.func100, Tryz.ntmps100
  go_wp2_with fail
  refine HA.out.mono ?_
  rintro e w1 ⟨rfl, hw1⟩
  have hB1 : Below w.heap.size w w1 := by
    rw [hw1]
    exact ((((hB0.alloc (by simp) _).alloc (by simp; omega) _).alloc (by simp; omega) _).alloc (by simp; omega) _).setCell (p := ⟨w.heap.size, 0, none⟩) (Nat.le_refl _) _
  have hc : w1.cell? ⟨w.heap.size, 0, none⟩ = some (.int .i64 x) := by
    have b4 := (((b0.alloc (.cells #[.pointer (some ⟨w.heap.size, 0, none⟩)] LabAs.PT)).alloc (.cells #[LabAs.H LabAs.PT, .pointer (some ⟨w.heap.size + 1, 0, none⟩), .int .u64 150] LabAs.VT)).alloc (.cells #[LabAs.H LabAs.PT, .pointer (some ⟨w.heap.size + 1, 0, none⟩), .int .u64 150] LabAs.VT)).alloc (.cells #[.int .i64 x] LabAs.T)
    have := (b4.set 0 (.int .i64 x)).cell 0
    rw [hw1]
    simpa [LabAs.W3, LabAs.W1] using this
  clear hw1 HA
  go_wp2_with fail
  go_ret2
  exact ⟨rfl, hB1⟩
theorem below_own {n b : Nat} {w A B : World} (h : Below n w A) (hg : A.grownBy B (some b)) (hb : n ≤ b) (hn : n ≤ w.heap.size := by omega) : Below n w B :=
  h.grown hg (Nat.le_trans hn h.size) (fun k hk => by cases hk; exact hb)
def parE (s : List UInt8) : Int := match (ptext s).1 with | none => 50 | some _ => 0
def parAt (s : List UInt8) : Int := match (ptext s).1 with | none => (s.length : Int) - (ptext s).2.length | some _ => 0
def parL (s : List UInt8) : Int × Nat × Int := match (ptext s).1 with | none => (0, 0, 0) | some a => a
abbrev labA (a : Int × Nat × Int) : Value := labV a.1 a.2.1 a.2.2
set_option maxRecDepth 100000 in
set_option maxHeartbeats 4000000 in
theorem parse_any (s : List UInt8) (hl : s.length ≤ 1000000) (w : World) (hg : ErrT w) :
    Calls Tryz.prog 76 #[.string ⟨s.toArray⟩] w fun e w' => e = .returned (.tuple #[labA (parL s), .int .i64 (parAt s), .int .i64 (parE s)]) ∧ Below w.heap.size w w' := by
  have hgl := World.block_lt_of_cell? w _ hg
  have z0 := ((Blk.new w #[.int .i64 0, .int .u64 0, .int .i64 0] 36).alloc (.cells #[.string ⟨s.toArray⟩, .int .i64 s.length, .nilIface] 176)).alloc (.cells #[.int .i64 0, .int .u64 0, .int .i64 0] 36)
  have r0 : RdL (((w.alloc (.cells #[.int .i64 0, .int .u64 0, .int .i64 0] 36)).alloc (.cells #[.string ⟨s.toArray⟩, .int .i64 s.length, .nilIface] 176)).alloc (.cells #[.int .i64 0, .int .u64 0, .int .i64 0] 36)) (w.heap.size + 1) s.length (s, false) := by
    have := (Blk.new (w.alloc (.cells #[.int .i64 0, .int .u64 0, .int .i64 0] 36)) #[.string ⟨s.toArray⟩, .int .i64 s.length, .nilIface] 176).alloc (.cells #[.int .i64 0, .int .u64 0, .int .i64 0] 36)
    rwa [World.size_alloc] at this
  have a0 : Blk (((w.alloc (.cells #[.int .i64 0, .int .u64 0, .int .i64 0] 36)).alloc (.cells #[.string ⟨s.toArray⟩, .int .i64 s.length, .nilIface] 176)).alloc (.cells #[.int .i64 0, .int .u64 0, .int .i64 0] 36)) (w.heap.size + 1 + 1) #[.int .i64 0, .int .u64 0, .int .i64 0] 36 := by
    have := Blk.new ((w.alloc (.cells #[.int .i64 0, .int .u64 0, .int .i64 0] 36)).alloc (.cells #[.string ⟨s.toArray⟩, .int .i64 s.length, .nilIface] 176)) #[.int .i64 0, .int .u64 0, .int .i64 0] 36
    rwa [World.size_alloc, World.size_alloc] at this
  have hB0 := (((Below.refl w.heap.size w).alloc (Nat.le_refl _) (.cells #[.int .i64 0, .int .u64 0, .int .i64 0] 36)).alloc (by simp) (.cells #[.string ⟨s.toArray⟩, .int .i64 s.length, .nilIface] 176)).alloc (by simp; omega) (.cells #[.int .i64 0, .int .u64 0, .int .i64 0] 36)
  have hm1 := Lib.hid (must_any 76 (w.heap.size + 1) s.length s false _ r0 (Nat.le_refl _) hl)
  clear r0
  go_enter Tryz.func76, Tryz.ntmps76
  go_wp2_with fail
  refine hm1.out.mono ?_
  rintro e w1 ⟨rfl, hr1, hg1⟩
  rcases hs1 : lift () (pmust 76) (s, false) with ⟨u1, r1, b1⟩
  have hl1 := lift_len (Str.must 76) () s false
  rw [hs1] at hr1 hl1
  simp only at hr1 hl1
  have hB1 := below_own hB0 hg1 (by omega)
  have a1 := a0.kept hg1 (by simp)
  have z1 := z0.kept hg1 (by simp)
  have HS1 := Lib.hid hs1
  have hm2 := Lib.hid (number_i 0 15 (by omega) (by omega) (by omega) (w.heap.size + 1) s.length r1 b1 _ hr1 (by omega) hl)
  clear hm1 hs1 hr1 hg1 a0 z0 hB0
  go_wp2_with fail
  refine hm2.out.mono ?_
  rintro e w2 ⟨rfl, hr2, hg2⟩
  rcases hs2 : lift 0 (pnum 0 15) (r1, b1) with ⟨lv, r2, b2⟩
  have hl2 := lift_len (Str.num 0 15) (0 : Int) r1 b1
  rw [hs2] at hr2 hl2
  simp only at hr2 hl2
  have hB2 := below_own hB1 hg2 (by omega)
  have a2 := a1.kept hg2 (by simp)
  have z2 := z1.kept hg2 (by simp)
  have HS2 := Lib.hid hs2
  have a2s := a2.set 0 (.int .i64 lv)
  simp at a2s
  have z2s := Blk.other 0 (.int .i64 lv) z2 (show w.heap.size ≠ w.heap.size + 1 + 1 by omega)
  have hr2s := Blk.other 0 (.int .i64 lv) hr2 (show w.heap.size + 1 ≠ w.heap.size + 1 + 1 by omega)
  have hB2s := hB2.setCell (p := ⟨w.heap.size + 1 + 1, 0, none⟩) (by simp; omega) (.int .i64 lv)
  have c20 := a2.cell 0
  have f20 := a2.frozen 0
  simp at c20
  have hm3 := Lib.hid (set_any (w.heap.size + 1) s.length r2 b2 _ hr2s (by omega) hl)
  clear hm2 hs2 hr2 hg2 a1 a2 z1 z2 hB1 hB2 hr2s
  go_wp2_with fail
  refine hm3.out.mono ?_
  rintro e w3 ⟨v, hv, rfl, hr3, hres, hg3⟩
  rcases hs3 : lift 0 pset (r2, b2) with ⟨S, r3, b3⟩
  have hl3 := lift_len Str.set 0 r2 b2
  rw [hs3] at hr3 hl3 hres
  simp only at hr3 hl3 hres
  have HRes := Lib.hid hres
  have hB3 := below_own hB2s hg3 (by omega)
  have a3 := a2s.kept hg3 (by simp)
  have z3 := z2s.kept hg3 (by simp)
  have HS3 := Lib.hid hs3
  have a3s := a3.set 1 (.int .u64 v)
  simp at a3s
  have z3s := Blk.other 1 (.int .u64 v) z3 (show w.heap.size ≠ w.heap.size + 1 + 1 by omega)
  have hr3s := Blk.other 1 (.int .u64 v) hr3 (show w.heap.size + 1 ≠ w.heap.size + 1 + 1 by omega)
  have hB3s := hB3.setCell (p := ⟨w.heap.size + 1 + 1, 1, none⟩) (by simp; omega) (.int .u64 v)
  have c31 := a3.cell 1
  have f31 := a3.frozen 1
  simp at c31
  have hm4 := Lib.hid (must_any 73 (w.heap.size + 1) s.length r3 b3 _ hr3s (by omega) hl)
  clear hm3 hs3 hr3 hg3 a2s a3 z2s z3 hB2s hB3 hr3s c20 f20 hres
  go_wp2_with fail
  refine hm4.out.mono ?_
  rintro e w4 ⟨rfl, hr4, hg4⟩
  rcases hs4 : lift () (pmust 73) (r3, b3) with ⟨u4, r4, b4⟩
  have hl4 := lift_len (Str.must 73) () r3 b3
  rw [hs4] at hr4 hl4
  simp only at hr4 hl4
  have hB4 := below_own hB3s hg4 (by omega)
  have a4 := a3s.kept hg4 (by simp)
  have z4 := z3s.kept hg4 (by simp)
  have HS4 := Lib.hid hs4
  have hm5 := Lib.hid (number_i 0 7 (by omega) (by omega) (by omega) (w.heap.size + 1) s.length r4 b4 _ hr4 (by omega) hl)
  clear hm4 hs4 hr4 hg4 a3s z3s hB3s c31 f31
  go_wp2_with fail
  refine hm5.out.mono ?_
  rintro e w5 ⟨rfl, hr5, hg5⟩
  rcases hs5 : lift 0 (pnum 0 7) (r4, b4) with ⟨ig, r5, b5⟩
  have hl5 := lift_len (Str.num 0 7) (0 : Int) r4 b4
  rw [hs5] at hr5 hl5
  simp only at hr5 hl5
  have hB5 := below_own hB4 hg5 (by omega)
  have a5 := a4.kept hg5 (by simp)
  have z5 := z4.kept hg5 (by simp)
  have a5s := a5.set 2 (.int .i64 ig)
  simp at a5s
  have z5s := Blk.other 2 (.int .i64 ig) z5 (show w.heap.size ≠ w.heap.size + 1 + 1 by omega)
  have hr5s := Blk.other 2 (.int .i64 ig) hr5 (show w.heap.size + 1 ≠ w.heap.size + 1 + 1 by omega)
  have hB5s := hB5.setCell (p := ⟨w.heap.size + 1 + 1, 2, none⟩) (by simp; omega) (.int .i64 ig)
  have c52 := a5.cell 2
  have f52 := a5.frozen 2
  simp at c52
  obtain ⟨q1, q2⟩ := parse_seq HS1.out HS2.out HS3.out HS4.out hs5
  have Q1 := Lib.hid q1
  have Q2 := Lib.hid q2
  have hg6 := (hB5s.cell (p := ⟨0, 0, none⟩) hgl).trans hg
  have hI : Tryz.prog.isIface 50 = true := by kernel_rfl
  have hr5t : RdL (w5.setCell ⟨w.heap.size + 1 + 1, 2, none⟩ (.int .i64 ig)) (w.heap.size + 1) s.length (r5, b5) := hr5s
  obtain ⟨h50, h51, h52⟩ := hr5t.cells
  simp only at h50 h51 h52
  have a50 := a5s.cell 0
  have a51 := a5s.cell 1
  have a52 := a5s.cell 2
  simp at a50 a51 a52
  have HR5 := Lib.hid hr5t
  clear hm5 hs5 hr5 hg5 a4 z4 z5 hB4 a5 a5s hB5 hr5s hr5t q1 q2
  have hle5 : r5.length ≤ s.length := by omega
  have hbad : Hid ((b5 = true ∨ r5 ≠ []) → parL s = (0, 0, 0) ∧ parAt s = (s.length : Int) - r5.length ∧ parE s = 50) := by
    intro h
    have hp : ptext s = (none, r5) := by
      cases b5 with
      | true => exact Q1.out rfl
      | false => exact (Q2.out rfl).2.2 (h.resolve_left (by simp))
    unfold parL parAt parE; rw [hp]; exact ⟨rfl, rfl, rfl⟩
  have hgood : Hid (b5 = false → r5 = [] → v = S ∧ parL s = (lv, S, ig) ∧ parAt s = 0 ∧ parE s = 0) := by
    intro h h2
    obtain ⟨k1, k2, -⟩ := Q2.out h
    have hp := k2 h2
    refine ⟨HRes.out k1, ?_⟩
    unfold parL parAt parE; rw [hp]; exact ⟨rfl, rfl, rfl⟩
  clear Q1 Q2 HRes
  have HZ5 := Lib.hid z5s
  clear z5s
  cases r5 with
  | nil =>
    cases b5 with
    | true =>
      simp [errL] at h52
      have ht := Lib.hid (told_any (s.length : Int) _ hg6)
      obtain ⟨e1, e2, e3⟩ := hbad.out (.inl rfl)
      have E1 := Lib.hid e1
      have E2 := Lib.hid e2
      have E3 := Lib.hid e3
      clear e1 e2 e3 a50 a51 a52
      go_wp2_with fail
      refine ht.out.mono ?_
      rintro e w7 ⟨rfl, hb7⟩
      have z7 := Blk.below HZ5.out hb7 (Blk.lt HZ5.out)
      have hB7 := Below.trans hB5s (hb7.mono (Below.size hB5s))
      have y0 := z7.cell 0
      have y1 := z7.cell 1
      have y2 := z7.cell 2
      have g0 := z7.frozen 0
      have g1 := z7.frozen 1
      have g2 := z7.frozen 2
      simp at y0 y1 y2
      go_wp2_with fail
      have zf := ((Blk.set 0 (.int .i64 0) z7).set 1 (.int .u64 0)).set 2 (.int .i64 0)
      have q0 := zf.cell 0
      have q1 := zf.cell 1
      have q2 := zf.cell 2
      simp at q0 q1 q2
      exact bodyPost_ret (v := .tuple #[.agg #[.int .i64 0, .int .u64 0, .int .i64 0], .int .i64 s.length, .int .i64 50]) (by simp [results, Tryz.results76, go_sem, q0, q1, q2]) rfl ⟨by rw [E1.out, E2.out, E3.out]; simp, ((hB7.setCell (p := ⟨w.heap.size, 0, none⟩) (Nat.le_refl _) _).setCell (p := ⟨w.heap.size, 1, none⟩) (Nat.le_refl _) _).setCell (p := ⟨w.heap.size, 2, none⟩) (Nat.le_refl _) _⟩
    | false =>
      obtain ⟨rfl, e1, e2, e3⟩ := hgood.out rfl rfl
      have E1 := Lib.hid e1
      have E2 := Lib.hid e2
      have E3 := Lib.hid e3
      clear e1 e2 e3
      simp [errL] at h52
      have z7 := HZ5.out
      have y0 := z7.cell 0
      have y1 := z7.cell 1
      have y2 := z7.cell 2
      have g0 := z7.frozen 0
      have g1 := z7.frozen 1
      have g2 := z7.frozen 2
      simp at y0 y1 y2
      go_wp2_with fail
      have zf := ((Blk.set 0 (.int .i64 lv) z7).set 1 (.int .u64 v)).set 2 (.int .i64 ig)
      have q0 := zf.cell 0
      have q1 := zf.cell 1
      have q2 := zf.cell 2
      simp at q0 q1 q2
      exact bodyPost_ret (v := .tuple #[.agg #[.int .i64 lv, .int .u64 v, .int .i64 ig], .int .i64 0, .int .i64 0]) (by simp [results, Tryz.results76, go_sem, q0, q1, q2]) rfl ⟨by rw [E1.out, E2.out, E3.out], ((hB5s.setCell (p := ⟨w.heap.size, 0, none⟩) (Nat.le_refl _) _).setCell (p := ⟨w.heap.size, 1, none⟩) (Nat.le_refl _) _).setCell (p := ⟨w.heap.size, 2, none⟩) (Nat.le_refl _) _⟩
  | cons d r5 =>
    have hF := Lib.hid (fail_any (w.heap.size + 1) s.length (d :: r5) b5 _ HR5.out hle5 hl)
    go_wp2_with fail
    refine hF.out.mono ?_
    rintro e w6 ⟨rfl, hr6, hgf⟩
    have HR6 := Lib.hid hr6
    have hB6 := below_own hB5s hgf (by omega)
    have hge6 := (hB6.cell (p := ⟨0, 0, none⟩) hgl).trans hg
    have z6 := HZ5.out.kept hgf (by simp)
    have HZ6 := Lib.hid z6
    clear hF hr6 z6 hgf hB5s hg6 h50 h51 h52
    have hc := HR6.out.cells.2.2
    simp only [errL, if_true] at hc
    have ht := Lib.hid (told_any ((s.length : Int) - (d :: r5).length) _ hge6)
    obtain ⟨e1, e2, e3⟩ := hbad.out (.inr (by simp))
    have E1 := Lib.hid e1
    have E2 := Lib.hid e2
    have E3 := Lib.hid e3
    clear e1 e2 e3 a50 a51 a52
    go_wp2_with fail
    refine ht.out.mono ?_
    rintro e w7 ⟨rfl, hb7⟩
    have z7 := Blk.below HZ6.out hb7 (Blk.lt HZ6.out)
    have hB7 := Below.trans hB6 (hb7.mono (Below.size hB6))
    have y0 := z7.cell 0
    have y1 := z7.cell 1
    have y2 := z7.cell 2
    have g0 := z7.frozen 0
    have g1 := z7.frozen 1
    have g2 := z7.frozen 2
    simp at y0 y1 y2
    go_wp2_with fail
    have zf := ((Blk.set 0 (.int .i64 0) z7).set 1 (.int .u64 0)).set 2 (.int .i64 0)
    have q0 := zf.cell 0
    have q1 := zf.cell 1
    have q2 := zf.cell 2
    simp at q0 q1 q2
    exact bodyPost_ret (v := .tuple #[.agg #[.int .i64 0, .int .u64 0, .int .i64 0], .int .i64 ((s.length : Int) - (d :: r5).length), .int .i64 50]) (by simp [results, Tryz.results76, go_sem, q0, q1, q2]) rfl ⟨by rw [E1.out, E2.out, E3.out]; rfl, ((hB7.setCell (p := ⟨w.heap.size, 0, none⟩) (Nat.le_refl _) _).setCell (p := ⟨w.heap.size, 1, none⟩) (Nat.le_refl _) _).setCell (p := ⟨w.heap.size, 2, none⟩) (Nat.le_refl _) _⟩
end Go.Proofs.YtmmdpjliknmhgaaGreatDoor
/- Rules' lines at the program's labels and filters. -/
namespace Go.Proofs.YtmmdpjliknmhgaaGreatDoor
theorem lab_back (lv ig : Int) (S : Nat) (hS : S < 18446744073709551616) (h : labB lv ig = true) : parL (labT lv S ig) = (lv, S, ig) := by
  obtain ⟨h1, h2, h3, h4⟩ := (labB_iff lv ig).1 h
  have := ptext_text lv ig S h1 h2 h3 h4 hS
  unfold parL
  rw [this]
def labK : WordK LaT where
  ok a := labB a.1 a.2.2 && decide (a.2.1 < 18446744073709551616)
  text a := labT a.1 a.2.1 a.2.2
  val s := parL s
  back a h := by
    simp only [Bool.and_eq_true, decide_eq_true_eq] at h
    exact lab_back _ _ _ h.2 h.1
def filK : WordK FiT where
  ok f := rightB f.1 f.2.1 f.2.2
  text f := fprintL f.1 f.2.1 f.2.2
  val l := (parK l, parM l, parF l)
  back f h := by
    obtain ⟨h1, h2, h3, -⟩ := fback_there f.1 f.2.1 f.2.2 h
    have e : printA f.1 f.2.1 f.2.2 = fprintL f.1 f.2.1 f.2.2 := by unfold printA; rw [if_pos h]
    rw [e] at h1 h2 h3
    rw [h1, h2, h3]
theorem labK_plain (a : LaT) (h : labK.ok a = true) : 32 ∉ labK.text a ∧ 10 ∉ labK.text a := by
  simp only [labK, Bool.and_eq_true] at h
  obtain ⟨h1, h2, h3, h4⟩ := (labB_iff a.1 a.2.2).1 h.1
  exact labT_plain _ _ _ h1 h3
theorem filK_plain (f : FiT) (h : filK.ok f = true) : 10 ∉ filK.text f := by
  obtain ⟨k, m, form⟩ := f
  have hr : rightB k m form = true := h
  have hf := right_facts hr
  have hw : 10 ∉ wordOf k := by rcases wordOf_in k with h | h | h <;> rw [h] <;> decide
  have hd := (dig_no m hf.1).2
  have hform : k ≠ 1 → 10 ∉ form := by
    intro hk
    rcases hf.2.2.2 with rfl | rfl | rfl
    · exact absurd rfl hk
    · have : clsB form = true := by unfold rightB at hr; simp at hr; exact hr.2
      unfold clsB at this
      simp only [Bool.and_eq_true] at this
      exact cls_plain form this.2
    · have : recOk form = true := by unfold rightB at hr; simp at hr; exact hr.2
      unfold recOk at this
      simp only [Bool.and_eq_true] at this
      exact spr_plain form.length form (Nat.le_refl _) this.2
  show 10 ∉ fprintL k m form
  unfold fprintL
  by_cases hk : k = 1
  · rw [if_pos hk]
    simp only [List.append_nil, List.mem_append, List.mem_cons, not_or]
    exact ⟨hw, by decide, hd⟩
  · rw [if_neg hk]
    simp only [List.mem_append, List.mem_cons, not_or]
    exact ⟨⟨hw, by decide, hd⟩, by decide, hform hk⟩
/-- the program's lines -/
def ruL : LineS RuT := mkLine labK filK labK_plain filK_plain 1000 (by omega)
end Go.Proofs.YtmmdpjliknmhgaaGreatDoor
/- Walks of layer 14: isRule. -/
namespace Go.Proofs.YtmmdpjliknmhgaaGreatDoor
open Go.RowKit Go.Shelf
attribute [local go_sem] Oper.semAt_some
/-- two labels: the same, or the first cell that is not -/
theorem la_cases (l1 : Int) (S1 : Nat) (i1 l2 : Int) (S2 : Nat) (i2 : Int) : (((l1, S1, i1) : LaT) = (l2, S2, i2) ∧ l1 = l2 ∧ S1 = S2 ∧ i1 = i2) ∨ (((l1, S1, i1) : LaT) ≠ (l2, S2, i2) ∧
    ((l1 == l2) = false ∨ ((l1 == l2) = true ∧ ((S1 : Int) == (S2 : Int)) = false) ∨ ((l1 == l2) = true ∧ ((S1 : Int) == (S2 : Int)) = true ∧ (i1 == i2) = false))) := by
  by_cases h1 : l1 = l2
  · by_cases h2 : S1 = S2
    · by_cases h3 : i1 = i2
      · left; subst h1 h2 h3; exact ⟨rfl, rfl, rfl, rfl⟩
      · right; exact ⟨fun e => h3 (by injection e with _ e; injection e), .inr (.inr ⟨by simpa using h1, by rw [beq_iff_eq]; omega, by simpa using h3⟩)⟩
    · right; exact ⟨fun e => h2 (by injection e with _ e; injection e), .inr (.inl ⟨by simpa using h1, by rw [beq_eq_false_iff_ne]; omega⟩)⟩
  · right; exact ⟨fun e => h1 (by injection e), .inl (by simpa using h1)⟩
set_option maxRecDepth 100000 in
set_option maxHeartbeats 8000000 in
theorem isRule_any (r : RuT) (hr : OkR r) (ea : Addr) (w : World) (hge : w.cell? ⟨1, 0, none⟩ = some (eV ea)) :
    Calls Tryz.prog 53 #[ruV r] w fun e w' => e = .returned (.bool (isRX labK filK r)) ∧ Below w.heap.size w w' := by
  obtain ⟨id, ⟨l1, S1, i1⟩, ⟨l2, S2, i2⟩, bu, ⟨k, m, form⟩⟩ := r
  obtain ⟨hS1, hS2, hfm⟩ := hr
  dsimp only at hS1 hS2 hfm
  have H1 := fun W => labRight_any l1 i1 S1 W
  have H2 := fun W => labRight_any l2 i2 S2 W
  have H3 := fun W (h : KeepC w W) => right_any k m form (Nat.le_trans hfm (by unfold maxLen; omega)) ea W (h.2 _ _ _ hge)
  have hR : Hid (isRX labK filK ⟨id, (l1, S1, i1), (l2, S2, i2), bu, (k, m, form)⟩ = (decide (1 ≤ id) && decide (id ≤ 99) && labB l1 i1 && labB l2 i2 && !decide (((l1, S1, i1) : LaT) = (l2, S2, i2)) && decide (0 ≤ bu) && decide (bu ≤ 1000) && rightB k m form)) := by
    show _ = _
    unfold isRX
    simp only [labK, filK, decide_eq_true hS1, decide_eq_true hS2, Bool.and_true]
  generalize isRX labK filK ⟨id, (l1, S1, i1), (l2, S2, i2), bu, (k, m, form)⟩ = R at *
  generalize labB l1 i1 = x at *
  generalize labB l2 i2 = y at *
  generalize rightB k m form = z at *
  have B0 := (Below.refl _ w).alloc (Nat.le_refl _) (.cells #[.int .i64 id, .int .i64 l1, .int .u64 S1, .int .i64 i1, .int .i64 l2, .int .u64 S2, .int .i64 i2, .int .i64 bu, .int .i64 k, .int .i64 m, .string ⟨form.toArray⟩] 40)
  have n0 := Blk.new w #[.int .i64 id, .int .i64 l1, .int .u64 S1, .int .i64 i1, .int .i64 l2, .int .u64 S2, .int .i64 i2, .int .i64 bu, .int .i64 k, .int .i64 m, .string ⟨form.toArray⟩] 40
  obtain ⟨W0, hW0⟩ : ∃ W0, w.alloc (.cells #[.int .i64 id, .int .i64 l1, .int .u64 S1, .int .i64 i1, .int .i64 l2, .int .u64 S2, .int .i64 i2, .int .i64 bu, .int .i64 k, .int .i64 m, .string ⟨form.toArray⟩] 40) = W0 := ⟨_, rfl⟩
  rw [hW0] at B0 n0
  have SK : Hid (∀ W, Below W0.heap.size W0 W → W.cell? ⟨w.heap.size, 0, none⟩ = some (.int .i64 id) ∧ (W.cell? ⟨w.heap.size, 1, none⟩ = some (.int .i64 l1) ∧ W.cell? ⟨w.heap.size, 2, none⟩ = some (.int .u64 S1) ∧ W.cell? ⟨w.heap.size, 3, none⟩ = some (.int .i64 i1)) ∧ (W.cell? ⟨w.heap.size, 4, none⟩ = some (.int .i64 l2) ∧ W.cell? ⟨w.heap.size, 5, none⟩ = some (.int .u64 S2) ∧ W.cell? ⟨w.heap.size, 6, none⟩ = some (.int .i64 i2)) ∧ W.cell? ⟨w.heap.size, 7, none⟩ = some (.int .i64 bu) ∧
      (W.cell? ⟨w.heap.size, 8, none⟩ = some (.int .i64 k) ∧ W.cell? ⟨w.heap.size, 9, none⟩ = some (.int .i64 m) ∧ W.cell? ⟨w.heap.size, 10, none⟩ = some (.string ⟨form.toArray⟩))) := by
    show ∀ W, _
    intro W h
    have q := n0.below h n0.lt
    exact ⟨(q.cell 0).trans rfl, ⟨(q.cell 1).trans rfl, (q.cell 2).trans rfl, (q.cell 3).trans rfl⟩, ⟨(q.cell 4).trans rfl, (q.cell 5).trans rfl, (q.cell 6).trans rfl⟩, (q.cell 7).trans rfl, (q.cell 8).trans rfl, (q.cell 9).trans rfl, (q.cell 10).trans rfl⟩
  obtain ⟨c0, ⟨c1, c2, c3⟩, ⟨c4, c5, c6⟩, c7, c8, c9, c10⟩ := SK.out W0 (Below.refl _ _)
  clear n0 hge hfm hS1 hS2
  go_enter Tryz.func53, Tryz.ntmps53
  try simp only [List.append_eq, List.cons_append, List.nil_append]
  by_cases a1 : 1 ≤ id
  rotate_left 1
  · have hF : R = false := by rw [hR.out]; simp [a1]
    subst hF
    clear hR H1 H2 H3 SK
    go_wp2_with fail
    go_ret
    exact ⟨rfl, B0⟩
  by_cases a2 : id ≤ 99
  rotate_left 1
  · have hF : R = false := by rw [hR.out]; simp [a2]
    subst hF
    clear hR H1 H2 H3 SK
    go_wp2_with fail
    go_ret
    exact ⟨rfl, B0⟩
  go_wp2_with fail
  with_reducible refine (H1 _).mono ?_
  rintro e w1 ⟨rfl, b1⟩
  have B1 := B0.trans (b1.mono B0.size)
  clear c0 c1 c2 c3 c4 c5 c6 c7 c8 c9 c10
  obtain ⟨c0, ⟨c1, c2, c3⟩, ⟨c4, c5, c6⟩, c7, c8, c9, c10⟩ := SK.out w1 b1
  cases x with
  | false =>
    have hF : R = false := by rw [hR.out]; simp
    subst hF
    clear hR H1 H2 H3 SK
    go_wp2_with fail
    go_ret
    exact ⟨rfl, B1⟩
  | true =>
  go_wp2_with fail
  with_reducible refine (H2 _).mono ?_
  rintro e w2 ⟨rfl, b2⟩
  have C2 := b1.trans (b2.mono b1.size)
  have B2 := B1.trans (b2.mono B1.size)
  clear c0 c1 c2 c3 c4 c5 c6 c7 c8 c9 c10
  obtain ⟨c0, ⟨c1, c2, c3⟩, ⟨c4, c5, c6⟩, c7, c8, c9, c10⟩ := SK.out w2 C2
  cases y with
  | false =>
    have hF : R = false := by rw [hR.out]; simp
    subst hF
    clear hR H1 H2 H3 SK
    go_wp2_with fail
    go_ret
    exact ⟨rfl, B2⟩
  | true =>
  rcases la_cases l1 S1 i1 l2 S2 i2 with ⟨hEq, rfl, rfl, rfl⟩ | ⟨hNe, hy⟩
  · have hF : R = false := by rw [hR.out]; simp
    subst hF
    clear hR H1 H2 H3 SK hEq
    go_wp2_with fail
    go_ret
    exact ⟨rfl, B2⟩
  · have hD : decide (((l1, S1, i1) : LaT) = (l2, S2, i2)) = false := decide_eq_false hNe
    rcases hy with hy | ⟨hy1, hy⟩ | ⟨hy1, hy2, hy⟩
    all_goals
      by_cases a3 : 0 ≤ bu
      rotate_left 1
      · have hF : R = false := by rw [hR.out]; simp [a3]
        subst hF
        clear hR H1 H2 H3 SK hD hNe
        go_wp2_with fail
        go_ret
        exact ⟨rfl, B2⟩
      by_cases a4 : bu ≤ 1000
      rotate_left 1
      · have hF : R = false := by rw [hR.out]; simp [a4]
        subst hF
        clear hR H1 H2 H3 SK hD hNe
        go_wp2_with fail
        go_ret
        exact ⟨rfl, B2⟩
      have hF : R = z := by rw [hR.out, hD]; simp [a1, a2, a3, a4]
      subst hF
      have H3x := H3 w2 (KeepC.of_below B2)
      clear hR H1 H2 H3 SK hD hNe
      go_wp2_with fail
      with_reducible refine H3x.mono ?_
      rintro e w3 ⟨rfl, b3⟩
      go_wp2_with fail
      go_ret
      exact ⟨rfl, B2.trans (b3.mono B2.size)⟩
end Go.Proofs.YtmmdpjliknmhgaaGreatDoor
/- An operation of a region, as it stands in the list. On no program. -/
namespace Go.Proofs.YtmmdpjliknmhgaaGreatDoor
def nthO {α : Type} : List α → Nat → Option α
  | [], _ => none
  | a :: _, 0 => some a
  | _ :: l, n + 1 => nthO l n
theorem nth_at {α : Type} : ∀ {l : List α} {i : Nat} {o : α}, nthO l i = some o → l.toArray[i]? = some o
  | [], _, _, h => by cases h
  | a :: l, 0, o, h => by simpa [nthO] using h
  | a :: l, n + 1, o, h => by
    have := nth_at (l := l) (i := n) h
    simpa using this
end Go.Proofs.YtmmdpjliknmhgaaGreatDoor
