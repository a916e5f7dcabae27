/- Joined: LabQ3; LabQ4; LabQ5; LabQ6; RqC -/
import Derived.Test.YtmmdpjliknmhgaaGreatDoorJRQ
import Derived.Test.YtmmdpjliknmhgaaGreatDoorJRF
import Derived.Test.YtmmdpjliknmhgaaGreatDoorJRG
import Derived.Test.YtmmdpjliknmhgaaGreatDoorJRN
/- Walks of the document's answer for layer 5: its reader. -/
namespace Go.Proofs.YtmmdpjliknmhgaaGreatDoor
open Go.RowKit Go.Shelf
attribute [local go_sem] Oper.semAt_some
/-- the reader: the text, where it is, whether something was wrong -/
def RdQ (W : World) (b : Nat) (s : List UInt8) (q : List UInt8 × Bool) : Prop := ∃ k : Nat, k ≤ s.length ∧ q.1 = s.drop k ∧ Blk W b #[.string ⟨s.toArray⟩, .int .i64 k, .bool q.2] 138
theorem grown_drewNr (w : World) (n : Nat) (row : Option Nat) : w.grownBy (w.drewN n) row := ⟨rfl, rfl, rfl, Nat.le_refl _, fun _ _ _ => rfl⟩
theorem RdQ.drewN {W : World} {b : Nat} {s : List UInt8} {q : List UInt8 × Bool} (h : RdQ W b s q) (n : Nat) : RdQ (W.drewN n) b s q := h
def hdB (c : UInt8) (q : List UInt8 × Bool) : Bool := !q.2 && (q.1.head? == some c)
theorem isR_any (c : UInt8) (b : Nat) (s r : List UInt8) (bad : Bool) (w : World) (h : RdQ w b s (r, bad)) (hn : s.length ≤ 1000000) :
    Calls Tryz.prog 80 #[.pointer (some ⟨b, 0, none⟩), .int .u8 c.toNat] w fun e w' => e = .returned (.bool (hdB c (r, bad))) ∧ ∃ n, w' = w.drewN n := by
  obtain ⟨k, hk, hr, hb⟩ := h
  have c0 := hb.cell 0
  have c1 := hb.cell 1
  have c2 := hb.cell 2
  simp at c0 c1 c2 hr
  clear hb
  cases bad with
  | true =>
    have hH : hdB c (r, true) = false := rfl
    rw [hH]
    clear hH hr
    go_enter Tryz.func80, Tryz.ntmps80
    go_wp2_with fail
    go_quiet (fail)
    go_wp2_with fail
    go_ret
    exact ⟨rfl, _, rfl⟩
  | false =>
    by_cases hlt : k < s.length
    · have hH : hdB c (r, false) = ((s[k].toNat : Int) == c.toNat) := by
        have e : (s.drop k).head? = some s[k] := by rw [drop_cons s k hlt]; rfl
        unfold hdB
        rw [hr, e]
        by_cases h : s[k] = c
        · rw [h]; simp
        · have h' : ((s[k].toNat : Int) == c.toNat) = false := by
            rw [beq_eq_false_iff_ne]; intro h2; exact h (u8_eq (by omega))
          rw [h']; simp [h]
      have HH := Lib.hid hH
      have hlt1 : decide (k < s.length) = true := by simpa using hlt
      have hlt2 : (k : Int) < s.length := by omega
      have hlt0 : (0 : Int) ≤ k := by omega
      clear hH hr
      go_enter Tryz.func80, Tryz.ntmps80
      go_wp2_with fail
      go_quiet (fail)
      go_wp2_with fail
      go_ret
      exact ⟨by rw [HH.out]; rfl, _, rfl⟩
    · have hH : hdB c (r, false) = false := by
        unfold hdB; rw [hr, List.drop_of_length_le (by omega)]; rfl
      rw [hH]
      have hlt1 : decide (k < s.length) = false := by simpa using hlt
      clear hH hr
      go_enter Tryz.func80, Tryz.ntmps80
      go_wp2_with fail
      go_quiet (fail)
      go_wp2_with fail
      go_ret
      exact ⟨rfl, _, rfl⟩
theorem hd_true {c : UInt8} {r : List UInt8} {bad : Bool} (h : hdB c (r, bad) = true) : bad = false ∧ ∃ r', r = c :: r' := by
  unfold hdB at h
  cases bad with
  | true => simp at h
  | false =>
    cases r with
    | nil => simp at h
    | cons d r => simp at h; exact ⟨rfl, r, by rw [h]⟩
theorem hd_false {c : UInt8} {r : List UInt8} {bad : Bool} (h : hdB c (r, bad) = false) : bad = true ∨ (bad = false ∧ ∀ r', r ≠ c :: r') := by
  cases bad with
  | true => exact .inl rfl
  | false =>
    refine .inr ⟨rfl, fun r' e => ?_⟩
    subst e
    simp [hdB] at h
theorem must_st (c : UInt8) (r : List UInt8) (bad : Bool) : (hdB c (r, bad) = true → ∃ r', r = c :: r' ∧ bad = false ∧ (lift () (pmust c) (r, bad)).2 = (r', false)) ∧ (hdB c (r, bad) = false → (lift () (pmust c) (r, bad)).2 = (r, true)) := by
  constructor
  · intro h
    obtain ⟨rfl, r', rfl⟩ := hd_true h
    exact ⟨r', rfl, rfl, by simp [lift, pmust]⟩
  · intro h
    rcases hd_false h with rfl | ⟨rfl, h5⟩
    · rfl
    · cases r with
      | nil => rfl
      | cons d r =>
        have : d ≠ c := fun e => h5 r (by rw [e])
        simp [lift, pmust, this]
theorem is_st (c : UInt8) (r : List UInt8) (bad : Bool) : (hdB c (r, bad) = true → ∃ r', r = c :: r' ∧ bad = false ∧ lift false (pis c) (r, bad) = (true, (r', false))) ∧ (hdB c (r, bad) = false → lift false (pis c) (r, bad) = (false, (r, bad))) := by
  constructor
  · intro h
    obtain ⟨rfl, r', rfl⟩ := hd_true h
    exact ⟨r', rfl, rfl, by simp [lift, pis]⟩
  · intro h
    rcases hd_false h with rfl | ⟨rfl, h5⟩
    · rfl
    · cases r with
      | nil => rfl
      | cons d r =>
        have : d ≠ c := fun e => h5 r (by rw [e])
        simp [lift, pis, this]
theorem mustR_any (c : UInt8) (b : Nat) (s r : List UInt8) (bad : Bool) (w : World) (h : RdQ w b s (r, bad)) (hn : s.length ≤ 1000000) :
    Calls Tryz.prog 78 #[.pointer (some ⟨b, 0, none⟩), .int .u8 c.toNat] w fun e w' => e = .returned (.tuple #[]) ∧ RdQ w' b s (lift () (pmust c) (r, bad)).2 ∧ w.grownBy w' (some b) := by
  have HI := isR_any c b s r bad w h hn
  obtain ⟨h1, h2⟩ := must_st c r bad
  obtain ⟨k, hk, hr, hb⟩ := h
  have c1 := hb.cell 1
  have c2 := hb.cell 2
  have f1 := hb.frozen 1
  have f2 := hb.frozen 2
  simp at c1 c2 hr
  cases hd : hdB c (r, bad) with
  | true =>
    obtain ⟨r', e1, rfl, e3⟩ := h1 hd
    rw [e3]
    rw [hd] at HI
    have hk2 : k < s.length := by
      rcases Nat.lt_or_ge k s.length with h | h
      · exact h
      · rw [List.drop_of_length_le h] at hr; rw [hr] at e1; cases e1
    have hr' : r' = s.drop (k + 1) := by rw [hr, drop_cons s k hk2] at e1; exact (List.cons.inj e1).2.symm
    have hb' := fun nn => Blk.set 1 (.int .i64 ((k + 1 : Nat) : Int)) (hb.drewN nn)
    have HB := Lib.hid hb'
    have HR := Lib.hid hr'
    clear h1 h2 hd e1 e3 hr hr' hb hb'
    go_enter Tryz.func78, Tryz.ntmps78
    go_wp2_with (go_at_call 80; refine HI.mono ?_; rintro e w' ⟨rfl, nn, rfl⟩)
    go_end0
    exact ⟨rfl, ⟨k + 1, by omega, HR.out, by simpa using HB.out nn⟩, grownBy_t (grown_drewNr w nn _) (grownBy_setCellB _ b 1 _)⟩
  | false =>
    rw [h2 hd]
    rw [hd] at HI
    have hb' := fun nn => Blk.set 2 (.bool true) (hb.drewN nn)
    have HB := Lib.hid hb'
    have HR := Lib.hid hr
    clear h1 h2 hd hb hb' hr
    go_enter Tryz.func78, Tryz.ntmps78
    go_wp2_with (go_at_call 80; refine HI.mono ?_; rintro e w' ⟨rfl, nn, rfl⟩)
    exact bodyPost_ret (v := .tuple #[]) (by simp [results, Tryz.results78, go_sem]) rfl ⟨rfl, ⟨k, hk, HR.out, by simpa using HB.out nn⟩, grownBy_t (grown_drewNr w nn _) (grownBy_setCellB _ b 2 _)⟩
/-- does a number i begin with n? -/
def hitB (n i : Nat) : Bool := i == n || (decide (10 ≤ i) && i / 10 == n)
def canI (lo hi n : Nat) : Bool := (List.range' lo (hi + 1 - lo)).any fun (i : Nat) => hitB n i
theorem canI_step (lo hi n : Nat) (h : lo ≤ hi) : canI lo hi n = (hitB n lo || canI (lo + 1) hi n) := by
  unfold canI
  rw [show hi + 1 - lo = (hi + 1 - (lo + 1)) + 1 by omega, List.range'_succ, List.any_cons]
theorem canI_end (lo hi n : Nat) (h : hi < lo) : canI lo hi n = false := by
  unfold canI
  rw [show hi + 1 - lo = 0 by omega]; rfl
theorem canI_eq (lo hi n : Nat) (h1 : lo ≤ hi) : canI lo hi n = canP lo hi n := by
  have hI : canI lo hi n = true ↔ ∃ i : Nat, lo ≤ i ∧ i ≤ hi ∧ (i = n ∨ (10 ≤ i ∧ i / 10 = n)) := by
    unfold canI hitB
    rw [List.any_eq_true]
    constructor
    · rintro ⟨i, hi, h⟩
      have := List.mem_range'_1.1 hi
      simp at h
      exact ⟨i, by omega, by omega, h⟩
    · rintro ⟨i, h1, h2, h⟩
      refine ⟨i, List.mem_range'_1.2 (by omega), by simpa using h⟩
  rw [Bool.eq_iff_iff, hI]
  constructor
  · rintro ⟨i, a, b, c⟩
    refine canP_of ?_
    omega
  · intro h
    rcases canP_to h with h | h
    · exact ⟨n, by omega, by omega, .inl rfl⟩
    · exact ⟨max lo (10 * n), by omega, by omega, .inr ⟨by omega, by omega⟩⟩
end Go.Proofs.YtmmdpjliknmhgaaGreatDoor
/- Walks of the document's answer for layer 5: do digits begin a number's? -/
namespace Go.Proofs.YtmmdpjliknmhgaaGreatDoor
open Go.RowKit Go.Shelf
attribute [local go_sem] Oper.semAt_some
set_option maxRecDepth 100000 in
set_option maxHeartbeats 2000000 in
theorem canR_any (n lo hi : Nat) (h1 : lo ≤ hi) (h2 : hi ≤ 63) (hn : n ≤ 1000) (w : World) :
    Calls Tryz.prog 102 #[.int .i64 n, .int .i64 lo, .int .i64 hi] w fun e w' => e = .returned (.bool (canP lo hi n)) ∧ w = w' := by
  rw [← canI_eq lo hi n h1]
  have hmax : max (0 : Int) (lo : Int) = lo := by omega
  go_enter Tryz.func102, Tryz.ntmps102
  go_wp2_with fail
  go_loop [7, 8] (fun i _ => ∃ k : Nat, lo ≤ k ∧ i = .int .i64 k ∧ Hid (canI lo hi n = canI k hi n) ∧ k ≤ 64) (fun i _ => hi + 1 - (intOf i).toNat)
  case atStart => exact ⟨lo, Nat.le_refl _, rfl, rfl, by omega⟩
  case round =>
    obtain ⟨k, hk, rfl, hc, hk64⟩ := hrel
    by_cases hlt : k ≤ hi
    · have HC : Hid (canI lo hi n = (hitB n k || canI (k + 1) hi n)) := by show _ = _; rw [hc.out, canI_step k hi n hlt]
      have hlt' : (k : Int) ≤ hi := by omega
      clear hc
      by_cases hkn : n < k ∧ 10 ≤ k
      · obtain ⟨ha, hb⟩ := hkn
        have hit : hitB n k = ((k / 10 : Nat) == n) := by unfold hitB; simp [hb, show k ≠ n by omega]
        rw [hit] at HC
        have ha' : (n : Int) < k := by omega
        have hb' : (10 : Int) ≤ k := by omega
        have hq2 : (k : Int) / 10 < 10 := by omega
        have hq4 : (0 : Int) ≤ (k : Int) / 10 := by omega
        cases he : ((k / 10 : Nat) == n) with
        | true =>
          rw [he] at HC
          have he2 : ((k : Int) / 10 == (n : Int)) = true := by have := beq_iff_eq.1 he; rw [beq_iff_eq]; omega
          go_wp2_with fail
          refine wp_loop_rounds 2 ?_
          rw [rounds_succ]
          go_wp2_with fail
          rw [rounds_succ]
          go_wp2_with fail
          all_goals
            go_ret
            exact ⟨by rw [HC.out]; rfl, rfl⟩
        | false =>
          rw [he] at HC
          have he2 : ((k : Int) / 10 == (n : Int)) = false := by have := beq_eq_false_iff_ne.1 he; rw [beq_eq_false_iff_ne]; omega
          go_wp2_with fail
          refine wp_loop_rounds 2 ?_
          rw [rounds_succ]
          go_wp2_with fail
          rw [rounds_succ]
          go_wp2_with fail
          all_goals
            go_round
            case rel => exact ⟨k + 1, by omega, by go_num, by show _ = _; rw [HC.out]; rfl, by omega⟩
            case measure => simp [intOf]; omega
      · have hit : hitB n k = (k == n) := by unfold hitB; rw [Bool.eq_iff_iff]; simp; omega
        rw [hit] at HC
        have hgo : (k : Int) ≤ n ∨ ((n : Int) < k ∧ (k : Int) < 10) := by omega
        cases he : (k == n) with
        | true =>
          rw [he] at HC
          have he2 : ((k : Int) == (n : Int)) = true := by have := beq_iff_eq.1 he; rw [beq_iff_eq]; omega
          have hgo2 : (k : Int) ≤ n := by have := beq_iff_eq.1 he; omega
          clear hgo he
          go_wp2_with fail
          refine wp_loop_rounds 1 ?_
          rw [rounds_succ]
          go_wp2_with fail
          go_ret
          exact ⟨by rw [HC.out]; rfl, rfl⟩
        | false =>
          rw [he] at HC
          have he2 : ((k : Int) == (n : Int)) = false := by have := beq_eq_false_iff_ne.1 he; rw [beq_eq_false_iff_ne]; omega
          clear he
          rcases hgo with hgo | ⟨hgo, hgo2⟩
          all_goals
            go_wp2_with fail
            refine wp_loop_rounds 1 ?_
            rw [rounds_succ]
            go_wp2_with fail
            go_round
            case rel => exact ⟨k + 1, by omega, by go_num, by show _ = _; rw [HC.out]; rfl, by omega⟩
            case measure => simp [intOf]; omega
    · have HC : Hid (canI lo hi n = false) := by show _ = _; rw [hc.out, canI_end k hi n (by omega)]
      clear hc
      go_wp2_with fail
      go_ret
      exact ⟨by rw [HC.out]; rfl, rfl⟩
end Go.Proofs.YtmmdpjliknmhgaaGreatDoor
/- Walks of the document's answer for layer 5: a number. -/
namespace Go.Proofs.YtmmdpjliknmhgaaGreatDoor
open Go.RowKit Go.Shelf
attribute [local go_sem] Oper.semAt_some
theorem canR_i (n lo hi : Int) (h0 : 0 ≤ lo) (h1 : lo ≤ hi) (h2 : hi ≤ 63) (hn0 : 0 ≤ n) (hn : n ≤ 1000) (w : World) :
    Calls Tryz.prog 102 #[.int .i64 n, .int .i64 lo, .int .i64 hi] w fun e w' => e = .returned (.bool (canP lo hi n)) ∧ w = w' := by
  obtain ⟨a, rfl⟩ := Int.eq_ofNat_of_zero_le h0
  obtain ⟨c, rfl⟩ := Int.eq_ofNat_of_zero_le (show 0 ≤ hi by omega)
  obtain ⟨d, rfl⟩ := Int.eq_ofNat_of_zero_le hn0
  exact canR_any d a c (by omega) (by omega) (by omega) w
def NumPost (b : Nat) (s : List UInt8) (x : Int × (List UInt8 × Bool)) (w : World) (e : Ending) (w' : World) : Prop := ∃ v : Int, -1 ≤ v ∧ v ≤ 63 ∧ e = .returned (.int .i64 v) ∧ RdQ w' b s x.2 ∧ (x.2.2 = false → v = x.1) ∧ w.grownBy w' (some b)
/-- where a number's digits end, for the document's answer -/
def NumQ (lo hi : Int) (r0 s : List UInt8) (k : Nat) (m : Int) : Prop := (m = -1 ∨ 0 ≤ m ∧ m ≤ 63) ∧ numS lo hi (-1) r0 = numS lo hi m (s.drop k)
theorem numQ_stop {lo hi : Int} {r0 s : List UInt8} {k : Nat} {m : Int} (h : NumQ lo hi r0 s k m) (hs : ∀ (hp : k < s.length), goesB lo hi m s[k] = false) : numS lo hi (-1) r0 = (m, s.drop k) := by
  rw [h.2]
  by_cases hp : k < s.length
  · rw [drop_cons s k hp, numS, hs hp]; rfl
  · rw [List.drop_of_length_le (by omega)]; rfl
theorem numQ_next {lo hi : Int} (hhi : hi ≤ 63) {r0 s : List UInt8} {k : Nat} {m : Int} (h : NumQ lo hi r0 s k m) (hp : k < s.length) (hg : goesB lo hi m s[k] = true) : NumQ lo hi r0 s (k + 1) (nxt m s[k]) := by
  obtain ⟨h1, h2⟩ := h
  obtain ⟨g1, g2, g3⟩ := goesB_to hg
  have hd := dvl_le g1
  have hc := canP_to g3
  refine ⟨.inr ?_, ?_⟩
  · unfold nxt at hc ⊢
    split at hc <;> rename_i hm
    · rw [if_pos hm]; omega
    · rw [if_neg hm]; omega
  · rw [h2, drop_cons s k hp, numS, if_pos hg]
theorem not_dgQ {c : UInt8} (h : (c.toNat : Int) < 48 ∨ 57 < (c.toNat : Int)) (lo hi m : Int) : goesB lo hi m c = false := not_goes _ _ _ _ (by
  cases hd : dgB c with
  | false => rfl
  | true => simp only [dgB, Bool.and_eq_true, decide_eq_true_eq] at hd; omega)
set_option maxRecDepth 100000 in
set_option maxHeartbeats 4000000 in
theorem numberR_any (lo hi : Int) (h0 : 0 ≤ lo) (h1 : lo ≤ hi) (h2 : hi ≤ 63) (b : Nat) (s r : List UInt8) (bad : Bool) (w : World) (h : RdQ w b s (r, bad)) (hn : s.length ≤ 1000000) :
    Calls Tryz.prog 79 #[.pointer (some ⟨b, 0, none⟩), .int .i64 lo, .int .i64 hi] w (NumPost b s (lift 0 (pnum lo hi) (r, bad)) w) := by
  obtain ⟨k0, hk0, hr, hb⟩ := h
  simp only at hr
  cases bad with
  | true =>
    have c0 := hb.cell 0
    have c1 := hb.cell 1
    have c2 := hb.cell 2
    have f2 := hb.frozen 2
    simp at c0 c1 c2
    have hL : lift 0 (pnum lo hi) (r, true) = (0, (r, true)) := rfl
    rw [hL]
    have HB := Lib.hid (fun nn => Blk.set 2 (.bool true) (hb.drewN nn))
    have HR := Lib.hid hr
    clear hb hr hL
    go_enter Tryz.func79, Tryz.ntmps79
    go_wp2_with fail
    refine wp_loop_rounds 1 ?_
    rw [rounds_succ]
    go_wp2_with fail
    go_quiet (fail)
    go_wp2_with fail
    go_ret
    exact ⟨-1, by omega, by omega, rfl, ⟨k0, hk0, HR.out, by simpa using HB.out _⟩, (fun h => by cases h), grownBy_t (grown_drewNr w _ _) (grownBy_setCellB _ b 2 _)⟩
  | false =>
    go_enter Tryz.func79, Tryz.ntmps79
    go_upto_block 0 with (fail)
    go_cut [7] (fun x7 wx => ∃ (k : Nat) (m : Int), Hid (numS lo hi (-1) r = (m, s.drop k)) ∧ -1 ≤ m ∧ m ≤ 63 ∧ k ≤ s.length ∧ x7 = .int .i64 m ∧ Blk wx b #[.string ⟨s.toArray⟩, .int .i64 k, .bool false] 138 ∧ w.grownBy wx (some b))
    case first =>
      go_wp2_with fail
      go_loopw [7] (fun x7 wx => ∃ (k : Nat) (m : Int), Hid (NumQ lo hi r s k m) ∧ -1 ≤ m ∧ m ≤ 63 ∧ k ≤ s.length ∧ x7 = .int .i64 m ∧ Blk wx b #[.string ⟨s.toArray⟩, .int .i64 k, .bool false] 138 ∧ w.grownBy wx (some b)) (fun _ wx => s.length - (intOf ((wx.cell? ⟨b, 1, none⟩).getD undef)).toNat)
      case atStart => exact ⟨k0, -1, ⟨.inl rfl, by rw [hr]⟩, by omega, by omega, hk0, rfl, hb, .refl _ _⟩
      case round =>
        obtain ⟨k, m, hq, hm1, hm2, hk, rfl, hbk, hgr⟩ := hrel
        clear hb hr hk0
        have c0 := hbk.cell 0
        have c1 := hbk.cell 1
        have c2 := hbk.cell 2
        have f1 := hbk.frozen 1
        simp at c0 c1 c2
        by_cases hlt : k < s.length
        · have hlt1 : decide (k < s.length) = true := by simpa using hlt
          have hlt2 : (k : Int) < s.length := by omega
          have hlt0 : (0 : Int) ≤ k := by omega
          have HST : Hid (goesB lo hi m s[k] = false → numS lo hi (-1) r = (m, s.drop k)) := fun hg => numQ_stop hq.out fun _ => hg
          have HNX : Hid (goesB lo hi m s[k] = true → NumQ lo hi r s (k + 1) (nxt m s[k])) := numQ_next h2 hq.out hlt
          have HNG : Hid ((s[k].toNat : Int) < 48 ∨ 57 < (s[k].toNat : Int) → goesB lo hi m s[k] = false) := fun h => not_dgQ h _ _ _
          have HGO : Hid (dgB s[k] = true → goesB lo hi m s[k] = (!(m == 0) && canP lo hi (nxt m s[k]))) := fun h => by simp [goesB, h]
          have HB := Lib.hid hbk
          clear hq hbk
          obtain ⟨c, hc⟩ : ∃ c, s[k] = c := ⟨_, rfl⟩
          rw [hc] at HST HNX HNG HGO
          by_cases k1 : (48 : Int) ≤ c.toNat
          · have k1' : decide ((48 : Int) ≤ c.toNat) = true := by simpa using k1
            by_cases k2 : (c.toNat : Int) ≤ 57
            · have k2' : decide ((c.toNat : Int) ≤ 57) = true := by simpa using k2
              have hdg : dgB c = true := by simp only [dgB, k1', k2', Bool.and_self]
              have HGO' := Lib.hid (HGO.out hdg)
              clear HGO HNG
              have hdv : dvl c = (c.toNat : Int) - 48 := rfl
              have w1 : IntKind.u8.wrap ((c.toNat : Int) - 48) = (c.toNat : Int) - 48 := IntWalk.u8_in _ (by omega)
              have hd0 : (0 : Int) ≤ (c.toNat : Int) - 48 := by omega
              have hd9 : (c.toNat : Int) - 48 ≤ 9 := by omega
              by_cases hm0 : m = 0
              · subst hm0
                have hS := Lib.hid (HST.out (by rw [HGO'.out]; rfl))
                clear HST HNX HGO' hdg hdv
                go_wp2_with fail
                go_quiet (fail)
                go_wp2_with fail
                go_quiet (fail)
                go_wp2_with fail
                go_meet
                exact ⟨k, 0, hS, hm1, hm2, hk, rfl, HB.out.drewN _, grownBy_t hgr (grown_drewNr _ _ _)⟩
              · have hm0' : (m == 0) = false := by simpa using hm0
                obtain ⟨nx, hnx, hcase⟩ : ∃ nx, nxt m c = nx ∧ ((m < 0 ∧ nx = (c.toNat : Int) - 48) ∨ (0 ≤ m ∧ nx = 10 * m + ((c.toNat : Int) - 48))) := by
                  refine ⟨_, rfl, ?_⟩
                  unfold nxt; rw [hdv]
                  by_cases h : m < 0
                  · exact .inl ⟨h, by rw [if_pos h]⟩
                  · exact .inr ⟨by omega, by rw [if_neg h]⟩
                rw [hnx, hm0', Bool.not_false, Bool.true_and] at HGO'
                rw [hnx] at HNX
                have hnxb : 0 ≤ nx ∧ nx ≤ 1000 := by omega
                have hcan := fun u => canR_i nx lo hi h0 h1 h2 hnxb.1 hnxb.2 u
                cases hcp : canP lo hi nx with
                | false =>
                  have hS := Lib.hid (HST.out (by rw [HGO'.out]; exact hcp))
                  rw [hcp] at hcan
                  clear HST HNX HGO' hdg hdv hcp hnx
                  rcases hcase with ⟨hm3, rfl⟩ | ⟨hm3, rfl⟩
                  all_goals
                    go_wp2_with fail
                    go_quiet (fail)
                    go_wp2_with fail
                    go_quiet (fail)
                    go_wp2_with (go_at_call 102; refine (hcan _).mono ?_; rintro e w' ⟨rfl, rfl⟩)
                    go_meet
                    exact ⟨k, m, hS, hm1, hm2, hk, rfl, HB.out.drewN _, grownBy_t hgr (grown_drewNr _ _ _)⟩
                | true =>
                  have hN := Lib.hid (HNX.out (by rw [HGO'.out]; exact hcp))
                  have hn63 : nx ≤ 63 := by
                    have := hN.out.1; omega
                  have hBn := Lib.hid (fun q => Blk.set 1 (.int .i64 ((k + 1 : Nat) : Int)) (HB.out.drewN q))
                  rw [hcp] at hcan
                  clear HST HNX HGO' hdg hdv hcp hnx
                  rcases hcase with ⟨hm3, rfl⟩ | ⟨hm3, rfl⟩
                  all_goals
                    go_wp2_with fail
                    go_quiet (fail)
                    go_wp2_with fail
                    go_quiet (fail)
                    go_wp2_with (go_at_call 102; refine (hcan _).mono ?_; rintro e w' ⟨rfl, rfl⟩)
                    go_roundw
                    case rel => exact ⟨k + 1, _, hN, by omega, by omega, by omega, rfl, by simpa using hBn.out _, grownBy_t (grownBy_t hgr (grown_drewNr _ _ _)) (grownBy_setCellB _ b 1 _)⟩
                    case measure => (have q1 := fun q => (hBn.out q).cell 1); simp at q1; simp [c1, q1, intOf]; omega
            · have k2' : decide ((c.toNat : Int) ≤ 57) = false := by simpa using k2
              have hS := Lib.hid (HST.out (HNG.out (.inr (by omega))))
              clear HST HNX HNG HGO
              go_wp2_with fail
              go_quiet (fail)
              go_wp2_with fail
              go_meet
              exact ⟨k, m, hS, hm1, hm2, hk, rfl, HB.out.drewN _, grownBy_t hgr (grown_drewNr _ _ _)⟩
          · have k1' : decide ((48 : Int) ≤ c.toNat) = false := by simpa using k1
            have hS := Lib.hid (HST.out (HNG.out (.inl (by omega))))
            clear HST HNX HNG HGO
            go_wp2_with fail
            go_quiet (fail)
            go_wp2_with fail
            go_meet
            exact ⟨k, m, hS, hm1, hm2, hk, rfl, HB.out.drewN _, grownBy_t hgr (grown_drewNr _ _ _)⟩
        · have hlt1 : decide (k < s.length) = false := by simpa using hlt
          have hS := Lib.hid (numQ_stop hq.out fun hp => absurd hp hlt)
          have HB := Lib.hid hbk
          clear hq hbk
          go_wp2_with fail
          go_quiet (fail)
          go_wp2_with fail
          go_meet
          exact ⟨k, m, hS, hm1, hm2, hk, rfl, HB.out.drewN _, grownBy_t hgr (grown_drewNr _ _ _)⟩
    case rest =>
      obtain ⟨k, m, hS, hm1, hm2, hk, rfl, hbk, hgr⟩ := hcut
      clear hb hr hk0
      have f2 := hbk.frozen 2
      have c2 := hbk.cell 2
      simp at c2
      by_cases hlo : m < lo
      · have hL : lift 0 (pnum lo hi) (r, false) = (0, (s.drop k, true)) := by
          rw [lift_false, pnum, hS.out]; simp [hlo]
        have HL := Lib.hid hL
        have HB := Lib.hid (Blk.set 2 (.bool true) hbk)
        clear hL hbk
        go_wp2_with fail
        go_ret
        exact ⟨m, hm1, hm2, rfl, by rw [HL.out]; exact ⟨k, hk, rfl, by simpa using HB.out⟩, by rw [HL.out]; exact (fun h => by cases h), grownBy_t hgr (grownBy_setCellB _ b 2 _)⟩
      · have hL : lift 0 (pnum lo hi) (r, false) = (m, (s.drop k, false)) := by
          rw [lift_false, pnum, hS.out]; simp [hlo]
        have HL := Lib.hid hL
        have HB := Lib.hid hbk
        clear hL hbk
        go_wp2_with fail
        go_ret
        exact ⟨m, hm1, hm2, rfl, by rw [HL.out]; exact ⟨k, hk, rfl, HB.out⟩, by rw [HL.out]; exact fun _ => rfl, hgr⟩
end Go.Proofs.YtmmdpjliknmhgaaGreatDoor
/- Walks of the document's answer for layer 5: a label of a text. -/
namespace Go.Proofs.YtmmdpjliknmhgaaGreatDoor
open Go.RowKit Go.Shelf
attribute [local go_sem] Oper.semAt_some
theorem and_two_pow_no (S i : Nat) (h : S.testBit i = false) : S &&& 2 ^ i = 0 := by
  refine Nat.eq_of_testBit_eq fun j => ?_
  rw [Nat.testBit_and, Nat.testBit_two_pow, Nat.zero_testBit]
  by_cases e : i = j
  · subst e; rw [h]; rfl
  · simp [e]
theorem add_pow (S i : Nat) (hi : i < 64) (hS : S < 18446744073709551616) (h : S.testBit i = false) : IntKind.u64.wrap ((S : Int) + IntKind.u64.wrap (2 ^ i)) = ((S ||| 2 ^ i : Nat) : Int) := by
  have h1 := shl_one i hi
  rw [Int.one_mul] at h1
  rw [h1]
  have hp : (2 : Nat) ^ i < 18446744073709551616 := Nat.lt_of_lt_of_le (Nat.pow_lt_pow_right (by omega) hi) (by decide)
  have ho := or_lt S i hi hS
  have e : S + 2 ^ i = S ||| 2 ^ i := by
    have hb := BitVec.add_eq_or_of_and_eq_zero (BitVec.ofNat 65 S) (BitVec.ofNat 65 (2 ^ i)) (by
      rw [← BitVec.ofNat_and, and_two_pow_no S i h])
    have := congrArg BitVec.toNat hb
    rw [BitVec.toNat_add, BitVec.toNat_or, BitVec.toNat_ofNat, BitVec.toNat_ofNat, Nat.mod_eq_of_lt (Nat.lt_of_lt_of_le hS (by decide)), Nat.mod_eq_of_lt (Nat.lt_of_lt_of_le hp (by decide)), Nat.mod_eq_of_lt (show S + 2 ^ i < 2 ^ 65 from by omega)] at this
    exact this
  have e2 : (S : Int) + ((2 ^ i : Nat) : Int) = ((S ||| 2 ^ i : Nat) : Int) := by rw [← e]; exact (Int.natCast_add _ _).symm
  rw [e2, IntKind.wrap_u64]
  exact Int.emod_eq_of_lt (Int.natCast_nonneg _) (Int.ofNat_lt.2 ho)
theorem or_has (S i : Nat) (h : S.testBit i = true) : S ||| 2 ^ i = S := by
  refine Nat.eq_of_testBit_eq fun j => ?_
  rw [Nat.testBit_or, Nat.testBit_two_pow]
  by_cases e : i = j
  · subst e; rw [h]; rfl
  · simp [e]
theorem withR_yes (S i : Nat) (hi : i < 64) (hS : S < 18446744073709551616) (w : World) :
    Calls Tryz.prog 81 #[.int .u64 S, .int .i64 i] w fun e w' => e = .returned (.tuple #[.int .u64 (S ||| 2 ^ i : Nat), .int .i64 0]) ∧ w = w' := by
  have hi0 : (0 : Int) ≤ (i : Int) := by omega
  have hi1 : (i : Int) < 64 := by omega
  have HH := hasR_any S i hi hS w
  have HO := Lib.hid (or_has S i)
  have HA := Lib.hid (add_pow S i hi hS)
  cases hb : S.testBit i with
  | true =>
    rw [hb] at HH
    have HO' := Lib.hid (HO.out hb)
    clear HO HA hb
    go_enter Tryz.func81, Tryz.ntmps81
    go_wp2_with (go_at_call 54; refine HH.mono ?_; rintro e w' ⟨rfl, rfl⟩)
    go_ret2
    exact ⟨by rw [HO'.out]; rfl, rfl⟩
  | false =>
    rw [hb] at HH
    have HA' := Lib.hid (HA.out hb)
    clear HO HA hb
    go_enter Tryz.func81, Tryz.ntmps81
    go_wp2_with (go_at_call 54; refine HH.mono ?_; rintro e w' ⟨rfl, rfl⟩)
    go_ret2
    exact ⟨by rw [← HA'.out]; rfl, rfl⟩
theorem withR_no (S : Nat) (w : World) :
    Calls Tryz.prog 81 #[.int .u64 S, .int .i64 (-1)] w fun e w' => e = .returned (.tuple #[.int .u64 (0 : Nat), .int .i64 10]) ∧ w = w' := by
  go_enter Tryz.func81, Tryz.ntmps81
  go_wp2
  go_ret2
  exact ⟨rfl, rfl⟩
def WithPost (S : Nat) (v : Int) (w : World) (e : Ending) (w' : World) : Prop := ∃ (z : Nat) (er : Int), z < 18446744073709551616 ∧ e = .returned (.tuple #[.int .u64 z, .int .i64 er]) ∧ (∀ n : Nat, v = n → z = S ||| 2 ^ n) ∧ w = w'
theorem withR_any (S : Nat) (v : Int) (h1 : -1 ≤ v) (h2 : v ≤ 63) (hS : S < 18446744073709551616) (w : World) : Calls Tryz.prog 81 #[.int .u64 S, .int .i64 v] w (WithPost S v w) := by
  by_cases h : v = -1
  · subst h
    exact (withR_no S w).mono fun e w' ⟨a, b⟩ => ⟨0, 10, by omega, a, fun n hn => by omega, b⟩
  · obtain ⟨n, rfl⟩ := Int.eq_ofNat_of_zero_le (show 0 ≤ v by omega)
    exact (withR_yes S n (by omega) hS w).mono fun e w' ⟨a, b⟩ => ⟨_, 0, or_lt S n (by omega) hS, a, (fun (m : Nat) (hm : (n : Int) = m) => by rw [show n = m by omega]), b⟩
/-- where the document's answer stands behind a number of a set -/
def SetQ (X : Nat × (List UInt8 × Bool)) (q : List UInt8 × Bool) (last : Int) (acc : Nat) : Prop :=
  (q.2 = true ∧ X = (0, q)) ∨ (q.2 = false ∧ ∃ (f n a : Nat) (lo : Int) (R : List UInt8), last = n ∧ n ≤ 63 ∧ 63 ≤ f + n ∧ -1 ≤ lo ∧ X = lift 0 (setK (f + 1) lo a) (R, false) ∧ pnum (lo + 1) 63 R = (some (n : Int), q.1) ∧ acc = a ||| 2 ^ n)
theorem setQ_start {f : Nat} {lo : Int} {a z : Nat} {R : List UInt8} {X : Nat × (List UInt8 × Bool)} {v : Int} (hlo : -1 ≤ lo) (hf : 63 ≤ f + (lo + 1).toNat) (hX : X = lift 0 (setK (f + 1) lo a) (R, false)) (hv : (lift 0 (pnum (lo + 1) 63) (R, false)).2.2 = false → v = (lift 0 (pnum (lo + 1) 63) (R, false)).1) (hz : ∀ n : Nat, v = n → z = a ||| 2 ^ n) :
    SetQ X (lift 0 (pnum (lo + 1) 63) (R, false)).2 v z := by
  rw [lift_false] at hv ⊢
  rcases hp : pnum (lo + 1) 63 R with ⟨_ | m, R'⟩
  · left
    refine ⟨rfl, ?_⟩
    rw [hX]; exact setK_no hp
  · right
    rw [hp] at hv
    obtain ⟨-, h1, h2⟩ := pnum_back _ _ _ _ _ (by omega) (by omega) hp
    obtain ⟨j, rfl⟩ := Int.eq_ofNat_of_zero_le (show 0 ≤ m by omega)
    have e : v = j := hv rfl
    exact ⟨rfl, f, j, a, lo, R, e, by omega, by omega, hlo, hX, hp, hz j e⟩
/-- what behind such a number: a comma and more, or the end -/
theorem setQ_more {X : Nat × (List UInt8 × Bool)} {q : List UInt8 × Bool} {last : Int} {acc : Nat} (h : SetQ X q last acc) (hc : hdB 44 q = true) (hl : last < 63) :
    ∃ (f : Nat) (R : List UInt8), q.1 = 44 :: R ∧ q.2 = false ∧ 0 ≤ last ∧ 63 ≤ f + (last + 1).toNat ∧ X = lift 0 (setK (f + 1) last acc) (R, false) := by
  obtain ⟨r, bad⟩ := q
  obtain ⟨rfl, R, rfl⟩ := hd_true hc
  rcases h with ⟨h, -⟩ | ⟨-, f, n, a, lo, R0, rfl, h1, h2, h3, h4, h5, rfl⟩
  · cases h
  · have hm := setK_more (f := f) (last := lo) (acc := a) h5 (show n ≠ 63 by omega) (show pis 44 (44 :: R) = (some true, R) by simp [pis])
    obtain ⟨f, rfl⟩ : ∃ g, f = g + 1 := ⟨f - 1, by omega⟩
    exact ⟨f, R, rfl, rfl, by omega, by omega, by rw [h4]; exact hm⟩
theorem setQ_end {X : Nat × (List UInt8 × Bool)} {q : List UInt8 × Bool} {last : Int} {acc : Nat} (h : SetQ X q last acc) (hc : hdB 44 q = false ∨ 63 ≤ last) :
    X.2 = (lift () (pmust 125) q).2 ∧ (X.2.2 = false → acc = X.1) := by
  obtain ⟨r, bad⟩ := q
  rcases h with ⟨h, h2⟩ | ⟨h, f, n, a, lo, R0, rfl, h1, h2, h3, h4, h5, rfl⟩
  · have h' : bad = true := h
    subst h'
    rw [h2]
    exact ⟨rfl, fun h => by cases h⟩
  · have h' : bad = false := h
    subst h'
    have hX : X = setZ (a ||| 2 ^ n) r := by
      by_cases hn : n = 63
      · subst hn; rw [h4]; exact setK_last h5
      · have hh : hdB 44 (r, false) = false := by
          rcases hc with hc | hc
          · exact hc
          · omega
        have hi := (is_st 44 r false).2 hh
        rw [lift_false] at hi
        have hi' : pis 44 r = (some false, r) := by
          rcases hp : pis 44 r with ⟨_ | x, y⟩
          · rw [hp] at hi; cases hi
          · rw [hp] at hi; cases hi; rfl
        rw [h4]; exact setK_done h5 hn hi'
    rw [hX]
    refine ⟨rfl, fun hz => ?_⟩
    unfold setZ at hz ⊢
    rw [hz]; rfl
theorem setQ_none (r : List UInt8) (bad : Bool) (h : hdB 123 (r, bad) = false) : lift 0 pset (r, bad) = (0, (r, bad)) := by
  have h2 := (is_st 123 r bad).2 h
  have := (set_start r bad).1 (by rw [h2])
  rw [this, h2]
theorem setQ_some (r : List UInt8) (bad : Bool) (h : hdB 123 (r, bad) = true) : ∃ R, r = 123 :: R ∧ bad = false ∧ lift 0 pset (r, bad) = lift 0 (setK 64 (-1) 0) (R, false) := by
  obtain ⟨r', e1, rfl, e2⟩ := (is_st 123 r bad).1 h
  obtain ⟨R0, h1, h2, -⟩ := (set_start r false).2 (by rw [e2])
  rw [e2] at h2
  cases h2
  exact ⟨_, e1, rfl, h1⟩
end Go.Proofs.YtmmdpjliknmhgaaGreatDoor
/- Walks of the reference, layer 14: Cats; and Less, Without of layer 1. -/
namespace Go.Proofs.YtmmdpjliknmhgaaGreatDoor
open Go.RowKit Go.Shelf
attribute [local go_sem] Oper.semAt_some
/-- a set without one category -/
def offN (S i : Nat) : Nat := if S.testBit i then S ^^^ 2 ^ i else S
theorem offN_bit (S i j : Nat) : (offN S i).testBit j = (S.testBit j && !decide (i = j)) := by
  unfold offN
  split
  · rename_i h
    rw [Nat.testBit_xor, Nat.testBit_two_pow]
    by_cases e : i = j
    · subst e; simp [h]
    · simp [e]
  · rename_i h
    by_cases e : i = j
    · subst e; simpa using h
    · simp [e]
theorem offN_lt (S i : Nat) (hS : S < 18446744073709551616) : offN S i < 18446744073709551616 := by
  refine Nat.lt_pow_two_of_testBit (n := 64) _ fun j hj => ?_
  rw [offN_bit, Nat.testBit_lt_two_pow (Nat.lt_of_lt_of_le hS (show 2 ^ 64 ≤ 2 ^ j from Nat.pow_le_pow_right (by decide) hj))]
  rfl
theorem sub_pow (S i : Nat) (hi : i < 64) (hS : S < 18446744073709551616) (h : S.testBit i = true) : IntKind.u64.wrap ((S : Int) - IntKind.u64.wrap (2 ^ i)) = ((offN S i : Nat) : Int) := by
  have hb : (offN S i).testBit i = false := by rw [offN_bit]; simp
  have ha := add_pow (offN S i) i hi (offN_lt S i hS) hb
  have h1 := shl_one i hi
  rw [Int.one_mul] at h1
  have e : offN S i ||| 2 ^ i = S := by
    refine Nat.eq_of_testBit_eq fun j => ?_
    rw [Nat.testBit_or, offN_bit, Nat.testBit_two_pow]
    by_cases e : i = j
    · subst e; simp [h]
    · simp [e]
  rw [h1] at ha ⊢
  rw [e, IntKind.wrap_u64] at ha
  have hp : (2 : Nat) ^ i < 18446744073709551616 := Nat.lt_of_lt_of_le (Nat.pow_lt_pow_right (by omega) hi) (by decide)
  have hs2 : offN S i + 2 ^ i = S := by
    have hx := BitVec.add_eq_or_of_and_eq_zero (BitVec.ofNat 65 (offN S i)) (BitVec.ofNat 65 (2 ^ i)) (by
      rw [← BitVec.ofNat_and, and_two_pow_no _ i hb])
    have := congrArg BitVec.toNat hx
    rw [BitVec.toNat_add, BitVec.toNat_or, BitVec.toNat_ofNat, BitVec.toNat_ofNat, Nat.mod_eq_of_lt (Nat.lt_of_lt_of_le (offN_lt S i hS) (by decide)), Nat.mod_eq_of_lt (Nat.lt_of_lt_of_le hp (by decide)), Nat.mod_eq_of_lt (show offN S i + 2 ^ i < 2 ^ 65 from by have := offN_lt S i hS; omega)] at this
    rw [this, e]
  have hlt := offN_lt S i hS
  rw [IntKind.wrap_u64]
  have : (S : Int) - ((2 ^ i : Nat) : Int) = ((offN S i : Nat) : Int) := by omega
  rw [this]
  exact Int.emod_eq_of_lt (Int.natCast_nonneg _) (Int.ofNat_lt.2 hlt)
/-- a set without those below k of another -/
def lessN (a b : Nat) : Nat → Nat
  | 0 => a
  | k + 1 => if b.testBit k then offN (lessN a b k) k else lessN a b k
theorem lessN_bit (a b : Nat) : ∀ (k j : Nat), (lessN a b k).testBit j = (a.testBit j && !(decide (j < k) && b.testBit j))
  | 0, j => by simp [lessN]
  | k + 1, j => by
    unfold lessN
    split
    · rename_i h
      rw [offN_bit, lessN_bit a b k j]
      by_cases e : k = j
      · subst e; simp [h]
      · have : decide (j < k + 1) = decide (j < k) := decide_eq_decide.2 (by omega)
        simp [e, this]
    · rename_i h
      rw [lessN_bit a b k j]
      by_cases e : k = j
      · subst e; simp [h]
      · have : decide (j < k + 1) = decide (j < k) := decide_eq_decide.2 (by omega)
        simp [this]
theorem lessN_lt (a b : Nat) (ha : a < 18446744073709551616) : ∀ k, lessN a b k < 18446744073709551616
  | 0 => ha
  | k + 1 => by
    unfold lessN
    split
    · exact offN_lt _ _ (lessN_lt a b ha k)
    · exact lessN_lt a b ha k
theorem lessI_eq (a b : Nat) (ha : a < 18446744073709551616) (hb : b < 18446744073709551616) : lessI a b = ((lessN a b 64 : Nat) : Int) := by
  have hw : lessI a b = (((BitVec.ofNat 64 a &&& ~~~(BitVec.ofNat 64 b)).toNat : Nat) : Int) := by
    show IntKind.u64.wrap ((BitVec.ofInt 64 (a : Int) &&& ~~~(BitVec.ofInt 64 (b : Int))).toNat : Int) = _
    rw [BitVec.ofInt_natCast, BitVec.ofInt_natCast, IntKind.wrap_u64]
    exact Int.emod_eq_of_lt (Int.natCast_nonneg _) (Int.ofNat_lt.2 (BitVec.isLt _))
  rw [hw]
  congr 1
  refine Nat.eq_of_testBit_eq fun j => ?_
  rw [lessN_bit, BitVec.testBit_toNat, BitVec.getLsbD_and, BitVec.getLsbD_not, BitVec.getLsbD_ofNat, BitVec.getLsbD_ofNat]
  by_cases h : j < 64
  · simp [h]
  · rw [Nat.testBit_lt_two_pow (x := a) (Nat.lt_of_lt_of_le ha (show 2 ^ 64 ≤ 2 ^ j from Nat.pow_le_pow_right (by decide) (by omega)))]
    simp [h]
set_option maxHeartbeats 1000000 in
theorem withoutR_any (S i : Nat) (hi : i < 64) (hS : S < 18446744073709551616) (w : World) :
    Calls Tryz.prog 55 #[.int .u64 S, .int .i64 i] w fun e w' => e = .returned (.tuple #[.int .u64 (offN S i : Nat), .int .i64 0]) ∧ w = w' := by
  have hi0 : (0 : Int) ≤ (i : Int) := by omega
  have hi1 : (i : Int) < 64 := by omega
  have HH := hasR_any S i hi hS w
  cases hb : S.testBit i with
  | true =>
    have HA := Lib.hid (sub_pow S i hi hS hb)
    rw [hb] at HH
    clear hb
    go_enter Tryz.func55, Tryz.ntmps55
    go_wp2_with (go_at_call 54; refine HH.mono ?_; rintro e w' ⟨rfl, rfl⟩)
    go_ret2
    exact ⟨by rw [← HA.out]; rfl, rfl⟩
  | false =>
    have HO : Hid (offN S i = S) := by show _ = _; unfold offN; rw [hb]; rfl
    rw [hb] at HH
    clear hb
    go_enter Tryz.func55, Tryz.ntmps55
    go_wp2_with (go_at_call 54; refine HH.mono ?_; rintro e w' ⟨rfl, rfl⟩)
    go_ret2
    exact ⟨by rw [HO.out]; rfl, rfl⟩
set_option maxHeartbeats 1000000 in
theorem lessR_any (a b : Nat) (ha : a < 18446744073709551616) (hb : b < 18446744073709551616) (w : World) :
    Calls Tryz.prog 36 #[.int .u64 a, .int .u64 b] w fun e w' => e = .returned (.int .u64 (lessI a b)) ∧ w = w' := by
  have HE := Lib.hid (lessI_eq a b ha hb)
  have HL := lessN_lt a b ha
  have HS := fun k => Lib.hid (show lessN a b (k + 1) = if b.testBit k then offN (lessN a b k) k else lessN a b k from rfl)
  have H0 : Hid (lessN a b 0 = a) := rfl
  generalize lessN a b = f at *
  go_enter Tryz.func36, Tryz.ntmps36
  go_wp2_with fail
  go_loopg [0, 5] 64 (fun gg s0 s5 wr => ∃ k : Nat, k ≤ 64 ∧ 64 - k ≤ gg ∧ s0 = .int .u64 (f k : Nat) ∧ s5 = .int .i64 k ∧ w = wr)
  case atStart => exact ⟨0, by omega, by omega, by rw [H0.out], rfl, rfl⟩
  case round =>
    obtain ⟨k, hk, hg, rfl, rfl, rfl⟩ := hrel
    by_cases hlt : k < 64
    · have hltz : (k : Int) < 64 := by omega
      have HH := hasR_any b k hlt hb w
      have HW := withoutR_any (f k) k hlt (HL k) w
      have HSk := HS k
      clear HL HS H0 HE
      cases hbit : b.testBit k with
      | true =>
        rw [hbit] at HH
        have HSk2 : Hid (f (k + 1) = offN (f k) k) := by show _ = _; rw [HSk.out, hbit]; rfl
        clear hbit HSk
        go_wp2_with (first
          | (go_at_call 54; refine HH.mono ?_; rintro e w' ⟨rfl, rfl⟩)
          | (go_at_call 55; refine HW.mono ?_; rintro e w' ⟨rfl, rfl⟩))
        go_roundg (64 - (k + 1))
        case measure => omega
        case rel => exact ⟨k + 1, by omega, by omega, by rw [HSk2.out], by go_num, rfl⟩
      | false =>
        rw [hbit] at HH
        have HSk2 : Hid (f (k + 1) = f k) := by show _ = _; rw [HSk.out, hbit]; rfl
        clear hbit HSk HW
        go_wp2_with (go_at_call 54; refine HH.mono ?_; rintro e w' ⟨rfl, rfl⟩)
        go_roundg (64 - (k + 1))
        case measure => omega
        case rel => exact ⟨k + 1, by omega, by omega, by rw [HSk2.out], by go_num, rfl⟩
    · have hltz : ¬ (k : Int) < 64 := by omega
      obtain rfl : k = 64 := by omega
      go_wp2_with fail
      go_ret
      exact ⟨by rw [HE.out]; rfl, rfl⟩
set_option maxRecDepth 100000 in
theorem ruCatsR_any (r : RuT) (hS : r.src.2.1 < 18446744073709551616 ∧ r.dst.2.1 < 18446744073709551616) (w : World) : Calls Tryz.prog 21 #[ruV r] w fun e w' => e = .returned (.int .u64 (lessI r.src.2.1 r.dst.2.1)) ∧ Below w.heap.size w w' := by
  obtain ⟨id, ⟨l1, S1, i1⟩, ⟨l2, S2, i2⟩, bu, ⟨k, m, form⟩⟩ := r
  have HL := fun W => lessR_any S1 S2 hS.1 hS.2 W
  have B0 := (Below.refl _ w).alloc (Nat.le_refl _) (.cells #[.int .i64 id, .int .i64 l1, .int .u64 S1, .int .i64 i1, .int .i64 l2, .int .u64 S2, .int .i64 i2, .int .i64 bu, .int .i64 k, .int .i64 m, .string ⟨form.toArray⟩] 40)
  dsimp only at HL ⊢
  clear hS
  generalize lessI S1 S2 = X at *
  go_enter Tryz.func21, Tryz.ntmps21
  go_wp2_with fail
  with_reducible refine (HL _).mono ?_
  rintro e w1 ⟨rfl, rfl⟩
  go_wp2_with fail
  go_ret
  exact ⟨rfl, B0⟩
end Go.Proofs.YtmmdpjliknmhgaaGreatDoor
