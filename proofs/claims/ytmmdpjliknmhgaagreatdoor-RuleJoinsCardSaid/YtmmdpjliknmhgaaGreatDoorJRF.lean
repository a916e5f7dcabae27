/- Joined: LabNum; Cats; CatsL; LabA; LabB; LabR; LabN -/
import Derived.Test.YtmmdpjliknmhgaaGreatDoorJRB
import Derived.Shelf.Spec.TrailingZeros
import Derived.Test.YtmmdpjliknmhgaaGreatDoorShelf
import Derived.Deep.RegionHeld3
import Derived.Deep.RegionWith
import Derived.Deep.DeepCutAuto
import Derived.Outline
import Derived.Deep.CutBlock
import Derived.Stop.IfaceNil
import Derived.Lib.OthersKept
/- Numbers' digits, as the program and the document's answer take them: plain. -/
namespace Go.Proofs.YtmmdpjliknmhgaaGreatDoor
/-- do digits begin those of a number from least to most? -/
def begI (lo hi : Nat) (p : List UInt8) : Bool := (List.range' lo (hi + 1 - lo)).any fun (i : Nat) => p.isPrefixOf (digL i)
theorem begI_step (lo hi : Nat) (p : List UInt8) (h : lo ≤ hi) : begI lo hi p = (p.isPrefixOf (digL lo) || begI (lo + 1) hi p) := by
  unfold begI
  rw [show hi + 1 - lo = (hi + 1 - (lo + 1)) + 1 by omega, List.range'_succ, List.any_cons]
theorem begI_end (lo hi : Nat) (p : List UInt8) (h : hi < lo) : begI lo hi p = false := by
  unfold begI
  rw [show hi + 1 - lo = 0 by omega]; rfl
theorem begI_iff (lo hi : Nat) (p : List UInt8) : begI lo hi p = true ↔ ∃ i : Nat, lo ≤ i ∧ i ≤ hi ∧ p.isPrefixOf (digL i) = true := by
  unfold begI
  rw [List.any_eq_true]
  constructor
  · rintro ⟨i, hi, h⟩
    have := List.mem_range'_1.1 hi
    exact ⟨i, by omega, by omega, h⟩
  · rintro ⟨i, h1, h2, h⟩
    exact ⟨i, List.mem_range'_1.2 (by omega), h⟩
def pfx (m : Int) : List UInt8 := if m < 0 then [] else digL m
theorem dch_eq {n : Nat} {c : UInt8} (hc : dgB c = true) : (c == dch n) = decide (dvl c = (n : Int) % 10) := by
  rw [Bool.eq_iff_iff, beq_iff_eq, decide_eq_true_eq]
  constructor
  · rintro rfl; exact dvl_dch n
  · intro h; exact (dch_of n c hc h).symm
theorem pre1 {c : UInt8} (hc : dgB c = true) (i : Nat) (hi : i ≤ 63) : [c].isPrefixOf (digL i) = decide (dvl c = (if i < 10 then (i : Int) else i / 10)) := by
  by_cases h : i < 10
  · rw [digL_lt10 i h, if_pos h, List.isPrefixOf, dch_eq hc, show ((i : Int) % 10) = i by omega]; simp [List.isPrefixOf]
  · rw [digL_lt100 i h (by omega), if_neg h, List.isPrefixOf, dch_eq hc, show (((i / 10 : Nat) : Int) % 10) = i / 10 by omega]; simp [List.isPrefixOf]
theorem pre2 {c d : UInt8} (hc : dgB c = true) (hd : dgB d = true) (i : Nat) (hi : i ≤ 63) : [c, d].isPrefixOf (digL i) = (decide (10 ≤ i) && decide (dvl c = i / 10) && decide (dvl d = i % 10)) := by
  by_cases h : i < 10
  · rw [digL_lt10 i h]; simp [List.isPrefixOf, show ¬ 10 ≤ i by omega]
  · rw [digL_lt100 i h (by omega), List.isPrefixOf, List.isPrefixOf, dch_eq hc, dch_eq hd, show (((i / 10 : Nat) : Int) % 10) = i / 10 by omega]; simp [List.isPrefixOf, show 10 ≤ i by omega]
theorem pre3 (c d e : UInt8) (i : Nat) (hi : i ≤ 63) : [c, d, e].isPrefixOf (digL i) = false := by
  by_cases h : i < 10
  · rw [digL_lt10 i h]; simp [List.isPrefixOf]
  · rw [digL_lt100 i h (by omega)]; simp [List.isPrefixOf]
theorem beg_goes (lo hi : Nat) (h1 : lo ≤ hi) (h2 : hi ≤ 63) (m : Int) (hm : m = -1 ∨ (0 ≤ m ∧ m ≤ 63)) (c : UInt8) (hc : dgB c = true) : begI lo hi (pfx m ++ [c]) = goesB lo hi m c := by
  have hd := dvl_le hc
  rw [Bool.eq_iff_iff, begI_iff]
  rcases hm with rfl | ⟨hm0, hm1⟩
  · have hx : nxt (-1) c = dvl c := by rw [nxt, if_pos (by omega)]
    constructor
    · rintro ⟨i, a1, a2, a3⟩
      rw [show pfx (-1) ++ [c] = [c] from rfl, pre1 hc i (by omega), decide_eq_true_eq] at a3
      refine goesB_of hc (by omega) ?_
      rw [hx]
      refine canP_of ?_
      split at a3 <;> omega
    · intro hg
      obtain ⟨_, _, g⟩ := goesB_to hg
      rw [hx] at g
      rcases canP_to g with g | g
      · refine ⟨(dvl c).toNat, by omega, by omega, ?_⟩
        rw [show pfx (-1) ++ [c] = [c] from rfl, pre1 hc _ (by omega), decide_eq_true_eq, if_pos (by omega)]; omega
      · refine ⟨max lo (10 * (dvl c).toNat), by omega, by omega, ?_⟩
        rw [show pfx (-1) ++ [c] = [c] from rfl, pre1 hc _ (by omega), decide_eq_true_eq, if_neg (by omega)]; omega
  · obtain ⟨k, rfl⟩ := Int.eq_ofNat_of_zero_le hm0
    have hx : nxt (k : Int) c = 10 * k + dvl c := by rw [nxt, if_neg (by omega)]
    by_cases hk : k < 10
    · have hp : pfx (k : Int) ++ [c] = [dch k, c] := by rw [pfx, if_neg (by omega), digL_lt10 k hk]; rfl
      rw [hp]
      constructor
      · rintro ⟨i, a1, a2, a3⟩
        rw [pre2 (dgB_dch k) hc i (by omega), dvl_dch] at a3
        simp only [Bool.and_eq_true, decide_eq_true_eq] at a3
        refine goesB_of hc (by omega) ?_
        rw [hx]
        exact canP_of (.inl (by omega))
      · intro hg
        obtain ⟨_, g0, g⟩ := goesB_to hg
        rw [hx] at g
        have g' := canP_to g
        refine ⟨10 * k + (dvl c).toNat, by omega, by omega, ?_⟩
        rw [pre2 (dgB_dch k) hc _ (by omega), dvl_dch]
        simp only [Bool.and_eq_true, decide_eq_true_eq]
        omega
    · have hp : pfx (k : Int) ++ [c] = [dch (k / 10), dch k, c] := by rw [pfx, if_neg (by omega), digL_lt100 k hk (by omega)]; rfl
      rw [hp]
      constructor
      · rintro ⟨i, a1, a2, a3⟩
        rw [pre3 _ _ _ i (by omega)] at a3; cases a3
      · intro hg
        obtain ⟨_, _, g⟩ := goesB_to hg
        rw [hx] at g
        have := canP_to g
        omega
/-- what a digit taken makes of the digits so far -/
theorem pfx_next (lo hi : Nat) (h2 : hi ≤ 63) (m : Int) (hm : m = -1 ∨ (0 ≤ m ∧ m ≤ 63)) (c : UInt8) (hg : goesB lo hi m c = true) : pfx (nxt m c) = pfx m ++ [c] ∧ 0 ≤ nxt m c ∧ nxt m c ≤ 63 := by
  obtain ⟨hc, g0, g⟩ := goesB_to hg
  have hd := dvl_le hc
  have g' := canP_to g
  rcases hm with rfl | ⟨hm0, hm1⟩
  · have hx : nxt (-1) c = ((dvl c).toNat : Nat) := by rw [nxt, if_pos (by omega)]; omega
    rw [hx]
    refine ⟨?_, by omega, by omega⟩
    rw [pfx, if_neg (by omega), digL_lt10 _ (by omega), dch_of _ c hc (by omega)]; rfl
  · obtain ⟨k, rfl⟩ := Int.eq_ofNat_of_zero_le hm0
    have hx : nxt (k : Int) c = ((10 * k + (dvl c).toNat : Nat) : Int) := by rw [nxt, if_neg (by omega)]; omega
    rw [hx] at g' ⊢
    refine ⟨?_, by omega, by omega⟩
    have e1 : dch (10 * k + (dvl c).toNat) = c := dch_of _ c hc (by omega)
    rw [pfx, if_neg (by omega), digL_lt100 _ (by omega) (by omega), e1, show (10 * k + (dvl c).toNat) / 10 = k by omega, pfx, if_neg (by omega), digL_lt10 k (by omega)]
    rfl
end Go.Proofs.YtmmdpjliknmhgaaGreatDoor
/- Walks of layer 1: a set's categories, in a list; a set with one. -/
namespace Go.Proofs.YtmmdpjliknmhgaaGreatDoor
open Go.RowKit Go.Shelf
attribute [local go_sem] Oper.semAt_some
/-! ### the lowest category, and the others -/
theorem low_bits (k m i : Nat) : (2 ^ k * (2 * m + 1)).testBit i = (decide (k ≤ i) && (2 * m + 1).testBit (i - k)) ∧
    ((2 ^ k * (2 * m + 1)) &&& (2 ^ k * (2 * m + 1) - 1)).testBit i = ((2 ^ k * (2 * m + 1)).testBit i && decide (i ≠ k)) := by
  have h1 : (2 ^ k * (2 * m + 1)).testBit i = (decide (k ≤ i) && (2 * m + 1).testBit (i - k)) := by
    rw [Nat.mul_comm, Nat.testBit_mul_two_pow]
  refine ⟨h1, ?_⟩
  rw [Nat.testBit_and, h1]
  have e : 2 ^ k * (2 * m + 1) - 1 = 2 ^ k * (2 * m) + (2 ^ k - 1) := by
    have := Nat.two_pow_pos k
    rw [Nat.mul_add, Nat.mul_one]; omega
  rw [e, Nat.testBit_two_pow_mul_add _ (by have := Nat.two_pow_pos k; omega)]
  by_cases hk : i < k
  · simp [show ¬ k ≤ i by omega]
  · rw [if_neg hk]
    by_cases he : i = k
    · subst he; simp
    · obtain ⟨t, ht⟩ : ∃ t, i - k = t + 1 := ⟨i - k - 1, by omega⟩
      rw [ht, Nat.testBit_succ, Nat.testBit_succ, show (2 * m + 1) / 2 = m by omega, show 2 * m / 2 = m by omega]
      simp [he, show k ≤ i by omega]
theorem catsL_step (x : Nat) (h0 : x ≠ 0) (h : x < 18446744073709551616) : catsL x = Lib.ctz 64 x :: catsL (x &&& (x - 1)) ∧ (x &&& (x - 1)) < x := by
  obtain ⟨m, hm, hlt⟩ := Lib.ctzFrom_spec 64 x (by omega) h
  have hc : Lib.ctz 64 x = Lib.ctzFrom 64 x := by unfold Lib.ctz; rw [if_neg h0]
  rw [hc]
  generalize Lib.ctzFrom 64 x = k at *
  subst hm
  have hb := low_bits k m
  generalize hy : (2 ^ k * (2 * m + 1)) &&& (2 ^ k * (2 * m + 1) - 1) = y at *
  generalize hx : 2 ^ k * (2 * m + 1) = x at *
  have hyx : y ≤ x - 1 := by rw [← hy]; exact Nat.and_le_right
  refine ⟨?_, by omega⟩
  have hlow : ∀ i ∈ catsL y, k < i ∧ i < 64 := by
    intro i hi
    simp only [catsL, List.mem_filter, List.mem_range] at hi
    have h2 := (hb i).2
    rw [hi.2, (hb i).1] at h2
    simp at h2
    omega
  have hf : foldB 0 (k :: catsL y) = x := by
    refine Nat.eq_of_testBit_eq fun i => ?_
    rw [foldB_bit]
    simp only [Nat.zero_testBit, Bool.false_or, List.mem_cons, catsL, List.mem_filter, List.mem_range, (hb i).2]
    by_cases he : i = k
    · subst he; rw [(hb i).1]; simp
    · by_cases hi : i < 64
      · cases hxi : x.testBit i <;> simp [he, hi]
      · have : x.testBit i = false := Nat.testBit_lt_two_pow (Nat.lt_of_lt_of_le h (Nat.pow_le_pow_right (n := 2) (by omega) (show 64 ≤ i by omega)))
        simp [he, this]
  have := catsL_fold (k :: catsL y) (List.pairwise_cons.2 ⟨fun i hi => (hlow i hi).1, catsL_asc y⟩) (fun n hn => by
    rcases List.mem_cons.1 hn with rfl | hn
    · exact hlt
    · exact (hlow n hn).2)
  rw [hf] at this
  exact this
theorem catsL_zero : catsL 0 = [] := by simp [catsL]

/-! ### bits.TrailingZeros64 -/
abbrev Tab (w : World) : Prop := TabAt 2 Lib.deBruijn64tab w
set_option maxHeartbeats 1000000 in
theorem tz_core (x k idx : Nat) (w : World) (hx0 : ((x : Int) == 0) = false)
    (key : IntKind.u64.wrap (bits BinOp.and IntKind.u64 (x : Int) (IntKind.u64.wrap (-(x : Int))) * 285870213051353865) / 288230376151711744 = (idx : Int))
    (hi : idx < 64) (hk : k < 64) (hcell : w.cell? ⟨2, idx, none⟩ = some (.int .u8 k)) :
    Calls Tryz.prog 104 #[.int .u64 x] w fun e w' => e = .returned (.int .i64 k) ∧ w = w' := by
  go_enter Tryz.func104, Tryz.ntmps104
  go_wp2_with (simp only [key])
  go_ret
  exact ⟨rfl, rfl⟩
theorem tz_any (x : Nat) (h0 : x ≠ 0) (hx : x < 18446744073709551616) (w : World) (hT : Tab w) :
    Calls Tryz.prog 104 #[.int .u64 x] w fun e w' => e = .returned (.int .i64 (Lib.ctz 64 x)) ∧ w = w' := by
  obtain ⟨hlow, hk⟩ := Lib.lowest_bit 64 x h0 hx
  obtain ⟨hi, htab⟩ := Lib.deBruijn64_at _ hk
  have hcell := hT _ hi
  rw [htab] at hcell
  exact tz_core x _ _ w (by simp; omega) (tz64_key x _ hx h0 hlow) hi hk hcell
end Go.Proofs.YtmmdpjliknmhgaaGreatDoor
/- Walks of layer 1: a set's categories, in a list. -/
namespace Go.Proofs.YtmmdpjliknmhgaaGreatDoor
open Go.RowKit Go.Shelf
attribute [local go_sem] Oper.semAt_some
theorem grown_drew {A B : World} {row : Option Nat} (h : A.grownBy B row) : A.grownBy B.drew row := ⟨h.os, h.tape, h.output, h.size, h.block⟩
theorem infoI : (Tryz.prog.info? 3).map (fun i => (i.zero, i.size, i.bytes)) = some (some (.int .i64 0), 1, 8) := by kernel_rfl
theorem Tab.same {w w' : World} (h : Tab w) (hb : w'.heap[2]? = w.heap[2]?) : Tab w' := fun j hj => (World.cell?_of_block (w := w) (a := ⟨2, j, none⟩) hb).trans (h j hj)
theorem Tab.lt {w : World} (h : Tab w) : 2 < w.heap.size := World.block_lt_of_cell? w _ (h 0 (by decide))

theorem all_any (s : Nat) (w : World) :
    Calls Tryz.prog 87 #[.agg #[.int .u64 s]] w fun e w' => e = .returned (.func (.func 103) #[] #[.pointer (some ⟨w.heap.size, 0, none⟩)]) ∧ w.alloc (.cells #[.int .u64 s] 160) = w' := by
  have hmf : ∀ (fn : Fn) (first cap : Array Value) (w : World), (Instr.makeFunc fn first cap).run Tryz.prog w = .ok (.func fn first cap) w := fun _ _ _ _ => rfl
  go_enter Tryz.func87, Tryz.ntmps87
  go_wp2
  go_ret
  exact ⟨rfl, rfl⟩

theorem and_pred (x : Nat) (h0 : x ≠ 0) (h : x < 18446744073709551616) : bits BinOp.and IntKind.u64 (x : Int) ((x : Int) - 1) = ((x &&& (x - 1) : Nat) : Int) := by
  have e1 : (x : Int) - 1 = ((x - 1 : Nat) : Int) := by omega
  rw [e1, bits_and_u64_nat x _ h (by omega)]

set_option maxRecDepth 100000 in
set_option maxHeartbeats 1000000 in
theorem all1_seq (n b ob m S : Nat) (hS : S < 18446744073709551616) (W : World) (hb : Boxed W b 160 (.int .u64 S)) (hT : Tab W) (h4 : ob ≠ 2) (h8 : 2 < m) :
    SeqG Fence.wide n Tryz.prog 103 #[.pointer (some ⟨b, 0, none⟩)] (fun d : Nat => #[Value.int .i64 d]) (fun A B => A = B) (keepK m ob) (fun xs _ => xs = catsL S) (fun _ _ => True) (catsL S).length W := by
  intro l J Jx hJ hJx hY h0
  have hc := hb.cell
  (refine callsIn_of_wp Tryz.func103 rfl trivial ?_ rfl; simp only [Tryz.ntmps103, List.size_toArray, List.length_cons, List.length_nil, Nat.reduceAdd, Nat.reduceSub, Array.replicate_succ, Array.replicate_zero, List.push_toArray, List.append_toArray, List.nil_append, List.cons_append])
  refine wpIn_scope_w ?_
  gi_wp2
  refine wpIn_label ?_
  gi_wp2
  clear hc
  gi_loopw [3] (fun t wr => ∃ (pre : List Nat) (x : Nat), Hid (catsL S = pre ++ catsL x) ∧ x < 18446744073709551616 ∧ t = .int .u64 x ∧ Tab wr ∧ J pre wr) (fun t wr => (intOf t).toNat)
  case atStart => exact ⟨[], S, rfl, hS, rfl, hT, h0⟩
  case round =>
    obtain ⟨pre, x, hd, hm, rfl, hTw, hj⟩ := hrel
    by_cases hx0 : x = 0
    · subst hx0
      have HD : Hid (catsL S = pre) := by show _ = _; rw [hd.out, catsL_zero, List.append_nil]
      clear hd
      gi_wp2
      simp only [Exit.noGoto_normal]
      go_end0
      exact ⟨⟨_, rfl⟩, .inl ⟨_, HD.out.symm, hj⟩⟩
    · obtain ⟨hs1, hs2⟩ := catsL_step x hx0 hm
      have hz := tz_any x hx0 hm wr hTw
      have he : ((x : Int) != 0) = true := by simp; omega
      have ha := and_pred x hx0 hm
      generalize hy : x &&& (x - 1) = y at hs1 hs2 ha
      generalize Lib.ctz 64 x = k at hs1 hz
      clear hy
      have HD : Hid (catsL S = (pre ++ [k]) ++ catsL y) := by show _ = _; rw [hd.out, hs1]; simp
      clear hs1 hd
      have hlen2 : pre.length < (catsL S).length := by rw [HD.out]; simp
      obtain ⟨fn, tmps, assign, body, hy, hR⟩ := hY pre k wr hj hlen2
      clear hlen2
      gi_wp2_with (refine ⟨trivial, fun h => (by cases h), ?_⟩; gi_at_call 104; refine (callsIn_wide.2 hz).mono ?_; rintro e W1 ⟨rfl, rfl⟩)
      refine ⟨fun h => (by cases h), hR.mono ?_⟩
      rintro e V (⟨rfl, hj3, hk3⟩ | ⟨rfl, hj3⟩)
      · have hT3 : Tab V := hTw.same (hk3 _ h8 (Ne.symm h4))
        gi_wp2
        go_roundw
        case rel => exact ⟨_, y, HD, by omega, by simp, hT3, hj3⟩
        case measure => simp [intOf]; omega
      · gi_wp2
        simp only [Exit.noGoto_normal]
        go_end0
        exact ⟨⟨_, rfl⟩, .inr ⟨_, trivial, hj3⟩⟩

def intsV (l : List Nat) : List Value := l.map fun (i : Nat) => Value.int .i64 i
theorem catsL_len (s : Nat) : (catsL s).length ≤ 64 := by unfold catsL; exact Nat.le_trans (List.length_filter_le _ _) (by simp)
theorem intsV_len (l : List Nat) : (intsV l).length = l.length := by simp [intsV]

theorem row_base {W : World} {base base' : Nat} {e : TypeId} {size : Nat} {v : Value} {k : Nat} {xs : List Value} (h : W.ownsRow base e size v k xs) (hb : base' ≤ base) : W.ownsRow base' e size v k xs := by
  obtain ⟨h1, h2⟩ := h
  refine ⟨h1, ?_⟩
  rcases h2 with h2 | ⟨g, cap, cur, hv, hg, hr⟩
  · exact .inl h2
  · exact .inr ⟨g, cap, cur, hv, Nat.le_trans hb hg, hr⟩
/-- What a list that a call made reads as: nil, or a row of its own above base. -/
def RowOf (base : Nat) (t : TypeId) (n : Nat) (xs : List Value) (e : Ending) (w' : World) : Prop := ∃ v, e = .returned v ∧ w'.ownsRow base t 1 v n xs
set_option maxRecDepth 100000 in
set_option maxHeartbeats 2000000 in
theorem List_any (S : Nat) (hS : S < 18446744073709551616) (w : World) (hT : Tab w) :
    Calls Tryz.prog 64 #[.int .u64 S] w fun e w' => RowOf w.heap.size 3 (catsL S).length (intsV (catsL S)) e w' ∧ Below w.heap.size w w' := by
  obtain ⟨i0, hi, hz0, hz1, hz2⟩ := info_parts infoI
  have hlt := hT.lt
  refine (callsIn_wide (n := 3)).1 ?_
  (refine callsIn_of_wp_marks Tryz.func64 rfl trivial ?_ rfl; simp only [Tryz.ntmps64, List.size_toArray, List.length_cons, List.length_nil, Nat.reduceAdd, Nat.reduceSub, Array.replicate_succ, Array.replicate_zero, List.push_toArray, List.append_toArray, List.nil_append, List.cons_append])
  gi_wp2_with (refine ⟨trivial, ?_⟩; gi_at_call 87; refine (callsIn_wide.2 (all_any _ _)).mono ?_; rintro e w' ⟨rfl, rfl⟩)
  have o0 := Boxed.new w 108 (.slice none 0 0)
  have q0 := Boxed.new ((w.alloc (.cells #[.slice none 0 0] 108)).alloc (.cells #[.int .u64 S, .nilIface] 162)) 160 (.int .u64 S)
  rw [World.size_alloc, World.size_alloc] at q0
  have o1 := (o0.alloc (.cells #[.int .u64 S, .nilIface] 162)).alloc (.cells #[.int .u64 S] 160)
  have hB0 : Below w.heap.size w (((w.alloc (.cells #[.slice none 0 0] 108)).alloc (.cells #[.int .u64 S, .nilIface] 162)).alloc (.cells #[.int .u64 S] 160)) :=
    (((Below.refl _ w).alloc (Nat.le_refl _) _).alloc (by simp) _).alloc (by simp; omega) _
  have hz0' : (((w.alloc (.cells #[.slice none 0 0] 108)).alloc (.cells #[.int .u64 S, .nilIface] 162)).alloc (.cells #[.int .u64 S] 160)).heap.size = w.heap.size + 3 := by simp
  obtain ⟨W0, hW0⟩ : ∃ W0, ((w.alloc (.cells #[.slice none 0 0] 108)).alloc (.cells #[.int .u64 S, .nilIface] 162)).alloc (.cells #[.int .u64 S] 160) = W0 := ⟨_, rfl⟩
  rw [hW0] at o1 q0 hB0 hz0' ⊢
  clear hW0 o0
  have hT0 : Tab W0 := hT.same (hB0.block _ hlt)
  have hcl := catsL_len S
  refine range_law rfl (by omega) (gf := 103) (lb := #[.pointer (some ⟨w.heap.size + 2, 0, none⟩)]) rfl trivial (enters_of Tryz.func103 (by kernel_rfl) rfl)
    (G := fun A B => A = B) (Kp := keepK (w.heap.size + 3) w.heap.size)
    (fun W hW _ => all1_seq _ (w.heap.size + 2) w.heap.size (w.heap.size + 3) S hS W ((hW.block _ (by omega)).trans q0) (hT0.same (hW.block _ (by omega))) (by omega) (by omega)) keepK_t (by rw [hz0']; exact keepK_b) (fun A B h => by subst h; exact Keeps.refl _ _) (fun _ => rfl)
    (fun pre W => (∃ v, Boxed W w.heap.size 108 v ∧ W.ownsRow (w.heap.size + 3) 3 1 v pre.length (intsV pre)) ∧ Below w.heap.size w W ∧ w.heap.size + 3 ≤ W.heap.size) (fun _ _ _ => False)
    ((bears_ex fun v => (bears_boxed _ _ _ (fun _ => v)).and (bears_row _ _ _ _ (fun _ => v) _ _)).and ((bears_below (Nat.le_refl _) (by omega)).and (bears_size _ _))) (fun _ => bears_const _ _)
    (bears_const _ _) (bears_const _ _)
    (fun s A B h hg => by subst hg; exact h) (fun _ _ _ _ h _ => h)
    ⟨⟨_, o1, World.ownsRow_nil _ _ _ _⟩, hB0, by omega⟩
    (fun x => { tmps := #[.int .u64 S, undef, .slice none 0 0, .pointer (some ⟨w.heap.size, 0, none⟩), .pointer (some ⟨w.heap.size + 1, 0, none⟩), .int .i64 x, .int .u64 S, .agg #[.int .u64 S], .agg #[.int .u64 S, .nilIface], .pointer (some ⟨w.heap.size + 1, 0, none⟩),
      .pointer (some ⟨w.heap.size + 1, 0, none⟩), .pointer (some ⟨w.heap.size + 1, 0, none⟩), .pointer (some ⟨w.heap.size + 1, 0, none⟩), .agg #[.int .u64 S], .func (.func 103) #[] #[.pointer (some ⟨w.heap.size + 1 + 1, 0, none⟩)], .int .i64 x, undef, undef, undef, undef, undef], defers := [] }) ?assign ?body ?done ?stop
  case assign =>
    intro l x W K hK
    gi_wp2
    exact hK
  case body =>
    rintro l pre x W ⟨⟨v, hv, hrow⟩, hB, hz⟩ hlen
    have hc := hv.cell
    gi_wp2_with (gi_at_builtin; refine wpListIn_append_own _ rfl _ _ 108 rfl (w.heap.size + 3) 3 i0 (.int .i64 0) 1 8 Tryz.underlying108 hi hz0 hz1 hz2 rfl (by decide) _ _ _ rfl (hrow.alloc _) ⟨W.heap.size, 0, none⟩ 1 1 [.int .i64 x] rfl rfl (cell_one_new _ _ _) (by simp [Value.oneCell']) (by unfold maxLen; omega) (by omega) (by simp; omega) ?_; intro v' w1 hown' hgrow _; obtain ⟨g', cap', rfl⟩ := ownsRow_succ hown'; obtain ⟨hv1, hv2, hr2, hk2, hs2, hi2, hb2⟩ := appended hv (by decide) hrow hown' hgrow; have hc1 := hv1.cell; have hf1 := hv1.frozen)
    exact ⟨hk2 _, fun i hi ho => hi2 i (by omega) (by omega) ho, ⟨_, hv2, by simpa [intsV] using hr2⟩, hB.trans (hb2 _ (by omega) (by omega) (by omega)), by omega⟩
  case done =>
    rintro D xs W hD rfl ⟨⟨v, hv, hrow⟩, hB, hz⟩ hK
    have hc := hv.cell
    have hend : Below w.heap.size w (W.putObj D (.deferred none)) := hB.trans (belowK_b (w := w) (Nat.le_refl _) W D _ _ (by omega) hK rfl rfl)
    gi_wp2
    refine ⟨by simp, .inl ⟨_, _, rfl, run_takeDeferred hK, ?_⟩⟩
    refine ⟨_, results_tmp rfl _ _ _, ⟨v, rfl, ?_⟩, hend⟩
    exact (row_base (ownsRow_putObj hrow _ hK rfl) (by omega))
  case stop =>
    rintro D c pre W _ _ h _
    exact h.elim
end Go.Proofs.YtmmdpjliknmhgaaGreatDoor
/- Walks of layer 5: a label's text. -/
namespace Go.Proofs.YtmmdpjliknmhgaaGreatDoor
open Go.RowKit Go.Shelf
/-- a label -/
abbrev labV (lv : Int) (S : Nat) (ig : Int) : Value := .agg #[.int .i64 lv, .int .u64 S, .int .i64 ig]
def labB (lv ig : Int) : Bool := decide (0 ≤ lv) && decide (lv ≤ 15) && decide (0 ≤ ig) && decide (ig ≤ 7)
theorem labB_iff (lv ig : Int) : labB lv ig = true ↔ 0 ≤ lv ∧ lv ≤ 15 ∧ 0 ≤ ig ∧ ig ≤ 7 := by simp [labB, and_assoc]
theorem labRight_any (lv ig : Int) (S : Nat) (w : World) :
    Calls Tryz.prog 63 #[labV lv S ig] w fun e w' => e = .returned (.bool (labB lv ig)) ∧ Below w.heap.size w w' := by
  have H : Hid (∀ b : Bool, (b = true ↔ (0 ≤ lv ∧ lv ≤ 15 ∧ 0 ≤ ig ∧ ig ≤ 7)) → b = labB lv ig) := by
    show ∀ b : Bool, _ → _
    intro b h; rw [Bool.eq_iff_iff, labB_iff]; exact h
  go_enter Tryz.func63, Tryz.ntmps63
  by_cases h1 : 0 ≤ lv
  · by_cases h2 : lv ≤ 15
    · by_cases h3 : 0 ≤ ig
      · go_wp2
        go_ret
        exact ⟨ret_bool (H.out _ (by simp; omega)), (Below.refl _ w).alloc (Nat.le_refl _) _⟩
      · go_wp2
        go_ret
        exact ⟨ret_bool (H.out _ (by simp; omega)), (Below.refl _ w).alloc (Nat.le_refl _) _⟩
    · go_wp2
      go_ret
      exact ⟨ret_bool (H.out _ (by simp; omega)), (Below.refl _ w).alloc (Nat.le_refl _) _⟩
  · go_wp2
    go_ret
    exact ⟨ret_bool (H.out _ (by simp; omega)), (Below.refl _ w).alloc (Nat.le_refl _) _⟩
theorem Digits_any (n : Int) (w : World) (h : n ≤ 9223372036854775807) :
    Calls Tryz.prog 43 #[.int .i64 n] w fun e w' => e = .returned (.string ⟨(digL n).toArray⟩) ∧ Below w.heap.size w w' := by
  rcases Int.lt_or_le n 0 with h0 | h0
  · exact Digits_neg n w h0
  · obtain ⟨k, rfl⟩ := Int.eq_ofNat_of_zero_le h0
    exact Digits_pos k w h
def strsV (l : List (List UInt8)) : List Value := l.map fun s => Value.string ⟨s.toArray⟩
theorem join_joinC : ∀ l : List Nat, Lib.join (l.map fun (n : Nat) => digL n) [44] = joinC l
  | [] => rfl
  | [n] => Lib.join_one _ _
  | n :: m :: l => by
    have := join_joinC (m :: l)
    rw [List.map_cons, Lib.join_cons] at this
    rw [List.map_cons, List.map_cons, Lib.join_cons, joinC, ← this]
    simp [Lib.joinTail]
theorem joinC_len : ∀ l : List Nat, (∀ n ∈ l, n < 64) → (joinC l).length ≤ 20 * l.length
  | [], _ => by simp [joinC]
  | [n], h => by have := digL_len (n : Int) (by have := h n (by simp); omega); simp [joinC]; omega
  | n :: m :: l, h => by
    have h1 := digL_len (n : Int) (by have := h n (by simp); omega)
    have h2 := joinC_len (m :: l) (fun i hi => h i (by simp [hi]))
    simp [joinC] at h2 ⊢; omega
theorem infoS : (Tryz.prog.info? 9).map (fun i => (i.zero, i.size, i.bytes)) = some (some (.string ⟨#[]⟩), 1, 16) := by kernel_rfl
theorem joined_any (bk c : Nat) (xs : List Nat) (hx : xs ≠ []) (h64 : ∀ n ∈ xs, n < 64) (hl : xs.length ≤ 64) (w : World) (hcells : ∀ (j : Nat) (hj : j < xs.length), w.cell? ⟨bk, j, none⟩ = some (.string ⟨(digL xs[j]).toArray⟩)) (hcap : xs.length ≤ c) :
    Calls Tryz.prog 65 #[.string ⟨#[44]⟩, .slice (some ⟨bk, 0, none⟩) xs.length c] w fun e w' => e = .returned (.string ⟨(joinC xs).toArray⟩) ∧ Below w.heap.size w w' := by
  have hpos : 0 < xs.length := List.length_pos_iff.2 hx
  have hbk : bk < w.heap.size := World.block_lt_of_cell? w _ (hcells 0 hpos)
  have hjl := joinC_len xs h64
  have hm : (xs.map fun (n : Nat) => (⟨(digL n).toArray⟩ : ByteArray)).map (·.data.toList) = xs.map fun (n : Nat) => digL n := by simp
  have HJ := Tryz.strings_Join bk 0 c (xs.map fun (n : Nat) => (⟨(digL n).toArray⟩ : ByteArray)) ⟨#[44]⟩ w (by
      intro j x hj
      simp only [List.getElem?_map, Option.map_eq_some_iff] at hj
      obtain ⟨n, hn, rfl⟩ := hj
      obtain ⟨hj, rfl⟩ := List.getElem?_eq_some_iff.1 hn
      rw [Nat.zero_add]; exact hcells j hj) hbk (by simp; omega) (by simpa using hcap) (by rw [hm]; show (Lib.join _ [44]).length ≤ _; rw [join_joinC]; omega)
  rw [hm, List.length_map] at HJ
  have e44 : (ByteArray.mk #[44]).data.toList = [44] := rfl
  rw [e44, join_joinC] at HJ
  clear hm e44 hcells
  go_enter Tryz.func65, Tryz.ntmps65
  go_wp2_with (go_at_call 42; refine HJ.mono ?_; rintro e w' ⟨rfl, hb⟩)
  go_ret
  exact ⟨rfl, hb⟩
end Go.Proofs.YtmmdpjliknmhgaaGreatDoor
/- Walks of layer 5: a label's text, printed. -/
namespace Go.Proofs.YtmmdpjliknmhgaaGreatDoor
open Go.RowKit Go.Shelf
attribute [local go_sem] Oper.semAt_some
def printL (lv : Int) (S : Nat) (ig : Int) : List UInt8 := if labB lv ig then labT lv S ig else []
def labE (lv ig : Int) : Int := if labB lv ig then 0 else 20
theorem setT_len (S : Nat) : (setT S).length ≤ 1400 := by
  unfold setT; split
  · simp
  · have h1 := joinC_len (catsL S) (fun n hn => catsL_lt S n hn)
    have h2 := catsL_len S
    simp; omega
theorem label_box (W : World) (lv : Int) (S : Nat) (ig : Int) : Blk (W.alloc (.cells #[.int .i64 lv, .int .u64 S, .int .i64 ig] 36)) W.heap.size #[.int .i64 lv, .int .u64 S, .int .i64 ig] 36 := Blk.new _ _ _
theorem row_below {W W' : World} {base : Nat} {e : TypeId} {size : Nat} {v : Value} {k : Nat} {xs : List Value} (h : W.ownsRow base e size v k xs) (hb : Below W.heap.size W W') : W'.ownsRow base e size v k xs :=
  h.kept (grown_of_below hb none) (by
    rcases h.2 with ⟨rfl, _⟩ | ⟨g, cap, cur, rfl, _⟩
    · exact .inl rfl
    · exact .inr (by simp [Value.ownBlock]))
theorem sadd {P : Program} (a b : List UInt8) (h : a.length + b.length ≤ 9223372036854775807) (W : World) : (Op.stringOp .add ⟨a.toArray⟩ ⟨b.toArray⟩).run P W = .ok (.string ⟨(a ++ b).toArray⟩) W := by
  have := run_string_add_sum (P := P) (w := W) ⟨a.toArray⟩ ⟨b.toArray⟩ (by rw [ba_size, ba_size]; exact h)
  rw [this, ba_append]
theorem row_cap {W : World} {base : Nat} {e : TypeId} {size : Nat} {v : Value} {k : Nat} {xs : List Value} (h : W.ownsRow base e size v k xs) : ∀ a n cap, v = .slice a n cap → n ≤ cap := by
  intro a n cap hv
  rcases h.2 with ⟨rfl, _⟩ | ⟨g, c, cur, rfl, _, _, hc, _⟩
  · cases hv; omega
  · cases hv; exact hc
theorem row_grow {W2 W W' W1 : World} {e : TypeId} {v : Value} {k : Nat} {xs : List Value} {o : Obj} (hbr : Below W2.heap.size W2 W) (hbd : Below W.heap.size W W') (hown : W'.ownsRow W2.heap.size e 1 v k xs) (hgrow : (W'.alloc o).grownBy W1 v.ownBlock) : Below W2.heap.size W2 W1 := by
  have h1 := hbr.trans (hbd.mono (by have := hbr.size; omega))
  have h2 := h1.alloc h1.size o
  refine h2.grown hgrow h2.size fun j ej => ?_
  rcases hown.2 with ⟨rfl, _⟩ | ⟨g, c, cur, rfl, hg, _⟩
  · simp [Value.ownBlock] at ej
  · obtain rfl : g = j := by simpa [Value.ownBlock] using ej
    exact hg
/-- a row of texts read by their numbers -/
def digsV (l : List Nat) : List Value := l.map fun (n : Nat) => Value.string ⟨(digL n).toArray⟩
set_option maxRecDepth 100000 in
set_option maxHeartbeats 4000000 in
theorem print_yes (lv ig : Int) (S : Nat) (hS : S < 18446744073709551616) (w : World) (hT : Tab w) (h1 : 0 ≤ lv) (h2 : lv ≤ 15) (h3 : 0 ≤ ig) (h4 : ig ≤ 7) :
    Calls Tryz.prog 40 #[labV lv S ig] w fun e w' => e = .returned (.tuple #[.string ⟨(labT lv S ig).toArray⟩, .int .i64 0]) ∧ Below w.heap.size w w' := by
  obtain ⟨i0, hi, hz0, hz1, hz2'⟩ := info_parts infoS
  have HR := fun W => labRight_any lv ig S W
  rw [(labB_iff lv ig).2 ⟨h1, h2, h3, h4⟩] at HR
  have HL := fun W hW => List_any S hS W hW
  have HD1 := fun W => Digits_any lv W (by omega)
  have HD2 := fun W => Digits_any ig W (by omega)
  have L1 := digL_len lv (by omega)
  have L2 := digL_len ig (by omega)
  have L3 := setT_len S
  have hTl := hT.lt
  have b0 := label_box w lv S ig
  have hB0 := (Below.refl w.heap.size w).alloc (Nat.le_refl _) (.cells #[.int .i64 lv, .int .u64 S, .int .i64 ig] 36)
  go_enter Tryz.func40, Tryz.ntmps40
  go_wp2_with fail
  refine (HR _).mono ?_
  rintro e w1 ⟨rfl, hb1⟩
  have b1 := b0.below hb1 b0.lt
  have b10 := b1.cell 0
  have b11 := b1.cell 1
  have b12 := b1.cell 2
  simp at b10 b11 b12
  have hB1 := hB0.trans (hb1.mono hB0.size)
  go_wp2_with fail
  refine (HL _ (hT.same (hB1.block _ hTl))).mono ?_
  rintro e w2 ⟨⟨v, rfl, hrow⟩, hb2⟩
  clear HL HR b10 b11 b12
  have b2 := b1.below hb2 b1.lt
  have hB2 := hB1.trans (hb2.mono hB1.size)
  have hcl := catsL_len S
  have hc64 := catsL_lt S
  have hA4 : labT lv S ig = ([76] ++ digL lv) ++ setT S ++ [73] ++ digL ig := by simp [labT]
  have hST : Hid (setT S = if catsL S = [] then [] else 123 :: (joinC (catsL S) ++ [125])) := rfl
  obtain ⟨A4, HA4⟩ : ∃ A, Hid (A = labT lv S ig) := ⟨_, rfl⟩
  have hs1 := sadd (P := Tryz.prog) [76] (digL lv) (by simp; omega)
  have hs2 := sadd (P := Tryz.prog) ([76] ++ digL lv) (setT S) (by simp; omega)
  have hs3 := sadd (P := Tryz.prog) ([76] ++ digL lv ++ setT S) [73] (by simp; omega)
  have hs4 := sadd (P := Tryz.prog) ([76] ++ digL lv ++ setT S ++ [73]) (digL ig) (by simp; omega)
  rw [← hA4, ← HA4.out] at hs4
  clear hA4
  generalize [76] ++ digL lv ++ setT S ++ [73] = A3 at *
  generalize [76] ++ digL lv ++ setT S = A2 at *
  generalize [76] ++ digL lv = A1 at *
  generalize digL lv = DL at *
  generalize digL ig = DI at *
  generalize setT S = X at *
  generalize catsL S = C at *
  by_cases hC : C = []
  · subst hC
    obtain rfl : X = [] := hST.out
    obtain ⟨a, cap, rfl⟩ : ∃ a cap, v = .slice a 0 cap := by
      rcases (row_cells hrow).2 with ⟨rfl, h0⟩ | ⟨g, cap, rfl, _⟩
      · exact ⟨_, _, rfl⟩
      · exact ⟨_, _, rfl⟩
    clear hrow hST
    have b20 := b2.cell 0
    have b22 := b2.cell 2
    simp at b20 b22
    go_wp2_with fail
    refine wp_loop_rounds 1 ?_
    rw [rounds_succ]
    have holdB := fun W (h : Below w2.heap.size w2 W) => b2.below h b2.lt
    go_upto_region 12 with fail
    go_cut [2, 3] (fun x2 x3 wx => x2 = .string ⟨A4.toArray⟩ ∧ x3 = .int .i64 0 ∧ Below w2.heap.size w2 wx)
    case first =>
      go_region_held3 (fun u => u.cell? ⟨w.heap.size, 0, none⟩ = some (.int .i64 lv) ∧ u.cell? ⟨w.heap.size, 2, none⟩ = some (.int .i64 ig)) (first | go_keep | exact ⟨k30, k32⟩ | exact ⟨k40, k42⟩)
        (first
          | (go_at_call 43; (with_reducible refine (HD1 _).mono ?_); rintro e w3 ⟨rfl, hb3⟩; have hh3 := (Below.refl w2.heap.size w2).drew.trans hb3; have k30 := (holdB w3 hh3).cell 0; have k32 := (holdB w3 hh3).cell 2; simp at k30 k32)
          | (go_at_call 43; (with_reducible refine (HD2 _).mono ?_); rintro e w4 ⟨rfl, hb4⟩; have hh4 := hh3.trans (hb4.mono hh3.size); have k40 := (holdB w4 hh4).cell 0; have k42 := (holdB w4 hh4).cell 2; simp at k40 k42))
      all_goals (go_wp2_with fail; go_meet)
      all_goals exact ⟨rfl, rfl, hh4⟩
    case rest =>
      obtain ⟨rfl, rfl, hb5⟩ := hcut
      go_wp2_with fail
      go_ret2
      exact ⟨by rw [← HA4.out]; rfl, hB2.trans (hb5.mono hB2.size)⟩
  · have hpos : 0 < C.length := List.length_pos_iff.2 hC
    have HX : Hid (X = 123 :: (joinC C ++ [125])) := by show _ = _; rw [hST.out, if_neg hC]
    clear hST
    rcases (row_cells hrow).2 with ⟨rfl, h0⟩ | ⟨g, cap, rfl, hgb, hcells⟩
    · omega
    clear hrow hgb
    have hg2 : g < w2.heap.size := World.block_lt_of_cell? w2 _ (hcells 0 (by rw [intsV_len]; omega))
    have hcl' : (C.length : Int) ≤ 64 := by omega
    go_wp2_with fail
    go_loopw [4, 6, 15, 16, 17, 18, 19, 20, 21, 22, 23, 24] (fun l _ i _ _ _ _ _ _ _ _ _ wr => ∃ n : Nat, n ≤ C.length ∧ i = .int .i64 n ∧ wr.ownsRow w2.heap.size 9 1 l n (digsV (C.take n)) ∧ Below w2.heap.size w2 wr) (fun _ _ i _ _ _ _ _ _ _ _ _ _ => C.length - (intOf i).toNat)
    case atStart => exact ⟨0, by omega, rfl, World.ownsRow_nil _ _ _ _, Below.refl _ _⟩
    case round =>
      obtain ⟨n, hn, rfl, hown, hbr⟩ := hrel
      by_cases hlt : n < C.length
      · have hcn : wr.cell? ⟨g, n, none⟩ = some (.int .i64 C[n]) := by
          rw [hbr.cell (p := ⟨g, n, none⟩) hg2, hcells n (by rw [intsV_len]; exact hlt)]; simp [intsV]
        have hD := Digits_any (C[n] : Int) wr (by have := hc64 C[n] (List.getElem_mem hlt); omega)
        have HT : Hid (digsV (C.take (n + 1)) = digsV (C.take n) ++ [.string ⟨(digL C[n]).toArray⟩]) := by
          show _ = _; rw [List.take_succ_eq_append_getElem hlt, digsV, List.map_append]; rfl
        generalize C[n] = c at *
        generalize digL c = DC at *
        go_wp2_with fail
        refine hD.mono ?_
        rintro e wd ⟨rfl, hbd⟩
        have hownd := row_below hown hbd
        have hzd := hbd.size
        have hz2 := hbr.size
        go_wp2_with (at_builtin; refine wpList_append_own _ rfl _ _ 81 rfl w2.heap.size 9 i0 (.string ⟨#[]⟩) 1 16 Tryz.underlying81 hi hz0 hz1 hz2' rfl (by decide) _ _ _ rfl (hownd.alloc _) ⟨wd.heap.size, 0, none⟩ 1 1 [.string ⟨DC.toArray⟩] rfl rfl (cell_one_new _ _ _) (by simp [Value.oneCell']) (by unfold maxLen; omega) (by omega) (by simp; omega) ?_; intro v' w1' hown' hgrow _)
        go_roundw
        case rel => exact ⟨n + 1, by omega, by go_num, by rw [HT.out]; exact hown', row_grow hbr hbd hownd hgrow⟩
        case measure => simp [intOf]; omega
      · obtain rfl : n = C.length := by omega
        rw [List.take_length] at hown
        have hcap := (row_cap hown)
        rcases (row_cells hown).2 with ⟨rfl, h0⟩ | ⟨g', cap', rfl, hgb', hcells'⟩
        · omega
        clear hown
        have HJ := joined_any g' cap' C hC hc64 hcl wr (fun j hj => by rw [hcells' j (by simpa [digsV] using hj)]; simp [digsV]) (hcap _ _ _ rfl)
        have hJ1 := sadd (P := Tryz.prog) [123] (joinC C) (by have := joinC_len C hc64; simp; omega)
        have hJ2 := sadd (P := Tryz.prog) ([123] ++ joinC C) [125] (by have := joinC_len C hc64; simp; omega)
        rw [show [123] ++ joinC C ++ [125] = X by rw [HX.out]; simp] at hJ2
        generalize [123] ++ joinC C = XJ at *
        generalize joinC C = JC at *
        have hpos' : (0 : Int) < (C.length : Int) := by omega
        clear hcells hcells'
        go_wp2_with fail
        refine HJ.mono ?_
        rintro e w5 ⟨rfl, hb5⟩
        have hbr5 := hbr.trans (hb5.mono hbr.size)
        have hB5 := hB2.trans (hbr5.mono hB2.size)
        have b5 := b2.below hbr5 b2.lt
        have b50 := b5.cell 0
        have b52 := b5.cell 2
        simp at b50 b52
        have holdB := fun W (h : Below w5.heap.size w5 W) => b5.below h b5.lt
        go_upto_region 12 with fail
        go_cut [2, 3] (fun x2 x3 wx => x2 = .string ⟨A4.toArray⟩ ∧ x3 = .int .i64 0 ∧ Below w5.heap.size w5 wx)
        case first =>
          go_region_held3 (fun u => u.cell? ⟨w.heap.size, 0, none⟩ = some (.int .i64 lv) ∧ u.cell? ⟨w.heap.size, 2, none⟩ = some (.int .i64 ig)) (first | go_keep | exact ⟨k30, k32⟩ | exact ⟨k40, k42⟩)
            (first
              | (go_at_call 43; (with_reducible refine (HD1 _).mono ?_); rintro e w3 ⟨rfl, hb3⟩; have hh3 := (Below.refl w5.heap.size w5).drew.trans hb3; have k30 := (holdB w3 hh3).cell 0; have k32 := (holdB w3 hh3).cell 2; simp at k30 k32)
              | (go_at_call 43; (with_reducible refine (HD2 _).mono ?_); rintro e w4 ⟨rfl, hb4⟩; have hh4 := hh3.trans (hb4.mono hh3.size); have k40 := (holdB w4 hh4).cell 0; have k42 := (holdB w4 hh4).cell 2; simp at k40 k42))
          all_goals (go_wp2_with fail; go_meet)
          all_goals exact ⟨rfl, rfl, hh4⟩
        case rest =>
          obtain ⟨rfl, rfl, hb6⟩ := hcut
          go_wp2_with fail
          go_ret2
          exact ⟨by rw [← HA4.out]; rfl, hB5.trans (hb6.mono hB5.size)⟩
end Go.Proofs.YtmmdpjliknmhgaaGreatDoor
/- Walks of layer 5: the reader of a label's text. -/
namespace Go.Proofs.YtmmdpjliknmhgaaGreatDoor
open Go.RowKit Go.Shelf
attribute [local go_sem] Oper.semAt_some
/-- where something is wrong -/
def errL (bad : Bool) (at_ : Int) : Value := if bad then .iface 194 (.agg #[.int .i64 at_]) else .nilIface
/-- the reader: what is left, the size, whether something is wrong -/
def RdL (W : World) (b : Nat) (n : Nat) (s : List UInt8 × Bool) : Prop := Blk W b #[.string ⟨s.1.toArray⟩, .int .i64 n, errL s.2 ((n : Int) - s.1.length)] 176
def lift {α : Type} (d : α) (f : List UInt8 → PR α) (s : List UInt8 × Bool) : α × (List UInt8 × Bool) :=
  if s.2 then (d, s) else match f s.1 with
    | (none, r) => (d, (r, true))
    | (some a, r) => (a, (r, false))
theorem RdL.cells {W : World} {b n : Nat} {s : List UInt8 × Bool} (h : RdL W b n s) : W.cell? ⟨b, 0, none⟩ = some (.string ⟨s.1.toArray⟩) ∧ W.cell? ⟨b, 1, none⟩ = some (.int .i64 n) ∧ W.cell? ⟨b, 2, none⟩ = some (errL s.2 ((n : Int) - s.1.length)) := by
  have c0 := Blk.cell h 0
  have c1 := Blk.cell h 1
  have c2 := Blk.cell h 2
  simp at c0 c1 c2
  exact ⟨c0, c1, c2⟩
theorem fail_any (b n : Nat) (r : List UInt8) (bad : Bool) (w : World) (h : RdL w b n (r, bad)) (hl : r.length ≤ n) (hn : n ≤ 1000000) :
    Calls Tryz.prog 99 #[.pointer (some ⟨b, 0, none⟩)] w fun e w' => e = .returned (.tuple #[]) ∧ RdL w' b n (r, true) ∧ w.grownBy w' (some b) := by
  obtain ⟨c0, c1, c2⟩ := h.cells
  have f2 := Blk.frozen h 2
  have f0 := Blk.frozen h 0
  cases bad with
  | true =>
    simp only [errL, if_true] at c2
    have hx : Hid (RdL w b n (r, true)) := h
    have hI : Tryz.prog.isIface 50 = true := by kernel_rfl
    go_enter Tryz.func99, Tryz.ntmps99
    go_wp2
    go_end0
    exact ⟨rfl, hx, .refl _ _⟩
  | false =>
    simp only [errL, Bool.false_eq_true, if_false] at c2
    have H := Lib.hid h
    clear h
    go_enter Tryz.func99, Tryz.ntmps99
    go_wp2_with fail
    have hs0 := fun v => Blk.cell (Blk.set 2 v H.out) 0
    have hs1 := fun v => Blk.cell (Blk.set 2 v H.out) 1
    have hw : IntKind.i64.wrap ((n : Int) - r.length) = n - r.length := IntWalk.i64_in _ (by omega)
    simp at hs0 hs1
    go_region_held3 (fun u => u.cell? ⟨b, 0, none⟩ = some (.string ⟨r.toArray⟩) ∧ u.cell? ⟨b, 1, none⟩ = some (.int .i64 n)) (first | go_keep | exact ⟨hs0 _, hs1 _⟩) (fail)
    all_goals go_wp2_with fail
    all_goals go_end0
    all_goals exact ⟨rfl, by simpa [RdL, errL] using (Blk.set 2 (.iface 194 (.agg #[.int .i64 ((n : Int) - r.length)])) H.out).drew, grown_drew (grownBy_setCellB w b 2 _)⟩
/-- a sign, if it is there -/
theorem is_any (c : UInt8) (b n : Nat) (r : List UInt8) (bad : Bool) (w : World) (h : RdL w b n (r, bad)) (hn : r.length ≤ 1000000) :
    Calls Tryz.prog 118 #[.pointer (some ⟨b, 0, none⟩), .string ⟨#[c]⟩] w fun e w' => e = .returned (.bool (lift false (pis c) (r, bad)).1) ∧ RdL w' b n (lift false (pis c) (r, bad)).2 ∧ w.grownBy w' (some b) := by
  have hI : Tryz.prog.isIface 50 = true := by kernel_rfl
  obtain ⟨c0, c1, c2⟩ := h.cells
  have f0 := Blk.frozen h 0
  have hCP : ∀ W, Calls Tryz.prog 135 #[.string ⟨r.toArray⟩, .string ⟨#[c]⟩] W fun e w' => e = .returned (.tuple #[.string ⟨(Lib.trimPrefix (ByteArray.mk r.toArray).data.toList (ByteArray.mk #[c]).data.toList).toArray⟩, .bool (Lib.hasPrefix (ByteArray.mk r.toArray).data.toList (ByteArray.mk #[c]).data.toList)]) ∧ W = w' :=
    fun W => (Tryz.strings_CutPrefix ⟨r.toArray⟩ ⟨#[c]⟩ W).mono fun _ _ h => ⟨h.1, h.2.symm⟩
  have H := Lib.hid h
  clear h
  cases bad with
  | true =>
    simp only [errL, if_true] at c2
    have hL : lift false (pis c) (r, true) = (false, (r, true)) := rfl
    rw [hL]
    generalize Lib.hasPrefix (ByteArray.mk r.toArray).data.toList (ByteArray.mk #[c]).data.toList = HB at *
    generalize (Lib.trimPrefix (ByteArray.mk r.toArray).data.toList (ByteArray.mk #[c]).data.toList) = TB at *
    cases HB with
    | true =>
      go_enter Tryz.func118, Tryz.ntmps118
      go_wp2_with (go_at_call 135; refine (hCP _).mono ?_; rintro e w' ⟨rfl, rfl⟩)
      go_ret
      exact ⟨rfl, H.out, .refl _ _⟩
    | false =>
      go_enter Tryz.func118, Tryz.ntmps118
      go_wp2_with (go_at_call 135; refine (hCP _).mono ?_; rintro e w' ⟨rfl, rfl⟩)
      go_ret
      exact ⟨rfl, H.out, .refl _ _⟩
  | false =>
    simp only [errL, Bool.false_eq_true, if_false] at c2
    have yes : ∀ r', r = c :: r' → Lib.hasPrefix (ByteArray.mk r.toArray).data.toList (ByteArray.mk #[c]).data.toList = true ∧ Lib.trimPrefix (ByteArray.mk r.toArray).data.toList (ByteArray.mk #[c]).data.toList = r' := by
      rintro r' rfl; constructor
      · simp [Lib.hasPrefix]
      · simp [Lib.trimPrefix, Lib.hasPrefix]
    have no : (∀ r', r ≠ c :: r') → Lib.hasPrefix (ByteArray.mk r.toArray).data.toList (ByteArray.mk #[c]).data.toList = false ∧ pis c r = (some false, r) := by
      intro hr
      cases r with
      | nil => exact ⟨rfl, rfl⟩
      | cons d r =>
        have hd : d ≠ c := fun e => hr r (by rw [e])
        have hd' : (c == d) = false := by simpa using fun e => hd e.symm
        exact ⟨by show [c].isPrefixOf (d :: r) = false; rw [List.isPrefixOf, hd']; rfl, by simp [pis, hd]⟩
    by_cases hr : ∃ r', r = c :: r'
    · obtain ⟨r', rfl⟩ := hr
      obtain ⟨e1, e2⟩ := yes r' rfl
      have hL : lift false (pis c) (c :: r', false) = (true, (r', false)) := by simp [lift, pis]
      rw [hL]
      rw [e1, e2] at hCP
      clear e1 e2 yes no hL
      have hs := Blk.set 0 (.string ⟨r'.toArray⟩) H.out
      have HS := Lib.hid hs
      clear hs
      go_enter Tryz.func118, Tryz.ntmps118
      go_wp2_with (go_at_call 135; refine (hCP _).mono ?_; rintro e w' ⟨rfl, rfl⟩)
      go_ret
      exact ⟨rfl, by simpa [RdL, errL] using HS.out, grownBy_setCellB w b 0 _⟩
    · obtain ⟨e1, e2⟩ := no fun r' e => hr ⟨r', e⟩
      have hL : lift false (pis c) (r, false) = (false, (r, false)) := by simp [lift, e2]
      rw [hL]
      rw [e1] at hCP
      clear e1 e2 yes no hL hr
      go_enter Tryz.func118, Tryz.ntmps118
      go_wp2_with (go_at_call 135; refine (hCP _).mono ?_; rintro e w' ⟨rfl, rfl⟩)
      go_ret
      exact ⟨rfl, H.out, .refl _ _⟩
/-- a sign -/
theorem must_any (c : UInt8) (b n : Nat) (r : List UInt8) (bad : Bool) (w : World) (h : RdL w b n (r, bad)) (hl : r.length ≤ n) (hn : n ≤ 1000000) :
    Calls Tryz.prog 96 #[.pointer (some ⟨b, 0, none⟩), .string ⟨#[c]⟩] w fun e w' => e = .returned (.tuple #[]) ∧ RdL w' b n (lift () (pmust c) (r, bad)).2 ∧ w.grownBy w' (some b) := by
  have HI := is_any c b n r bad w h (by omega)
  have hfail := fun (r2 : List UInt8) (bad2 : Bool) u (hu : RdL u b n (r2, bad2)) (hl2 : r2.length ≤ n) => fail_any b n r2 bad2 u hu hl2 hn
  have hcase : ((lift false (pis c) (r, bad)).1 = true ∧ (lift () (pmust c) (r, bad)).2 = (lift false (pis c) (r, bad)).2) ∨ ((lift false (pis c) (r, bad)).1 = false ∧ (lift false (pis c) (r, bad)).2 = (r, bad) ∧ (lift () (pmust c) (r, bad)).2 = (r, true)) := by
    cases bad with
    | true => exact .inr ⟨rfl, rfl, rfl⟩
    | false =>
      cases r with
      | nil => exact .inr ⟨rfl, rfl, rfl⟩
      | cons d r =>
        by_cases hd : d = c
        · left; simp [lift, pis, pmust, hd]
        · right; simp [lift, pis, pmust, hd]
  rcases hcase with ⟨h1, h2⟩ | ⟨h1, h2, h3⟩
  · rw [h2]
    rw [h1] at HI
    generalize (lift false (pis c) (r, bad)).2 = s2 at *
    clear h1 h2 hfail
    have HIH := Lib.hid HI
    clear HI
    go_enter Tryz.func96, Tryz.ntmps96
    go_wp2_with fail
    refine HIH.out.mono ?_
    rintro e w1 ⟨rfl, hr1, hg1⟩
    have HR := Lib.hid hr1
    clear hr1
    go_wp2_with fail
    go_end0
    exact ⟨rfl, HR.out, hg1⟩
  · rw [h3]
    rw [h1, h2] at HI
    clear h1 h2 h3
    have HIH := Lib.hid HI
    clear HI h
    go_enter Tryz.func96, Tryz.ntmps96
    go_wp2_with fail
    refine HIH.out.mono ?_
    rintro e w1 ⟨rfl, hr1, hg1⟩
    have HF := Lib.hid (hfail r bad w1 hr1 hl)
    clear hr1 hfail
    go_wp2_with fail
    refine HF.out.mono ?_
    rintro e w2 ⟨rfl, hr2, hg2⟩
    have HR := Lib.hid hr2
    clear hr2
    go_wp2_with fail
    go_end0
    exact ⟨rfl, HR.out, grownBy_t hg1 hg2⟩
end Go.Proofs.YtmmdpjliknmhgaaGreatDoor
/- Walks of layer 5: digits that begin a number's, a number. -/
namespace Go.Proofs.YtmmdpjliknmhgaaGreatDoor
open Go.RowKit Go.Shelf
attribute [local go_sem] Oper.semAt_some
set_option maxHeartbeats 1000000 in
theorem begins_any (p : List UInt8) (lo hi : Nat) (h2 : hi ≤ 63) (w : World) :
    Calls Tryz.prog 119 #[.string ⟨p.toArray⟩, .int .i64 lo, .int .i64 hi] w fun e w' => e = .returned (.bool (begI lo hi p)) ∧ Below w.heap.size w w' := by
  go_enter Tryz.func119, Tryz.ntmps119
  go_wp2
  go_loopw [7] (fun i wr => ∃ k : Nat, lo ≤ k ∧ i = .int .i64 k ∧ Hid (begI lo hi p = begI k hi p) ∧ (k ≤ 64 ∨ k = lo) ∧ Below w.heap.size w wr) (fun i _ => hi + 1 - (intOf i).toNat)
  case atStart => exact ⟨lo, Nat.le_refl _, rfl, rfl, .inr rfl, Below.refl _ _⟩
  case round =>
    obtain ⟨k, hk, rfl, hb, hk64, hbr⟩ := hrel
    by_cases hlt : k ≤ hi
    · have hD := Digits_any (k : Int) wr (by omega)
      have hP : ∀ W, Calls Tryz.prog 136 #[.string ⟨(digL k).toArray⟩, .string ⟨p.toArray⟩] W fun e w' => e = .returned (.bool (p.isPrefixOf (digL k))) ∧ W = w' :=
        fun W => (Tryz.strings_HasPrefix ⟨(digL k).toArray⟩ ⟨p.toArray⟩ W).mono fun _ _ h => ⟨h.1, h.2.symm⟩
      have HB : Hid (begI lo hi p = (p.isPrefixOf (digL k) || begI (k + 1) hi p)) := by show _ = _; rw [hb.out, begI_step k hi p hlt]
      clear hb
      generalize digL k = DK at *
      generalize p.isPrefixOf DK = PB at *
      go_wp2_with fail
      refine hD.mono ?_
      rintro e w1 ⟨rfl, hb1⟩
      clear hD
      have hbr1 := hbr.trans (hb1.mono hbr.size)
      cases PB with
      | true =>
        go_wp2_with (go_at_call 136; refine (hP _).mono ?_; rintro e w' ⟨rfl, rfl⟩)
        go_ret
        exact ⟨by rw [HB.out]; rfl, hbr1⟩
      | false =>
        go_wp2_with (go_at_call 136; refine (hP _).mono ?_; rintro e w' ⟨rfl, rfl⟩)
        go_roundw
        case rel => exact ⟨k + 1, by omega, by go_num, by show _ = _; rw [HB.out]; rfl, by omega, hbr1⟩
        case measure => simp [intOf]; omega
    · have HB : Hid (begI lo hi p = false) := by show _ = _; rw [hb.out, begI_end k hi p (by omega)]
      clear hb
      go_wp2_with fail
      go_ret
      exact ⟨by rw [HB.out]; rfl, hbr⟩
/-- where a number's digits end -/
def NumAt (lo hi : Nat) (r : List UInt8) (pos : Nat) (m : Int) : Prop := pos ≤ r.length ∧ (m = -1 ∧ pos = 0 ∨ 0 ≤ m ∧ m ≤ 63 ∧ 0 < pos) ∧ pfx m = r.take pos ∧ numS lo hi (-1) r = numS lo hi m (r.drop pos)
def nV (m : Int) : Int := if m < 0 then 0 else m
theorem numAt_stop {lo hi : Nat} {r : List UInt8} {pos : Nat} {m : Int} (h : NumAt lo hi r pos m) (hs : ∀ (hp : pos < r.length), goesB lo hi m r[pos] = false) : numS lo hi (-1) r = (m, r.drop pos) := by
  rw [h.2.2.2]
  by_cases hp : pos < r.length
  · rw [drop_cons r pos hp, numS, hs hp]; rfl
  · rw [List.drop_of_length_le (by omega)]; rfl
theorem numAt_next {lo hi : Nat} (hhi : hi ≤ 63) {r : List UInt8} {pos : Nat} {m : Int} (h : NumAt lo hi r pos m) (hp : pos < r.length) (hs : goesB lo hi m r[pos] = true) : NumAt lo hi r (pos + 1) (nxt m r[pos]) ∧ nV (nxt m r[pos]) = nV m * 10 + dvl r[pos] := by
  obtain ⟨h1, h2, h3, h4⟩ := h
  obtain ⟨g1, g2, g3⟩ := pfx_next lo hi hhi m (by omega) r[pos] hs
  refine ⟨⟨by omega, .inr ⟨g2, g3, by omega⟩, ?_, ?_⟩, ?_⟩
  · rw [g1, h3, List.take_succ_eq_append_getElem hp]
  · rw [h4, drop_cons r pos hp, numS, if_pos hs]
  · by_cases hm : m < 0
    · rw [nV, if_neg (by omega), nV, if_pos hm, nxt, if_pos hm]; omega
    · rw [nV, if_neg (by omega), nV, if_neg hm, nxt, if_neg hm]; omega
theorem nV_le {lo hi : Nat} {r : List UInt8} {pos : Nat} {m : Int} (h : NumAt lo hi r pos m) : 0 ≤ nV m ∧ nV m ≤ 63 := by
  have := h.2.1
  unfold nV; split <;> omega
theorem not_dg {c : UInt8} (h : (c.toNat : Int) < 48 ∨ 57 < (c.toNat : Int)) (lo hi m : Int) : goesB lo hi m c = false := not_goes _ _ _ _ (by
  cases hd : dgB c with
  | false => rfl
  | true => simp only [dgB, Bool.and_eq_true, decide_eq_true_eq] at hd; omega)
set_option maxRecDepth 100000 in
set_option maxHeartbeats 4000000 in
theorem number_any (lo hi : Nat) (h1 : lo ≤ hi) (h2 : hi ≤ 63) (b n : Nat) (r : List UInt8) (bad : Bool) (w : World) (h : RdL w b n (r, bad)) (hl : r.length ≤ n) (hn : n ≤ 1000000) :
    Calls Tryz.prog 97 #[.pointer (some ⟨b, 0, none⟩), .int .i64 lo, .int .i64 hi] w fun e w' => e = .returned (.int .i64 (lift 0 (pnum lo hi) (r, bad)).1) ∧ RdL w' b n (lift 0 (pnum lo hi) (r, bad)).2 ∧ w.grownBy w' (some b) := by
  obtain ⟨c0, c1, c2⟩ := h.cells
  have hb := Blk.lt h
  have H := Lib.hid h
  clear h
  go_enter Tryz.func97, Tryz.ntmps97
  go_upto_block 0 with (fail)
  go_cut [7, 8] (fun x7 x8 wx => ∃ (pos : Nat) (m : Int), Hid (NumAt lo hi r pos m ∧ numS lo hi (-1) r = (m, r.drop pos)) ∧ x7 = .int .i64 pos ∧ x8 = .int .i64 (nV m) ∧ Below w.heap.size w wx)
  case first =>
    go_wp2_with fail
    go_loopw [7, 8] (fun x7 x8 wx => ∃ (pos : Nat) (m : Int), Hid (NumAt lo hi r pos m) ∧ x7 = .int .i64 pos ∧ x8 = .int .i64 (nV m) ∧ 0 ≤ nV m ∧ nV m ≤ 63 ∧ wx.heap[w.heap.size]? = some (.stringIter ⟨r.toArray⟩ pos) ∧ Below w.heap.size w wx) (fun x7 _ _ => r.length + 1 - (intOf x7).toNat)
    case atStart => exact ⟨0, -1, ⟨by omega, .inl ⟨rfl, rfl⟩, rfl, rfl⟩, rfl, rfl, by decide, by decide, World.iter_heap w _ 0, (Below.refl _ w).alloc (Nat.le_refl _) _⟩
    case round =>
      obtain ⟨pos, m, hnum, rfl, rfl, hn0, hn63, hit, hbw⟩ := hrel
      by_cases hlt : pos < r.length
      · have hs : pos < (ByteArray.mk r.toArray).size := by rw [ba_size]; exact hlt
        have hnx : ∀ ty, (Instr.next (.pointer (some ⟨w.heap.size, 0, none⟩)) true ty).run Tryz.prog wr = _ := fun ty => Lib.run_next_any_at wr w.heap.size ⟨r.toArray⟩ pos ty hit hs
        by_cases ha : r[pos].toNat < 128
        · have hdec := decode_ascii ⟨r.toArray⟩ pos hs (by rw [ba_get]; exact ha)
          rw [ba_get] at hdec
          rw [hdec] at hnx
          clear hdec ha
          have hit2 := Lib.iterAt_heap wr w.heap.size ⟨r.toArray⟩ pos (pos + 1) hit
          have hbw2 := Lib.below_iterAt hbw (k := w.heap.size) (Nat.le_refl _) ⟨r.toArray⟩ (pos + 1)
          have HC := fun (hd : dgB r[pos] = true) => Lib.hid (beg_goes lo hi h1 h2 m (by have := hnum.out.2.1; omega) r[pos] hd)
          rw [hnum.out.2.2.1, ← List.take_succ_eq_append_getElem hlt] at HC
          have HS : Hid (goesB lo hi m r[pos] = false → NumAt lo hi r pos m ∧ numS lo hi (-1) r = (m, r.drop pos)) := fun hg => ⟨hnum.out, numAt_stop hnum.out fun _ => hg⟩
          have HX : Hid (goesB lo hi m r[pos] = true → NumAt lo hi r (pos + 1) (nxt m r[pos]) ∧ nV (nxt m r[pos]) = nV m * 10 + dvl r[pos]) := numAt_next h2 hnum.out hlt
          have HNG : Hid ((r[pos].toNat : Int) < 48 ∨ 57 < (r[pos].toNat : Int) → goesB lo hi m r[pos] = false) := fun h => not_dg h _ _ _
          have hlt0 : (pos : Int) < r.length := by omega
          have hn' : (r.length : Int) ≤ 1000000 := by omega
          clear hnum hit
          generalize r[pos] = c at *
          obtain ⟨W, hWd⟩ : ∃ W, wr.iterAt w.heap.size ⟨r.toArray⟩ (pos + 1) = W := ⟨_, rfl⟩
          rw [hWd] at hnx hit2 hbw2
          clear hWd
          by_cases k1 : (c.toNat : Int) < 48
          · go_wp2_with fail
            go_meet
            exact ⟨pos, m, HS.out (HNG.out (.inl k1)), rfl, rfl, hbw2⟩
          · by_cases k2 : 57 < (c.toNat : Int)
            · go_wp2_with fail
              go_meet
              exact ⟨pos, m, HS.out (HNG.out (.inr k2)), rfl, rfl, hbw2⟩
            · have hdc : dgB c = true := by simp only [dgB, Bool.and_eq_true, decide_eq_true_eq]; omega
              have HB := begins_any (r.take (pos + 1)) lo hi h2 W
              rw [(HC hdc).out] at HB
              clear HC HNG hdc
              have cw0 : W.cell? ⟨b, 0, none⟩ = some (.string ⟨r.toArray⟩) := (hbw2.cell (p := ⟨b, 0, none⟩) hb).trans c0
              cases hg : goesB lo hi m c with
              | false =>
                have HS' := Lib.hid (HS.out hg)
                rw [hg] at HB
                clear HS HX hg
                go_wp2_with (go_at_call 119; (refine HB.mono ?_); rintro e w2 ⟨rfl, hb2⟩)
                go_meet
                exact ⟨pos, m, HS'.out, rfl, rfl, hbw2.trans (hb2.mono hbw2.size)⟩
              | true =>
                have HX' := Lib.hid (HX.out hg)
                rw [hg] at HB
                have hv := (HX.out hg).2
                have hv2 := nV_le (HX.out hg).1
                have hv3 : nV (nxt m c) = nV m * 10 + (c.toNat - 48) := hv
                have HV := Lib.hid hv3
                have hv4 : 0 ≤ nV m * 10 + ((c.toNat : Int) - 48) ∧ nV m * 10 + ((c.toNat : Int) - 48) ≤ 63 := by omega
                clear HS HX hg hv hv3 hv2
                go_wp2_with (go_at_call 119; (refine HB.mono ?_); rintro e w2 ⟨rfl, hb2⟩)
                go_roundw
                case rel => exact ⟨pos + 1, nxt m c, HX'.out.1, by go_num, by rw [HV.out], by rw [HV.out]; omega, by rw [HV.out]; omega, (hb2.block _ (Array.getElem?_eq_some_iff.1 hit2).1).trans hit2, hbw2.trans (hb2.mono hbw2.size)⟩
                case measure => simp [intOf]; omega
        · have hdh := decode_high ⟨r.toArray⟩ pos hs (by rw [ba_get]; omega)
          have HS : Hid (NumAt lo hi r pos m ∧ numS lo hi (-1) r = (m, r.drop pos)) := ⟨hnum.out, numAt_stop hnum.out fun _ => not_dg (.inr (by omega)) _ _ _⟩
          have hbw2 := fun k => Lib.below_iterAt hbw (k := w.heap.size) (Nat.le_refl _) ⟨r.toArray⟩ (pos + k)
          generalize Utf8.decode ⟨r.toArray⟩ pos = d at hnx hdh
          obtain ⟨d1, d2⟩ := d
          have hd1 : (57 : Int) < (d1 : Int) := by have := hdh.1; simp at this; omega
          have hd0 : ¬ (d1 : Int) < 48 := by omega
          clear hdh hnum
          simp only at hnx
          go_wp2_with fail
          go_meet
          exact ⟨pos, m, HS.out, rfl, rfl, hbw2 _⟩
      · have hnx : ∀ ty, (Instr.next (.pointer (some ⟨w.heap.size, 0, none⟩)) true ty).run Tryz.prog wr = _ := fun ty => Lib.run_next_end_at wr w.heap.size ⟨r.toArray⟩ pos ty hit (by rw [ba_size]; exact hlt)
        have HS : Hid (NumAt lo hi r pos m ∧ numS lo hi (-1) r = (m, r.drop pos)) := ⟨hnum.out, numAt_stop hnum.out fun hp => absurd hp hlt⟩
        clear hnum
        go_wp2_with fail
        go_meet
        exact ⟨pos, m, HS.out, rfl, rfl, hbw⟩
  case rest =>
    obtain ⟨pos, m, HN, rfl, rfl, hbw⟩ := hcut
    have hw : RdL wc b n (r, bad) := Blk.below H.out hbw hb
    obtain ⟨d0, d1, d2⟩ := hw.cells
    simp only at d0
    have f0 := Blk.frozen hw 0
    have hI : Tryz.prog.isIface 50 = true := by kernel_rfl
    have hgw := grown_of_below hbw (some b)
    clear c0 c1 c2 H hbw
    have HW := Lib.hid hw
    clear hw
    cases bad with
    | true =>
      simp only [errL, if_true] at d2
      have hL : lift 0 (pnum lo hi) (r, true) = (0, (r, true)) := rfl
      have HL := Lib.hid hL
      clear hL
      go_wp2_with fail
      go_ret
      exact ⟨by rw [HL.out]; rfl, by rw [HL.out]; exact HW.out, hgw⟩
    | false =>
      simp only [errL, Bool.false_eq_true, if_false] at d2
      have hpos := HN.out.1.1
      have hset : RdL (wc.setCell ⟨b, 0, none⟩ (.string ⟨(r.drop pos).toArray⟩)) b n (r.drop pos, false) := by
        have := Blk.set 0 (.string ⟨(r.drop pos).toArray⟩) HW.out
        simpa [RdL, errL] using this
      have hg2 := grownBy_t hgw (grownBy_setCellB wc b 0 (.string ⟨(r.drop pos).toArray⟩))
      have hdl : (r.drop pos).length = r.length - pos := List.length_drop
      have hlp : (pos : Int) ≤ r.length := by omega
      have hTk : List.take (r.length - pos) (List.drop pos r) = List.drop pos r := by rw [List.take_of_length_le (by omega)]
      have HTk := Lib.hid hTk
      clear hTk
      have hcase : (m < lo ∧ (pos = 0 ∨ 0 < pos ∧ nV m < lo) ∧ lift 0 (pnum lo hi) (r, false) = (0, (r.drop pos, true))) ∨ (0 < pos ∧ (lo : Int) ≤ nV m ∧ lift 0 (pnum lo hi) (r, false) = (nV m, (r.drop pos, false))) := by
        have hp : numS lo hi (-1) r = (m, r.drop pos) := HN.out.2
        have hm := HN.out.1.2.1
        by_cases hlo : m < lo
        · refine .inl ⟨hlo, ?_, ?_⟩
          · unfold nV; split <;> omega
          · simp [lift, pnum, hp, hlo]
        · refine .inr ⟨by omega, by unfold nV; split <;> omega, ?_⟩
          have : nV m = m := by unfold nV; rw [if_neg (by omega)]
          simp [lift, pnum, hp, hlo, this]
      clear HN
      obtain ⟨R, hR⟩ : ∃ R, r.drop pos = R := ⟨_, rfl⟩
      have hTk : List.take (r.length - pos) (List.drop pos r) = R := HTk.out.trans hR
      have HR0 := Lib.hid hR
      clear HTk
      rw [hR] at hset hg2 hdl hcase
      clear hR
      generalize nV m = v at *
      have HS := Lib.hid hset
      rcases hcase with ⟨_, hc, hL⟩ | ⟨hc1, hc2, hL⟩
      · have HL := Lib.hid hL
        have hF := Lib.hid (fail_any b n R false _ hset (by omega) hn)
        clear hset hL
        rcases hc with rfl | ⟨hc1, hc2⟩
        · obtain rfl : r = R := HR0.out
          clear hTk hdl
          go_wp2_with fail
          refine hF.out.mono ?_
          rintro e w2 ⟨rfl, hr2, hgf⟩
          have HR := Lib.hid hr2
          clear hr2 hF
          go_wp2_with fail
          go_ret
          exact ⟨by rw [HL.out]; rfl, by rw [HL.out]; exact HR.out, grownBy_t hg2 hgf⟩
        · have hne : ((pos : Int) == 0) = false := by simp; omega
          go_wp2_with fail
          refine hF.out.mono ?_
          rintro e w2 ⟨rfl, hr2, hgf⟩
          have HR := Lib.hid hr2
          clear hr2 hF
          go_wp2_with fail
          go_ret
          exact ⟨by rw [HL.out]; rfl, by rw [HL.out]; exact HR.out, grownBy_t hg2 hgf⟩
      · have HL := Lib.hid hL
        clear hset hL
        have hne : ((pos : Int) == 0) = false := by simp; omega
        go_wp2_with fail
        go_ret
        exact ⟨by rw [HL.out]; rfl, by rw [HL.out]; exact HS.out, hg2⟩
theorem number_i (lo hi : Int) (h0 : 0 ≤ lo) (h1 : lo ≤ hi) (h2 : hi ≤ 63) (b n : Nat) (r : List UInt8) (bad : Bool) (w : World) (h : RdL w b n (r, bad)) (hl : r.length ≤ n) (hn : n ≤ 1000000) :
    Calls Tryz.prog 97 #[.pointer (some ⟨b, 0, none⟩), .int .i64 lo, .int .i64 hi] w fun e w' => e = .returned (.int .i64 (lift 0 (pnum lo hi) (r, bad)).1) ∧ RdL w' b n (lift 0 (pnum lo hi) (r, bad)).2 ∧ w.grownBy w' (some b) := by
  obtain ⟨l, rfl⟩ := Int.eq_ofNat_of_zero_le h0
  obtain ⟨k, rfl⟩ := Int.eq_ofNat_of_zero_le (show 0 ≤ hi by omega)
  exact number_any l k (by omega) (by omega) b n r bad w h hl hn
end Go.Proofs.YtmmdpjliknmhgaaGreatDoor
