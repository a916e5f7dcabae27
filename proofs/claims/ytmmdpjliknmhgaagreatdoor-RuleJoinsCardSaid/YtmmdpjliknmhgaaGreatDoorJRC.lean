/- Joined: RulD; RulRef; RulLaw; RepOwn; RuRep; RulLab; FlrPlain; RulFil; RulSplit; Once; FlrI; FlrA; Err -/
import Derived.Test.YtmmdpjliknmhgaaGreatDoorJRB
import Derived.Test.YtmmdpjliknmhgaaGreatDoorJRA
import Derived.Test.YtmmdpjliknmhgaaGreatDoorChecked
import Derived.Lib.Split
import Derived.Defers
import Derived.RegionTactic
import Derived.RegionCalls
import Derived.ChangeAlike
import Derived.Laws.NewBlocks
import Derived.Maps.Own
import Derived.Maps.OwnOps
import Derived.Maps.OwnSet
import Derived.Maps.RangeWalk
import Derived.RangeFuncBox
import Derived.LaidEql
import Derived.Stop.Asserts
import Derived.RowKitTokens
/- A rule's line as one of a sort of lines, over any sort of labels and filters. Plain. -/
namespace Go.Proofs.YtmmdpjliknmhgaaGreatDoor
/-- a sort of words: what is printed, and what it is read as -/
structure WordK (A : Type) where
  ok : A → Bool
  text : A → List UInt8
  val : List UInt8 → A
  back : ∀ a, ok a = true → val (text a) = a
structure RuleX (La Fi : Type) where
  id : Int
  src : La
  dst : La
  budget : Int
  what : Fi
section
variable {La Fi : Type} [DecidableEq La] (W : WordK La) (F : WordK Fi)
def isRX (r : RuleX La Fi) : Bool := decide (1 ≤ r.id) && decide (r.id ≤ 99) && W.ok r.src && W.ok r.dst && !decide (r.src = r.dst) && decide (0 ≤ r.budget) && decide (r.budget ≤ 1000) && F.ok r.what
def headX (r : RuleX La Fi) : List UInt8 := [114, 117, 108, 101] ++ 32 :: (digL r.id ++ 32 :: (W.text r.src ++ 32 :: (W.text r.dst ++ 32 :: (digL r.budget ++ 32 :: F.text r.what))))
def lineX (r : RuleX La Fi) : List UInt8 := headX W F r ++ [10]
/-- the rule that six words make -/
def ruleX (M : Int) (w1 w2 w3 w4 w5 : List UInt8) : RuleX La Fi := ⟨numW M 0 w1, W.val w2, W.val w3, numW M 0 w4, F.val w5⟩
def readX (M : Int) (s : List UInt8) : Option (RuleX La Fi) := match splitW 5 s with
  | [_, w1, w2, w3, w4, w5] => if isRX W F (ruleX W F M w1 w2 w3 w4 w5) && (lineX W F (ruleX W F M w1 w2 w3 w4 w5) == s ++ [10]) then some (ruleX W F M w1 w2 w3 w4 w5) else none
  | _ => none
theorem dig_no (n : Int) (h0 : 0 ≤ n) : 32 ∉ digL n ∧ 10 ∉ digL n := by
  obtain ⟨k, rfl⟩ : ∃ k : Nat, n = k := ⟨n.toNat, by omega⟩
  have := dig_plain k
  exact ⟨fun h => absurd (this 32 h).1 (by decide), fun h => absurd (this 10 h).1 (by decide)⟩
theorem num_back (M : Int) (hM : 1000 ≤ M) (n : Int) (h0 : 0 ≤ n) (h1 : n ≤ 1000) : numW M 0 (digL n) = n := by
  obtain ⟨k, rfl⟩ : ∃ k : Nat, n = k := ⟨n.toNat, by omega⟩
  exact numW_dig M hM (k + 1) k (by omega) (by omega)
theorem readX_back (M : Int) (s : List UInt8) (r : RuleX La Fi) (h : readX W F M s = some r) : isRX W F r = true ∧ lineX W F r = s ++ [10] := by
  unfold readX at h
  split at h
  · split at h
    · rename_i hc
      injection h with h
      subst h
      simpa [Bool.and_eq_true] using hc
    · cases h
  · cases h
theorem readX_there (hW : ∀ a, W.ok a = true → 32 ∉ W.text a ∧ 10 ∉ W.text a) (hF : ∀ f, F.ok f = true → 10 ∉ F.text f) (M : Int) (hM : 1000 ≤ M) (r : RuleX La Fi) (h : isRX W F r = true) : 10 ∉ headX W F r ∧ readX W F M (headX W F r) = some r := by
  have h' := h
  simp only [isRX, Bool.and_eq_true, decide_eq_true_eq] at h'
  obtain ⟨⟨⟨⟨⟨⟨⟨i1, i2⟩, s1⟩, s2⟩, -⟩, b1⟩, b2⟩, f1⟩ := h'
  obtain ⟨a1, a2⟩ := hW _ s1
  obtain ⟨c1, c2⟩ := hW _ s2
  obtain ⟨d1, d2⟩ := dig_no r.id (by omega)
  obtain ⟨e1, e2⟩ := dig_no r.budget b1
  have g := hF _ f1
  refine ⟨?_, ?_⟩
  · unfold headX
    simp only [List.mem_append, List.mem_cons, not_or]
    refine ⟨by decide, by decide, d2, by decide, a2, by decide, c2, by decide, e2, by decide, g⟩
  · have hs : splitW 5 (headX W F r) = [[114, 117, 108, 101], digL r.id, W.text r.src, W.text r.dst, digL r.budget, F.text r.what] := by
      unfold headX
      rw [splitW_word 4 _ _ (by decide), splitW_word 3 _ _ d1, splitW_word 2 _ _ a1, splitW_word 1 _ _ c1, splitW_word 0 _ _ e1]
      rfl
    have hr : ruleX W F M (digL r.id) (W.text r.src) (W.text r.dst) (digL r.budget) (F.text r.what) = r := by
      unfold ruleX
      rw [num_back M hM r.id (by omega) (by omega), num_back M hM r.budget b1 b2, W.back _ s1, W.back _ s2, F.back _ f1]
    unfold readX
    rw [hs]
    simp only [hr, h, Bool.true_and]
    rw [if_pos (by rw [beq_iff_eq]; rfl)]
/-- the sort of lines -/
def mkLine (hW : ∀ a, W.ok a = true → 32 ∉ W.text a ∧ 10 ∉ W.text a) (hF : ∀ f, F.ok f = true → 10 ∉ F.text f) (M : Int) (hM : 1000 ≤ M) : LineS (RuleX La Fi) where
  isR := isRX W F
  idR := RuleX.id
  line := lineX W F
  read := readX W F M
  back := fun s r h => readX_back W F M s r h
  there := fun r h => ⟨headX W F r, rfl, (readX_there W F hW hF M hM r h).1, (readX_there W F hW hF M hM r h).2⟩
/-- 'rule' is no line -/
theorem readX_word (M : Int) : readX W F M [114, 117, 108, 101] = none := rfl
/-- the same line, read by either bound -/
theorem readX_bound (hW : ∀ a, W.ok a = true → 32 ∉ W.text a ∧ 10 ∉ W.text a) (hF : ∀ f, F.ok f = true → 10 ∉ F.text f) (M N : Int) (hM : 1000 ≤ M) (hN : 1000 ≤ N) (s : List UInt8) : readX W F M s = readX W F N s := by
  have key : ∀ (M N : Int), 1000 ≤ N → ∀ r, readX W F M s = some r → readX W F N s = some r := by
    intro M N hN r h
    obtain ⟨h1, h2⟩ := readX_back W F M s r h
    have h3 := (readX_there W F hW hF N hN r h1).2
    have : headX W F r = s := by
      unfold lineX at h2
      exact List.append_cancel_right h2
    rw [this] at h3
    exact h3
  cases e : readX W F M s with
  | some r => exact (key M N hN r e).symm
  | none =>
    cases e2 : readX W F N s with
    | none => rfl
    | some r => rw [key N M hM r e2] at e; cases e
end
end Go.Proofs.YtmmdpjliknmhgaaGreatDoor
/- The reference's way of reading rules, the same as the program's. Plain. -/
namespace Go.Proofs.YtmmdpjliknmhgaaGreatDoor
/-- a word up to the first blank, and what is behind it -/
def wordP (s : List UInt8) : List UInt8 × List UInt8 := match cutB s with
  | some p => p
  | none => (s, [])
theorem wordP_word (s r : List UInt8) (h : 32 ∉ s) : wordP (s ++ 32 :: r) = (s, r) := by unfold wordP; rw [cutB_word s r h]
section
variable {La Fi : Type} [DecidableEq La] (W : WordK La) (F : WordK Fi)
def rest1 (s : List UInt8) := (wordP s).2
def rest2 (s : List UInt8) := (wordP (rest1 s)).2
def rest3 (s : List UInt8) := (wordP (rest2 s)).2
def rest4 (s : List UInt8) := (wordP (rest3 s)).2
/-- the rule that a line's words make -/
def ruleR (s : List UInt8) : RuleX La Fi := ruleX W F 10000 (wordP (rest1 s)).1 (wordP (rest2 s)).1 (wordP (rest3 s)).1 (wordP (rest4 s)).1 (wordP (rest4 s)).2
def okR (s : List UInt8) : Bool := isRX W F (ruleR W F s) && (lineX W F (ruleR W F s) == s ++ [10])
theorem ruleR_head (hW : ∀ a, W.ok a = true → 32 ∉ W.text a ∧ 10 ∉ W.text a) (r : RuleX La Fi) (h : isRX W F r = true) : ruleR W F (headX W F r) = r := by
  simp only [isRX, Bool.and_eq_true, decide_eq_true_eq] at h
  obtain ⟨⟨⟨⟨⟨⟨⟨i1, i2⟩, s1⟩, s2⟩, -⟩, b1⟩, b2⟩, f1⟩ := h
  obtain ⟨a1, -⟩ := hW _ s1
  obtain ⟨c1, -⟩ := hW _ s2
  obtain ⟨d1, -⟩ := dig_no r.id (by omega)
  obtain ⟨e1, -⟩ := dig_no r.budget b1
  have h1 : rest1 (headX W F r) = digL r.id ++ 32 :: (W.text r.src ++ 32 :: (W.text r.dst ++ 32 :: (digL r.budget ++ 32 :: F.text r.what))) := by unfold rest1 headX; rw [wordP_word _ _ (by decide)]
  have h2 : rest2 (headX W F r) = W.text r.src ++ 32 :: (W.text r.dst ++ 32 :: (digL r.budget ++ 32 :: F.text r.what)) := by unfold rest2; rw [h1, wordP_word _ _ d1]
  have h3 : rest3 (headX W F r) = W.text r.dst ++ 32 :: (digL r.budget ++ 32 :: F.text r.what) := by unfold rest3; rw [h2, wordP_word _ _ a1]
  have h4 : rest4 (headX W F r) = digL r.budget ++ 32 :: F.text r.what := by unfold rest4; rw [h3, wordP_word _ _ c1]
  unfold ruleR ruleX
  rw [h1, h2, h3, h4, wordP_word _ _ d1, wordP_word _ _ a1, wordP_word _ _ c1, wordP_word _ _ e1]
  rw [num_back 10000 (by omega) r.id (by omega) (by omega), num_back 10000 (by omega) r.budget b1 b2, W.back _ s1, W.back _ s2, F.back _ f1]
/-- both ways read the same lines, and the same rules out of them -/
theorem readR_eq (hW : ∀ a, W.ok a = true → 32 ∉ W.text a ∧ 10 ∉ W.text a) (hF : ∀ f, F.ok f = true → 10 ∉ F.text f) (M : Int) (hM : 1000 ≤ M) (s : List UInt8) : readX W F M s = if okR W F s then some (ruleR W F s) else none := by
  cases e : okR W F s with
  | true =>
    simp only [okR, Bool.and_eq_true, beq_iff_eq] at e
    have h3 := (readX_there W F hW hF M hM _ e.1).2
    have : headX W F (ruleR W F s) = s := by
      have := e.2
      unfold lineX at this
      exact List.append_cancel_right this
    rw [this] at h3
    rw [h3]; rfl
  | false =>
    cases e2 : readX W F M s with
    | none => rfl
    | some r =>
      exfalso
      obtain ⟨h1, h2⟩ := readX_back W F M s r e2
      have hs : headX W F r = s := by
        unfold lineX at h2
        exact List.append_cancel_right h2
      have hr := ruleR_head W F hW r h1
      rw [hs] at hr
      unfold okR at e
      rw [hr, h1, h2] at e
      simp at e
end
/-- one more rule is right, just if it is one, its Id is greater, and there is room -/
theorem LineS.right_snoc {R : Type} (L : LineS R) {acc : List R} (x : R) (h : L.right acc = true) (hx : L.isR x = true) (h0 : 0 < L.idR x) : L.right (acc ++ [x]) = (decide (acc.length < 8) && (acc.getLast?.all fun y => decide (L.idR y < L.idR x))) := by
  simp only [LineS.right, Bool.and_eq_true, decide_eq_true_eq] at h
  unfold LineS.right
  rw [LineS.asc_app, h.1, Bool.true_and]
  simp only [LineS.asc, hx, Bool.true_and, Bool.and_true, List.length_append, List.length_singleton]
  have e1 : decide (acc.length + 1 ≤ 8) = decide (acc.length < 8) := decide_eq_decide.2 (by omega)
  rw [e1]
  cases acc.getLast? with
  | none => simp [h0]
  | some y => simp [Bool.and_comm]
/-- a line that is ended is shorter than what it begins -/
theorem cutN_whole : ∀ (s : List UInt8), (cutN s).2.2 = false ↔ (cutN s).1.length = s.length
  | [] => by simp [cutN]
  | c :: s => by
    by_cases e : c = 10
    · subst e; simp [cutN]
    · simp only [cutN, if_neg e, List.length_cons]
      rw [cutN_whole s]; omega
end Go.Proofs.YtmmdpjliknmhgaaGreatDoor
/- The laws of rules' texts, over any sort of lines. Plain. -/
namespace Go.Proofs.YtmmdpjliknmhgaaGreatDoor
section
variable {R : Type} (L : LineS R)
def LineS.pE (l : List R) : Int := if L.right l then 0 else 140
def LineS.pT (l : List R) : List UInt8 := if L.right l then L.text l else []
def LineS.rL (s : List UInt8) : List R := (L.parse s).1.getD []
def LineS.rN (s : List UInt8) : Nat := (L.parse s).2
def LineS.rE (s : List UInt8) : Int := if (L.parse s).1.isSome then 0 else 140
theorem LineS.pE_zero {l : List R} : L.pE l = 0 ↔ L.right l = true := by
  unfold LineS.pE
  split <;> simp [*]
theorem LineS.rE_zero {s : List UInt8} : L.rE s = 0 ↔ (L.parse s).1.isSome = true := by
  unfold LineS.rE
  split <;> simp [*]
/-- rules out of their own text -/
theorem LineS.law_there {l : List R} (h : L.pE l = 0) : L.rL (L.pT l) = l ∧ L.rN (L.pT l) = 0 ∧ L.rE (L.pT l) = 0 := by
  have hr := (L.pE_zero).1 h
  have ht : L.pT l = L.text l := by unfold LineS.pT; rw [if_pos hr]
  have hp := L.parse_back hr
  rw [ht]
  exact ⟨by unfold LineS.rL; rw [hp]; rfl, by unfold LineS.rN; rw [hp], by unfold LineS.rE; rw [hp]; rfl⟩
/-- a text out of what it is read as -/
theorem LineS.law_here {s : List UInt8} (h : L.rE s = 0) : L.pE (L.rL s) = 0 ∧ L.right (L.rL s) = true ∧ L.pT (L.rL s) = s ∧ L.rN s = 0 := by
  have hs := (L.rE_zero).1 h
  cases e : L.parse s with
  | mk o n =>
    cases o with
    | none => rw [e] at hs; cases hs
    | some c =>
      obtain ⟨h1, h2, h3⟩ := L.parse_some e
      have hc : L.rL s = c := by unfold LineS.rL; rw [e]; rfl
      rw [hc]
      exact ⟨(L.pE_zero).2 h2, h2, by unfold LineS.pT; rw [if_pos h2]; exact h3, by unfold LineS.rN; rw [e]; exact h1⟩
theorem LineS.rL_bad {s : List UInt8} (h : ¬ L.rE s = 0) : L.rL s = [] ∧ L.rE s = 140 := by
  have hs : ¬ (L.parse s).1.isSome = true := fun k => h ((L.rE_zero).2 k)
  unfold LineS.rL LineS.rE
  rw [if_neg hs]
  cases e : (L.parse s).1 with
  | none => exact ⟨rfl, rfl⟩
  | some c => rw [e] at hs; exact absurd rfl hs
/-- lines, and one that is none -/
theorem LineS.law_lines {l : List R} (h : L.pE l = 0) (w t : List UInt8) (hw : 10 ∉ w) (hn : w ≠ []) (hr : L.read w = none) :
    (L.rE (L.pT l ++ (w ++ 10 :: t)) = 140 ∧ L.rN (L.pT l ++ (w ++ 10 :: t)) = l.length) ∧ (L.rE (L.pT l ++ w) = 140 ∧ L.rN (L.pT l ++ w) = l.length ∧ L.rL (L.pT l ++ w) = []) := by
  have hR := (L.pE_zero).1 h
  have ht : L.pT l = L.text l := by unfold LineS.pT; rw [if_pos hR]
  obtain ⟨h1, h2⟩ := L.parse_bad hR w t hw hn hr
  rw [ht]
  refine ⟨⟨?_, ?_⟩, ?_, ?_, ?_⟩
  · unfold LineS.rE; rw [h1]; rfl
  · unfold LineS.rN; rw [h1]
  · unfold LineS.rE; rw [h2]; rfl
  · unfold LineS.rN; rw [h2]
  · unfold LineS.rL; rw [h2]; rfl
/-- two texts, one behind the other -/
theorem LineS.law_joins {l m : List R} (hl : L.pE l = 0) (hm : L.pE m = 0) : (L.right (l ++ m) = true → L.rE (L.pT l ++ L.pT m) = 0 ∧ L.rL (L.pT l ++ L.pT m) = l ++ m) ∧ (¬ L.right (l ++ m) = true → L.rE (L.pT l ++ L.pT m) = 140) := by
  have h1 := (L.pE_zero).1 hl
  have h2 := (L.pE_zero).1 hm
  have t1 : L.pT l = L.text l := by unfold LineS.pT; rw [if_pos h1]
  have t2 : L.pT m = L.text m := by unfold LineS.pT; rw [if_pos h2]
  obtain ⟨j1, j2⟩ := L.parse_join h1 h2
  rw [t1, t2]
  refine ⟨fun h => ?_, fun h => ?_⟩
  · have := j1 h
    exact ⟨by unfold LineS.rE; rw [this]; rfl, by unfold LineS.rL; rw [this]; rfl⟩
  · have := j2 h
    unfold LineS.rE; rw [this]; rfl
/-- the rules of two right lists are right together, just if the second's Ids go on, and there is room -/
theorem LineS.law_rising {l m : List R} (hl : L.pE l = 0) (hm : L.pE m = 0) : L.right (l ++ m) = true ↔ (l = [] ∨ m = [] ∨ ∃ x y, l.getLast? = some x ∧ m.head? = some y ∧ L.idR x < L.idR y) ∧ (l ++ m).length ≤ 8 := by
  have h1 := (L.pE_zero).1 hl
  have h2 := (L.pE_zero).1 hm
  rw [L.right_join h1 h2, Bool.and_eq_true, decide_eq_true_eq, decide_eq_true_eq]
  refine and_congr ?_ Iff.rfl
  cases l with
  | nil => simp
  | cons a l =>
    cases m with
    | nil => simp
    | cons b m =>
      obtain ⟨x, hx⟩ : ∃ x, (a :: l).getLast? = some x := ⟨_, List.getLast?_cons⟩
      simp [hx]
/-- each rule is the first of its Id -/
theorem LineS.find_self : ∀ {l : List R} {k : Int}, L.asc k l = true → ∀ r ∈ l, (l.find? fun x => L.idR x == L.idR r) = some r
  | [], _, _, _, h => by cases h
  | x :: l, k, h, r, hr => by
    simp only [LineS.asc, Bool.and_eq_true, decide_eq_true_eq] at h
    rcases List.mem_cons.1 hr with rfl | hr
    · simp
    · have := (L.asc_mem h.2 r hr).2
      have hne : (L.idR x == L.idR r) = false := by rw [beq_eq_false_iff_ne]; omega
      rw [List.find?_cons, hne]
      exact LineS.find_self h.2 r hr
end
end Go.Proofs.YtmmdpjliknmhgaaGreatDoor
/- Lists that a call made itself: rows of its own, down to the texts. On no program. -/
namespace Go.Proofs.YtmmdpjliknmhgaaGreatDoor
open Go.RowKit
theorem own_ne {W : World} {b1 b2 e1 e2 k1 k2 n1 n2 : Nat} {v1 v2 : Value} {c1 c2 : List Value} (h1 : W.ownsRow b1 e1 k1 v1 n1 c1) (h2 : W.ownsRow b2 e2 k2 v2 n2 c2) (hne : e1 ≠ e2) : v1.ownBlock = none ∨ v1.ownBlock ≠ v2.ownBlock := by
  rcases h1.2 with ⟨rfl, _⟩ | ⟨g, cap, cur, rfl, _, hh, _⟩
  · exact .inl rfl
  · rcases h2.2 with ⟨rfl, _⟩ | ⟨g2, cap2, cur2, rfl, _, hh2, _⟩
    · exact .inr (by simp [Value.ownBlock])
    · refine .inr fun e => ?_
      have e' : g = g2 := by simpa [Value.ownBlock] using e
      subst e'
      rw [hh] at hh2
      cases hh2
      exact hne rfl
/-- the block that a step writes is none, or holds cells of another type -/
def RowT (W : World) (ts : List TypeId) (row : Option Nat) : Prop := ∀ g, row = some g → ∃ cur t fr, W.heap[g]? = some (.cells cur t fr) ∧ t ∉ ts
theorem RowT.none (W : World) (ts : List TypeId) : RowT W ts none := fun g h => by cases h
theorem RowT.of_row {W : World} {b e k n : Nat} {v : Value} {c : List Value} (h : W.ownsRow b e k v n c) (ts : List TypeId) (hne : e ∉ ts) : RowT W ts v.ownBlock := by
  intro g hg
  rcases h.2 with ⟨rfl, _⟩ | ⟨g', cap, cur, rfl, _, hh, _⟩
  · simp [Value.ownBlock] at hg
  · obtain rfl : g' = g := by simpa [Value.ownBlock] using hg
    exact ⟨cur, e, _, hh, hne⟩
theorem RowT.blk {W : World} {b : Nat} {cs : Array Value} {t : TypeId} (h : Blk W b cs t) (ts : List TypeId) (hne : t ∉ ts) : RowT W ts (some b) := fun g e => by cases e; exact ⟨cs, t, _, h, hne⟩
theorem RowT.mono {W : World} {ts us : List TypeId} {row : Option Nat} (h : RowT W ts row) (hs : ∀ t ∈ us, t ∈ ts) : RowT W us row := fun g e => by
  obtain ⟨c, t, f, h1, h2⟩ := h g e
  exact ⟨c, t, f, h1, fun m => h2 (hs t m)⟩
theorem own_kept {W W' : World} {b e k n : Nat} {v : Value} {c : List Value} {row : Option Nat} (h : W.ownsRow b e k v n c) (hg : W.grownBy W' row) (hr : RowT W [e] row) : W'.ownsRow b e k v n c := by
  refine h.kept hg ?_
  rcases h.2 with ⟨rfl, _⟩ | ⟨g, cap, cur, rfl, _, hh, _⟩
  · exact .inl rfl
  · refine .inr fun e1 => ?_
    obtain ⟨cur2, t, fr, h2, h3⟩ := hr g e1.symm
    rw [hh] at h2
    cases h2
    exact h3 (by simp)
theorem own_base {W : World} {b b' e k n : Nat} {v : Value} {c : List Value} (h : W.ownsRow b e k v n c) (hb : b' ≤ b) : W.ownsRow b' e k v n c := by
  obtain ⟨h1, h2⟩ := h
  refine ⟨h1, ?_⟩
  rcases h2 with h2 | ⟨g, cap, cur, hv, hg, hr⟩
  · exact .inl h2
  · exact .inr ⟨g, cap, cur, hv, Nat.le_trans hb hg, hr⟩
/-! ### texts, objects, parts of a call's own -/
def StrsO (base tS : Nat) (W : World) (v : Value) (l : List (List UInt8)) : Prop := W.ownsRow base tS 1 v l.length (strsC l)
theorem StrsO.view {base tS : Nat} {W : World} {v : Value} {l : List (List UInt8)} (h : StrsO base tS W v l) : StrsV W v l := SlR.of_row h
theorem StrsO.nil (base tS : Nat) (W : World) : StrsO base tS W (.slice none 0 0) [] := World.ownsRow_nil _ _ _ _
def ObjO (base tS : Nat) (W : World) (x : ObjD) (c : List Value) : Prop := ∃ lv, c = [.string ⟨x.name.toArray⟩, .int .i64 x.kind, .string ⟨x.data.toArray⟩, .int .i64 x.max, lv] ∧ StrsO base tS W lv x.items
theorem ObjO.len {base tS : Nat} {W : World} (x : ObjD) (c : List Value) (h : ObjO base tS W x c) : c.length = 5 := by obtain ⟨lv, rfl, _⟩ := h; rfl
theorem ObjO.view {base tS : Nat} {W : World} {x : ObjD} {c : List Value} (h : ObjO base tS W x c) : ObjC W x c := by obtain ⟨lv, e, h⟩ := h; exact ⟨lv, e, h.view⟩
theorem ObjO.kept {base tS : Nat} {W W' : World} {row : Option Nat} {x : ObjD} {c : List Value} (h : ObjO base tS W x c) (hg : W.grownBy W' row) (hr : RowT W [tS] row) : ObjO base tS W' x c := by
  obtain ⟨lv, e, h⟩ := h; exact ⟨lv, e, own_kept h hg hr⟩
theorem ObjO.base {base b' tS : Nat} {W : World} {x : ObjD} {c : List Value} (h : ObjO base tS W x c) (hb : b' ≤ base) : ObjO b' tS W x c := by
  obtain ⟨lv, e, h⟩ := h; exact ⟨lv, e, own_base h hb⟩
def ObjsO (base tO tS : Nat) (W : World) (v : Value) (l : List ObjD) : Prop := ∃ cs, W.ownsRow base tO 5 v l.length cs ∧ Rows (ObjO base tS W) l cs
theorem ObjsO.view {base tO tS : Nat} {W : World} {v : Value} {l : List ObjD} (h : ObjsO base tO tS W v l) : ObjsV W v l := by
  obtain ⟨cs, h1, h2⟩ := h; exact ⟨cs, SlR.of_row h1, h2.mono fun x _ c hc => hc.view⟩
theorem ObjsO.nil (base tO tS : Nat) (W : World) : ObjsO base tO tS W (.slice none 0 0) [] := ⟨[], World.ownsRow_nil _ _ _ _, rfl⟩
theorem ObjsO.kept {base tO tS : Nat} {W W' : World} {row : Option Nat} {v : Value} {l : List ObjD} (h : ObjsO base tO tS W v l) (hg : W.grownBy W' row) (hr : RowT W [tO, tS] row) : ObjsO base tO tS W' v l := by
  obtain ⟨cs, h1, h2⟩ := h
  exact ⟨cs, own_kept h1 hg (hr.mono (by simp)), h2.mono fun x _ c hc => hc.kept hg (hr.mono (by simp))⟩
theorem ObjsO.base {base b' tO tS : Nat} {W : World} {v : Value} {l : List ObjD} (h : ObjsO base tO tS W v l) (hb : b' ≤ base) : ObjsO b' tO tS W v l := by
  obtain ⟨cs, h1, h2⟩ := h
  exact ⟨cs, own_base h1 hb, h2.mono fun x _ c hc => hc.base hb⟩
def PartO (base tO tS : Nat) (W : World) (x : PartD) (c : List Value) : Prop := ∃ ov, c = [.int .i64 x.lv, .int .u64 x.cs, .int .i64 x.ig, ov] ∧ ObjsO base tO tS W ov x.l
theorem PartO.len {base tO tS : Nat} {W : World} (x : PartD) (c : List Value) (h : PartO base tO tS W x c) : c.length = 4 := by obtain ⟨lv, rfl, _⟩ := h; rfl
theorem PartO.view {base tO tS : Nat} {W : World} {x : PartD} {c : List Value} (h : PartO base tO tS W x c) : PartC W x c := by obtain ⟨lv, e, h⟩ := h; exact ⟨lv, e, h.view⟩
theorem PartO.kept {base tO tS : Nat} {W W' : World} {row : Option Nat} {x : PartD} {c : List Value} (h : PartO base tO tS W x c) (hg : W.grownBy W' row) (hr : RowT W [tO, tS] row) : PartO base tO tS W' x c := by
  obtain ⟨lv, e, h⟩ := h; exact ⟨lv, e, h.kept hg hr⟩
theorem PartO.base {base b' tO tS : Nat} {W : World} {x : PartD} {c : List Value} (h : PartO base tO tS W x c) (hb : b' ≤ base) : PartO b' tO tS W x c := by
  obtain ⟨lv, e, h⟩ := h; exact ⟨lv, e, h.base hb⟩
def PartsO (base tP tO tS : Nat) (W : World) (v : Value) (l : List PartD) : Prop := ∃ cs, W.ownsRow base tP 4 v l.length cs ∧ Rows (PartO base tO tS W) l cs
theorem PartsO.view {base tP tO tS : Nat} {W : World} {v : Value} {l : List PartD} (h : PartsO base tP tO tS W v l) : PartsV W v l := by
  obtain ⟨cs, h1, h2⟩ := h; exact ⟨cs, SlR.of_row h1, h2.mono fun x _ c hc => hc.view⟩
theorem PartsO.nil (base tP tO tS : Nat) (W : World) : PartsO base tP tO tS W (.slice none 0 0) [] := ⟨[], World.ownsRow_nil _ _ _ _, rfl⟩
theorem PartsO.kept {base tP tO tS : Nat} {W W' : World} {row : Option Nat} {v : Value} {l : List PartD} (h : PartsO base tP tO tS W v l) (hg : W.grownBy W' row) (hr : RowT W [tP, tO, tS] row) : PartsO base tP tO tS W' v l := by
  obtain ⟨cs, h1, h2⟩ := h
  exact ⟨cs, own_kept h1 hg (hr.mono (by simp)), h2.mono fun x _ c hc => hc.kept hg (hr.mono (by simp))⟩
theorem PartsO.base {base b' tP tO tS : Nat} {W : World} {v : Value} {l : List PartD} (h : PartsO base tP tO tS W v l) (hb : b' ≤ base) : PartsO b' tP tO tS W v l := by
  obtain ⟨cs, h1, h2⟩ := h
  exact ⟨cs, own_base h1 hb, h2.mono fun x _ c hc => hc.base hb⟩
end Go.Proofs.YtmmdpjliknmhgaaGreatDoor
/- Rules in memory. On no program. -/
namespace Go.Proofs.YtmmdpjliknmhgaaGreatDoor
open Go.RowKit
/-- a label: level, categories, integrity -/
abbrev LaT : Type := Int × Nat × Int
/-- a filter: kind, greatest size, form -/
abbrev FiT : Type := Int × Int × List UInt8
abbrev RuT : Type := RuleX LaT FiT
abbrev ruV (r : RuT) : Value := .agg #[.int .i64 r.id, .int .i64 r.src.1, .int .u64 r.src.2.1, .int .i64 r.src.2.2, .int .i64 r.dst.1, .int .u64 r.dst.2.1, .int .i64 r.dst.2.2, .int .i64 r.budget, .int .i64 r.what.1, .int .i64 r.what.2.1, .string ⟨r.what.2.2.toArray⟩]
def ruC (r : RuT) : List Value := [.int .i64 r.id, .int .i64 r.src.1, .int .u64 r.src.2.1, .int .i64 r.src.2.2, .int .i64 r.dst.1, .int .u64 r.dst.2.1, .int .i64 r.dst.2.2, .int .i64 r.budget, .int .i64 r.what.1, .int .i64 r.what.2.1, .string ⟨r.what.2.2.toArray⟩]
def rusC (l : List RuT) : List Value := (l.map ruC).flatten
theorem rusC_len (l : List RuT) : (rusC l).length = l.length * 11 := by
  induction l with
  | nil => rfl
  | cons r l ih =>
    have e : rusC (r :: l) = ruC r ++ rusC l := by simp [rusC]
    rw [e, List.length_append, ih, List.length_cons, Nat.add_mul]
    simp [ruC]; omega
theorem rusC_app (a b : List RuT) : rusC (a ++ b) = rusC a ++ rusC b := by simp [rusC]
theorem rusC_one (l : List RuT) : ∀ u ∈ rusC l, u.oneCell' = true := by
  intro u hu
  simp only [rusC, List.mem_flatten, List.mem_map] at hu
  obtain ⟨c, ⟨r, -, rfl⟩, hu⟩ := hu
  simp only [ruC, List.mem_cons, List.not_mem_nil, or_false] at hu
  rcases hu with rfl | rfl | rfl | rfl | rfl | rfl | rfl | rfl | rfl | rfl | rfl <;> rfl
theorem rusC_rows (l : List RuT) : Rows (fun r c => c = ruC r) l (rusC l) := by
  induction l with
  | nil => rfl
  | cons r l ih => exact ⟨ruC r, rusC l, by simp [rusC], rfl, ih⟩
def RulesV (W : World) (v : Value) (l : List RuT) : Prop := SlR 11 W v l.length (rusC l)
theorem RulesV.keep {W W' : World} {v : Value} {l : List RuT} (h : RulesV W v l) (hk : KeepC W W') : RulesV W' v l := SlR.keep h hk
theorem RulesV.nil (W : World) : RulesV W (.slice none 0 0) [] := SlR.nil 11 W
/-- rules of a call's own -/
def RulesO (base t : Nat) (W : World) (v : Value) (l : List RuT) : Prop := W.ownsRow base t 11 v l.length (rusC l)
theorem RulesO.view {base t : Nat} {W : World} {v : Value} {l : List RuT} (h : RulesO base t W v l) : RulesV W v l := SlR.of_row h
theorem RulesO.nil (base t : Nat) (W : World) : RulesO base t W (.slice none 0 0) [] := World.ownsRow_nil _ _ _ _
/-- where the rules lie, and what each reads as -/
theorem RulesV.at {W : World} {v : Value} {l : List RuT} (h : RulesV W v l) : ∃ a cap, v = .slice a l.length cap ∧ l.length ≤ cap ∧ ∀ i (hi : i < l.length), ∃ b o, a = some ⟨b, o, none⟩ ∧ b < W.heap.size ∧ ∀ W', KeepC W W' →
    W'.cell? ⟨b, o + i * 11, none⟩ = some (.int .i64 l[i].id) ∧ W'.cell? ⟨b, o + i * 11 + 1, none⟩ = some (.int .i64 l[i].src.1) ∧ W'.cell? ⟨b, o + i * 11 + 2, none⟩ = some (.int .u64 l[i].src.2.1) ∧ W'.cell? ⟨b, o + i * 11 + 3, none⟩ = some (.int .i64 l[i].src.2.2) ∧
    W'.cell? ⟨b, o + i * 11 + 4, none⟩ = some (.int .i64 l[i].dst.1) ∧ W'.cell? ⟨b, o + i * 11 + 5, none⟩ = some (.int .u64 l[i].dst.2.1) ∧ W'.cell? ⟨b, o + i * 11 + 6, none⟩ = some (.int .i64 l[i].dst.2.2) ∧ W'.cell? ⟨b, o + i * 11 + 7, none⟩ = some (.int .i64 l[i].budget) ∧
    W'.cell? ⟨b, o + i * 11 + 8, none⟩ = some (.int .i64 l[i].what.1) ∧ W'.cell? ⟨b, o + i * 11 + 9, none⟩ = some (.int .i64 l[i].what.2.1) ∧ W'.cell? ⟨b, o + i * 11 + 10, none⟩ = some (.string ⟨l[i].what.2.2.toArray⟩) := by
  rcases Nat.eq_zero_or_pos l.length with h0 | h0
  · obtain ⟨_, a, cap, rfl, hc, -⟩ := h
    exact ⟨a, cap, rfl, hc, fun i hi => absurd hi (by omega)⟩
  · obtain ⟨b, o, cap, rfl, hc, hb, hcell⟩ := SlR.pos h h0
    refine ⟨_, cap, rfl, hc, fun i hi => ⟨b, o, rfl, hb, fun W' hW => ?_⟩⟩
    obtain ⟨c, rfl, hj⟩ := Rows.at (k := 11) (fun x c hc => by rw [hc]; rfl) (rusC_rows l) i hi
    have at_ : ∀ j u, j < 11 → (ruC l[i])[j]? = some u → W'.cell? ⟨b, o + i * 11 + j, none⟩ = some u := by
      intro j u hj5 hu
      rw [← hj j hj5] at hu
      obtain ⟨hlt, rfl⟩ := List.getElem?_eq_some_iff.1 hu
      rw [Nat.add_assoc]; exact hW.2 _ _ _ (hcell _ hlt)
    exact ⟨at_ 0 _ (by omega) rfl, at_ 1 _ (by omega) rfl, at_ 2 _ (by omega) rfl, at_ 3 _ (by omega) rfl, at_ 4 _ (by omega) rfl, at_ 5 _ (by omega) rfl, at_ 6 _ (by omega) rfl, at_ 7 _ (by omega) rfl, at_ 8 _ (by omega) rfl, at_ 9 _ (by omega) rfl, at_ 10 _ (by omega) rfl⟩
/-- what a rule of the program's has: sets of 64 bits, a form of a text -/
def OkR (r : RuT) : Prop := r.src.2.1 < 18446744073709551616 ∧ r.dst.2.1 < 18446744073709551616 ∧ r.what.2.2.length ≤ 1000000
end Go.Proofs.YtmmdpjliknmhgaaGreatDoor
/- A label's text is one word of a line. Plain. -/
namespace Go.Proofs.YtmmdpjliknmhgaaGreatDoor
theorem joinC_plain : ∀ (ns : List Nat), ∀ c ∈ joinC ns, c = 44 ∨ (48 ≤ c.toNat ∧ c.toNat ≤ 57)
  | [], c, h => by simp [joinC] at h
  | [n], c, h => by
    right
    exact dig_plain n c (by simpa [joinC] using h)
  | n :: m :: r, c, h => by
    have ih := joinC_plain (m :: r)
    simp only [joinC, List.mem_append, List.mem_cons] at h
    rcases h with h | rfl | h
    · exact .inr (dig_plain n c h)
    · exact .inl rfl
    · exact ih c h
theorem labT_plain (lv ig : Int) (s : Nat) (h0 : 0 ≤ lv) (h1 : 0 ≤ ig) : 32 ∉ labT lv s ig ∧ 10 ∉ labT lv s ig := by
  have key : ∀ c ∈ labT lv s ig, c ≠ 32 ∧ c ≠ 10 := by
    intro c hc
    obtain ⟨a, rfl⟩ : ∃ a : Nat, lv = a := ⟨lv.toNat, by omega⟩
    obtain ⟨b, rfl⟩ : ∃ b : Nat, ig = b := ⟨ig.toNat, by omega⟩
    have hd : (48 ≤ c.toNat ∧ c.toNat ≤ 57) → c ≠ 32 ∧ c ≠ 10 := fun h => ⟨fun e => by subst e; exact absurd h.1 (by decide), fun e => by subst e; exact absurd h.1 (by decide)⟩
    simp only [labT, List.mem_cons, List.mem_append] at hc
    rcases hc with rfl | hc | hc | rfl | hc
    · exact ⟨by decide, by decide⟩
    · exact hd (dig_plain a c hc)
    · unfold setT at hc
      split at hc
      · cases hc
      · simp only [List.mem_cons, List.mem_append] at hc
        rcases hc with rfl | hc | rfl | hc
        · exact ⟨by decide, by decide⟩
        · rcases joinC_plain _ c hc with rfl | h
          · exact ⟨by decide, by decide⟩
          · exact hd h
        · exact ⟨by decide, by decide⟩
        · cases hc
    · exact ⟨by decide, by decide⟩
    · exact hd (dig_plain b c hc)
  exact ⟨fun h => (key 32 h).1 rfl, fun h => (key 10 h).2 rfl⟩
end Go.Proofs.YtmmdpjliknmhgaaGreatDoor
/- What layer 13 computes, as plain functions over lists of bytes. -/
namespace Go.Proofs.YtmmdpjliknmhgaaGreatDoor
def clsL : List UInt8 → Bool
  | [] => true
  | [_] => false
  | a :: b :: r => !(decide ((a.toNat : Int) < 33)) && !(decide (126 < (b.toNat : Int))) && !(decide ((b.toNat : Int) < a.toNat)) && clsL r
def clsB (l : List UInt8) : Bool := !l.isEmpty && clsL l
theorem clsL_odd : ∀ (l : List UInt8), l.length % 2 = 1 → clsL l = false
  | [], h => by simp at h
  | [_], _ => rfl
  | a :: b :: r, h => by rw [clsL, clsL_odd r (by simp at h; omega)]; simp
/-- one sign: how often its byte stands, what is left, whether it is one -/
def isSepB (c : UInt8) : Bool := c == 45 || c == 58 || c == 47
def isDA (c : UInt8) : Bool := c == 100 || c == 97
def isRep (d : UInt8) : Bool := decide (49 ≤ (d.toNat : Int)) && decide ((d.toNat : Int) ≤ 57)
def sgn (c : UInt8) (r : List UInt8) : Nat × List UInt8 × Bool :=
  if isSepB c then (1, r, true) else if isDA c then match r with
    | [] => (0, [], false)
    | d :: r' => if isRep d then (d.toNat - 48, r', true) else (0, d :: r', false)
  else (0, r, false)
theorem sgn_len (c : UInt8) (r : List UInt8) : (sgn c r).2.1.length ≤ r.length := by
  unfold sgn; split
  · simp
  · split
    · split
      · simp
      · split <;> simp
    · simp
theorem sgn_small (c : UInt8) (r : List UInt8) : (sgn c r).1 ≤ 9 := by
  unfold sgn; split
  · simp
  · split
    · split
      · simp
      · split
        · rename_i d r' h; simp only [isRep, Bool.and_eq_true, decide_eq_true_eq] at h; simp; omega
        · simp
    · simp
theorem sgn_no (c : UInt8) (r : List UInt8) (h : (sgn c r).2.2 = false) : (sgn c r).1 = 0 := by
  unfold sgn at h ⊢
  split at h
  · simp at h
  · rename_i h1; rw [if_neg h1]
    split at h
    · rename_i h2; rw [if_pos h2]
      split at h
      · rfl
      · split at h
        · simp at h
        · rename_i h3; simp [h3]
    · rename_i h2; rw [if_neg h2]
/-- a form's signs, each as often as it says, up to what is none; whether all are -/
def spr : List UInt8 → List UInt8 × Bool
  | [] => ([], true)
  | c :: r => if (sgn c r).2.2 then (List.replicate (sgn c r).1 c ++ (spr (sgn c r).2.1).1, (spr (sgn c r).2.1).2) else ([], false)
termination_by l => l.length
decreasing_by all_goals (have := sgn_len c r; simp; omega)
theorem spr_len : ∀ (m : Nat) (l : List UInt8), l.length ≤ m → (spr l).1.length ≤ 9 * l.length
  | 0, l, h => by
    obtain rfl : l = [] := List.length_eq_zero_iff.1 (by omega)
    simp [spr]
  | m + 1, [], _ => by simp [spr]
  | m + 1, c :: r, h => by
    rw [spr]; split
    · have h1 := sgn_len c r
      have h2 := sgn_small c r
      have h3 := spr_len m (sgn c r).2.1 (by simp at h; omega)
      simp; omega
    · simp
end Go.Proofs.YtmmdpjliknmhgaaGreatDoor
/- A filter's form holds no newline. Plain. -/
namespace Go.Proofs.YtmmdpjliknmhgaaGreatDoor
theorem cls_plain : ∀ (l : List UInt8), clsL l = true → 10 ∉ l
  | [], _ => by simp
  | [_], h => by simp [clsL] at h
  | a :: b :: r, h => by
    simp only [clsL, Bool.and_eq_true, Bool.not_eq_true', decide_eq_false_iff_not] at h
    obtain ⟨⟨⟨h1, -⟩, h3⟩, h4⟩ := h
    have ih := cls_plain r h4
    simp only [List.mem_cons, not_or]
    refine ⟨fun e => ?_, fun e => ?_, ih⟩
    · subst e; exact h1 (by decide)
    · subst e; simp at h3; omega
theorem spr_plain : ∀ (n : Nat) (l : List UInt8), l.length ≤ n → (spr l).2 = true → 10 ∉ l
  | _, [], _, _ => by simp
  | 0, c :: r, h, _ => by simp at h
  | n + 1, c :: r, hn, h => by
    rw [spr] at h
    by_cases hs : (sgn c r).2.2 = true
    · rw [if_pos hs] at h
      have ih := spr_plain n (sgn c r).2.1 (by have := sgn_len c r; simp at hn; omega) h
      unfold sgn at hs ih
      simp only [List.mem_cons, not_or]
      by_cases h1 : isSepB c = true
      · rw [if_pos h1] at ih
        exact ⟨fun e => by subst e; exact absurd h1 (by decide), ih⟩
      · rw [if_neg h1] at hs ih
        by_cases h2 : isDA c = true
        · rw [if_pos h2] at hs ih
          have hc : ¬ (10 : UInt8) = c := fun e => by subst e; exact absurd h2 (by decide)
          cases r with
          | nil => simp at hs
          | cons d r =>
            by_cases h3 : isRep d = true
            · simp only [h3, if_true] at ih
              refine ⟨hc, ?_⟩
              simp only [List.mem_cons, not_or]
              exact ⟨fun e => by subst e; exact absurd h3 (by decide), ih⟩
            · simp only [h3] at hs
              simp at hs
        · rw [if_neg h2] at hs
          simp at hs
    · rw [if_neg hs] at h
      simp at h
end Go.Proofs.YtmmdpjliknmhgaaGreatDoor
/- What strings.SplitN leaves, at a blank, as a rule's words. Plain. -/
namespace Go.Proofs.YtmmdpjliknmhgaaGreatDoor
theorem index_cut : ∀ (s : List UInt8), (cutB s = none ∧ Lib.index s [32] = -1) ∨ ∃ a r, cutB s = some (a, r) ∧ Lib.index s [32] = (a.length : Int) ∧ s = a ++ 32 :: r
  | [] => .inl ⟨rfl, rfl⟩
  | c :: s => by
    by_cases e : c = 32
    · subst e
      right
      refine ⟨[], s, by simp [cutB], ?_, rfl⟩
      simp [Lib.index]
    · have hp : ([32] : List UInt8).isPrefixOf (c :: s) = false := by
        simp [List.isPrefixOf]
        exact fun h => e h.symm
      rcases index_cut s with ⟨h1, h2⟩ | ⟨a, r, h1, h2, h3⟩
      · left
        refine ⟨by simp [cutB, e, h1], ?_⟩
        rw [Lib.index, hp, h2]; rfl
      · right
        refine ⟨c :: a, r, by simp [cutB, e, h1], ?_, by rw [List.cons_append, ← h3]⟩
        rw [Lib.index, hp, h2]
        have : (((a.length : Nat) : Int) == -1) = false := by rw [beq_eq_false_iff_ne]; omega
        simp [this]
theorem splitK_W : ∀ (k : Nat) (s : List UInt8), Lib.splitK [32] 0 k s = splitW k s
  | 0, s => rfl
  | k + 1, s => by
    rw [Lib.splitK, splitW]
    rcases index_cut s with ⟨h1, h2⟩ | ⟨a, r, h1, h2, h3⟩
    · rw [h1, h2]; rfl
    · have : (((a.length : Nat) : Int) == -1) = false := by rw [beq_eq_false_iff_ne]; omega
      rw [h1, h2, this]
      simp only [Bool.false_eq_true, if_false, Int.toNat_natCast, Nat.add_zero, List.length_singleton]
      rw [splitK_W k, h3, List.take_left, ← List.drop_drop, List.drop_left, List.drop_one, List.tail_cons]
theorem splitW_more : ∀ (k : Nat) (s : List UInt8), s.length ≤ k → splitW (k + 1) s = splitW k s
  | 0, s, h => by
    obtain rfl : s = [] := List.length_eq_zero_iff.1 (by omega)
    rfl
  | k + 1, s, h => by
    rw [splitW, splitW]
    rcases index_cut s with ⟨h1, -⟩ | ⟨a, r, h1, -, h3⟩
    · rw [h1]
    · rw [h1]
      have hl := congrArg List.length h3
      rw [List.length_append, List.length_cons] at hl
      simp only
      rw [splitW_more k r (by omega)]
theorem splitW_all (s : List UInt8) (k : Nat) (h : s.length ≤ k) : splitW k s = splitW s.length s := by
  induction k with
  | zero => obtain h0 : s.length = 0 := by omega
            rw [h0]
  | succ k ih =>
    by_cases e : s.length = k + 1
    · rw [e]
    · rw [splitW_more k s (by omega), ih (by omega)]
theorem splitW_min (s : List UInt8) (k : Nat) : splitW (min (k + 1) (s.length + 1) - 1) s = splitW k s := by
  by_cases h : s.length ≤ k
  · rw [show min (k + 1) (s.length + 1) - 1 = s.length by omega, splitW_all s k h]
  · rw [show min (k + 1) (s.length + 1) - 1 = k by omega]
/-- the words that SplitN hands back -/
theorem splitB_W (s : List UInt8) (k : Nat) : (Lib.splitB ⟨#[32]⟩ 0 (min (k + 1) ((⟨s.toArray⟩ : ByteArray).size + 1) - 1) ⟨s.toArray⟩).map (·.data.toList) = splitW k s := by
  rw [Lib.splitB_data, ba_size]
  have h := splitK_W (min (k + 1) (s.length + 1) - 1) s
  rw [splitW_min] at h
  exact h
end Go.Proofs.YtmmdpjliknmhgaaGreatDoor
/- sync.Once in one goroutine: the calls that doSlow defers, the lock. (Turned from the worked Lazy texts.) -/
namespace Go.Proofs.YtmmdpjliknmhgaaGreatDoor
open Go.RowKit
theorem once_disable (w : World) : (callFunc 153 #[]).run Tryz.prog w = .ok (.value (.tuple #[])) w := run_call_mark0 Tryz.func153 (by kernel_rfl) (by kernel_rfl) (by kernel_rfl) .disable (by kernel_rfl) w
theorem once_enable (w : World) : (callFunc 155 #[]).run Tryz.prog w = .ok (.value (.tuple #[])) w := run_call_mark0 Tryz.func155 (by kernel_rfl) (by kernel_rfl) (by kernel_rfl) .enable (by kernel_rfl) w
theorem once_acquire (a : Addr) (w : World) : (callFunc 156 #[.pointer (some a)]).run Tryz.prog w = .ok (.value (.tuple #[])) w := run_call_marked Tryz.func156 (by kernel_rfl) (by kernel_rfl) (by kernel_rfl) .acquire (by kernel_rfl) a w
theorem once_release (a : Addr) (w : World) : (callFunc 158 #[.pointer (some a)]).run Tryz.prog w = .ok (.value (.tuple #[])) w := run_call_marked Tryz.func158 (by kernel_rfl) (by kernel_rfl) (by kernel_rfl) .releaseMerge (by kernel_rfl) a w

/-- '(*sync/atomic.Bool).Store(true)', entered as a deferred call: the cell holds 1. -/
theorem once_store (a : Addr) (x : Value) (u : FrameMode) (w : World) (hc : w.cell? a = some x) (hz : w.frozen? a = false) :
    CallsD Tryz.prog 127 #[.pointer (some a), .bool true] u w fun e u' w' => u' = u ∧ (e = .returned (.tuple #[]) ∧ w' = w.drew.setCell a (.int .u32 1)) := by
  have hc' : w.drew.cell? a = some x := by go_simp
  have hz' : w.drew.frozen? a = false := by go_simp
  have hst := run_call_store (P := Tryz.prog) Tryz.func143 (by kernel_rfl) (by kernel_rfl) (by kernel_rfl) (by kernel_rfl) (k := .u32) (y := 1) hc' hz'
  go_enter_d Tryz.func127, Tryz.ntmps127
  go_wp2
  go_region_calls
  all_goals (go_end0; exact ⟨rfl, rfl⟩)

set_option maxRecDepth 100000 in
/-- '(*sync.Mutex).Unlock', entered as a deferred call, the lock held and nobody waiting: free. -/
theorem once_unlock (a : Addr) (u : FrameMode) (w : World) (hc : w.cell? a = some (.int .i32 1)) (hz : w.frozen? a = false) :
    CallsD Tryz.prog 126 #[.pointer (some a)] u w fun e u' w' => u' = u ∧ (e = .returned (.tuple #[]) ∧ w' = w.setCell a (.int .i32 0)) := by
  have hd := once_disable
  have he := once_enable
  have hr := once_release
  have hadd := run_call_add (P := Tryz.prog) Tryz.func159 (by kernel_rfl) (by kernel_rfl) (by kernel_rfl) .i32 (by kernel_rfl) (y := -1) (s := 0) hc hz (by simp [go_sem]; rfl)
  have hcv := run_convert_to_unsafe (P := Tryz.prog) (src := 226) (dst := 95) Tryz.underlying226 Tryz.underlying95 (by kernel_rfl) hc
  go_enter_d Tryz.func126, Tryz.ntmps126
  go_wp2
  go_end0
  go_wp2
  go_end0
  exact ⟨rfl, rfl⟩

set_option maxRecDepth 100000 in
/-- '(*sync.Mutex).Lock', the lock free: held. -/
theorem once_lock (a : Addr) (w : World) (hc : w.cell? a = some (.int .i32 0)) (hz : w.frozen? a = false) :
    Calls Tryz.prog 125 #[.pointer (some a)] w fun e w' => e = .returned (.tuple #[]) ∧ w.setCell a (.int .i32 1) = w' := by
  have hd := once_disable
  have he := once_enable
  have ha := once_acquire
  have hcas := run_call_cas_hit (P := Tryz.prog) Tryz.func154 (by kernel_rfl) (by kernel_rfl) (by kernel_rfl) .i32 (by kernel_rfl) (y := 1) hc hz
  have hc' : (w.setCell a (.int .i32 1)).cell? a = some (.int .i32 1) := World.cell?_setCell_same w a _ hc
  have hcv := run_convert_to_unsafe (P := Tryz.prog) (src := 226) (dst := 95) Tryz.underlying226 Tryz.underlying95 (by kernel_rfl) hc'
  go_enter Tryz.func125, Tryz.ntmps125
  go_wp2
  first | go_end0 | (simp only [Exit.inBlock, Exit.then]; refine bodyPost_ret (results_none rfl _ _ _) rfl ?_) | refine bodyPost_ret (results_none rfl _ _ _) rfl ?_
  go_wp2
  go_end0
  exact ⟨rfl, rfl⟩
end Go.Proofs.YtmmdpjliknmhgaaGreatDoor
/- Walks of layer 13: the kinds' words, made once. -/
namespace Go.Proofs.YtmmdpjliknmhgaaGreatDoor
open Go.RowKit Go.Maps
theorem keyStr : Keyed Tryz.prog 9 := string_keyed Tryz.underlying9
def wLen : List UInt8 := [108, 101, 110]
def wClass : List UInt8 := [99, 108, 97, 115, 115]
def wForm : List UInt8 := [102, 111, 114, 109]
def kindsD : DataW Unit := (((DataW.map []).put (.string wLen) (.lit (.int .i64 1))).put (.string wClass) (.lit (.int .i64 2))).put (.string wForm) (.lit (.int .i64 3))
abbrev ownsKinds (w : World) (mb : Nat) : Prop := w.ownsMap Tryz.prog 9 (plainElem Tryz.prog 3) mb 3 kindsD

set_option maxHeartbeats 1000000 in
theorem kinds1_any (b pb : Nat) (v0 v1 v2 : Value) (w : World) (hp : w.cell? ⟨pb, 0, none⟩ = some (.pointer (some ⟨b, 0, none⟩))) (hb : Blk w b #[v0, v1, v2, .map none] 127) :
    Calls Tryz.prog 91 #[.pointer (some ⟨pb, 0, none⟩)] w fun e w' => e = .returned (.tuple #[]) ∧ ∃ mb, Blk w' b #[v0, v1, v2, .map (some mb)] 127 ∧ ownsKinds w' mb ∧ w.grownBy w' (some b) := by
  have hmm := @run_makeMap Tryz.prog
  have h0 := World.ownsMap_made (H := Unit) w Tryz.prog 9 (plainElem Tryz.prog 3)
  obtain ⟨W1, r1, o1, t1⟩ := h0.store keyStr Tryz.underlying112 (by decide) (key := .string ⟨wLen.toArray⟩) (kl := .string wLen) (val := .int .i64 1) (WideMaps.keyOf_string_mk Tryz.underlying9 (by decide)) (plainElem_int Tryz.underlying3 (by decide))
  obtain ⟨W2, r2, o2, t2⟩ := o1.store keyStr Tryz.underlying112 (by decide) (key := .string ⟨wClass.toArray⟩) (kl := .string wClass) (val := .int .i64 2) (WideMaps.keyOf_string_mk Tryz.underlying9 (by decide)) (plainElem_int Tryz.underlying3 (by decide))
  obtain ⟨W3, r3, o3, t3⟩ := o2.store keyStr Tryz.underlying112 (by decide) (key := .string ⟨wForm.toArray⟩) (kl := .string wForm) (val := .int .i64 3) (WideMaps.keyOf_string_mk Tryz.underlying9 (by decide)) (plainElem_int Tryz.underlying3 (by decide))
  have g1 : w.grownBy W1 none := by
    have := t1.grown
    exact ⟨this.os, this.tape, this.output, by have := this.size; rw [World.size_alloc] at this; omega, fun k hk _ => (this.block k (by rw [World.size_alloc]; omega) (by simp; omega)).trans (Below.heap_alloc w _ k hk)⟩
  have lt1 := o1.lt
  have lt2 := o2.lt
  have lt3 := o3.lt
  have hbm : b ≠ w.heap.size := fun e => by have := hb.lt; omega
  have b1 : Blk W1 b #[v0, v1, v2, .map none] 127 := hb.kept g1 (by simp)
  have b2 : Blk W2 b #[v0, v1, v2, .map none] 127 := b1.kept t2.grown (by simpa using hbm)
  have b3 : Blk W3 b #[v0, v1, v2, .map none] 127 := b2.kept t3.grown (by simpa using hbm)
  have c3 := b3.cell 3
  have f3 := b3.frozen 3
  have b4 := b3.set 3 (.map (some w.heap.size))
  have hfin : ∃ mb, Blk (W3.setCell ⟨b, 3, none⟩ (.map (some w.heap.size))) b #[v0, v1, v2, .map (some mb)] 127 ∧ ownsKinds (W3.setCell ⟨b, 3, none⟩ (.map (some w.heap.size))) mb ∧ w.grownBy (W3.setCell ⟨b, 3, none⟩ (.map (some w.heap.size))) (some b) := by
    refine ⟨w.heap.size, by simpa using b4, o3.setCell (Ne.symm hbm) _, ?_⟩
    have g2 : w.grownBy W3 none := ⟨t3.grown.os.trans (t2.grown.os.trans g1.os), t3.grown.tape.trans (t2.grown.tape.trans g1.tape), t3.grown.output.trans (t2.grown.output.trans g1.output), Nat.le_trans g1.size (Nat.le_trans t2.grown.size t3.grown.size),
      fun k hk _ => (t3.grown.block k (Nat.lt_of_lt_of_le hk (Nat.le_trans g1.size t2.grown.size)) (by simp; omega)).trans ((t2.grown.block k (Nat.lt_of_lt_of_le hk g1.size) (by simp; omega)).trans (g1.block k hk (by simp)))⟩
    exact grownBy_t (g2.but (some b)) (grownBy_setCellB _ _ _ _)
  have HF : Hid _ := hfin
  clear hfin b4 b1 b2 b3 o1 o2 o3 t1 t2 t3 g1 h0 lt1 lt2 lt3
  simp only [wLen, wClass, wForm] at r1 r2 r3
  go_enter Tryz.func91, Tryz.ntmps91
  go_wp2
  go_end0
  exact ⟨rfl, HF.out⟩

def KindsEnd (b : Nat) (v2 : Value) (w w' : World) : Prop := ∃ mb, Blk w' b #[.int .u32 1, .int .i32 0, v2, .map (some mb)] 127 ∧ ownsKinds w' mb ∧ w.grownBy w' (some b)

set_option maxRecDepth 100000 in
set_option maxHeartbeats 1600000 in
theorem slow_any (b pb : Nat) (hpb : pb ≠ b) (v2 : Value) (w : World) (hp : w.cell? ⟨pb, 0, none⟩ = some (.pointer (some ⟨b, 0, none⟩))) (hb : Blk w b #[.int .u32 0, .int .i32 0, v2, .map none] 127) :
    Calls Tryz.prog 112 #[.pointer (some ⟨b, 0, none⟩), .func (.func 91) #[] #[.pointer (some ⟨pb, 0, none⟩)]] w fun e w' => e = .returned (.tuple #[]) ∧ KindsEnd b v2 w w' := by
  have hnot : ∀ (x : Bool) (w : World), (Op.unary .not (.bool x)).run Tryz.prog w = .ok (.bool (!x)) w := fun _ _ => rfl
  have c1 := hb.cell 1
  have f1 := hb.frozen 1
  simp at c1
  have b1 := hb.set 1 (.int .i32 1)
  have g1 := grownBy_setCellB w b 1 (.int .i32 1)
  have hp1 : (w.setCell ⟨b, 1, none⟩ (.int .i32 1)).cell? ⟨pb, 0, none⟩ = some (.pointer (some ⟨b, 0, none⟩)) := g1.cell hp (by simpa using hpb)
  have c0 := b1.cell 0
  simp at c0
  have hl := run_call_load (P := Tryz.prog) Tryz.func124 (by kernel_rfl) (by kernel_rfl) (by kernel_rfl) .u32 (by kernel_rfl) (w := w.setCell ⟨b, 1, none⟩ (.int .i32 1)) (a := ⟨b, 0, none⟩) (x := 0) c0
  have HK := kinds1_any b pb (.int .u32 0) (.int .i32 1) v2 _ hp1 (by simpa using b1)
  go_enter_defers Tryz.func112, Tryz.ntmps112
  go_wp2_with (go_at_call 125; refine (once_lock ⟨b, 1, none⟩ _ (by go_simp) (by go_simp)).mono ?_; rintro e w' ⟨rfl, rfl⟩)
  go_wp2_with (first | (go_at_call 91; refine HK.mono ?_; rintro e W ⟨rfl, mb, hb2, ho2, hg2⟩) | (go_at_call 111; go_in))
  have d0 := hb2.cell 0
  have z0 := hb2.frozen 0
  simp at d0
  have hb2d : Blk W.drew b #[.int .u32 0, .int .i32 1, v2, .map (some mb)] 127 := hb2
  have b3 := hb2d.set 0 (.int .u32 1)
  have b4 := b3.set 1 (.int .i32 0)
  have d1 := b3.cell 1
  have z1 := b3.frozen 1
  simp at d1
  have hne : mb ≠ b := fun e => by
    subst e
    obtain ⟨es, clock, h, _⟩ := ho2
    rw [show W.heap[mb]? = _ from hb2] at h; cases h
  have hend : KindsEnd b v2 w ((W.drew.setCell ⟨b, 0, none⟩ (.int .u32 1)).setCell ⟨b, 1, none⟩ (.int .i32 0)) :=
    ⟨mb, by simpa using b4, (World.ownsMap.setCell (World.ownsMap.setCell ho2.drew (a := ⟨b, 0, none⟩) hne _) (a := ⟨b, 1, none⟩) hne _),
      grownBy_t (grownBy_t (grownBy_t g1 hg2) (grownBy_t (show W.grownBy W.drew (some b) from ⟨rfl, rfl, rfl, Nat.le_refl _, fun _ _ _ => rfl⟩) (grownBy_setCellB W.drew b 0 _))) (grownBy_setCellB _ b 1 _)⟩
  refine leaves_cons (f := 127) (args := #[.pointer (some ⟨b, 0, none⟩), .bool true]) (by simp) (by simp [go_sem]) ?_
  refine (once_store ⟨b, 0, none⟩ (.int .u32 0) .returning _ d0 z0).mono ?_
  rintro e u' w'' ⟨rfl, rfl, rfl⟩
  refine leaves_cons (f := 126) (args := #[.pointer (some ⟨b, 1, none⟩)]) (by simp [settle]) (by simp [go_sem]) ?_
  refine (once_unlock ⟨b, 1, none⟩ _ _ d1 z1).mono ?_
  rintro e u' w'' ⟨rfl, rfl, rfl⟩
  simp only [Leaves, settle, results, Tryz.results112]
  simpa using hend

set_option maxRecDepth 100000 in
set_option maxHeartbeats 1600000 in
theorem do_any (b pb : Nat) (hpb : pb ≠ b) (v2 : Value) (w : World) (hp : w.cell? ⟨pb, 0, none⟩ = some (.pointer (some ⟨b, 0, none⟩))) (hb : Blk w b #[.int .u32 0, .int .i32 0, v2, .map none] 127) :
    Calls Tryz.prog 90 #[.pointer (some ⟨b, 0, none⟩), .func (.func 91) #[] #[.pointer (some ⟨pb, 0, none⟩)]] w fun e w' => e = .returned (.tuple #[]) ∧ KindsEnd b v2 w w' := by
  have hnot : ∀ (x : Bool) (w : World), (Op.unary .not (.bool x)).run Tryz.prog w = .ok (.bool (!x)) w := fun _ _ => rfl
  have c0 := hb.cell 0
  simp at c0
  have hl := run_call_load (P := Tryz.prog) Tryz.func124 (by kernel_rfl) (by kernel_rfl) (by kernel_rfl) .u32 (by kernel_rfl) (w := w) (a := ⟨b, 0, none⟩) (x := 0) c0
  have HS := slow_any b pb hpb v2 w hp hb
  go_enter Tryz.func90, Tryz.ntmps90
  go_wp2_with (first | (go_at_call 112; refine HS.mono ?_; rintro e w' ⟨rfl, hk⟩) | (go_at_call 111; go_in))
  go_end0
  exact ⟨rfl, hk⟩

set_option maxHeartbeats 1600000 in
/-- The kinds' words, of words just made. -/
theorem kinds_any (b : Nat) (v2 : Value) (w : World) (hb : Blk w b #[.int .u32 0, .int .i32 0, v2, .map none] 127) :
    Calls Tryz.prog 68 #[.pointer (some ⟨b, 0, none⟩)] w fun e w' => ∃ mb, e = .returned (.map (some mb)) ∧ ownsKinds w' mb ∧ w.grownBy w' (some b) := by
  have hmf : ∀ (fn : Fn) (first cap : Array Value) (w : World), (Instr.makeFunc fn first cap).run Tryz.prog w = .ok (.func fn first cap) w := fun _ _ _ _ => rfl
  have hlt := hb.lt
  have hb1 := hb.alloc (.cells #[.pointer (some ⟨b, 0, none⟩)] 113)
  have q1 := Boxed.new w 113 (.pointer (some ⟨b, 0, none⟩))
  have HD := do_any b w.heap.size (by omega) v2 _ q1.cell hb1
  have g0 := World.grownBy_alloc w (.cells #[.pointer (some ⟨b, 0, none⟩)] 113) (some b)
  go_enter Tryz.func68, Tryz.ntmps68
  go_wp2_with (go_at_call 90; refine HD.mono ?_; rintro e W ⟨rfl, mb, hb2, ho2, hg2⟩; have hq2 := hg2.cell q1.cell (by simp; omega); have c3 := hb2.cell 3; simp at c3)
  go_ret
  exact ⟨mb, rfl, ho2, grownBy_t g0 hg2⟩
end Go.Proofs.YtmmdpjliknmhgaaGreatDoor
/- Walks of layer 13: the functions over strings alone. -/
namespace Go.Proofs.YtmmdpjliknmhgaaGreatDoor
open Go.RowKit
set_option maxHeartbeats 400000 in
theorem isClass_any (l : List UInt8) (w : World) (hs : l.length ≤ maxLen) :
    Calls Tryz.prog 106 #[.string ⟨l.toArray⟩] w fun e w' => e = .returned (.bool (clsB l)) ∧ ∃ n, w' = w.drewN n := by
  unfold maxLen at hs
  by_cases h0 : l = []
  · subst h0
    go_enter Tryz.func106, Tryz.ntmps106
    go_wp2
    go_ret
    exact ⟨rfl, 0, rfl⟩
  have he : l.isEmpty = false := by simpa using h0
  by_cases h2 : l.length % 2 = 1
  · have hB : clsB l = false := by rw [clsB, clsL_odd l h2]; simp
    have HB := Lib.hid hB; clear hB
    have hp : ((l.length : Int) % 2 == 1) = true := by simp; omega
    go_enter Tryz.func106, Tryz.ntmps106
    go_wp2
    go_ret
    exact ⟨ret_bool HB.out.symm, 0, rfl⟩
  · have hp : ((l.length : Int) % 2 == 1) = false := by simp; omega
    have H2 : Hid (l.length % 2 = 0) := by show l.length % 2 = 0; omega
    clear h2
    have hB : clsB l = clsL l := by simp [clsB, h0]
    have HB := Lib.hid hB; clear hB
    go_enter Tryz.func106, Tryz.ntmps106
    go_wp2
    go_loopw [3] (fun i wr => ∃ k n : Nat, k ≤ l.length ∧ Hid (k % 2 = 0) ∧ i = .int .i64 k ∧ wr = w.drewN n ∧ Hid (clsL (l.drop k) = clsL l)) (fun i _ => l.length - (intOf i).toNat)
    case atStart => exact ⟨0, 0, Nat.zero_le _, rfl, rfl, rfl, rfl⟩
    case round =>
      obtain ⟨k, n, hk, hk2, rfl, rfl, hc⟩ := hrel
      by_cases hlt : k < l.length
      · have hlt2 : k + 1 < l.length := by have := H2.out; have := hk2.out; omega
        have HC : Hid (clsL l = (!(decide ((l[k].toNat : Int) < 33)) && !(decide (126 < (l[k+1].toNat : Int))) && !(decide ((l[k+1].toNat : Int) < l[k].toNat)) && clsL (l.drop (k + 2)))) := by
          show clsL l = _
          rw [← hc.out, drop_cons l k hlt, drop_cons l (k+1) hlt2]; rfl
        clear hc
        by_cases h1 : (l[k].toNat : Int) < 33
        · go_wp2
          go_quiet (fail)
          go_wp2
          go_ret
          exact ⟨ret_bool (by rw [HB.out, HC.out]; simp [h1]), _, World.drewN_drewN _ _ _⟩
        · have h1' : decide ((l[k].toNat : Int) < 33) = false := by simpa using h1
          by_cases h2 : 126 < (l[k+1].toNat : Int)
          · obtain ⟨w1, w2, w3⟩ := sum_i k 1 (k+1) (by omega) (by omega); have w4 : (k : Int) + 1 < l.length := by clear w1 w3; omega
            go_wp2
            go_quiet (fail)
            clear w1
            go_wp2
            go_ret
            exact ⟨ret_bool (by rw [HB.out, HC.out]; simp [h2]), _, World.drewN_drewN _ _ _⟩
          · have h2' : decide (126 < (l[k+1].toNat : Int)) = false := by simpa using h2
            by_cases h3 : (l[k+1].toNat : Int) < l[k].toNat
            · obtain ⟨w1, w2, w3⟩ := sum_i k 1 (k+1) (by omega) (by omega); have w4 : (k : Int) + 1 < l.length := by clear w1 w3; omega
              go_wp2
              go_quiet (fail)
              clear w1
              go_wp2
              go_ret
              exact ⟨ret_bool (by rw [HB.out, HC.out]; simp [h3]), _, World.drewN_drewN _ _ _⟩
            · have h3' : decide ((l[k+1].toNat : Int) < l[k].toNat) = false := by simpa using h3
              obtain ⟨w1, w2, w3⟩ := sum_i k 1 (k+1) (by omega) (by omega); have w4 : (k : Int) + 1 < l.length := by clear w1 w3; omega
              go_wp2
              go_quiet (fail)
              clear w1
              go_wp2
              go_roundw
              case rel => exact ⟨k + 2, _, by omega, by have := hk2.out; show (k+2)%2=0; omega, by go_num, rfl, by show clsL _ = _; rw [HC.out, h1', h2', h3']; rfl⟩
              case measure => simp [intOf]; omega
      · go_wp2
        go_ret
        exact ⟨ret_bool (by rw [HB.out, ← hc.out, List.drop_of_length_le (by omega)]; rfl), _, rfl⟩
end Go.Proofs.YtmmdpjliknmhgaaGreatDoor
/- errors.Is at a sentinel of errors.New's make, and at nil. (Turned from the worked Sentry texts.) -/
namespace Go.Proofs.YtmmdpjliknmhgaaGreatDoor
open Go.RowKit Go.Extern.Stop Go.Stop Go.Extern
/-- The error's value: a pointer to what errors.New made. -/
abbrev eV (a : Addr) : Value := .iface 238 (.pointer (some a))
theorem is_typeOf (v : Value) (w : World) : (callFunc 84 #[.iface 238 v]).run Tryz.prog w = .ok (.value (.iface 145 (.agg #[.pointer (some ⟨7, 238, none⟩)]))) w := by kernel_rfl
theorem is_comparable (w : World) : (callFunc 193 #[.agg #[.pointer (some ⟨7, 238, none⟩)]]).run Tryz.prog w = .ok (.value (.bool true)) w := by kernel_rfl
theorem is_methodComparable (v : Value) (w : World) : (Go.method 369 145 v "Comparable").run Tryz.prog w = .ok (193, v) w := by kernel_rfl
theorem is_comp : (Tryz.prog.info? 238).map (·.comparable) = some true := by kernel_rfl
theorem is_size : (Tryz.prog.info? 257).map (·.size) = some 1 := by kernel_rfl
set_option maxRecDepth 100000 in
set_option maxHeartbeats 1000000 in
theorem is_same (a : Addr) (w : World) :
    Calls Tryz.prog 89 #[eV a, eV a] w fun e w' => e = .returned (.bool true) ∧ w = w' := by
  obtain ⟨i, hi, hcmp⟩ := Option.map_eq_some_iff.1 is_comp
  obtain ⟨j, hj, hjs⟩ := Option.map_eq_some_iff.1 is_size
  have tT := is_typeOf
  have cT := is_comparable
  have mR := is_methodComparable
  have heq := run_eql_iface_ptr_same (P := Tryz.prog) w a Tryz.underlying50 Tryz.underlying238 hi hcmp hj
  go_enter Tryz.func89, Tryz.ntmps89
  go_wp2
  refine wp_loop_rounds 1 ?_
  rw [rounds_succ]
  go_wp2
  go_ret
  exact ⟨rfl, rfl⟩
theorem is_nil (b : Addr) (w : World) :
    Calls Tryz.prog 89 #[.nilIface, eV b] w fun e w' => e = .returned (.bool false) ∧ w = w' := by
  have hn := run_eql_iface_nil_left (P := Tryz.prog) w 238 (.pointer (some b)) Tryz.underlying50
  go_enter Tryz.func89, Tryz.ntmps89
  go_wp2
  go_ret
  exact ⟨rfl, rfl⟩
end Go.Proofs.YtmmdpjliknmhgaaGreatDoor
