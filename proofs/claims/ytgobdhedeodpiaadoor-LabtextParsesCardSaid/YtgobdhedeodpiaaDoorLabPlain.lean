/- What layer 5 computes, as plain functions over lists of bytes, and the plain laws about them. -/
import Derived.Test.YtgobdhedeodpiaaDoorDigits
namespace Go.Proofs.YtgobdhedeodpiaaDoor
abbrev PR (α : Type) := Option α × List UInt8
def dgB (c : UInt8) : Bool := decide (48 ≤ (c.toNat : Int)) && decide ((c.toNat : Int) ≤ 57)
def dvl (c : UInt8) : Int := (c.toNat : Int) - 48
def canP (lo hi n : Int) : Bool := (decide (lo ≤ n) && decide (n ≤ hi)) || (decide (1 ≤ n) && decide (10 * n ≤ hi) && decide (lo ≤ 10 * n + 9))
def nxt (n : Int) (c : UInt8) : Int := if n < 0 then dvl c else 10 * n + dvl c
def goesB (lo hi n : Int) (c : UInt8) : Bool := dgB c && !(n == 0) && canP lo hi (nxt n c)
def numS (lo hi : Int) : Int → List UInt8 → Int × List UInt8
  | n, [] => (n, [])
  | n, c :: r => if goesB lo hi n c then numS lo hi (nxt n c) r else (n, c :: r)
def pnum (lo hi : Int) (r : List UInt8) : PR Int :=
  if (numS lo hi (-1) r).1 < lo then (none, (numS lo hi (-1) r).2) else (some (numS lo hi (-1) r).1, (numS lo hi (-1) r).2)
def pmust (c : UInt8) : List UInt8 → PR Unit
  | [] => (none, [])
  | d :: r => if d = c then (some (), r) else (none, d :: r)
def pis (c : UInt8) : List UInt8 → PR Bool
  | [] => (some false, [])
  | d :: r => if d = c then (some true, r) else (some false, d :: r)
def pand {α β : Type} (f : List UInt8 → PR α) (g : α → List UInt8 → PR β) (r : List UInt8) : PR β := match f r with
  | (none, r') => (none, r')
  | (some a, r') => g a r'
def ppure {α : Type} (a : α) (r : List UInt8) : PR α := (some a, r)
def plist : Nat → Int → Nat → List UInt8 → PR Nat
  | 0, _, _ => fun r => (none, r)
  | f + 1, last, acc => pand (pnum (last + 1) 63) fun n =>
      if n = 63 then ppure (acc ||| 2 ^ n.toNat) else pand (pis 44) fun b => if b then plist f n (acc ||| 2 ^ n.toNat) else ppure (acc ||| 2 ^ n.toNat)
def pset : List UInt8 → PR Nat := pand (pis 123) fun b => if b then pand (plist 64 (-1) 0) fun s => pand (pmust 125) fun _ => ppure s else ppure 0
def plab : List UInt8 → PR (Int × Nat × Int) := pand (pmust 76) fun _ => pand (pnum 0 15) fun lv => pand pset fun s => pand (pmust 73) fun _ => pand (pnum 0 7) fun ig => ppure (lv, s, ig)
def pend {α : Type} (a : α) : List UInt8 → PR α
  | [] => (some a, [])
  | c :: r => (none, c :: r)
def ptext : List UInt8 → PR (Int × Nat × Int) := pand plab fun a => pend a

/-! ### what a reader reads goes by one byte ahead -/
def Str {α : Type} (f : List UInt8 → PR α) : Prop := ∀ s, ∃ a b, s = a ++ b ∧ (f s).2 = b ∧ (f a).2 = [] ∧ (∀ x, (f s).1 = some x → (f a).1 = some x) ∧ ∀ c b', b = c :: b' → ∀ b'', f (a ++ c :: b'') = ((f s).1, c :: b'')
theorem Str.pure {α : Type} (x : α) : Str (ppure x) := fun s => ⟨[], s, rfl, rfl, rfl, fun _ h => h, fun c b' _ b'' => rfl⟩
theorem Str.fail {α : Type} : Str (fun r => ((none : Option α), r)) := fun s => ⟨[], s, rfl, rfl, rfl, fun _ h => h, fun c b' _ b'' => rfl⟩
theorem Str.end {α : Type} (x : α) : Str (pend x) := by
  intro s
  cases s with
  | nil => exact ⟨[], [], rfl, rfl, rfl, fun _ h => h, fun c b' h => by cases h⟩
  | cons d r => exact ⟨[], d :: r, rfl, rfl, rfl, fun _ h => by simp [pend] at h, fun c b' h b'' => rfl⟩
theorem Str.must (c : UInt8) : Str (pmust c) := by
  intro s
  cases s with
  | nil => exact ⟨[], [], rfl, rfl, rfl, fun _ h => h, fun c b' h => by cases h⟩
  | cons d r =>
    by_cases e : d = c
    · refine ⟨[d], r, rfl, by simp [pmust, e], by simp [pmust, e], by simp [pmust, e], fun c b' h b'' => by simp [pmust, e]⟩
    · refine ⟨[], d :: r, rfl, by simp [pmust, e], rfl, by simp [pmust, e], fun c b' h b'' => ?_⟩
      cases h; simp [pmust, e]
theorem Str.is (c : UInt8) : Str (pis c) := by
  intro s
  cases s with
  | nil => exact ⟨[], [], rfl, rfl, rfl, fun _ h => h, fun c b' h => by cases h⟩
  | cons d r =>
    by_cases e : d = c
    · refine ⟨[d], r, rfl, by simp [pis, e], by simp [pis, e], by simp [pis, e], fun c b' h b'' => by simp [pis, e]⟩
    · refine ⟨[], d :: r, rfl, by simp [pis, e], rfl, by simp [pis, e], fun c b' h b'' => ?_⟩
      cases h; simp [pis, e]
theorem numS_str (lo hi : Int) : ∀ (s : List UInt8) (n : Int), ∃ a b, s = a ++ b ∧ (numS lo hi n s).2 = b ∧ numS lo hi n a = ((numS lo hi n s).1, []) ∧ ∀ c b', b = c :: b' → ∀ b'', numS lo hi n (a ++ c :: b'') = ((numS lo hi n s).1, c :: b'')
  | [], n => ⟨[], [], rfl, rfl, rfl, fun c b' h => by cases h⟩
  | d :: r, n => by
    by_cases e : goesB lo hi n d = true
    · obtain ⟨a, b, h1, h2, h3, h4⟩ := numS_str lo hi r (nxt n d)
      refine ⟨d :: a, b, by rw [h1]; rfl, ?_, ?_, ?_⟩
      · simp only [numS, e, if_true]; exact h2
      · simp only [numS, e, if_true]; exact h3
      · intro c b' hb b''
        simp only [List.cons_append, numS, e, if_true]; exact h4 c b' hb b''
    · refine ⟨[], d :: r, rfl, by simp [numS, e], by simp [numS, e], fun c b' h b'' => ?_⟩
      cases h; simp [numS, e]
theorem Str.num (lo hi : Int) : Str (pnum lo hi) := by
  intro s
  obtain ⟨a, b, h1, h2, h3, h4⟩ := numS_str lo hi s (-1)
  refine ⟨a, b, h1, ?_, ?_, ?_, ?_⟩
  · unfold pnum; split <;> exact h2
  · unfold pnum; rw [h3]; split <;> rfl
  · intro x hx; unfold pnum at hx ⊢; rw [h3]
    split at hx
    · simp at hx
    · rename_i hn; rw [if_neg hn]; exact hx
  · intro c b' hb b''
    have := h4 c b' hb b''
    unfold pnum; rw [this]; dsimp only; split <;> rfl
theorem Str.nil {α : Type} {f : List UInt8 → PR α} (h : Str f) : (f []).2 = [] := by
  obtain ⟨a, b, h1, h2, h3, _⟩ := h []
  obtain ⟨rfl, rfl⟩ : a = [] ∧ b = [] := by simpa using h1.symm
  exact h3
theorem Str.and {α β : Type} {f : List UInt8 → PR α} {g : α → List UInt8 → PR β} (hf : Str f) (hg : ∀ x, Str (g x)) : Str (pand f g) := by
  intro s
  obtain ⟨a, b, h1, h2, h3, h4, h5⟩ := hf s
  cases hx : (f s).1 with
  | none =>
    have e : f s = (none, b) := by rw [← hx, ← h2]
    refine ⟨a, b, h1, by simp [pand, e], ?_, by simp [pand, e], ?_⟩
    · obtain ⟨y, hy⟩ : ∃ y, f a = (y, []) := ⟨_, by rw [← h3]⟩
      cases y with
      | none => simp [pand, hy]
      | some y => simp only [pand, hy]; exact (hg y).nil
    · intro c b' hb b''
      have := h5 c b' hb b''
      rw [hx] at this
      simp [pand, this, e]
  | some x =>
    have e : f s = (some x, b) := by rw [← hx, ← h2]
    obtain ⟨a2, b2, k1, k2, k3, k4, k5⟩ := hg x b
    have ep : pand f g s = g x b := by simp [pand, e]
    have ea : f a = (some x, []) := by rw [← h4 x hx, ← h3]
    have through : ∀ c r, b = c :: r → ∀ r', pand f g (a ++ c :: r') = g x (c :: r') := by
      intro c r hb r'
      have := h5 c r hb r'
      rw [hx] at this
      simp [pand, this]
    have at0 : pand f g a = g x [] := by simp [pand, ea]
    have ata2 : pand f g (a ++ a2) = g x a2 := by
      cases a2 with
      | nil => rw [List.append_nil]; exact at0
      | cons c r => exact through c (r ++ b2) (by rw [k1]; rfl) r
    refine ⟨a ++ a2, b2, by rw [h1, k1, List.append_assoc], by rw [ep]; exact k2, by rw [ata2]; exact k3, ?_, ?_⟩
    · intro y hy; rw [ata2]; rw [ep] at hy; exact k4 y hy
    · intro c b' hb b''
      rw [ep, List.append_assoc]
      have := k5 c b' hb b''
      cases a2 with
      | nil => rw [List.nil_append] at this ⊢; rw [through c b' (by rw [k1, hb]; rfl)]; exact this
      | cons d r => rw [List.cons_append, through d (r ++ b2) (by rw [k1]; rfl)]; exact this
theorem Str.list : ∀ (f : Nat) (last : Int) (acc : Nat), Str (plist f last acc)
  | 0, _, _ => Str.fail
  | f + 1, last, acc => by
    refine (Str.num _ _).and fun n => ?_
    split
    · exact Str.pure _
    · refine (Str.is _).and fun b => ?_
      split
      · exact Str.list f _ _
      · exact Str.pure _
theorem Str.set : Str pset := by
  refine (Str.is _).and fun b => ?_
  split
  · exact (Str.list _ _ _).and fun s => (Str.must _).and fun _ => Str.pure _
  · exact Str.pure _
theorem Str.lab : Str plab := (Str.must _).and fun _ => (Str.num _ _).and fun _ => Str.set.and fun _ => (Str.must _).and fun _ => (Str.num _ _).and fun _ => Str.pure _
theorem Str.text : Str ptext := Str.lab.and fun _ => Str.end _

/-- where something is wrong: what is ahead begins a text, and with the byte there it does not -/
theorem text_places (s b : List UInt8) (h : ptext s = (none, b)) : ∃ a, s = a ++ b ∧ (ptext a).2 = [] ∧ ∀ c b', b = c :: b' → ptext (a ++ [c]) = (none, [c]) := by
  obtain ⟨a, b2, h1, h2, h3, h4, h5⟩ := Str.text s
  rw [h] at h2 h5
  obtain rfl : b = b2 := h2
  exact ⟨a, h1, h3, fun c b' hb => h5 c b' hb []⟩
/-- what begins a text but is none is told at its end -/
theorem text_ahead (a r : List UInt8) (x : Int × Nat × Int) (h : ptext (a ++ r) = (some x, [])) (hr : r ≠ []) (hn : (ptext a).1 = none) : ptext a = (none, []) := by
  obtain ⟨a1, b1, h1, h2, h3, h4, h5⟩ := Str.text a
  cases b1 with
  | nil => rw [← hn, ← h2]
  | cons c b' =>
    have := h5 c b' rfl (b' ++ r)
    rw [show a1 ++ c :: (b' ++ r) = a ++ r by rw [h1]; simp, h, hn] at this
    cases this

/-! ### numbers' digits -/
theorem digL_lt10 (n : Nat) (h : n < 10) : digL n = [dch n] := by
  rw [digL, if_neg (by omega), Int.toNat_natCast, revD, if_pos h]; rfl
theorem digL_lt100 (n : Nat) (h : ¬ n < 10) (h2 : n < 100) : digL n = [dch (n / 10), dch n] := by
  rw [digL, if_neg (by omega), Int.toNat_natCast, revD, if_neg h, revD, if_pos (by omega)]; rfl
theorem dch_of (n : Nat) (c : UInt8) (h : dgB c = true) (hn : dvl c = (n : Int) % 10) : dch n = c := by
  simp only [dgB, Bool.and_eq_true, decide_eq_true_eq, dvl] at h hn
  have := dch_nat n
  exact UInt8.toNat_inj.1 (by omega)
theorem dgB_dch (n : Nat) : dgB (dch n) = true := by
  have := dch_nat n
  simp only [dgB, Bool.and_eq_true, decide_eq_true_eq]; omega
theorem dvl_dch (n : Nat) : dvl (dch n) = (n : Int) % 10 := by have := dch_nat n; unfold dvl; omega
theorem dvl_le {c : UInt8} (h : dgB c = true) : 0 ≤ dvl c ∧ dvl c ≤ 9 := by
  simp only [dgB, Bool.and_eq_true, decide_eq_true_eq] at h; unfold dvl; omega
theorem canP_of {lo hi n : Int} (h : (lo ≤ n ∧ n ≤ hi) ∨ (1 ≤ n ∧ 10 * n ≤ hi ∧ lo ≤ 10 * n + 9)) : canP lo hi n = true := by
  simp only [canP, Bool.or_eq_true, Bool.and_eq_true, decide_eq_true_eq]; omega
theorem canP_to {lo hi n : Int} (h : canP lo hi n = true) : (lo ≤ n ∧ n ≤ hi) ∨ (1 ≤ n ∧ 10 * n ≤ hi ∧ lo ≤ 10 * n + 9) := by
  simp only [canP, Bool.or_eq_true, Bool.and_eq_true, decide_eq_true_eq] at h; omega
theorem goesB_to {lo hi n : Int} {c : UInt8} (h : goesB lo hi n c = true) : dgB c = true ∧ n ≠ 0 ∧ canP lo hi (nxt n c) = true := by
  simp only [goesB, Bool.and_eq_true, Bool.not_eq_true', beq_eq_false_iff_ne] at h; exact ⟨h.1.1, h.1.2, h.2⟩
theorem goesB_of {lo hi n : Int} {c : UInt8} (h1 : dgB c = true) (h2 : n ≠ 0) (h3 : canP lo hi (nxt n c) = true) : goesB lo hi n c = true := by
  simp only [goesB, Bool.and_eq_true, Bool.not_eq_true', beq_eq_false_iff_ne]; exact ⟨⟨h1, h2⟩, h3⟩
/-- a number's digits are read whole -/
theorem pnum_digits (lo hi n : Int) (r : List UInt8) (h0 : 0 ≤ lo) (h1 : lo ≤ n) (h2 : n ≤ hi) (h3 : hi ≤ 63) (hr : ∀ c r', r = c :: r' → goesB lo hi n c = false) : pnum lo hi (digL n ++ r) = (some n, r) := by
  obtain ⟨k, rfl⟩ := Int.eq_ofNat_of_zero_le (show 0 ≤ n by omega)
  have hs : numS lo hi k r = ((k : Int), r) := by
    cases r with
    | nil => rfl
    | cons c r' => simp [numS, hr c r' rfl]
  have hn : numS lo hi (-1) (digL k ++ r) = ((k : Int), r) := by
    by_cases h : k < 10
    · rw [digL_lt10 k h]
      have hx : nxt (-1) (dch k) = k := by rw [nxt, if_pos (by omega), dvl_dch]; omega
      have hg : goesB lo hi (-1) (dch k) = true := goesB_of (dgB_dch k) (by omega) (by rw [hx]; exact canP_of (.inl ⟨h1, h2⟩))
      show numS lo hi (-1) (dch k :: r) = _
      rw [numS, if_pos hg, hx]; exact hs
    · rw [digL_lt100 k h (by omega)]
      have hx : nxt (-1) (dch (k / 10)) = (k / 10 : Nat) := by rw [nxt, if_pos (by omega), dvl_dch]; omega
      have hx2 : nxt (k / 10 : Nat) (dch k) = k := by rw [nxt, if_neg (by omega), dvl_dch]; omega
      have hg : goesB lo hi (-1) (dch (k / 10)) = true := goesB_of (dgB_dch _) (by omega) (by rw [hx]; exact canP_of (.inr ⟨by omega, by omega, by omega⟩))
      have hg2 : goesB lo hi (k / 10 : Nat) (dch k) = true := goesB_of (dgB_dch _) (by omega) (by rw [hx2]; exact canP_of (.inl ⟨h1, h2⟩))
      show numS lo hi (-1) (dch (k / 10) :: dch k :: r) = _
      rw [numS, if_pos hg, hx, numS, if_pos hg2, hx2]; exact hs
  unfold pnum
  rw [hn]
  exact if_neg (by omega)
theorem numS_back (lo hi : Int) (h0 : 0 ≤ lo) (h3 : hi ≤ 63) : ∀ (r : List UInt8) (m : Nat), (m : Int) ≤ 63 → canP lo hi m = true → ∃ n : Nat, numS lo hi m r = ((n : Int), (numS lo hi m r).2) ∧ canP lo hi n = true ∧ (n : Int) ≤ 63 ∧ digL m ++ r = digL n ++ (numS lo hi m r).2
  | [], m, hm, hc => ⟨m, rfl, hc, hm, rfl⟩
  | c :: r, m, hm, hc => by
    by_cases e : goesB lo hi m c = true
    · obtain ⟨g1, g2, g3⟩ := goesB_to e
      have hd := dvl_le g1
      have hx : nxt m c = ((10 * m + (dvl c).toNat : Nat) : Int) := by rw [nxt, if_neg (by omega)]; omega
      rw [hx] at g3
      have hk := canP_to g3
      obtain ⟨n, k1, k2, k3, k4⟩ := numS_back lo hi h0 h3 r (10 * m + (dvl c).toNat) (by omega) g3
      refine ⟨n, ?_, k2, k3, ?_⟩
      · rw [numS, if_pos e, hx]; exact k1
      · rw [numS, if_pos e, hx, ← k4]
        have hm0 : 0 < m := by omega
        have e1 : dch (10 * m + (dvl c).toNat) = c := dch_of _ c g1 (by omega)
        rw [digL_lt10 m (by omega), digL_lt100 _ (by omega) (by omega), e1, show (10 * m + (dvl c).toNat) / 10 = m by omega]
        rfl
    · exact ⟨m, by simp [numS, e], hc, hm, by simp [numS, e]⟩
theorem pnum_back (lo hi n : Int) (s r : List UInt8) (h0 : 0 ≤ lo) (h3 : hi ≤ 63) (h : pnum lo hi s = (some n, r)) : s = digL n ++ r ∧ lo ≤ n ∧ n ≤ hi := by
  unfold pnum at h
  split at h
  · cases h
  · rename_i hlo
    cases s with
    | nil => simp [numS] at hlo; omega
    | cons c s =>
      by_cases e : goesB lo hi (-1) c = true
      · obtain ⟨g1, g2, g3⟩ := goesB_to e
        have hd := dvl_le g1
        have hx : nxt (-1) c = (((dvl c).toNat : Nat) : Int) := by rw [nxt, if_pos (by omega)]; omega
        rw [hx] at g3
        obtain ⟨k, k1, k2, k3, k4⟩ := numS_back lo hi h0 h3 s (dvl c).toNat (by omega) g3
        have hN : numS lo hi (-1) (c :: s) = numS lo hi ((dvl c).toNat : Nat) s := by rw [numS, if_pos e, hx]
        rw [hN] at h hlo
        rw [k1] at h hlo
        have h' : ((k : Int) = n) ∧ (numS lo hi ((dvl c).toNat : Nat) s).2 = r := by
          have := Prod.mk.inj h
          exact ⟨Option.some.inj this.1, this.2⟩
        obtain ⟨rfl, rfl⟩ := h'
        have hc := canP_to k2
        have hlo' : ¬ (k : Int) < lo := hlo
        refine ⟨?_, by omega, by omega⟩
        rw [← k4, digL_lt10 _ (by omega), dch_of _ c g1 (by omega)]
        rfl
      · rw [numS, if_neg e] at hlo
        simp at hlo; omega

/-! ### sets of categories -/
def catsL (s : Nat) : List Nat := (List.range 64).filter (s.testBit ·)
def joinC : List Nat → List UInt8
  | [] => []
  | [n] => digL n
  | n :: m :: l => digL n ++ 44 :: joinC (m :: l)
def foldB (acc : Nat) (ns : List Nat) : Nat := ns.foldl (fun a n => a ||| 2 ^ n) acc
def setT (s : Nat) : List UInt8 := if catsL s = [] then [] else 123 :: (joinC (catsL s) ++ [125])
def labT (lv : Int) (s : Nat) (ig : Int) : List UInt8 := 76 :: (digL lv ++ (setT s ++ 73 :: digL ig))
theorem foldB_bit : ∀ (ns : List Nat) (acc i : Nat), (foldB acc ns).testBit i = (acc.testBit i || decide (i ∈ ns))
  | [], acc, i => by simp [foldB]
  | n :: ns, acc, i => by
    have := foldB_bit ns (acc ||| 2 ^ n) i
    rw [show foldB acc (n :: ns) = foldB (acc ||| 2 ^ n) ns from rfl, this, Nat.testBit_or, Nat.testBit_two_pow]
    by_cases h : n = i
    · subst h; simp
    · have h' : ¬ i = n := fun e => h e.symm
      simp [h, h']
def Asc (ns : List Nat) : Prop := ns.Pairwise (· < ·)
theorem filter_range (ns : List Nat) : ∀ (m k : Nat), Asc ns → (∀ n ∈ ns, k ≤ n ∧ n < k + m) → (List.range' k m).filter (fun i => decide (i ∈ ns)) = ns := by
  intro m
  induction m generalizing ns with
  | zero =>
    intro k _ h
    cases ns with
    | nil => rfl
    | cons n ns => have := h n (by simp); omega
  | succ m ih =>
    intro k ha h
    rw [List.range'_succ, List.filter_cons]
    by_cases hk : k ∈ ns
    · rw [if_pos (by simpa using hk)]
      cases ns with
      | nil => cases hk
      | cons n ns =>
        have hp := List.pairwise_cons.1 ha
        have hnk : n = k := by
          rcases List.mem_cons.1 hk with e | e
          · exact e.symm
          · have := hp.1 k e; have := h n (by simp); omega
        subst hnk
        have he : (List.range' (n + 1) m).filter (fun i => decide (i ∈ n :: ns)) = (List.range' (n + 1) m).filter (fun i => decide (i ∈ ns)) := by
          refine List.filter_congr fun i hi => ?_
          have := List.mem_range'_1.1 hi
          have : i ≠ n := by omega
          simp [this]
        rw [he, ih ns (n + 1) hp.2 (fun i hi => ⟨hp.1 i hi, by have := h i (by simp [hi]); omega⟩)]
    · rw [if_neg (by simpa using hk)]
      exact ih ns (k + 1) ha (fun i hi => by
        have := h i hi
        have : i ≠ k := fun e => hk (e ▸ hi)
        omega)
theorem catsL_fold (ns : List Nat) (ha : Asc ns) (h : ∀ n ∈ ns, n < 64) : catsL (foldB 0 ns) = ns := by
  unfold catsL
  rw [List.range_eq_range']
  have : (fun i => (foldB 0 ns).testBit i) = fun i => decide (i ∈ ns) := by funext i; rw [foldB_bit]; simp
  rw [this]
  exact filter_range ns 64 0 ha (fun n hn => ⟨Nat.zero_le _, by have := h n hn; omega⟩)
theorem fold_catsL (s : Nat) (h : s < 2 ^ 64) : foldB 0 (catsL s) = s := by
  refine Nat.eq_of_testBit_eq fun i => ?_
  rw [foldB_bit]
  simp only [Nat.zero_testBit, Bool.false_or, catsL, List.mem_filter, List.mem_range]
  by_cases hi : i < 64
  · cases hb : s.testBit i <;> simp [hi]
  · have : s.testBit i = false := Nat.testBit_lt_two_pow (Nat.lt_of_lt_of_le h (Nat.pow_le_pow_right (by omega) (by omega)))
    simp [hi, this]
theorem catsL_asc (s : Nat) : Asc (catsL s) := List.Pairwise.filter _ List.pairwise_lt_range
theorem catsL_lt (s n : Nat) (h : n ∈ catsL s) : n < 64 := by simp only [catsL, List.mem_filter, List.mem_range] at h; exact h.1

theorem not_goes (lo hi n : Int) (c : UInt8) (h : dgB c = false) : goesB lo hi n c = false := by simp [goesB, h]
/-- categories' text is read whole -/
theorem plist_text : ∀ (ns : List Nat) (f : Nat) (last : Int) (acc : Nat) (r : List UInt8), ns ≠ [] → ns.length ≤ f → Asc ns → -1 ≤ last → (∀ n ∈ ns, last < (n : Int) ∧ n < 64) →
    plist f last acc (joinC ns ++ 125 :: r) = (some (foldB acc ns), 125 :: r)
  | [], _, _, _, _, h, _, _, _, _ => absurd rfl h
  | [n], f, last, acc, r, _, hf, _, hl, h => by
    obtain ⟨f, rfl⟩ : ∃ g, f = g + 1 := ⟨f - 1, by simp at hf; omega⟩
    have hn := h n (by simp)
    have e := pnum_digits (last + 1) 63 n (125 :: r) (by omega) (by omega) (by omega) (by omega) (fun c r' h => by cases h; exact not_goes _ _ _ _ rfl)
    simp only [plist, pand, joinC, e]
    split
    · rfl
    · simp [pand, pis, ppure, foldB]
  | n :: m :: l, f, last, acc, r, _, hf, ha, hl, h => by
    obtain ⟨f, rfl⟩ : ∃ g, f = g + 1 := ⟨f - 1, by simp at hf; omega⟩
    have hn := h n (by simp)
    have hp := List.pairwise_cons.1 ha
    have hm := hp.1 m (by simp)
    have hm2 := h m (by simp)
    have e := pnum_digits (last + 1) 63 n (44 :: (joinC (m :: l) ++ 125 :: r)) (by omega) (by omega) (by omega) (by omega) (fun c r' h => by cases h; exact not_goes _ _ _ _ rfl)
    have ih := plist_text (m :: l) f n (acc ||| 2 ^ n) r (by simp) (by simp at hf ⊢; omega) hp.2 (by omega) (fun i hi => ⟨by have := hp.1 i hi; omega, (h i (by simp [hi])).2⟩)
    simp only [plist, pand, joinC, List.append_assoc, List.cons_append, e]
    rw [if_neg (by omega)]
    simp only [pand, pis, if_true, Int.toNat_natCast]
    exact ih
theorem pset_text (s : Nat) (r : List UInt8) (hs : s < 2 ^ 64) (hr : ∀ c r', r = c :: r' → c ≠ 123) : pset (setT s ++ r) = (some s, r) := by
  unfold setT pset
  by_cases e : catsL s = []
  · rw [if_pos e]
    have h0 := fold_catsL s hs
    rw [e] at h0
    obtain rfl : 0 = s := h0
    cases r with
    | nil => rfl
    | cons c r' => have := hr c r' rfl; simp [pand, pis, this, ppure]
  · rw [if_neg e]
    have := plist_text (catsL s) 64 (-1) 0 r e (by
      unfold catsL; exact Nat.le_trans (List.length_filter_le _ _) (by simp)) (catsL_asc s) (by omega) (fun n hn => ⟨by omega, catsL_lt s n hn⟩)
    simp only [pand, pis, List.cons_append, List.append_assoc, List.nil_append, if_true, this, pmust, ppure, fold_catsL s hs]
/-- a label's text is read whole -/
theorem plab_text (lv ig : Int) (s : Nat) (r : List UInt8) (h1 : 0 ≤ lv) (h2 : lv ≤ 15) (h3 : 0 ≤ ig) (h4 : ig ≤ 7) (hs : s < 2 ^ 64) : plab (labT lv s ig ++ r) = (some (lv, s, ig), r) := by
  have e1 := pnum_digits 0 15 lv (setT s ++ 73 :: (digL ig ++ r)) (by omega) h1 h2 (by omega) (fun c r' h => by
    refine not_goes _ _ _ _ ?_
    unfold setT at h
    split at h
    · cases h; rfl
    · cases h; rfl)
  have e2 := pset_text s (73 :: (digL ig ++ r)) hs (fun c r' h => by cases h; decide)
  have e3 := pnum_digits 0 7 ig r (by omega) h3 h4 (by omega) (fun c r' h => by
    cases hg : goesB 0 7 ig c with
    | false => rfl
    | true =>
      obtain ⟨g1, g2, g3⟩ := goesB_to hg
      have hd := dvl_le g1
      have := canP_to g3
      rw [nxt, if_neg (by omega)] at this
      omega)
  simp only [plab, pand, labT, List.cons_append, List.append_assoc, pmust, if_true, e1, e2, e3, ppure]
theorem ptext_text (lv ig : Int) (s : Nat) (h1 : 0 ≤ lv) (h2 : lv ≤ 15) (h3 : 0 ≤ ig) (h4 : ig ≤ 7) (hs : s < 2 ^ 64) : ptext (labT lv s ig) = (some (lv, s, ig), []) := by
  have := plab_text lv ig s [] h1 h2 h3 h4 hs
  rw [List.append_nil] at this
  simp [ptext, pand, this, pend]
theorem ptext_more (lv ig : Int) (s : Nat) (c : UInt8) (r : List UInt8) (h1 : 0 ≤ lv) (h2 : lv ≤ 15) (h3 : 0 ≤ ig) (h4 : ig ≤ 7) (hs : s < 2 ^ 64) : ptext (labT lv s ig ++ c :: r) = (none, c :: r) := by
  have := plab_text lv ig s (c :: r) h1 h2 h3 h4 hs
  simp [ptext, pand, this, pend]

/-! ### what is read is a text's -/
theorem pand_back {α β : Type} {f : List UInt8 → PR α} {g : α → List UInt8 → PR β} {s r : List UInt8} {y : β} (h : pand f g s = (some y, r)) : ∃ x r', f s = (some x, r') ∧ g x r' = (some y, r) := by
  unfold pand at h
  split at h
  · cases h
  · rename_i a r' hf; exact ⟨a, r', hf, h⟩
theorem pmust_back {c : UInt8} {s r : List UInt8} {x : Unit} (h : pmust c s = (some x, r)) : s = c :: r := by
  cases s with
  | nil => cases h
  | cons d s =>
    simp only [pmust] at h
    split at h
    · rename_i e; cases h; rw [e]
    · cases h
theorem pis_back {c : UInt8} {s r : List UInt8} {b : Bool} (h : pis c s = (some b, r)) : s = if b then c :: r else r := by
  cases s with
  | nil => simp only [pis] at h; cases h; rfl
  | cons d s =>
    simp only [pis] at h
    split at h
    · rename_i e; cases h; rw [e]; rfl
    · cases h; rfl
theorem plist_back : ∀ (f : Nat) (last : Int) (acc : Nat) (s r : List UInt8) (S : Nat), -1 ≤ last → plist f last acc s = (some S, r) →
    ∃ ns : List Nat, ns ≠ [] ∧ Asc ns ∧ (∀ n ∈ ns, last < (n : Int) ∧ n < 64) ∧ S = foldB acc ns ∧ s = joinC ns ++ r
  | 0, _, _, _, _, _, _, h => by cases h
  | f + 1, last, acc, s, r, S, hl, h => by
    obtain ⟨n, r1, h1, h2⟩ := pand_back h
    obtain ⟨rfl, h3, h4⟩ := pnum_back _ _ _ _ _ (by omega) (by omega) h1
    obtain ⟨k, rfl⟩ := Int.eq_ofNat_of_zero_le (show 0 ≤ n by omega)
    have one : ∀ (r1 : List UInt8), ∃ ns : List Nat, ns ≠ [] ∧ Asc ns ∧ (∀ n ∈ ns, last < (n : Int) ∧ n < 64) ∧ acc ||| 2 ^ k = foldB acc ns ∧ digL k ++ r1 = joinC ns ++ r1 := fun r1 =>
      ⟨[k], by simp, List.pairwise_singleton _ _, fun m hm => by simp at hm; subst hm; omega, rfl, rfl⟩
    split at h2
    · cases h2; exact one _
    · obtain ⟨b, r2, h5, h6⟩ := pand_back h2
      have h7 := pis_back h5
      cases b with
      | false =>
        have h7' : r1 = r2 := h7
        subst h7'
        simp only [Bool.false_eq_true, if_false, ppure, Int.toNat_natCast] at h6
        cases h6; exact one _
      | true =>
        have h7' : r1 = 44 :: r2 := h7
        subst h7'
        simp only [if_true, Int.toNat_natCast] at h6
        obtain ⟨ns, k1, k2, k3, k4, k5⟩ := plist_back f k _ r2 r S (by omega) h6
        cases ns with
        | nil => exact absurd rfl k1
        | cons m l =>
          refine ⟨k :: m :: l, by simp, List.pairwise_cons.2 ⟨fun i hi => by have := (k3 i hi).1; omega, k2⟩, ?_, k4, ?_⟩
          · intro i hi
            rcases List.mem_cons.1 hi with rfl | hi
            · omega
            · have := k3 i hi; omega
          · rw [k5]; simp [joinC]
theorem pset_back {s r : List UInt8} {S : Nat} (h : pset s = (some S, r)) : s = setT S ++ r ∧ S < 2 ^ 64 := by
  obtain ⟨b, r1, h1, h2⟩ := pand_back h
  have h3 := pis_back h1
  cases b with
  | false =>
    have h3' : s = r1 := h3
    subst h3'
    simp only [Bool.false_eq_true, if_false, ppure] at h2
    cases h2
    exact ⟨by simp [setT, catsL], by omega⟩
  | true =>
    have h3' : s = 123 :: r1 := h3
    subst h3'
    simp only [if_true] at h2
    obtain ⟨S2, r2, h4, h5⟩ := pand_back h2
    obtain ⟨u, r3, h6, h7⟩ := pand_back h5
    have h8 := pmust_back h6
    subst h8
    simp only [ppure] at h7
    cases h7
    obtain ⟨ns, k1, k2, k3, k4, k5⟩ := plist_back _ _ _ _ _ _ (by omega) h4
    have e : catsL S = ns := by rw [k4]; exact catsL_fold ns k2 (fun n hn => (k3 n hn).2)
    refine ⟨?_, ?_⟩
    · rw [setT, e, if_neg k1, k5]; simp
    · rw [k4]
      refine Nat.lt_pow_two_of_testBit _ fun i hi => ?_
      rw [foldB_bit]
      have : i ∉ ns := fun hm => by have := (k3 i hm).2; omega
      simp [this]
theorem ptext_back {s : List UInt8} {lv ig : Int} {S : Nat} {r : List UInt8} (h : ptext s = (some (lv, S, ig), r)) : s = labT lv S ig ∧ r = [] ∧ 0 ≤ lv ∧ lv ≤ 15 ∧ 0 ≤ ig ∧ ig ≤ 7 ∧ S < 2 ^ 64 := by
  obtain ⟨x, r1, h1, h2⟩ := pand_back h
  have hr : r1 = [] ∧ x = (lv, S, ig) ∧ r = [] := by
    cases r1 with
    | nil => simp only [pend] at h2; cases h2; exact ⟨rfl, rfl, rfl⟩
    | cons c r1 => simp only [pend] at h2; cases h2
  obtain ⟨rfl, rfl, rfl⟩ := hr
  obtain ⟨_, a1, k1, h3⟩ := pand_back h1
  obtain ⟨lv', a2, k2, h4⟩ := pand_back h3
  obtain ⟨S', a3, k3, h5⟩ := pand_back h4
  obtain ⟨_, a4, k4, h6⟩ := pand_back h5
  obtain ⟨ig', a5, k5, h7⟩ := pand_back h6
  simp only [ppure] at h7
  cases h7
  have j1 := pmust_back k1
  obtain ⟨j2, j3, j4⟩ := pnum_back _ _ _ _ _ (by omega) (by omega) k2
  obtain ⟨j5, j6⟩ := pset_back k3
  have j7 := pmust_back k4
  obtain ⟨j8, j9, j10⟩ := pnum_back _ _ _ _ _ (by omega) (by omega) k5
  refine ⟨?_, rfl, j3, j4, j9, j10, j6⟩
  rw [j1, j2, j5, j7, j8, labT]
  simp
end Go.Proofs.YtgobdhedeodpiaaDoor
