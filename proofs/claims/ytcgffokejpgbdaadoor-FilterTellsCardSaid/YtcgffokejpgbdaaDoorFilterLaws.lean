/- Plain laws of layer 13's functions: no program in sight. -/
import Derived.Test.YtcgffokejpgbdaaDoorFilterLong
namespace Go.Proofs.YtcgffokejpgbdaaDoor
theorem firstL_neg (ps : List (Nat → UInt8 → Bool)) : ∀ (l : List UInt8) (i : Nat), firstL ps i l < 0 ↔ ∀ j (hj : j < l.length), passB ps (i + j) l[j] = true
  | [], i => by simp [firstL]
  | c :: r, i => by
    rw [firstL]
    by_cases h : passB ps i c = true
    · rw [if_pos h, firstL_neg ps r (i + 1)]
      constructor
      · intro H j hj
        cases j with
        | zero => exact h
        | succ j =>
          have := H j (by simpa using hj)
          rw [show i + 1 + j = i + (j + 1) by omega] at this
          exact this
      · intro H j hj
        have := H (j + 1) (by simpa using hj)
        rw [show i + (j + 1) = i + 1 + j by omega] at this
        exact this
    · rw [if_neg h]
      constructor
      · intro H; omega
      · intro H; exact absurd (H 0 (by simp)) h
theorem firstL_at (ps : List (Nat → UInt8 → Bool)) : ∀ (l : List UInt8) (i : Nat), 0 ≤ firstL ps i l → ∃ n, n < l.length ∧ firstL ps i l = ((i + n : Nat) : Int) ∧ ∀ j (hj : j < l.length), j < n → passB ps (i + j) l[j] = true
  | [], i, h => by simp [firstL] at h
  | c :: r, i, h => by
    rw [firstL] at h ⊢
    by_cases hp : passB ps i c = true
    · rw [if_pos hp] at h ⊢
      obtain ⟨n, hn, he, ha⟩ := firstL_at ps r (i + 1) h
      refine ⟨n + 1, by simpa using hn, by rw [he]; omega, fun j hj hl => ?_⟩
      cases j with
      | zero => exact hp
      | succ j =>
        have := ha j (by simpa using hj) (by omega)
        rw [show i + 1 + j = i + (j + 1) by omega] at this
        exact this
    · rw [if_neg hp]
      exact ⟨0, by simp, by simp, fun j _ hl => absurd hl (by omega)⟩
theorem passB_eq (k m : Int) (form : List UInt8) (i : Nat) (c : UInt8) : passB (predsOf k m form) i c = (decide ((i : Int) < m) && (if k = 1 then true else if k = 2 then ofL form c else inL (spr form).1 i c)) := by
  unfold predsOf passB
  split
  · simp
  · split <;> simp
theorem pass_iff (k m : Int) (form l : List UInt8) : passI k m form l = true ↔ (∀ j (hj : j < l.length), passB (predsOf k m form) j l[j] = true) ∧ sizeOf k form ≤ l.length := by
  have h := firstL_neg (predsOf k m form) l 0
  simp only [Nat.zero_add] at h
  rw [← h, passI, placeI, decide_eq_true_eq]
  split <;> omega
theorem place_neg (k m : Int) (form l : List UInt8) (h : placeI k m form l < 0) : placeI k m form l = -1 := by
  have := firstL_lo (predsOf k m form) l 0
  unfold placeI at h ⊢
  split at h
  · omega
  · rename_i h1; rw [if_neg h1]; omega
theorem pass_len (k m : Int) (form l : List UInt8) (h0 : 0 ≤ m) (h : passI k m form l = true) : (l.length : Int) ≤ m := by
  rcases Int.lt_or_le m l.length with h' | h'
  · have := place_long k m form l h0 h'
    rw [passI, decide_eq_true_eq] at h
    omega
  · exact h'
theorem right_max (k m m' : Int) (form : List UInt8) (hr : rightB k m form = true) (h : m ≤ m') (h' : m' ≤ 200) : rightB k m' form = true := by
  have := right_facts hr
  simp only [rightB, Bool.and_eq_true, decide_eq_true_eq] at hr ⊢
  exact ⟨⟨⟨by omega, h'⟩, hr.1.2⟩, hr.2⟩
theorem pass_max (k m m' : Int) (form l : List UInt8) (hp : passI k m form l = true) (h : m ≤ m') : passI k m' form l = true := by
  rw [pass_iff] at hp ⊢
  refine ⟨fun j hj => ?_, hp.2⟩
  have := hp.1 j hj
  rw [passB_eq, Bool.and_eq_true, decide_eq_true_eq] at this ⊢
  exact ⟨by omega, this.2⟩
theorem right_len (m : Int) (h0 : 0 ≤ m) (h : m ≤ 200) : rightB 1 m [] = true := by simp [rightB, h0, h]
theorem pass_lens (m : Int) (l : List UInt8) (h : (l.length : Int) ≤ m) : passI 1 m [] l = true := by
  rw [pass_iff]
  refine ⟨fun j hj => ?_, by simp [sizeOf]⟩
  rw [passB_eq]
  simp; omega
/-- what is ahead of a place can go on -/
theorem place_on (k m : Int) (form l : List UInt8) (h : 0 ≤ placeI k m form l) :
    (placeI k m form l).toNat ≤ l.length ∧ (k = 3 ∨ passI k m form (l.take (placeI k m form l).toNat) = true) ∧ (passI k m form (l.take (placeI k m form l).toNat) = true ∨ placeI k m form (l.take (placeI k m form l).toNat) = placeI k m form l) := by
  by_cases hc : firstL (predsOf k m form) 0 l < 0 ∧ l.length < sizeOf k form
  · have he : placeI k m form l = l.length := by rw [placeI, if_pos hc]
    have ht : l.take (placeI k m form l).toNat = l := by rw [he]; simp
    rw [ht]
    refine ⟨by rw [he]; simp, .inl ?_, .inr rfl⟩
    have := hc.2
    unfold sizeOf at this
    split at this
    · assumption
    · omega
  · have he : placeI k m form l = firstL (predsOf k m form) 0 l := by rw [placeI, if_neg hc]
    rw [he] at h ⊢
    obtain ⟨n, hn, hf, ha⟩ := firstL_at _ l 0 h
    rw [hf]
    have hN : (((0 + n : Nat) : Int)).toNat = n := by omega
    rw [hN]
    have hneg : firstL (predsOf k m form) 0 (l.take n) < 0 := by
      rw [firstL_neg]
      intro j hj
      simp at hj
      have := ha j (by omega) (by omega)
      simpa using this
    have hm1 : firstL (predsOf k m form) 0 (l.take n) = -1 := by
      have := firstL_lo (predsOf k m form) (l.take n) 0
      omega
    have htl : (l.take n).length = n := by simp; omega
    refine ⟨by omega, ?_, ?_⟩
    · by_cases hk : k = 3
      · exact .inl hk
      · right
        rw [passI, placeI, hm1, if_neg (by simp [sizeOf, hk])]
        rfl
    · by_cases hs : n < sizeOf k form
      · right
        rw [placeI, if_pos ⟨hneg, by omega⟩, htl]; omega
      · left
        rw [passI, placeI, if_neg (by omega), hm1]; rfl
/-- a form's signs are so many -/
theorem spr_size : ∀ (n : Nat) (l : List UInt8), l.length ≤ n → 2 * (spr l).1.length ≤ 9 * l.length
  | 0, l, h => by
    obtain rfl : l = [] := List.length_eq_zero_iff.1 (by omega)
    simp [spr]
  | n + 1, [], _ => by simp [spr]
  | n + 1, c :: r, h => by
    rw [spr]; split
    · rename_i hs
      have h3 := spr_size n (sgn c r).2.1 (by have := sgn_len c r; simp at h; omega)
      have h4 : 2 * (sgn c r).1 + 9 * (sgn c r).2.1.length ≤ 9 * (r.length + 1) := by
        have h9 := sgn_small c r
        unfold sgn at hs h9 ⊢
        split at hs
        · rename_i h1; rw [if_pos h1]; simp; omega
        · rename_i h1
          rw [if_neg h1] at h9 ⊢
          split at hs
          · rename_i h2
            rw [if_pos h2] at h9 ⊢
            split at hs
            · simp at hs
            · rename_i d r'
              split at hs
              · rename_i h5; simp only [if_pos h5] at h9 ⊢; simp only [List.length_cons]; omega
              · simp at hs
          · simp at hs
      simp; omega
    · simp
theorem spr_pos (l : List UInt8) (h : recOk l = true) : 1 ≤ (spr l).1.length := by
  cases l with
  | nil => simp [recOk] at h
  | cons c r =>
    simp only [recOk, Bool.and_eq_true] at h
    have h2 := h.2
    rw [spr] at h2 ⊢
    split at h2
    · rename_i hs
      have h1 : 1 ≤ (sgn c r).1 := by
        unfold sgn at hs ⊢
        split at hs
        · rename_i h1; simp [h1]
        · rename_i h1
          rw [if_neg h1]
          split at hs
          · rename_i h2
            rw [if_pos h2]
            split at hs
            · simp at hs
            · split at hs
              · rename_i h5
                simp only [isRep, Bool.and_eq_true, decide_eq_true_eq] at h5
                simp only [isRep, Bool.and_eq_true, decide_eq_true_eq, h5, and_self, if_true]
                omega
              · simp at hs
          · simp at hs
      rw [if_pos hs]
      simp; omega
    · simp at h2
theorem right_form {m : Int} {form : List UInt8} (h : rightB 3 m form = true) : recOk form = true := by
  simp [rightB] at h; exact h.2
theorem size_form {m : Int} {form : List UInt8} (h : rightB 3 m form = true) : 1 ≤ sizeOf 3 form ∧ sizeOf 3 form ≤ 180 := by
  have h1 := spr_pos form (right_form h)
  have h2 := spr_size form.length form (Nat.le_refl _)
  have h3 := (right_facts h).2.2.1
  simp only [sizeOf, if_true]
  omega
theorem size_kind {k : Int} {form : List UInt8} (h : sizeOf k form ≠ 0) : k = 3 := by
  unfold sizeOf at h
  split at h
  · assumption
  · exact absurd rfl h
theorem pass_size (m : Int) (form l : List UInt8) (h : passI 3 m form l = true) : l.length = sizeOf 3 form := by
  rw [pass_iff] at h
  have h2 := h.2
  rcases Nat.lt_or_ge (sizeOf 3 form) l.length with h' | h'
  · have h1 := h.1 (sizeOf 3 form) h'
    rw [passB_eq, Bool.and_eq_true] at h1
    have h3 := h1.2
    simp [inL, sizeOf] at h3
  · omega
/-- forms, one behind the other -/
theorem sgn_append (c : UInt8) (r g : List UInt8) (h : (sgn c r).2.2 = true) : sgn c (r ++ g) = ((sgn c r).1, (sgn c r).2.1 ++ g, true) := by
  unfold sgn at h ⊢
  split at h
  · rename_i h1; simp [h1]
  · rename_i h1
    rw [if_neg h1, if_neg h1]
    split at h
    · rename_i h2
      rw [if_pos h2, if_pos h2]
      split at h
      · simp at h
      · split at h
        · rename_i h5; simp [h5]
        · simp at h
    · simp at h
theorem spr_append (g : List UInt8) : ∀ (n : Nat) (l : List UInt8), l.length ≤ n → (spr l).2 = true → spr (l ++ g) = ((spr l).1 ++ (spr g).1, (spr g).2)
  | 0, l, h, _ => by
    obtain rfl : l = [] := List.length_eq_zero_iff.1 (by omega)
    simp [spr]
  | n + 1, [], _, _ => by simp [spr]
  | n + 1, c :: r, h, ho => by
    rw [spr] at ho
    rw [List.cons_append, spr, spr]
    split at ho
    · rename_i hs
      have h3 := spr_append g n (sgn c r).2.1 (by have := sgn_len c r; simp at h; omega) ho
      rw [sgn_append c r g hs, if_pos hs]
      simp only [if_true, h3, List.append_assoc]
    · simp at ho
theorem inL_append (a b : List UInt8) (i : Nat) (c : UInt8) : inL (a ++ b) i c = if i < a.length then inL a i c else inL b (i - a.length) c := by
  by_cases h : i < a.length
  · rw [if_pos h, inL, inL, List.getElem?_append_left h]
  · rw [if_neg h, inL, inL, List.getElem?_append_right (by omega)]
theorem join_right (m n : Int) (f g : List UInt8) (hf : rightB 3 m f = true) (hg : rightB 3 n g = true) (hl : (f ++ g).length ≤ 40) : rightB 3 200 (f ++ g) = true ∧ (spr (f ++ g)).1 = (spr f).1 ++ (spr g).1 := by
  have h1 := right_form hf
  have h2 := right_form hg
  simp only [recOk, Bool.and_eq_true] at h1 h2
  have h3 := spr_append g f.length f (Nat.le_refl _) h1.2
  refine ⟨?_, by rw [h3]⟩
  have h4 : f ≠ [] := by simpa using h1.1
  simp only [rightB, recOk, h3, h2.2]
  simp [h4]
  simpa using hl
theorem join_pass (m n : Int) (f g s t : List UInt8) (hf : rightB 3 m f = true) (hg : rightB 3 n g = true) (hs : passI 3 m f s = true) (ht : passI 3 n g t = true) (hl : (f ++ g).length ≤ 40) (ls : s.length ≤ 100) (lt : t.length ≤ 100) :
    passI 3 200 (f ++ g) (s ++ t) = true ∧ sizeOf 3 (f ++ g) = s.length + t.length := by
  have hj := (join_right m n f g hf hg hl).2
  have s1 := pass_size m f s hs
  have s2 := pass_size n g t ht
  have hz : sizeOf 3 (f ++ g) = s.length + t.length := by
    rw [s1, s2]; simp [sizeOf, hj]
  refine ⟨?_, hz⟩
  rw [pass_iff] at hs ht ⊢
  refine ⟨fun j hj' => ?_, by rw [hz]; simp⟩
  have e1 : (spr f).1.length = s.length := by rw [s1]; simp [sizeOf]
  rw [passB_eq, Bool.and_eq_true, decide_eq_true_eq]
  simp only [List.length_append] at hj'
  refine ⟨by omega, ?_⟩
  show inL (spr (f ++ g)).1 j _ = true
  rw [hj, inL_append, e1]
  split
  · rename_i h
    have := hs.1 j h
    rw [passB_eq, Bool.and_eq_true] at this
    rw [List.getElem_append_left h]
    exact this.2
  · rename_i h
    have := ht.1 (j - s.length) (by omega)
    rw [passB_eq, Bool.and_eq_true] at this
    rw [List.getElem_append_right (by omega)]
    exact this.2
end Go.Proofs.YtcgffokejpgbdaaDoor
