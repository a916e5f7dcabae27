/- Prints and filters: plain laws, and the contracts of Print and Parse, each result by itself. -/
import Derived.Test.YtcgffokejpgbdaaDoorFilterForms
namespace Go.Proofs.YtcgffokejpgbdaaDoor
open Go.RowKit
theorem cutL_app (c : UInt8) (r : List UInt8) : ∀ (a : List UInt8), (a.all fun x => x != c) = true → cutL c (a ++ c :: r) = (a, r, true)
  | [], _ => by simp [cutL]
  | x :: a, h => by
    simp only [List.all_cons, Bool.and_eq_true, bne_iff_ne] at h
    rw [List.cons_append, cutL, if_neg h.1, cutL_app c r a h.2]
theorem cutL_all (c : UInt8) : ∀ (a : List UInt8), (a.all fun x => x != c) = true → cutL c a = (a, [], false)
  | [], _ => rfl
  | x :: a, h => by
    simp only [List.all_cons, Bool.and_eq_true, bne_iff_ne] at h
    rw [cutL, if_neg h.1, cutL_all c a h.2]
theorem digits_small : ((List.range 201).all fun n => numL (digL n) == n && ((digL n).all fun x => x != 32) && decide ((digL n).length ≤ 3)) = true := by kernel_rfl
theorem digits_ok (m : Int) (h0 : 0 ≤ m) (h : m ≤ 200) : numL (digL m) = m ∧ ((digL m).all fun x => x != 32) = true ∧ (digL m).length ≤ 3 := by
  obtain ⟨n, rfl⟩ := Int.eq_ofNat_of_zero_le h0
  have := List.all_eq_true.1 digits_small n (List.mem_range.2 (by omega))
  simp only [Bool.and_eq_true, beq_iff_eq, decide_eq_true_eq] at this
  exact ⟨this.1.1, this.1.2, this.2⟩
theorem word_ok (k : Int) : ((wordOf k).all fun x => x != 32) = true ∧ (wordOf k).length ≤ 5 := by
  rcases wordOf_in k with h | h | h <;> rw [h] <;> exact ⟨by rfl, by decide⟩
theorem kind_word (k : Int) (h : k = 1 ∨ k = 2 ∨ k = 3) : kindOf (wordOf k) = k := by
  rcases h with rfl | rfl | rfl <;> rfl
theorem right_lenform {m : Int} {form : List UInt8} (h : rightB 1 m form = true) : form = [] := by simp [rightB] at h; exact h.2
theorem print_len (k m : Int) (form : List UInt8) (hr : rightB k m form = true) : (printL k m form).length ≤ 100 := by
  have h := right_facts hr
  have h1 := (digits_ok m h.1 h.2.1).2.2
  have h2 := (word_ok k).2
  unfold printL
  split <;> simp <;> omega
theorem parse_print (k m : Int) (form : List UInt8) (hr : rightB k m form = true) : pKind (printL k m form) = k ∧ pMax (printL k m form) = m ∧ pForm (printL k m form) = form := by
  have h := right_facts hr
  have h1 := digits_ok m h.1 h.2.1
  have h2 := (word_ok k).1
  have e : printL k m form = wordOf k ++ 32 :: (digL m ++ if k = 1 then [] else 32 :: form) := by unfold printL; simp
  rw [e]
  unfold pKind pMax pForm pWord pRest
  rw [cutL_app 32 _ _ h2]
  by_cases hk : k = 1
  · subst hk
    obtain rfl := right_lenform hr
    simp only [if_true, List.append_nil]
    rw [cutL_all 32 _ h1.2.1]
    exact ⟨kind_word 1 h.2.2.2, h1.1, rfl⟩
  · rw [if_neg hk]
    rw [cutL_app 32 _ _ h1.2.1]
    exact ⟨kind_word k h.2.2.2, h1.1, rfl⟩
def printA (k m : Int) (form : List UInt8) : List UInt8 := if rightB k m form then printL k m form else []
def parOk (l : List UInt8) : Bool := rightB (pKind l) (pMax l) (pForm l) && (printL (pKind l) (pMax l) (pForm l) == l)
def parK (l : List UInt8) : Int := if parOk l then pKind l else 0
def parM (l : List UInt8) : Int := if parOk l then pMax l else 0
def parF (l : List UInt8) : List UInt8 := if parOk l then pForm l else []
def parE (l : List UInt8) : Int := if parOk l then 0 else 130
theorem print2 (k m : Int) (form : List UInt8) (hl : form.length ≤ maxLen) (ea : Addr) (w : World) (hge : w.cell? ⟨0, 0, none⟩ = some (eV ea)) :
    Calls Tryd.prog 22 #[fV k m form] w fun e w' => e = .returned (.tuple #[.string ⟨(printA k m form).toArray⟩, .int .i64 (errE k m form)]) ∧ Below w.heap.size w w' := by
  cases hr : rightB k m form with
  | false =>
    refine (print_no k m form hl ea w hge hr).mono fun e w' h => ⟨?_, h.2⟩
    rw [h.1, printA, errE, hr]; rfl
  | true =>
    refine (print_yes k m form hl ea w hge hr).mono fun e w' h => ⟨?_, h.2⟩
    rw [h.1, printA, errE, hr]; rfl
theorem parse2 (l : List UInt8) (hl : l.length ≤ 1000000) (ea : Addr) (w : World) (hge : w.cell? ⟨0, 0, none⟩ = some (eV ea)) :
    Calls Tryd.prog 24 #[.string ⟨l.toArray⟩] w fun e w' => e = .returned (.tuple #[fV (parK l) (parM l) (parF l), .int .i64 (parE l)]) ∧ Below w.heap.size w w' := by
  refine (parse_any l hl ea w hge).mono fun e w' h => ⟨?_, h.2⟩
  rw [h.1, parseV, parseV2, parK, parM, parF, parE]
  change Ending.returned (if parOk l = true then _ else _) = _
  cases parOk l <;> rfl
/-- what Back asks -/
theorem back_there (k m : Int) (form : List UInt8) (hr : rightB k m form = true) : parK (printA k m form) = k ∧ parM (printA k m form) = m ∧ parF (printA k m form) = form ∧ parE (printA k m form) = 0 := by
  have h := parse_print k m form hr
  have e : printA k m form = printL k m form := by rw [printA, hr]; rfl
  have ho : parOk (printL k m form) = true := by rw [parOk, h.1, h.2.1, h.2.2, hr]; simp
  rw [e, parK, parM, parF, parE, ho]
  exact ⟨h.1, h.2.1, h.2.2, rfl⟩
theorem back_here (l : List UInt8) : (parE l = 130) ∨ (parE l = 0 ∧ errE (parK l) (parM l) (parF l) = 0 ∧ printA (parK l) (parM l) (parF l) = l) := by
  unfold parE parK parM parF
  cases ho : parOk l with
  | false => left; rfl
  | true =>
    right
    simp only [parOk, Bool.and_eq_true, beq_iff_eq] at ho
    exact ⟨rfl, by show errE (pKind l) (pMax l) (pForm l) = 0; rw [errE, ho.1]; rfl, by show printA (pKind l) (pMax l) (pForm l) = l; rw [printA, ho.1]; exact ho.2⟩
theorem printA_len (k m : Int) (form : List UInt8) : (printA k m form).length ≤ 100 := by
  unfold printA
  split
  · rename_i h; exact print_len k m form h
  · simp
theorem parF_len (l : List UInt8) : (parF l).length ≤ 1000 := by
  unfold parF
  split
  · rename_i h
    simp only [parOk, Bool.and_eq_true] at h
    have := (right_facts h.1).2.2.1
    omega
  · simp
end Go.Proofs.YtcgffokejpgbdaaDoor
