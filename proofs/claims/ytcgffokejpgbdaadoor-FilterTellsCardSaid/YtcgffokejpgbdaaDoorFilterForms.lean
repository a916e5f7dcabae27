/- The contracts of layer 13's functions, each result by itself. -/
import Derived.Test.YtcgffokejpgbdaaDoorFilterLaws
namespace Go.Proofs.YtcgffokejpgbdaaDoor
open Go.RowKit
def passA (k m : Int) (form l : List UInt8) : Bool := rightB k m form && passI k m form l
def errE (k m : Int) (form : List UInt8) : Int := if rightB k m form then 0 else 130
def placeA (k m : Int) (form l : List UInt8) : Int := if rightB k m form then placeI k m form l else 0
def sizeA (k m : Int) (form : List UInt8) : Int := if rightB k m form then sizeOf k form else 0
def sizeO (k m : Int) (form : List UInt8) : Bool := rightB k m form && !(sizeOf k form == 0)
theorem pass2 (k m : Int) (form l : List UInt8) (hl : form.length ≤ maxLen) (hll : l.length ≤ 100000) (ea : Addr) (w : World) (hge : w.cell? ⟨0, 0, none⟩ = some (eV ea)) :
    Calls Tryd.prog 13 #[fV k m form, .string ⟨l.toArray⟩] w fun e w' => e = .returned (.tuple #[.bool (passA k m form l), .int .i64 (errE k m form)]) ∧ Below w.heap.size w w' := by
  refine (pass_any k m form l hl hll ea w hge).mono fun e w' h => ⟨?_, h.2⟩
  rw [h.1, passA, errE]
  cases rightB k m form <;> simp
theorem place2 (k m : Int) (form l : List UInt8) (hl : form.length ≤ maxLen) (hll : l.length ≤ 100000) (ea : Addr) (w : World) (hge : w.cell? ⟨0, 0, none⟩ = some (eV ea)) :
    Calls Tryd.prog 16 #[fV k m form, .string ⟨l.toArray⟩] w fun e w' => e = .returned (.tuple #[.int .i64 (placeA k m form l), .int .i64 (errE k m form)]) ∧ Below w.heap.size w w' := by
  refine (place_any k m form l hl hll ea w hge).mono fun e w' h => ⟨?_, h.2⟩
  rw [h.1, placeA, errE]
  cases rightB k m form <;> simp
theorem size2 (k m : Int) (form : List UInt8) (hl : form.length ≤ maxLen) (ea : Addr) (w : World) (hge : w.cell? ⟨0, 0, none⟩ = some (eV ea)) :
    Calls Tryd.prog 18 #[fV k m form] w fun e w' => e = .returned (.tuple #[.int .i64 (sizeA k m form), .bool (sizeO k m form)]) ∧ Below w.heap.size w w' := by
  refine (size_any k m form hl ea w hge).mono fun e w' h => ⟨?_, h.2⟩
  rw [h.1, sizeA, sizeO]
  cases rightB k m form
  · simp
  · by_cases hz : sizeOf k form = 0
    · simp [hz]
    · simp [hz]
/-- what Records asks -/
theorem records_law (k m : Int) (form l : List UInt8) :
    (sizeO k m form = false ∧ sizeA k m form = 0 ∧ (k ≠ 3 ∨ rightB k m form = false)) ∨
    (sizeO k m form = true ∧ errE k m form = 0 ∧ 1 ≤ sizeA k m form ∧ sizeA k m form ≤ 180 ∧ (passA k m form l = true → (l.length : Int) = sizeA k m form ∧ sizeA k m form ≤ m)) := by
  unfold sizeO sizeA errE passA
  cases hr : rightB k m form with
  | false => left; simp
  | true =>
    by_cases hz : sizeOf k form = 0
    · left
      refine ⟨by simp [hz], by simp [hz], .inl fun h => ?_⟩
      subst h
      have := size_form hr
      omega
    · right
      obtain rfl := size_kind hz
      have h1 := size_form hr
      refine ⟨by simp [hz], by simp, by simp; omega, by simp; omega, fun h => ?_⟩
      have h2 : passI 3 m form l = true := by simpa using h
      have h3 := pass_size m form l h2
      have h4 := pass_len 3 m form l (right_facts hr).1 h2
      simp; omega
/-- what Wider asks -/
theorem wider_law (k m m' : Int) (form l : List UInt8) (hp : passA k m form l = true) (h : m ≤ m') (h' : m' ≤ 200) :
    errE k m form = 0 ∧ errE k m' form = 0 ∧ passA k m' form l = true ∧ errE 1 m [] = 0 ∧ passA 1 m [] l = true ∧ (l.length : Int) ≤ m := by
  simp only [passA, Bool.and_eq_true] at hp
  obtain ⟨hr, hp⟩ := hp
  have hf := right_facts hr
  have h1 := right_max k m m' form hr h h'
  have h2 := right_len m hf.1 hf.2.1
  have h3 := pass_len k m form l hf.1 hp
  refine ⟨by rw [errE, hr]; rfl, by rw [errE, h1]; rfl, by rw [passA, h1, pass_max k m m' form l hp h]; rfl, by rw [errE, h2]; rfl, by rw [passA, h2, pass_lens m l h3]; rfl, h3⟩
/-- what Joins asks -/
theorem joins_law (m n : Int) (f g s t : List UInt8) (hs : passA 3 m f s = true) (ht : passA 3 n g t = true) (hl : (f ++ g).length ≤ 40) (ls : s.length ≤ 100) (lt : t.length ≤ 100) :
    errE 3 200 (f ++ g) = 0 ∧ passA 3 200 (f ++ g) (s ++ t) = true ∧ sizeO 3 200 (f ++ g) = true ∧ sizeA 3 200 (f ++ g) = s.length + t.length := by
  simp only [passA, Bool.and_eq_true] at hs ht
  have hr := (join_right m n f g hs.1 ht.1 hl).1
  have hp := join_pass m n f g s t hs.1 ht.1 hs.2 ht.2 hl ls lt
  have hz := (size_form hr).1
  refine ⟨by rw [errE, hr]; rfl, by rw [passA, hr, hp.1]; rfl, ?_, by rw [sizeA, hr, if_pos rfl, hp.2]; simp⟩
  rw [sizeO, hr]; simp; omega
end Go.Proofs.YtcgffokejpgbdaaDoor
