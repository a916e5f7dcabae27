/- What a laid array of numbers gives a walk: its cells, one by one. On no program. -/
import Derived.Test.YtgobdhedeodpiaaDoorKit
import Derived.Carry
import Derived.ChangeSame
import Derived.ProofKit
import Derived.LaidMore
namespace Go.Proofs.YtgobdhedeodpiaaDoor
open Go.RowKit Go.ChangeShapes Go.WideShapes
theorem int_of_trod {H : Type} {enc : TypeId × Value → H} {P : Program} {w : World} {base : Nat} {sp : Nat → Bool} {held : Bool} {fuel : Nat} {t : TypeId} {k : IntKind} {c : Value} {y : DataW H × List MemPlace}
    (ht : P.underlying t = some (.int k)) (h : DataW.trod enc P w base sp held fuel t [c] = some y) : ∃ n, c = .int k n ∧ y = (.lit (.int k n), []) := by
  cases fuel with
  | zero => simp [DataW.trod] at h
  | succ fuel =>
    cases c <;> simp [DataW.trod, ht] at h
    rename_i k' n
    obtain ⟨⟨rfl, _⟩, rfl⟩ := h
    exact ⟨n, rfl, rfl⟩
theorem no_int_of_trod {H : Type} {enc : TypeId × Value → H} {P : Program} {w : World} {base : Nat} {sp : Nat → Bool} {held : Bool} {fuel : Nat} {t : TypeId} {k : IntKind} {y : DataW H × List MemPlace}
    (ht : P.underlying t = some (.int k)) (h : DataW.trod enc P w base sp held fuel t [] = some y) : False := by
  cases fuel with
  | zero => simp [DataW.trod] at h
  | succ fuel => simp [DataW.trod, ht] at h
theorem ints_of_trod {H : Type} {enc : TypeId × Value → H} {P : Program} {w : World} {base : Nat} {sp : Nat → Bool} {held : Bool} {fuel : Nat} {e : TypeId} {k : IntKind} (he : P.underlying e = some (.int k)) (cs : List Value) :
    ∀ (is : List Nat) (zs : List Int) (xs : List (DataW H × List MemPlace)), (is.mapM fun i => DataW.trod enc P w base sp held fuel e ((cs.drop (i * 1)).take 1)) = some xs → xs.map (·.1) = zs.map (fun z => DataW.lit (.int k z)) →
      ∀ (j : Nat) (hj : j < is.length), ∃ z, zs[j]? = some z ∧ cs[is[j]]? = some (.int k z)
  | [], _, _, _, _, j, hj => absurd hj (by simp)
  | i :: is, zs, xs, h, hz, j, hj => by
    simp only [List.mapM_cons, Option.bind_eq_bind, Option.bind_eq_some_iff, Option.pure_def, Option.some.injEq] at h
    obtain ⟨y, h0, ys, h1, rfl⟩ := h
    cases zs with
    | nil => simp at hz
    | cons z zs =>
      simp only [List.map_cons, List.cons.injEq] at hz
      cases j with
      | zero =>
        rcases hd : cs.drop (i * 1) with _ | ⟨c, r⟩
        · rw [hd] at h0; exact (no_int_of_trod he h0).elim
        · rw [hd] at h0
          obtain ⟨n, rfl, rfl⟩ := int_of_trod (c := c) he h0
          have e2 : n = z := by simpa using hz.1
          subst e2
          refine ⟨n, rfl, ?_⟩
          have : (cs.drop (i * 1))[0]? = some (.int k n) := by rw [hd]; rfl
          simpa using this
      | succ j =>
        obtain ⟨z', a, b⟩ := ints_of_trod he cs is zs ys h1 hz.2 j (by simpa using hj)
        exact ⟨z', by simpa using a, by simpa using b⟩
/-- an array of numbers -/
theorem arr_of_trod {H : Type} {enc : TypeId × Value → H} {P : Program} {w : World} {base : Nat} {sp : Nat → Bool} {held : Bool} {fuel : Nat} {t e : TypeId} {k : IntKind} {n : Nat} {cs : List Value} {zs : List Int} {p : List MemPlace}
    (ht : P.underlying t = some (.array n e)) (he : P.underlying e = some (.int k)) (hc : P.cellsOf e = 1) (h : DataW.trod enc P w base sp held fuel t cs = some (.agg (zs.map fun z => DataW.lit (.int k z)), p)) :
    ∀ j, j < n → ∃ z, zs[j]? = some z ∧ cs[j]? = some (.int k z) := by
  cases fuel with
  | zero => simp [DataW.trod] at h
  | succ fuel =>
    simp only [DataW.trod, ht, hc] at h
    split at h
    · simp only [Option.map_eq_some_iff] at h
      obtain ⟨xs, h1, h2⟩ := h
      have h3 : xs.map (·.1) = zs.map (fun z => DataW.lit (.int k z)) := by
        have := congrArg Prod.fst h2; simpa using this
      intro j hj
      have := ints_of_trod he cs (List.range n) zs xs h1 h3 j (by simpa using hj)
      simpa using this
    · cases h
end Go.Proofs.YtgobdhedeodpiaaDoor
