/- Joined: Range2; Range3; RuY -/
import Derived.Test.YtmmdpjliknmhgaaGreatDoorJRB
import Derived.Test.YtmmdpjliknmhgaaGreatDoorJRJ
import Derived.Test.YtmmdpjliknmhgaaGreatDoorJRI
import Derived.Test.YtmmdpjliknmhgaaGreatDoorJRC
import Derived.Deep.QuietTactic
import Derived.BigQuiet
import Derived.StillTailTactics
/- Range over a function whose round lays its variables in blocks of their own. -/
namespace Go.Proofs.YtmmdpjliknmhgaaGreatDoor
open Go.RowKit
section
variable {F : Fence} {n : Nat} {P : Program}
/-- as range_law, where the assignment of a round's variables may lay blocks (a variable that is captured): R: what the frame and the world are behind it -/
theorem range_law2 {α : Type} {g : Operand} {ps : Array Tmp} {assign body : Code} {Q : Exit → Act → World → Prop} {a : Act} {w : World}
    (hro : F.round = none) (h1 : 1 ≤ n) {gf : Nat} {lb : Array Value} (hg : a.eval g = .func (.func gf) #[] lb) (hFg : F.fn gf) (eg : ∀ args w, (callFunc gf args).run P w = .ok (.enter gf args) w)
    {encs : α → Array Value} {G Kp : World → World → Prop} {S Sp : List α → World → Prop} {N : Nat}
    (hseq : ∀ W, Below w.heap.size w W → W.heap.size = w.heap.size + 2 → SeqG F (n - 1) P gf lb encs G Kp S Sp N W)
    (hKt : ∀ {A B C : World}, Kp A B → Kp B C → Kp A C) (hKb : ∀ W l o o', w.heap.size ≤ l → W.heap[l]? = some o → o.isCells = false → Kp W (W.putObj l o'))
    (hGk : ∀ A B, G A B → Keeps w.heap.size A B) (hps : ∀ x, (encs x).size = ps.size)
    (I : List α → World → Prop) (Ix : Code → List α → World → Prop) (hI : Bears w.heap.size I) (hIx : ∀ c, Bears w.heap.size (Ix c)) (hS : Bears w.heap.size S) (hSp : Bears w.heap.size Sp)
    (hIG : ∀ s A B, I s A → G A B → I s B) (hIxG : ∀ c s A B, Ix c s A → G A B → Ix c s B) (h0 : I [] w) (R : α → Act → World → Prop) (hRp : ∀ x b, Bears w.heap.size (fun (_ : Unit) W => R x b W))
    (hassign : ∀ (l : Nat) (pre : List α) (x : α) (W : World) (K : Act → World → Prop), I pre W → (∀ b W', R x b W' → I pre W' → Keeps w.heap.size W W' → Kp W W' → K b W') →
      assign.wpIn (F.inRound l) (n - 1 - 1) P (Exit.then K (fun _ _ _ => False)) { tmps := (ps.zip (encs x)).foldl (fun t (p, v) => t.setIfInBounds p v) a.tmps, defers := [] } W)
    (hbody : ∀ (l : Nat) (pre : List α) (x : α) (b : Act) (W : World), R x b W → I pre W → pre.length < N → body.wpIn (F.inRound l) (n - 1 - 1) P (outOf w.heap.size Kp I Ix (pre ++ [x]) W) b W)
    (hdone : ∀ (D : Nat) (xs : List α) (W : World), w.heap.size ≤ D → S xs W → I xs W → W.heap[D]? = some (.deferred (some [])) → Q .normal { a with defers := { target := .collected D, args := #[] } :: a.defers } W)
    (hstop : ∀ (D : Nat) (c : Code) (pre : List α) (W : World), w.heap.size ≤ D → Sp pre W → Ix c pre W → W.heap[D]? = some (.deferred (some [])) → c.wpIn F n P Q { a with defers := { target := .collected D, args := #[] } :: a.defers } W) :
    (Code.rangeFunc g ps assign body).wpIn F n P Q a w := by
  refine wpIn_rangeFunc fun fn hfn => ?_
  rw [hro]
  generalize hD : w.heap.size = D at *
  obtain ⟨rec, hrec⟩ : ∃ rec : LoopState → Option Code → Loop, rec = fun st pe => { state := st, pending := pe, fn, tmps := a.tmps, params := ps, assign, body, defers := D } := ⟨_, rfl⟩
  have hst : ∀ st pe, (rec st pe).state = st := fun _ _ => by rw [hrec]
  have hpe : ∀ st pe, (rec st pe).pending = pe := fun _ _ => by rw [hrec]
  obtain ⟨W1, hW1⟩ : ∃ W1, (w.alloc (.deferred (some []))).alloc (.loop (rec .ready none)) = W1 := ⟨_, rfl⟩
  have hz : (w.alloc (.deferred (some []))).heap.size = D + 1 := by rw [World.size_alloc, hD]
  have hL : W1.heap[D + 1]? = some (.loop (rec .ready none)) := by rw [← hW1, ← hz]; exact World.alloc_heap_new _ _
  have hK : W1.heap[D]? = some (.deferred (some [])) := by
    rw [← hW1, Below.heap_alloc _ _ _ (by rw [hz]; omega), ← hD]; exact World.alloc_heap_new _ _
  have hsize : W1.heap.size = D + 2 := by rw [← hW1, World.size_alloc, hz]
  have hbel : Below D w W1 := by rw [← hW1]; exact ((Below.refl D w).alloc (by omega) _).alloc (by rw [hz]; omega) _
  have hI1 : I [] W1 := by rw [← hW1]; exact hI.2 _ _ _ (hI.2 _ _ _ h0)
  refine ⟨D + 1, [{ target := .collected D, args := #[] }], W1, { target := .fn (.func gf) lb, args := #[.func (.yield (D + 1)) #[] #[]] }, W1, gf,
    #[.func (.yield (D + 1)) #[] #[]] ++ lb, W1, ?enter, ?resolve, ?leads, ?invoke, fun _ => h1, ?call⟩
  case enter => rw [← hW1, hrec, ← hD]; exact run_enterLoop_outer _ _ _ _ _
  case resolve => simp only [resolve, hg]; simp [go_sem]
  case leads => intro f' hf'; simp [Target.leads] at hf'; subst hf'; exact hFg
  case invoke => simp [invoke, go_sem, eg]
  case call =>
    refine (hseq W1 hbel hsize (D + 1)
      (fun pre W => I pre W ∧ W.heap[D + 1]? = some (.loop (rec .ready none)) ∧ W.heap[D]? = some (.deferred (some [])))
      (fun pre W => ∃ c, Ix c pre W ∧ W.heap[D + 1]? = some (.loop (rec .done (some c))) ∧ W.heap[D]? = some (.deferred (some [])))
      (fun s A B hs hg' => ⟨hIG s A B hs.1 hg', hGk A B hg' _ _ (by omega) hs.2.1 rfl, hGk A B hg' _ _ (by omega) hs.2.2 rfl⟩)
      (fun s A B ⟨c, hc, hl, hk⟩ hg' => ⟨c, hIxG c s A B hc hg', hGk A B hg' _ _ (by omega) hl rfl, hGk A B hg' _ _ (by omega) hk rfl⟩)
      ?round ⟨hI1, hL, hK⟩).mono ?behind
    case round =>
      rintro pre x W ⟨hi, hl, hk⟩ hlen
      have hlt : D + 1 < W.heap.size := (Array.getElem?_eq_some_iff.1 hl).1
      have hy := run_yield (P := P) (args := encs x) hl (by rw [hrec]; exact hps x)
      rw [hrec] at hy
      refine ⟨fn, _, assign, body, hy, roundIn_of_wpIn hfn (hassign _ pre x W _ hi (fun a₁ W₁ hR1 hi hkeep hkp => ⟨_, run_beginRound (hkeep _ _ (by omega) hl rfl) (hst _ _), ?_⟩))⟩
      replace hl := hkeep _ _ (by omega) hl rfl
      replace hk := hkeep _ _ (Nat.le_refl _) hk rfl
      have hlt : D + 1 < W₁.heap.size := (Array.getElem?_eq_some_iff.1 hl).1
      obtain ⟨busy, hbusy⟩ : ∃ b : Loop, b = { rec .ready none with state := .busy } := ⟨_, rfl⟩
      rw [← hbusy]
      obtain ⟨V, hV⟩ : ∃ V, W₁.putObj (D + 1) (.loop busy) = V := ⟨_, rfl⟩
      have hl2 : V.heap[D + 1]? = some (.loop busy) := by rw [← hV]; exact World.putObj_heap_same hlt
      have hk2 : V.heap[D]? = some (.deferred (some [])) := by rw [← hV]; exact (World.putObj_heap_other (by omega)).trans hk
      have hw2 : Kp W V := hKt hkp (by rw [← hV]; exact hKb _ _ _ _ (by omega) hl rfl)
      have hR2 : R x a₁ V := by rw [← hV]; exact (hRp x a₁).1 () _ _ _ _ hR1 (by omega) hl rfl
      have hi2 : I pre V := by rw [← hV]; exact hI.1 _ _ _ _ _ hi (by omega) hl rfl
      rw [hV]
      have fin : ∀ (jump : Option Code) (X : World), Keeps D V X →
          (Instr.endRound (D + 1) jump).run P X = .ok (.bool jump.isNone) (X.putObj (D + 1) (.loop (rec (if jump.isNone then .ready else .done) jump))) ∧
          X.heap[D + 1]? = some (.loop busy) ∧
          (X.putObj (D + 1) (.loop (rec (if jump.isNone then .ready else .done) jump))).heap[D + 1]? = some (.loop (rec (if jump.isNone then .ready else .done) jump)) ∧
          (X.putObj (D + 1) (.loop (rec (if jump.isNone then .ready else .done) jump))).heap[D]? = some (.deferred (some [])) := by
        intro jump X hkx
        have hx := hkx _ _ (by omega) hl2 rfl
        have hr := run_endRound (P := P) jump hx
        have e : ({ busy with state := if jump.isNone then .ready else .done, pending := jump } : Loop) = rec (if jump.isNone then .ready else .done) jump := by rw [hbusy, hrec]
        rw [e] at hr
        exact ⟨hr, hx, World.putObj_heap_same (Array.getElem?_eq_some_iff.1 hx).1, (World.putObj_heap_other (by omega)).trans (hkx _ _ (Nat.le_refl _) hk2 rfl)⟩
      refine wpIn_mono (hbody _ pre x a₁ V hR2 hi2 hlen) ?_
      rintro e b X hp
      cases e with
      | normal =>
        obtain ⟨q1, q2, q3⟩ := hp
        obtain ⟨r1, r2, r3, r4⟩ := fin none X q1
        exact ⟨_, _, r1, .inl ⟨rfl, ⟨hI.1 _ _ _ _ _ q3 (by omega) r2 rfl, r3, r4⟩, hKt (hKt hw2 q2) (hKb _ _ _ _ (by omega) r2 rfl)⟩⟩
      | ret =>
        obtain ⟨q1, q3⟩ := hp
        obtain ⟨r1, r2, r3, r4⟩ := fin (some .ret) X q1
        exact ⟨_, _, r1, .inr ⟨rfl, .ret, (hIx _).1 _ _ _ _ _ q3 (by omega) r2 rfl, r3, r4⟩⟩
      | exit id =>
        obtain ⟨q1, q3⟩ := hp
        obtain ⟨r1, r2, r3, r4⟩ := fin (some (.exit id)) X q1
        exact ⟨_, _, r1, .inr ⟨rfl, .exit id, (hIx _).1 _ _ _ _ _ q3 (by omega) r2 rfl, r3, r4⟩⟩
      | goto t =>
        obtain ⟨q1, q3⟩ := hp
        obtain ⟨r1, r2, r3, r4⟩ := fin (some (.goto t)) X q1
        exact ⟨_, _, r1, .inr ⟨rfl, .goto t, (hIx _).1 _ _ _ _ _ q3 (by omega) r2 rfl, r3, r4⟩⟩
      | panic ch => exact hp.elim
      | outgrown => exact hp.elim
    case behind =>
      rintro e V ⟨⟨v, rfl⟩, (⟨xs, hs, hi, hl, hk⟩ | ⟨pre, hs, c, hi, hl, hk⟩)⟩
      · refine ⟨none, _, (run_endLoop (P := P) hl (by rw [hst]; simp)).trans (by rw [hpe]), ?_⟩
        exact hdone _ xs _ (Nat.le_refl _) (hS.1 _ _ _ _ _ hs (by omega) hl rfl) (hI.1 _ _ _ _ _ hi (by omega) hl rfl) ((World.putObj_heap_other (by omega)).trans hk)
      · refine ⟨some c, _, (run_endLoop (P := P) hl (by rw [hst]; simp)).trans (by rw [hpe]), ?_⟩
        exact hstop _ c pre _ (Nat.le_refl _) (hSp.1 _ _ _ _ _ hs (by omega) hl rfl) ((hIx c).1 _ _ _ _ _ hi (by omega) hl rfl) ((World.putObj_heap_other (by omega)).trans hk)
end
end Go.Proofs.YtmmdpjliknmhgaaGreatDoor
/- Range over a function that reads what the round's body writes. -/
namespace Go.Proofs.YtmmdpjliknmhgaaGreatDoor
open Go.RowKit
/-- as SeqG, where the iterator reads, between its rounds, what the caller's invariant says (T) -/
def SeqT {α : Type} (F : Fence) (n : Nat) (P : Program) (g : Nat) (lb : Array Value) (encs : α → Array Value) (G Kp : World → World → Prop) (T S Sp : List α → World → Prop) (N : Nat) (W : World) : Prop :=
  ∀ (l : Nat) (J Jx : List α → World → Prop), (∀ s A, J s A → T s A) → (∀ s A B, J s A → G A B → J s B) → (∀ s A B, Jx s A → G A B → Jx s B) →
    (∀ pre x V, J pre V → pre.length < N → YieldAt F (n - 1) P l (encs x) V fun e V' =>
      (e = .returned (.bool true) ∧ J (pre ++ [x]) V' ∧ Kp V V') ∨ (e = .returned (.bool false) ∧ Jx (pre ++ [x]) V')) →
    J [] W →
    CallsIn F n P g (#[.func (.yield l) #[] #[]] ++ lb) W fun e V => (∃ v, e = .returned v) ∧ ((∃ xs, S xs V ∧ J xs V) ∨ (∃ pre, Sp pre V ∧ Jx pre V))
section
variable {F : Fence} {n : Nat} {P : Program}
/-- as range_law2, with what the iterator reads of the body's (T): where the assignment of a round's variables may lay blocks (a variable that is captured): R: what the frame and the world are behind it -/
theorem range_law3 {α : Type} {g : Operand} {ps : Array Tmp} {assign body : Code} {Q : Exit → Act → World → Prop} {a : Act} {w : World}
    (hro : F.round = none) (h1 : 1 ≤ n) {gf : Nat} {lb : Array Value} (hg : a.eval g = .func (.func gf) #[] lb) (hFg : F.fn gf) (eg : ∀ args w, (callFunc gf args).run P w = .ok (.enter gf args) w)
    {encs : α → Array Value} {G Kp : World → World → Prop} {T S Sp : List α → World → Prop} {N : Nat}
    (hseq : ∀ W, Below w.heap.size w W → W.heap.size = w.heap.size + 2 → SeqT F (n - 1) P gf lb encs G Kp T S Sp N W)
    (hKt : ∀ {A B C : World}, Kp A B → Kp B C → Kp A C) (hKb : ∀ W l o o', w.heap.size ≤ l → W.heap[l]? = some o → o.isCells = false → Kp W (W.putObj l o'))
    (hGk : ∀ A B, G A B → Keeps w.heap.size A B) (hps : ∀ x, (encs x).size = ps.size)
    (I : List α → World → Prop) (Ix : Code → List α → World → Prop) (hI : Bears w.heap.size I) (hIx : ∀ c, Bears w.heap.size (Ix c)) (hS : Bears w.heap.size S) (hSp : Bears w.heap.size Sp)
    (hIG : ∀ s A B, I s A → G A B → I s B) (hIxG : ∀ c s A B, Ix c s A → G A B → Ix c s B) (h0 : I [] w) (hIT : ∀ s W, I s W → T s W) (R : α → Act → World → Prop) (hRp : ∀ x b, Bears w.heap.size (fun (_ : Unit) W => R x b W))
    (hassign : ∀ (l : Nat) (pre : List α) (x : α) (W : World) (K : Act → World → Prop), I pre W → (∀ b W', R x b W' → I pre W' → Keeps w.heap.size W W' → Kp W W' → K b W') →
      assign.wpIn (F.inRound l) (n - 1 - 1) P (Exit.then K (fun _ _ _ => False)) { tmps := (ps.zip (encs x)).foldl (fun t (p, v) => t.setIfInBounds p v) a.tmps, defers := [] } W)
    (hbody : ∀ (l : Nat) (pre : List α) (x : α) (b : Act) (W : World), R x b W → I pre W → pre.length < N → body.wpIn (F.inRound l) (n - 1 - 1) P (outOf w.heap.size Kp I Ix (pre ++ [x]) W) b W)
    (hdone : ∀ (D : Nat) (xs : List α) (W : World), w.heap.size ≤ D → S xs W → I xs W → W.heap[D]? = some (.deferred (some [])) → Q .normal { a with defers := { target := .collected D, args := #[] } :: a.defers } W)
    (hstop : ∀ (D : Nat) (c : Code) (pre : List α) (W : World), w.heap.size ≤ D → Sp pre W → Ix c pre W → W.heap[D]? = some (.deferred (some [])) → c.wpIn F n P Q { a with defers := { target := .collected D, args := #[] } :: a.defers } W) :
    (Code.rangeFunc g ps assign body).wpIn F n P Q a w := by
  refine wpIn_rangeFunc fun fn hfn => ?_
  rw [hro]
  generalize hD : w.heap.size = D at *
  obtain ⟨rec, hrec⟩ : ∃ rec : LoopState → Option Code → Loop, rec = fun st pe => { state := st, pending := pe, fn, tmps := a.tmps, params := ps, assign, body, defers := D } := ⟨_, rfl⟩
  have hst : ∀ st pe, (rec st pe).state = st := fun _ _ => by rw [hrec]
  have hpe : ∀ st pe, (rec st pe).pending = pe := fun _ _ => by rw [hrec]
  obtain ⟨W1, hW1⟩ : ∃ W1, (w.alloc (.deferred (some []))).alloc (.loop (rec .ready none)) = W1 := ⟨_, rfl⟩
  have hz : (w.alloc (.deferred (some []))).heap.size = D + 1 := by rw [World.size_alloc, hD]
  have hL : W1.heap[D + 1]? = some (.loop (rec .ready none)) := by rw [← hW1, ← hz]; exact World.alloc_heap_new _ _
  have hK : W1.heap[D]? = some (.deferred (some [])) := by
    rw [← hW1, Below.heap_alloc _ _ _ (by rw [hz]; omega), ← hD]; exact World.alloc_heap_new _ _
  have hsize : W1.heap.size = D + 2 := by rw [← hW1, World.size_alloc, hz]
  have hbel : Below D w W1 := by rw [← hW1]; exact ((Below.refl D w).alloc (by omega) _).alloc (by rw [hz]; omega) _
  have hI1 : I [] W1 := by rw [← hW1]; exact hI.2 _ _ _ (hI.2 _ _ _ h0)
  refine ⟨D + 1, [{ target := .collected D, args := #[] }], W1, { target := .fn (.func gf) lb, args := #[.func (.yield (D + 1)) #[] #[]] }, W1, gf,
    #[.func (.yield (D + 1)) #[] #[]] ++ lb, W1, ?enter, ?resolve, ?leads, ?invoke, fun _ => h1, ?call⟩
  case enter => rw [← hW1, hrec, ← hD]; exact run_enterLoop_outer _ _ _ _ _
  case resolve => simp only [resolve, hg]; simp [go_sem]
  case leads => intro f' hf'; simp [Target.leads] at hf'; subst hf'; exact hFg
  case invoke => simp [invoke, go_sem, eg]
  case call =>
    refine (hseq W1 hbel hsize (D + 1)
      (fun pre W => I pre W ∧ W.heap[D + 1]? = some (.loop (rec .ready none)) ∧ W.heap[D]? = some (.deferred (some [])))
      (fun pre W => ∃ c, Ix c pre W ∧ W.heap[D + 1]? = some (.loop (rec .done (some c))) ∧ W.heap[D]? = some (.deferred (some [])))
      (fun s A hs => hIT _ _ hs.1)
      (fun s A B hs hg' => ⟨hIG s A B hs.1 hg', hGk A B hg' _ _ (by omega) hs.2.1 rfl, hGk A B hg' _ _ (by omega) hs.2.2 rfl⟩)
      (fun s A B ⟨c, hc, hl, hk⟩ hg' => ⟨c, hIxG c s A B hc hg', hGk A B hg' _ _ (by omega) hl rfl, hGk A B hg' _ _ (by omega) hk rfl⟩)
      ?round ⟨hI1, hL, hK⟩).mono ?behind
    case round =>
      rintro pre x W ⟨hi, hl, hk⟩ hlen
      have hlt : D + 1 < W.heap.size := (Array.getElem?_eq_some_iff.1 hl).1
      have hy := run_yield (P := P) (args := encs x) hl (by rw [hrec]; exact hps x)
      rw [hrec] at hy
      refine ⟨fn, _, assign, body, hy, roundIn_of_wpIn hfn (hassign _ pre x W _ hi (fun a₁ W₁ hR1 hi hkeep hkp => ⟨_, run_beginRound (hkeep _ _ (by omega) hl rfl) (hst _ _), ?_⟩))⟩
      replace hl := hkeep _ _ (by omega) hl rfl
      replace hk := hkeep _ _ (Nat.le_refl _) hk rfl
      have hlt : D + 1 < W₁.heap.size := (Array.getElem?_eq_some_iff.1 hl).1
      obtain ⟨busy, hbusy⟩ : ∃ b : Loop, b = { rec .ready none with state := .busy } := ⟨_, rfl⟩
      rw [← hbusy]
      obtain ⟨V, hV⟩ : ∃ V, W₁.putObj (D + 1) (.loop busy) = V := ⟨_, rfl⟩
      have hl2 : V.heap[D + 1]? = some (.loop busy) := by rw [← hV]; exact World.putObj_heap_same hlt
      have hk2 : V.heap[D]? = some (.deferred (some [])) := by rw [← hV]; exact (World.putObj_heap_other (by omega)).trans hk
      have hw2 : Kp W V := hKt hkp (by rw [← hV]; exact hKb _ _ _ _ (by omega) hl rfl)
      have hR2 : R x a₁ V := by rw [← hV]; exact (hRp x a₁).1 () _ _ _ _ hR1 (by omega) hl rfl
      have hi2 : I pre V := by rw [← hV]; exact hI.1 _ _ _ _ _ hi (by omega) hl rfl
      rw [hV]
      have fin : ∀ (jump : Option Code) (X : World), Keeps D V X →
          (Instr.endRound (D + 1) jump).run P X = .ok (.bool jump.isNone) (X.putObj (D + 1) (.loop (rec (if jump.isNone then .ready else .done) jump))) ∧
          X.heap[D + 1]? = some (.loop busy) ∧
          (X.putObj (D + 1) (.loop (rec (if jump.isNone then .ready else .done) jump))).heap[D + 1]? = some (.loop (rec (if jump.isNone then .ready else .done) jump)) ∧
          (X.putObj (D + 1) (.loop (rec (if jump.isNone then .ready else .done) jump))).heap[D]? = some (.deferred (some [])) := by
        intro jump X hkx
        have hx := hkx _ _ (by omega) hl2 rfl
        have hr := run_endRound (P := P) jump hx
        have e : ({ busy with state := if jump.isNone then .ready else .done, pending := jump } : Loop) = rec (if jump.isNone then .ready else .done) jump := by rw [hbusy, hrec]
        rw [e] at hr
        exact ⟨hr, hx, World.putObj_heap_same (Array.getElem?_eq_some_iff.1 hx).1, (World.putObj_heap_other (by omega)).trans (hkx _ _ (Nat.le_refl _) hk2 rfl)⟩
      refine wpIn_mono (hbody _ pre x a₁ V hR2 hi2 hlen) ?_
      rintro e b X hp
      cases e with
      | normal =>
        obtain ⟨q1, q2, q3⟩ := hp
        obtain ⟨r1, r2, r3, r4⟩ := fin none X q1
        exact ⟨_, _, r1, .inl ⟨rfl, ⟨hI.1 _ _ _ _ _ q3 (by omega) r2 rfl, r3, r4⟩, hKt (hKt hw2 q2) (hKb _ _ _ _ (by omega) r2 rfl)⟩⟩
      | ret =>
        obtain ⟨q1, q3⟩ := hp
        obtain ⟨r1, r2, r3, r4⟩ := fin (some .ret) X q1
        exact ⟨_, _, r1, .inr ⟨rfl, .ret, (hIx _).1 _ _ _ _ _ q3 (by omega) r2 rfl, r3, r4⟩⟩
      | exit id =>
        obtain ⟨q1, q3⟩ := hp
        obtain ⟨r1, r2, r3, r4⟩ := fin (some (.exit id)) X q1
        exact ⟨_, _, r1, .inr ⟨rfl, .exit id, (hIx _).1 _ _ _ _ _ q3 (by omega) r2 rfl, r3, r4⟩⟩
      | goto t =>
        obtain ⟨q1, q3⟩ := hp
        obtain ⟨r1, r2, r3, r4⟩ := fin (some (.goto t)) X q1
        exact ⟨_, _, r1, .inr ⟨rfl, .goto t, (hIx _).1 _ _ _ _ _ q3 (by omega) r2 rfl, r3, r4⟩⟩
      | panic ch => exact hp.elim
      | outgrown => exact hp.elim
    case behind =>
      rintro e V ⟨⟨v, rfl⟩, (⟨xs, hs, hi, hl, hk⟩ | ⟨pre, hs, c, hi, hl, hk⟩)⟩
      · refine ⟨none, _, (run_endLoop (P := P) hl (by rw [hst]; simp)).trans (by rw [hpe]), ?_⟩
        exact hdone _ xs _ (Nat.le_refl _) (hS.1 _ _ _ _ _ hs (by omega) hl rfl) (hI.1 _ _ _ _ _ hi (by omega) hl rfl) ((World.putObj_heap_other (by omega)).trans hk)
      · refine ⟨some c, _, (run_endLoop (P := P) hl (by rw [hst]; simp)).trans (by rw [hpe]), ?_⟩
        exact hstop _ c pre _ (Nat.le_refl _) (hSp.1 _ _ _ _ _ hs (by omega) hl rfl) ((hIx c).1 _ _ _ _ _ hi (by omega) hl rfl) ((World.putObj_heap_other (by omega)).trans hk)
end
end Go.Proofs.YtmmdpjliknmhgaaGreatDoor
/- Walks of layer 14: the iterator over a text's rules. -/
namespace Go.Proofs.YtmmdpjliknmhgaaGreatDoor
open Go.RowKit Go.Shelf
attribute [local go_sem] Oper.semAt_some
abbrev wrV (n : Nat) : Value := .iface 52 (.agg #[.int .i64 n, .nilIface])
/-- the laid variables that rules' reading looks at -/
def Glob (ea : Addr) (mx : Int) (W : World) : Prop := W.cell? ⟨1, 0, none⟩ = some (eV ea) ∧ Tab W ∧ ErrT W ∧ W.cell? ⟨3, 0, none⟩ = some (.int .i64 mx)
theorem Glob.same {ea : Addr} {mx : Int} {w W : World} (h : Glob ea mx w) (hl : ∀ k, k < w.heap.size → W.heap[k]? = w.heap[k]?) : Glob ea mx W := by
  obtain ⟨h1, h2, h3, h4⟩ := h
  exact ⟨(World.cell?_of_block (w := w) (hl _ (World.block_lt_of_cell? w _ h1))).trans h1, h2.same (hl _ h2.lt), (World.cell?_of_block (w := w) (hl _ (World.block_lt_of_cell? w _ h3))).trans h3, (World.cell?_of_block (w := w) (hl _ (World.block_lt_of_cell? w _ h4))).trans h4⟩
/-- the reader, as what ranges over it knows it -/
def RdT (q : Nat) (pre : List RuT) (W : World) : Prop := ∃ u ao cp ev, Blk W q #[u, .slice ao pre.length cp, ev] 65 ∧ RulesV W (.slice ao pre.length cp) pre
/-- the iterator's own steps -/
def rdG (q : Nat) (A B : World) : Prop := A.grownBy B (some q) ∧ ∃ u rv ev u' ev', Blk A q #[u, rv, ev] 65 ∧ Blk B q #[u', rv, ev'] 65
theorem rdG_below {q : Nat} {A B : World} {u rv ev : Value} (h : Blk A q #[u, rv, ev] 65) (hb : Below A.heap.size A B) : rdG q A B := ⟨grown_of_below hb _, u, rv, ev, u, ev, h, h.below hb h.lt⟩
/-- what a round keeps for it -/
def rdK (D q c : Nat) (A B : World) : Prop := (∀ k, k < D → B.heap[k]? = A.heap[k]?) ∧ (∀ j u, j ≠ 1 → A.cell? ⟨q, j, none⟩ = some u → B.cell? ⟨q, j, none⟩ = some u) ∧ (∀ u, A.cell? ⟨c, 0, none⟩ = some u → B.cell? ⟨c, 0, none⟩ = some u)
/-- what it ends with -/
def RdE (s : List UInt8) (q : Nat) (xs : List RuT) (W : World) : Prop := (ruL.parse s = (some xs, 0) ∧ W.cell? ⟨q, 2, none⟩ = some .nilIface) ∨ (ruL.parse s = (none, xs.length) ∧ W.cell? ⟨q, 2, none⟩ = some (wrV xs.length))
theorem go_step (pre : List RuT) (rest : List UInt8) (h : rest ≠ []) : ruL.go (rest.length + 1) pre rest = (match readX labK filK 1000 (cutN rest).1 with | none => (none, pre.length) | some x => if (cutN rest).2.2 && ruL.right (pre ++ [x]) then ruL.go ((cutN rest).2.1.length + 1) (pre ++ [x]) (cutN rest).2.1 else (none, pre.length)) := by
  rw [LineS.go, if_neg h]
  have e : ruL.read (cutN rest).1 = readX labK filK 1000 (cutN rest).1 := rfl
  rw [e]
  cases readX labK filK 1000 (cutN rest).1 with
  | none => rfl
  | some x =>
    simp only
    split
    · exact ruL.go_fuel _ _ _ (by have := cutN_len rest h; omega) _ (by omega)
    · rfl
theorem cutN_le : ∀ s : List UInt8, (cutN s).1.length ≤ s.length
  | [] => Nat.le_refl _
  | c :: s => by
    have := cutN_le s
    unfold cutN
    split
    · simp
    · simp; omega
theorem readX_ok {s : List UInt8} {x : RuT} (h : readX labK filK 1000 s = some x) : OkR x ∧ 1 ≤ x.id := by
  have hid := (isRX_facts ((readX_back labK filK 1000 s x h).1)).1.1
  refine ⟨?_, hid⟩
  unfold readX at h
  split at h
  · rename_i w0 w1 w2 w3 w4 w5 _
    split at h
    · injection h with h
      subst h
      exact ⟨parL_lt w2, parL_lt w3, Nat.le_trans (parF_len w5) (by omega)⟩
    · cases h
  · cases h
def rlN (q : Nat) (W : World) : Nat := match W.cell? ⟨q, 0, none⟩ with | some (.string s) => s.size | _ => 0
theorem rlN_eq {q : Nat} {W : World} {l : List UInt8} (h : W.cell? ⟨q, 0, none⟩ = some (.string ⟨l.toArray⟩)) : rlN q W = l.length := by
  simp [rlN, h, ba_size]
theorem infoR : (Tryz.prog.info? 40).map (fun i => (i.zero, i.size, i.bytes)) = some (some (.agg #[.int .i64 0, .int .i64 0, .int .u64 0, .int .i64 0, .int .i64 0, .int .u64 0, .int .i64 0, .int .i64 0, .int .i64 0, .int .i64 0, .string ⟨#[]⟩]), 11, 96) := by kernel_rfl
theorem rd_end {q : Nat} {A B : World} {u rv ev x : Value} (h : Blk A q #[u, rv, ev] 65) (hb : Below A.heap.size A B) : rdG q A (B.setCell ⟨q, 2, none⟩ x) ∧ (B.setCell ⟨q, 2, none⟩ x).cell? ⟨q, 2, none⟩ = some x := by
  have h1 := (h.below hb h.lt).set 2 x
  exact ⟨⟨grownBy_t (grown_of_below hb _) (grownBy_setCellB B q 2 x), u, rv, ev, u, x, h, by simpa using h1⟩, (h1.cell 2).trans rfl⟩
attribute [-go_sem] sliced
set_option maxRecDepth 100000 in
set_option maxHeartbeats 8000000 in
theorem ruAll1_seq (n : Nat) (w0 : World) (ea : Addr) (mx : Int) (hG : Glob ea mx w0) (q c : Nat) (hq0 : w0.heap.size ≤ q) (_hc0 : w0.heap.size ≤ c) (hcq : c ≠ q) (s0 : List UInt8) (hs0 : s0.length ≤ 1000000) (W : World)
    (hlow : ∀ k, k < w0.heap.size → W.heap[k]? = w0.heap[k]?) (hwz : w0.heap.size ≤ W.heap.size) (hcc : W.cell? ⟨c, 0, none⟩ = some (.pointer (some ⟨q, 0, none⟩))) (hc1 : W.cell? ⟨q, 0, none⟩ = some (.string ⟨s0.toArray⟩)) (hc2 : W.cell? ⟨q, 2, none⟩ = some .nilIface) :
    SeqT Fence.wide n Tryz.prog 47 #[.pointer (some ⟨c, 0, none⟩)] (fun x : RuT => #[ruV x]) (rdG q) (rdK w0.heap.size q c) (RdT q) (RdE s0 q) (fun _ _ => True) 8 W := by
  intro l J Jx hT hJ hJx hY h0
  obtain ⟨i0, hI, hz0, hz1, hz2⟩ := info_parts infoR
  (refine callsIn_of_wp Tryz.func47 rfl trivial ?_ rfl; simp only [Tryz.ntmps47, List.size_toArray, List.length_cons, List.length_nil, Nat.reduceAdd, Nat.reduceSub, Array.replicate_succ, Array.replicate_zero, List.push_toArray, List.append_toArray, List.nil_append, List.cons_append])
  refine wpIn_scope_w ?_
  gi_wp2
  refine wpIn_label ?_
  gi_wp2
  gi_loopw [] (fun wr => ∃ (pre : List RuT) (rest : List UInt8), Hid (ruL.parse s0 = ruL.go (rest.length + 1) pre rest) ∧ Hid (ruL.right pre = true ∧ ∀ r ∈ pre, OkR r) ∧ rest.length ≤ s0.length ∧ (∀ k, k < w0.heap.size → wr.heap[k]? = w0.heap[k]?) ∧ w0.heap.size ≤ wr.heap.size ∧ wr.cell? ⟨c, 0, none⟩ = some (.pointer (some ⟨q, 0, none⟩)) ∧ wr.cell? ⟨q, 0, none⟩ = some (.string ⟨rest.toArray⟩) ∧ wr.cell? ⟨q, 2, none⟩ = some .nilIface ∧ J pre wr) (fun wr => rlN q wr)
  case atStart => exact ⟨[], s0, rfl, ⟨LineS.right_nil ruL, fun r h => by cases h⟩, Nat.le_refl _, hlow, hwz, hcc, hc1, hc2, h0⟩
  case round =>
    obtain ⟨pre, rest, hsp, hok, hlen, hlw, hzr, hkc, hk0, hk2, hj⟩ := hrel
    by_cases hr : rest = []
    · subst hr
      have hfin : RdE s0 q pre wr := .inl ⟨by rw [hsp.out]; rfl, hk2⟩
      clear hsp hok hlw hT hJ hJx hY h0 hlow hwz hcc hc1 hc2 hG
      gi_wp2
      simp only [Exit.noGoto_normal]
      go_end0
      exact ⟨⟨_, rfl⟩, .inl ⟨pre, hfin, hj⟩⟩
    · have hgs := go_step pre rest hr
      have hstr : rest.isEmpty = false := by simpa using hr
      obtain ⟨u, ao, cp, ev, hq, hv⟩ := hT pre wr hj
      have hq' : Blk wr q #[.string ⟨rest.toArray⟩, .slice ao pre.length cp, .nilIface] 65 := by
        have e0 := (hq.cell 0).symm.trans hk0
        have e2 := (hq.cell 2).symm.trans hk2
        simp at e0 e2
        rw [← e0, ← e2]; exact hq
      clear hq
      have hmeas : Hid (rlN q wr = rest.length) := rlN_eq hk0
      have hp8 : pre.length ≤ 8 := by
        have h := hok.out.1
        unfold LineS.right at h
        simp only [Bool.and_eq_true, decide_eq_true_eq] at h
        exact h.2
      have HN := next_any q rest (by omega) (.slice ao pre.length cp) .nilIface wr hq'
      have hlq := cutN_len rest hr
      have hll := cutN_le rest
      generalize cutN rest = ct at *
      obtain ⟨line, rst, ended⟩ := ct
      dsimp only at *
      have hqlt : q < wr.heap.size := hq'.lt
      have hclt := World.block_lt_of_cell? wr _ hkc
      have hqb := hq'
      clear hq'
      have hsp2 : Hid (ruL.parse s0 = (match readX labK filK 1000 line with | none => (none, pre.length) | some x => if ended && ruL.right (pre ++ [x]) then ruL.go (rst.length + 1) (pre ++ [x]) rst else (none, pre.length))) := by
        show _ = _; rw [hsp.out, hgs]
      clear hgs hsp
      gi_wp2_with (refine ⟨trivial, fun h => (by cases h), ?_⟩; gi_at_call 48; with_reducible refine (callsIn_wide.2 HN).mono ?_; rintro e w1 ⟨rfl, hq1, hg1⟩)
      clear HN
      have hG1 : Glob ea mx w1 := hG.same fun k hk => (hg1.block k (by omega) (by simp; omega)).trans (hlw k hk)
      have HR := ruRule_any line (by omega) mx ea w1 hG1.1 hG1.2.1 hG1.2.2.1 hG1.2.2.2
      have hj1 : J pre w1 := hJ _ _ _ hj ⟨hg1, _, _, _, _, _, hqb, hq1⟩
      have hkc1 := (World.cell?_of_block (w := wr) (a := ⟨c, 0, none⟩) (hg1.block c hclt (by simpa using hcq))).trans hkc
      have hlw1 : ∀ k, k < w0.heap.size → w1.heap[k]? = w0.heap[k]? := fun k hk => (hg1.block k (by omega) (by simp; omega)).trans (hlw k hk)
      have hv1 : RulesV w1 (.slice ao pre.length cp) pre := by
        obtain ⟨u', ao', cp', ev', hq', hv'⟩ := hT pre w1 hj1
        have e1 := (hq'.cell 1).symm.trans (hq1.cell 1)
        simp at e1
        obtain ⟨rfl, rfl⟩ := e1
        exact hv'
      have hzr1 : wr.heap.size ≤ w1.heap.size := hg1.size
      clear hg1 hj hkc hlw hv hqb hk0 hk2 hG1
      gi_wp2_with (refine ⟨trivial, fun h => (by cases h), ?_⟩; gi_at_call 49; with_reducible refine (callsIn_wide.2 HR).mono ?_; rintro e w2 ⟨rfl, b2⟩)
      clear HR
      have hj2 : J pre w2 := hJ _ _ _ hj1 (rdG_below hq1 b2)
      have q2 := hq1.below b2 hq1.lt
      have k2c := (KeepC.of_below b2).2 _ _ _ hkc1
      have v2 := hv1.keep (KeepC.of_below b2)
      have l2w : ∀ k, k < w0.heap.size → w2.heap[k]? = w0.heap[k]? := fun k hk => (b2.block k (by omega)).trans (hlw1 k hk)
      have hz2w : wr.heap.size ≤ w2.heap.size := Nat.le_trans hzr1 b2.size
      clear hq1 b2 hkc1 hv1 hlw1 hzr1 hj1
      obtain ⟨y, hy⟩ : ∃ y, (readX labK filK 1000 line).getD zRu = y := ⟨_, rfl⟩
      simp only [hy]
      have hyH := Lib.hid hy
      clear hy
      obtain ⟨id, ⟨l1, S1, i1⟩, ⟨l2, S2, i2⟩, bu, ⟨k, m, form⟩⟩ := y
      obtain ⟨W3, hW3⟩ : ∃ W3, w2.alloc (.cells #[.int .i64 id, .int .i64 l1, .int .u64 S1, .int .i64 i1, .int .i64 l2, .int .u64 S2, .int .i64 i2, .int .i64 bu, .int .i64 k, .int .i64 m, .string ⟨form.toArray⟩] 40) = W3 := ⟨_, rfl⟩
      obtain ⟨W4, hW4⟩ : ∃ W4, W3.alloc (.cells #[.int .i64 0, .int .i64 0, .int .u64 0, .int .i64 0, .int .i64 0, .int .u64 0, .int .i64 0, .int .i64 0, .int .i64 0, .int .i64 0, .string ⟨#[]⟩] 40) = W4 := ⟨_, rfl⟩
      have B4 : Below w2.heap.size w2 W4 := hW4 ▸ ((hW3 ▸ (Below.refl _ w2).alloc (Nat.le_refl _) _ : Below w2.heap.size w2 W3)).alloc (by rw [← hW3]; simp) _
      cases hrd : readX labK filK 1000 line with
      | none =>
        rw [hrd] at hsp2
        have hP : Hid (ruL.parse s0 = (none, pre.length)) := hsp2.out
        simp only [Option.isSome_none]
        clear hsp2 hok hrd hY hlow hwz hcc hc1 hc2 h0 hG hyH
        cases ended with
        | false =>
          gi_wp2
          simp only [hW3, hW4]
          refine wpIn_wide.2 ?_
          go_quiet (fail)
          have B5 : Below w2.heap.size w2 (W4.drewN nq) := below_drewN B4 nq
          generalize W4.drewN nq = W5 at *
          clear hW3 hW4 B4
          have qq := q2.below B5 q2.lt
          have kc5 := (KeepC.of_below B5).2 _ _ _ k2c
          have kq1 : W5.cell? ⟨q, 1, none⟩ = some (.slice ao pre.length cp) := (qq.cell 1).trans rfl
          have kq2 : W5.cell? ⟨q, 2, none⟩ = some .nilIface := (qq.cell 2).trans rfl
          have fq2 : W5.frozen? ⟨q, 2, none⟩ = false := qq.frozen 2
          gi_wp2
          refine wpIn_wide.2 ?_
          go_still_tail 10, (by kernel_rfl)
          go_wp2_with fail
          gi_wp2
          simp only [Exit.noGoto_normal]
          go_end0
          have hE := rd_end (x := wrV pre.length) q2 B5.drew
          exact ⟨⟨_, rfl⟩, .inl ⟨pre, .inr ⟨hP.out, hE.2⟩, hJ _ _ _ hj2 hE.1⟩⟩
        | true =>
          gi_wp2
          simp only [hW3, hW4]
          refine wpIn_wide.2 ?_
          go_quiet (fail)
          have B5 : Below w2.heap.size w2 (W4.drewN nq) := below_drewN B4 nq
          generalize W4.drewN nq = W5 at *
          clear hW3 hW4 B4
          have qq := q2.below B5 q2.lt
          have kc5 := (KeepC.of_below B5).2 _ _ _ k2c
          have kq1 : W5.cell? ⟨q, 1, none⟩ = some (.slice ao pre.length cp) := (qq.cell 1).trans rfl
          have kq2 : W5.cell? ⟨q, 2, none⟩ = some .nilIface := (qq.cell 2).trans rfl
          have fq2 : W5.frozen? ⟨q, 2, none⟩ = false := qq.frozen 2
          gi_wp2
          refine wpIn_wide.2 ?_
          go_still_tail 10, (by kernel_rfl)
          go_wp2_with fail
          gi_wp2
          simp only [Exit.noGoto_normal]
          go_end0
          have hE := rd_end (x := wrV pre.length) q2 B5.drew
          exact ⟨⟨_, rfl⟩, .inl ⟨pre, .inr ⟨hP.out, hE.2⟩, hJ _ _ _ hj2 hE.1⟩⟩
      | some x =>
        rw [hrd] at hsp2
        have hxy : x = ⟨id, (l1, S1, i1), (l2, S2, i2), bu, (k, m, form)⟩ := by have := hyH.out; rw [hrd] at this; exact this
        subst hxy
        simp only [Option.isSome_some]
        obtain ⟨hokx, hid1⟩ := readX_ok hrd
        dsimp only at hid1
        clear hrd hyH hlow hwz hcc hc1 hc2 h0
        cases ended with
        | false =>
          have hP : Hid (ruL.parse s0 = (none, pre.length)) := hsp2.out
          clear hsp2 hok hY hG hokx
          gi_wp2
          simp only [hW3, hW4]
          refine wpIn_wide.2 ?_
          go_quiet (fail)
          have B5 : Below w2.heap.size w2 (W4.drewN nq) := below_drewN B4 nq
          generalize W4.drewN nq = W5 at *
          clear hW3 hW4 B4
          have qq := q2.below B5 q2.lt
          have kc5 := (KeepC.of_below B5).2 _ _ _ k2c
          have kq1 : W5.cell? ⟨q, 1, none⟩ = some (.slice ao pre.length cp) := (qq.cell 1).trans rfl
          have kq2 : W5.cell? ⟨q, 2, none⟩ = some .nilIface := (qq.cell 2).trans rfl
          have fq2 : W5.frozen? ⟨q, 2, none⟩ = false := qq.frozen 2
          gi_wp2
          refine wpIn_wide.2 ?_
          go_still_tail 10, (by kernel_rfl)
          go_wp2_with fail
          gi_wp2
          simp only [Exit.noGoto_normal]
          go_end0
          have hE := rd_end (x := wrV pre.length) q2 B5.drew
          exact ⟨⟨_, rfl⟩, .inl ⟨pre, .inr ⟨hP.out, hE.2⟩, hJ _ _ _ hj2 hE.1⟩⟩
        | true =>
          have hid0 : (id == 0) = false := by rw [beq_eq_false_iff_ne]; omega
          have hok2 : Hid (∀ r ∈ pre ++ [⟨id, (l1, S1, i1), (l2, S2, i2), bu, (k, m, form)⟩], OkR r) := fun r hr => by
            rcases List.mem_append.1 hr with h | h
            · exact hok.out.2 r h
            · rcases List.mem_singleton.1 h with rfl; exact hokx
          have HA := fun U v (hU : Below w2.heap.size w2 U) (hv : RulesV U v (pre ++ [⟨id, (l1, S1, i1), (l2, S2, i2), bu, (k, m, form)⟩])) => areRight_any _ (by rw [List.length_append]; simp; omega) hok2.out v ea U (hG.same fun k hk => (hU.block k (by omega)).trans (l2w k hk)).1 hv
          have hR8 : Hid (ruL.right (pre ++ [⟨id, (l1, S1, i1), (l2, S2, i2), bu, (k, m, form)⟩]) = true → pre.length < 8) := fun h => by
            unfold LineS.right at h
            simp only [Bool.and_eq_true, decide_eq_true_eq, List.length_append, List.length_cons, List.length_nil] at h
            omega
          have hYy := Lib.hid (fun V hV (h : pre.length < 8) => hY pre ⟨id, (l1, S1, i1), (l2, S2, i2), bu, (k, m, form)⟩ V hV h)
          have hsp3 : Hid (ruL.parse s0 = if ruL.right (pre ++ [⟨id, (l1, S1, i1), (l2, S2, i2), bu, (k, m, form)⟩]) = true then ruL.go (rst.length + 1) (pre ++ [⟨id, (l1, S1, i1), (l2, S2, i2), bu, (k, m, form)⟩]) rst else (none, pre.length)) := hsp2.out
          have hRr : Hid (ruL.right (pre ++ [⟨id, (l1, S1, i1), (l2, S2, i2), bu, (k, m, form)⟩]) = ruL.right (pre ++ [⟨id, (l1, S1, i1), (l2, S2, i2), bu, (k, m, form)⟩])) := rfl
          obtain ⟨R, hRe⟩ : ∃ R, ruL.right (pre ++ [⟨id, (l1, S1, i1), (l2, S2, i2), bu, (k, m, form)⟩]) = R := ⟨_, rfl⟩
          simp only [hRe] at HA
          have hReH := Lib.hid hRe
          clear hRe hRr hsp2 hY hG hokx hok hid1
          have n3 : Blk W3 w2.heap.size #[.int .i64 id, .int .i64 l1, .int .u64 S1, .int .i64 i1, .int .i64 l2, .int .u64 S2, .int .i64 i2, .int .i64 bu, .int .i64 k, .int .i64 m, .string ⟨form.toArray⟩] 40 := hW3 ▸ Blk.new w2 _ _
          have hz3 : W3.heap.size = w2.heap.size + 1 := by rw [← hW3]; simp
          have n4x : Blk W4 w2.heap.size #[.int .i64 id, .int .i64 l1, .int .u64 S1, .int .i64 i1, .int .i64 l2, .int .u64 S2, .int .i64 i2, .int .i64 bu, .int .i64 k, .int .i64 m, .string ⟨form.toArray⟩] 40 := hW4 ▸ n3.alloc _
          have n4z : Blk W4 (w2.heap.size + 1) #[.int .i64 0, .int .i64 0, .int .u64 0, .int .i64 0, .int .i64 0, .int .u64 0, .int .i64 0, .int .i64 0, .int .i64 0, .int .i64 0, .string ⟨#[]⟩] 40 := hW4 ▸ hz3 ▸ Blk.new W3 _ _
          have hz4 : W4.heap.size = w2.heap.size + 1 + 1 := by rw [← hW4, World.size_alloc, hz3]
          have q4 := q2.below B4 q2.lt
          have c4 := (KeepC.of_below B4).2 _ _ _ k2c
          have SK : Hid (∀ U, Below W4.heap.size W4 U → U.cell? ⟨c, 0, none⟩ = some (.pointer (some ⟨q, 0, none⟩)) ∧ U.cell? ⟨q, 1, none⟩ = some (.slice ao pre.length cp) ∧ (U.cell? ⟨w2.heap.size, 0, none⟩ = some (.int .i64 id) ∧ U.cell? ⟨w2.heap.size, 1, none⟩ = some (.int .i64 l1) ∧ U.cell? ⟨w2.heap.size, 2, none⟩ = some (.int .u64 S1) ∧ U.cell? ⟨w2.heap.size, 3, none⟩ = some (.int .i64 i1) ∧ U.cell? ⟨w2.heap.size, 4, none⟩ = some (.int .i64 l2) ∧ U.cell? ⟨w2.heap.size, 5, none⟩ = some (.int .u64 S2) ∧ U.cell? ⟨w2.heap.size, 6, none⟩ = some (.int .i64 i2) ∧ U.cell? ⟨w2.heap.size, 7, none⟩ = some (.int .i64 bu) ∧ U.cell? ⟨w2.heap.size, 8, none⟩ = some (.int .i64 k) ∧ U.cell? ⟨w2.heap.size, 9, none⟩ = some (.int .i64 m) ∧ U.cell? ⟨w2.heap.size, 10, none⟩ = some (.string ⟨form.toArray⟩)) ∧ (U.cell? ⟨(w2.heap.size + 1), 0, none⟩ = some (.int .i64 0) ∧ U.cell? ⟨(w2.heap.size + 1), 1, none⟩ = some (.int .i64 0) ∧ U.cell? ⟨(w2.heap.size + 1), 2, none⟩ = some (.int .u64 0) ∧ U.cell? ⟨(w2.heap.size + 1), 3, none⟩ = some (.int .i64 0) ∧ U.cell? ⟨(w2.heap.size + 1), 4, none⟩ = some (.int .i64 0) ∧ U.cell? ⟨(w2.heap.size + 1), 5, none⟩ = some (.int .u64 0) ∧ U.cell? ⟨(w2.heap.size + 1), 6, none⟩ = some (.int .i64 0) ∧ U.cell? ⟨(w2.heap.size + 1), 7, none⟩ = some (.int .i64 0) ∧ U.cell? ⟨(w2.heap.size + 1), 8, none⟩ = some (.int .i64 0) ∧ U.cell? ⟨(w2.heap.size + 1), 9, none⟩ = some (.int .i64 0) ∧ U.cell? ⟨(w2.heap.size + 1), 10, none⟩ = some (.string ⟨#[]⟩))) := by
            show ∀ U, _
            intro U h
            have x := n4x.below h n4x.lt
            have z := n4z.below h n4z.lt
            have y := q4.below h q4.lt
            exact ⟨(KeepC.of_below h).2 _ _ _ c4, (y.cell 1).trans rfl, ⟨(x.cell 0).trans rfl, (x.cell 1).trans rfl, (x.cell 2).trans rfl, (x.cell 3).trans rfl, (x.cell 4).trans rfl, (x.cell 5).trans rfl, (x.cell 6).trans rfl, (x.cell 7).trans rfl, (x.cell 8).trans rfl, (x.cell 9).trans rfl, (x.cell 10).trans rfl⟩, ⟨(z.cell 0).trans rfl, (z.cell 1).trans rfl, (z.cell 2).trans rfl, (z.cell 3).trans rfl, (z.cell 4).trans rfl, (z.cell 5).trans rfl, (z.cell 6).trans rfl, (z.cell 7).trans rfl, (z.cell 8).trans rfl, (z.cell 9).trans rfl, (z.cell 10).trans rfl⟩⟩
          obtain ⟨W5, hW5⟩ : ∃ W5, (W4.alloc (.cells #[.int .i64 id, .int .i64 l1, .int .u64 S1, .int .i64 i1, .int .i64 l2, .int .u64 S2, .int .i64 i2, .int .i64 bu, .int .i64 k, .int .i64 m, .string ⟨form.toArray⟩] 40)).drew = W5 := ⟨_, rfl⟩
          have B5 : Below W4.heap.size W4 W5 := hW5 ▸ ((Below.refl _ W4).alloc (Nat.le_refl _) _).drew
          have n5 : Blk W5 W4.heap.size #[.int .i64 id, .int .i64 l1, .int .u64 S1, .int .i64 i1, .int .i64 l2, .int .u64 S2, .int .i64 i2, .int .i64 bu, .int .i64 k, .int .i64 m, .string ⟨form.toArray⟩] 40 := hW5 ▸ (Blk.new W4 _ _).drew
          have v4 := v2.keep (KeepC.of_below B4)
          have v5 := (v4.keep (KeepC.of_below B5)).full
          have hy3 : Hid (sliced ao 0 pre.length pre.length 11 = .slice ao pre.length pre.length) := sliced_full ao pre.length 11 v4
          have hcp : pre.length ≤ cp := by obtain ⟨-, a', cp', e, h, -⟩ := v2; injection e with e1 e2 e3; omega
          obtain ⟨a6, c6, W6, hrun, b6, v6⟩ := run_append3 (P := Tryz.prog) 22 22 40 i0 _ Tryz.underlying22 hI hz0 hz1 hz2 (by omega) (by omega) v5 ⟨W4.heap.size, 0, none⟩ 1 #[.int .i64 id, .int .i64 l1, .int .u64 S1, .int .i64 i1, .int .i64 l2, .int .u64 S2, .int .i64 i2, .int .i64 bu, .int .i64 k, .int .i64 m, .string ⟨form.toArray⟩].toList rfl (ruBlk_srcs n5)
          have B6 := B5.trans (b6.mono B5.size)
          have HA6 := HA W6 (.slice a6 (pre.length + 1) c6) (B4.trans (B6.mono B4.size)) (by show SlR 11 _ _ _ _; rw [List.length_append, rusC_app]; exact v6)
          have hrunH := Lib.hid hrun
          clear HA hrun v6 v5 v4 n5 n4x n4z n3 b6 hI hz0 hz1 hz2 hz3 hz4 q4 c4 v2
          have hcpz : (pre.length : Int) ≤ (cp : Int) := by omega
          have hnz : (0 : Int) ≤ (pre.length : Int) := by omega
          gi_wp2
          simp only [hW3, hW4]
          refine wpIn_wide.2 ?_
          clear hW3 hW4
          refine wp_region_noPanic ?_
          refine wp_region_held_drew (S := (fun u => u.cell? ⟨c, 0, none⟩ = some (.pointer (some ⟨q, 0, none⟩)) ∧ u.cell? ⟨q, 1, none⟩ = some (.slice ao pre.length cp) ∧ (u.cell? ⟨w2.heap.size, 0, none⟩ = some (.int .i64 id) ∧ u.cell? ⟨w2.heap.size, 1, none⟩ = some (.int .i64 l1) ∧ u.cell? ⟨w2.heap.size, 2, none⟩ = some (.int .u64 S1) ∧ u.cell? ⟨w2.heap.size, 3, none⟩ = some (.int .i64 i1) ∧ u.cell? ⟨w2.heap.size, 4, none⟩ = some (.int .i64 l2) ∧ u.cell? ⟨w2.heap.size, 5, none⟩ = some (.int .u64 S2) ∧ u.cell? ⟨w2.heap.size, 6, none⟩ = some (.int .i64 i2) ∧ u.cell? ⟨w2.heap.size, 7, none⟩ = some (.int .i64 bu) ∧ u.cell? ⟨w2.heap.size, 8, none⟩ = some (.int .i64 k) ∧ u.cell? ⟨w2.heap.size, 9, none⟩ = some (.int .i64 m) ∧ u.cell? ⟨w2.heap.size, 10, none⟩ = some (.string ⟨form.toArray⟩)) ∧ (u.cell? ⟨(w2.heap.size + 1), 0, none⟩ = some (.int .i64 0) ∧ u.cell? ⟨(w2.heap.size + 1), 1, none⟩ = some (.int .i64 0) ∧ u.cell? ⟨(w2.heap.size + 1), 2, none⟩ = some (.int .u64 0) ∧ u.cell? ⟨(w2.heap.size + 1), 3, none⟩ = some (.int .i64 0) ∧ u.cell? ⟨(w2.heap.size + 1), 4, none⟩ = some (.int .i64 0) ∧ u.cell? ⟨(w2.heap.size + 1), 5, none⟩ = some (.int .u64 0) ∧ u.cell? ⟨(w2.heap.size + 1), 6, none⟩ = some (.int .i64 0) ∧ u.cell? ⟨(w2.heap.size + 1), 7, none⟩ = some (.int .i64 0) ∧ u.cell? ⟨(w2.heap.size + 1), 8, none⟩ = some (.int .i64 0) ∧ u.cell? ⟨(w2.heap.size + 1), 9, none⟩ = some (.int .i64 0) ∧ u.cell? ⟨(w2.heap.size + 1), 10, none⟩ = some (.string ⟨#[]⟩)))) (by kernel_rfl) ?_ (fun hHeld => ?_)
          · exact SK.out W4 (Below.refl _ _)
          refine wpAnyH_take (i := 0) (oi := _) (v := ?_) (nth_at rfl) (by kernel_rfl) (by kernel_rfl) (by kernel_rfl) (fun _ _ _ h => h) (Or.inl ⟨by rfl, ?_⟩) (by assumption) ?_
          rotate_left 1
          · intro w hSw; (try dsimp only at hSw); (go_simp <;> with_reducible rfl)
          try simp only [Act.put, List.setIfInBounds_toArray, List.set_cons_zero, List.set_cons_succ]
          refine wpAnyH_take (i := 1) (oi := _) (v := ?_) (nth_at rfl) (by kernel_rfl) (by kernel_rfl) (by kernel_rfl) (fun _ _ _ h => h) (Or.inl ⟨by rfl, ?_⟩) (by assumption) ?_
          rotate_left 1
          · intro w hSw; (try dsimp only at hSw); (go_simp <;> with_reducible rfl)
          try simp only [Act.put, List.setIfInBounds_toArray, List.set_cons_zero, List.set_cons_succ]
          refine wpAnyH_take (i := 2) (oi := _) (v := ?_) (nth_at rfl) (by kernel_rfl) (by kernel_rfl) (by kernel_rfl) (fun _ _ _ h => h) (Or.inl ⟨by rfl, ?_⟩) (by assumption) ?_
          rotate_left 1
          · intro w hSw; (try dsimp only at hSw); (go_simp <;> with_reducible rfl)
          try simp only [Act.put, List.setIfInBounds_toArray, List.set_cons_zero, List.set_cons_succ]
          refine wpAnyH_take (i := 3) (oi := _) (v := ?_) (nth_at rfl) (by kernel_rfl) (by kernel_rfl) (by kernel_rfl) (fun _ _ _ h => h) (Or.inl ⟨by rfl, ?_⟩) (by assumption) ?_
          rotate_left 1
          · intro w hSw; (try dsimp only at hSw); (go_simp <;> with_reducible rfl)
          try simp only [Act.put, List.setIfInBounds_toArray, List.set_cons_zero, List.set_cons_succ]
          refine wpAnyH_take (i := 4) (oi := _) (v := ?_) (nth_at rfl) (by kernel_rfl) (by kernel_rfl) (by kernel_rfl) (fun _ _ _ h => h) (Or.inl ⟨by rfl, ?_⟩) (by assumption) ?_
          rotate_left 1
          · intro w hSw; (try dsimp only at hSw); (go_simp <;> with_reducible rfl)
          try simp only [Act.put, List.setIfInBounds_toArray, List.set_cons_zero, List.set_cons_succ]
          refine wpAnyH_take (i := 5) (oi := _) (v := ?_) (nth_at rfl) (by kernel_rfl) (by kernel_rfl) (by kernel_rfl) (fun _ _ _ h => h) (Or.inl ⟨by rfl, ?_⟩) (by assumption) ?_
          rotate_left 1
          · intro w hSw; (try dsimp only at hSw); (go_simp <;> with_reducible rfl)
          try simp only [Act.put, List.setIfInBounds_toArray, List.set_cons_zero, List.set_cons_succ]
          refine wpAnyH_take (i := 6) (oi := _) (v := ?_) (nth_at rfl) (by kernel_rfl) (by kernel_rfl) (by kernel_rfl) (fun _ _ _ h => h) (Or.inl ⟨by rfl, ?_⟩) (by assumption) ?_
          rotate_left 1
          · intro w hSw; (try dsimp only at hSw); (go_simp <;> with_reducible rfl)
          try simp only [Act.put, List.setIfInBounds_toArray, List.set_cons_zero, List.set_cons_succ]
          refine wpAnyH_take (i := 7) (oi := _) (v := ?_) (nth_at rfl) (by kernel_rfl) (by kernel_rfl) (by kernel_rfl) (fun _ _ _ h => h) (Or.inl ⟨by rfl, ?_⟩) (by assumption) ?_
          rotate_left 1
          · intro w hSw; (try dsimp only at hSw); (go_simp <;> with_reducible rfl)
          try simp only [Act.put, List.setIfInBounds_toArray, List.set_cons_zero, List.set_cons_succ]
          refine wpAnyH_take (i := 8) (oi := _) (v := ?_) (nth_at rfl) (by kernel_rfl) (by kernel_rfl) (by kernel_rfl) (fun _ _ _ h => h) (Or.inl ⟨by rfl, ?_⟩) (by assumption) ?_
          rotate_left 1
          · intro w hSw; (try dsimp only at hSw); (go_simp <;> with_reducible rfl)
          try simp only [Act.put, List.setIfInBounds_toArray, List.set_cons_zero, List.set_cons_succ]
          refine wpAnyH_take (i := 9) (oi := _) (v := ?_) (nth_at rfl) (by kernel_rfl) (by kernel_rfl) (by kernel_rfl) (fun _ _ _ h => h) (Or.inl ⟨by rfl, ?_⟩) (by assumption) ?_
          rotate_left 1
          · intro w hSw; (try dsimp only at hSw); (go_simp <;> with_reducible rfl)
          try simp only [Act.put, List.setIfInBounds_toArray, List.set_cons_zero, List.set_cons_succ]
          refine wpAnyH_take (i := 10) (oi := _) (v := ?_) (nth_at rfl) (by kernel_rfl) (by kernel_rfl) (by kernel_rfl) (fun _ _ _ h => h) (Or.inl ⟨by rfl, ?_⟩) (by assumption) ?_
          rotate_left 1
          · intro w hSw; (try dsimp only at hSw); (go_simp <;> with_reducible rfl)
          try simp only [Act.put, List.setIfInBounds_toArray, List.set_cons_zero, List.set_cons_succ]
          refine wpAnyH_take (i := 11) (oi := _) (v := ?_) (nth_at rfl) (by kernel_rfl) (by kernel_rfl) (by kernel_rfl) (fun _ _ _ h => h) (Or.inl ⟨by rfl, ?_⟩) (by assumption) ?_
          rotate_left 1
          · intro w hSw; (try dsimp only at hSw); (go_simp <;> with_reducible rfl)
          try simp only [Act.put, List.setIfInBounds_toArray, List.set_cons_zero, List.set_cons_succ]
          refine wpAnyH_take (i := 12) (oi := _) (v := ?_) (nth_at rfl) (by kernel_rfl) (by kernel_rfl) (by kernel_rfl) (fun _ _ _ h => h) (Or.inl ⟨by rfl, ?_⟩) (by assumption) ?_
          rotate_left 1
          · intro w hSw; (try dsimp only at hSw); (go_simp <;> with_reducible rfl)
          try simp only [Act.put, List.setIfInBounds_toArray, List.set_cons_zero, List.set_cons_succ]
          refine wpAnyH_take (i := 13) (oi := _) (v := ?_) (nth_at rfl) (by kernel_rfl) (by kernel_rfl) (by kernel_rfl) (fun _ _ _ h => h) (Or.inl ⟨by rfl, ?_⟩) (by assumption) ?_
          rotate_left 1
          · intro w hSw; (try dsimp only at hSw); (go_simp <;> with_reducible rfl)
          try simp only [Act.put, List.setIfInBounds_toArray, List.set_cons_zero, List.set_cons_succ]
          refine wpAnyH_take (i := 14) (oi := _) (v := ?_) (nth_at rfl) (by kernel_rfl) (by kernel_rfl) (by kernel_rfl) (fun _ _ _ h => h) (Or.inl ⟨by rfl, ?_⟩) (by assumption) ?_
          rotate_left 1
          · intro w hSw; (try dsimp only at hSw); (go_simp <;> with_reducible rfl)
          try simp only [Act.put, List.setIfInBounds_toArray, List.set_cons_zero, List.set_cons_succ]
          refine wpAnyH_take (i := 15) (oi := _) (v := ?_) (nth_at rfl) (by kernel_rfl) (by kernel_rfl) (by kernel_rfl) (fun _ _ _ h => h) (Or.inl ⟨by rfl, ?_⟩) (by assumption) ?_
          rotate_left 1
          · intro w hSw; (try dsimp only at hSw); (go_simp <;> with_reducible rfl)
          try simp only [Act.put, List.setIfInBounds_toArray, List.set_cons_zero, List.set_cons_succ]
          refine wpAnyH_take (i := 16) (oi := _) (v := ?_) (nth_at rfl) (by kernel_rfl) (by kernel_rfl) (by kernel_rfl) (fun _ _ _ h => h) (Or.inl ⟨by rfl, ?_⟩) (by assumption) ?_
          rotate_left 1
          · intro w hSw; (try dsimp only at hSw); (go_simp <;> with_reducible rfl)
          try simp only [Act.put, List.setIfInBounds_toArray, List.set_cons_zero, List.set_cons_succ]
          refine wpAnyH_take (i := 17) (oi := _) (v := ?_) (nth_at rfl) (by kernel_rfl) (by kernel_rfl) (by kernel_rfl) (fun _ _ _ h => h) (Or.inl ⟨by rfl, ?_⟩) (by assumption) ?_
          rotate_left 1
          · intro w hSw; (try dsimp only at hSw); (go_simp <;> with_reducible rfl)
          try simp only [Act.put, List.setIfInBounds_toArray, List.set_cons_zero, List.set_cons_succ]
          refine wpAnyH_take (i := 18) (oi := _) (v := ?_) (nth_at rfl) (by kernel_rfl) (by kernel_rfl) (by kernel_rfl) (fun _ _ _ h => h) (Or.inl ⟨by rfl, ?_⟩) (by assumption) ?_
          rotate_left 1
          · intro w hSw; (try dsimp only at hSw); (go_simp <;> with_reducible rfl)
          try simp only [Act.put, List.setIfInBounds_toArray, List.set_cons_zero, List.set_cons_succ]
          refine wpAnyH_take (i := 19) (oi := _) (v := ?_) (nth_at rfl) (by kernel_rfl) (by kernel_rfl) (by kernel_rfl) (fun _ _ _ h => h) (Or.inl ⟨by rfl, ?_⟩) (by assumption) ?_
          rotate_left 1
          · intro w hSw; (try dsimp only at hSw); (go_simp <;> with_reducible rfl)
          try simp only [Act.put, List.setIfInBounds_toArray, List.set_cons_zero, List.set_cons_succ]
          refine wpAnyH_take (i := 20) (oi := _) (v := ?_) (nth_at rfl) (by kernel_rfl) (by kernel_rfl) (by kernel_rfl) (fun _ _ _ h => h) (Or.inl ⟨by rfl, ?_⟩) (by assumption) ?_
          rotate_left 1
          · intro w hSw; (try dsimp only at hSw); (go_simp <;> with_reducible rfl)
          try simp only [Act.put, List.setIfInBounds_toArray, List.set_cons_zero, List.set_cons_succ]
          refine wpAnyH_take (i := 21) (oi := _) (v := ?_) (nth_at rfl) (by kernel_rfl) (by kernel_rfl) (by kernel_rfl) (fun _ _ _ h => h) (Or.inl ⟨by rfl, ?_⟩) (by assumption) ?_
          rotate_left 1
          · intro w hSw; (try dsimp only at hSw); (go_simp <;> with_reducible rfl)
          try simp only [Act.put, List.setIfInBounds_toArray, List.set_cons_zero, List.set_cons_succ]
          refine wpAnyH_take (i := 22) (oi := _) (v := ?_) (nth_at rfl) (by kernel_rfl) (by kernel_rfl) (by kernel_rfl) (fun _ _ _ h => h) (Or.inl ⟨by rfl, ?_⟩) (by assumption) ?_
          rotate_left 1
          · intro w hSw; (try dsimp only at hSw); (go_simp <;> with_reducible rfl)
          try simp only [Act.put, List.setIfInBounds_toArray, List.set_cons_zero, List.set_cons_succ]
          refine wpAnyH_take (i := 23) (oi := _) (v := ?_) (nth_at rfl) (by kernel_rfl) (by kernel_rfl) (by kernel_rfl) (fun _ _ _ h => h) (Or.inl ⟨by rfl, ?_⟩) (by assumption) ?_
          rotate_left 1
          · intro w hSw; (try dsimp only at hSw); (go_simp <;> with_reducible rfl)
          try simp only [Act.put, List.setIfInBounds_toArray, List.set_cons_zero, List.set_cons_succ]
          refine wpAnyH_take (i := 24) (oi := _) (v := ?_) (nth_at rfl) (by kernel_rfl) (by kernel_rfl) (by kernel_rfl) (fun _ _ _ h => h) (Or.inl ⟨by rfl, ?_⟩) (by assumption) ?_
          rotate_left 1
          · intro w hSw; (try dsimp only at hSw); (go_simp <;> with_reducible rfl)
          try simp only [Act.put, List.setIfInBounds_toArray, List.set_cons_zero, List.set_cons_succ]
          refine wpAnyH_take (i := 25) (oi := _) (v := ?_) (nth_at rfl) (by kernel_rfl) (by kernel_rfl) (by kernel_rfl) (fun _ _ _ h => h) (Or.inl ⟨by rfl, ?_⟩) (by assumption) ?_
          rotate_left 1
          · intro w hSw; (try dsimp only at hSw); (go_simp <;> with_reducible rfl)
          try simp only [Act.put, List.setIfInBounds_toArray, List.set_cons_zero, List.set_cons_succ]
          refine wpAnyH_take (i := 26) (oi := _) (v := (.slice ao pre.length pre.length)) (nth_at rfl) (by kernel_rfl) (by kernel_rfl) (by kernel_rfl) (fun _ _ _ h => h) (Or.inl ⟨by rfl, ?_⟩) (by assumption) ?_
          · intro w hSw; (try dsimp only at hSw); (go_simp <;> (have h := hy3.out; simp [sliced] at h ⊢; exact h))
          try simp only [Act.put, List.setIfInBounds_toArray, List.set_cons_zero, List.set_cons_succ]
          refine wpAnyH_take (i := 27) (oi := _) (v := ?_) (nth_at rfl) (by kernel_rfl) (by kernel_rfl) (by kernel_rfl) (fun _ _ _ h => h) (Or.inl ⟨by rfl, ?_⟩) (by assumption) ?_
          rotate_left 1
          · intro w hSw; (try dsimp only at hSw); (go_simp <;> with_reducible rfl)
          try simp only [Act.put, List.setIfInBounds_toArray, List.set_cons_zero, List.set_cons_succ]
          refine wpAnyH_ready (rs := [28]) (by kernel_rfl) (by simp) ?_
          refine AllReadyH.cons (o := _) (nth_at rfl) (fun K hK => ?_) AllReadyH.nil
          go_simp
          try rw [hW5]
          try clear hHeld
          refine hK.out _ _ ?_ (fun hHeld => ?_)
          · exact SK.out _ B5
          clear hK K
          try simp only [Act.put, List.setIfInBounds_toArray, List.set_cons_zero, List.set_cons_succ]
          refine wpAnyH_ready (rs := [29]) (by kernel_rfl) (by simp) ?_
          refine AllReadyH.cons (o := _) (nth_at rfl) (fun K hK => ?_) AllReadyH.nil
          rw [if_pos (by rfl)]
          refine Lib.wp_append_run _ _ _ _ _ rfl _ _ rfl rfl _ _ hrunH.out ?_
          try clear hHeld
          refine hK.out _ _ ?_ (fun hHeld => ?_)
          · exact SK.out _ B6
          clear hK K
          try simp only [Act.put, List.setIfInBounds_toArray, List.set_cons_zero, List.set_cons_succ]
          refine wpAnyH_ready (rs := [30]) (by kernel_rfl) (by simp) ?_
          refine AllReadyH.cons (o := _) (nth_at rfl) (fun K hK => ?_) AllReadyH.nil
          go_simp
          with_reducible refine HA6.mono ?_
          rintro e w7 ⟨rfl, b7⟩
          have B7 := B6.trans (b7.mono B6.size)
          try clear hHeld
          refine hK.out _ _ ?_ (fun hHeld => ?_)
          · exact SK.out _ B7
          clear hK K
          try simp only [Act.put, List.setIfInBounds_toArray, List.set_cons_zero, List.set_cons_succ]
          refine wpAnyH_take (i := 31) (oi := _) (v := ?_) (nth_at rfl) (by kernel_rfl) (by kernel_rfl) (by kernel_rfl) (fun _ _ _ h => h) (Or.inl ⟨by rfl, ?_⟩) (by assumption) ?_
          rotate_left 1
          · intro w hSw; (try dsimp only at hSw); (go_simp <;> with_reducible rfl)
          try simp only [Act.put, List.setIfInBounds_toArray, List.set_cons_zero, List.set_cons_succ]
          refine wpAnyH_take (i := 32) (oi := _) (v := ?_) (nth_at rfl) (by kernel_rfl) (by kernel_rfl) (by kernel_rfl) (fun _ _ _ h => h) (Or.inl ⟨by rfl, ?_⟩) (by assumption) ?_
          rotate_left 1
          · intro w hSw; (try dsimp only at hSw); (go_simp <;> with_reducible rfl)
          try simp only [Act.put, List.setIfInBounds_toArray, List.set_cons_zero, List.set_cons_succ]
          refine wpAnyH_done (by kernel_rfl) ?_ _
          refine NoPanic.normal ?_
          try clear hHeld
          have hx7 := SK.out w7 B7
          have E7 := B4.trans (B7.mono B4.size)
          have hj7 : J pre w7 := hJ _ _ _ hj2 (rdG_below q2 E7)
          clear hW5
          clear SK HA6 B6 B5 B4 b7 B7 hrunH hy3
          cases R with
          | false =>
            have hP : Hid (ruL.parse s0 = (none, pre.length)) := by show _ = _; rw [hsp3.out, if_neg (by rw [hReH.out]; simp)]
            clear hx7 hYy hsp3 hok2
            have qq := q2.below E7 q2.lt
            have kc5 := (KeepC.of_below E7).2 _ _ _ k2c
            have kq1 : w7.cell? ⟨q, 1, none⟩ = some (.slice ao pre.length cp) := (qq.cell 1).trans rfl
            have kq2 : w7.cell? ⟨q, 2, none⟩ = some .nilIface := (qq.cell 2).trans rfl
            have fq2 : w7.frozen? ⟨q, 2, none⟩ = false := qq.frozen 2
            gi_wp2
            refine wpIn_wide.2 ?_
            go_still_tail 10, (by kernel_rfl)
            go_wp2_with fail
            gi_wp2
            simp only [Exit.noGoto_normal]
            go_end0
            have hE := rd_end (x := wrV pre.length) q2 E7.drew
            exact ⟨⟨_, rfl⟩, .inl ⟨pre, .inr ⟨hP.out, hE.2⟩, hJ _ _ _ hj2 hE.1⟩⟩
          | true =>
            obtain ⟨-, -, ⟨x0, x1, x2, x3, x4, x5, x6, x7, x8, x9, x10⟩, -⟩ := hx7
            have hlen8 := hR8.out hReH.out
            have hsp4 : Hid (ruL.parse s0 = ruL.go (rst.length + 1) (pre ++ [⟨id, (l1, S1, i1), (l2, S2, i2), bu, (k, m, form)⟩]) rst) := by show _ = _; rw [hsp3.out, if_pos hReH.out]
            obtain ⟨fn, tmps, assign, body, hy, hRR⟩ := hYy.out w7 hj7 hlen8
            have hRH := Lib.hid hRR
            clear hYy hRR hsp3
            have q7 := q2.below E7 q2.lt
            have c7 := (KeepC.of_below E7).2 _ _ _ k2c
            gi_wp2
            refine ⟨fun h => (by cases h), hRH.out.mono ?_⟩
            rintro e V (⟨rfl, hj3, hk3⟩ | ⟨rfl, hj3⟩)
            · have kV := hk3.2.2 _ c7
              have k0V := hk3.2.1 0 _ (by decide) ((q7.cell 0).trans rfl)
              have k2V := hk3.2.1 2 _ (by decide) ((q7.cell 2).trans rfl)
              have lV : ∀ k, k < w0.heap.size → V.heap[k]? = w0.heap[k]? := fun k hk => (hk3.1 k hk).trans ((E7.block k (by omega)).trans (l2w k hk))
              have hzV : w0.heap.size ≤ V.heap.size := by have := World.block_lt_of_cell? V _ k0V; dsimp only at this; omega
              clear hk3 x0 x1 x2 x3 x4 x5 x6 x7 x8 x9 x10
              gi_wp2
              go_roundw
              case rel => exact ⟨_, rst, hsp4, ⟨hReH.out, hok2.out⟩, by omega, lV, hzV, kV, k0V, k2V, hj3⟩
              case measure => rw [rlN_eq k0V, hmeas.out]; omega
            · gi_wp2
              simp only [Exit.noGoto_normal]
              go_end0
              exact ⟨⟨_, rfl⟩, .inr ⟨_, trivial, hj3⟩⟩
end Go.Proofs.YtmmdpjliknmhgaaGreatDoor
