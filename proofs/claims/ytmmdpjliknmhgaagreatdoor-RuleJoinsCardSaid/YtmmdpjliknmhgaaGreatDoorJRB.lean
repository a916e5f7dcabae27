/- Joined: Range; Digits; LabPlain; RulLine -/
import Derived.Test.YtmmdpjliknmhgaaGreatDoorJRA
import Derived.RangeFuncNested
import Derived.RangeFuncBound
import Derived.RangeFuncCalls
import Derived.RangeFuncLeaves
import Derived.RangeFuncBox
import Derived.Shelf.Abstract
import Derived.Shelf.RegionOpen
import Derived.OwnWalkIn
import Derived.TacticsInMore
import Derived.LoopNIn
import Derived.LoopIn
import Derived.Maps.AppendAt
import Derived.WalkMore
/- A law for 'for x := range seq' where the iterator keeps a state of its own in cells (a reader, a counter): the iterator's own steps are a relation G that the caller's invariant must bear. On no program. -/
namespace Go.Proofs.YtmmdpjliknmhgaaGreatDoor
open Go.RowKit

/-- The iterator's promise: whatever invariant J the caller has that bears the iterator's own steps G, it calls yield on one x after another, and ends having S (all came) or Sp (a round said no more). -/
def SeqG {α : Type} (F : Fence) (n : Nat) (P : Program) (g : Nat) (lb : Array Value) (encs : α → Array Value) (G Kp : World → World → Prop) (S Sp : List α → World → Prop) (N : Nat) (W : World) : Prop :=
  ∀ (l : Nat) (J Jx : List α → World → Prop), (∀ s A B, J s A → G A B → J s B) → (∀ s A B, Jx s A → G A B → Jx s B) →
    (∀ pre x V, J pre V → pre.length < N → YieldAt F (n - 1) P l (encs x) V fun e V' =>
      (e = .returned (.bool true) ∧ J (pre ++ [x]) V' ∧ Kp V V') ∨ (e = .returned (.bool false) ∧ Jx (pre ++ [x]) V')) →
    J [] W →
    CallsIn F n P g (#[.func (.yield l) #[] #[]] ++ lb) W fun e V => (∃ v, e = .returned v) ∧ ((∃ xs, S xs V ∧ J xs V) ∨ (∃ pre, Sp pre V ∧ Jx pre V))

/-- A relation on worlds that bears the turn of any block that is not of cells from B on, and new blocks. -/
def Bears {β : Type} (B : Nat) (I : β → World → Prop) : Prop :=
  (∀ s W l o o', I s W → B ≤ l → W.heap[l]? = some o → o.isCells = false → I s (W.putObj l o')) ∧ (∀ s W o, I s W → I s (W.alloc o))

/-- What a round's body must keep from block B on: whatever is no cells. -/
def Keeps (B : Nat) (W W' : World) : Prop := ∀ (k : Nat) (o : Obj), B ≤ k → W.heap[k]? = some o → o.isCells = false → W'.heap[k]? = some o

def outOf {α : Type} (B : Nat) (Kp : World → World → Prop) (I : List α → World → Prop) (Ix : Code → List α → World → Prop) (xs : List α) (W : World) : Exit → Act → World → Prop
  | .normal, _, W' => Keeps B W W' ∧ Kp W W' ∧ I xs W'
  | .ret, _, W' => Keeps B W W' ∧ Ix .ret xs W'
  | .exit id, _, W' => Keeps B W W' ∧ Ix (.exit id) xs W'
  | .goto t, _, W' => Keeps B W W' ∧ Ix (.goto t) xs W'
  | .panic _, _, _ => False
  | .outgrown, _, _ => False

variable {F : Fence} {n : Nat} {P : Program}

theorem range_law {α : Type} {g : Operand} {ps : Array Tmp} {assign body : Code} {Q : Exit → Act → World → Prop} {a : Act} {w : World}
    (hro : F.round = none) (h1 : 1 ≤ n) {gf : Nat} {lb : Array Value} (hg : a.eval g = .func (.func gf) #[] lb) (hFg : F.fn gf) (eg : ∀ args w, (callFunc gf args).run P w = .ok (.enter gf args) w)
    {encs : α → Array Value} {G Kp : World → World → Prop} {S Sp : List α → World → Prop} {N : Nat}
    (hseq : ∀ W, Below w.heap.size w W → W.heap.size = w.heap.size + 2 → SeqG F (n - 1) P gf lb encs G Kp S Sp N W)
    (hKt : ∀ {A B C : World}, Kp A B → Kp B C → Kp A C) (hKb : ∀ W l o o', w.heap.size ≤ l → W.heap[l]? = some o → o.isCells = false → Kp W (W.putObj l o'))
    (hGk : ∀ A B, G A B → Keeps w.heap.size A B) (hps : ∀ x, (encs x).size = ps.size)
    (I : List α → World → Prop) (Ix : Code → List α → World → Prop) (hI : Bears w.heap.size I) (hIx : ∀ c, Bears w.heap.size (Ix c)) (hS : Bears w.heap.size S) (hSp : Bears w.heap.size Sp)
    (hIG : ∀ s A B, I s A → G A B → I s B) (hIxG : ∀ c s A B, Ix c s A → G A B → Ix c s B) (h0 : I [] w) (a₁ : α → Act)
    (hassign : ∀ (l : Nat) (x : α) (W : World) (K : Act → World → Prop), K (a₁ x) W →
      assign.wpIn (F.inRound l) (n - 1 - 1) P (Exit.then K (fun _ _ _ => False)) { tmps := (ps.zip (encs x)).foldl (fun t (p, v) => t.setIfInBounds p v) a.tmps, defers := [] } W)
    (hbody : ∀ (l : Nat) (pre : List α) (x : α) (W : World), I pre W → pre.length < N → body.wpIn (F.inRound l) (n - 1 - 1) P (outOf w.heap.size Kp I Ix (pre ++ [x]) W) (a₁ x) W)
    (hdone : ∀ (D : Nat) (xs : List α) (W : World), w.heap.size ≤ D → S xs W → I xs W → W.heap[D]? = some (.deferred (some [])) → Q .normal { a with defers := { target := .collected D, args := #[] } :: a.defers } W)
    (hstop : ∀ (D : Nat) (c : Code) (pre : List α) (W : World), w.heap.size ≤ D → Sp pre W → Ix c pre W → W.heap[D]? = some (.deferred (some [])) → c.wpIn F n P Q { a with defers := { target := .collected D, args := #[] } :: a.defers } W) :
    (Code.rangeFunc g ps assign body).wpIn F n P Q a w := by
  refine wpIn_rangeFunc fun fn hfn => ?_
  rw [hro]
  generalize hD : w.heap.size = D at *
  obtain ⟨rec, hrec⟩ : ∃ rec : LoopState → Option Code → Loop, rec = fun st pe => { state := st, pending := pe, fn, tmps := a.tmps, params := ps, assign, body, defers := D } := ⟨_, rfl⟩
  have hst : ∀ st pe, (rec st pe).state = st := fun _ _ => by rw [hrec]
  have hpe : ∀ st pe, (rec st pe).pending = pe := fun _ _ => by rw [hrec]
  obtain ⟨W1, hW1⟩ : ∃ W1, (w.alloc (.deferred (some []))).alloc (.loop (rec .ready none)) = W1 := ⟨_, rfl⟩
  have hz : (w.alloc (.deferred (some []))).heap.size = D + 1 := by rw [World.size_alloc, hD]
  have hL : W1.heap[D + 1]? = some (.loop (rec .ready none)) := by rw [← hW1, ← hz]; exact World.alloc_heap_new _ _
  have hK : W1.heap[D]? = some (.deferred (some [])) := by
    rw [← hW1, Below.heap_alloc _ _ _ (by rw [hz]; omega), ← hD]; exact World.alloc_heap_new _ _
  have hsize : W1.heap.size = D + 2 := by rw [← hW1, World.size_alloc, hz]
  have hbel : Below D w W1 := by rw [← hW1]; exact ((Below.refl D w).alloc (by omega) _).alloc (by rw [hz]; omega) _
  have hI1 : I [] W1 := by rw [← hW1]; exact hI.2 _ _ _ (hI.2 _ _ _ h0)
  refine ⟨D + 1, [{ target := .collected D, args := #[] }], W1, { target := .fn (.func gf) lb, args := #[.func (.yield (D + 1)) #[] #[]] }, W1, gf,
    #[.func (.yield (D + 1)) #[] #[]] ++ lb, W1, ?enter, ?resolve, ?leads, ?invoke, fun _ => h1, ?call⟩
  case enter => rw [← hW1, hrec, ← hD]; exact run_enterLoop_outer _ _ _ _ _
  case resolve => simp only [resolve, hg]; simp [go_sem]
  case leads => intro f' hf'; simp [Target.leads] at hf'; subst hf'; exact hFg
  case invoke => simp [invoke, go_sem, eg]
  case call =>
    refine (hseq W1 hbel hsize (D + 1)
      (fun pre W => I pre W ∧ W.heap[D + 1]? = some (.loop (rec .ready none)) ∧ W.heap[D]? = some (.deferred (some [])))
      (fun pre W => ∃ c, Ix c pre W ∧ W.heap[D + 1]? = some (.loop (rec .done (some c))) ∧ W.heap[D]? = some (.deferred (some [])))
      (fun s A B hs hg' => ⟨hIG s A B hs.1 hg', hGk A B hg' _ _ (by omega) hs.2.1 rfl, hGk A B hg' _ _ (by omega) hs.2.2 rfl⟩)
      (fun s A B ⟨c, hc, hl, hk⟩ hg' => ⟨c, hIxG c s A B hc hg', hGk A B hg' _ _ (by omega) hl rfl, hGk A B hg' _ _ (by omega) hk rfl⟩)
      ?round ⟨hI1, hL, hK⟩).mono ?behind
    case round =>
      rintro pre x W ⟨hi, hl, hk⟩ hlen
      have hlt : D + 1 < W.heap.size := (Array.getElem?_eq_some_iff.1 hl).1
      have hy := run_yield (P := P) (args := encs x) hl (by rw [hrec]; exact hps x)
      rw [hrec] at hy
      refine ⟨fn, _, assign, body, hy, roundIn_of_wpIn hfn (hassign _ x W _ ⟨_, run_beginRound hl (hst _ _), ?_⟩)⟩
      obtain ⟨busy, hbusy⟩ : ∃ b : Loop, b = { rec .ready none with state := .busy } := ⟨_, rfl⟩
      rw [← hbusy]
      obtain ⟨V, hV⟩ : ∃ V, W.putObj (D + 1) (.loop busy) = V := ⟨_, rfl⟩
      have hl2 : V.heap[D + 1]? = some (.loop busy) := by rw [← hV]; exact World.putObj_heap_same hlt
      have hk2 : V.heap[D]? = some (.deferred (some [])) := by rw [← hV]; exact (World.putObj_heap_other (by omega)).trans hk
      have hw2 : Kp W V := by rw [← hV]; exact hKb _ _ _ _ (by omega) hl rfl
      have hi2 : I pre V := by rw [← hV]; exact hI.1 _ _ _ _ _ hi (by omega) hl rfl
      rw [hV]
      have fin : ∀ (jump : Option Code) (X : World), Keeps D V X →
          (Instr.endRound (D + 1) jump).run P X = .ok (.bool jump.isNone) (X.putObj (D + 1) (.loop (rec (if jump.isNone then .ready else .done) jump))) ∧
          X.heap[D + 1]? = some (.loop busy) ∧
          (X.putObj (D + 1) (.loop (rec (if jump.isNone then .ready else .done) jump))).heap[D + 1]? = some (.loop (rec (if jump.isNone then .ready else .done) jump)) ∧
          (X.putObj (D + 1) (.loop (rec (if jump.isNone then .ready else .done) jump))).heap[D]? = some (.deferred (some [])) := by
        intro jump X hkx
        have hx := hkx _ _ (by omega) hl2 rfl
        have hr := run_endRound (P := P) jump hx
        have e : ({ busy with state := if jump.isNone then .ready else .done, pending := jump } : Loop) = rec (if jump.isNone then .ready else .done) jump := by rw [hbusy, hrec]
        rw [e] at hr
        exact ⟨hr, hx, World.putObj_heap_same (Array.getElem?_eq_some_iff.1 hx).1, (World.putObj_heap_other (by omega)).trans (hkx _ _ (Nat.le_refl _) hk2 rfl)⟩
      refine wpIn_mono (hbody _ pre x V hi2 hlen) ?_
      rintro e b X hp
      cases e with
      | normal =>
        obtain ⟨q1, q2, q3⟩ := hp
        obtain ⟨r1, r2, r3, r4⟩ := fin none X q1
        exact ⟨_, _, r1, .inl ⟨rfl, ⟨hI.1 _ _ _ _ _ q3 (by omega) r2 rfl, r3, r4⟩, hKt (hKt hw2 q2) (hKb _ _ _ _ (by omega) r2 rfl)⟩⟩
      | ret =>
        obtain ⟨q1, q3⟩ := hp
        obtain ⟨r1, r2, r3, r4⟩ := fin (some .ret) X q1
        exact ⟨_, _, r1, .inr ⟨rfl, .ret, (hIx _).1 _ _ _ _ _ q3 (by omega) r2 rfl, r3, r4⟩⟩
      | exit id =>
        obtain ⟨q1, q3⟩ := hp
        obtain ⟨r1, r2, r3, r4⟩ := fin (some (.exit id)) X q1
        exact ⟨_, _, r1, .inr ⟨rfl, .exit id, (hIx _).1 _ _ _ _ _ q3 (by omega) r2 rfl, r3, r4⟩⟩
      | goto t =>
        obtain ⟨q1, q3⟩ := hp
        obtain ⟨r1, r2, r3, r4⟩ := fin (some (.goto t)) X q1
        exact ⟨_, _, r1, .inr ⟨rfl, .goto t, (hIx _).1 _ _ _ _ _ q3 (by omega) r2 rfl, r3, r4⟩⟩
      | panic ch => exact hp.elim
      | outgrown => exact hp.elim
    case behind =>
      rintro e V ⟨⟨v, rfl⟩, (⟨xs, hs, hi, hl, hk⟩ | ⟨pre, hs, c, hi, hl, hk⟩)⟩
      · refine ⟨none, _, (run_endLoop (P := P) hl (by rw [hst]; simp)).trans (by rw [hpe]), ?_⟩
        exact hdone _ xs _ (Nat.le_refl _) (hS.1 _ _ _ _ _ hs (by omega) hl rfl) (hI.1 _ _ _ _ _ hi (by omega) hl rfl) ((World.putObj_heap_other (by omega)).trans hk)
      · refine ⟨some c, _, (run_endLoop (P := P) hl (by rw [hst]; simp)).trans (by rw [hpe]), ?_⟩
        exact hstop _ c pre _ (Nat.le_refl _) (hSp.1 _ _ _ _ _ hs (by omega) hl rfl) ((hIx c).1 _ _ _ _ _ hi (by omega) hl rfl) ((World.putObj_heap_other (by omega)).trans hk)
theorem putObj_other (W : World) {l k : Nat} {o o' x : Obj} (hl : W.heap[l]? = some o) (ho : o.isCells = false) (hk : W.heap[k]? = some x) (hx : x.isCells = true) : (W.putObj l o').heap[k]? = some x :=
  (World.putObj_heap_other (fun e => by subst e; rw [hl] at hk; cases hk; rw [ho] at hx; cases hx)).trans hk
theorem bears_boxed {β : Type} (B b : Nat) (t : TypeId) (f : β → Value) : Bears B (fun s W => Boxed W b t (f s)) :=
  ⟨fun _ W _ _ _ h _ hl ho => putObj_other W hl ho h rfl, fun _ _ o h => Boxed.alloc h o⟩
theorem bears_below {β : Type} {n₀ B : Nat} {w₀ : World} (hn : n₀ ≤ w₀.heap.size) (hB : n₀ ≤ B) : Bears B (fun (_ : β) W => Below n₀ w₀ W) :=
  ⟨fun _ W l _ o' h hl _ _ => h.grown (grownBy_putObj' W l o') (Nat.le_trans hn h.size) (fun k e => by cases e; omega), fun _ _ o h => h.alloc (Nat.le_trans hn h.size) o⟩
theorem bears_size {β : Type} (B m : Nat) : Bears B (fun (_ : β) W => m ≤ W.heap.size) :=
  ⟨fun _ W _ _ _ h _ _ _ => by show m ≤ (World.heap _).size; rw [World.putObj_size]; exact h, fun _ W o h => by have h' : m ≤ W.heap.size := h; show m ≤ (World.heap _).size; rw [World.size_alloc]; omega⟩
theorem size_setCell (W : World) (a : Addr) (v : Value) : (W.setCell a v).heap.size = W.heap.size := by simp [World.setCell]
theorem Bears.and {β : Type} {B : Nat} {I J : β → World → Prop} (h : Bears B I) (k : Bears B J) : Bears B (fun s W => I s W ∧ J s W) :=
  ⟨fun s W l o o' x a b c => ⟨h.1 s W l o o' x.1 a b c, k.1 s W l o o' x.2 a b c⟩, fun s W o x => ⟨h.2 s W o x.1, k.2 s W o x.2⟩⟩
theorem bears_const {β : Type} (B : Nat) (p : β → Prop) : Bears B (fun s _ => p s) := ⟨fun _ _ _ _ _ h _ _ _ => h, fun _ _ _ h => h⟩

/-- The iterator's own steps: block b is written, new blocks are laid, draws. -/
def boxG (b : Nat) (A B : World) : Prop := A.grownBy B (some b)
/-- What a round must keep for it: the box. -/
def boxK (b : Nat) (A B : World) : Prop := B.heap[b]? = A.heap[b]?
theorem boxK_t {b : Nat} {A B C : World} (h : boxK b A B) (k : boxK b B C) : boxK b A C := k.trans h
theorem boxK_b {b n₀ : Nat} (hb : b < n₀) (W : World) (l : Nat) (o o' : Obj) (hl : n₀ ≤ l) (_ : W.heap[l]? = some o) (_ : o.isCells = false) : boxK b W (W.putObj l o') := World.putObj_heap_other (by omega)
theorem boxG_keeps {b n₀ : Nat} (hb : b < n₀) (A B : World) (h : boxG b A B) : Keeps n₀ A B := fun k _ hk ho _ =>
  (h.block k (Array.getElem?_eq_some_iff.1 ho).1 (fun e => by cases e; omega)).trans ho
theorem Boxed_boxG {b c : Nat} {t : TypeId} {v : Value} {A B : World} (h : Boxed A c t v) (hg : boxG b A B) (hne : c ≠ b) : Boxed B c t v := h.kept hg (fun e => by cases e; exact hne rfl)
theorem Below_boxG {b n₀ : Nat} {w A B : World} (h : Below n₀ w A) (hg : boxG b A B) (hn : n₀ ≤ w.heap.size) (hb : n₀ ≤ b) : Below n₀ w B := h.grown hg (Nat.le_trans hn h.size) (fun k e => by cases e; exact hb)
theorem size_boxG {b : Nat} {A B : World} (hg : boxG b A B) : A.heap.size ≤ B.heap.size := hg.size
/-- What a round must keep: all blocks below m but its own box. -/
def keepK (m ob : Nat) (A B : World) : Prop := ∀ k, k < m → k ≠ ob → B.heap[k]? = A.heap[k]?
theorem keepK_t {m ob : Nat} {A B C : World} (h : keepK m ob A B) (k : keepK m ob B C) : keepK m ob A C := fun i hi ho => (k i hi ho).trans (h i hi ho)
theorem keepK_b {m ob : Nat} (W : World) (l : Nat) (o o' : Obj) (hl : m ≤ l) (_ : W.heap[l]? = some o) (_ : o.isCells = false) : keepK m ob W (W.putObj l o') := fun k hk _ => World.putObj_heap_other (by omega)
theorem Keeps.setCell (B : Nat) (W : World) (b : Nat) (v : Value) {t : TypeId} {u : Value} (h : Boxed W b t u) : Keeps B W (W.setCell ⟨b, 0, none⟩ v) := by
  intro k o _ ho hc
  rw [Below.heap_setCell _ _ _ _ (fun e => by have e' : k = b := e; have h' : W.heap[b]? = _ := h; rw [← e', ho] at h'; cases h'; cases hc)]; exact ho
theorem Keeps.alloc (B : Nat) (W : World) (o : Obj) : Keeps B W (W.alloc o) := fun k _ _ ho _ => (Below.heap_alloc W o k (Array.getElem?_eq_some_iff.1 ho).1).trans ho
theorem Keeps.trans {B : Nat} {X Y Z : World} (h : Keeps B X Y) (k : Keeps B Y Z) : Keeps B X Z := fun i o hi ho hc => k i o hi (h i o hi ho hc) hc
theorem Keeps.refl (B : Nat) (W : World) : Keeps B W W := fun _ _ _ h _ => h

theorem bears_row {β : Type} (B : Nat) (base : Nat) (e : TypeId) (size : Nat) (v : β → Value) (k : β → Nat) (f : β → List Value) : Bears B (fun s W => W.ownsRow base e size (v s) (k s) (f s)) :=
  ⟨fun _ _ _ _ o' h _ hl ho => ownsRow_putObj h o' hl ho, fun _ _ o h => h.alloc o⟩
theorem bears_ex {β γ : Type} {B : Nat} {I : γ → β → World → Prop} (h : ∀ c, Bears B (I c)) : Bears B (fun s W => ∃ c, I c s W) :=
  ⟨fun s W l o o' ⟨c, x⟩ a b d => ⟨c, (h c).1 s W l o o' x a b d⟩, fun s W o ⟨c, x⟩ => ⟨c, (h c).2 s W o x⟩⟩
theorem bears_blk {β : Type} (B b : Nat) (t : TypeId) (f : β → Array Value) : Bears B (fun s W => Blk W b (f s) t) :=
  ⟨fun _ W _ _ _ h _ hl ho => putObj_other W hl ho h rfl, fun _ _ o h => Blk.alloc h o⟩
/-- A row of the call's own from block base on is not touched by steps on a block below base. -/
theorem row_boxG {b base : Nat} {e : TypeId} {size : Nat} {v : Value} {k : Nat} {xs : List Value} {A B : World} (h : A.ownsRow base e size v k xs) (hg : boxG b A B) (hb : b < base) : B.ownsRow base e size v k xs :=
  h.kept hg (by
    rcases h.2 with ⟨rfl, _⟩ | ⟨g, cap, cur, rfl, hgb, _⟩
    · exact .inl rfl
    · exact .inr (by simp [Value.ownBlock]; omega))
/-- A row reads as its elements. -/
theorem row_cells {base : Nat} {e : TypeId} {v : Value} {k : Nat} {xs : List Value} {A : World} (h : A.ownsRow base e 1 v k xs) :
    xs.length = k ∧ ((v = .slice none 0 0 ∧ k = 0) ∨ ∃ g cap, v = .slice (some ⟨g, 0, none⟩) k cap ∧ base ≤ g ∧ ∀ j (hj : j < xs.length), A.cell? ⟨g, j, none⟩ = some xs[j]) := by
  obtain ⟨h1, h2⟩ := h
  refine ⟨by simpa using h1, ?_⟩
  rcases h2 with h2 | ⟨g, cap, cur, rfl, hb, hh, _, _, _, hx⟩
  · exact .inl h2
  · refine .inr ⟨g, cap, rfl, hb, fun j hj => ?_⟩
    obtain ⟨u, hu⟩ : ∃ u, u = xs[j] := ⟨_, rfl⟩
    rw [← hu]
    have e1 : xs[j]? = some u := by rw [hu]; exact List.getElem?_eq_getElem hj
    clear hu
    rw [← hx, List.getElem?_take] at e1
    split at e1
    · simp [World.cell?, hh]
      simpa using e1
    · cases e1

/-- 'out = append(out, ..)', out in a box: what the append law leaves, behind the store. -/
theorem appended {W w1 : World} {base b : Nat} {t e : TypeId} {size : Nat} {v v' : Value} {k m : Nat} {xs ys : List Value} {tmp : Obj}
    (hv : Boxed W b t v) (hte : t ≠ e) (hrow : W.ownsRow base e size v k xs) (hown' : w1.ownsRow base e size v' m ys) (hgrow : (W.alloc tmp).grownBy w1 v.ownBlock) :
    Boxed w1 b t v ∧ Boxed (w1.setCell ⟨b, 0, none⟩ v') b t v' ∧ (w1.setCell ⟨b, 0, none⟩ v').ownsRow base e size v' m ys ∧ (∀ B, Keeps B W (w1.setCell ⟨b, 0, none⟩ v')) ∧
      W.heap.size ≤ (w1.setCell ⟨b, 0, none⟩ v').heap.size ∧ (∀ i, i < W.heap.size → i < base → i ≠ b → (w1.setCell ⟨b, 0, none⟩ v').heap[i]? = W.heap[i]?) ∧ (∀ n₀, n₀ ≤ W.heap.size → n₀ ≤ b → n₀ ≤ base → Below n₀ W (w1.setCell ⟨b, 0, none⟩ v')) := by
  have hv1 : Boxed w1 b t v := (hv.alloc tmp).kept hgrow (hv.not_row hte hrow)
  have hob : ∀ j, v.ownBlock = some j → base ≤ j ∧ ∃ o : Obj, (W.alloc tmp).heap[j]? = some o ∧ o.isCells = true := by
    intro j ej
    rcases (hrow.alloc tmp).2 with ⟨rfl, _⟩ | ⟨g, cap, cur, rfl, hg, hgb, _⟩
    · simp [Value.ownBlock] at ej
    · obtain rfl : g = j := by simpa [Value.ownBlock] using ej
      exact ⟨hg, _, hgb, rfl⟩
  have hsz : W.heap.size + 1 ≤ w1.heap.size := by have := hgrow.size; rwa [World.size_alloc] at this
  have hblk : ∀ i, i < W.heap.size → i < base → i ≠ b → (w1.setCell ⟨b, 0, none⟩ v').heap[i]? = W.heap[i]? := by
    intro i hi hbase hne
    rw [Below.heap_setCell _ _ _ _ (by show i ≠ b; exact hne), hgrow.block i (by rw [World.size_alloc]; omega) (fun ej => by have := (hob i ej.symm).1; omega), Below.heap_alloc _ _ _ hi]
  refine ⟨hv1, hv1.set v', hown'.kept (grownBy_setCell' w1 b v') (.inr (hv1.not_row hte hown').symm), ?_, ?_, hblk, ?_⟩
  · intro B i o _ hi ho
    have hlt := (Array.getElem?_eq_some_iff.1 hi).1
    have h2 : w1.heap[i]? = some o := by
      rw [hgrow.block i (by rw [World.size_alloc]; omega) (fun ej => by
        obtain ⟨_, o', ho', hc⟩ := hob i ej.symm
        rw [Below.heap_alloc _ _ _ hlt, hi] at ho'; cases ho'; rw [ho] at hc; cases hc), Below.heap_alloc _ _ _ hlt]
      exact hi
    rw [Below.heap_setCell _ _ _ _ (fun e => by have e' : i = b := e; have h' : w1.heap[b]? = _ := hv1; rw [← e', h2] at h'; cases h'; cases ho)]
    exact h2
  · rw [size_setCell]; omega
  · intro n₀ h1 h2 h3
    exact (((Below.refl n₀ W).alloc h1 tmp).grown hgrow (by rw [World.size_alloc]; omega) (fun j ej => by have := (hob j ej).1; omega)).setCell (p := ⟨b, 0, none⟩) h2 v'

/-- A scope through which the run goes without a jump, in the wide fence. -/
theorem wpIn_scope_w {m : Nat} {c : Code} {Q : Exit → Act → World → Prop} {a : Act} {w : World} (h : c.wpIn Fence.wide m P (Exit.noGoto Q) a w) : (Code.scope c).wpIn Fence.wide m P Q a w :=
  wpIn_wide.2 (wp_scope_straight (wpIn_wide.1 h))
end Go.Proofs.YtmmdpjliknmhgaaGreatDoor
/- Walks of labtext.Digits: the iterator over a number's digits, and the text made of them. -/
namespace Go.Proofs.YtmmdpjliknmhgaaGreatDoor
open Go.RowKit Go.Shelf
attribute [local go_sem] Oper.semAt_some
/-- a number's digits' bytes, the last one first -/
def dch (n : Nat) : UInt8 := UInt8.ofNat (48 + n % 10)
theorem dch_nat (n : Nat) : ((dch n).toNat : Int) = 48 + (n : Int) % 10 := by simp [dch, UInt8.toNat_ofNat']; omega
def revD (n : Nat) : List UInt8 := if n < 10 then [dch n] else dch n :: revD (n / 10)
termination_by n
theorem revD_ne (n : Nat) : revD n ≠ [] := by rw [revD]; split <;> simp
theorem revD_len : ∀ (k n : Nat), n < 10 ^ (k + 1) → (revD n).length ≤ k + 1
  | 0, n, h => by rw [revD, if_pos (by simpa using h)]; simp
  | k + 1, n, h => by
    rw [revD]; split
    · simp
    · have := revD_len k (n / 10) (by rw [Nat.pow_succ] at h; omega)
      simp; omega
theorem revD_len19 (n : Nat) (h : (n : Int) ≤ 9223372036854775807) : (revD n).length ≤ 19 := revD_len 18 n (by omega)
def digL (n : Int) : List UInt8 := if n < 0 then [] else (revD n.toNat).reverse

/-- what the box holds, for a loop's measure -/
def boxN (b : Nat) (W : World) : Nat := (intOf ((W.cell? ⟨b, 0, none⟩).getD undef)).toNat
theorem boxN_eq {b : Nat} {W : World} {t : TypeId} {k : IntKind} {m : Int} (h : Boxed W b t (.int k m)) : boxN b W = m.toNat := by simp [boxN, h.cell, intOf]

set_option maxRecDepth 100000 in
set_option maxHeartbeats 1000000 in
theorem digits1_seq (n : Nat) (b x : Nat) (hx : (x : Int) ≤ 9223372036854775807) (W : World) (hb : Boxed W b 3 (.int .i64 x)) :
    SeqG Fence.wide n Tryz.prog 93 #[.pointer (some ⟨b, 0, none⟩)] (fun d : UInt8 => #[Value.int .u8 d.toNat]) (boxG b) (boxK b) (fun xs _ => xs = revD x) (fun _ _ => True) (revD x).length W := by
  intro l J Jx hJ hJx hY h0
  (refine callsIn_of_wp Tryz.func93 rfl trivial ?_ rfl; simp only [Tryz.ntmps93, List.size_toArray, List.length_cons, List.length_nil, Nat.reduceAdd, Nat.reduceSub, Array.replicate_succ, Array.replicate_zero, List.push_toArray, List.append_toArray, List.nil_append, List.cons_append])
  refine wpIn_scope_w ?_
  gi_wp2
  refine wpIn_label ?_
  gi_wp2
  gi_loopw [] (fun wr => ∃ (pre : List UInt8) (m : Nat), Hid (revD x = pre ++ revD m) ∧ (m : Int) ≤ 9223372036854775807 ∧ Boxed wr b 3 (.int .i64 m) ∧ J pre wr) (fun wr => boxN b wr)
  case atStart => exact ⟨[], x, rfl, hx, hb, h0⟩
  case round =>
    obtain ⟨pre, m, hd, hm, hbox, hj⟩ := hrel
    have hc := hbox.cell
    have hf := hbox.frozen
    have hmod : (0 : Int) ≤ (m : Int) % 10 ∧ (m : Int) % 10 < 10 := by omega
    obtain ⟨fn, tmps, assign, body, hy, hR⟩ := hY pre (dch m) wr hj (by
      rw [hd.out, List.length_append]; have := List.length_pos_iff.2 (revD_ne m); omega)
    rw [dch_nat] at hy
    gi_wp2
    refine ⟨fun h => (by cases h), hR.mono ?_⟩
    rintro e V (⟨rfl, hj3, hk3⟩ | ⟨rfl, hj3⟩)
    · have hbox3 : Boxed V b 3 (.int .i64 m) := hk3.trans hbox
      have hc3 := hbox3.cell
      have hf3 := hbox3.frozen
      have hj4 : J (pre ++ [dch m]) (V.setCell ⟨b, 0, none⟩ (.int .i64 ((m : Int) / 10))) := hJ _ _ _ hj3 (grownBy_setCell' _ _ _)
      have hbox4 : Boxed (V.setCell ⟨b, 0, none⟩ (.int .i64 ((m : Int) / 10))) b 3 (.int .i64 ((m : Int) / 10)) := hbox3.set _
      have hc4 := hbox4.cell
      by_cases hlast : m < 10
      · have he : ((m : Int) / 10 == 0) = true := by simp; omega
        have HD : Hid (revD x = pre ++ [dch m]) := by
          show revD x = _
          rw [hd.out, revD, if_pos hlast]
        clear hd
        gi_wp2
        simp only [Exit.noGoto_normal]
        go_end0
        exact ⟨⟨_, rfl⟩, .inl ⟨_, HD.out.symm, hj4⟩⟩
      · have he : ((m : Int) / 10 == 0) = false := by simp; omega
        have HD : Hid (revD x = (pre ++ [dch m]) ++ revD (m / 10)) := by
          show revD x = _
          rw [hd.out, revD, if_neg hlast, List.append_assoc]; rfl
        clear hd
        gi_wp2
        go_roundw
        case rel => exact ⟨_, m / 10, HD, by omega, by simpa using hbox4, hj4⟩
        case measure => rw [boxN_eq hbox4, boxN_eq hbox]; omega
    · gi_wp2
      simp only [Exit.noGoto_normal]
      go_end0
      exact ⟨⟨_, rfl⟩, .inr ⟨_, trivial, hj3⟩⟩

/-- digits(n): the number is boxed, the function value captures the box -/
theorem digits_any (n : Int) (w : World) :
    Calls Tryz.prog 70 #[.int .i64 n] w fun e w' => e = .returned (.func (.func 93) #[] #[.pointer (some ⟨w.heap.size, 0, none⟩)]) ∧ w.alloc (.cells #[.int .i64 n] 3) = w' := by
  have hmf : ∀ (fn : Fn) (first cap : Array Value) (w : World), (Instr.makeFunc fn first cap).run Tryz.prog w = .ok (.func fn first cap) w := fun _ _ _ _ => rfl
  go_enter Tryz.func70, Tryz.ntmps70
  go_wp2
  go_ret
  exact ⟨rfl, rfl⟩


theorem Digits_neg (n : Int) (w : World) (hn : n < 0) :
    Calls Tryz.prog 43 #[.int .i64 n] w fun e w' => e = .returned (.string ⟨(digL n).toArray⟩) ∧ Below w.heap.size w w' := by
  have hd : digL n = [] := by rw [digL, if_pos hn]
  rw [hd]
  go_enter Tryz.func43, Tryz.ntmps43
  go_wp2
  go_ret
  exact ⟨rfl, (Below.refl _ _).alloc (Nat.le_refl _) _⟩

set_option maxRecDepth 100000 in
set_option maxHeartbeats 1000000 in
theorem Digits_pos (n : Nat) (w : World) (hn : (n : Int) ≤ 9223372036854775807) :
    Calls Tryz.prog 43 #[.int .i64 n] w fun e w' => e = .returned (.string ⟨(digL n).toArray⟩) ∧ Below w.heap.size w w' := by
  have h0 : ¬ (n : Int) < 0 := by omega
  refine (callsIn_wide (n := 3)).1 ?_
  (refine callsIn_of_wp_marks Tryz.func43 rfl trivial ?_ rfl; simp only [Tryz.ntmps43, List.size_toArray, List.length_cons, List.length_nil, Nat.reduceAdd, Nat.reduceSub, Array.replicate_succ, Array.replicate_zero, List.push_toArray, List.append_toArray, List.nil_append, List.cons_append])
  gi_wp2_with (refine ⟨trivial, ?_⟩; gi_at_call 70; refine (callsIn_wide.2 (digits_any _ _)).mono ?_; rintro e w' ⟨rfl, rfl⟩)
  have b0 := Boxed.new w 9 (.string ⟨#[]⟩)
  have b1 := Boxed.new (w.alloc (.cells #[.string ⟨#[]⟩] 9)) 3 (.int .i64 n)
  rw [World.size_alloc] at b1
  have b0' := b0.alloc (.cells #[.int .i64 n] 3)
  have hB0 : Below w.heap.size w ((w.alloc (.cells #[.string ⟨#[]⟩] 9)).alloc (.cells #[.int .i64 n] 3)) := ((Below.refl _ w).alloc (Nat.le_refl _) _).alloc (by simp) _
  refine range_law rfl (by omega) (gf := 93) (lb := #[.pointer (some ⟨w.heap.size + 1, 0, none⟩)]) rfl trivial (enters_of Tryz.func93 (by kernel_rfl) rfl)
    (G := boxG (w.heap.size + 1)) (Kp := boxK (w.heap.size + 1)) (fun W hW _ => digits1_seq _ _ n hn W ((hW.block _ (by simp)).trans b1)) boxK_t (boxK_b (by simp)) (boxG_keeps (by simp)) (fun _ => rfl)
    (fun pre W => Boxed W w.heap.size 9 (.string ⟨pre.reverse.toArray⟩) ∧ Below w.heap.size w W ∧ w.heap.size + 2 ≤ W.heap.size) (fun _ _ _ => False)
    ((bears_boxed _ _ _ _).and ((bears_below (Nat.le_refl _) (by simp; omega)).and (bears_size _ _))) (fun _ => bears_const _ _) (bears_const _ _) (bears_const _ _)
    (fun s A B h hg => ⟨Boxed_boxG h.1 hg (by omega), Below_boxG h.2.1 hg (Nat.le_refl _) (by omega), Nat.le_trans h.2.2 (size_boxG hg)⟩) (fun _ _ _ _ h _ => h) ⟨b0', hB0, by simp⟩
    (fun x => { tmps := #[.int .i64 n, undef, .string ⟨#[]⟩, .pointer (some ⟨w.heap.size, 0, none⟩), .int .u8 x.toNat, .int .i64 n, .bool false, undef, .int .i64 n, .func (.func 93) #[] #[.pointer (some ⟨w.heap.size + 1, 0, none⟩)], .int .u8 x.toNat, undef, undef, undef, undef, undef, undef], defers := [] }) ?assign ?body ?done ?stop
  case assign =>
    intro l x W K hK
    gi_wp2
    exact hK
  case body =>
    rintro l pre x W ⟨hb, hB, hz⟩ hlen
    have hc := hb.cell
    have hf := hb.frozen
    have hcv := conv_byte1 (P := Tryz.prog) W 54 9 5 x Tryz.underlying54 Tryz.underlying5 Tryz.underlying9
    have hc1 := (hb.alloc (.cells #[.int .u8 x.toNat] 5)).cell
    have hf1 := (hb.alloc (.cells #[.int .u8 x.toNat] 5)).frozen
    have hl := revD_len19 n hn
    have hl2 : pre.length ≤ 19 := by omega
    gi_wp2
    have hb1 := hb.alloc (.cells #[.int .u8 x.toNat] 5)
    refine ⟨(Keeps.alloc _ _ _).trans (Keeps.setCell _ _ _ _ hb1), ?_, ?_, ?_, ?_⟩
    · show _ = _
      rw [Below.heap_setCell _ _ _ _ (by simp), Below.heap_alloc _ _ _ (by omega)]
    · have := hb1.set (.string ⟨(pre ++ [x]).reverse.toArray⟩)
      simpa using this
    · exact (hB.alloc hB.size _).setCell (p := ⟨w.heap.size, 0, none⟩) (Nat.le_refl _) _
    · rw [size_setCell, World.size_alloc]; omega
  case done =>
    rintro D xs W hD rfl ⟨hb, hB, hz⟩ hK
    have hc := hb.cell
    gi_wp2
    refine ⟨by simp, .inl ⟨_, _, rfl, run_takeDeferred hK, ?_⟩⟩
    refine ⟨_, results_tmp rfl _ _ _, ?_, hB.trans (belowK_b (w := w) (Nat.le_refl _) W D _ _ (by simp at hD; omega) hK rfl rfl)⟩
    rw [digL, if_neg (by omega)]
    rfl
  case stop =>
    rintro D c pre W _ _ h _
    exact h.elim
theorem digL_len (n : Int) (h : n ≤ 9223372036854775807) : (digL n).length ≤ 19 := by
  unfold digL; split
  · simp
  · rw [List.length_reverse]; exact revD_len19 _ (by omega)
end Go.Proofs.YtmmdpjliknmhgaaGreatDoor
/- What layer 5 computes, as plain functions over lists of bytes, and the plain laws about them. -/
namespace Go.Proofs.YtmmdpjliknmhgaaGreatDoor
abbrev PR (α : Type) := Option α × List UInt8
def dgB (c : UInt8) : Bool := decide (48 ≤ (c.toNat : Int)) && decide ((c.toNat : Int) ≤ 57)
def dvl (c : UInt8) : Int := (c.toNat : Int) - 48
def canP (lo hi n : Int) : Bool := (decide (lo ≤ n) && decide (n ≤ hi)) || (decide (1 ≤ n) && decide (10 * n ≤ hi) && decide (lo ≤ 10 * n + 9))
def nxt (n : Int) (c : UInt8) : Int := if n < 0 then dvl c else 10 * n + dvl c
def goesB (lo hi n : Int) (c : UInt8) : Bool := dgB c && !(n == 0) && canP lo hi (nxt n c)
def numS (lo hi : Int) : Int → List UInt8 → Int × List UInt8
  | n, [] => (n, [])
  | n, c :: r => if goesB lo hi n c then numS lo hi (nxt n c) r else (n, c :: r)
def pnum (lo hi : Int) (r : List UInt8) : PR Int :=
  if (numS lo hi (-1) r).1 < lo then (none, (numS lo hi (-1) r).2) else (some (numS lo hi (-1) r).1, (numS lo hi (-1) r).2)
def pmust (c : UInt8) : List UInt8 → PR Unit
  | [] => (none, [])
  | d :: r => if d = c then (some (), r) else (none, d :: r)
def pis (c : UInt8) : List UInt8 → PR Bool
  | [] => (some false, [])
  | d :: r => if d = c then (some true, r) else (some false, d :: r)
def pand {α β : Type} (f : List UInt8 → PR α) (g : α → List UInt8 → PR β) (r : List UInt8) : PR β := match f r with
  | (none, r') => (none, r')
  | (some a, r') => g a r'
def ppure {α : Type} (a : α) (r : List UInt8) : PR α := (some a, r)
def plist : Nat → Int → Nat → List UInt8 → PR Nat
  | 0, _, _ => fun r => (none, r)
  | f + 1, last, acc => pand (pnum (last + 1) 63) fun n =>
      if n = 63 then ppure (acc ||| 2 ^ n.toNat) else pand (pis 44) fun b => if b then plist f n (acc ||| 2 ^ n.toNat) else ppure (acc ||| 2 ^ n.toNat)
def pset : List UInt8 → PR Nat := pand (pis 123) fun b => if b then pand (plist 64 (-1) 0) fun s => pand (pmust 125) fun _ => ppure s else ppure 0
def plab : List UInt8 → PR (Int × Nat × Int) := pand (pmust 76) fun _ => pand (pnum 0 15) fun lv => pand pset fun s => pand (pmust 73) fun _ => pand (pnum 0 7) fun ig => ppure (lv, s, ig)
def pend {α : Type} (a : α) : List UInt8 → PR α
  | [] => (some a, [])
  | c :: r => (none, c :: r)
def ptext : List UInt8 → PR (Int × Nat × Int) := pand plab fun a => pend a

/-! ### what a reader reads goes by one byte ahead -/
def Str {α : Type} (f : List UInt8 → PR α) : Prop := ∀ s, ∃ a b, s = a ++ b ∧ (f s).2 = b ∧ (f a).2 = [] ∧ (∀ x, (f s).1 = some x → (f a).1 = some x) ∧ ∀ c b', b = c :: b' → ∀ b'', f (a ++ c :: b'') = ((f s).1, c :: b'')
theorem Str.pure {α : Type} (x : α) : Str (ppure x) := fun s => ⟨[], s, rfl, rfl, rfl, fun _ h => h, fun _ _ _ _ => rfl⟩
theorem Str.fail {α : Type} : Str (fun r => ((none : Option α), r)) := fun s => ⟨[], s, rfl, rfl, rfl, fun _ h => h, fun _ _ _ _ => rfl⟩
theorem Str.end {α : Type} (x : α) : Str (pend x) := by
  intro s
  cases s with
  | nil => exact ⟨[], [], rfl, rfl, rfl, fun _ h => h, fun c b' h => by cases h⟩
  | cons d r => exact ⟨[], d :: r, rfl, rfl, rfl, fun _ h => by simp [pend] at h, fun c b' h b'' => rfl⟩
theorem Str.must (c : UInt8) : Str (pmust c) := by
  intro s
  cases s with
  | nil => exact ⟨[], [], rfl, rfl, rfl, fun _ h => h, fun c b' h => by cases h⟩
  | cons d r =>
    by_cases e : d = c
    · refine ⟨[d], r, rfl, by simp [pmust, e], by simp [pmust, e], by simp [pmust, e], fun c b' h b'' => by simp [pmust, e]⟩
    · refine ⟨[], d :: r, rfl, by simp [pmust, e], rfl, by simp [pmust, e], fun c b' h b'' => ?_⟩
      cases h; simp [pmust, e]
theorem Str.is (c : UInt8) : Str (pis c) := by
  intro s
  cases s with
  | nil => exact ⟨[], [], rfl, rfl, rfl, fun _ h => h, fun c b' h => by cases h⟩
  | cons d r =>
    by_cases e : d = c
    · refine ⟨[d], r, rfl, by simp [pis, e], by simp [pis, e], by simp [pis, e], fun c b' h b'' => by simp [pis, e]⟩
    · refine ⟨[], d :: r, rfl, by simp [pis, e], rfl, by simp [pis, e], fun c b' h b'' => ?_⟩
      cases h; simp [pis, e]
theorem numS_str (lo hi : Int) : ∀ (s : List UInt8) (n : Int), ∃ a b, s = a ++ b ∧ (numS lo hi n s).2 = b ∧ numS lo hi n a = ((numS lo hi n s).1, []) ∧ ∀ c b', b = c :: b' → ∀ b'', numS lo hi n (a ++ c :: b'') = ((numS lo hi n s).1, c :: b'')
  | [], n => ⟨[], [], rfl, rfl, rfl, fun c b' h => by cases h⟩
  | d :: r, n => by
    by_cases e : goesB lo hi n d = true
    · obtain ⟨a, b, h1, h2, h3, h4⟩ := numS_str lo hi r (nxt n d)
      refine ⟨d :: a, b, by rw [h1]; rfl, ?_, ?_, ?_⟩
      · simp only [numS, e, if_true]; exact h2
      · simp only [numS, e, if_true]; exact h3
      · intro c b' hb b''
        simp only [List.cons_append, numS, e, if_true]; exact h4 c b' hb b''
    · refine ⟨[], d :: r, rfl, by simp [numS, e], by simp [numS, e], fun c b' h b'' => ?_⟩
      cases h; simp [numS, e]
theorem Str.num (lo hi : Int) : Str (pnum lo hi) := by
  intro s
  obtain ⟨a, b, h1, h2, h3, h4⟩ := numS_str lo hi s (-1)
  refine ⟨a, b, h1, ?_, ?_, ?_, ?_⟩
  · unfold pnum; split <;> exact h2
  · unfold pnum; rw [h3]; split <;> rfl
  · intro x hx; unfold pnum at hx ⊢; rw [h3]
    split at hx
    · simp at hx
    · rename_i hn; rw [if_neg hn]; exact hx
  · intro c b' hb b''
    have := h4 c b' hb b''
    unfold pnum; rw [this]; dsimp only; split <;> rfl
theorem Str.nil {α : Type} {f : List UInt8 → PR α} (h : Str f) : (f []).2 = [] := by
  obtain ⟨a, b, h1, h2, h3, _⟩ := h []
  obtain ⟨rfl, rfl⟩ : a = [] ∧ b = [] := by simpa using h1.symm
  exact h3
theorem Str.and {α β : Type} {f : List UInt8 → PR α} {g : α → List UInt8 → PR β} (hf : Str f) (hg : ∀ x, Str (g x)) : Str (pand f g) := by
  intro s
  obtain ⟨a, b, h1, h2, h3, h4, h5⟩ := hf s
  cases hx : (f s).1 with
  | none =>
    have e : f s = (none, b) := by rw [← hx, ← h2]
    refine ⟨a, b, h1, by simp [pand, e], ?_, by simp [pand, e], ?_⟩
    · obtain ⟨y, hy⟩ : ∃ y, f a = (y, []) := ⟨_, by rw [← h3]⟩
      cases y with
      | none => simp [pand, hy]
      | some y => simp only [pand, hy]; exact (hg y).nil
    · intro c b' hb b''
      have := h5 c b' hb b''
      rw [hx] at this
      simp [pand, this, e]
  | some x =>
    have e : f s = (some x, b) := by rw [← hx, ← h2]
    obtain ⟨a2, b2, k1, k2, k3, k4, k5⟩ := hg x b
    have ep : pand f g s = g x b := by simp [pand, e]
    have ea : f a = (some x, []) := by rw [← h4 x hx, ← h3]
    have through : ∀ c r, b = c :: r → ∀ r', pand f g (a ++ c :: r') = g x (c :: r') := by
      intro c r hb r'
      have := h5 c r hb r'
      rw [hx] at this
      simp [pand, this]
    have at0 : pand f g a = g x [] := by simp [pand, ea]
    have ata2 : pand f g (a ++ a2) = g x a2 := by
      cases a2 with
      | nil => rw [List.append_nil]; exact at0
      | cons c r => exact through c (r ++ b2) (by rw [k1]; rfl) r
    refine ⟨a ++ a2, b2, by rw [h1, k1, List.append_assoc], by rw [ep]; exact k2, by rw [ata2]; exact k3, ?_, ?_⟩
    · intro y hy; rw [ata2]; rw [ep] at hy; exact k4 y hy
    · intro c b' hb b''
      rw [ep, List.append_assoc]
      have := k5 c b' hb b''
      cases a2 with
      | nil => rw [List.nil_append] at this ⊢; rw [through c b' (by rw [k1, hb]; rfl)]; exact this
      | cons d r => rw [List.cons_append, through d (r ++ b2) (by rw [k1]; rfl)]; exact this
theorem Str.list : ∀ (f : Nat) (last : Int) (acc : Nat), Str (plist f last acc)
  | 0, _, _ => Str.fail
  | f + 1, last, acc => by
    refine (Str.num _ _).and fun n => ?_
    split
    · exact Str.pure _
    · refine (Str.is _).and fun b => ?_
      split
      · exact Str.list f _ _
      · exact Str.pure _
theorem Str.set : Str pset := by
  refine (Str.is _).and fun b => ?_
  split
  · exact (Str.list _ _ _).and fun s => (Str.must _).and fun _ => Str.pure _
  · exact Str.pure _
theorem Str.lab : Str plab := (Str.must _).and fun _ => (Str.num _ _).and fun _ => Str.set.and fun _ => (Str.must _).and fun _ => (Str.num _ _).and fun _ => Str.pure _
theorem Str.text : Str ptext := Str.lab.and fun _ => Str.end _

/-- where something is wrong: what is ahead begins a text, and with the byte there it does not -/
theorem text_places (s b : List UInt8) (h : ptext s = (none, b)) : ∃ a, s = a ++ b ∧ (ptext a).2 = [] ∧ ∀ c b', b = c :: b' → ptext (a ++ [c]) = (none, [c]) := by
  obtain ⟨a, b2, h1, h2, h3, h4, h5⟩ := Str.text s
  rw [h] at h2 h5
  obtain rfl : b = b2 := h2
  exact ⟨a, h1, h3, fun c b' hb => h5 c b' hb []⟩
/-- what begins a text but is none is told at its end -/
theorem text_ahead (a r : List UInt8) (x : Int × Nat × Int) (h : ptext (a ++ r) = (some x, [])) (_hr : r ≠ []) (hn : (ptext a).1 = none) : ptext a = (none, []) := by
  obtain ⟨a1, b1, h1, h2, h3, h4, h5⟩ := Str.text a
  cases b1 with
  | nil => rw [← hn, ← h2]
  | cons c b' =>
    have := h5 c b' rfl (b' ++ r)
    rw [show a1 ++ c :: (b' ++ r) = a ++ r by rw [h1]; simp, h, hn] at this
    cases this

/-! ### numbers' digits -/
theorem digL_lt10 (n : Nat) (h : n < 10) : digL n = [dch n] := by
  rw [digL, if_neg (by omega), Int.toNat_natCast, revD, if_pos h]; rfl
theorem digL_lt100 (n : Nat) (h : ¬ n < 10) (h2 : n < 100) : digL n = [dch (n / 10), dch n] := by
  rw [digL, if_neg (by omega), Int.toNat_natCast, revD, if_neg h, revD, if_pos (by omega)]; rfl
theorem dch_of (n : Nat) (c : UInt8) (_h : dgB c = true) (hn : dvl c = (n : Int) % 10) : dch n = c := by
  simp only [dvl] at hn
  have := dch_nat n
  exact UInt8.toNat_inj.1 (by omega)
theorem dgB_dch (n : Nat) : dgB (dch n) = true := by
  have := dch_nat n
  simp only [dgB, Bool.and_eq_true, decide_eq_true_eq]; omega
theorem dvl_dch (n : Nat) : dvl (dch n) = (n : Int) % 10 := by have := dch_nat n; unfold dvl; omega
theorem dvl_le {c : UInt8} (h : dgB c = true) : 0 ≤ dvl c ∧ dvl c ≤ 9 := by
  simp only [dgB, Bool.and_eq_true, decide_eq_true_eq] at h; unfold dvl; omega
theorem canP_of {lo hi n : Int} (h : (lo ≤ n ∧ n ≤ hi) ∨ (1 ≤ n ∧ 10 * n ≤ hi ∧ lo ≤ 10 * n + 9)) : canP lo hi n = true := by
  simp only [canP, Bool.or_eq_true, Bool.and_eq_true, decide_eq_true_eq]; omega
theorem canP_to {lo hi n : Int} (h : canP lo hi n = true) : (lo ≤ n ∧ n ≤ hi) ∨ (1 ≤ n ∧ 10 * n ≤ hi ∧ lo ≤ 10 * n + 9) := by
  simp only [canP, Bool.or_eq_true, Bool.and_eq_true, decide_eq_true_eq] at h; omega
theorem goesB_to {lo hi n : Int} {c : UInt8} (h : goesB lo hi n c = true) : dgB c = true ∧ n ≠ 0 ∧ canP lo hi (nxt n c) = true := by
  simp only [goesB, Bool.and_eq_true, Bool.not_eq_true', beq_eq_false_iff_ne] at h; exact ⟨h.1.1, h.1.2, h.2⟩
theorem goesB_of {lo hi n : Int} {c : UInt8} (h1 : dgB c = true) (h2 : n ≠ 0) (h3 : canP lo hi (nxt n c) = true) : goesB lo hi n c = true := by
  simp only [goesB, Bool.and_eq_true, Bool.not_eq_true', beq_eq_false_iff_ne]; exact ⟨⟨h1, h2⟩, h3⟩
/-- a number's digits are read whole -/
theorem pnum_digits (lo hi n : Int) (r : List UInt8) (h0 : 0 ≤ lo) (h1 : lo ≤ n) (h2 : n ≤ hi) (h3 : hi ≤ 63) (hr : ∀ c r', r = c :: r' → goesB lo hi n c = false) : pnum lo hi (digL n ++ r) = (some n, r) := by
  obtain ⟨k, rfl⟩ := Int.eq_ofNat_of_zero_le (show 0 ≤ n by omega)
  have hs : numS lo hi k r = ((k : Int), r) := by
    cases r with
    | nil => rfl
    | cons c r' => simp [numS, hr c r' rfl]
  have hn : numS lo hi (-1) (digL k ++ r) = ((k : Int), r) := by
    by_cases h : k < 10
    · rw [digL_lt10 k h]
      have hx : nxt (-1) (dch k) = k := by rw [nxt, if_pos (by omega), dvl_dch]; omega
      have hg : goesB lo hi (-1) (dch k) = true := goesB_of (dgB_dch k) (by omega) (by rw [hx]; exact canP_of (.inl ⟨h1, h2⟩))
      show numS lo hi (-1) (dch k :: r) = _
      rw [numS, if_pos hg, hx]; exact hs
    · rw [digL_lt100 k h (by omega)]
      have hx : nxt (-1) (dch (k / 10)) = (k / 10 : Nat) := by rw [nxt, if_pos (by omega), dvl_dch]; omega
      have hx2 : nxt (k / 10 : Nat) (dch k) = k := by rw [nxt, if_neg (by omega), dvl_dch]; omega
      have hg : goesB lo hi (-1) (dch (k / 10)) = true := goesB_of (dgB_dch _) (by omega) (by rw [hx]; exact canP_of (.inr ⟨by omega, by omega, by omega⟩))
      have hg2 : goesB lo hi (k / 10 : Nat) (dch k) = true := goesB_of (dgB_dch _) (by omega) (by rw [hx2]; exact canP_of (.inl ⟨h1, h2⟩))
      show numS lo hi (-1) (dch (k / 10) :: dch k :: r) = _
      rw [numS, if_pos hg, hx, numS, if_pos hg2, hx2]; exact hs
  unfold pnum
  rw [hn]
  exact if_neg (by omega)
theorem numS_back (lo hi : Int) (h0 : 0 ≤ lo) (h3 : hi ≤ 63) : ∀ (r : List UInt8) (m : Nat), (m : Int) ≤ 63 → canP lo hi m = true → ∃ n : Nat, numS lo hi m r = ((n : Int), (numS lo hi m r).2) ∧ canP lo hi n = true ∧ (n : Int) ≤ 63 ∧ digL m ++ r = digL n ++ (numS lo hi m r).2
  | [], m, hm, hc => ⟨m, rfl, hc, hm, rfl⟩
  | c :: r, m, hm, hc => by
    by_cases e : goesB lo hi m c = true
    · obtain ⟨g1, g2, g3⟩ := goesB_to e
      have hd := dvl_le g1
      have hx : nxt m c = ((10 * m + (dvl c).toNat : Nat) : Int) := by rw [nxt, if_neg (by omega)]; omega
      rw [hx] at g3
      have hk := canP_to g3
      obtain ⟨n, k1, k2, k3, k4⟩ := numS_back lo hi h0 h3 r (10 * m + (dvl c).toNat) (by omega) g3
      refine ⟨n, ?_, k2, k3, ?_⟩
      · rw [numS, if_pos e, hx]; exact k1
      · rw [numS, if_pos e, hx, ← k4]
        have hm0 : 0 < m := by omega
        have e1 : dch (10 * m + (dvl c).toNat) = c := dch_of _ c g1 (by omega)
        rw [digL_lt10 m (by omega), digL_lt100 _ (by omega) (by omega), e1, show (10 * m + (dvl c).toNat) / 10 = m by omega]
        rfl
    · exact ⟨m, by simp [numS, e], hc, hm, by simp [numS, e]⟩
theorem pnum_back (lo hi n : Int) (s r : List UInt8) (h0 : 0 ≤ lo) (h3 : hi ≤ 63) (h : pnum lo hi s = (some n, r)) : s = digL n ++ r ∧ lo ≤ n ∧ n ≤ hi := by
  unfold pnum at h
  split at h
  · cases h
  · rename_i hlo
    cases s with
    | nil => simp [numS] at hlo; omega
    | cons c s =>
      by_cases e : goesB lo hi (-1) c = true
      · obtain ⟨g1, g2, g3⟩ := goesB_to e
        have hd := dvl_le g1
        have hx : nxt (-1) c = (((dvl c).toNat : Nat) : Int) := by rw [nxt, if_pos (by omega)]; omega
        rw [hx] at g3
        obtain ⟨k, k1, k2, k3, k4⟩ := numS_back lo hi h0 h3 s (dvl c).toNat (by omega) g3
        have hN : numS lo hi (-1) (c :: s) = numS lo hi ((dvl c).toNat : Nat) s := by rw [numS, if_pos e, hx]
        rw [hN] at h hlo
        rw [k1] at h hlo
        have h' : ((k : Int) = n) ∧ (numS lo hi ((dvl c).toNat : Nat) s).2 = r := by
          have := Prod.mk.inj h
          exact ⟨Option.some.inj this.1, this.2⟩
        obtain ⟨rfl, rfl⟩ := h'
        have hc := canP_to k2
        have hlo' : ¬ (k : Int) < lo := hlo
        refine ⟨?_, by omega, by omega⟩
        rw [← k4, digL_lt10 _ (by omega), dch_of _ c g1 (by omega)]
        rfl
      · rw [numS, if_neg e] at hlo
        simp at hlo; omega

/-! ### sets of categories -/
def catsL (s : Nat) : List Nat := (List.range 64).filter (s.testBit ·)
def joinC : List Nat → List UInt8
  | [] => []
  | [n] => digL n
  | n :: m :: l => digL n ++ 44 :: joinC (m :: l)
def foldB (acc : Nat) (ns : List Nat) : Nat := ns.foldl (fun a n => a ||| 2 ^ n) acc
def setT (s : Nat) : List UInt8 := if catsL s = [] then [] else 123 :: (joinC (catsL s) ++ [125])
def labT (lv : Int) (s : Nat) (ig : Int) : List UInt8 := 76 :: (digL lv ++ (setT s ++ 73 :: digL ig))
theorem foldB_bit : ∀ (ns : List Nat) (acc i : Nat), (foldB acc ns).testBit i = (acc.testBit i || decide (i ∈ ns))
  | [], acc, i => by simp [foldB]
  | n :: ns, acc, i => by
    have := foldB_bit ns (acc ||| 2 ^ n) i
    rw [show foldB acc (n :: ns) = foldB (acc ||| 2 ^ n) ns from rfl, this, Nat.testBit_or, Nat.testBit_two_pow]
    by_cases h : n = i
    · subst h; simp
    · have h' : ¬ i = n := fun e => h e.symm
      simp [h, h']
def Asc (ns : List Nat) : Prop := ns.Pairwise (· < ·)
theorem filter_range (ns : List Nat) : ∀ (m k : Nat), Asc ns → (∀ n ∈ ns, k ≤ n ∧ n < k + m) → (List.range' k m).filter (fun i => decide (i ∈ ns)) = ns := by
  intro m
  induction m generalizing ns with
  | zero =>
    intro k _ h
    cases ns with
    | nil => rfl
    | cons n ns => have := h n (by simp); omega
  | succ m ih =>
    intro k ha h
    rw [List.range'_succ, List.filter_cons]
    by_cases hk : k ∈ ns
    · rw [if_pos (by simpa using hk)]
      cases ns with
      | nil => cases hk
      | cons n ns =>
        have hp := List.pairwise_cons.1 ha
        have hnk : n = k := by
          rcases List.mem_cons.1 hk with e | e
          · exact e.symm
          · have := hp.1 k e; have := h n (by simp); omega
        subst hnk
        have he : (List.range' (n + 1) m).filter (fun i => decide (i ∈ n :: ns)) = (List.range' (n + 1) m).filter (fun i => decide (i ∈ ns)) := by
          refine List.filter_congr fun i hi => ?_
          have := List.mem_range'_1.1 hi
          have : i ≠ n := by omega
          simp [this]
        rw [he, ih ns (n + 1) hp.2 (fun i hi => ⟨hp.1 i hi, by have := h i (by simp [hi]); omega⟩)]
    · rw [if_neg (by simpa using hk)]
      exact ih ns (k + 1) ha (fun i hi => by
        have := h i hi
        have : i ≠ k := fun e => hk (e ▸ hi)
        omega)
theorem catsL_fold (ns : List Nat) (ha : Asc ns) (h : ∀ n ∈ ns, n < 64) : catsL (foldB 0 ns) = ns := by
  unfold catsL
  rw [List.range_eq_range']
  have : (fun i => (foldB 0 ns).testBit i) = fun i => decide (i ∈ ns) := by funext i; rw [foldB_bit]; simp
  rw [this]
  exact filter_range ns 64 0 ha (fun n hn => ⟨Nat.zero_le _, by have := h n hn; omega⟩)
theorem fold_catsL (s : Nat) (h : s < 2 ^ 64) : foldB 0 (catsL s) = s := by
  refine Nat.eq_of_testBit_eq fun i => ?_
  rw [foldB_bit]
  simp only [Nat.zero_testBit, Bool.false_or, catsL, List.mem_filter, List.mem_range]
  by_cases hi : i < 64
  · cases hb : s.testBit i <;> simp [hi]
  · have : s.testBit i = false := Nat.testBit_lt_two_pow (Nat.lt_of_lt_of_le h (Nat.pow_le_pow_right (by omega) (by omega)))
    simp [hi, this]
theorem catsL_asc (s : Nat) : Asc (catsL s) := List.Pairwise.filter _ List.pairwise_lt_range
theorem catsL_lt (s n : Nat) (h : n ∈ catsL s) : n < 64 := by simp only [catsL, List.mem_filter, List.mem_range] at h; exact h.1

theorem not_goes (lo hi n : Int) (c : UInt8) (h : dgB c = false) : goesB lo hi n c = false := by simp [goesB, h]
/-- categories' text is read whole -/
theorem plist_text : ∀ (ns : List Nat) (f : Nat) (last : Int) (acc : Nat) (r : List UInt8), ns ≠ [] → ns.length ≤ f → Asc ns → -1 ≤ last → (∀ n ∈ ns, last < (n : Int) ∧ n < 64) →
    plist f last acc (joinC ns ++ 125 :: r) = (some (foldB acc ns), 125 :: r)
  | [], _, _, _, _, h, _, _, _, _ => absurd rfl h
  | [n], f, last, acc, r, _, hf, _, hl, h => by
    obtain ⟨f, rfl⟩ : ∃ g, f = g + 1 := ⟨f - 1, by simp at hf; omega⟩
    have hn := h n (by simp)
    have e := pnum_digits (last + 1) 63 n (125 :: r) (by omega) (by omega) (by omega) (by omega) (fun c r' h => by cases h; exact not_goes _ _ _ _ rfl)
    simp only [plist, pand, joinC, e]
    split
    · rfl
    · simp [pand, pis, ppure, foldB]
  | n :: m :: l, f, last, acc, r, _, hf, ha, hl, h => by
    obtain ⟨f, rfl⟩ : ∃ g, f = g + 1 := ⟨f - 1, by simp at hf; omega⟩
    have hn := h n (by simp)
    have hp := List.pairwise_cons.1 ha
    have hm := hp.1 m (by simp)
    have hm2 := h m (by simp)
    have e := pnum_digits (last + 1) 63 n (44 :: (joinC (m :: l) ++ 125 :: r)) (by omega) (by omega) (by omega) (by omega) (fun c r' h => by cases h; exact not_goes _ _ _ _ rfl)
    have ih := plist_text (m :: l) f n (acc ||| 2 ^ n) r (by simp) (by simp at hf ⊢; omega) hp.2 (by omega) (fun i hi => ⟨by have := hp.1 i hi; omega, (h i (by simp [hi])).2⟩)
    simp only [plist, pand, joinC, List.append_assoc, List.cons_append, e]
    rw [if_neg (by omega)]
    simp only [pand, pis, if_true, Int.toNat_natCast]
    exact ih
theorem pset_text (s : Nat) (r : List UInt8) (hs : s < 2 ^ 64) (hr : ∀ c r', r = c :: r' → c ≠ 123) : pset (setT s ++ r) = (some s, r) := by
  unfold setT pset
  by_cases e : catsL s = []
  · rw [if_pos e]
    have h0 := fold_catsL s hs
    rw [e] at h0
    obtain rfl : 0 = s := h0
    cases r with
    | nil => rfl
    | cons c r' => have := hr c r' rfl; simp [pand, pis, this, ppure]
  · rw [if_neg e]
    have := plist_text (catsL s) 64 (-1) 0 r e (by
      unfold catsL; exact Nat.le_trans (List.length_filter_le _ _) (by simp)) (catsL_asc s) (by omega) (fun n hn => ⟨by omega, catsL_lt s n hn⟩)
    simp only [pand, pis, List.cons_append, List.append_assoc, List.nil_append, if_true, this, pmust, ppure, fold_catsL s hs]
/-- a label's text is read whole -/
theorem plab_text (lv ig : Int) (s : Nat) (r : List UInt8) (h1 : 0 ≤ lv) (h2 : lv ≤ 15) (h3 : 0 ≤ ig) (h4 : ig ≤ 7) (hs : s < 2 ^ 64) : plab (labT lv s ig ++ r) = (some (lv, s, ig), r) := by
  have e1 := pnum_digits 0 15 lv (setT s ++ 73 :: (digL ig ++ r)) (by omega) h1 h2 (by omega) (fun c r' h => by
    refine not_goes _ _ _ _ ?_
    unfold setT at h
    split at h
    · cases h; rfl
    · cases h; rfl)
  have e2 := pset_text s (73 :: (digL ig ++ r)) hs (fun c r' h => by cases h; decide)
  have e3 := pnum_digits 0 7 ig r (by omega) h3 h4 (by omega) (fun c r' h => by
    cases hg : goesB 0 7 ig c with
    | false => rfl
    | true =>
      obtain ⟨g1, g2, g3⟩ := goesB_to hg
      have hd := dvl_le g1
      have := canP_to g3
      rw [nxt, if_neg (by omega)] at this
      omega)
  simp only [plab, pand, labT, List.cons_append, List.append_assoc, pmust, if_true, e1, e2, e3, ppure]
theorem ptext_text (lv ig : Int) (s : Nat) (h1 : 0 ≤ lv) (h2 : lv ≤ 15) (h3 : 0 ≤ ig) (h4 : ig ≤ 7) (hs : s < 2 ^ 64) : ptext (labT lv s ig) = (some (lv, s, ig), []) := by
  have := plab_text lv ig s [] h1 h2 h3 h4 hs
  rw [List.append_nil] at this
  simp [ptext, pand, this, pend]
theorem ptext_more (lv ig : Int) (s : Nat) (c : UInt8) (r : List UInt8) (h1 : 0 ≤ lv) (h2 : lv ≤ 15) (h3 : 0 ≤ ig) (h4 : ig ≤ 7) (hs : s < 2 ^ 64) : ptext (labT lv s ig ++ c :: r) = (none, c :: r) := by
  have := plab_text lv ig s (c :: r) h1 h2 h3 h4 hs
  simp [ptext, pand, this, pend]

/-! ### what is read is a text's -/
theorem pand_back {α β : Type} {f : List UInt8 → PR α} {g : α → List UInt8 → PR β} {s r : List UInt8} {y : β} (h : pand f g s = (some y, r)) : ∃ x r', f s = (some x, r') ∧ g x r' = (some y, r) := by
  unfold pand at h
  split at h
  · cases h
  · rename_i a r' hf; exact ⟨a, r', hf, h⟩
theorem pmust_back {c : UInt8} {s r : List UInt8} {x : Unit} (h : pmust c s = (some x, r)) : s = c :: r := by
  cases s with
  | nil => cases h
  | cons d s =>
    simp only [pmust] at h
    split at h
    · rename_i e; cases h; rw [e]
    · cases h
theorem pis_back {c : UInt8} {s r : List UInt8} {b : Bool} (h : pis c s = (some b, r)) : s = if b then c :: r else r := by
  cases s with
  | nil => simp only [pis] at h; cases h; rfl
  | cons d s =>
    simp only [pis] at h
    split at h
    · rename_i e; cases h; rw [e]; rfl
    · cases h; rfl
theorem plist_back : ∀ (f : Nat) (last : Int) (acc : Nat) (s r : List UInt8) (S : Nat), -1 ≤ last → plist f last acc s = (some S, r) →
    ∃ ns : List Nat, ns ≠ [] ∧ Asc ns ∧ (∀ n ∈ ns, last < (n : Int) ∧ n < 64) ∧ S = foldB acc ns ∧ s = joinC ns ++ r
  | 0, _, _, _, _, _, _, h => by cases h
  | f + 1, last, acc, s, r, S, hl, h => by
    obtain ⟨n, r1, h1, h2⟩ := pand_back h
    obtain ⟨rfl, h3, h4⟩ := pnum_back _ _ _ _ _ (by omega) (by omega) h1
    obtain ⟨k, rfl⟩ := Int.eq_ofNat_of_zero_le (show 0 ≤ n by omega)
    have one : ∀ (r1 : List UInt8), ∃ ns : List Nat, ns ≠ [] ∧ Asc ns ∧ (∀ n ∈ ns, last < (n : Int) ∧ n < 64) ∧ acc ||| 2 ^ k = foldB acc ns ∧ digL k ++ r1 = joinC ns ++ r1 := fun r1 =>
      ⟨[k], by simp, List.pairwise_singleton _ _, fun m hm => by simp at hm; subst hm; omega, rfl, rfl⟩
    split at h2
    · cases h2; exact one _
    · obtain ⟨b, r2, h5, h6⟩ := pand_back h2
      have h7 := pis_back h5
      cases b with
      | false =>
        have h7' : r1 = r2 := h7
        subst h7'
        simp only [Bool.false_eq_true, if_false, ppure, Int.toNat_natCast] at h6
        cases h6; exact one _
      | true =>
        have h7' : r1 = 44 :: r2 := h7
        subst h7'
        simp only [if_true, Int.toNat_natCast] at h6
        obtain ⟨ns, k1, k2, k3, k4, k5⟩ := plist_back f k _ r2 r S (by omega) h6
        cases ns with
        | nil => exact absurd rfl k1
        | cons m l =>
          refine ⟨k :: m :: l, by simp, List.pairwise_cons.2 ⟨fun i hi => by have := (k3 i hi).1; omega, k2⟩, ?_, k4, ?_⟩
          · intro i hi
            rcases List.mem_cons.1 hi with rfl | hi
            · omega
            · have := k3 i hi; omega
          · rw [k5]; simp [joinC]
theorem pset_back {s r : List UInt8} {S : Nat} (h : pset s = (some S, r)) : s = setT S ++ r ∧ S < 2 ^ 64 := by
  obtain ⟨b, r1, h1, h2⟩ := pand_back h
  have h3 := pis_back h1
  cases b with
  | false =>
    have h3' : s = r1 := h3
    subst h3'
    simp only [Bool.false_eq_true, if_false, ppure] at h2
    cases h2
    exact ⟨by simp [setT, catsL], by omega⟩
  | true =>
    have h3' : s = 123 :: r1 := h3
    subst h3'
    simp only [if_true] at h2
    obtain ⟨S2, r2, h4, h5⟩ := pand_back h2
    obtain ⟨u, r3, h6, h7⟩ := pand_back h5
    have h8 := pmust_back h6
    subst h8
    simp only [ppure] at h7
    cases h7
    obtain ⟨ns, k1, k2, k3, k4, k5⟩ := plist_back _ _ _ _ _ _ (by omega) h4
    have e : catsL S = ns := by rw [k4]; exact catsL_fold ns k2 (fun n hn => (k3 n hn).2)
    refine ⟨?_, ?_⟩
    · rw [setT, e, if_neg k1, k5]; simp
    · rw [k4]
      refine Nat.lt_pow_two_of_testBit _ fun i hi => ?_
      rw [foldB_bit]
      have : i ∉ ns := fun hm => by have := (k3 i hm).2; omega
      simp [this]
theorem ptext_back {s : List UInt8} {lv ig : Int} {S : Nat} {r : List UInt8} (h : ptext s = (some (lv, S, ig), r)) : s = labT lv S ig ∧ r = [] ∧ 0 ≤ lv ∧ lv ≤ 15 ∧ 0 ≤ ig ∧ ig ≤ 7 ∧ S < 2 ^ 64 := by
  obtain ⟨x, r1, h1, h2⟩ := pand_back h
  have hr : r1 = [] ∧ x = (lv, S, ig) ∧ r = [] := by
    cases r1 with
    | nil => simp only [pend] at h2; cases h2; exact ⟨rfl, rfl, rfl⟩
    | cons c r1 => simp only [pend] at h2; cases h2
  obtain ⟨rfl, rfl, rfl⟩ := hr
  obtain ⟨_, a1, k1, h3⟩ := pand_back h1
  obtain ⟨lv', a2, k2, h4⟩ := pand_back h3
  obtain ⟨S', a3, k3, h5⟩ := pand_back h4
  obtain ⟨_, a4, k4, h6⟩ := pand_back h5
  obtain ⟨ig', a5, k5, h7⟩ := pand_back h6
  simp only [ppure] at h7
  cases h7
  have j1 := pmust_back k1
  obtain ⟨j2, j3, j4⟩ := pnum_back _ _ _ _ _ (by omega) (by omega) k2
  obtain ⟨j5, j6⟩ := pset_back k3
  have j7 := pmust_back k4
  obtain ⟨j8, j9, j10⟩ := pnum_back _ _ _ _ _ (by omega) (by omega) k5
  refine ⟨?_, rfl, j3, j4, j9, j10, j6⟩
  rw [j1, j2, j5, j7, j8, labT]
  simp
end Go.Proofs.YtmmdpjliknmhgaaGreatDoor
/- A rule's line: its words, printed and read again. Plain, over any sort of labels and filters. -/
namespace Go.Proofs.YtmmdpjliknmhgaaGreatDoor
/-- up to the first blank -/
def cutB : List UInt8 → Option (List UInt8 × List UInt8)
  | [] => none
  | c :: r => if c = 32 then some ([], r) else (cutB r).map fun p => (c :: p.1, p.2)
theorem cutB_word : ∀ (s r : List UInt8), 32 ∉ s → cutB (s ++ 32 :: r) = some (s, r)
  | [], r, _ => by simp [cutB]
  | c :: s, r, h => by
    have h1 : c ≠ 32 := fun e => h (by simp [e])
    have h2 := cutB_word s r (fun e => h (by simp [e]))
    simp [cutB, h1, h2]
/-- at most k cuts at blanks -/
def splitW : Nat → List UInt8 → List (List UInt8)
  | 0, s => [s]
  | k + 1, s => match cutB s with
    | none => [s]
    | some (a, r) => a :: splitW k r
theorem splitW_word (k : Nat) (s r : List UInt8) (h : 32 ∉ s) : splitW (k + 1) (s ++ 32 :: r) = s :: splitW k r := by rw [splitW, cutB_word s r h]
theorem splitW_len : ∀ (k : Nat) (s : List UInt8), (splitW k s).length ≤ k + 1
  | 0, s => by simp [splitW]
  | k + 1, s => by
    rw [splitW]
    split
    · simp
    · have := splitW_len k; simp; apply this
/-- a number's digits, as far as they go -/
def numW (M : Int) : Int → List UInt8 → Int
  | n, [] => n
  | n, c :: r => if (c.toNat : Int) < 48 ∨ 57 < (c.toNat : Int) ∨ M < n then -1 else numW M (n * 10 + ((c.toNat : Int) - 48)) r
theorem numW_app (M : Int) : ∀ (a b : List UInt8) (n : Int), 0 ≤ n → 0 ≤ numW M n a → numW M n (a ++ b) = numW M (numW M n a) b
  | [], b, n, _, _ => rfl
  | c :: a, b, n, hn, h => by
    rw [List.cons_append, numW, numW] at *
    split at h
    · omega
    · rename_i hc
      rw [if_neg hc, if_neg hc]
      exact numW_app M a b _ (by omega) h
theorem numW_dig (M : Int) (hM : 1000 ≤ M) : ∀ (k n : Nat), n < k → n ≤ 10009 → numW M 0 (digL n) = n
  | 0, n, h, _ => absurd h (by omega)
  | k + 1, n, h, hn => by
    have hd := dch_nat n
    have hd1 : (dch n).toNat = 48 + n % 10 := by omega
    by_cases hs : n < 10
    · rw [digL_lt10 n hs, numW, if_neg (by omega), numW]; omega
    · have e : digL n = digL (n / 10 : Nat) ++ [dch n] := by
        rw [digL, if_neg (by omega), Int.toNat_natCast, revD, if_neg hs, digL, if_neg (by omega), Int.toNat_natCast, List.reverse_cons]
      have ih := numW_dig M hM k (n / 10) (by omega) (by omega)
      rw [e, numW_app M _ _ _ (by omega) (by rw [ih]; omega), ih, numW, if_neg (by omega), numW]
      omega
theorem dig_plain (n : Nat) : ∀ c ∈ digL n, 48 ≤ c.toNat ∧ c.toNat ≤ 57 := by
  have aux : ∀ (k n : Nat), n < k → ∀ c ∈ digL n, 48 ≤ c.toNat ∧ c.toNat ≤ 57 := by
    intro k
    induction k with
    | zero => intro n h; exact absurd h (by omega)
    | succ k ih =>
      intro n h c hc
      have hd := dch_nat n
      by_cases hs : n < 10
      · rw [digL_lt10 n hs, List.mem_singleton] at hc
        subst hc; omega
      · have e : digL n = digL (n / 10 : Nat) ++ [dch n] := by
          rw [digL, if_neg (by omega), Int.toNat_natCast, revD, if_neg hs, digL, if_neg (by omega), Int.toNat_natCast, List.reverse_cons]
        rw [e, List.mem_append, List.mem_singleton] at hc
        rcases hc with hc | rfl
        · exact ih (n / 10) (by omega) c hc
        · omega
  exact aux (n + 1) n (by omega)
end Go.Proofs.YtmmdpjliknmhgaaGreatDoor
