/- Joined: Range; Ring; RingU; RingC; RingS; RingR; RingT -/
import Derived.Test.YthclfkhakmcnbaaGreatDoorJTA
import Derived.RangeFuncNested
import Derived.RangeFuncBound
import Derived.RangeFuncCalls
import Derived.RangeFuncLeaves
import Derived.RangeFuncBox
import Derived.Shelf.Abstract
import Derived.Shelf.RegionOpen
import Derived.OwnWalkIn
import Derived.TacticsInMore
import Derived.LoopNIn
import Derived.LoopIn
import Derived.Maps.AppendAt
import Derived.WalkMore
import Derived.Deep.LoopGhost
import Derived.Deep.RegionHeld3
import Derived.Stop.IfaceNil
import Derived.Deep.QuietTactic
import Derived.BigQuiet
import Derived.Deep.DeepMust
/- A law for 'for x := range seq' where the iterator keeps a state of its own in cells (a reader, a counter): the iterator's own steps are a relation G that the caller's invariant must bear. On no program. -/
namespace Go.Proofs.YthclfkhakmcnbaaGreatDoor
open Go.RowKit

/-- The iterator's promise: whatever invariant J the caller has that bears the iterator's own steps G, it calls yield on one x after another, and ends having S (all came) or Sp (a round said no more). -/
def SeqG {α : Type} (F : Fence) (n : Nat) (P : Program) (g : Nat) (lb : Array Value) (encs : α → Array Value) (G Kp : World → World → Prop) (S Sp : List α → World → Prop) (N : Nat) (W : World) : Prop :=
  ∀ (l : Nat) (J Jx : List α → World → Prop), (∀ s A B, J s A → G A B → J s B) → (∀ s A B, Jx s A → G A B → Jx s B) →
    (∀ pre x V, J pre V → pre.length < N → YieldAt F (n - 1) P l (encs x) V fun e V' =>
      (e = .returned (.bool true) ∧ J (pre ++ [x]) V' ∧ Kp V V') ∨ (e = .returned (.bool false) ∧ Jx (pre ++ [x]) V')) →
    J [] W →
    CallsIn F n P g (#[.func (.yield l) #[] #[]] ++ lb) W fun e V => (∃ v, e = .returned v) ∧ ((∃ xs, S xs V ∧ J xs V) ∨ (∃ pre, Sp pre V ∧ Jx pre V))

/-- A relation on worlds that bears the turn of any block that is not of cells from B on, and new blocks. -/
def Bears {β : Type} (B : Nat) (I : β → World → Prop) : Prop :=
  (∀ s W l o o', I s W → B ≤ l → W.heap[l]? = some o → o.isCells = false → I s (W.putObj l o')) ∧ (∀ s W o, I s W → I s (W.alloc o))

/-- What a round's body must keep from block B on: whatever is no cells. -/
def Keeps (B : Nat) (W W' : World) : Prop := ∀ (k : Nat) (o : Obj), B ≤ k → W.heap[k]? = some o → o.isCells = false → W'.heap[k]? = some o

def outOf {α : Type} (B : Nat) (Kp : World → World → Prop) (I : List α → World → Prop) (Ix : Code → List α → World → Prop) (xs : List α) (W : World) : Exit → Act → World → Prop
  | .normal, _, W' => Keeps B W W' ∧ Kp W W' ∧ I xs W'
  | .ret, _, W' => Keeps B W W' ∧ Ix .ret xs W'
  | .exit id, _, W' => Keeps B W W' ∧ Ix (.exit id) xs W'
  | .goto t, _, W' => Keeps B W W' ∧ Ix (.goto t) xs W'
  | .panic _, _, _ => False
  | .outgrown, _, _ => False

variable {F : Fence} {n : Nat} {P : Program}

theorem range_law {α : Type} {g : Operand} {ps : Array Tmp} {assign body : Code} {Q : Exit → Act → World → Prop} {a : Act} {w : World}
    (hro : F.round = none) (h1 : 1 ≤ n) {gf : Nat} {lb : Array Value} (hg : a.eval g = .func (.func gf) #[] lb) (hFg : F.fn gf) (eg : ∀ args w, (callFunc gf args).run P w = .ok (.enter gf args) w)
    {encs : α → Array Value} {G Kp : World → World → Prop} {S Sp : List α → World → Prop} {N : Nat}
    (hseq : ∀ W, Below w.heap.size w W → W.heap.size = w.heap.size + 2 → SeqG F (n - 1) P gf lb encs G Kp S Sp N W)
    (hKt : ∀ {A B C : World}, Kp A B → Kp B C → Kp A C) (hKb : ∀ W l o o', w.heap.size ≤ l → W.heap[l]? = some o → o.isCells = false → Kp W (W.putObj l o'))
    (hGk : ∀ A B, G A B → Keeps w.heap.size A B) (hps : ∀ x, (encs x).size = ps.size)
    (I : List α → World → Prop) (Ix : Code → List α → World → Prop) (hI : Bears w.heap.size I) (hIx : ∀ c, Bears w.heap.size (Ix c)) (hS : Bears w.heap.size S) (hSp : Bears w.heap.size Sp)
    (hIG : ∀ s A B, I s A → G A B → I s B) (hIxG : ∀ c s A B, Ix c s A → G A B → Ix c s B) (h0 : I [] w) (a₁ : α → Act)
    (hassign : ∀ (l : Nat) (x : α) (W : World) (K : Act → World → Prop), K (a₁ x) W →
      assign.wpIn (F.inRound l) (n - 1 - 1) P (Exit.then K (fun _ _ _ => False)) { tmps := (ps.zip (encs x)).foldl (fun t (p, v) => t.setIfInBounds p v) a.tmps, defers := [] } W)
    (hbody : ∀ (l : Nat) (pre : List α) (x : α) (W : World), I pre W → pre.length < N → body.wpIn (F.inRound l) (n - 1 - 1) P (outOf w.heap.size Kp I Ix (pre ++ [x]) W) (a₁ x) W)
    (hdone : ∀ (D : Nat) (xs : List α) (W : World), w.heap.size ≤ D → S xs W → I xs W → W.heap[D]? = some (.deferred (some [])) → Q .normal { a with defers := { target := .collected D, args := #[] } :: a.defers } W)
    (hstop : ∀ (D : Nat) (c : Code) (pre : List α) (W : World), w.heap.size ≤ D → Sp pre W → Ix c pre W → W.heap[D]? = some (.deferred (some [])) → c.wpIn F n P Q { a with defers := { target := .collected D, args := #[] } :: a.defers } W) :
    (Code.rangeFunc g ps assign body).wpIn F n P Q a w := by
  refine wpIn_rangeFunc fun fn hfn => ?_
  rw [hro]
  generalize hD : w.heap.size = D at *
  obtain ⟨rec, hrec⟩ : ∃ rec : LoopState → Option Code → Loop, rec = fun st pe => { state := st, pending := pe, fn, tmps := a.tmps, params := ps, assign, body, defers := D } := ⟨_, rfl⟩
  have hst : ∀ st pe, (rec st pe).state = st := fun _ _ => by rw [hrec]
  have hpe : ∀ st pe, (rec st pe).pending = pe := fun _ _ => by rw [hrec]
  obtain ⟨W1, hW1⟩ : ∃ W1, (w.alloc (.deferred (some []))).alloc (.loop (rec .ready none)) = W1 := ⟨_, rfl⟩
  have hz : (w.alloc (.deferred (some []))).heap.size = D + 1 := by rw [World.size_alloc, hD]
  have hL : W1.heap[D + 1]? = some (.loop (rec .ready none)) := by rw [← hW1, ← hz]; exact World.alloc_heap_new _ _
  have hK : W1.heap[D]? = some (.deferred (some [])) := by
    rw [← hW1, Below.heap_alloc _ _ _ (by rw [hz]; omega), ← hD]; exact World.alloc_heap_new _ _
  have hsize : W1.heap.size = D + 2 := by rw [← hW1, World.size_alloc, hz]
  have hbel : Below D w W1 := by rw [← hW1]; exact ((Below.refl D w).alloc (by omega) _).alloc (by rw [hz]; omega) _
  have hI1 : I [] W1 := by rw [← hW1]; exact hI.2 _ _ _ (hI.2 _ _ _ h0)
  refine ⟨D + 1, [{ target := .collected D, args := #[] }], W1, { target := .fn (.func gf) lb, args := #[.func (.yield (D + 1)) #[] #[]] }, W1, gf,
    #[.func (.yield (D + 1)) #[] #[]] ++ lb, W1, ?enter, ?resolve, ?leads, ?invoke, fun _ => h1, ?call⟩
  case enter => rw [← hW1, hrec, ← hD]; exact run_enterLoop_outer _ _ _ _ _
  case resolve => simp only [resolve, hg]; simp [go_sem]
  case leads => intro f' hf'; simp [Target.leads] at hf'; subst hf'; exact hFg
  case invoke => simp [invoke, go_sem, eg]
  case call =>
    refine (hseq W1 hbel hsize (D + 1)
      (fun pre W => I pre W ∧ W.heap[D + 1]? = some (.loop (rec .ready none)) ∧ W.heap[D]? = some (.deferred (some [])))
      (fun pre W => ∃ c, Ix c pre W ∧ W.heap[D + 1]? = some (.loop (rec .done (some c))) ∧ W.heap[D]? = some (.deferred (some [])))
      (fun s A B hs hg' => ⟨hIG s A B hs.1 hg', hGk A B hg' _ _ (by omega) hs.2.1 rfl, hGk A B hg' _ _ (by omega) hs.2.2 rfl⟩)
      (fun s A B ⟨c, hc, hl, hk⟩ hg' => ⟨c, hIxG c s A B hc hg', hGk A B hg' _ _ (by omega) hl rfl, hGk A B hg' _ _ (by omega) hk rfl⟩)
      ?round ⟨hI1, hL, hK⟩).mono ?behind
    case round =>
      rintro pre x W ⟨hi, hl, hk⟩ hlen
      have hlt : D + 1 < W.heap.size := (Array.getElem?_eq_some_iff.1 hl).1
      have hy := run_yield (P := P) (args := encs x) hl (by rw [hrec]; exact hps x)
      rw [hrec] at hy
      refine ⟨fn, _, assign, body, hy, roundIn_of_wpIn hfn (hassign _ x W _ ⟨_, run_beginRound hl (hst _ _), ?_⟩)⟩
      obtain ⟨busy, hbusy⟩ : ∃ b : Loop, b = { rec .ready none with state := .busy } := ⟨_, rfl⟩
      rw [← hbusy]
      obtain ⟨V, hV⟩ : ∃ V, W.putObj (D + 1) (.loop busy) = V := ⟨_, rfl⟩
      have hl2 : V.heap[D + 1]? = some (.loop busy) := by rw [← hV]; exact World.putObj_heap_same hlt
      have hk2 : V.heap[D]? = some (.deferred (some [])) := by rw [← hV]; exact (World.putObj_heap_other (by omega)).trans hk
      have hw2 : Kp W V := by rw [← hV]; exact hKb _ _ _ _ (by omega) hl rfl
      have hi2 : I pre V := by rw [← hV]; exact hI.1 _ _ _ _ _ hi (by omega) hl rfl
      rw [hV]
      have fin : ∀ (jump : Option Code) (X : World), Keeps D V X →
          (Instr.endRound (D + 1) jump).run P X = .ok (.bool jump.isNone) (X.putObj (D + 1) (.loop (rec (if jump.isNone then .ready else .done) jump))) ∧
          X.heap[D + 1]? = some (.loop busy) ∧
          (X.putObj (D + 1) (.loop (rec (if jump.isNone then .ready else .done) jump))).heap[D + 1]? = some (.loop (rec (if jump.isNone then .ready else .done) jump)) ∧
          (X.putObj (D + 1) (.loop (rec (if jump.isNone then .ready else .done) jump))).heap[D]? = some (.deferred (some [])) := by
        intro jump X hkx
        have hx := hkx _ _ (by omega) hl2 rfl
        have hr := run_endRound (P := P) jump hx
        have e : ({ busy with state := if jump.isNone then .ready else .done, pending := jump } : Loop) = rec (if jump.isNone then .ready else .done) jump := by rw [hbusy, hrec]
        rw [e] at hr
        exact ⟨hr, hx, World.putObj_heap_same (Array.getElem?_eq_some_iff.1 hx).1, (World.putObj_heap_other (by omega)).trans (hkx _ _ (Nat.le_refl _) hk2 rfl)⟩
      refine wpIn_mono (hbody _ pre x V hi2 hlen) ?_
      rintro e b X hp
      cases e with
      | normal =>
        obtain ⟨q1, q2, q3⟩ := hp
        obtain ⟨r1, r2, r3, r4⟩ := fin none X q1
        exact ⟨_, _, r1, .inl ⟨rfl, ⟨hI.1 _ _ _ _ _ q3 (by omega) r2 rfl, r3, r4⟩, hKt (hKt hw2 q2) (hKb _ _ _ _ (by omega) r2 rfl)⟩⟩
      | ret =>
        obtain ⟨q1, q3⟩ := hp
        obtain ⟨r1, r2, r3, r4⟩ := fin (some .ret) X q1
        exact ⟨_, _, r1, .inr ⟨rfl, .ret, (hIx _).1 _ _ _ _ _ q3 (by omega) r2 rfl, r3, r4⟩⟩
      | exit id =>
        obtain ⟨q1, q3⟩ := hp
        obtain ⟨r1, r2, r3, r4⟩ := fin (some (.exit id)) X q1
        exact ⟨_, _, r1, .inr ⟨rfl, .exit id, (hIx _).1 _ _ _ _ _ q3 (by omega) r2 rfl, r3, r4⟩⟩
      | goto t =>
        obtain ⟨q1, q3⟩ := hp
        obtain ⟨r1, r2, r3, r4⟩ := fin (some (.goto t)) X q1
        exact ⟨_, _, r1, .inr ⟨rfl, .goto t, (hIx _).1 _ _ _ _ _ q3 (by omega) r2 rfl, r3, r4⟩⟩
      | panic ch => exact hp.elim
      | outgrown => exact hp.elim
    case behind =>
      rintro e V ⟨⟨v, rfl⟩, (⟨xs, hs, hi, hl, hk⟩ | ⟨pre, hs, c, hi, hl, hk⟩)⟩
      · refine ⟨none, _, (run_endLoop (P := P) hl (by rw [hst]; simp)).trans (by rw [hpe]), ?_⟩
        exact hdone _ xs _ (Nat.le_refl _) (hS.1 _ _ _ _ _ hs (by omega) hl rfl) (hI.1 _ _ _ _ _ hi (by omega) hl rfl) ((World.putObj_heap_other (by omega)).trans hk)
      · refine ⟨some c, _, (run_endLoop (P := P) hl (by rw [hst]; simp)).trans (by rw [hpe]), ?_⟩
        exact hstop _ c pre _ (Nat.le_refl _) (hSp.1 _ _ _ _ _ hs (by omega) hl rfl) ((hIx c).1 _ _ _ _ _ hi (by omega) hl rfl) ((World.putObj_heap_other (by omega)).trans hk)
theorem putObj_other (W : World) {l k : Nat} {o o' x : Obj} (hl : W.heap[l]? = some o) (ho : o.isCells = false) (hk : W.heap[k]? = some x) (hx : x.isCells = true) : (W.putObj l o').heap[k]? = some x :=
  (World.putObj_heap_other (fun e => by subst e; rw [hl] at hk; cases hk; rw [ho] at hx; cases hx)).trans hk
theorem bears_boxed {β : Type} (B b : Nat) (t : TypeId) (f : β → Value) : Bears B (fun s W => Boxed W b t (f s)) :=
  ⟨fun _ W _ _ _ h _ hl ho => putObj_other W hl ho h rfl, fun _ _ o h => Boxed.alloc h o⟩
theorem bears_below {β : Type} {n₀ B : Nat} {w₀ : World} (hn : n₀ ≤ w₀.heap.size) (hB : n₀ ≤ B) : Bears B (fun (_ : β) W => Below n₀ w₀ W) :=
  ⟨fun _ W l _ o' h hl _ _ => h.grown (grownBy_putObj' W l o') (Nat.le_trans hn h.size) (fun k e => by cases e; omega), fun _ _ o h => h.alloc (Nat.le_trans hn h.size) o⟩
theorem bears_size {β : Type} (B m : Nat) : Bears B (fun (_ : β) W => m ≤ W.heap.size) :=
  ⟨fun _ W _ _ _ h _ _ _ => by show m ≤ (World.heap _).size; rw [World.putObj_size]; exact h, fun _ W o h => by have h' : m ≤ W.heap.size := h; show m ≤ (World.heap _).size; rw [World.size_alloc]; omega⟩
theorem size_setCell (W : World) (a : Addr) (v : Value) : (W.setCell a v).heap.size = W.heap.size := by simp [World.setCell]
theorem Bears.and {β : Type} {B : Nat} {I J : β → World → Prop} (h : Bears B I) (k : Bears B J) : Bears B (fun s W => I s W ∧ J s W) :=
  ⟨fun s W l o o' x a b c => ⟨h.1 s W l o o' x.1 a b c, k.1 s W l o o' x.2 a b c⟩, fun s W o x => ⟨h.2 s W o x.1, k.2 s W o x.2⟩⟩
theorem bears_const {β : Type} (B : Nat) (p : β → Prop) : Bears B (fun s _ => p s) := ⟨fun _ _ _ _ _ h _ _ _ => h, fun _ _ _ h => h⟩

/-- The iterator's own steps: block b is written, new blocks are laid, draws. -/
def boxG (b : Nat) (A B : World) : Prop := A.grownBy B (some b)
/-- What a round must keep for it: the box. -/
def boxK (b : Nat) (A B : World) : Prop := B.heap[b]? = A.heap[b]?
theorem boxK_t {b : Nat} {A B C : World} (h : boxK b A B) (k : boxK b B C) : boxK b A C := k.trans h
theorem boxK_b {b n₀ : Nat} (hb : b < n₀) (W : World) (l : Nat) (o o' : Obj) (hl : n₀ ≤ l) (_ : W.heap[l]? = some o) (_ : o.isCells = false) : boxK b W (W.putObj l o') := World.putObj_heap_other (by omega)
theorem boxG_keeps {b n₀ : Nat} (hb : b < n₀) (A B : World) (h : boxG b A B) : Keeps n₀ A B := fun k _ hk ho _ =>
  (h.block k (Array.getElem?_eq_some_iff.1 ho).1 (fun e => by cases e; omega)).trans ho
theorem Boxed_boxG {b c : Nat} {t : TypeId} {v : Value} {A B : World} (h : Boxed A c t v) (hg : boxG b A B) (hne : c ≠ b) : Boxed B c t v := h.kept hg (fun e => by cases e; exact hne rfl)
theorem Below_boxG {b n₀ : Nat} {w A B : World} (h : Below n₀ w A) (hg : boxG b A B) (hn : n₀ ≤ w.heap.size) (hb : n₀ ≤ b) : Below n₀ w B := h.grown hg (Nat.le_trans hn h.size) (fun k e => by cases e; exact hb)
theorem size_boxG {b : Nat} {A B : World} (hg : boxG b A B) : A.heap.size ≤ B.heap.size := hg.size
/-- What a round must keep: all blocks below m but its own box. -/
def keepK (m ob : Nat) (A B : World) : Prop := ∀ k, k < m → k ≠ ob → B.heap[k]? = A.heap[k]?
theorem keepK_t {m ob : Nat} {A B C : World} (h : keepK m ob A B) (k : keepK m ob B C) : keepK m ob A C := fun i hi ho => (k i hi ho).trans (h i hi ho)
theorem keepK_b {m ob : Nat} (W : World) (l : Nat) (o o' : Obj) (hl : m ≤ l) (_ : W.heap[l]? = some o) (_ : o.isCells = false) : keepK m ob W (W.putObj l o') := fun k hk _ => World.putObj_heap_other (by omega)
theorem Keeps.setCell (B : Nat) (W : World) (b : Nat) (v : Value) {t : TypeId} {u : Value} (h : Boxed W b t u) : Keeps B W (W.setCell ⟨b, 0, none⟩ v) := by
  intro k o _ ho hc
  rw [Below.heap_setCell _ _ _ _ (fun e => by have e' : k = b := e; have h' : W.heap[b]? = _ := h; rw [← e', ho] at h'; cases h'; cases hc)]; exact ho
theorem Keeps.alloc (B : Nat) (W : World) (o : Obj) : Keeps B W (W.alloc o) := fun k _ _ ho _ => (Below.heap_alloc W o k (Array.getElem?_eq_some_iff.1 ho).1).trans ho
theorem Keeps.trans {B : Nat} {X Y Z : World} (h : Keeps B X Y) (k : Keeps B Y Z) : Keeps B X Z := fun i o hi ho hc => k i o hi (h i o hi ho hc) hc
theorem Keeps.refl (B : Nat) (W : World) : Keeps B W W := fun _ _ _ h _ => h

theorem bears_row {β : Type} (B : Nat) (base : Nat) (e : TypeId) (size : Nat) (v : β → Value) (k : β → Nat) (f : β → List Value) : Bears B (fun s W => W.ownsRow base e size (v s) (k s) (f s)) :=
  ⟨fun _ _ _ _ o' h _ hl ho => ownsRow_putObj h o' hl ho, fun _ _ o h => h.alloc o⟩
theorem bears_ex {β γ : Type} {B : Nat} {I : γ → β → World → Prop} (h : ∀ c, Bears B (I c)) : Bears B (fun s W => ∃ c, I c s W) :=
  ⟨fun s W l o o' ⟨c, x⟩ a b d => ⟨c, (h c).1 s W l o o' x a b d⟩, fun s W o ⟨c, x⟩ => ⟨c, (h c).2 s W o x⟩⟩
theorem bears_blk {β : Type} (B b : Nat) (t : TypeId) (f : β → Array Value) : Bears B (fun s W => Blk W b (f s) t) :=
  ⟨fun _ W _ _ _ h _ hl ho => putObj_other W hl ho h rfl, fun _ _ o h => Blk.alloc h o⟩
/-- A row of the call's own from block base on is not touched by steps on a block below base. -/
theorem row_boxG {b base : Nat} {e : TypeId} {size : Nat} {v : Value} {k : Nat} {xs : List Value} {A B : World} (h : A.ownsRow base e size v k xs) (hg : boxG b A B) (hb : b < base) : B.ownsRow base e size v k xs :=
  h.kept hg (by
    rcases h.2 with ⟨rfl, _⟩ | ⟨g, cap, cur, rfl, hgb, _⟩
    · exact .inl rfl
    · exact .inr (by simp [Value.ownBlock]; omega))
/-- A row reads as its elements. -/
theorem row_cells {base : Nat} {e : TypeId} {v : Value} {k : Nat} {xs : List Value} {A : World} (h : A.ownsRow base e 1 v k xs) :
    xs.length = k ∧ ((v = .slice none 0 0 ∧ k = 0) ∨ ∃ g cap, v = .slice (some ⟨g, 0, none⟩) k cap ∧ base ≤ g ∧ ∀ j (hj : j < xs.length), A.cell? ⟨g, j, none⟩ = some xs[j]) := by
  obtain ⟨h1, h2⟩ := h
  refine ⟨by simpa using h1, ?_⟩
  rcases h2 with h2 | ⟨g, cap, cur, rfl, hb, hh, _, _, _, hx⟩
  · exact .inl h2
  · refine .inr ⟨g, cap, rfl, hb, fun j hj => ?_⟩
    obtain ⟨u, hu⟩ : ∃ u, u = xs[j] := ⟨_, rfl⟩
    rw [← hu]
    have e1 : xs[j]? = some u := by rw [hu]; exact List.getElem?_eq_getElem hj
    clear hu
    rw [← hx, List.getElem?_take] at e1
    split at e1
    · simp [World.cell?, hh]
      simpa using e1
    · cases e1

/-- 'out = append(out, ..)', out in a box: what the append law leaves, behind the store. -/
theorem appended {W w1 : World} {base b : Nat} {t e : TypeId} {size : Nat} {v v' : Value} {k m : Nat} {xs ys : List Value} {tmp : Obj}
    (hv : Boxed W b t v) (hte : t ≠ e) (hrow : W.ownsRow base e size v k xs) (hown' : w1.ownsRow base e size v' m ys) (hgrow : (W.alloc tmp).grownBy w1 v.ownBlock) :
    Boxed w1 b t v ∧ Boxed (w1.setCell ⟨b, 0, none⟩ v') b t v' ∧ (w1.setCell ⟨b, 0, none⟩ v').ownsRow base e size v' m ys ∧ (∀ B, Keeps B W (w1.setCell ⟨b, 0, none⟩ v')) ∧
      W.heap.size ≤ (w1.setCell ⟨b, 0, none⟩ v').heap.size ∧ (∀ i, i < W.heap.size → i < base → i ≠ b → (w1.setCell ⟨b, 0, none⟩ v').heap[i]? = W.heap[i]?) ∧ (∀ n₀, n₀ ≤ W.heap.size → n₀ ≤ b → n₀ ≤ base → Below n₀ W (w1.setCell ⟨b, 0, none⟩ v')) := by
  have hv1 : Boxed w1 b t v := (hv.alloc tmp).kept hgrow (hv.not_row hte hrow)
  have hob : ∀ j, v.ownBlock = some j → base ≤ j ∧ ∃ o : Obj, (W.alloc tmp).heap[j]? = some o ∧ o.isCells = true := by
    intro j ej
    rcases (hrow.alloc tmp).2 with ⟨rfl, _⟩ | ⟨g, cap, cur, rfl, hg, hgb, _⟩
    · simp [Value.ownBlock] at ej
    · obtain rfl : g = j := by simpa [Value.ownBlock] using ej
      exact ⟨hg, _, hgb, rfl⟩
  have hsz : W.heap.size + 1 ≤ w1.heap.size := by have := hgrow.size; rwa [World.size_alloc] at this
  have hblk : ∀ i, i < W.heap.size → i < base → i ≠ b → (w1.setCell ⟨b, 0, none⟩ v').heap[i]? = W.heap[i]? := by
    intro i hi hbase hne
    rw [Below.heap_setCell _ _ _ _ (by show i ≠ b; exact hne), hgrow.block i (by rw [World.size_alloc]; omega) (fun ej => by have := (hob i ej.symm).1; omega), Below.heap_alloc _ _ _ hi]
  refine ⟨hv1, hv1.set v', hown'.kept (grownBy_setCell' w1 b v') (.inr (hv1.not_row hte hown').symm), ?_, ?_, hblk, ?_⟩
  · intro B i o _ hi ho
    have hlt := (Array.getElem?_eq_some_iff.1 hi).1
    have h2 : w1.heap[i]? = some o := by
      rw [hgrow.block i (by rw [World.size_alloc]; omega) (fun ej => by
        obtain ⟨_, o', ho', hc⟩ := hob i ej.symm
        rw [Below.heap_alloc _ _ _ hlt, hi] at ho'; cases ho'; rw [ho] at hc; cases hc), Below.heap_alloc _ _ _ hlt]
      exact hi
    rw [Below.heap_setCell _ _ _ _ (fun e => by have e' : i = b := e; have h' : w1.heap[b]? = _ := hv1; rw [← e', h2] at h'; cases h'; cases ho)]
    exact h2
  · rw [size_setCell]; omega
  · intro n₀ h1 h2 h3
    exact (((Below.refl n₀ W).alloc h1 tmp).grown hgrow (by rw [World.size_alloc]; omega) (fun j ej => by have := (hob j ej).1; omega)).setCell (p := ⟨b, 0, none⟩) h2 v'

/-- A scope through which the run goes without a jump, in the wide fence. -/
theorem wpIn_scope_w {m : Nat} {c : Code} {Q : Exit → Act → World → Prop} {a : Act} {w : World} (h : c.wpIn Fence.wide m P (Exit.noGoto Q) a w) : (Code.scope c).wpIn Fence.wide m P Q a w :=
  wpIn_wide.2 (wp_scope_straight (wpIn_wide.1 h))
end Go.Proofs.YthclfkhakmcnbaaGreatDoor
/- Walks of layer 8: rings. -/
namespace Go.Proofs.YthclfkhakmcnbaaGreatDoor
open Go.RowKit Go.Shelf
attribute [local go_sem] Oper.semAt_some
theorem isMax_any (n : Int) (w : World) : Calls Tryz.prog 96 #[.int .i64 n] w fun e w' => e = .returned (.bool (decide (0 ≤ n) && decide (n ≤ 2000))) ∧ w' = w := by
  go_enter Tryz.func96, Tryz.ntmps96
  by_cases h0 : 0 ≤ n
  · by_cases h1 : n ≤ 2000
    · rw [decide_eq_true h0, decide_eq_true h1]
      go_wp2
      go_ret
      exact ⟨rfl, rfl⟩
    · rw [decide_eq_true h0, decide_eq_false h1]
      go_wp2
      go_ret
      exact ⟨rfl, rfl⟩
  · rw [decide_eq_false h0]
    go_wp2
    go_ret
    exact ⟨rfl, rfl⟩
theorem isItem1_any (s : List UInt8) (hs : s.length ≤ maxLen) (w : World) : Calls Tryz.prog 125 #[.string ⟨s.toArray⟩] w fun e w' => e = .returned (.bool (decide (200 < s.length))) ∧ w' = w := by
  have hz := ba_size s
  have hm : s.length ≤ 9223372036854775807 := Nat.le_trans hs (by decide)
  have hd : decide ((200 : Int) < s.length) = decide (200 < s.length) := by simp; omega
  go_enter Tryz.func125, Tryz.ntmps125
  go_wp2
  go_ret
  exact ⟨rfl, rfl⟩
/-- the length of a list of texts in memory is a number -/
def FitsL (l : List (List UInt8)) : Prop := l.length ≤ 1000000 ∧ ∀ s ∈ l, s.length ≤ maxLen
/-- a predicate on texts that leaves the world -/
def PredT (g : Nat) (p : List UInt8 → Bool) : Prop := ∀ (s : List UInt8) (w : World), s.length ≤ maxLen → Calls Tryz.prog g #[.string ⟨s.toArray⟩] w fun e w' => e = .returned (.bool (p s)) ∧ w' = w
theorem StrsV.at {w : World} {v : Value} {l : List (List UInt8)} (h : StrsV w v l) : ∃ a cap, v = .slice a l.length cap ∧ ∀ i (hi : i < l.length), ∃ b o, a = some ⟨b, o, none⟩ ∧ b < w.heap.size ∧ w.cell? ⟨b, o + i, none⟩ = some (.string ⟨l[i].toArray⟩) := by
  obtain ⟨h1, a, cap, rfl, h3, h4⟩ := h
  refine ⟨a, cap, rfl, fun i hi => ?_⟩
  rcases h4 with h4 | ⟨b, o, rfl, hb, hc⟩
  · omega
  · refine ⟨b, o, rfl, hb, ?_⟩
    have := hc i (by rw [strsC_len]; exact hi)
    simpa [strsC] using this
set_option maxHeartbeats 1000000 in
theorem indexT_any (g : Nat) (p : List UInt8 → Bool) (hp : PredT g p) (eg : ∀ args w, (callFunc g args).run Tryz.prog w = .ok (.enter g args) w) (l : List (List UInt8)) (hl : FitsL l) (v : Value) (w : World) (hv : StrsV w v l) :
    Calls Tryz.prog 130 #[v, .func (.func g) #[] #[]] w fun e w' => (∃ k : Int, e = .returned (.int .i64 k) ∧ decide (0 ≤ k) = l.any p) ∧ ∃ q, w' = w.drewN q := by
  obtain ⟨a, cap, rfl, hc⟩ := hv.at
  have hm : l.length ≤ 1000000 := hl.1
  go_enter Tryz.func130, Tryz.ntmps130
  go_wp2
  go_loopg [5, 8] l.length (fun gg _ s8 wr => ∃ kk q : Nat, kk ≤ l.length ∧ l.length - kk ≤ gg ∧ s8 = .int .i64 kk ∧ wr = w.drewN q ∧ Aside ((l.take kk).any p = false))
  case atStart => exact ⟨0, 0, Nat.zero_le _, by omega, rfl, rfl, rfl⟩
  case round =>
    obtain ⟨kk, q, hkk, hg, rfl, rfl, A⟩ := hrel
    by_cases hlt : kk < l.length
    · have hltz : (kk : Int) < (l.length : Int) := by omega
      obtain ⟨b, o, rfl, -, hcell⟩ := hc kk hlt
      clear hc
      have hcall := fun w => hp l[kk] w (hl.2 _ (List.getElem_mem _))
      have ht : (l.take (kk + 1)).any p = ((l.take kk).any p || p l[kk]) := by rw [List.take_succ_eq_append_getElem hlt, List.any_append]; simp
      have hany : p l[kk] = true → l.any p = true := fun h => List.any_eq_true.2 ⟨_, List.getElem_mem _, h⟩
      generalize l[kk] = y at hcell hcall ht hany
      cases hq : p y with
      | true =>
        rw [hq] at hcall
        go_wp2_with (go_at_fn g; refine (hcall _).mono ?_; rintro e w' ⟨rfl, rfl⟩)
        go_ret
        refine ⟨⟨kk, rfl, ?_⟩, _, rfl⟩
        rw [hany hq]; simp
      | false =>
        rw [hq] at hcall
        go_wp2_with (go_at_fn g; refine (hcall _).mono ?_; rintro e w' ⟨rfl, rfl⟩)
        go_roundg (l.length - (kk + 1))
        case measure => omega
        case rel => exact ⟨kk + 1, _, by omega, by omega, by go_num, rfl, (show Aside _ by show _ = _; rw [ht, A.out, hq]; rfl)⟩
    · have hltz : ¬ (kk : Int) < (l.length : Int) := by omega
      have hk : kk = l.length := by omega
      have hA := A.out
      rw [hk, List.take_length] at hA
      go_wp2
      go_ret
      exact ⟨⟨-1, rfl, by simp [hA]⟩, _, rfl⟩
theorem containsT_any (g : Nat) (p : List UInt8 → Bool) (hp : PredT g p) (eg : ∀ args w, (callFunc g args).run Tryz.prog w = .ok (.enter g args) w) (l : List (List UInt8)) (hl : FitsL l) (v : Value) (w : World) (hv : StrsV w v l) :
    Calls Tryz.prog 126 #[v, .func (.func g) #[] #[]] w fun e w' => e = .returned (.bool (l.any p)) ∧ ∃ q, w' = w.drewN q := by
  have H := indexT_any g p hp eg l hl v w hv
  go_enter Tryz.func126, Tryz.ntmps126
  go_wp2_with (go_at_call 130; refine H.mono ?_; rintro e w' ⟨⟨k, rfl, hk⟩, q, rfl⟩)
  go_ret
  exact ⟨rfl, q, rfl⟩
theorem isItem_any (l : List (List UInt8)) (hl : FitsL l) (v : Value) (w : World) (hv : StrsV w v l) :
    Calls Tryz.prog 116 #[v] w fun e w' => e = .returned (.bool (l.all fun s => decide (s.length ≤ 200))) ∧ ∃ q, w' = w.drewN q := by
  have H := containsT_any 125 (fun s => decide (200 < s.length)) (fun s w h => isItem1_any s h w) (enters_of Tryz.func125 (by kernel_rfl) rfl) l hl v w hv
  have hd : (!l.any fun s => decide (200 < s.length)) = l.all fun s => decide (s.length ≤ 200) := by
    rw [List.not_any_eq_all_not]
    congr 1
    funext s
    by_cases h : s.length ≤ 200
    · rw [decide_eq_true h, decide_eq_false (by omega)]; rfl
    · rw [decide_eq_false h, decide_eq_true (by omega)]; rfl
  go_enter Tryz.func116, Tryz.ntmps116
  go_wp2_with (go_at_call 126; refine H.mono ?_; rintro e w' ⟨rfl, q, rfl⟩)
  go_ret
  exact ⟨rfl, q, rfl⟩
theorem sizes_any (b : Nat) (w : World) : Calls Tryz.prog 127 #[.pointer (some ⟨b, 0, none⟩)] w fun e w' => e = .returned (.func (.func 131) #[] #[.pointer (some ⟨w.heap.size, 0, none⟩)]) ∧ w.alloc (.cells #[.pointer (some ⟨b, 0, none⟩)] 120) = w' := by
  have hmf : ∀ (fn : Fn) (first cap : Array Value) (w : World), (Instr.makeFunc fn first cap).run Tryz.prog w = .ok (.func fn first cap) w := fun _ _ _ _ => rfl
  go_enter Tryz.func127, Tryz.ntmps127
  go_wp2
  go_ret
  exact ⟨rfl, rfl⟩
end Go.Proofs.YthclfkhakmcnbaaGreatDoor
/- Walks of layer 8: what items take. -/
namespace Go.Proofs.YthclfkhakmcnbaaGreatDoor
open Go.RowKit Go.Shelf
attribute [local go_sem] Oper.semAt_some
def sizesL (l : List (List UInt8)) : List Nat := l.map fun s => s.length + 1
theorem sizesL_len (l : List (List UInt8)) : (sizesL l).length = l.length := by simp [sizesL]
theorem sizesL_sum (l : List (List UInt8)) : (sizesL l).sum = takesL l := rfl
set_option maxRecDepth 100000 in
set_option maxHeartbeats 1000000 in
theorem sizes1_seq (n b ob m q : Nat) (l : List (List UInt8)) (hl : FitsL l) (h200 : ∀ s ∈ l, s.length ≤ 200) (mx : Int) (v : Value) (W : World) (hb : Boxed W b 120 (.pointer (some ⟨q, 0, none⟩))) (hq : W.cell? ⟨q, 0, none⟩ = some (.int .i64 mx)) (hq1 : W.cell? ⟨q, 1, none⟩ = some v) (hv : StrsV W v l) (hm : ∀ g o c k, v = .slice (some ⟨g, o, none⟩) k c → 0 < k → g < m ∧ g ≠ ob) :
    SeqG Fence.wide n Tryz.prog 131 #[.pointer (some ⟨b, 0, none⟩)] (fun d : Nat => #[Value.int .i64 d]) (fun A B => A = B) (keepK m ob) (fun xs _ => xs = sizesL l) (fun _ _ => True) l.length W := by
  intro lp J Jx hJ hJx hY h0
  have hc := hb.cell
  obtain ⟨a, cap, rfl, hcell⟩ := hv.at
  have hlm : l.length ≤ 1000000 := hl.1
  (refine callsIn_of_wp Tryz.func131 rfl trivial ?_ rfl; simp only [Tryz.ntmps131, List.size_toArray, List.length_cons, List.length_nil, Nat.reduceAdd, Nat.reduceSub, Array.replicate_succ, Array.replicate_zero, List.push_toArray, List.append_toArray, List.nil_append, List.cons_append])
  refine wpIn_scope_w ?_
  gi_wp2
  refine wpIn_label ?_
  gi_wp2
  clear hc hq hq1
  gi_loopw [4, 11] (fun _ t wr => ∃ k : Nat, k ≤ l.length ∧ t = .int .i64 k ∧ J ((sizesL l).take k) wr ∧ Hid (∀ i (hi : i < l.length), ∃ b o, a = some ⟨b, o, none⟩ ∧ wr.cell? ⟨b, o + i, none⟩ = some (.string ⟨l[i].toArray⟩))) (fun _ t wr => l.length - (intOf t).toNat)
  case atStart => exact ⟨0, Nat.zero_le _, rfl, h0, fun i hi => by obtain ⟨b, o, h1, _, h2⟩ := hcell i hi; exact ⟨b, o, h1, h2⟩⟩
  case round =>
    obtain ⟨k, hk, rfl, hj, hC⟩ := hrel
    by_cases hlt : k < l.length
    · have hltz : (k : Int) < (l.length : Int) := by omega
      obtain ⟨g, o, rfl, hcl⟩ := hC.out k hlt
      obtain ⟨hg1, hg2⟩ := hm g o cap l.length rfl (by omega)
      have hlen2 : ((sizesL l).take k).length < l.length := by rw [List.length_take, sizesL_len]; omega
      have hel := h200 l[k] (List.getElem_mem _)
      have hts : (sizesL l).take k ++ [l[k].length + 1] = (sizesL l).take (k + 1) := by rw [List.take_succ_eq_append_getElem (by rw [sizesL_len]; exact hlt)]; simp [sizesL]
      have hY1 := hY _ (l[k].length + 1) wr hj hlen2
      rw [hts] at hY1
      clear hlen2 hj hts
      obtain ⟨s, hs⟩ : ∃ s, l[k] = s := ⟨_, rfl⟩
      rw [hs] at hcl hel hY1
      clear hs
      have hz := ba_size s
      obtain ⟨fn, tmps, assign, body, hy, hR⟩ := hY1
      have hc1 : ((s.length + 1 : Nat) : Int) = (s.length : Int) + 1 := by simp
      rw [hc1] at hy
      have hRH := Lib.hid hR
      clear hR
      gi_wp2
      refine ⟨fun h => (by cases h), hRH.out.mono ?_⟩
      rintro e V (⟨rfl, hj3, hk3⟩ | ⟨rfl, hj3⟩)
      · gi_wp2
        go_roundw
        case rel =>
          refine ⟨k + 1, by omega, by go_num, hj3, fun i hi => ?_⟩
          obtain ⟨g', o', h1, h2⟩ := hC.out i hi
          obtain ⟨rfl, rfl⟩ : g = g' ∧ o = o' := by cases h1; exact ⟨rfl, rfl⟩
          exact ⟨g, o, rfl, (World.cell?_of_block (w := wr) (a := ⟨g, o + i, none⟩) (hk3 _ hg1 hg2)).trans h2⟩
        case measure => simp [intOf]; omega
      · gi_wp2
        simp only [Exit.noGoto_normal]
        go_end0
        exact ⟨⟨_, rfl⟩, .inr ⟨_, trivial, hj3⟩⟩
    · have hltz : ¬ (k : Int) < (l.length : Int) := by omega
      have hkl : k = l.length := by omega
      subst hkl
      rw [List.take_of_length_le (by rw [sizesL_len]; exact Nat.le_refl _)] at hj
      gi_wp2
      go_end0
      exact ⟨⟨_, rfl⟩, .inl hj⟩
theorem takes_le {l : List (List UInt8)} (h : ∀ s ∈ l, s.length ≤ 200) : takesL l ≤ l.length * 201 := by
  induction l with
  | nil => simp [takesL]
  | cons s l ih =>
    have h1 := h s (by simp)
    have h2 := ih fun t ht => h t (by simp [ht])
    have e : takesL (s :: l) = s.length + 1 + takesL l := rfl
    rw [e, List.length_cons, Nat.add_mul]; omega
def wsum (pre : List Nat) : Int := IntKind.i64.wrap (pre.sum : Nat)
theorem wsum_nil : wsum [] = 0 := by simp [wsum, IntKind.wrap_i64]
theorem wsum_snoc (pre : List Nat) (x : Nat) : IntKind.i64.wrap (wsum pre + (x : Int)) = wsum (pre ++ [x]) := by
  simp only [wsum, IntKind.wrap_i64, List.sum_append, List.sum_cons, List.sum_nil]; omega
theorem wsum_in (pre : List Nat) (h : pre.sum ≤ 201000000) : wsum pre = pre.sum := by unfold wsum; exact IntWalk.i64_in _ (by omega)
set_option maxRecDepth 100000 in
set_option maxHeartbeats 2000000 in
theorem used_any (q : Nat) (l : List (List UInt8)) (hl : FitsL l) (h200 : ∀ s ∈ l, s.length ≤ 200) (mx : Int) (v : Value) (w : World) (hq : w.cell? ⟨q, 0, none⟩ = some (.int .i64 mx)) (hq1 : w.cell? ⟨q, 1, none⟩ = some v) (hv : StrsV w v l) :
    Calls Tryz.prog 117 #[.pointer (some ⟨q, 0, none⟩)] w fun e w' => e = .returned (.int .i64 (takesL l)) ∧ Below w.heap.size w w' := by
  refine (callsIn_wide (n := 3)).1 ?_
  (refine callsIn_of_wp_marks Tryz.func117 rfl trivial ?_ rfl; simp only [Tryz.ntmps117, List.size_toArray, List.length_cons, List.length_nil, Nat.reduceAdd, Nat.reduceSub, Array.replicate_succ, Array.replicate_zero, List.push_toArray, List.append_toArray, List.nil_append, List.cons_append])
  gi_wp2_with (refine ⟨trivial, ?_⟩; gi_at_call 127; refine (callsIn_wide.2 (sizes_any q _)).mono ?_; rintro e w' ⟨rfl, rfl⟩)
  have o0 := Boxed.new w 3 (.int .i64 0)
  have q0 := Boxed.new (w.alloc (.cells #[.int .i64 0] 3)) 120 (.pointer (some ⟨q, 0, none⟩))
  rw [World.size_alloc] at q0
  have o1 := o0.alloc (.cells #[.pointer (some ⟨q, 0, none⟩)] 120)
  have hB0 : Below w.heap.size w ((w.alloc (.cells #[.int .i64 0] 3)).alloc (.cells #[.pointer (some ⟨q, 0, none⟩)] 120)) :=
    ((Below.refl _ w).alloc (Nat.le_refl _) _).alloc (by simp) _
  have hz0' : ((w.alloc (.cells #[.int .i64 0] 3)).alloc (.cells #[.pointer (some ⟨q, 0, none⟩)] 120)).heap.size = w.heap.size + 2 := by simp
  obtain ⟨W0, hW0⟩ : ∃ W0, (w.alloc (.cells #[.int .i64 0] 3)).alloc (.cells #[.pointer (some ⟨q, 0, none⟩)] 120) = W0 := ⟨_, rfl⟩
  rw [hW0] at o1 q0 hB0 hz0' ⊢
  clear hW0 o0
  rw [← wsum_nil] at o1
  have hlm := hl.1
  have hK0 := KeepC.of_below hB0
  have hqlt := World.block_lt_of_cell? w _ hq
  refine range_law rfl (by omega) (gf := 131) (lb := #[.pointer (some ⟨w.heap.size + 1, 0, none⟩)]) rfl trivial (enters_of Tryz.func131 (by kernel_rfl) rfl)
    (G := fun A B => A = B) (Kp := keepK (w.heap.size + 2) w.heap.size)
    (fun W hW _ => sizes1_seq _ (w.heap.size + 1) w.heap.size (w.heap.size + 2) q l hl h200 mx v W ((hW.block _ (by omega)).trans q0) ((KeepC.of_below hW).2 _ _ _ (hK0.2 _ _ _ hq)) ((KeepC.of_below hW).2 _ _ _ (hK0.2 _ _ _ hq1)) ((hv.keep hK0).keep (KeepC.of_below hW))
      (fun g o c k e hk => by
        have hlt : g < w.heap.size := by
          obtain ⟨a, cap, e2, hc⟩ := hv.at
          rw [e2] at e
          cases e
          obtain ⟨b, o', e3, hb, _⟩ := hc 0 hk
          cases e3
          exact hb
        omega)) keepK_t (by rw [hz0']; exact keepK_b) (fun A B h => by subst h; exact Keeps.refl _ _) (fun _ => rfl)
    (fun pre W => Boxed W w.heap.size 3 (.int .i64 (wsum pre)) ∧ Below w.heap.size w W ∧ w.heap.size + 2 ≤ W.heap.size) (fun _ _ _ => False)
    ((bears_boxed _ _ _ (fun pre => .int .i64 (wsum pre))).and ((bears_below (Nat.le_refl _) (by omega)).and (bears_size _ _))) (fun _ => bears_const _ _)
    (bears_const _ _) (bears_const _ _)
    (fun s A B h hg => by subst hg; exact h) (fun _ _ _ _ h _ => h)
    ⟨o1, hB0, by omega⟩
    (fun x => { tmps := #[.pointer (some ⟨q, 0, none⟩), undef, .int .i64 0, .pointer (some ⟨w.heap.size, 0, none⟩), .int .i64 x, .pointer (some ⟨q, 0, none⟩), .func (.func 131) #[] #[.pointer (some ⟨w.heap.size + 1, 0, none⟩)], .int .i64 x, undef, undef, undef, undef], defers := [] }) ?assign ?body ?done ?stop
  case assign =>
    intro lp x W K hK
    gi_wp2
    exact hK
  case body =>
    rintro lp pre x W ⟨hb, hB, hz⟩ hlen
    have hc := hb.cell
    have hf := hb.frozen
    have hws := wsum_snoc pre x
    have hbH := Lib.hid hb
    clear hb
    generalize wsum pre = y at hc hws hbH
    gi_wp2
    exact ⟨Keeps.setCell _ _ _ _ hbH.out, fun i _ ho => Below.heap_setCell _ _ _ _ ho, hbH.out.set _, hB.setCell (p := ⟨w.heap.size, 0, none⟩) (Nat.le_refl _) _, by rw [size_setCell]; exact hz⟩
  case done =>
    rintro D xs W hD rfl ⟨hb, hB, hz⟩ hK
    have hc := hb.cell
    have hend : Below w.heap.size w (W.putObj D (.deferred none)) := hB.trans (belowK_b (w := w) (Nat.le_refl _) W D _ _ (by omega) hK rfl rfl)
    rw [wsum_in _ (by rw [sizesL_sum]; have := takes_le h200; omega), sizesL_sum] at hc
    gi_wp2
    refine ⟨by simp, .inl ⟨_, _, rfl, run_takeDeferred hK, ?_⟩⟩
    refine ⟨_, results_tmp rfl _ _ _, rfl, hend⟩
  case stop =>
    rintro D c pre W _ _ h _
    exact h.elim
end Go.Proofs.YthclfkhakmcnbaaGreatDoor
/- Walks of layer 8: whether a ring is right, whether two are the same. -/
namespace Go.Proofs.YthclfkhakmcnbaaGreatDoor
open Go.RowKit Go.Shelf
attribute [local go_sem] Oper.semAt_some
abbrev errV8 (ea : Addr) : Value := .iface 174 (.pointer (some ea))
theorem ringB_hid (mx : Int) (l : List (List UInt8)) : ringB mx l = ((decide (0 ≤ mx) && decide (mx ≤ 2000)) && (l.all fun s => decide (s.length ≤ 200)) && decide ((takesL l : Int) ≤ mx)) := by simp [ringB]
set_option maxRecDepth 100000 in
set_option maxHeartbeats 1000000 in
theorem checked8_any (q : Nat) (l : List (List UInt8)) (hl : FitsL l) (mx : Int) (v : Value) (ea : Addr) (w : World) (hge : w.cell? ⟨0, 0, none⟩ = some (errV8 ea)) (hq : w.cell? ⟨q, 0, none⟩ = some (.int .i64 mx)) (hq1 : w.cell? ⟨q, 1, none⟩ = some v) (hv : StrsV w v l) :
    Calls Tryz.prog 105 #[.pointer (some ⟨q, 0, none⟩)] w fun e w' => e = .returned (if ringB mx l then .nilIface else errV8 ea) ∧ Below w.heap.size w w' := by
  have hkd : KeepC w w.drew := ⟨Nat.le_refl _, fun _ _ _ h => h⟩
  have HM := isMax_any mx
  have HI := fun W (h : KeepC w W) => isItem_any l hl v W (hv.keep h)
  rw [ringB_hid]
  generalize hm : (decide (0 ≤ mx) && decide (mx ≤ 2000)) = m at HM ⊢
  clear hm
  generalize hi : (l.all fun s => decide (s.length ≤ 200)) = i at HI ⊢
  have hql := World.block_lt_of_cell? w _ hq
  have hgl := World.block_lt_of_cell? w _ hge
  have kq : ∀ (W : World), Below w.heap.size w W → W.cell? ⟨q, 0, none⟩ = some (.int .i64 mx) ∧ W.cell? ⟨q, 1, none⟩ = some v ∧ W.cell? ⟨0, 0, none⟩ = some (errV8 ea) := fun W hb => ⟨(KeepC.of_below hb).2 _ _ _ hq, (KeepC.of_below hb).2 _ _ _ hq1, (KeepC.of_below hb).2 _ _ _ hge⟩
  cases m with
  | false =>
    clear HI hv hi
    go_enter Tryz.func105, Tryz.ntmps105
    go_wp2_with fail
    go_quiet (first | (go_at_call 96; refine Calls.quiet_of_same (HM _)))
    go_wp2
    go_ret
    exact ⟨rfl, below_drewN (Below.refl _ _) _⟩
  | true =>
    cases i with
    | false =>
      have HI2 := fun n => HI (w.drewN n) (KeepC.drewN w n)
      clear hi HI hv kq
      go_enter Tryz.func105, Tryz.ntmps105
      go_wp2_with fail
      go_quiet (first | (go_at_call 96; refine Calls.quiet_of_same (HM _)) | (go_at_call 116; refine Calls.quiet_of (HI2 _)))
      go_wp2
      go_ret
      exact ⟨rfl, below_drewN (Below.refl _ _) _⟩
    | true =>
      have h200 : ∀ s ∈ l, s.length ≤ 200 := fun s hs => by simpa using List.all_eq_true.1 hi s hs
      have HU := fun W (h : Below w.heap.size w W) => used_any q l hl h200 mx v W (kq W h).1 (kq W h).2.1 (hv.keep (KeepC.of_below h))
      clear hi
      generalize hR : (if (true && true && decide ((takesL l : Int) ≤ mx)) = true then Value.nilIface else errV8 ea) = R
      have HR := Lib.hid hR
      clear hR
      go_enter Tryz.func105, Tryz.ntmps105
      go_wp2_with fail
      go_region_held3 (fun u => u.cell? ⟨q, 0, none⟩ = some (.int .i64 mx) ∧ u.cell? ⟨q, 1, none⟩ = some v ∧ u.cell? ⟨0, 0, none⟩ = some (errV8 ea)) (first | go_keep | exact kk1 | exact kk2)
        (first
          | (go_at_call 96; (with_reducible refine (HM _).mono ?_); rintro e w1 ⟨rfl, rfl⟩)
          | (go_at_call 116; go_must (with_reducible refine (HI w.drew hkd).mono ?_); rintro e w2 ⟨rfl, n2, rfl⟩; have hbb := below_drewN (Below.refl w.heap.size w) (1 + n2); have kk1 := kq _ hbb)
          | (go_at_call 117; (with_reducible refine (HU _ hbb).mono ?_); rintro e w3 ⟨rfl, hb3⟩; have hb4 := hbb.trans (hb3.mono hbb.size); have kk2 := kq w3 hb4))
      obtain ⟨-, -, kge⟩ := kk2
      by_cases ht : (takesL l : Int) ≤ mx
      · have ht' : decide (mx < (takesL l : Int)) = false := decide_eq_false (by omega)
        rw [ht']
        go_wp2_with fail
        go_ret
        exact ⟨by rw [← HR.out, decide_eq_true ht]; rfl, hb4⟩
      · have ht' : decide (mx < (takesL l : Int)) = true := decide_eq_true (by omega)
        rw [ht']
        go_wp2_with fail
        go_ret
        exact ⟨by rw [← HR.out, decide_eq_false (by omega)]; rfl, hb4⟩
abbrev ringV (mx : Int) (v : Value) : Value := .agg #[.int .i64 mx, v]
set_option maxHeartbeats 1000000 in
theorem ringRight_any (l : List (List UInt8)) (hl : FitsL l) (mx : Int) (v : Value) (ea : Addr) (w : World) (hge : w.cell? ⟨0, 0, none⟩ = some (errV8 ea)) (hv : StrsV w v l) :
    Calls Tryz.prog 101 #[ringV mx v] w fun e w' => e = .returned (.bool (ringB mx l)) ∧ Below w.heap.size w w' := by
  have hB1 := ((Below.refl w.heap.size w).alloc (Nat.le_refl _) (.cells #[.int .i64 mx, v] 46)).alloc (by simp) (.cells #[.int .i64 mx, v] 126)
  have b1 := Blk.new (w.alloc (.cells #[.int .i64 mx, v] 46)) #[.int .i64 mx, v] 126
  rw [World.size_alloc] at b1
  have H := checked8_any (w.heap.size + 1) l hl mx v ea _ ((KeepC.of_below hB1).2 _ _ _ hge) ((b1.cell 0).trans rfl) ((b1.cell 1).trans rfl) (hv.keep (KeepC.of_below hB1))
  generalize ringB mx l = r at H ⊢
  have H := Lib.hid H
  clear hv b1
  go_enter Tryz.func101, Tryz.ntmps101
  go_wp2_with fail
  refine H.out.mono ?_
  rintro e w2 ⟨rfl, hb2⟩
  have hB2 := hB1.trans (hb2.mono hB1.size)
  clear H hge
  cases r with
  | true =>
    go_wp2_with fail
    go_ret
    exact ⟨rfl, hB2⟩
  | false =>
    go_wp2_with fail
    go_ret
    exact ⟨rfl, hB2⟩
end Go.Proofs.YthclfkhakmcnbaaGreatDoor
/- Walks of layer 8: whether two rings are the same. -/
namespace Go.Proofs.YthclfkhakmcnbaaGreatDoor
open Go.RowKit Go.Shelf
attribute [local go_sem] Oper.semAt_some
theorem take_same {α : Type} [BEq α] [LawfulBEq α] {l m : List α} (hlen : l.length = m.length) (k : Nat) (hk : k < l.length) (hk2 : k < m.length) (h : l.take k = m.take k) (he : l[k] = m[k]) : l.take (k + 1) = m.take (k + 1) := by
  rw [List.take_succ_eq_append_getElem hk, List.take_succ_eq_append_getElem hk2, h, he]
theorem ne_at {α : Type} {l m : List α} (k : Nat) (hk : k < l.length) (hk2 : k < m.length) (he : l[k] ≠ m[k]) : l ≠ m := fun e => by subst e; exact he rfl
set_option maxRecDepth 100000 in
set_option maxHeartbeats 2000000 in
theorem equalT_any (l m : List (List UInt8)) (hl : FitsL l) (hm : FitsL m) (v u : Value) (w : World) (hv : StrsV w v l) (hu : StrsV w u m) :
    Calls Tryz.prog 103 #[v, u] w fun e w' => e = .returned (.bool (l == m)) ∧ ∃ q, w' = w.drewN q := by
  obtain ⟨a, cap, rfl, hc⟩ := hv.at
  obtain ⟨a2, cap2, rfl, hc2⟩ := hu.at
  have hlm : l.length ≤ 1000000 := hl.1
  have hmm : m.length ≤ 1000000 := hm.1
  by_cases hlen : l.length = m.length
  · rw [← hlen]
    have hlH := Lib.hid hlen
    generalize hR : (l == m) = R
    have HR := Lib.hid hR
    clear hR hv hu
    have hc2' : ∀ i (hi : i < l.length), ∃ y b o, m[i]? = some y ∧ a2 = some ⟨b, o, none⟩ ∧ w.cell? ⟨b, o + i, none⟩ = some (.string ⟨y.toArray⟩) := fun i hi => by
      have h2 : i < m.length := by omega
      obtain ⟨b, o, e1, _, e2⟩ := hc2 i h2
      exact ⟨m[i], b, o, List.getElem?_eq_getElem h2, e1, e2⟩
    clear hc2 hlen
    go_enter Tryz.func103, Tryz.ntmps103
    go_wp2
    go_loopg [5, 13] l.length (fun gg _ s13 wr => ∃ kk q : Nat, kk ≤ l.length ∧ l.length - kk ≤ gg ∧ s13 = .int .i64 kk ∧ wr = w.drewN q ∧ Aside (l.take kk = m.take kk))
    case atStart => exact ⟨0, 0, Nat.zero_le _, by omega, rfl, rfl, rfl⟩
    case round =>
      obtain ⟨kk, q, hkk, hg, rfl, rfl, A⟩ := hrel
      by_cases hlt : kk < l.length
      · have hltz : (kk : Int) < (l.length : Int) := by omega
        obtain ⟨b, o, rfl, -, hcell⟩ := hc kk hlt
        obtain ⟨y, b2, o2, hy, rfl, hcell2⟩ := hc2' kk hlt
        have hk2 : kk < m.length := by rw [← hlH.out]; exact hlt
        have hyes : l[kk] = y → l.take (kk + 1) = m.take (kk + 1) := fun h => take_same hlH.out kk hlt hk2 A.out (by rw [h]; rw [List.getElem?_eq_getElem hk2] at hy; injection hy with hy; exact hy.symm)
        have hno : l[kk] ≠ y → l ≠ m := fun h => ne_at kk hlt hk2 (by rw [List.getElem?_eq_getElem hk2] at hy; injection hy with hy; rw [hy]; exact h)
        clear hc hc2' hy hk2
        generalize l[kk] = x at hcell hyes hno
        by_cases hxy : x = y
        · clear hno
          have HY := Lib.hid (hyes hxy)
          clear hyes
          subst hxy
          go_wp2_with fail
          go_quiet (fail)
          go_wp2_with fail
          go_roundg (l.length - (kk + 1))
          case measure => omega
          case rel => exact ⟨kk + 1, _, by omega, by omega, by go_num, rfl, (show Aside _ from HY.out)⟩
        · have hne : (x == y) = false := beq_false_of_ne hxy
          have HN := Lib.hid (hno hxy)
          clear hyes hno
          go_wp2_with fail
          go_quiet (fail)
          go_wp2_with fail
          go_ret
          refine ⟨?_, _, World.drewN_drewN _ _ _⟩
          rw [← HR.out, beq_false_of_ne HN.out]; rfl
      · have hltz : ¬ (kk : Int) < (l.length : Int) := by omega
        have hk : kk = l.length := by omega
        have hA := A.out
        rw [hk, List.take_length, List.take_of_length_le (by rw [hlH.out]; exact Nat.le_refl _)] at hA
        have HA := Lib.hid hA
        clear hA hc hc2'
        go_wp2
        go_ret
        refine ⟨?_, _, rfl⟩
        rw [← HR.out, HA.out]; simp
  · have hne : (l == m) = false := beq_false_of_ne fun e => hlen (by rw [e])
    rw [hne]
    clear hv hu hc hc2
    have hz : ¬ (l.length : Int) = (m.length : Int) := by omega
    go_enter Tryz.func103, Tryz.ntmps103
    go_wp2
    go_ret
    exact ⟨rfl, 0, rfl⟩
theorem equalT_below {l m : List (List UInt8)} {v u : Value} {w : World} (h : Calls Tryz.prog 103 #[v, u] w fun e w' => e = .returned (.bool (l == m)) ∧ ∃ q, w' = w.drewN q) : Calls Tryz.prog 103 #[v, u] w fun e w' => e = .returned (.bool (l == m)) ∧ Below w.heap.size w w' :=
  h.mono fun _ _ ⟨h1, q, h2⟩ => ⟨h1, by rw [h2]; exact below_drewN (Below.refl _ _) _⟩
set_option maxHeartbeats 1000000 in
theorem ringSame_any (l m : List (List UInt8)) (hl : FitsL l) (hm : FitsL m) (a b : Int) (v u : Value) (w : World) (hv : StrsV w v l) (hu : StrsV w u m) :
    Calls Tryz.prog 76 #[ringV a v, ringV b u] w fun e w' => e = .returned (.bool (a == b && l == m)) ∧ Below w.heap.size w w' := by
  have hB1 := ((Below.refl w.heap.size w).alloc (Nat.le_refl _) (.cells #[.int .i64 a, v] 46)).alloc (by simp) (.cells #[.int .i64 b, u] 46)
  have HE := equalT_any l m hl hm v u ((w.alloc (.cells #[.int .i64 a, v] 46)).alloc (.cells #[.int .i64 b, u] 46)) (hv.keep (KeepC.of_below hB1)) (hu.keep (KeepC.of_below hB1))
  generalize (l == m) = r at HE ⊢
  clear hv hu
  by_cases hab : a = b
  · subst hab
    rw [beq_self_eq_true, Bool.true_and]
    go_enter Tryz.func76, Tryz.ntmps76
    go_wp2_with fail
    refine HE.mono ?_
    rintro e w2 ⟨rfl, q, rfl⟩
    go_wp2_with fail
    go_ret
    exact ⟨rfl, below_drewN hB1 _⟩
  · have hd : (a == b) = false := beq_false_of_ne hab
    rw [hd, Bool.false_and]
    clear HE
    go_enter Tryz.func76, Tryz.ntmps76
    go_wp2_with fail
    go_ret
    exact ⟨rfl, hB1⟩
end Go.Proofs.YthclfkhakmcnbaaGreatDoor
/- Walks of layer 8's reference: texts, what they take, whether a ring is right. -/
namespace Go.Proofs.YthclfkhakmcnbaaGreatDoor
open Go.RowKit Go.Shelf
attribute [local go_sem] Oper.semAt_some
set_option maxRecDepth 100000 in
set_option maxHeartbeats 2000000 in
theorem texts_any (l m : List (List UInt8)) (hl : FitsL l) (hm : FitsL m) (v u : Value) (w : World) (hv : StrsV w v l) (hu : StrsV w u m) :
    Calls Tryz.prog 33 #[v, u] w fun e w' => e = .returned (.bool (l == m)) ∧ ∃ q, w' = w.drewN q := by
  obtain ⟨a, cap, rfl, hc⟩ := hv.at
  obtain ⟨a2, cap2, rfl, hc2⟩ := hu.at
  have hlm : l.length ≤ 1000000 := hl.1
  have hmm : m.length ≤ 1000000 := hm.1
  by_cases hlen : l.length = m.length
  · rw [← hlen]
    have hlH := Lib.hid hlen
    generalize hR : (l == m) = R
    have HR := Lib.hid hR
    clear hR hv hu
    have hc2' : ∀ i (hi : i < l.length), ∃ y b o, m[i]? = some y ∧ a2 = some ⟨b, o, none⟩ ∧ w.cell? ⟨b, o + i, none⟩ = some (.string ⟨y.toArray⟩) := fun i hi => by
      have h2 : i < m.length := by omega
      obtain ⟨b, o, e1, _, e2⟩ := hc2 i h2
      exact ⟨m[i], b, o, List.getElem?_eq_getElem h2, e1, e2⟩
    clear hc2 hlen
    go_enter Tryz.func33, Tryz.ntmps33
    go_wp2
    go_loopg [5] l.length (fun gg s13 wr => ∃ kk q : Nat, kk ≤ l.length ∧ l.length - kk ≤ gg ∧ s13 = .int .i64 kk ∧ wr = w.drewN q ∧ Aside (l.take kk = m.take kk))
    case atStart => exact ⟨0, 0, Nat.zero_le _, by omega, rfl, rfl, rfl⟩
    case round =>
      obtain ⟨kk, q, hkk, hg, rfl, rfl, A⟩ := hrel
      by_cases hlt : kk < l.length
      · have hltz : (kk : Int) < (l.length : Int) := by omega
        obtain ⟨b, o, rfl, -, hcell⟩ := hc kk hlt
        obtain ⟨y, b2, o2, hy, rfl, hcell2⟩ := hc2' kk hlt
        have hk2 : kk < m.length := by rw [← hlH.out]; exact hlt
        have hyes : l[kk] = y → l.take (kk + 1) = m.take (kk + 1) := fun h => take_same hlH.out kk hlt hk2 A.out (by rw [h]; rw [List.getElem?_eq_getElem hk2] at hy; injection hy with hy; exact hy.symm)
        have hno : l[kk] ≠ y → l ≠ m := fun h => ne_at kk hlt hk2 (by rw [List.getElem?_eq_getElem hk2] at hy; injection hy with hy; rw [hy]; exact h)
        clear hc hc2' hy hk2
        generalize l[kk] = x at hcell hyes hno
        by_cases hxy : x = y
        · clear hno
          have HY := Lib.hid (hyes hxy)
          clear hyes
          subst hxy
          go_wp2_with fail
          go_quiet (fail)
          go_wp2_with fail
          go_roundg (l.length - (kk + 1))
          case measure => omega
          case rel => exact ⟨kk + 1, _, by omega, by omega, by go_num, rfl, (show Aside _ from HY.out)⟩
        · have hne : (x == y) = false := beq_false_of_ne hxy
          have HN := Lib.hid (hno hxy)
          clear hyes hno
          go_wp2_with fail
          go_quiet (fail)
          go_wp2_with fail
          go_ret
          refine ⟨?_, _, World.drewN_drewN _ _ _⟩
          rw [← HR.out, beq_false_of_ne HN.out]; rfl
      · have hltz : ¬ (kk : Int) < (l.length : Int) := by omega
        have hk : kk = l.length := by omega
        have hA := A.out
        rw [hk, List.take_length, List.take_of_length_le (by rw [hlH.out]; exact Nat.le_refl _)] at hA
        have HA := Lib.hid hA
        clear hA hc hc2'
        go_wp2
        go_ret
        refine ⟨?_, _, rfl⟩
        rw [← HR.out, HA.out]; simp
  · have hne : (l == m) = false := beq_false_of_ne fun e => hlen (by rw [e])
    rw [hne]
    clear hv hu hc hc2
    have hz : ¬ (l.length : Int) = (m.length : Int) := by omega
    go_enter Tryz.func33, Tryz.ntmps33
    go_wp2
    go_ret
    exact ⟨rfl, 0, rfl⟩
theorem takes_snoc (a : List (List UInt8)) (s : List UInt8) : takesL (a ++ [s]) = takesL a + s.length + 1 := by simp [takesL]; omega
set_option maxRecDepth 100000 in
set_option maxHeartbeats 2000000 in
theorem takes_any (l : List (List UInt8)) (hl : FitsL l) (h200 : ∀ s ∈ l, s.length ≤ 200) (v : Value) (w : World) (hv : StrsV w v l) :
    Calls Tryz.prog 107 #[v] w fun e w' => e = .returned (.int .i64 (takesL l)) ∧ w' = w := by
  obtain ⟨a, cap, rfl, hc⟩ := hv.at
  have hlm : l.length ≤ 1000000 := hl.1
  clear hv
  go_enter Tryz.func107, Tryz.ntmps107
  go_wp2
  go_loopg [3, 4] l.length (fun gg s3 s4 wr => ∃ kk : Nat, kk ≤ l.length ∧ l.length - kk ≤ gg ∧ s3 = .int .i64 (takesL (l.take kk)) ∧ s4 = .int .i64 kk ∧ wr = w)
  case atStart => exact ⟨0, Nat.zero_le _, by omega, rfl, rfl, rfl⟩
  case round =>
    obtain ⟨kk, hkk, hg, rfl, rfl, rfl⟩ := hrel
    by_cases hlt : kk < l.length
    · have hltz : (kk : Int) < (l.length : Int) := by omega
      obtain ⟨b, o, rfl, -, hcell⟩ := hc kk hlt
      have hel := h200 l[kk] (List.getElem_mem _)
      have hts : takesL (l.take (kk + 1)) = takesL (l.take kk) + l[kk].length + 1 := by
        rw [List.take_succ_eq_append_getElem hlt, takes_snoc]
      have htl : takesL (l.take kk) ≤ 201000000 := by
        have h1 := takes_le (l := l.take kk) fun s hs => h200 s (List.mem_of_mem_take hs)
        have h2 : (l.take kk).length ≤ 1000000 := by rw [List.length_take]; omega
        omega
      clear hc
      obtain ⟨T, hT⟩ : ∃ T, takesL (l.take (kk + 1)) = T := ⟨_, rfl⟩
      have HT := Lib.hid hT
      rw [hT] at hts
      clear hT
      generalize takesL (l.take kk) = t at hts htl ⊢
      generalize l[kk] = s at hcell hel hts
      have hz := ba_size s
      have hw1 : IntKind.i64.wrap ((t : Int) + s.length) = t + s.length := IntWalk.i64_in _ (by omega)
      have hw2 : IntKind.i64.wrap ((t : Int) + s.length + 1) = T := by rw [IntWalk.i64_in _ (by omega)]; omega
      clear hts
      go_wp2
      go_roundg (l.length - (kk + 1))
      case measure => omega
      case rel => exact ⟨kk + 1, by omega, by omega, by rw [HT.out], by go_num, rfl⟩
    · have hltz : ¬ (kk : Int) < (l.length : Int) := by omega
      have hk : kk = l.length := by omega
      subst hk
      clear hc
      rw [List.take_length]
      go_wp2
      go_ret
      exact ⟨rfl, rfl⟩
end Go.Proofs.YthclfkhakmcnbaaGreatDoor
/- Walks of layer 8's reference: whether a ring is right, whether two are the same. -/
namespace Go.Proofs.YthclfkhakmcnbaaGreatDoor
open Go.RowKit Go.Shelf
attribute [local go_sem] Oper.semAt_some
theorem ringB_eq (mx : Int) (l : List (List UInt8)) : ringB mx l = ((l.all fun s => decide (s.length ≤ 200)) && (decide (0 ≤ mx) && (decide (mx ≤ 2000) && decide ((takesL l : Int) ≤ mx)))) := by
  unfold ringB
  cases (l.all fun s => decide (s.length ≤ 200)) <;> simp [Bool.and_assoc]
set_option maxRecDepth 100000 in
set_option maxHeartbeats 2000000 in
theorem ringRightR_any (l : List (List UInt8)) (hl : FitsL l) (mx : Int) (v : Value) (w : World) (hv : StrsV w v l) :
    Calls Tryz.prog 102 #[ringV mx v] w fun e w' => e = .returned (.bool (ringB mx l)) ∧ Below w.heap.size w w' := by
  have hB1 := (Below.refl w.heap.size w).alloc (Nat.le_refl _) (.cells #[.int .i64 mx, v] 46)
  have b1 := Blk.new w #[.int .i64 mx, v] 46
  have hv1 := hv.keep (KeepC.of_below hB1)
  obtain ⟨a, cap, rfl, hc⟩ := hv1.at
  have hlm : l.length ≤ 1000000 := hl.1
  have c0 : (w.alloc (.cells #[.int .i64 mx, .slice a l.length cap] 46)).cell? ⟨w.heap.size, 0, none⟩ = _ := b1.cell 0
  have c1 : (w.alloc (.cells #[.int .i64 mx, .slice a l.length cap] 46)).cell? ⟨w.heap.size, 1, none⟩ = _ := b1.cell 1
  generalize hR : ringB mx l = R
  rw [ringB_eq] at hR
  have HR := Lib.hid hR
  have hV1 := Lib.hid hv1
  clear hR hv b1 hv1
  obtain ⟨W1, hW1⟩ : ∃ W1, W1 = w.alloc (.cells #[.int .i64 mx, .slice a l.length cap] 46) := ⟨_, rfl⟩
  rw [← hW1] at c0 c1 hc hB1 hV1
  go_enter Tryz.func102, Tryz.ntmps102
  go_wp2_with fail
  rw [← hW1]
  clear hW1
  go_loopg [3] l.length (fun gg s3 wr => ∃ kk : Nat, kk ≤ l.length ∧ l.length - kk ≤ gg ∧ s3 = .int .i64 kk ∧ wr = W1 ∧ Aside (∀ s ∈ l.take kk, s.length ≤ 200))
  case atStart => exact ⟨0, Nat.zero_le _, by omega, rfl, rfl, (show Aside _ from fun s hs => by simp at hs)⟩
  case round =>
    obtain ⟨kk, hkk, hg, rfl, rfl, A⟩ := hrel
    by_cases hlt : kk < l.length
    · have hltz : (kk : Int) < (l.length : Int) := by omega
      obtain ⟨b, o, rfl, -, hcell⟩ := hc kk hlt
      have hall : l[kk].length ≤ 200 → ∀ s ∈ l.take (kk + 1), s.length ≤ 200 := fun h s hs => by
        rw [List.take_succ_eq_append_getElem hlt, List.mem_append] at hs
        rcases hs with hs | hs
        · exact A.out s hs
        · rw [List.mem_singleton.1 hs]; exact h
      have hno : ¬ l[kk].length ≤ 200 → (l.all fun s => decide (s.length ≤ 200)) = false := fun h => by
        rw [List.all_eq_false]; exact ⟨_, List.getElem_mem hlt, by simpa using h⟩
      have hel := hl.2 l[kk] (List.getElem_mem _)
      clear hc
      generalize l[kk] = s at hcell hall hno hel
      have hz := ba_size s
      have hsm : s.length ≤ 9223372036854775807 := Nat.le_trans hel (by decide)
      by_cases h2 : s.length ≤ 200
      · have HA := Lib.hid (hall h2)
        clear hall hno hel
        go_wp2
        go_roundg (l.length - (kk + 1))
        case measure => omega
        case rel => exact ⟨kk + 1, by omega, by omega, by go_num, rfl, (show Aside _ from HA.out)⟩
      · have HN := Lib.hid (hno h2)
        clear hall hno hel
        go_wp2
        go_ret
        refine ⟨?_, hB1⟩
        rw [← HR.out, HN.out]; rfl
    · have hltz : ¬ (kk : Int) < (l.length : Int) := by omega
      have hk : kk = l.length := by omega
      subst hk
      have h200 := A.out
      rw [List.take_length] at h200
      have H200 := Lib.hid h200
      have hall : (l.all fun s => decide (s.length ≤ 200)) = true := List.all_eq_true.2 fun s hs => by simpa using h200 s hs
      have HR2 : Hid ((decide (0 ≤ mx) && (decide (mx ≤ 2000) && decide ((takesL l : Int) ≤ mx))) = R) := by
        show _ = _; rw [← HR.out, hall]; rfl
      clear HR hall h200 A hc hkk
      have HT := fun n => takes_any l hl H200.out _ (wr.drewN n) (hV1.out.keep (KeepC.drewN wr n))
      clear hV1 H200 hl hlm hg
      by_cases h0 : 0 ≤ mx
      · by_cases h1 : mx ≤ 2000
        · go_wp2_with fail
          go_quiet (first | (go_at_call 107; refine Calls.quiet_of_same (HT _)))
          go_wp2_with fail
          go_ret
          refine ⟨?_, below_drewN hB1 _⟩
          rw [← HR2.out, decide_eq_true h0, decide_eq_true h1]; rfl
        · have h1' : decide (mx ≤ 2000) = false := decide_eq_false h1
          go_wp2_with fail
          go_quiet (fail)
          go_wp2_with fail
          go_ret
          refine ⟨?_, below_drewN hB1 _⟩
          rw [← HR2.out, decide_eq_true h0, h1']; rfl
      · have h0' : decide (0 ≤ mx) = false := decide_eq_false h0
        go_wp2_with fail
        go_quiet (fail)
        go_wp2_with fail
        go_ret
        refine ⟨?_, below_drewN hB1 _⟩
        rw [← HR2.out, h0']; rfl
set_option maxHeartbeats 1000000 in
theorem ringSameR_any (l m : List (List UInt8)) (hl : FitsL l) (hm : FitsL m) (a b : Int) (v u : Value) (w : World) (hv : StrsV w v l) (hu : StrsV w u m) :
    Calls Tryz.prog 95 #[ringV a v, ringV b u] w fun e w' => e = .returned (.bool (a == b && l == m)) ∧ Below w.heap.size w w' := by
  have hB1 := ((Below.refl w.heap.size w).alloc (Nat.le_refl _) (.cells #[.int .i64 a, v] 46)).alloc (by simp) (.cells #[.int .i64 b, u] 46)
  have HE := texts_any l m hl hm v u ((w.alloc (.cells #[.int .i64 a, v] 46)).alloc (.cells #[.int .i64 b, u] 46)) (hv.keep (KeepC.of_below hB1)) (hu.keep (KeepC.of_below hB1))
  generalize (l == m) = r at HE ⊢
  clear hv hu
  by_cases hab : a = b
  · subst hab
    rw [beq_self_eq_true, Bool.true_and]
    go_enter Tryz.func95, Tryz.ntmps95
    go_wp2_with fail
    refine HE.mono ?_
    rintro e w2 ⟨rfl, q, rfl⟩
    go_wp2_with fail
    go_ret
    exact ⟨rfl, below_drewN hB1 _⟩
  · have hd : (a == b) = false := beq_false_of_ne hab
    rw [hd, Bool.false_and]
    clear HE
    go_enter Tryz.func95, Tryz.ntmps95
    go_wp2_with fail
    go_ret
    exact ⟨rfl, hB1⟩
end Go.Proofs.YthclfkhakmcnbaaGreatDoor
