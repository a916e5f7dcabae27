/- A law for 'for x := range seq' where the iterator keeps a state of its own in cells (a reader, a counter): the iterator's own steps are a relation G that the caller's invariant must bear. On no program. -/
import Derived.Test.YtgobdhedeodpiaaDoorKit
import Derived.RangeFuncNested
import Derived.RangeFuncBound
import Derived.RangeFuncCalls
import Derived.RangeFuncLeaves
import Derived.RangeFuncBox
import Derived.Shelf.Abstract
import Derived.Shelf.RegionOpen
import Derived.OwnWalkIn
import Derived.TacticsInMore
import Derived.LoopNIn
import Derived.LoopIn
import Derived.Maps.AppendAt
import Derived.WalkMore
namespace Go.Proofs.YtgobdhedeodpiaaDoor
open Go.RowKit

/-- The iterator's promise: whatever invariant J the caller has that bears the iterator's own steps G, it calls yield on one x after another, and ends having S (all came) or Sp (a round said no more). -/
def SeqG {α : Type} (F : Fence) (n : Nat) (P : Program) (g : Nat) (lb : Array Value) (encs : α → Array Value) (G Kp : World → World → Prop) (S Sp : List α → World → Prop) (N : Nat) (W : World) : Prop :=
  ∀ (l : Nat) (J Jx : List α → World → Prop), (∀ s A B, J s A → G A B → J s B) → (∀ s A B, Jx s A → G A B → Jx s B) →
    (∀ pre x V, J pre V → pre.length < N → YieldAt F (n - 1) P l (encs x) V fun e V' =>
      (e = .returned (.bool true) ∧ J (pre ++ [x]) V' ∧ Kp V V') ∨ (e = .returned (.bool false) ∧ Jx (pre ++ [x]) V')) →
    J [] W →
    CallsIn F n P g (#[.func (.yield l) #[] #[]] ++ lb) W fun e V => (∃ v, e = .returned v) ∧ ((∃ xs, S xs V ∧ J xs V) ∨ (∃ pre, Sp pre V ∧ Jx pre V))

/-- A relation on worlds that bears the turn of any block that is not of cells from B on, and new blocks. -/
def Bears {β : Type} (B : Nat) (I : β → World → Prop) : Prop :=
  (∀ s W l o o', I s W → B ≤ l → W.heap[l]? = some o → o.isCells = false → I s (W.putObj l o')) ∧ (∀ s W o, I s W → I s (W.alloc o))

/-- What a round's body must keep from block B on: whatever is no cells. -/
def Keeps (B : Nat) (W W' : World) : Prop := ∀ (k : Nat) (o : Obj), B ≤ k → W.heap[k]? = some o → o.isCells = false → W'.heap[k]? = some o

def outOf {α : Type} (B : Nat) (Kp : World → World → Prop) (I : List α → World → Prop) (Ix : Code → List α → World → Prop) (xs : List α) (W : World) : Exit → Act → World → Prop
  | .normal, _, W' => Keeps B W W' ∧ Kp W W' ∧ I xs W'
  | .ret, _, W' => Keeps B W W' ∧ Ix .ret xs W'
  | .exit id, _, W' => Keeps B W W' ∧ Ix (.exit id) xs W'
  | .goto t, _, W' => Keeps B W W' ∧ Ix (.goto t) xs W'
  | .panic _, _, _ => False
  | .outgrown, _, _ => False

variable {F : Fence} {n : Nat} {P : Program}

theorem range_law {α : Type} {g : Operand} {ps : Array Tmp} {assign body : Code} {Q : Exit → Act → World → Prop} {a : Act} {w : World}
    (hro : F.round = none) (h1 : 1 ≤ n) {gf : Nat} {lb : Array Value} (hg : a.eval g = .func (.func gf) #[] lb) (hFg : F.fn gf) (eg : ∀ args w, (callFunc gf args).run P w = .ok (.enter gf args) w)
    {encs : α → Array Value} {G Kp : World → World → Prop} {S Sp : List α → World → Prop} {N : Nat}
    (hseq : ∀ W, Below w.heap.size w W → W.heap.size = w.heap.size + 2 → SeqG F (n - 1) P gf lb encs G Kp S Sp N W)
    (hKt : ∀ {A B C : World}, Kp A B → Kp B C → Kp A C) (hKb : ∀ W l o o', w.heap.size ≤ l → W.heap[l]? = some o → o.isCells = false → Kp W (W.putObj l o'))
    (hGk : ∀ A B, G A B → Keeps w.heap.size A B) (hps : ∀ x, (encs x).size = ps.size)
    (I : List α → World → Prop) (Ix : Code → List α → World → Prop) (hI : Bears w.heap.size I) (hIx : ∀ c, Bears w.heap.size (Ix c)) (hS : Bears w.heap.size S) (hSp : Bears w.heap.size Sp)
    (hIG : ∀ s A B, I s A → G A B → I s B) (hIxG : ∀ c s A B, Ix c s A → G A B → Ix c s B) (h0 : I [] w) (a₁ : α → Act)
    (hassign : ∀ (l : Nat) (x : α) (W : World) (K : Act → World → Prop), K (a₁ x) W →
      assign.wpIn (F.inRound l) (n - 1 - 1) P (Exit.then K (fun _ _ _ => False)) { tmps := (ps.zip (encs x)).foldl (fun t (p, v) => t.setIfInBounds p v) a.tmps, defers := [] } W)
    (hbody : ∀ (l : Nat) (pre : List α) (x : α) (W : World), I pre W → pre.length < N → body.wpIn (F.inRound l) (n - 1 - 1) P (outOf w.heap.size Kp I Ix (pre ++ [x]) W) (a₁ x) W)
    (hdone : ∀ (D : Nat) (xs : List α) (W : World), w.heap.size ≤ D → S xs W → I xs W → W.heap[D]? = some (.deferred (some [])) → Q .normal { a with defers := { target := .collected D, args := #[] } :: a.defers } W)
    (hstop : ∀ (D : Nat) (c : Code) (pre : List α) (W : World), w.heap.size ≤ D → Sp pre W → Ix c pre W → W.heap[D]? = some (.deferred (some [])) → c.wpIn F n P Q { a with defers := { target := .collected D, args := #[] } :: a.defers } W) :
    (Code.rangeFunc g ps assign body).wpIn F n P Q a w := by
  refine wpIn_rangeFunc fun fn hfn => ?_
  rw [hro]
  generalize hD : w.heap.size = D at *
  obtain ⟨rec, hrec⟩ : ∃ rec : LoopState → Option Code → Loop, rec = fun st pe => { state := st, pending := pe, fn, tmps := a.tmps, params := ps, assign, body, defers := D } := ⟨_, rfl⟩
  have hst : ∀ st pe, (rec st pe).state = st := fun _ _ => by rw [hrec]
  have hpe : ∀ st pe, (rec st pe).pending = pe := fun _ _ => by rw [hrec]
  obtain ⟨W1, hW1⟩ : ∃ W1, (w.alloc (.deferred (some []))).alloc (.loop (rec .ready none)) = W1 := ⟨_, rfl⟩
  have hz : (w.alloc (.deferred (some []))).heap.size = D + 1 := by rw [World.size_alloc, hD]
  have hL : W1.heap[D + 1]? = some (.loop (rec .ready none)) := by rw [← hW1, ← hz]; exact World.alloc_heap_new _ _
  have hK : W1.heap[D]? = some (.deferred (some [])) := by
    rw [← hW1, Below.heap_alloc _ _ _ (by rw [hz]; omega), ← hD]; exact World.alloc_heap_new _ _
  have hsize : W1.heap.size = D + 2 := by rw [← hW1, World.size_alloc, hz]
  have hbel : Below D w W1 := by rw [← hW1]; exact ((Below.refl D w).alloc (by omega) _).alloc (by rw [hz]; omega) _
  have hI1 : I [] W1 := by rw [← hW1]; exact hI.2 _ _ _ (hI.2 _ _ _ h0)
  refine ⟨D + 1, [{ target := .collected D, args := #[] }], W1, { target := .fn (.func gf) lb, args := #[.func (.yield (D + 1)) #[] #[]] }, W1, gf,
    #[.func (.yield (D + 1)) #[] #[]] ++ lb, W1, ?enter, ?resolve, ?leads, ?invoke, fun _ => h1, ?call⟩
  case enter => rw [← hW1, hrec, ← hD]; exact run_enterLoop_outer _ _ _ _ _
  case resolve => simp only [resolve, hg]; simp [go_sem]
  case leads => intro f' hf'; simp [Target.leads] at hf'; subst hf'; exact hFg
  case invoke => simp [invoke, go_sem, eg]
  case call =>
    refine (hseq W1 hbel hsize (D + 1)
      (fun pre W => I pre W ∧ W.heap[D + 1]? = some (.loop (rec .ready none)) ∧ W.heap[D]? = some (.deferred (some [])))
      (fun pre W => ∃ c, Ix c pre W ∧ W.heap[D + 1]? = some (.loop (rec .done (some c))) ∧ W.heap[D]? = some (.deferred (some [])))
      (fun s A B hs hg' => ⟨hIG s A B hs.1 hg', hGk A B hg' _ _ (by omega) hs.2.1 rfl, hGk A B hg' _ _ (by omega) hs.2.2 rfl⟩)
      (fun s A B ⟨c, hc, hl, hk⟩ hg' => ⟨c, hIxG c s A B hc hg', hGk A B hg' _ _ (by omega) hl rfl, hGk A B hg' _ _ (by omega) hk rfl⟩)
      ?round ⟨hI1, hL, hK⟩).mono ?behind
    case round =>
      rintro pre x W ⟨hi, hl, hk⟩ hlen
      have hlt : D + 1 < W.heap.size := (Array.getElem?_eq_some_iff.1 hl).1
      have hy := run_yield (P := P) (args := encs x) hl (by rw [hrec]; exact hps x)
      rw [hrec] at hy
      refine ⟨fn, _, assign, body, hy, roundIn_of_wpIn hfn (hassign _ x W _ ⟨_, run_beginRound hl (hst _ _), ?_⟩)⟩
      obtain ⟨busy, hbusy⟩ : ∃ b : Loop, b = { rec .ready none with state := .busy } := ⟨_, rfl⟩
      rw [← hbusy]
      obtain ⟨V, hV⟩ : ∃ V, W.putObj (D + 1) (.loop busy) = V := ⟨_, rfl⟩
      have hl2 : V.heap[D + 1]? = some (.loop busy) := by rw [← hV]; exact World.putObj_heap_same hlt
      have hk2 : V.heap[D]? = some (.deferred (some [])) := by rw [← hV]; exact (World.putObj_heap_other (by omega)).trans hk
      have hw2 : Kp W V := by rw [← hV]; exact hKb _ _ _ _ (by omega) hl rfl
      have hi2 : I pre V := by rw [← hV]; exact hI.1 _ _ _ _ _ hi (by omega) hl rfl
      rw [hV]
      have fin : ∀ (jump : Option Code) (X : World), Keeps D V X →
          (Instr.endRound (D + 1) jump).run P X = .ok (.bool jump.isNone) (X.putObj (D + 1) (.loop (rec (if jump.isNone then .ready else .done) jump))) ∧
          X.heap[D + 1]? = some (.loop busy) ∧
          (X.putObj (D + 1) (.loop (rec (if jump.isNone then .ready else .done) jump))).heap[D + 1]? = some (.loop (rec (if jump.isNone then .ready else .done) jump)) ∧
          (X.putObj (D + 1) (.loop (rec (if jump.isNone then .ready else .done) jump))).heap[D]? = some (.deferred (some [])) := by
        intro jump X hkx
        have hx := hkx _ _ (by omega) hl2 rfl
        have hr := run_endRound (P := P) jump hx
        have e : ({ busy with state := if jump.isNone then .ready else .done, pending := jump } : Loop) = rec (if jump.isNone then .ready else .done) jump := by rw [hbusy, hrec]
        rw [e] at hr
        exact ⟨hr, hx, World.putObj_heap_same (Array.getElem?_eq_some_iff.1 hx).1, (World.putObj_heap_other (by omega)).trans (hkx _ _ (Nat.le_refl _) hk2 rfl)⟩
      refine wpIn_mono (hbody _ pre x V hi2 hlen) ?_
      rintro e b X hp
      cases e with
      | normal =>
        obtain ⟨q1, q2, q3⟩ := hp
        obtain ⟨r1, r2, r3, r4⟩ := fin none X q1
        exact ⟨_, _, r1, .inl ⟨rfl, ⟨hI.1 _ _ _ _ _ q3 (by omega) r2 rfl, r3, r4⟩, hKt (hKt hw2 q2) (hKb _ _ _ _ (by omega) r2 rfl)⟩⟩
      | ret =>
        obtain ⟨q1, q3⟩ := hp
        obtain ⟨r1, r2, r3, r4⟩ := fin (some .ret) X q1
        exact ⟨_, _, r1, .inr ⟨rfl, .ret, (hIx _).1 _ _ _ _ _ q3 (by omega) r2 rfl, r3, r4⟩⟩
      | exit id =>
        obtain ⟨q1, q3⟩ := hp
        obtain ⟨r1, r2, r3, r4⟩ := fin (some (.exit id)) X q1
        exact ⟨_, _, r1, .inr ⟨rfl, .exit id, (hIx _).1 _ _ _ _ _ q3 (by omega) r2 rfl, r3, r4⟩⟩
      | goto t =>
        obtain ⟨q1, q3⟩ := hp
        obtain ⟨r1, r2, r3, r4⟩ := fin (some (.goto t)) X q1
        exact ⟨_, _, r1, .inr ⟨rfl, .goto t, (hIx _).1 _ _ _ _ _ q3 (by omega) r2 rfl, r3, r4⟩⟩
      | panic ch => exact hp.elim
      | outgrown => exact hp.elim
    case behind =>
      rintro e V ⟨⟨v, rfl⟩, (⟨xs, hs, hi, hl, hk⟩ | ⟨pre, hs, c, hi, hl, hk⟩)⟩
      · refine ⟨none, _, (run_endLoop (P := P) hl (by rw [hst]; simp)).trans (by rw [hpe]), ?_⟩
        exact hdone _ xs _ (Nat.le_refl _) (hS.1 _ _ _ _ _ hs (by omega) hl rfl) (hI.1 _ _ _ _ _ hi (by omega) hl rfl) ((World.putObj_heap_other (by omega)).trans hk)
      · refine ⟨some c, _, (run_endLoop (P := P) hl (by rw [hst]; simp)).trans (by rw [hpe]), ?_⟩
        exact hstop _ c pre _ (Nat.le_refl _) (hSp.1 _ _ _ _ _ hs (by omega) hl rfl) ((hIx c).1 _ _ _ _ _ hi (by omega) hl rfl) ((World.putObj_heap_other (by omega)).trans hk)
theorem putObj_other (W : World) {l k : Nat} {o o' x : Obj} (hl : W.heap[l]? = some o) (ho : o.isCells = false) (hk : W.heap[k]? = some x) (hx : x.isCells = true) : (W.putObj l o').heap[k]? = some x :=
  (World.putObj_heap_other (fun e => by subst e; rw [hl] at hk; cases hk; rw [ho] at hx; cases hx)).trans hk
theorem bears_boxed {β : Type} (B b : Nat) (t : TypeId) (f : β → Value) : Bears B (fun s W => Boxed W b t (f s)) :=
  ⟨fun _ W _ _ _ h _ hl ho => putObj_other W hl ho h rfl, fun _ _ o h => Boxed.alloc h o⟩
theorem bears_below {β : Type} {n₀ B : Nat} {w₀ : World} (hn : n₀ ≤ w₀.heap.size) (hB : n₀ ≤ B) : Bears B (fun (_ : β) W => Below n₀ w₀ W) :=
  ⟨fun _ W l _ o' h hl _ _ => h.grown (grownBy_putObj' W l o') (Nat.le_trans hn h.size) (fun k e => by cases e; omega), fun _ _ o h => h.alloc (Nat.le_trans hn h.size) o⟩
theorem bears_size {β : Type} (B m : Nat) : Bears B (fun (_ : β) W => m ≤ W.heap.size) :=
  ⟨fun _ W _ _ _ h _ _ _ => by show m ≤ (World.heap _).size; rw [World.putObj_size]; exact h, fun _ W o h => by have h' : m ≤ W.heap.size := h; show m ≤ (World.heap _).size; rw [World.size_alloc]; omega⟩
theorem size_setCell (W : World) (a : Addr) (v : Value) : (W.setCell a v).heap.size = W.heap.size := by simp [World.setCell]
theorem Bears.and {β : Type} {B : Nat} {I J : β → World → Prop} (h : Bears B I) (k : Bears B J) : Bears B (fun s W => I s W ∧ J s W) :=
  ⟨fun s W l o o' x a b c => ⟨h.1 s W l o o' x.1 a b c, k.1 s W l o o' x.2 a b c⟩, fun s W o x => ⟨h.2 s W o x.1, k.2 s W o x.2⟩⟩
theorem bears_const {β : Type} (B : Nat) (p : β → Prop) : Bears B (fun s _ => p s) := ⟨fun _ _ _ _ _ h _ _ _ => h, fun _ _ _ h => h⟩

/-- The iterator's own steps: block b is written, new blocks are laid, draws. -/
def boxG (b : Nat) (A B : World) : Prop := A.grownBy B (some b)
/-- What a round must keep for it: the box. -/
def boxK (b : Nat) (A B : World) : Prop := B.heap[b]? = A.heap[b]?
theorem boxK_t {b : Nat} {A B C : World} (h : boxK b A B) (k : boxK b B C) : boxK b A C := k.trans h
theorem boxK_b {b n₀ : Nat} (hb : b < n₀) (W : World) (l : Nat) (o o' : Obj) (hl : n₀ ≤ l) (_ : W.heap[l]? = some o) (_ : o.isCells = false) : boxK b W (W.putObj l o') := World.putObj_heap_other (by omega)
theorem boxG_keeps {b n₀ : Nat} (hb : b < n₀) (A B : World) (h : boxG b A B) : Keeps n₀ A B := fun k _ hk ho _ =>
  (h.block k (Array.getElem?_eq_some_iff.1 ho).1 (fun e => by cases e; omega)).trans ho
theorem Boxed_boxG {b c : Nat} {t : TypeId} {v : Value} {A B : World} (h : Boxed A c t v) (hg : boxG b A B) (hne : c ≠ b) : Boxed B c t v := h.kept hg (fun e => by cases e; exact hne rfl)
theorem Below_boxG {b n₀ : Nat} {w A B : World} (h : Below n₀ w A) (hg : boxG b A B) (hn : n₀ ≤ w.heap.size) (hb : n₀ ≤ b) : Below n₀ w B := h.grown hg (Nat.le_trans hn h.size) (fun k e => by cases e; exact hb)
theorem size_boxG {b : Nat} {A B : World} (hg : boxG b A B) : A.heap.size ≤ B.heap.size := hg.size
/-- What a round must keep: all blocks below m but its own box. -/
def keepK (m ob : Nat) (A B : World) : Prop := ∀ k, k < m → k ≠ ob → B.heap[k]? = A.heap[k]?
theorem keepK_t {m ob : Nat} {A B C : World} (h : keepK m ob A B) (k : keepK m ob B C) : keepK m ob A C := fun i hi ho => (k i hi ho).trans (h i hi ho)
theorem keepK_b {m ob : Nat} (W : World) (l : Nat) (o o' : Obj) (hl : m ≤ l) (_ : W.heap[l]? = some o) (_ : o.isCells = false) : keepK m ob W (W.putObj l o') := fun k hk _ => World.putObj_heap_other (by omega)
theorem Keeps.setCell (B : Nat) (W : World) (b : Nat) (v : Value) {t : TypeId} {u : Value} (h : Boxed W b t u) : Keeps B W (W.setCell ⟨b, 0, none⟩ v) := by
  intro k o _ ho hc
  rw [Below.heap_setCell _ _ _ _ (fun e => by have e' : k = b := e; have h' : W.heap[b]? = _ := h; rw [← e', ho] at h'; cases h'; cases hc)]; exact ho
theorem Keeps.alloc (B : Nat) (W : World) (o : Obj) : Keeps B W (W.alloc o) := fun k _ _ ho _ => (Below.heap_alloc W o k (Array.getElem?_eq_some_iff.1 ho).1).trans ho
theorem Keeps.trans {B : Nat} {X Y Z : World} (h : Keeps B X Y) (k : Keeps B Y Z) : Keeps B X Z := fun i o hi ho hc => k i o hi (h i o hi ho hc) hc
theorem Keeps.refl (B : Nat) (W : World) : Keeps B W W := fun _ _ _ h _ => h

theorem bears_row {β : Type} (B : Nat) (base : Nat) (e : TypeId) (size : Nat) (v : β → Value) (k : β → Nat) (f : β → List Value) : Bears B (fun s W => W.ownsRow base e size (v s) (k s) (f s)) :=
  ⟨fun _ _ _ _ o' h _ hl ho => ownsRow_putObj h o' hl ho, fun _ _ o h => h.alloc o⟩
theorem bears_ex {β γ : Type} {B : Nat} {I : γ → β → World → Prop} (h : ∀ c, Bears B (I c)) : Bears B (fun s W => ∃ c, I c s W) :=
  ⟨fun s W l o o' ⟨c, x⟩ a b d => ⟨c, (h c).1 s W l o o' x a b d⟩, fun s W o ⟨c, x⟩ => ⟨c, (h c).2 s W o x⟩⟩
theorem bears_blk {β : Type} (B b : Nat) (t : TypeId) (f : β → Array Value) : Bears B (fun s W => Blk W b (f s) t) :=
  ⟨fun _ W _ _ _ h _ hl ho => putObj_other W hl ho h rfl, fun _ _ o h => Blk.alloc h o⟩
/-- A row of the call's own from block base on is not touched by steps on a block below base. -/
theorem row_boxG {b base : Nat} {e : TypeId} {size : Nat} {v : Value} {k : Nat} {xs : List Value} {A B : World} (h : A.ownsRow base e size v k xs) (hg : boxG b A B) (hb : b < base) : B.ownsRow base e size v k xs :=
  h.kept hg (by
    rcases h.2 with ⟨rfl, _⟩ | ⟨g, cap, cur, rfl, hgb, _⟩
    · exact .inl rfl
    · exact .inr (by simp [Value.ownBlock]; omega))
/-- A row reads as its elements. -/
theorem row_cells {base : Nat} {e : TypeId} {v : Value} {k : Nat} {xs : List Value} {A : World} (h : A.ownsRow base e 1 v k xs) :
    xs.length = k ∧ ((v = .slice none 0 0 ∧ k = 0) ∨ ∃ g cap, v = .slice (some ⟨g, 0, none⟩) k cap ∧ base ≤ g ∧ ∀ j (hj : j < xs.length), A.cell? ⟨g, j, none⟩ = some xs[j]) := by
  obtain ⟨h1, h2⟩ := h
  refine ⟨by simpa using h1, ?_⟩
  rcases h2 with h2 | ⟨g, cap, cur, rfl, hb, hh, _, _, _, hx⟩
  · exact .inl h2
  · refine .inr ⟨g, cap, rfl, hb, fun j hj => ?_⟩
    obtain ⟨u, hu⟩ : ∃ u, u = xs[j] := ⟨_, rfl⟩
    rw [← hu]
    have e1 : xs[j]? = some u := by rw [hu]; exact List.getElem?_eq_getElem hj
    clear hu
    rw [← hx, List.getElem?_take] at e1
    split at e1
    · simp [World.cell?, hh]
      simpa using e1
    · cases e1

/-- 'out = append(out, ..)', out in a box: what the append law leaves, behind the store. -/
theorem appended {W w1 : World} {base b : Nat} {t e : TypeId} {size : Nat} {v v' : Value} {k m : Nat} {xs ys : List Value} {tmp : Obj}
    (hv : Boxed W b t v) (hte : t ≠ e) (hrow : W.ownsRow base e size v k xs) (hown' : w1.ownsRow base e size v' m ys) (hgrow : (W.alloc tmp).grownBy w1 v.ownBlock) :
    Boxed w1 b t v ∧ Boxed (w1.setCell ⟨b, 0, none⟩ v') b t v' ∧ (w1.setCell ⟨b, 0, none⟩ v').ownsRow base e size v' m ys ∧ (∀ B, Keeps B W (w1.setCell ⟨b, 0, none⟩ v')) ∧
      W.heap.size ≤ (w1.setCell ⟨b, 0, none⟩ v').heap.size ∧ (∀ i, i < W.heap.size → i < base → i ≠ b → (w1.setCell ⟨b, 0, none⟩ v').heap[i]? = W.heap[i]?) ∧ (∀ n₀, n₀ ≤ W.heap.size → n₀ ≤ b → n₀ ≤ base → Below n₀ W (w1.setCell ⟨b, 0, none⟩ v')) := by
  have hv1 : Boxed w1 b t v := (hv.alloc tmp).kept hgrow (hv.not_row hte hrow)
  have hob : ∀ j, v.ownBlock = some j → base ≤ j ∧ ∃ o : Obj, (W.alloc tmp).heap[j]? = some o ∧ o.isCells = true := by
    intro j ej
    rcases (hrow.alloc tmp).2 with ⟨rfl, _⟩ | ⟨g, cap, cur, rfl, hg, hgb, _⟩
    · simp [Value.ownBlock] at ej
    · obtain rfl : g = j := by simpa [Value.ownBlock] using ej
      exact ⟨hg, _, hgb, rfl⟩
  have hsz : W.heap.size + 1 ≤ w1.heap.size := by have := hgrow.size; rwa [World.size_alloc] at this
  have hblk : ∀ i, i < W.heap.size → i < base → i ≠ b → (w1.setCell ⟨b, 0, none⟩ v').heap[i]? = W.heap[i]? := by
    intro i hi hbase hne
    rw [Below.heap_setCell _ _ _ _ (by show i ≠ b; exact hne), hgrow.block i (by rw [World.size_alloc]; omega) (fun ej => by have := (hob i ej.symm).1; omega), Below.heap_alloc _ _ _ hi]
  refine ⟨hv1, hv1.set v', hown'.kept (grownBy_setCell' w1 b v') (.inr (hv1.not_row hte hown').symm), ?_, ?_, hblk, ?_⟩
  · intro B i o _ hi ho
    have hlt := (Array.getElem?_eq_some_iff.1 hi).1
    have h2 : w1.heap[i]? = some o := by
      rw [hgrow.block i (by rw [World.size_alloc]; omega) (fun ej => by
        obtain ⟨_, o', ho', hc⟩ := hob i ej.symm
        rw [Below.heap_alloc _ _ _ hlt, hi] at ho'; cases ho'; rw [ho] at hc; cases hc), Below.heap_alloc _ _ _ hlt]
      exact hi
    rw [Below.heap_setCell _ _ _ _ (fun e => by have e' : i = b := e; have h' : w1.heap[b]? = _ := hv1; rw [← e', h2] at h'; cases h'; cases ho)]
    exact h2
  · rw [size_setCell]; omega
  · intro n₀ h1 h2 h3
    exact (((Below.refl n₀ W).alloc h1 tmp).grown hgrow (by rw [World.size_alloc]; omega) (fun j ej => by have := (hob j ej).1; omega)).setCell (p := ⟨b, 0, none⟩) h2 v'

/-- A scope through which the run goes without a jump, in the wide fence. -/
theorem wpIn_scope_w {m : Nat} {c : Code} {Q : Exit → Act → World → Prop} {a : Act} {w : World} (h : c.wpIn Fence.wide m P (Exit.noGoto Q) a w) : (Code.scope c).wpIn Fence.wide m P Q a w :=
  wpIn_wide.2 (wp_scope_straight (wpIn_wide.1 h))
end Go.Proofs.YtgobdhedeodpiaaDoor
