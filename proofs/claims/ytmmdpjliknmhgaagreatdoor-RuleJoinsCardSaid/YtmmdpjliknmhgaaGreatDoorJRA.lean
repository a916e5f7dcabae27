/- Joined: Kit; LaidArr; Rep; RepOpen; Row; RulPlain -/
import Derived.Test.YtmmdpjliknmhgaaGreatDoorChecked
import Derived.WalkKit
import Derived.WalkSpells
import Derived.WalkLawsBesides
import Derived.Deep.QuietTactic
import Derived.BigQuiet
import Derived.Lib.Hide
import Derived.Lib.SmallJoins
import Derived.Lib.Strings
import Derived.Carry
import Derived.ChangeSame
import Derived.ProofKit
import Derived.LaidMore
import Derived.OwnWalk
import Derived.Laws.OwnMore
import Derived.Deep.Slices
import Derived.Deep.Fields
import Derived.SliceStrings
import Derived.WideKeyArgs
import Derived.Deep.DeepHandedRow
import Derived.Deep.DeepWitnessRowRef
import Derived.Stop.LaidErr
/- Small lemmas on no program, used by this seat's walks. -/
namespace Go.Proofs.YtmmdpjliknmhgaaGreatDoor
open Go.RowKit
theorem ret_bool {a b : Bool} (h : a = b) : Ending.returned (.bool a) = .returned (.bool b) := by rw [h]
theorem ret_int {k : IntKind} {a b : Int} (h : a = b) : Ending.returned (.int k a) = .returned (.int k b) := by rw [h]
theorem ret_str {a b : List UInt8} (h : a = b) : Ending.returned (.string ⟨a.toArray⟩) = .returned (.string ⟨b.toArray⟩) := by rw [h]
theorem drop_cons {α : Type} (l : List α) (k : Nat) (h : k < l.length) : l.drop k = l[k] :: l.drop (k + 1) := List.drop_eq_getElem_cons h
theorem ba_size (l : List UInt8) : (ByteArray.mk l.toArray).size = l.length := by simp [ByteArray.size]
@[go_sem] theorem ba_get (l : List UInt8) (k : Nat) (h : k < (ByteArray.mk l.toArray).size) : (ByteArray.mk l.toArray)[k] = l[k]'(by rw [← ba_size]; exact h) := by
  simp [ByteArray.getElem_eq_getElem_data]
@[go_sem] theorem ba_append (a b : List UInt8) : (ByteArray.mk a.toArray) ++ (ByteArray.mk b.toArray) = ByteArray.mk (a ++ b).toArray := by
  have h := Joins.data_append (ByteArray.mk a.toArray) (ByteArray.mk b.toArray)
  have := Lib.mk_data ((ByteArray.mk a.toArray) ++ (ByteArray.mk b.toArray))
  rw [← this, h]
@[go_sem] theorem ba_extract (l : List UInt8) (a b : Nat) : (ByteArray.mk l.toArray).extract a b = ByteArray.mk ((l.drop a).take (b - a)).toArray := by
  rw [Lib.extract_eq]
@[go_sem] theorem ba_empty : ByteArray.empty = ByteArray.mk #[] := rfl
theorem sum_i (k : Nat) (j : Int) (m : Nat) (hm : (m : Int) = k + j) (h : m ≤ 9223372036854775807) : IntKind.i64.wrap ((k : Int) + j) = k + j ∧ (0 : Int) ≤ k + j ∧ ((k : Int) + j).toNat = m :=
  ⟨IntWalk.i64_in _ (by omega), by omega, by omega⟩
theorem u8_lt (a : UInt8) : (0 : Int) ≤ a.toNat ∧ (a.toNat : Int) ≤ 255 := ⟨by omega, by have := a.toNat_lt; omega⟩
theorem u8_eq {a b : UInt8} (h : a.toNat = b.toNat) : a = b := UInt8.toNat_inj.1 h
theorem fold_push (l : List UInt8) : ∀ (pre : List UInt8), (l.map fun c => (c.toNat : Int)).foldl (fun r n => r.push (UInt8.ofNat n.toNat)) (⟨pre.toArray⟩ : ByteArray) = ⟨(pre ++ l).toArray⟩ := by
  induction l with
  | nil => intro pre; simp
  | cons c l ih =>
    intro pre
    have h : (ByteArray.mk pre.toArray).push (UInt8.ofNat ((c.toNat : Int)).toNat) = ⟨(pre ++ [c]).toArray⟩ := by simp [ByteArray.push]
    rw [List.map_cons, List.foldl_cons, h, ih]; simp
/-- 'string(bytes)', the cells being known. -/
theorem conv_bytes {P : Program} (W : World) (src dst e : TypeId) (a : Addr) (cap : Nat) (l : List UInt8) (hs : P.underlying src = some (.slice e)) (he : P.underlying e = some (.int .u8)) (hd : P.underlying dst = some .string)
    (h : ∀ (j : Nat) (hj : j < l.length), W.cell? (a.add j) = some (.int .u8 l[j].toNat)) :
    (convert src dst (.slice (some a) l.length cap)).run P W = .ok (.string ⟨l.toArray⟩) W := by
  rw [run_convert_bytes_string W src dst e _ _ _ hs he hd]
  have hl := run_loadCells_list (P := P) (w := W) a ((l.map fun c => (c.toNat : Int)).map (Value.int .u8)) (by
    intro j v hv
    simp only [List.map_map, List.getElem?_map, Option.map_eq_some_iff] at hv
    obtain ⟨c, hc, rfl⟩ := hv
    obtain ⟨hj, rfl⟩ := List.getElem?_eq_some_iff.1 hc
    exact h j hj)
  rw [List.length_map, List.length_map] at hl
  rw [run_bytesToString W a _ cap _ hl]
  have := fold_push l []
  simp only [List.nil_append] at this
  rw [← this]; rfl
/-- 'string([]byte{c})' -/
theorem conv_byte1 {P : Program} (W : World) (src dst e : TypeId) (c : UInt8) (hs : P.underlying src = some (.slice e)) (he : P.underlying e = some (.int .u8)) (hd : P.underlying dst = some .string) :
    (convert src dst (.slice (some ⟨W.heap.size, 0, none⟩) 1 1)).run P (W.alloc (.cells #[.int .u8 c.toNat] e)) = .ok (.string ⟨#[c]⟩) (W.alloc (.cells #[.int .u8 c.toNat] e)) :=
  conv_bytes (W.alloc (.cells #[.int .u8 c.toNat] e)) src dst e ⟨W.heap.size, 0, none⟩ 1 [c] hs he hd (by
    intro j hj
    obtain rfl : j = 0 := by simpa using hj
    simp [Addr.add])
/-- Block b holds just the cells cs, of type t, none frozen. -/
def Blk (W : World) (b : Nat) (cs : Array Value) (t : TypeId) : Prop := W.heap[b]? = some (.cells cs t (0, 0))
theorem Blk.lt {W : World} {b : Nat} {cs : Array Value} {t : TypeId} (h : Blk W b cs t) : b < W.heap.size := (Array.getElem?_eq_some_iff.1 h).1
theorem Blk.cell {W : World} {b : Nat} {cs : Array Value} {t : TypeId} (h : Blk W b cs t) (i : Nat) : W.cell? ⟨b, i, none⟩ = cs[i]? := by simp [World.cell?, show W.heap[b]? = _ from h]
theorem Blk.frozen {W : World} {b : Nat} {cs : Array Value} {t : TypeId} (h : Blk W b cs t) (i : Nat) : W.frozen? ⟨b, i, none⟩ = false := by simp [World.frozen?, show W.heap[b]? = _ from h]
theorem Blk.new (W : World) (cs : Array Value) (t : TypeId) : Blk (W.alloc (.cells cs t)) W.heap.size cs t := by
  show (W.heap.push _)[W.heap.size]? = _
  simp
theorem Blk.kept {W W' : World} {row : Option Nat} {b : Nat} {cs : Array Value} {t : TypeId} (h : Blk W b cs t) (hg : W.grownBy W' row) (hne : some b ≠ row) : Blk W' b cs t := (hg.block b h.lt hne).trans h
theorem Blk.alloc {W : World} {b : Nat} {cs : Array Value} {t : TypeId} (h : Blk W b cs t) (o : Obj) : Blk (W.alloc o) b cs t := h.kept (World.grownBy_alloc W o none) (by simp)
theorem Blk.below {n : Nat} {W W' : World} {b : Nat} {cs : Array Value} {t : TypeId} (h : Blk W b cs t) (hb : Below n W W') (hn : b < n) : Blk W' b cs t := (hb.block b hn).trans h
theorem Blk.set {W : World} {b : Nat} {cs : Array Value} {t : TypeId} (i : Nat) (v : Value) (h : Blk W b cs t) : Blk (W.setCell ⟨b, i, none⟩ v) b (cs.setIfInBounds i v) t := by
  obtain ⟨hlt, hk⟩ := Array.getElem?_eq_some_iff.1 h
  show (W.heap.modify b _)[b]? = _
  rw [Array.getElem?_eq_getElem (by rw [Array.size_modify]; exact hlt), Array.getElem_modify_self, hk]
  rfl
theorem Blk.drewN {W : World} {b : Nat} {cs : Array Value} {t : TypeId} (h : Blk W b cs t) (n : Nat) : Blk (W.drewN n) b cs t := h
theorem Blk.other {W : World} {b b' : Nat} {cs : Array Value} {t : TypeId} (i : Nat) (v : Value) (h : Blk W b cs t) (hne : b ≠ b') : Blk (W.setCell ⟨b', i, none⟩ v) b cs t := (Below.heap_setCell W ⟨b', i, none⟩ v b hne).trans h
theorem grownBy_setCellB (W : World) (b i : Nat) (v : Value) : W.grownBy (W.setCell ⟨b, i, none⟩ v) (some b) :=
  ⟨rfl, rfl, rfl, by simp [World.setCell], fun k _ hk => Below.heap_setCell _ _ _ k (fun e => hk (by rw [e]))⟩
theorem grownBy_t {a b c : World} {row : Option Nat} (h : a.grownBy b row) (k : b.grownBy c row) : a.grownBy c row :=
  ⟨k.os.trans h.os, k.tape.trans h.tape, k.output.trans h.output, Nat.le_trans h.size k.size, fun i hi hr => (k.block i (Nat.lt_of_lt_of_le hi h.size) hr).trans (h.block i hi hr)⟩
theorem Blk_at {W : World} {b : Nat} {cs : Array Value} {t : TypeId} (h : b = W.heap.size) : Blk (W.alloc (.cells cs t)) b cs t := by subst h; exact Blk.new _ _ _
theorem Blk_at2 {W : World} {b : Nat} {cs : Array Value} {t : TypeId} {o : Obj} (h : b = W.heap.size) : Blk ((W.alloc (.cells cs t)).alloc o) b cs t := by subst h; exact (Blk.new _ _ _).alloc _
theorem Blk.drew {W : World} {b : Nat} {cs : Array Value} {t : TypeId} (h : Blk W b cs t) : Blk W.drew b cs t := h
theorem grown_cells {w w' : World} {b : Nat} (h : w.grownBy w' (some b)) : (∀ k o, k < w.heap.size → k ≠ b → w'.cell? ⟨k, o, none⟩ = w.cell? ⟨k, o, none⟩) ∧ (∀ k o, k < w.heap.size → k ≠ b → w'.frozen? ⟨k, o, none⟩ = w.frozen? ⟨k, o, none⟩) :=
  ⟨fun k o hk hb => World.cell?_of_block (w := w) (a := ⟨k, o, none⟩) (h.block k hk (by simpa using hb)), fun k o hk hb => World.frozen?_of_block (w := w) (a := ⟨k, o, none⟩) (h.block k hk (by simpa using hb))⟩
theorem below_cells {w w' : World} {n : Nat} (h : Below n w w') : (∀ k o, k < n → w'.cell? ⟨k, o, none⟩ = w.cell? ⟨k, o, none⟩) ∧ (∀ k o, k < n → w'.frozen? ⟨k, o, none⟩ = w.frozen? ⟨k, o, none⟩) :=
  ⟨fun k o hk => h.cell (p := ⟨k, o, none⟩) hk, fun k o hk => h.frozen (p := ⟨k, o, none⟩) hk⟩
theorem grown_of_below {w w' : World} (h : Below w.heap.size w w') (row : Option Nat) : w.grownBy w' row := ⟨h.os, h.tape, h.output, h.size, fun k hk _ => h.block k hk⟩
end Go.Proofs.YtmmdpjliknmhgaaGreatDoor
/- What a laid array of numbers gives a walk: its cells, one by one. On no program. -/
namespace Go.Proofs.YtmmdpjliknmhgaaGreatDoor
open Go.RowKit Go.ChangeShapes Go.WideShapes
theorem int_of_trod {H : Type} {enc : TypeId × Value → H} {P : Program} {w : World} {base : Nat} {sp : Nat → Bool} {held : Bool} {fuel : Nat} {t : TypeId} {k : IntKind} {c : Value} {y : DataW H × List MemPlace}
    (ht : P.underlying t = some (.int k)) (h : DataW.trod enc P w base sp held fuel t [c] = some y) : ∃ n, c = .int k n ∧ y = (.lit (.int k n), []) := by
  cases fuel with
  | zero => simp [DataW.trod] at h
  | succ fuel =>
    cases c <;> simp [DataW.trod, ht] at h
    rename_i k' n
    obtain ⟨⟨rfl, _⟩, rfl⟩ := h
    exact ⟨n, rfl, rfl⟩
theorem no_int_of_trod {H : Type} {enc : TypeId × Value → H} {P : Program} {w : World} {base : Nat} {sp : Nat → Bool} {held : Bool} {fuel : Nat} {t : TypeId} {k : IntKind} {y : DataW H × List MemPlace}
    (ht : P.underlying t = some (.int k)) (h : DataW.trod enc P w base sp held fuel t [] = some y) : False := by
  cases fuel with
  | zero => simp [DataW.trod] at h
  | succ fuel => simp [DataW.trod, ht] at h
theorem ints_of_trod {H : Type} {enc : TypeId × Value → H} {P : Program} {w : World} {base : Nat} {sp : Nat → Bool} {held : Bool} {fuel : Nat} {e : TypeId} {k : IntKind} (he : P.underlying e = some (.int k)) (cs : List Value) :
    ∀ (is : List Nat) (zs : List Int) (xs : List (DataW H × List MemPlace)), (is.mapM fun i => DataW.trod enc P w base sp held fuel e ((cs.drop (i * 1)).take 1)) = some xs → xs.map (·.1) = zs.map (fun z => DataW.lit (.int k z)) →
      ∀ (j : Nat) (hj : j < is.length), ∃ z, zs[j]? = some z ∧ cs[is[j]]? = some (.int k z)
  | [], _, _, _, _, j, hj => absurd hj (by simp)
  | i :: is, zs, xs, h, hz, j, hj => by
    simp only [List.mapM_cons, Option.bind_eq_bind, Option.bind_eq_some_iff, Option.pure_def, Option.some.injEq] at h
    obtain ⟨y, h0, ys, h1, rfl⟩ := h
    cases zs with
    | nil => simp at hz
    | cons z zs =>
      simp only [List.map_cons, List.cons.injEq] at hz
      cases j with
      | zero =>
        rcases hd : cs.drop (i * 1) with _ | ⟨c, r⟩
        · rw [hd] at h0; exact (no_int_of_trod he h0).elim
        · rw [hd] at h0
          obtain ⟨n, rfl, rfl⟩ := int_of_trod (c := c) he h0
          have e2 : n = z := by simpa using hz.1
          subst e2
          refine ⟨n, rfl, ?_⟩
          have : (cs.drop (i * 1))[0]? = some (.int k n) := by rw [hd]; rfl
          simpa using this
      | succ j =>
        obtain ⟨z', a, b⟩ := ints_of_trod he cs is zs ys h1 hz.2 j (by simpa using hj)
        exact ⟨z', by simpa using a, by simpa using b⟩
/-- an array of numbers -/
theorem arr_of_trod {H : Type} {enc : TypeId × Value → H} {P : Program} {w : World} {base : Nat} {sp : Nat → Bool} {held : Bool} {fuel : Nat} {t e : TypeId} {k : IntKind} {n : Nat} {cs : List Value} {zs : List Int} {p : List MemPlace}
    (ht : P.underlying t = some (.array n e)) (he : P.underlying e = some (.int k)) (hc : P.cellsOf e = 1) (h : DataW.trod enc P w base sp held fuel t cs = some (.agg (zs.map fun z => DataW.lit (.int k z)), p)) :
    ∀ j, j < n → ∃ z, zs[j]? = some z ∧ cs[j]? = some (.int k z) := by
  cases fuel with
  | zero => simp [DataW.trod] at h
  | succ fuel =>
    simp only [DataW.trod, ht, hc] at h
    split at h
    · simp only [Option.map_eq_some_iff] at h
      obtain ⟨xs, h1, h2⟩ := h
      have h3 : xs.map (·.1) = zs.map (fun z => DataW.lit (.int k z)) := by
        have := congrArg Prod.fst h2; simpa using this
      intro j hj
      have := ints_of_trod he cs (List.range n) zs xs h1 h3 j (by simpa using hj)
      simpa using this
    · cases h
end Go.Proofs.YtmmdpjliknmhgaaGreatDoor
/- Lists in memory: what a slice value reads as (views), and what a call made itself (own rows). On no program. -/
namespace Go.Proofs.YtmmdpjliknmhgaaGreatDoor
open Go.RowKit
/-- every cell that can be read is there still -/
def KeepC (W W' : World) : Prop := W.heap.size ≤ W'.heap.size ∧ ∀ b o u, W.cell? ⟨b, o, none⟩ = some u → W'.cell? ⟨b, o, none⟩ = some u
theorem KeepC.refl (W : World) : KeepC W W := ⟨Nat.le_refl _, fun _ _ _ h => h⟩
theorem KeepC.trans {A B C : World} (h : KeepC A B) (k : KeepC B C) : KeepC A C := ⟨Nat.le_trans h.1 k.1, fun b o u x => k.2 b o u (h.2 b o u x)⟩
theorem KeepC.of_below {W W' : World} (hb : Below W.heap.size W W') : KeepC W W' := ⟨hb.size, fun b o u h => by
  have hlt := World.block_lt_of_cell? W _ h
  exact (hb.cell (p := ⟨b, o, none⟩) hlt).trans h⟩
theorem KeepC.drewN (W : World) (n : Nat) : KeepC W (W.drewN n) := ⟨Nat.le_refl _, fun _ _ _ h => h⟩
theorem KeepC.alloc (W : World) (o : Obj) : KeepC W (W.alloc o) := .of_below ((Below.refl _ W).alloc (Nat.le_refl _) o)
/-- a slice value of n elements of k cells each reads as the cells cs -/
def SlR (k : Nat) (W : World) (v : Value) (n : Nat) (cs : List Value) : Prop :=
  cs.length = n * k ∧ ∃ a cap, v = .slice a n cap ∧ n ≤ cap ∧ (n = 0 ∨ ∃ b o, a = some ⟨b, o, none⟩ ∧ b < W.heap.size ∧ ∀ j (hj : j < cs.length), W.cell? ⟨b, o + j, none⟩ = some cs[j])
theorem SlR.keep {k : Nat} {W W' : World} {v : Value} {n : Nat} {cs : List Value} (h : SlR k W v n cs) (hk : KeepC W W') : SlR k W' v n cs := by
  obtain ⟨h1, a, cap, h2, h3, h4⟩ := h
  refine ⟨h1, a, cap, h2, h3, h4.imp_right ?_⟩
  rintro ⟨b, o, e, hb, hc⟩
  exact ⟨b, o, e, Nat.lt_of_lt_of_le hb hk.1, fun j hj => hk.2 _ _ _ (hc j hj)⟩
/-- nonempty: where it lies -/
theorem SlR.pos {k : Nat} {W : World} {v : Value} {n : Nat} {cs : List Value} (h : SlR k W v n cs) (hn : 0 < n) : ∃ b o cap, v = .slice (some ⟨b, o, none⟩) n cap ∧ n ≤ cap ∧ b < W.heap.size ∧ ∀ j (hj : j < cs.length), W.cell? ⟨b, o + j, none⟩ = some cs[j] := by
  obtain ⟨_, a, cap, rfl, h3, h4 | ⟨b, o, rfl, hb, hc⟩⟩ := h
  · omega
  · exact ⟨b, o, cap, rfl, h3, hb, hc⟩
theorem SlR.zero {k : Nat} {W : World} {v : Value} {cs : List Value} (h : SlR k W v 0 cs) : cs = [] ∧ ∃ a cap, v = .slice a 0 cap := by
  obtain ⟨h1, a, cap, rfl, _⟩ := h
  exact ⟨List.length_eq_zero_iff.1 (by simpa using h1), a, cap, rfl⟩
theorem SlR.nil (k : Nat) (W : World) : SlR k W (.slice none 0 0) 0 [] := ⟨by simp, none, 0, rfl, Nat.le_refl _, .inl rfl⟩
theorem SlR.of_row {W : World} {base : Nat} {e : TypeId} {k : Nat} {v : Value} {n : Nat} {cs : List Value} (h : W.ownsRow base e k v n cs) : SlR k W v n cs := by
  obtain ⟨h1, h2⟩ := h
  refine ⟨h1, ?_⟩
  rcases h2 with ⟨rfl, rfl⟩ | ⟨g, cap, cur, rfl, hb, hh, hc, _, _, hx⟩
  · exact ⟨Option.none, 0, rfl, Nat.le_refl _, .inl rfl⟩
  · refine ⟨Option.some ⟨g, 0, Option.none⟩, cap, rfl, hc, .inr ⟨g, 0, rfl, (Array.getElem?_eq_some_iff.1 hh).1, fun j hj => ?_⟩⟩
    obtain ⟨u, hu⟩ : ∃ u, u = cs[j] := ⟨_, rfl⟩
    rw [← hu]
    have e1 : cs[j]? = Option.some u := by rw [hu]; exact List.getElem?_eq_getElem hj
    clear hu
    rw [← hx, List.getElem?_take] at e1
    split at e1
    · simp [World.cell?, hh]; simpa using e1
    · cases e1
/-- elements' rows, one behind the other -/
def Rows {α : Type} (E : α → List Value → Prop) : List α → List Value → Prop
  | [], cs => cs = []
  | x :: xs, cs => ∃ c r, cs = c ++ r ∧ E x c ∧ Rows E xs r
theorem Rows.mono {α : Type} {E F : α → List Value → Prop} : ∀ {xs : List α} {cs : List Value}, (∀ x ∈ xs, ∀ c, E x c → F x c) → Rows E xs cs → Rows F xs cs
  | [], _, _, h => h
  | x :: xs, _, hm, ⟨c, r, e, h1, h2⟩ => ⟨c, r, e, hm x (by simp) c h1, Rows.mono (fun y hy => hm y (by simp [hy])) h2⟩
theorem Rows.append {α : Type} {E : α → List Value → Prop} : ∀ {xs ys : List α} {cs ds : List Value}, Rows E xs cs → Rows E ys ds → Rows E (xs ++ ys) (cs ++ ds)
  | [], _, cs, _, h, k => by have h' : cs = [] := h; subst h'; exact k
  | x :: xs, _, _, _, ⟨c, r, e, h1, h2⟩, k => ⟨c, r ++ _, by rw [e, List.append_assoc], h1, Rows.append h2 k⟩
theorem Rows.one {α : Type} {E : α → List Value → Prop} {x : α} {c : List Value} (h : E x c) : Rows E [x] c := ⟨c, [], by simp, h, rfl⟩
theorem Rows.length {α : Type} {E : α → List Value → Prop} {k : Nat} (hk : ∀ x c, E x c → c.length = k) : ∀ {xs : List α} {cs : List Value}, Rows E xs cs → cs.length = xs.length * k
  | [], cs, h => by have h' : cs = [] := h; subst h'; simp
  | x :: xs, _, ⟨c, r, e, h1, h2⟩ => by
    subst e
    rw [List.length_append, hk x c h1, Rows.length hk h2, List.length_cons, Nat.add_mul]; omega
/-- the i-th element's row -/
theorem Rows.at {α : Type} {E : α → List Value → Prop} {k : Nat} (hk : ∀ x c, E x c → c.length = k) : ∀ {xs : List α} {cs : List Value}, Rows E xs cs → ∀ (i : Nat) (hi : i < xs.length), ∃ c, E xs[i] c ∧ ∀ j, j < k → cs[i * k + j]? = c[j]?
  | [], _, _, i, hi => absurd hi (by simp)
  | x :: xs, _, ⟨c, r, e, h1, h2⟩, i, hi => by
    subst e
    have hl := hk x c h1
    cases i with
    | zero => exact ⟨c, h1, fun j hj => by rw [Nat.zero_mul, Nat.zero_add, List.getElem?_append_left (by omega)]⟩
    | succ i =>
      obtain ⟨d, hd, hj⟩ := Rows.at hk h2 i (by simpa using hi)
      refine ⟨d, hd, fun j hjk => ?_⟩
      rw [← hj j hjk, List.getElem?_append_right (by rw [hl, Nat.add_mul]; omega), hl]
      congr 1
      rw [Nat.add_mul]; omega
theorem Rows.take {α : Type} {E : α → List Value → Prop} {k : Nat} (hk : ∀ x c, E x c → c.length = k) : ∀ {xs : List α} {cs : List Value} (n : Nat), Rows E xs cs → Rows E (xs.take n) (cs.take (n * k))
  | _, _, 0, _ => by simp [Rows]
  | [], cs, n + 1, h => by have h' : cs = [] := h; subst h'; simp [Rows]
  | x :: xs, _, n + 1, ⟨c, r, e, h1, h2⟩ => by
    subst e
    refine ⟨c, r.take (n * k), ?_, h1, Rows.take hk n h2⟩
    rw [List.take_append, hk x c h1, List.take_of_length_le (by rw [hk x c h1, Nat.add_mul]; omega)]
    congr 2
    rw [Nat.add_mul]; omega
theorem Rows.drop {α : Type} {E : α → List Value → Prop} {k : Nat} (hk : ∀ x c, E x c → c.length = k) : ∀ {xs : List α} {cs : List Value} (n : Nat), Rows E xs cs → Rows E (xs.drop n) (cs.drop (n * k))
  | _, _, 0, h => by simpa using h
  | [], cs, n + 1, h => by have h' : cs = [] := h; subst h'; simp [Rows]
  | x :: xs, _, n + 1, ⟨c, r, e, h1, h2⟩ => by
    subst e
    rw [List.drop_succ_cons, List.drop_append, hk x c h1, List.drop_of_length_le (l := c) (by rw [hk x c h1, Nat.add_mul]; omega), List.nil_append, show (n + 1) * k - k = n * k by rw [Nat.add_mul]; omega]
    exact Rows.drop hk n h2

/-! ### texts -/
def strsC (l : List (List UInt8)) : List Value := l.map fun s => Value.string ⟨s.toArray⟩
theorem strsC_len (l : List (List UInt8)) : (strsC l).length = l.length := by simp [strsC]
def StrsV (W : World) (v : Value) (l : List (List UInt8)) : Prop := SlR 1 W v l.length (strsC l)
theorem StrsV.keep {W W' : World} {v : Value} {l : List (List UInt8)} (h : StrsV W v l) (hk : KeepC W W') : StrsV W' v l := SlR.keep h hk

/-! ### objects -/
structure ObjD where
  name : List UInt8
  kind : Int
  data : List UInt8
  max : Int
  items : List (List UInt8)
def ObjC (W : World) (x : ObjD) (c : List Value) : Prop := ∃ lv, c = [.string ⟨x.name.toArray⟩, .int .i64 x.kind, .string ⟨x.data.toArray⟩, .int .i64 x.max, lv] ∧ StrsV W lv x.items
theorem ObjC.len {W : World} (x : ObjD) (c : List Value) (h : ObjC W x c) : c.length = 5 := by obtain ⟨lv, rfl, _⟩ := h; rfl
theorem ObjC.keep {W W' : World} {x : ObjD} {c : List Value} (h : ObjC W x c) (hk : KeepC W W') : ObjC W' x c := by obtain ⟨lv, e, h⟩ := h; exact ⟨lv, e, h.keep hk⟩
def ObjsV (W : World) (v : Value) (l : List ObjD) : Prop := ∃ cs, SlR 5 W v l.length cs ∧ Rows (ObjC W) l cs
theorem ObjsV.keep {W W' : World} {v : Value} {l : List ObjD} (h : ObjsV W v l) (hk : KeepC W W') : ObjsV W' v l := by
  obtain ⟨cs, h1, h2⟩ := h
  exact ⟨cs, h1.keep hk, h2.mono fun x _ c hc => hc.keep hk⟩
theorem ObjsV.zero {W : World} {v : Value} (h : ObjsV W v []) : ∃ a cap, v = .slice a 0 cap := by obtain ⟨cs, h1, _⟩ := h; exact (SlR.zero h1).2
theorem ObjsV.nil (W : World) : ObjsV W (.slice Option.none 0 0) [] := ⟨[], SlR.nil 5 W, rfl⟩
/-- where the objects lie, and what each reads as -/
theorem ObjsV.pos {W : World} {v : Value} {l : List ObjD} (h : ObjsV W v l) (hn : 0 < l.length) : ∃ b o cap, v = .slice (some ⟨b, o, Option.none⟩) l.length cap ∧ l.length ≤ cap ∧ b < W.heap.size ∧
    ∀ i (hi : i < l.length), W.cell? ⟨b, o + i * 5, Option.none⟩ = Option.some (.string ⟨l[i].name.toArray⟩) ∧ W.cell? ⟨b, o + i * 5 + 1, Option.none⟩ = Option.some (.int .i64 l[i].kind) ∧ W.cell? ⟨b, o + i * 5 + 2, Option.none⟩ = Option.some (.string ⟨l[i].data.toArray⟩) ∧
      W.cell? ⟨b, o + i * 5 + 3, Option.none⟩ = Option.some (.int .i64 l[i].max) ∧ ∃ lv, W.cell? ⟨b, o + i * 5 + 4, Option.none⟩ = Option.some lv ∧ StrsV W lv l[i].items := by
  obtain ⟨cs, h1, h2⟩ := h
  obtain ⟨b, o, cap, rfl, hc, hb, hcell⟩ := h1.pos hn
  have hlen := Rows.length ObjC.len h2
  refine ⟨b, o, cap, rfl, hc, hb, fun i hi => ?_⟩
  obtain ⟨c, ⟨lv, rfl, hlv⟩, hj⟩ := Rows.at ObjC.len h2 i hi
  have at_ : ∀ j u, j < 5 → cs[i * 5 + j]? = Option.some u → W.cell? ⟨b, o + i * 5 + j, Option.none⟩ = Option.some u := by
    intro j u hj5 hu
    obtain ⟨hlt, rfl⟩ := List.getElem?_eq_some_iff.1 hu
    rw [Nat.add_assoc]; exact hcell _ hlt
  refine ⟨?_, ?_, ?_, ?_, lv, ?_, hlv⟩
  · exact at_ 0 _ (by omega) (hj 0 (by omega))
  · exact at_ 1 _ (by omega) (hj 1 (by omega))
  · exact at_ 2 _ (by omega) (hj 2 (by omega))
  · exact at_ 3 _ (by omega) (hj 3 (by omega))
  · exact at_ 4 _ (by omega) (hj 4 (by omega))

/-! ### parts -/
structure PartD where
  lv : Int
  cs : Nat
  ig : Int
  l : List ObjD
def PartC (W : World) (x : PartD) (c : List Value) : Prop := ∃ ov, c = [.int .i64 x.lv, .int .u64 x.cs, .int .i64 x.ig, ov] ∧ ObjsV W ov x.l
theorem PartC.len {W : World} (x : PartD) (c : List Value) (h : PartC W x c) : c.length = 4 := by obtain ⟨lv, rfl, _⟩ := h; rfl
theorem PartC.keep {W W' : World} {x : PartD} {c : List Value} (h : PartC W x c) (hk : KeepC W W') : PartC W' x c := by obtain ⟨lv, e, h⟩ := h; exact ⟨lv, e, h.keep hk⟩
def PartsV (W : World) (v : Value) (l : List PartD) : Prop := ∃ cs, SlR 4 W v l.length cs ∧ Rows (PartC W) l cs
theorem PartsV.keep {W W' : World} {v : Value} {l : List PartD} (h : PartsV W v l) (hk : KeepC W W') : PartsV W' v l := by
  obtain ⟨cs, h1, h2⟩ := h
  exact ⟨cs, h1.keep hk, h2.mono fun x _ c hc => hc.keep hk⟩
theorem PartsV.zero {W : World} {v : Value} (h : PartsV W v []) : ∃ a cap, v = .slice a 0 cap := by obtain ⟨cs, h1, _⟩ := h; exact (SlR.zero h1).2
theorem PartsV.nil (W : World) : PartsV W (.slice Option.none 0 0) [] := ⟨[], SlR.nil 4 W, rfl⟩
theorem PartsV.pos {W : World} {v : Value} {l : List PartD} (h : PartsV W v l) (hn : 0 < l.length) : ∃ b o cap, v = .slice (some ⟨b, o, Option.none⟩) l.length cap ∧ l.length ≤ cap ∧ b < W.heap.size ∧
    ∀ i (hi : i < l.length), W.cell? ⟨b, o + i * 4, Option.none⟩ = Option.some (.int .i64 l[i].lv) ∧ W.cell? ⟨b, o + i * 4 + 1, Option.none⟩ = Option.some (.int .u64 l[i].cs) ∧ W.cell? ⟨b, o + i * 4 + 2, Option.none⟩ = Option.some (.int .i64 l[i].ig) ∧
      ∃ ov, W.cell? ⟨b, o + i * 4 + 3, Option.none⟩ = Option.some ov ∧ ObjsV W ov l[i].l := by
  obtain ⟨cs, h1, h2⟩ := h
  obtain ⟨b, o, cap, rfl, hc, hb, hcell⟩ := h1.pos hn
  refine ⟨b, o, cap, rfl, hc, hb, fun i hi => ?_⟩
  obtain ⟨c, ⟨ov, rfl, hov⟩, hj⟩ := Rows.at PartC.len h2 i hi
  have at_ : ∀ j u, j < 4 → cs[i * 4 + j]? = Option.some u → W.cell? ⟨b, o + i * 4 + j, Option.none⟩ = Option.some u := by
    intro j u hj5 hu
    obtain ⟨hlt, rfl⟩ := List.getElem?_eq_some_iff.1 hu
    rw [Nat.add_assoc]; exact hcell _ hlt
  refine ⟨?_, ?_, ?_, ov, ?_, hov⟩
  · exact at_ 0 _ (by omega) (hj 0 (by omega))
  · exact at_ 1 _ (by omega) (hj 1 (by omega))
  · exact at_ 2 _ (by omega) (hj 2 (by omega))
  · exact at_ 3 _ (by omega) (hj 3 (by omega))
end Go.Proofs.YtmmdpjliknmhgaaGreatDoor
/- Arguments that are lists of structs that hold lists, opened to views. -/
namespace Go.Proofs.YtmmdpjliknmhgaaGreatDoor
open Go.RowKit Go.ChangeShapes Go.WideShapes Go.Deep
section
variable {H : Type} {enc : TypeId × Value → H} {P : Program} {w : World} {base : Nat} {spare : Nat → Bool} {held : Bool}
theorem spot_none {a : Addr} {u : Value} (h : w.cell? a = some u) : a.spot = none := by
  unfold World.cell? at h
  split at h
  · split at h
    · cases h
    · rename_i hs; simpa using hs
  · cases h
theorem slR_open {α : Type} {t e : TypeId} {k fuel : Nat} {cs : List Value} {x : DataW H × List MemPlace} (E : α → List Value → Prop) (ht : P.underlying t = some (.slice e)) (hC : P.cellsOf e = k) (hk : 0 < k)
    (hE : ∀ n cs' y, DataW.trod enc P w base spare held n e cs' = some y → ∃ x, E x cs') (_hEl : ∀ x c, E x c → c.length = k) (h : DataW.trod enc P w base spare held fuel t cs = some x) :
    ∃ (v : Value) (l : List α) (css : List Value), cs = [v] ∧ SlR k w v l.length css ∧ Rows E l css ∧ l.length ≤ maxLen := by
  rcases open_slice ht h with ⟨rfl, _⟩ | ⟨a, len, cap, m, n, D, Pl, rfl, hb, hl, hm, hmm, hx, hi⟩
  · exact ⟨_, [], [], rfl, SlR.nil k w, rfl, by simp⟩
  · have hlm : len ≤ m := by rw [hmm]; split <;> omega
    have build : ∀ j, j ≤ len → ∃ (l : List α) (css : List Value), l.length = j ∧ Rows E l css ∧ css.length = j * k ∧ ∀ q (hq : q < css.length), w.cell? (a.add q) = some css[q] := by
      intro j
      induction j with
      | zero => intro _; exact ⟨[], [], rfl, rfl, by simp, fun q hq => absurd hq (by simp)⟩
      | succ j ih =>
        intro hj
        obtain ⟨l, css, h1, h2, h3, h4⟩ := ih (by omega)
        obtain ⟨cs', hc, ht'⟩ := hi j (by omega)
        rw [hC] at hc
        obtain ⟨_, hcl, hat⟩ := World.cells?_some hc
        obtain ⟨y, hy⟩ := hE _ _ _ ht'
        refine ⟨l ++ [y], css ++ cs', by simp [h1], h2.append (Rows.one hy), by rw [List.length_append, h3, hcl, Nat.add_mul]; omega, fun q hq => ?_⟩
        rcases Nat.lt_or_ge q css.length with hq1 | hq1
        · rw [List.getElem_append_left hq1]; exact h4 q hq1
        · have hq2 : q - css.length < k := by rw [List.length_append, hcl] at hq; omega
          have := hat (q - css.length) hq2
          rw [Go.Deep.add_add, ← h3, show css.length + (q - css.length) = q by omega] at this
          rw [this, List.getElem_append_right hq1]
          exact List.getElem?_eq_getElem (by omega)
    obtain ⟨l, css, h1, h2, h3, h4⟩ := build len (Nat.le_refl _)
    refine ⟨_, l, css, rfl, ⟨by rw [h1]; exact h3, some a, cap, by rw [h1], by omega, ?_⟩, h2, by omega⟩
    rcases Nat.eq_zero_or_pos len with h0 | h0
    · left; omega
    · right
      have hpos : 0 < css.length := by rw [h3]; exact Nat.mul_pos h0 hk
      have hc0 := h4 0 hpos
      rw [show a.add 0 = a by simp [Addr.add]] at hc0
      have hs := spot_none hc0
      obtain ⟨b, o, sp⟩ := a
      obtain rfl : sp = none := hs
      refine ⟨b, o, rfl, World.block_lt_of_cell? w _ hc0, fun j hj => ?_⟩
      rw [← h4 j hj]
      congr 1
      simp only [Addr.add]
      split
      · rename_i hz; subst hz; rfl
      · rfl
theorem str_open {t : TypeId} {fuel : Nat} {cs : List Value} {y : DataW H × List MemPlace} (ht : P.underlying t = some .string) (h : DataW.trod enc P w base spare held fuel t cs = some y) : ∃ l : List UInt8, cs = [.string ⟨l.toArray⟩] ∧ l.length ≤ maxLen := by
  obtain ⟨s, rfl, -, ws⟩ := DataW.trod_string ht h
  exact ⟨s.data.toList, by cases s; simp, ws⟩
theorem int_open {t : TypeId} {k : IntKind} {fuel : Nat} {cs : List Value} {y : DataW H × List MemPlace} (ht : P.underlying t = some (.int k)) (h : DataW.trod enc P w base spare held fuel t cs = some y) : ∃ n : Int, cs = [.int k n] ∧ (Lit.int k n).wf = true := by
  obtain ⟨n, rfl, -, wn⟩ := DataW.trod_int ht h
  exact ⟨n, rfl, wn⟩
/-- a slice of texts -/
theorem strs_open {t e : TypeId} {fuel : Nat} {cs : List Value} {x : DataW H × List MemPlace} (ht : P.underlying t = some (.slice e)) (he : P.underlying e = some .string) (hC : P.cellsOf e = 1) (h : DataW.trod enc P w base spare held fuel t cs = some x) :
    ∃ v l, cs = [v] ∧ StrsV w v l ∧ l.length ≤ maxLen := by
  obtain ⟨v, l, css, rfl, h1, h2, h3⟩ := slR_open (α := List UInt8) (k := 1) (fun s c => c = [.string ⟨s.toArray⟩]) ht hC (by omega) (fun n cs' y hy => by
    obtain ⟨s, rfl, _⟩ := str_open he hy; exact ⟨s, rfl⟩) (fun x c hc => by rw [hc]; rfl) h
  refine ⟨v, l, rfl, ?_, h3⟩
  have e : css = strsC l := by
    clear h1 h h3
    induction l generalizing css with
    | nil => exact h2
    | cons s l ih =>
      obtain ⟨c, r, e, e2, h3⟩ := h2
      rw [e, e2, ih r h3]; rfl
  rw [e] at h1
  exact h1
end
end Go.Proofs.YtmmdpjliknmhgaaGreatDoor
/- A law's row: its post, where the call's old heap stays and the result is true. On no program. -/
namespace Go.Proofs.YtmmdpjliknmhgaaGreatDoor
open Go.RowKit Go.ChangeShapes Go.WideShapes Go.ChangeAt
theorem trodAll_stays {H : Type} {enc : TypeId × Value → H} {P : Program} (hl : laidOutB P = true) {W W' : World} {sp : Nat → Bool} :
    ∀ {ts : List TypeId} {vs : List Value} {ds : List (DataW H)} {ps : List MemPlace}, (∀ t ∈ ts, P.readableRec t = true ∧ t < P.types.size) → DataW.TrodAll enc P W 0 (fun _ => true) true ts vs ds ps → (∀ p ∈ ps, W.sameAt W' p) → (∀ p ∈ ps, sp p.block = true) →
      DataW.TrodAll enc P W' 0 sp true ts vs ds ps
  | [], vs, ds, ps, _, h, _, _ => by
    obtain ⟨rfl, rfl, rfl⟩ := trodAll_nil h
    exact trodAll_mk0
  | t :: ts, vs, ds, ps, ht, h, hs, hp => by
    obtain ⟨v, vs1, d, ds1, a, b, rfl, rfl, rfl, h1, h2⟩ := trodAll_cons h
    exact trodAll_cons_mk (WideElems.Trod_stays hl (ht t (by simp)).1 (ht t (by simp)).2 h1 (fun p m => hs p (by simp [m])) (fun p m => hp p (by simp [m])))
      (trodAll_stays hl (fun u m => ht u (by simp [m])) h2 (fun p m => hs p (by simp [m])) (fun p m => hp p (by simp [m])))

/-- THE POST OF A LAW: the old heap stays, true comes back, each argument reads as it did. -/
theorem post_true {H : Type} {enc : TypeId × Value → H} {P : Program} {f : Func} {s : ChangeSpec} {apart fresh handsOn again : Bool} {W W' : World} {args : Array Value} {ds gs : List (DataW H)} {before : List MemPlace} {t : TypeId}
    (hW : DataW.Whole enc P f.params.toList s.vars apart W args.toList ds gs before) (hb : Below W.heap.size W W') (hv : s.vars = []) (hs : s.fn H (ds ++ gs) = { results := [.lit (.bool true)], args := ds })
    (hrt : f.resultTypes = #[t]) (ht : P.underlying t = some .bool) (hl : laidOutB P = true) (hrb : (f.params.toList.all fun t => P.readableRec t && decide (t < P.types.size)) = true) :
    s.post enc P f apart fresh handsOn again W args (.bool true) W' := by
  have hr : ∀ t ∈ f.params.toList, P.readableRec t = true ∧ t < P.types.size := fun t ht => by simpa using List.all_eq_true.1 hrb t ht
  have hlt := fun p hp => hW.lt p hp
  have hW' := hW
  obtain ⟨p, q, hA, hV, rfl, hz, hn⟩ := hW
  rw [hv] at hV
  obtain ⟨rfl, rfl⟩ := trodVars_none hV
  have hsame : ∀ x ∈ p, W.sameAt W' x := fun x hx => hb.same (hlt x (by simp [hx]))
  have hsp : ∀ x ∈ p, (fun b => decide (b < W.heap.size)) x.block = true := fun x hx => by simpa using hlt x (by simp [hx])
  have hres : ∀ (b : Nat) (sp : Nat → Bool) (hd : Bool), DataW.TrodAll enc P W' b sp hd f.resultTypes.toList ((Value.bool true).resultList f.resultTypes.size) (s.fn H (ds ++ [])).results [] := by
    intro b sp hd
    rw [hs, hrt]
    exact trodAll_cons_mk (shut_bool ht _) trodAll_mk0
  have hargs : ∀ sp : Nat → Bool, (∀ x ∈ p, sp x.block = true) → DataW.TrodAll enc P W' 0 sp true f.params.toList args.toList (s.fn H (ds ++ [])).args p := by
    intro sp h
    rw [hs]
    exact trodAll_stays hl hr hA hsame h
  have hvars : ∀ sp : Nat → Bool, DataW.TrodVars enc P W' sp s.vars (s.fn H (ds ++ [])).vars [] := by
    intro sp; rw [hv, hs]; rfl
  refine ⟨ds, [], _, [], p, [], hW', hres _ _ _, hargs _ hsp, hvars _, hb.frame _, fun _ => ?_⟩
  refine ⟨ok_one hrt rfl (okWide_bool_mk ht _), _, _, ([] ++ p) ++ [], ⟨[] ++ p, [], trodAll_append (hargs _ (fun _ _ => rfl)) (hres _ _ _), hvars _, rfl, ?_, ?_⟩, ?_⟩
  · intro b off hp
    have hp' : MemPlace.cell b off ∈ p ++ [] := by simpa using hp
    exact (hb.frozen (p := ⟨b, off, none⟩) (hlt _ hp')).trans (hz b off hp')
  · intro ha
    simpa using hn ha
  · intro x hx _
    simpa using hx
end Go.Proofs.YtmmdpjliknmhgaaGreatDoor
/- Lines of rules: printed one behind the other, read again. Plain, over any sort of line. -/
namespace Go.Proofs.YtmmdpjliknmhgaaGreatDoor
/-- up to the first newline -/
def cutN : List UInt8 → List UInt8 × List UInt8 × Bool
  | [] => ([], [], false)
  | c :: r => if c = 10 then ([], r, true) else (c :: (cutN r).1, (cutN r).2.1, (cutN r).2.2)
theorem cutN_line : ∀ (s r : List UInt8), 10 ∉ s → cutN (s ++ 10 :: r) = (s, r, true)
  | [], r, _ => by simp [cutN]
  | c :: s, r, h => by
    have h1 : c ≠ 10 := fun e => h (by simp [e])
    have h2 := cutN_line s r (fun e => h (by simp [e]))
    simp [cutN, h1, h2]
theorem cutN_none : ∀ (s : List UInt8), 10 ∉ s → cutN s = (s, [], false)
  | [], _ => rfl
  | c :: s, h => by
    have h1 : c ≠ 10 := fun e => h (by simp [e])
    have h2 := cutN_none s (fun e => h (by simp [e]))
    simp [cutN, h1, h2]
theorem cutN_back : ∀ (s : List UInt8), (cutN s).2.2 = true → s = (cutN s).1 ++ 10 :: (cutN s).2.1 ∧ 10 ∉ (cutN s).1
  | [], h => by simp [cutN] at h
  | c :: s, h => by
    by_cases e : c = 10
    · subst e; simp [cutN]
    · simp only [cutN, if_neg e] at h ⊢
      obtain ⟨h1, h2⟩ := cutN_back s h
      refine ⟨by rw [List.cons_append, ← h1], ?_⟩
      simp only [List.mem_cons, not_or]
      exact ⟨fun h => e h.symm, h2⟩
theorem cutN_len : ∀ (s : List UInt8), s ≠ [] → (cutN s).2.1.length < s.length
  | [], h => absurd rfl h
  | c :: s, _ => by
    by_cases e : c = 10
    · subst e; simp [cutN]
    · simp only [cutN, if_neg e]
      by_cases hs : s = []
      · subst hs; simp [cutN]
      · have := cutN_len s hs; simp only [List.length_cons]; omega
/-- a sort of lines -/
structure LineS (R : Type) where
  isR : R → Bool
  idR : R → Int
  line : R → List UInt8
  read : List UInt8 → Option R
  back : ∀ s r, read s = some r → isR r = true ∧ line r = s ++ [10]
  there : ∀ r, isR r = true → ∃ s, line r = s ++ [10] ∧ 10 ∉ s ∧ read s = some r
/-- rules whose Ids rise -/
def LineS.asc {R : Type} (L : LineS R) : Int → List R → Bool
  | _, [] => true
  | last, r :: l => L.isR r && decide (last < L.idR r) && L.asc (L.idR r) l
def LineS.right {R : Type} (L : LineS R) (l : List R) : Bool := L.asc 0 l && decide (l.length ≤ 8)
def LineS.text {R : Type} (L : LineS R) (l : List R) : List UInt8 := (l.map L.line).flatten
/-- what is read: the rules, or how many lines are right -/
def LineS.go {R : Type} (L : LineS R) : Nat → List R → List UInt8 → Option (List R) × Nat
  | 0, acc, _ => (none, acc.length)
  | f + 1, acc, s => if s = [] then (some acc, 0) else match L.read (cutN s).1 with
    | none => (none, acc.length)
    | some x => if (cutN s).2.2 && L.right (acc ++ [x]) then L.go f (acc ++ [x]) (cutN s).2.1 else (none, acc.length)
def LineS.parse {R : Type} (L : LineS R) (s : List UInt8) : Option (List R) × Nat := L.go (s.length + 1) [] s
section
variable {R : Type} (L : LineS R)
theorem LineS.text_nil : L.text [] = [] := rfl
theorem LineS.text_cons (r : R) (l : List R) : L.text (r :: l) = L.line r ++ L.text l := by simp [LineS.text]
theorem LineS.text_app (a b : List R) : L.text (a ++ b) = L.text a ++ L.text b := by simp [LineS.text]
theorem LineS.asc_app : ∀ (a b : List R) (k : Int), L.asc k (a ++ b) = (L.asc k a && L.asc ((a.getLast?.map L.idR).getD k) b)
  | [], b, k => by simp [LineS.asc]
  | r :: a, b, k => by
    rw [List.cons_append, LineS.asc, LineS.asc, LineS.asc_app a b (L.idR r), List.getLast?_cons]
    cases h : a.getLast? with
    | none => simp [Bool.and_assoc]
    | some x => simp [Bool.and_assoc]
theorem LineS.asc_mem : ∀ {l : List R} {k : Int}, L.asc k l = true → ∀ r ∈ l, L.isR r = true ∧ k < L.idR r
  | [], _, _, _, h => by cases h
  | x :: l, k, h, r, hr => by
    simp only [LineS.asc, Bool.and_eq_true, decide_eq_true_eq] at h
    rcases List.mem_cons.1 hr with rfl | hr
    · exact h.1
    · obtain ⟨h1, h2⟩ := LineS.asc_mem h.2 r hr
      exact ⟨h1, by omega⟩
theorem LineS.right_pre {a b : List R} (h : L.right (a ++ b) = true) : L.right a = true := by
  simp only [LineS.right, Bool.and_eq_true, decide_eq_true_eq, LineS.asc_app, List.length_append] at h ⊢
  exact ⟨h.1.1, by omega⟩
theorem LineS.right_isR {l : List R} (h : L.right l = true) : ∀ r ∈ l, L.isR r = true := fun r hr => by
  simp only [LineS.right, Bool.and_eq_true] at h
  exact (L.asc_mem h.1 r hr).1
theorem LineS.go_line (f : Nat) (acc : List R) (r : R) (t : List UInt8) (h : L.right (acc ++ [r]) = true) : L.go (f + 1) acc (L.line r ++ t) = L.go f (acc ++ [r]) t := by
  obtain ⟨s, h1, h2, h3⟩ := L.there r (L.right_isR h r (by simp))
  have hc : cutN (L.line r ++ t) = (s, t, true) := by rw [h1, List.append_assoc]; exact cutN_line s t h2
  have hne : L.line r ++ t ≠ [] := by rw [h1]; simp
  rw [LineS.go, if_neg hne, hc]
  simp only [h3, h, Bool.and_self, if_true]
/-- more fuel is no matter -/
theorem LineS.go_fuel : ∀ (f : Nat) (acc : List R) (s : List UInt8), s.length < f → ∀ g, s.length < g → L.go f acc s = L.go g acc s
  | 0, _, _, h, _, _ => absurd h (by omega)
  | f + 1, acc, s, h, 0, hg => absurd hg (by omega)
  | f + 1, acc, s, h, g + 1, hg => by
    rw [LineS.go, LineS.go]
    split
    · rfl
    · rename_i hne
      have hl := cutN_len s hne
      cases L.read (cutN s).1 with
      | none => rfl
      | some x =>
        simp only
        split
        · exact LineS.go_fuel f _ _ (by omega) g (by omega)
        · rfl
theorem LineS.go_text : ∀ (l acc : List R) (f : Nat) (t : List UInt8), L.right (acc ++ l) = true → (L.text l ++ t).length < f → L.go f acc (L.text l ++ t) = L.go (t.length + 1) (acc ++ l) t
  | [], acc, f, t, _, hf => by rw [L.text_nil, List.nil_append, List.append_nil]; exact L.go_fuel f acc t (by simpa [LineS.text] using hf) _ (by omega)
  | r :: l, acc, f, t, h, hf => by
    have h1 : acc ++ r :: l = (acc ++ [r]) ++ l := by simp
    rw [h1] at h
    have hr := L.right_pre h
    obtain ⟨s, e1, -, -⟩ := L.there r (L.right_isR hr r (by simp))
    have hlen : 0 < (L.line r).length := by rw [e1]; simp
    obtain ⟨f, rfl⟩ : ∃ g, f = g + 1 := ⟨f - 1, by omega⟩
    rw [L.text_cons, List.append_assoc, L.go_line f acc r _ hr, LineS.go_text l (acc ++ [r]) f t h (by rw [L.text_cons, List.append_assoc, List.length_append] at hf; omega), ← h1]
theorem LineS.parse_text {l : List R} (h : L.right l = true) (t : List UInt8) : L.parse (L.text l ++ t) = L.go (t.length + 1) l t := by
  have := L.go_text l [] ((L.text l ++ t).length + 1) t (by simpa using h) (by omega)
  simpa [LineS.parse] using this
/-- rules are read out of their text -/
theorem LineS.parse_back {l : List R} (h : L.right l = true) : L.parse (L.text l) = (some l, 0) := by
  have := L.parse_text h []
  simpa [LineS.go] using this
theorem LineS.go_some : ∀ (f : Nat) (acc : List R) (s : List UInt8) (c : List R) (n : Nat), L.right acc = true → L.go f acc s = (some c, n) → n = 0 ∧ L.right c = true ∧ ∃ l, c = acc ++ l ∧ L.text l = s
  | 0, _, _, _, _, _, h => by simp [LineS.go] at h
  | f + 1, acc, s, c, n, ha, h => by
    rw [LineS.go] at h
    split at h
    · rename_i hs
      injection h with h1 h2
      injection h1 with h1
      subst h1 h2 hs
      exact ⟨rfl, ha, [], by simp, rfl⟩
    · split at h
      · cases h
      · rename_i x hx
        split at h
        · rename_i hc
          simp only [Bool.and_eq_true] at hc
          obtain ⟨h1, h2, l, h3, h4⟩ := LineS.go_some f _ _ c n hc.2 h
          obtain ⟨e1, -⟩ := cutN_back s hc.1
          refine ⟨h1, h2, x :: l, by rw [h3]; simp, ?_⟩
          rw [L.text_cons, (L.back _ _ hx).2, h4, e1]
          simp [← e1]
        · cases h
theorem LineS.right_nil : L.right [] = true := by simp [LineS.right, LineS.asc]
/-- what is read is a text's -/
theorem LineS.parse_some {s : List UInt8} {c : List R} {n : Nat} (h : L.parse s = (some c, n)) : n = 0 ∧ L.right c = true ∧ L.text c = s := by
  obtain ⟨h1, h2, l, h3, h4⟩ := L.go_some _ _ _ _ _ L.right_nil h
  rw [List.nil_append] at h3
  subst h3
  exact ⟨h1, h2, h4⟩
/-- a line that is none -/
theorem LineS.parse_bad {l : List R} (h : L.right l = true) (w t : List UInt8) (hw : 10 ∉ w) (hn : w ≠ []) (hr : L.read w = none) : L.parse (L.text l ++ (w ++ 10 :: t)) = (none, l.length) ∧ L.parse (L.text l ++ w) = (none, l.length) := by
  refine ⟨?_, ?_⟩
  · rw [L.parse_text h, LineS.go, if_neg (by simp), cutN_line w t hw]
    simp only [hr]
  · rw [L.parse_text h, LineS.go, if_neg hn, cutN_none w hw]
    simp only [hr]
/-- two texts, one behind the other -/
theorem LineS.parse_join {l m : List R} (hl : L.right l = true) (hm : L.right m = true) : (L.right (l ++ m) = true → L.parse (L.text l ++ L.text m) = (some (l ++ m), 0)) ∧ (¬ L.right (l ++ m) = true → (L.parse (L.text l ++ L.text m)).1 = none) := by
  rw [← L.text_app]
  refine ⟨fun h => L.parse_back h, fun h => ?_⟩
  cases e : L.parse (L.text (l ++ m)) with
  | mk o n =>
    cases o with
    | none => rfl
    | some c =>
      exfalso
      obtain ⟨-, h2, h3⟩ := L.parse_some e
      -- the same text, two lists of rules: both are read line by line
      have key : ∀ (a b : List R), (∀ r ∈ a, L.isR r = true) → (∀ r ∈ b, L.isR r = true) → L.text a = L.text b → a = b := by
        intro a
        induction a with
        | nil =>
          intro b _ hb e
          cases b with
          | nil => rfl
          | cons r b =>
            obtain ⟨s, e1, -, -⟩ := L.there r (hb r (by simp))
            rw [L.text_nil, L.text_cons, e1] at e
            simp at e
        | cons x a ih =>
          intro b ha hb e
          obtain ⟨s, e1, n1, r1⟩ := L.there x (ha x (by simp))
          cases b with
          | nil =>
            rw [L.text_nil, L.text_cons, e1] at e
            simp at e
          | cons y b =>
            obtain ⟨s', e2, n2, r2⟩ := L.there y (hb y (by simp))
            rw [L.text_cons, L.text_cons, e1, e2, List.append_assoc, List.append_assoc] at e
            have c1 := cutN_line s (L.text a) n1
            have c2 := cutN_line s' (L.text b) n2
            simp only [List.singleton_append] at e
            rw [e, c2] at c1
            injection c1 with g1 g2
            injection g2 with g2 g3
            subst g1
            rw [r1] at r2
            injection r2 with r2
            subst r2
            rw [ih b (fun r h => ha r (by simp [h])) (fun r h => hb r (by simp [h])) g2.symm]
      have hlm : ∀ r ∈ l ++ m, L.isR r = true := fun r hr => by
        rcases List.mem_append.1 hr with h | h
        · exact L.right_isR hl r h
        · exact L.right_isR hm r h
      have := key c (l ++ m) (L.right_isR h2) hlm h3
      subst this
      exact h h2
/-- whether two lists are one -/
theorem LineS.right_join {l m : List R} (hl : L.right l = true) (hm : L.right m = true) : L.right (l ++ m) = (decide ((l.getLast?.map L.idR).getD 0 < (m.head?.map L.idR).getD 1000000 ∨ l = [] ∨ m = []) && decide ((l ++ m).length ≤ 8)) := by
  simp only [LineS.right, Bool.and_eq_true, decide_eq_true_eq] at hl hm
  unfold LineS.right
  rw [LineS.asc_app, hl.1, Bool.true_and]
  congr 1
  cases m with
  | nil => simp [LineS.asc]
  | cons r m =>
    simp only [LineS.asc, Bool.and_eq_true, decide_eq_true_eq] at hm
    simp only [LineS.asc, hm.1.1.1, hm.1.2, Bool.true_and, Bool.and_true, List.head?_cons, Option.map_some, Option.getD_some]
    cases l with
    | nil =>
      have := hm.1.1.2
      simp [this]
    | cons x l => simp
end
end Go.Proofs.YtmmdpjliknmhgaaGreatDoor
