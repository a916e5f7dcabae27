/- Joined: Kit; Rep; RepOwn; RepOpen; SpcPlain; WldPlain; FewPlain; WldRows; Spx; SpxLaw; SpxTurn; SpxBound; SpxKept -/
import Derived.Test.YthclfkhakmcnbaaGreatDoorChecked
import Derived.WalkKit
import Derived.WalkSpells
import Derived.WalkLawsBesides
import Derived.Deep.QuietTactic
import Derived.BigQuiet
import Derived.Lib.Hide
import Derived.Lib.SmallJoins
import Derived.Lib.Strings
import Derived.OwnWalk
import Derived.Laws.OwnMore
import Derived.Deep.Slices
import Derived.Deep.Fields
import Derived.SliceStrings
import Derived.ChangeSame
import Derived.Sort.Walk0
/- Small lemmas on no program, used by this seat's walks. -/
namespace Go.Proofs.YthclfkhakmcnbaaGreatDoor
open Go.RowKit
theorem ret_bool {a b : Bool} (h : a = b) : Ending.returned (.bool a) = .returned (.bool b) := by rw [h]
theorem ret_int {k : IntKind} {a b : Int} (h : a = b) : Ending.returned (.int k a) = .returned (.int k b) := by rw [h]
theorem ret_str {a b : List UInt8} (h : a = b) : Ending.returned (.string ⟨a.toArray⟩) = .returned (.string ⟨b.toArray⟩) := by rw [h]
theorem drop_cons {α : Type} (l : List α) (k : Nat) (h : k < l.length) : l.drop k = l[k] :: l.drop (k + 1) := List.drop_eq_getElem_cons h
theorem ba_size (l : List UInt8) : (ByteArray.mk l.toArray).size = l.length := by simp [ByteArray.size]
@[go_sem] theorem ba_get (l : List UInt8) (k : Nat) (h : k < (ByteArray.mk l.toArray).size) : (ByteArray.mk l.toArray)[k] = l[k]'(by rw [← ba_size]; exact h) := by
  simp [ByteArray.getElem_eq_getElem_data]
@[go_sem] theorem ba_append (a b : List UInt8) : (ByteArray.mk a.toArray) ++ (ByteArray.mk b.toArray) = ByteArray.mk (a ++ b).toArray := by
  have h := Joins.data_append (ByteArray.mk a.toArray) (ByteArray.mk b.toArray)
  have := Lib.mk_data ((ByteArray.mk a.toArray) ++ (ByteArray.mk b.toArray))
  rw [← this, h]
@[go_sem] theorem ba_extract (l : List UInt8) (a b : Nat) : (ByteArray.mk l.toArray).extract a b = ByteArray.mk ((l.drop a).take (b - a)).toArray := by
  rw [Lib.extract_eq]
@[go_sem] theorem ba_empty : ByteArray.empty = ByteArray.mk #[] := rfl
theorem sum_i (k : Nat) (j : Int) (m : Nat) (hm : (m : Int) = k + j) (h : m ≤ 9223372036854775807) : IntKind.i64.wrap ((k : Int) + j) = k + j ∧ (0 : Int) ≤ k + j ∧ ((k : Int) + j).toNat = m :=
  ⟨IntWalk.i64_in _ (by omega), by omega, by omega⟩
theorem u8_lt (a : UInt8) : (0 : Int) ≤ a.toNat ∧ (a.toNat : Int) ≤ 255 := ⟨by omega, by have := a.toNat_lt; omega⟩
theorem u8_eq {a b : UInt8} (h : a.toNat = b.toNat) : a = b := UInt8.toNat_inj.1 h
theorem fold_push (l : List UInt8) : ∀ (pre : List UInt8), (l.map fun c => (c.toNat : Int)).foldl (fun r n => r.push (UInt8.ofNat n.toNat)) (⟨pre.toArray⟩ : ByteArray) = ⟨(pre ++ l).toArray⟩ := by
  induction l with
  | nil => intro pre; simp
  | cons c l ih =>
    intro pre
    have h : (ByteArray.mk pre.toArray).push (UInt8.ofNat ((c.toNat : Int)).toNat) = ⟨(pre ++ [c]).toArray⟩ := by simp [ByteArray.push]
    rw [List.map_cons, List.foldl_cons, h, ih]; simp
/-- 'string(bytes)', the cells being known. -/
theorem conv_bytes {P : Program} (W : World) (src dst e : TypeId) (a : Addr) (cap : Nat) (l : List UInt8) (hs : P.underlying src = some (.slice e)) (he : P.underlying e = some (.int .u8)) (hd : P.underlying dst = some .string)
    (h : ∀ (j : Nat) (hj : j < l.length), W.cell? (a.add j) = some (.int .u8 l[j].toNat)) :
    (convert src dst (.slice (some a) l.length cap)).run P W = .ok (.string ⟨l.toArray⟩) W := by
  rw [run_convert_bytes_string W src dst e _ _ _ hs he hd]
  have hl := run_loadCells_list (P := P) (w := W) a ((l.map fun c => (c.toNat : Int)).map (Value.int .u8)) (by
    intro j v hv
    simp only [List.map_map, List.getElem?_map, Option.map_eq_some_iff] at hv
    obtain ⟨c, hc, rfl⟩ := hv
    obtain ⟨hj, rfl⟩ := List.getElem?_eq_some_iff.1 hc
    exact h j hj)
  rw [List.length_map, List.length_map] at hl
  rw [run_bytesToString W a _ cap _ hl]
  have := fold_push l []
  simp only [List.nil_append] at this
  rw [← this]; rfl
/-- 'string([]byte{c})' -/
theorem conv_byte1 {P : Program} (W : World) (src dst e : TypeId) (c : UInt8) (hs : P.underlying src = some (.slice e)) (he : P.underlying e = some (.int .u8)) (hd : P.underlying dst = some .string) :
    (convert src dst (.slice (some ⟨W.heap.size, 0, none⟩) 1 1)).run P (W.alloc (.cells #[.int .u8 c.toNat] e)) = .ok (.string ⟨#[c]⟩) (W.alloc (.cells #[.int .u8 c.toNat] e)) :=
  conv_bytes (W.alloc (.cells #[.int .u8 c.toNat] e)) src dst e ⟨W.heap.size, 0, none⟩ 1 [c] hs he hd (by
    intro j hj
    obtain rfl : j = 0 := by simpa using hj
    simp [Addr.add])
/-- Block b holds just the cells cs, of type t, none frozen. -/
def Blk (W : World) (b : Nat) (cs : Array Value) (t : TypeId) : Prop := W.heap[b]? = some (.cells cs t (0, 0))
theorem Blk.lt {W : World} {b : Nat} {cs : Array Value} {t : TypeId} (h : Blk W b cs t) : b < W.heap.size := (Array.getElem?_eq_some_iff.1 h).1
theorem Blk.cell {W : World} {b : Nat} {cs : Array Value} {t : TypeId} (h : Blk W b cs t) (i : Nat) : W.cell? ⟨b, i, none⟩ = cs[i]? := by simp [World.cell?, show W.heap[b]? = _ from h]
theorem Blk.frozen {W : World} {b : Nat} {cs : Array Value} {t : TypeId} (h : Blk W b cs t) (i : Nat) : W.frozen? ⟨b, i, none⟩ = false := by simp [World.frozen?, show W.heap[b]? = _ from h]
theorem Blk.new (W : World) (cs : Array Value) (t : TypeId) : Blk (W.alloc (.cells cs t)) W.heap.size cs t := by
  show (W.heap.push _)[W.heap.size]? = _
  simp
theorem Blk.kept {W W' : World} {row : Option Nat} {b : Nat} {cs : Array Value} {t : TypeId} (h : Blk W b cs t) (hg : W.grownBy W' row) (hne : some b ≠ row) : Blk W' b cs t := (hg.block b h.lt hne).trans h
theorem Blk.alloc {W : World} {b : Nat} {cs : Array Value} {t : TypeId} (h : Blk W b cs t) (o : Obj) : Blk (W.alloc o) b cs t := h.kept (World.grownBy_alloc W o none) (by simp)
theorem Blk.below {n : Nat} {W W' : World} {b : Nat} {cs : Array Value} {t : TypeId} (h : Blk W b cs t) (hb : Below n W W') (hn : b < n) : Blk W' b cs t := (hb.block b hn).trans h
theorem Blk.set {W : World} {b : Nat} {cs : Array Value} {t : TypeId} (i : Nat) (v : Value) (h : Blk W b cs t) : Blk (W.setCell ⟨b, i, none⟩ v) b (cs.setIfInBounds i v) t := by
  obtain ⟨hlt, hk⟩ := Array.getElem?_eq_some_iff.1 h
  show (W.heap.modify b _)[b]? = _
  rw [Array.getElem?_eq_getElem (by rw [Array.size_modify]; exact hlt), Array.getElem_modify_self, hk]
  rfl
theorem Blk.drewN {W : World} {b : Nat} {cs : Array Value} {t : TypeId} (h : Blk W b cs t) (n : Nat) : Blk (W.drewN n) b cs t := h
theorem Blk.other {W : World} {b b' : Nat} {cs : Array Value} {t : TypeId} (i : Nat) (v : Value) (h : Blk W b cs t) (hne : b ≠ b') : Blk (W.setCell ⟨b', i, none⟩ v) b cs t := (Below.heap_setCell W ⟨b', i, none⟩ v b hne).trans h
theorem grownBy_setCellB (W : World) (b i : Nat) (v : Value) : W.grownBy (W.setCell ⟨b, i, none⟩ v) (some b) :=
  ⟨rfl, rfl, rfl, by simp [World.setCell], fun k _ hk => Below.heap_setCell _ _ _ k (fun e => hk (by rw [e]))⟩
theorem grownBy_t {a b c : World} {row : Option Nat} (h : a.grownBy b row) (k : b.grownBy c row) : a.grownBy c row :=
  ⟨k.os.trans h.os, k.tape.trans h.tape, k.output.trans h.output, Nat.le_trans h.size k.size, fun i hi hr => (k.block i (Nat.lt_of_lt_of_le hi h.size) hr).trans (h.block i hi hr)⟩
theorem Blk_at {W : World} {b : Nat} {cs : Array Value} {t : TypeId} (h : b = W.heap.size) : Blk (W.alloc (.cells cs t)) b cs t := by subst h; exact Blk.new _ _ _
theorem Blk_at2 {W : World} {b : Nat} {cs : Array Value} {t : TypeId} {o : Obj} (h : b = W.heap.size) : Blk ((W.alloc (.cells cs t)).alloc o) b cs t := by subst h; exact (Blk.new _ _ _).alloc _
theorem Blk.drew {W : World} {b : Nat} {cs : Array Value} {t : TypeId} (h : Blk W b cs t) : Blk W.drew b cs t := h
theorem grown_cells {w w' : World} {b : Nat} (h : w.grownBy w' (some b)) : (∀ k o, k < w.heap.size → k ≠ b → w'.cell? ⟨k, o, none⟩ = w.cell? ⟨k, o, none⟩) ∧ (∀ k o, k < w.heap.size → k ≠ b → w'.frozen? ⟨k, o, none⟩ = w.frozen? ⟨k, o, none⟩) :=
  ⟨fun k o hk hb => World.cell?_of_block (w := w) (a := ⟨k, o, none⟩) (h.block k hk (by simpa using hb)), fun k o hk hb => World.frozen?_of_block (w := w) (a := ⟨k, o, none⟩) (h.block k hk (by simpa using hb))⟩
theorem below_cells {w w' : World} {n : Nat} (h : Below n w w') : (∀ k o, k < n → w'.cell? ⟨k, o, none⟩ = w.cell? ⟨k, o, none⟩) ∧ (∀ k o, k < n → w'.frozen? ⟨k, o, none⟩ = w.frozen? ⟨k, o, none⟩) :=
  ⟨fun k o hk => h.cell (p := ⟨k, o, none⟩) hk, fun k o hk => h.frozen (p := ⟨k, o, none⟩) hk⟩
theorem grown_of_below {w w' : World} (h : Below w.heap.size w w') (row : Option Nat) : w.grownBy w' row := ⟨h.os, h.tape, h.output, h.size, fun k hk _ => h.block k hk⟩
end Go.Proofs.YthclfkhakmcnbaaGreatDoor
/- Lists in memory: what a slice value reads as (views), and what a call made itself (own rows). On no program. -/
namespace Go.Proofs.YthclfkhakmcnbaaGreatDoor
open Go.RowKit
/-- every cell that can be read is there still -/
def KeepC (W W' : World) : Prop := W.heap.size ≤ W'.heap.size ∧ ∀ b o u, W.cell? ⟨b, o, none⟩ = some u → W'.cell? ⟨b, o, none⟩ = some u
theorem KeepC.refl (W : World) : KeepC W W := ⟨Nat.le_refl _, fun _ _ _ h => h⟩
theorem KeepC.trans {A B C : World} (h : KeepC A B) (k : KeepC B C) : KeepC A C := ⟨Nat.le_trans h.1 k.1, fun b o u x => k.2 b o u (h.2 b o u x)⟩
theorem KeepC.of_below {W W' : World} (hb : Below W.heap.size W W') : KeepC W W' := ⟨hb.size, fun b o u h => by
  have hlt := World.block_lt_of_cell? W _ h
  exact (hb.cell (p := ⟨b, o, none⟩) hlt).trans h⟩
theorem KeepC.drewN (W : World) (n : Nat) : KeepC W (W.drewN n) := ⟨Nat.le_refl _, fun _ _ _ h => h⟩
theorem KeepC.alloc (W : World) (o : Obj) : KeepC W (W.alloc o) := .of_below ((Below.refl _ W).alloc (Nat.le_refl _) o)
/-- a slice value of n elements of k cells each reads as the cells cs -/
def SlR (k : Nat) (W : World) (v : Value) (n : Nat) (cs : List Value) : Prop :=
  cs.length = n * k ∧ ∃ a cap, v = .slice a n cap ∧ n ≤ cap ∧ (n = 0 ∨ ∃ b o, a = some ⟨b, o, none⟩ ∧ b < W.heap.size ∧ ∀ j (hj : j < cs.length), W.cell? ⟨b, o + j, none⟩ = some cs[j])
theorem SlR.keep {k : Nat} {W W' : World} {v : Value} {n : Nat} {cs : List Value} (h : SlR k W v n cs) (hk : KeepC W W') : SlR k W' v n cs := by
  obtain ⟨h1, a, cap, h2, h3, h4⟩ := h
  refine ⟨h1, a, cap, h2, h3, h4.imp_right ?_⟩
  rintro ⟨b, o, e, hb, hc⟩
  exact ⟨b, o, e, Nat.lt_of_lt_of_le hb hk.1, fun j hj => hk.2 _ _ _ (hc j hj)⟩
/-- nonempty: where it lies -/
theorem SlR.pos {k : Nat} {W : World} {v : Value} {n : Nat} {cs : List Value} (h : SlR k W v n cs) (hn : 0 < n) : ∃ b o cap, v = .slice (some ⟨b, o, none⟩) n cap ∧ n ≤ cap ∧ b < W.heap.size ∧ ∀ j (hj : j < cs.length), W.cell? ⟨b, o + j, none⟩ = some cs[j] := by
  obtain ⟨_, a, cap, rfl, h3, h4 | ⟨b, o, rfl, hb, hc⟩⟩ := h
  · omega
  · exact ⟨b, o, cap, rfl, h3, hb, hc⟩
theorem SlR.zero {k : Nat} {W : World} {v : Value} {cs : List Value} (h : SlR k W v 0 cs) : cs = [] ∧ ∃ a cap, v = .slice a 0 cap := by
  obtain ⟨h1, a, cap, rfl, _⟩ := h
  exact ⟨List.length_eq_zero_iff.1 (by simpa using h1), a, cap, rfl⟩
theorem SlR.nil (k : Nat) (W : World) : SlR k W (.slice none 0 0) 0 [] := ⟨by simp, none, 0, rfl, Nat.le_refl _, .inl rfl⟩
theorem SlR.of_row {W : World} {base : Nat} {e : TypeId} {k : Nat} {v : Value} {n : Nat} {cs : List Value} (h : W.ownsRow base e k v n cs) : SlR k W v n cs := by
  obtain ⟨h1, h2⟩ := h
  refine ⟨h1, ?_⟩
  rcases h2 with ⟨rfl, rfl⟩ | ⟨g, cap, cur, rfl, hb, hh, hc, _, _, hx⟩
  · exact ⟨Option.none, 0, rfl, Nat.le_refl _, .inl rfl⟩
  · refine ⟨Option.some ⟨g, 0, Option.none⟩, cap, rfl, hc, .inr ⟨g, 0, rfl, (Array.getElem?_eq_some_iff.1 hh).1, fun j hj => ?_⟩⟩
    obtain ⟨u, hu⟩ : ∃ u, u = cs[j] := ⟨_, rfl⟩
    rw [← hu]
    have e1 : cs[j]? = Option.some u := by rw [hu]; exact List.getElem?_eq_getElem hj
    clear hu
    rw [← hx, List.getElem?_take] at e1
    split at e1
    · simp [World.cell?, hh]; simpa using e1
    · cases e1
/-- elements' rows, one behind the other -/
def Rows {α : Type} (E : α → List Value → Prop) : List α → List Value → Prop
  | [], cs => cs = []
  | x :: xs, cs => ∃ c r, cs = c ++ r ∧ E x c ∧ Rows E xs r
theorem Rows.mono {α : Type} {E F : α → List Value → Prop} : ∀ {xs : List α} {cs : List Value}, (∀ x ∈ xs, ∀ c, E x c → F x c) → Rows E xs cs → Rows F xs cs
  | [], _, _, h => h
  | x :: xs, _, hm, ⟨c, r, e, h1, h2⟩ => ⟨c, r, e, hm x (by simp) c h1, Rows.mono (fun y hy => hm y (by simp [hy])) h2⟩
theorem Rows.append {α : Type} {E : α → List Value → Prop} : ∀ {xs ys : List α} {cs ds : List Value}, Rows E xs cs → Rows E ys ds → Rows E (xs ++ ys) (cs ++ ds)
  | [], _, cs, _, h, k => by have h' : cs = [] := h; subst h'; exact k
  | x :: xs, _, _, _, ⟨c, r, e, h1, h2⟩, k => ⟨c, r ++ _, by rw [e, List.append_assoc], h1, Rows.append h2 k⟩
theorem Rows.one {α : Type} {E : α → List Value → Prop} {x : α} {c : List Value} (h : E x c) : Rows E [x] c := ⟨c, [], by simp, h, rfl⟩
theorem Rows.length {α : Type} {E : α → List Value → Prop} {k : Nat} (hk : ∀ x c, E x c → c.length = k) : ∀ {xs : List α} {cs : List Value}, Rows E xs cs → cs.length = xs.length * k
  | [], cs, h => by have h' : cs = [] := h; subst h'; simp
  | x :: xs, _, ⟨c, r, e, h1, h2⟩ => by
    subst e
    rw [List.length_append, hk x c h1, Rows.length hk h2, List.length_cons, Nat.add_mul]; omega
/-- the i-th element's row -/
theorem Rows.at {α : Type} {E : α → List Value → Prop} {k : Nat} (hk : ∀ x c, E x c → c.length = k) : ∀ {xs : List α} {cs : List Value}, Rows E xs cs → ∀ (i : Nat) (hi : i < xs.length), ∃ c, E xs[i] c ∧ ∀ j, j < k → cs[i * k + j]? = c[j]?
  | [], _, _, i, hi => absurd hi (by simp)
  | x :: xs, _, ⟨c, r, e, h1, h2⟩, i, hi => by
    subst e
    have hl := hk x c h1
    cases i with
    | zero => exact ⟨c, h1, fun j hj => by rw [Nat.zero_mul, Nat.zero_add, List.getElem?_append_left (by omega)]⟩
    | succ i =>
      obtain ⟨d, hd, hj⟩ := Rows.at hk h2 i (by simpa using hi)
      refine ⟨d, hd, fun j hjk => ?_⟩
      rw [← hj j hjk, List.getElem?_append_right (by rw [hl, Nat.add_mul]; omega), hl]
      congr 1
      rw [Nat.add_mul]; omega
theorem Rows.take {α : Type} {E : α → List Value → Prop} {k : Nat} (hk : ∀ x c, E x c → c.length = k) : ∀ {xs : List α} {cs : List Value} (n : Nat), Rows E xs cs → Rows E (xs.take n) (cs.take (n * k))
  | _, _, 0, _ => by simp [Rows]
  | [], cs, n + 1, h => by have h' : cs = [] := h; subst h'; simp [Rows]
  | x :: xs, _, n + 1, ⟨c, r, e, h1, h2⟩ => by
    subst e
    refine ⟨c, r.take (n * k), ?_, h1, Rows.take hk n h2⟩
    rw [List.take_append, hk x c h1, List.take_of_length_le (by rw [hk x c h1, Nat.add_mul]; omega)]
    congr 2
    rw [Nat.add_mul]; omega
theorem Rows.drop {α : Type} {E : α → List Value → Prop} {k : Nat} (hk : ∀ x c, E x c → c.length = k) : ∀ {xs : List α} {cs : List Value} (n : Nat), Rows E xs cs → Rows E (xs.drop n) (cs.drop (n * k))
  | _, _, 0, h => by simpa using h
  | [], cs, n + 1, h => by have h' : cs = [] := h; subst h'; simp [Rows]
  | x :: xs, _, n + 1, ⟨c, r, e, h1, h2⟩ => by
    subst e
    rw [List.drop_succ_cons, List.drop_append, hk x c h1, List.drop_of_length_le (l := c) (by rw [hk x c h1, Nat.add_mul]; omega), List.nil_append, show (n + 1) * k - k = n * k by rw [Nat.add_mul]; omega]
    exact Rows.drop hk n h2

/-! ### texts -/
def strsC (l : List (List UInt8)) : List Value := l.map fun s => Value.string ⟨s.toArray⟩
theorem strsC_len (l : List (List UInt8)) : (strsC l).length = l.length := by simp [strsC]
def StrsV (W : World) (v : Value) (l : List (List UInt8)) : Prop := SlR 1 W v l.length (strsC l)
theorem StrsV.keep {W W' : World} {v : Value} {l : List (List UInt8)} (h : StrsV W v l) (hk : KeepC W W') : StrsV W' v l := SlR.keep h hk

/-! ### objects -/
structure ObjD where
  name : List UInt8
  kind : Int
  data : List UInt8
  max : Int
  items : List (List UInt8)
def ObjC (W : World) (x : ObjD) (c : List Value) : Prop := ∃ lv, c = [.string ⟨x.name.toArray⟩, .int .i64 x.kind, .string ⟨x.data.toArray⟩, .int .i64 x.max, lv] ∧ StrsV W lv x.items
theorem ObjC.len {W : World} (x : ObjD) (c : List Value) (h : ObjC W x c) : c.length = 5 := by obtain ⟨lv, rfl, _⟩ := h; rfl
theorem ObjC.keep {W W' : World} {x : ObjD} {c : List Value} (h : ObjC W x c) (hk : KeepC W W') : ObjC W' x c := by obtain ⟨lv, e, h⟩ := h; exact ⟨lv, e, h.keep hk⟩
def ObjsV (W : World) (v : Value) (l : List ObjD) : Prop := ∃ cs, SlR 5 W v l.length cs ∧ Rows (ObjC W) l cs
theorem ObjsV.keep {W W' : World} {v : Value} {l : List ObjD} (h : ObjsV W v l) (hk : KeepC W W') : ObjsV W' v l := by
  obtain ⟨cs, h1, h2⟩ := h
  exact ⟨cs, h1.keep hk, h2.mono fun x _ c hc => hc.keep hk⟩
theorem ObjsV.zero {W : World} {v : Value} (h : ObjsV W v []) : ∃ a cap, v = .slice a 0 cap := by obtain ⟨cs, h1, _⟩ := h; exact (SlR.zero h1).2
theorem ObjsV.nil (W : World) : ObjsV W (.slice Option.none 0 0) [] := ⟨[], SlR.nil 5 W, rfl⟩
/-- where the objects lie, and what each reads as -/
theorem ObjsV.pos {W : World} {v : Value} {l : List ObjD} (h : ObjsV W v l) (hn : 0 < l.length) : ∃ b o cap, v = .slice (some ⟨b, o, Option.none⟩) l.length cap ∧ l.length ≤ cap ∧ b < W.heap.size ∧
    ∀ i (hi : i < l.length), W.cell? ⟨b, o + i * 5, Option.none⟩ = Option.some (.string ⟨l[i].name.toArray⟩) ∧ W.cell? ⟨b, o + i * 5 + 1, Option.none⟩ = Option.some (.int .i64 l[i].kind) ∧ W.cell? ⟨b, o + i * 5 + 2, Option.none⟩ = Option.some (.string ⟨l[i].data.toArray⟩) ∧
      W.cell? ⟨b, o + i * 5 + 3, Option.none⟩ = Option.some (.int .i64 l[i].max) ∧ ∃ lv, W.cell? ⟨b, o + i * 5 + 4, Option.none⟩ = Option.some lv ∧ StrsV W lv l[i].items := by
  obtain ⟨cs, h1, h2⟩ := h
  obtain ⟨b, o, cap, rfl, hc, hb, hcell⟩ := h1.pos hn
  have hlen := Rows.length ObjC.len h2
  refine ⟨b, o, cap, rfl, hc, hb, fun i hi => ?_⟩
  obtain ⟨c, ⟨lv, rfl, hlv⟩, hj⟩ := Rows.at ObjC.len h2 i hi
  have at_ : ∀ j u, j < 5 → cs[i * 5 + j]? = Option.some u → W.cell? ⟨b, o + i * 5 + j, Option.none⟩ = Option.some u := by
    intro j u hj5 hu
    obtain ⟨hlt, rfl⟩ := List.getElem?_eq_some_iff.1 hu
    rw [Nat.add_assoc]; exact hcell _ hlt
  refine ⟨?_, ?_, ?_, ?_, lv, ?_, hlv⟩
  · exact at_ 0 _ (by omega) (hj 0 (by omega))
  · exact at_ 1 _ (by omega) (hj 1 (by omega))
  · exact at_ 2 _ (by omega) (hj 2 (by omega))
  · exact at_ 3 _ (by omega) (hj 3 (by omega))
  · exact at_ 4 _ (by omega) (hj 4 (by omega))

/-! ### parts -/
structure PartD where
  lv : Int
  cs : Nat
  ig : Int
  l : List ObjD
def PartC (W : World) (x : PartD) (c : List Value) : Prop := ∃ ov, c = [.int .i64 x.lv, .int .u64 x.cs, .int .i64 x.ig, ov] ∧ ObjsV W ov x.l
theorem PartC.len {W : World} (x : PartD) (c : List Value) (h : PartC W x c) : c.length = 4 := by obtain ⟨lv, rfl, _⟩ := h; rfl
theorem PartC.keep {W W' : World} {x : PartD} {c : List Value} (h : PartC W x c) (hk : KeepC W W') : PartC W' x c := by obtain ⟨lv, e, h⟩ := h; exact ⟨lv, e, h.keep hk⟩
def PartsV (W : World) (v : Value) (l : List PartD) : Prop := ∃ cs, SlR 4 W v l.length cs ∧ Rows (PartC W) l cs
theorem PartsV.keep {W W' : World} {v : Value} {l : List PartD} (h : PartsV W v l) (hk : KeepC W W') : PartsV W' v l := by
  obtain ⟨cs, h1, h2⟩ := h
  exact ⟨cs, h1.keep hk, h2.mono fun x _ c hc => hc.keep hk⟩
theorem PartsV.zero {W : World} {v : Value} (h : PartsV W v []) : ∃ a cap, v = .slice a 0 cap := by obtain ⟨cs, h1, _⟩ := h; exact (SlR.zero h1).2
theorem PartsV.nil (W : World) : PartsV W (.slice Option.none 0 0) [] := ⟨[], SlR.nil 4 W, rfl⟩
theorem PartsV.pos {W : World} {v : Value} {l : List PartD} (h : PartsV W v l) (hn : 0 < l.length) : ∃ b o cap, v = .slice (some ⟨b, o, Option.none⟩) l.length cap ∧ l.length ≤ cap ∧ b < W.heap.size ∧
    ∀ i (hi : i < l.length), W.cell? ⟨b, o + i * 4, Option.none⟩ = Option.some (.int .i64 l[i].lv) ∧ W.cell? ⟨b, o + i * 4 + 1, Option.none⟩ = Option.some (.int .u64 l[i].cs) ∧ W.cell? ⟨b, o + i * 4 + 2, Option.none⟩ = Option.some (.int .i64 l[i].ig) ∧
      ∃ ov, W.cell? ⟨b, o + i * 4 + 3, Option.none⟩ = Option.some ov ∧ ObjsV W ov l[i].l := by
  obtain ⟨cs, h1, h2⟩ := h
  obtain ⟨b, o, cap, rfl, hc, hb, hcell⟩ := h1.pos hn
  refine ⟨b, o, cap, rfl, hc, hb, fun i hi => ?_⟩
  obtain ⟨c, ⟨ov, rfl, hov⟩, hj⟩ := Rows.at PartC.len h2 i hi
  have at_ : ∀ j u, j < 4 → cs[i * 4 + j]? = Option.some u → W.cell? ⟨b, o + i * 4 + j, Option.none⟩ = Option.some u := by
    intro j u hj5 hu
    obtain ⟨hlt, rfl⟩ := List.getElem?_eq_some_iff.1 hu
    rw [Nat.add_assoc]; exact hcell _ hlt
  refine ⟨?_, ?_, ?_, ov, ?_, hov⟩
  · exact at_ 0 _ (by omega) (hj 0 (by omega))
  · exact at_ 1 _ (by omega) (hj 1 (by omega))
  · exact at_ 2 _ (by omega) (hj 2 (by omega))
  · exact at_ 3 _ (by omega) (hj 3 (by omega))
end Go.Proofs.YthclfkhakmcnbaaGreatDoor
/- Lists that a call made itself: rows of its own, down to the texts. On no program. -/
namespace Go.Proofs.YthclfkhakmcnbaaGreatDoor
open Go.RowKit
theorem own_ne {W : World} {b1 b2 e1 e2 k1 k2 n1 n2 : Nat} {v1 v2 : Value} {c1 c2 : List Value} (h1 : W.ownsRow b1 e1 k1 v1 n1 c1) (h2 : W.ownsRow b2 e2 k2 v2 n2 c2) (hne : e1 ≠ e2) : v1.ownBlock = none ∨ v1.ownBlock ≠ v2.ownBlock := by
  rcases h1.2 with ⟨rfl, _⟩ | ⟨g, cap, cur, rfl, _, hh, _⟩
  · exact .inl rfl
  · rcases h2.2 with ⟨rfl, _⟩ | ⟨g2, cap2, cur2, rfl, _, hh2, _⟩
    · exact .inr (by simp [Value.ownBlock])
    · refine .inr fun e => ?_
      have e' : g = g2 := by simpa [Value.ownBlock] using e
      subst e'
      rw [hh] at hh2
      cases hh2
      exact hne rfl
/-- the block that a step writes is none, or holds cells of another type -/
def RowT (W : World) (ts : List TypeId) (row : Option Nat) : Prop := ∀ g, row = some g → ∃ cur t fr, W.heap[g]? = some (.cells cur t fr) ∧ t ∉ ts
theorem RowT.none (W : World) (ts : List TypeId) : RowT W ts none := fun g h => by cases h
theorem RowT.of_row {W : World} {b e k n : Nat} {v : Value} {c : List Value} (h : W.ownsRow b e k v n c) (ts : List TypeId) (hne : e ∉ ts) : RowT W ts v.ownBlock := by
  intro g hg
  rcases h.2 with ⟨rfl, _⟩ | ⟨g', cap, cur, rfl, _, hh, _⟩
  · simp [Value.ownBlock] at hg
  · obtain rfl : g' = g := by simpa [Value.ownBlock] using hg
    exact ⟨cur, e, _, hh, hne⟩
theorem RowT.blk {W : World} {b : Nat} {cs : Array Value} {t : TypeId} (h : Blk W b cs t) (ts : List TypeId) (hne : t ∉ ts) : RowT W ts (some b) := fun g e => by cases e; exact ⟨cs, t, _, h, hne⟩
theorem RowT.mono {W : World} {ts us : List TypeId} {row : Option Nat} (h : RowT W ts row) (hs : ∀ t ∈ us, t ∈ ts) : RowT W us row := fun g e => by
  obtain ⟨c, t, f, h1, h2⟩ := h g e
  exact ⟨c, t, f, h1, fun m => h2 (hs t m)⟩
theorem own_kept {W W' : World} {b e k n : Nat} {v : Value} {c : List Value} {row : Option Nat} (h : W.ownsRow b e k v n c) (hg : W.grownBy W' row) (hr : RowT W [e] row) : W'.ownsRow b e k v n c := by
  refine h.kept hg ?_
  rcases h.2 with ⟨rfl, _⟩ | ⟨g, cap, cur, rfl, _, hh, _⟩
  · exact .inl rfl
  · refine .inr fun e1 => ?_
    obtain ⟨cur2, t, fr, h2, h3⟩ := hr g e1.symm
    rw [hh] at h2
    cases h2
    exact h3 (by simp)
theorem own_base {W : World} {b b' e k n : Nat} {v : Value} {c : List Value} (h : W.ownsRow b e k v n c) (hb : b' ≤ b) : W.ownsRow b' e k v n c := by
  obtain ⟨h1, h2⟩ := h
  refine ⟨h1, ?_⟩
  rcases h2 with h2 | ⟨g, cap, cur, hv, hg, hr⟩
  · exact .inl h2
  · exact .inr ⟨g, cap, cur, hv, Nat.le_trans hb hg, hr⟩
/-! ### texts, objects, parts of a call's own -/
def StrsO (base tS : Nat) (W : World) (v : Value) (l : List (List UInt8)) : Prop := W.ownsRow base tS 1 v l.length (strsC l)
theorem StrsO.view {base tS : Nat} {W : World} {v : Value} {l : List (List UInt8)} (h : StrsO base tS W v l) : StrsV W v l := SlR.of_row h
theorem StrsO.nil (base tS : Nat) (W : World) : StrsO base tS W (.slice none 0 0) [] := World.ownsRow_nil _ _ _ _
def ObjO (base tS : Nat) (W : World) (x : ObjD) (c : List Value) : Prop := ∃ lv, c = [.string ⟨x.name.toArray⟩, .int .i64 x.kind, .string ⟨x.data.toArray⟩, .int .i64 x.max, lv] ∧ StrsO base tS W lv x.items
theorem ObjO.len {base tS : Nat} {W : World} (x : ObjD) (c : List Value) (h : ObjO base tS W x c) : c.length = 5 := by obtain ⟨lv, rfl, _⟩ := h; rfl
theorem ObjO.view {base tS : Nat} {W : World} {x : ObjD} {c : List Value} (h : ObjO base tS W x c) : ObjC W x c := by obtain ⟨lv, e, h⟩ := h; exact ⟨lv, e, h.view⟩
theorem ObjO.kept {base tS : Nat} {W W' : World} {row : Option Nat} {x : ObjD} {c : List Value} (h : ObjO base tS W x c) (hg : W.grownBy W' row) (hr : RowT W [tS] row) : ObjO base tS W' x c := by
  obtain ⟨lv, e, h⟩ := h; exact ⟨lv, e, own_kept h hg hr⟩
theorem ObjO.base {base b' tS : Nat} {W : World} {x : ObjD} {c : List Value} (h : ObjO base tS W x c) (hb : b' ≤ base) : ObjO b' tS W x c := by
  obtain ⟨lv, e, h⟩ := h; exact ⟨lv, e, own_base h hb⟩
def ObjsO (base tO tS : Nat) (W : World) (v : Value) (l : List ObjD) : Prop := ∃ cs, W.ownsRow base tO 5 v l.length cs ∧ Rows (ObjO base tS W) l cs
theorem ObjsO.view {base tO tS : Nat} {W : World} {v : Value} {l : List ObjD} (h : ObjsO base tO tS W v l) : ObjsV W v l := by
  obtain ⟨cs, h1, h2⟩ := h; exact ⟨cs, SlR.of_row h1, h2.mono fun x _ c hc => hc.view⟩
theorem ObjsO.nil (base tO tS : Nat) (W : World) : ObjsO base tO tS W (.slice none 0 0) [] := ⟨[], World.ownsRow_nil _ _ _ _, rfl⟩
theorem ObjsO.kept {base tO tS : Nat} {W W' : World} {row : Option Nat} {v : Value} {l : List ObjD} (h : ObjsO base tO tS W v l) (hg : W.grownBy W' row) (hr : RowT W [tO, tS] row) : ObjsO base tO tS W' v l := by
  obtain ⟨cs, h1, h2⟩ := h
  exact ⟨cs, own_kept h1 hg (hr.mono (by simp)), h2.mono fun x _ c hc => hc.kept hg (hr.mono (by simp))⟩
theorem ObjsO.base {base b' tO tS : Nat} {W : World} {v : Value} {l : List ObjD} (h : ObjsO base tO tS W v l) (hb : b' ≤ base) : ObjsO b' tO tS W v l := by
  obtain ⟨cs, h1, h2⟩ := h
  exact ⟨cs, own_base h1 hb, h2.mono fun x _ c hc => hc.base hb⟩
def PartO (base tO tS : Nat) (W : World) (x : PartD) (c : List Value) : Prop := ∃ ov, c = [.int .i64 x.lv, .int .u64 x.cs, .int .i64 x.ig, ov] ∧ ObjsO base tO tS W ov x.l
theorem PartO.len {base tO tS : Nat} {W : World} (x : PartD) (c : List Value) (h : PartO base tO tS W x c) : c.length = 4 := by obtain ⟨lv, rfl, _⟩ := h; rfl
theorem PartO.view {base tO tS : Nat} {W : World} {x : PartD} {c : List Value} (h : PartO base tO tS W x c) : PartC W x c := by obtain ⟨lv, e, h⟩ := h; exact ⟨lv, e, h.view⟩
theorem PartO.kept {base tO tS : Nat} {W W' : World} {row : Option Nat} {x : PartD} {c : List Value} (h : PartO base tO tS W x c) (hg : W.grownBy W' row) (hr : RowT W [tO, tS] row) : PartO base tO tS W' x c := by
  obtain ⟨lv, e, h⟩ := h; exact ⟨lv, e, h.kept hg hr⟩
theorem PartO.base {base b' tO tS : Nat} {W : World} {x : PartD} {c : List Value} (h : PartO base tO tS W x c) (hb : b' ≤ base) : PartO b' tO tS W x c := by
  obtain ⟨lv, e, h⟩ := h; exact ⟨lv, e, h.base hb⟩
def PartsO (base tP tO tS : Nat) (W : World) (v : Value) (l : List PartD) : Prop := ∃ cs, W.ownsRow base tP 4 v l.length cs ∧ Rows (PartO base tO tS W) l cs
theorem PartsO.view {base tP tO tS : Nat} {W : World} {v : Value} {l : List PartD} (h : PartsO base tP tO tS W v l) : PartsV W v l := by
  obtain ⟨cs, h1, h2⟩ := h; exact ⟨cs, SlR.of_row h1, h2.mono fun x _ c hc => hc.view⟩
theorem PartsO.nil (base tP tO tS : Nat) (W : World) : PartsO base tP tO tS W (.slice none 0 0) [] := ⟨[], World.ownsRow_nil _ _ _ _, rfl⟩
theorem PartsO.kept {base tP tO tS : Nat} {W W' : World} {row : Option Nat} {v : Value} {l : List PartD} (h : PartsO base tP tO tS W v l) (hg : W.grownBy W' row) (hr : RowT W [tP, tO, tS] row) : PartsO base tP tO tS W' v l := by
  obtain ⟨cs, h1, h2⟩ := h
  exact ⟨cs, own_kept h1 hg (hr.mono (by simp)), h2.mono fun x _ c hc => hc.kept hg (hr.mono (by simp))⟩
theorem PartsO.base {base b' tP tO tS : Nat} {W : World} {v : Value} {l : List PartD} (h : PartsO base tP tO tS W v l) (hb : b' ≤ base) : PartsO b' tP tO tS W v l := by
  obtain ⟨cs, h1, h2⟩ := h
  exact ⟨cs, own_base h1 hb, h2.mono fun x _ c hc => hc.base hb⟩
end Go.Proofs.YthclfkhakmcnbaaGreatDoor
/- Arguments that are lists of structs that hold lists, opened to views. -/
namespace Go.Proofs.YthclfkhakmcnbaaGreatDoor
open Go.RowKit Go.ChangeShapes Go.WideShapes Go.Deep
section
variable {H : Type} {enc : TypeId × Value → H} {P : Program} {w : World} {base : Nat} {spare : Nat → Bool} {held : Bool}
theorem spot_none {a : Addr} {u : Value} (h : w.cell? a = some u) : a.spot = none := by
  unfold World.cell? at h
  split at h
  · split at h
    · cases h
    · rename_i hs; simpa using hs
  · cases h
theorem slR_open {α : Type} {t e : TypeId} {k fuel : Nat} {cs : List Value} {x : DataW H × List MemPlace} (E : α → List Value → Prop) (ht : P.underlying t = some (.slice e)) (hC : P.cellsOf e = k) (hk : 0 < k)
    (hE : ∀ n cs' y, DataW.trod enc P w base spare held n e cs' = some y → ∃ x, E x cs') (hEl : ∀ x c, E x c → c.length = k) (h : DataW.trod enc P w base spare held fuel t cs = some x) :
    ∃ (v : Value) (l : List α) (css : List Value), cs = [v] ∧ SlR k w v l.length css ∧ Rows E l css ∧ l.length ≤ maxLen := by
  rcases open_slice ht h with ⟨rfl, _⟩ | ⟨a, len, cap, m, n, D, Pl, rfl, hb, hl, hm, hmm, hx, hi⟩
  · exact ⟨_, [], [], rfl, SlR.nil k w, rfl, by simp⟩
  · have hlm : len ≤ m := by rw [hmm]; split <;> omega
    have build : ∀ j, j ≤ len → ∃ (l : List α) (css : List Value), l.length = j ∧ Rows E l css ∧ css.length = j * k ∧ ∀ q (hq : q < css.length), w.cell? (a.add q) = some css[q] := by
      intro j
      induction j with
      | zero => intro _; exact ⟨[], [], rfl, rfl, by simp, fun q hq => absurd hq (by simp)⟩
      | succ j ih =>
        intro hj
        obtain ⟨l, css, h1, h2, h3, h4⟩ := ih (by omega)
        obtain ⟨cs', hc, ht'⟩ := hi j (by omega)
        rw [hC] at hc
        obtain ⟨_, hcl, hat⟩ := World.cells?_some hc
        obtain ⟨y, hy⟩ := hE _ _ _ ht'
        refine ⟨l ++ [y], css ++ cs', by simp [h1], h2.append (Rows.one hy), by rw [List.length_append, h3, hcl, Nat.add_mul]; omega, fun q hq => ?_⟩
        rcases Nat.lt_or_ge q css.length with hq1 | hq1
        · rw [List.getElem_append_left hq1]; exact h4 q hq1
        · have hq2 : q - css.length < k := by rw [List.length_append, hcl] at hq; omega
          have := hat (q - css.length) hq2
          rw [Go.Deep.add_add, ← h3, show css.length + (q - css.length) = q by omega] at this
          rw [this, List.getElem_append_right hq1]
          exact List.getElem?_eq_getElem (by omega)
    obtain ⟨l, css, h1, h2, h3, h4⟩ := build len (Nat.le_refl _)
    refine ⟨_, l, css, rfl, ⟨by rw [h1]; exact h3, some a, cap, by rw [h1], by omega, ?_⟩, h2, by omega⟩
    rcases Nat.eq_zero_or_pos len with h0 | h0
    · left; omega
    · right
      have hpos : 0 < css.length := by rw [h3]; exact Nat.mul_pos h0 hk
      have hc0 := h4 0 hpos
      rw [show a.add 0 = a by simp [Addr.add]] at hc0
      have hs := spot_none hc0
      obtain ⟨b, o, sp⟩ := a
      obtain rfl : sp = none := hs
      refine ⟨b, o, rfl, World.block_lt_of_cell? w _ hc0, fun j hj => ?_⟩
      rw [← h4 j hj]
      congr 1
      simp only [Addr.add]
      split
      · rename_i hz; subst hz; rfl
      · rfl
theorem str_open {t : TypeId} {fuel : Nat} {cs : List Value} {y : DataW H × List MemPlace} (ht : P.underlying t = some .string) (h : DataW.trod enc P w base spare held fuel t cs = some y) : ∃ l : List UInt8, cs = [.string ⟨l.toArray⟩] ∧ l.length ≤ maxLen := by
  obtain ⟨s, rfl, -, ws⟩ := DataW.trod_string ht h
  exact ⟨s.data.toList, by cases s; simp, ws⟩
theorem int_open {t : TypeId} {k : IntKind} {fuel : Nat} {cs : List Value} {y : DataW H × List MemPlace} (ht : P.underlying t = some (.int k)) (h : DataW.trod enc P w base spare held fuel t cs = some y) : ∃ n : Int, cs = [.int k n] ∧ (Lit.int k n).wf = true := by
  obtain ⟨n, rfl, -, wn⟩ := DataW.trod_int ht h
  exact ⟨n, rfl, wn⟩
/-- a slice of texts -/
theorem strs_open {t e : TypeId} {fuel : Nat} {cs : List Value} {x : DataW H × List MemPlace} (ht : P.underlying t = some (.slice e)) (he : P.underlying e = some .string) (hC : P.cellsOf e = 1) (h : DataW.trod enc P w base spare held fuel t cs = some x) :
    ∃ v l, cs = [v] ∧ StrsV w v l ∧ l.length ≤ maxLen := by
  obtain ⟨v, l, css, rfl, h1, h2, h3⟩ := slR_open (α := List UInt8) (k := 1) (fun s c => c = [.string ⟨s.toArray⟩]) ht hC (by omega) (fun n cs' y hy => by
    obtain ⟨s, rfl, _⟩ := str_open he hy; exact ⟨s, rfl⟩) (fun x c hc => by rw [hc]; rfl) h
  refine ⟨v, l, rfl, ?_, h3⟩
  have e : css = strsC l := by
    clear h1 h h3
    induction l generalizing css with
    | nil => exact h2
    | cons s l ih =>
      obtain ⟨c, r, e, e2, h3⟩ := h2
      rw [e, e2, ih r h3]; rfl
  rw [e] at h1
  exact h1
end
end Go.Proofs.YthclfkhakmcnbaaGreatDoor
/- What layers 2, 8, 10 and 11 compute, as plain functions. -/
namespace Go.Proofs.YthclfkhakmcnbaaGreatDoor
open Go.RowKit
/-! ### texts in order -/
theorem less_irrefl (a : List UInt8) : Op.bytesLess a a = false := by
  rw [bytesLess_eq]; exact decide_eq_false (List.lt_irrefl a)
theorem less_trans {a b c : List UInt8} (h : Op.bytesLess a b = true) (k : Op.bytesLess b c = true) : Op.bytesLess a c = true := by
  rw [bytesLess_eq, decide_eq_true_eq] at *; exact List.lt_trans h k
theorem less_total (a b : List UInt8) : Op.bytesLess a b = true ∨ a = b ∨ Op.bytesLess b a = true := by
  induction a generalizing b with
  | nil => cases b <;> simp [Op.bytesLess]
  | cons x a ih =>
    cases b with
    | nil => simp [Op.bytesLess]
    | cons y b =>
      simp only [Op.bytesLess]
      rcases Nat.lt_trichotomy x.toNat y.toNat with h | h | h
      · left; simp [UInt8.lt_iff_toNat_lt, h]
      · have e : x = y := UInt8.toNat_inj.1 h
        subst e
        rcases ih b with k | k | k
        · left; simp [k]
        · right; left; rw [k]
        · right; right; simp [k]
      · right; right; simp [UInt8.lt_iff_toNat_lt, h]
theorem less_asymm {a b : List UInt8} (h : Op.bytesLess a b = true) : Op.bytesLess b a = false := by
  cases hb : Op.bytesLess b a with
  | false => rfl
  | true => have := less_trans h hb; rw [less_irrefl] at this; cases this
/-- '<=' is not '>' -/
theorem leq_not (a b : List UInt8) : (Op.bytesLess a b || a == b) = !Op.bytesLess b a := by
  rcases less_total a b with h | h | h
  · rw [h, less_asymm h]; rfl
  · subst h; rw [less_irrefl]; simp
  · rw [h, less_asymm h]
    have hne : a ≠ b := fun e => by subst e; rw [less_irrefl] at h; cases h
    simp [hne]
theorem less_nil (a : List UInt8) : Op.bytesLess [] a = !a.isEmpty := by cases a <;> rfl
/-! ### names, rings, objects, spaces -/
def chB (c : UInt8) : Bool := (decide (97 ≤ c.toNat) && decide (c.toNat ≤ 122)) || (decide (48 ≤ c.toNat) && decide (c.toNat ≤ 57)) || c.toNat == 46
def nameB (s : List UInt8) : Bool := s.all chB && !s.isEmpty && decide (s.length ≤ 20)
def takesL (l : List (List UInt8)) : Nat := (l.map fun s => s.length + 1).sum
def ringB (max : Int) (l : List (List UInt8)) : Bool := decide (0 ≤ max) && decide (max ≤ 2000) && l.all (fun s => decide (s.length ≤ 200)) && decide ((takesL l : Int) ≤ max)
def objB (x : ObjD) : Bool :=
  if x.kind = 1 then nameB x.name && decide (x.data.length ≤ 1000) && (x.max == 0) && x.items.isEmpty
  else if x.kind = 2 then nameB x.name && x.data.isEmpty && ringB x.max x.items else false
def spB : List UInt8 → List ObjD → Bool
  | _, [] => true
  | last, x :: l => objB x && Op.bytesLess last x.name && spB x.name l
def spaceB (l : List ObjD) : Bool := spB [] l && decide (l.length ≤ 20)
def costO (x : ObjD) : Int := 10 + x.name.length + x.data.length + x.max
def costL (l : List ObjD) : Int := (l.map costO).sum
def costS (l : List ObjD) : Int := if spaceB l then costL l else 0
def sameO (x y : ObjD) : Bool := x.name == y.name && x.kind == y.kind && x.data == y.data && (x.max == y.max && x.items == y.items)
def sameS (a b : List ObjD) : Bool := decide (a.length = b.length) && (a.zip b).all fun p => sameO p.1 p.2
/-! ### labels -/
structure LblD where
  lv : Int
  cs : Nat
  ig : Int
  deriving DecidableEq
def lblB (a : LblD) : Bool := decide (0 ≤ a.lv) && decide (a.lv ≤ 15) && decide (0 ≤ a.ig) && decide (a.ig ≤ 7)
theorem lblB_iff (a : LblD) : lblB a = true ↔ 0 ≤ a.lv ∧ a.lv ≤ 15 ∧ 0 ≤ a.ig ∧ a.ig ≤ 7 := by simp [lblB, and_assoc]
def cmpI (a b : Int) : Int := if a < b then -1 else if b < a then 1 else 0
def lblC (a b : LblD) : Int := if cmpI a.lv b.lv ≠ 0 then cmpI a.lv b.lv else if cmpI a.cs b.cs ≠ 0 then cmpI a.cs b.cs else cmpI a.ig b.ig
theorem cmpI_zero (a b : Int) : cmpI a b = 0 ↔ a = b := by unfold cmpI; split <;> (try split) <;> omega
theorem cmpI_neg (a b : Int) : cmpI a b < 0 ↔ a < b := by unfold cmpI; split <;> (try split) <;> omega
theorem lblC_zero (a b : LblD) : lblC a b = 0 ↔ a = b := by
  obtain ⟨a1, a2, a3⟩ := a
  obtain ⟨b1, b2, b3⟩ := b
  have h1 := cmpI_zero a1 b1
  have h2 := cmpI_zero a2 b2
  have h3 := cmpI_zero a3 b3
  simp only [lblC, LblD.mk.injEq]
  split
  · omega
  · split <;> omega
theorem lblC_neg (a b : LblD) : lblC a b < 0 ↔ a.lv < b.lv ∨ (a.lv = b.lv ∧ (a.cs < b.cs ∨ (a.cs = b.cs ∧ a.ig < b.ig))) := by
  obtain ⟨a1, a2, a3⟩ := a
  obtain ⟨b1, b2, b3⟩ := b
  have h1 := cmpI_zero a1 b1
  have h2 := cmpI_zero a2 b2
  have k1 := cmpI_neg a1 b1
  have k2 := cmpI_neg a2 b2
  have k3 := cmpI_neg a3 b3
  simp only [lblC]
  split
  · omega
  · split <;> omega
theorem lblC_swap (a b : LblD) : lblC a b < 0 ↔ 0 < lblC b a := by
  have h1 := lblC_neg a b
  have h2 := lblC_neg b a
  have h3 := lblC_zero b a
  constructor
  · intro h
    have hn : ¬ lblC b a < 0 := by rw [h2]; rw [h1] at h; omega
    have hz : lblC b a ≠ 0 := by rw [Ne, h3]; rintro rfl; rw [h1] at h; omega
    omega
  · intro h
    rw [h1]
    have hn : ¬ lblC b a < 0 := by omega
    have hz : lblC b a ≠ 0 := by omega
    rw [h2] at hn
    obtain ⟨a1, a2, a3⟩ := a
    obtain ⟨b1, b2, b3⟩ := b
    rw [Ne, h3, LblD.mk.injEq] at hz
    simp only at hn hz ⊢
    omega
/-- is the set a within b? -/
def subB (a b : Nat) : Bool := (List.range 64).all fun i => !a.testBit i || b.testBit i
def underB (a b : LblD) : Bool := lblB a && lblB b && decide (a.lv ≤ b.lv) && decide (b.ig ≤ a.ig) && subB a.cs b.cs
/-! ### worlds -/
def PartD.lab (p : PartD) : LblD := ⟨p.lv, p.cs, p.ig⟩
def partB (p : PartD) : Bool := lblB p.lab && !p.l.isEmpty && spaceB p.l
def worldB : List PartD → Bool
  | [] => true
  | [p] => partB p
  | p :: q :: r => partB p && decide (lblC p.lab q.lab < 0) && worldB (q :: r)
def getW (w : List PartD) (a : LblD) : List ObjD := if worldB w then match w.find? (fun p => p.lab = a) with | some p => p.l | none => [] else []
def putW (w : List PartD) (a : LblD) (l : List ObjD) : List PartD :=
  w.filter (fun p => decide (lblC p.lab a < 0)) ++ ((if l.isEmpty then [] else [⟨a.lv, a.cs, a.ig, l⟩]) ++ w.filter (fun p => decide (0 < lblC p.lab a)))
def setE (w : List PartD) (a : LblD) (l : List ObjD) : Int := if worldB w && spaceB l then if lblB a then 0 else 20 else 110
def setW (w : List PartD) (a : LblD) (l : List ObjD) : List PartD := if setE w a l = 0 then putW w a l else []
def seenW (w : List PartD) (a : LblD) : List PartD := w.filter fun p => underB p.lab a
def withinB (w : List PartD) (q : Int) : Bool := worldB w && w.all fun p => decide (costS p.l ≤ q)
def samePart (p q : PartD) : Bool := decide (p.lab = q.lab) && sameS p.l q.l
def sameW (a b : List PartD) : Bool := decide (a.length = b.length) && (a.zip b).all fun p => samePart p.1 p.2
end Go.Proofs.YthclfkhakmcnbaaGreatDoor
/- The plain laws of layer 11's functions. -/
namespace Go.Proofs.YthclfkhakmcnbaaGreatDoor
theorem lblC_trans {a b c : LblD} (h : lblC a b < 0) (k : lblC b c < 0) : lblC a c < 0 := by
  rw [lblC_neg] at *; omega
def Srt (w : List PartD) : Prop := w.Pairwise fun p q => lblC p.lab q.lab < 0
theorem worldB_cons {p : PartD} {w : List PartD} (h : worldB (p :: w) = true) : partB p = true ∧ worldB w = true ∧ ∀ q ∈ w.head?, lblC p.lab q.lab < 0 := by
  cases w with
  | nil => exact ⟨h, rfl, fun q hq => by simp at hq⟩
  | cons q r =>
    simp only [worldB, Bool.and_eq_true, decide_eq_true_eq] at h
    exact ⟨h.1.1, h.2, fun x hx => by simp at hx; subst hx; exact h.1.2⟩
theorem worldB_parts : ∀ {w : List PartD}, worldB w = true → ∀ p ∈ w, partB p = true
  | [], _, p, hp => by cases hp
  | q :: w, h, p, hp => by
    obtain ⟨h1, h2, _⟩ := worldB_cons h
    rcases List.mem_cons.1 hp with rfl | hp
    · exact h1
    · exact worldB_parts h2 p hp
theorem worldB_srt : ∀ {w : List PartD}, worldB w = true → Srt w
  | [], _ => List.Pairwise.nil
  | p :: w, h => by
    obtain ⟨_, h2, h3⟩ := worldB_cons h
    have ih := worldB_srt h2
    refine List.pairwise_cons.2 ⟨fun q hq => ?_, ih⟩
    cases w with
    | nil => cases hq
    | cons x r =>
      have hx := h3 x (by simp)
      rcases List.mem_cons.1 hq with rfl | hq
      · exact hx
      · exact lblC_trans hx ((List.pairwise_cons.1 ih).1 q hq)
theorem srt_world : ∀ {w : List PartD}, Srt w → (∀ p ∈ w, partB p = true) → worldB w = true
  | [], _, _ => rfl
  | [p], _, h => h p (by simp)
  | p :: q :: r, hs, h => by
    have hp := List.pairwise_cons.1 hs
    simp only [worldB, Bool.and_eq_true, decide_eq_true_eq]
    exact ⟨⟨h p (by simp), hp.1 q (by simp)⟩, srt_world hp.2 (fun x hx => h x (by simp [hx]))⟩
/-! ### where a label's part is -/
def findN (w : List PartD) (a : LblD) : Nat := w.countP fun p => decide (lblC p.lab a < 0)
def findB (w : List PartD) (a : LblD) : Bool := w.any fun p => decide (p.lab = a)
theorem srt_take : ∀ {w : List PartD} (a : LblD), Srt w → w.take (findN w a) = w.filter (fun p => decide (lblC p.lab a < 0)) ∧ w.drop (findN w a) = w.filter (fun p => !decide (lblC p.lab a < 0))
  | [], a, _ => ⟨rfl, rfl⟩
  | p :: w, a, h => by
    have hp := List.pairwise_cons.1 h
    obtain ⟨i1, i2⟩ := srt_take a hp.2
    by_cases hlt : lblC p.lab a < 0
    · have e : findN (p :: w) a = findN w a + 1 := by unfold findN; rw [List.countP_cons_of_pos (by simpa using hlt)]
      rw [e, List.take_succ_cons, List.drop_succ_cons, i1, i2, List.filter_cons_of_pos (by simpa using hlt), List.filter_cons_of_neg (by simpa using hlt)]
      exact ⟨rfl, rfl⟩
    · have hall : ∀ q ∈ w, ¬ lblC q.lab a < 0 := fun q hq hq2 => hlt (lblC_trans (hp.1 q hq) hq2)
      have e : findN (p :: w) a = 0 := by
        unfold findN; rw [List.countP_eq_zero]
        intro q hq
        rcases List.mem_cons.1 hq with rfl | hq
        · simpa using hlt
        · simpa using hall q hq
      rw [e, List.take_zero, List.drop_zero]
      constructor
      · rw [List.filter_eq_nil_iff.2]
        intro q hq
        rcases List.mem_cons.1 hq with rfl | hq
        · simpa using hlt
        · simpa using hall q hq
      · rw [List.filter_eq_self.2]
        intro q hq
        rcases List.mem_cons.1 hq with rfl | hq
        · simpa using hlt
        · simpa using hall q hq
theorem srt_rest {w : List PartD} (a : LblD) (h : Srt w) : w.drop (findN w a + (if findB w a then 1 else 0)) = w.filter (fun p => decide (0 < lblC p.lab a)) := by
  induction w with
  | nil => simp [findB]
  | cons p w ih =>
    have hp := List.pairwise_cons.1 h
    have ih := ih hp.2
    by_cases hlt : lblC p.lab a < 0
    · have e : findN (p :: w) a = findN w a + 1 := by unfold findN; rw [List.countP_cons_of_pos (by simpa using hlt)]
      have hne : p.lab ≠ a := fun e => by have := (lblC_zero p.lab a).2 e; omega
      have e2 : findB (p :: w) a = findB w a := by unfold findB; simp [hne]
      rw [e, e2, List.filter_cons_of_neg (by simp; omega), ← ih, show findN w a + 1 + (if findB w a = true then 1 else 0) = (findN w a + (if findB w a = true then 1 else 0)) + 1 by omega, List.drop_succ_cons]
    · have e : findN (p :: w) a = 0 := by
        unfold findN; rw [List.countP_eq_zero]
        intro q hq
        rcases List.mem_cons.1 hq with rfl | hq
        · simpa using hlt
        · simp only [decide_eq_true_eq]; exact fun hq2 => hlt (lblC_trans (hp.1 q hq) hq2)
      rw [e]
      by_cases heq : p.lab = a
      · have hz := (lblC_zero p.lab a).2 heq
        have e2 : findB (p :: w) a = true := by unfold findB; simp [heq]
        rw [e2, List.filter_cons_of_neg (by simp; omega)]
        simp only [if_true, Nat.zero_add, List.drop_succ_cons, List.drop_zero]
        rw [List.filter_eq_self.2]
        intro q hq
        simp only [decide_eq_true_eq]
        have := hp.1 q hq
        rw [heq] at this
        exact (lblC_swap _ _).1 this
      · have hz : lblC p.lab a ≠ 0 := fun e => heq ((lblC_zero _ _).1 e)
        have hall : ∀ q ∈ w, 0 < lblC q.lab a := fun q hq => (lblC_swap _ _).1 (lblC_trans ((lblC_swap _ _).2 (show 0 < lblC p.lab a by omega)) (hp.1 q hq))
        have e2 : findB (p :: w) a = false := by
          unfold findB
          rw [List.any_eq_false]
          intro q hq
          rcases List.mem_cons.1 hq with rfl | hq
          · simpa using heq
          · have := hall q hq
            simp only [decide_eq_true_eq]
            intro e; have := (lblC_zero q.lab a).2 e; omega
        rw [e2]
        simp only [Bool.false_eq_true, if_false, Nat.add_zero, List.drop_zero]
        rw [List.filter_eq_self.2]
        intro q hq
        rcases List.mem_cons.1 hq with rfl | hq
        · simp; omega
        · simpa using hall q hq
/-- what the program sets -/
theorem put_eq {w : List PartD} (a : LblD) (l : List ObjD) (h : Srt w) : w.take (findN w a) ++ ((if l.isEmpty then [] else [⟨a.lv, a.cs, a.ig, l⟩]) ++ w.drop (findN w a + (if findB w a then 1 else 0))) = putW w a l := by
  rw [(srt_take a h).1, srt_rest a h]; rfl
/-- the part found lies at findN -/
theorem find_at {w : List PartD} (a : LblD) (h : Srt w) : findB w a = (match w[findN w a]? with | some p => decide (p.lab = a) | none => false) ∧ (findB w a = true → ∃ hlt : findN w a < w.length, w.find? (fun p => decide (p.lab = a)) = some w[findN w a]) := by
  induction w with
  | nil => exact ⟨rfl, fun h => by cases h⟩
  | cons p w ih =>
    have hp := List.pairwise_cons.1 h
    obtain ⟨i1, i2⟩ := ih hp.2
    by_cases hlt : lblC p.lab a < 0
    · have e : findN (p :: w) a = findN w a + 1 := by unfold findN; rw [List.countP_cons_of_pos (by simpa using hlt)]
      have hne : p.lab ≠ a := fun e => by have := (lblC_zero p.lab a).2 e; omega
      have e2 : findB (p :: w) a = findB w a := by unfold findB; simp [hne]
      refine ⟨by rw [e2, i1, e, List.getElem?_cons_succ], fun hb => ?_⟩
      rw [e2] at hb
      obtain ⟨h1, h2⟩ := i2 hb
      refine ⟨by rw [e]; simpa using h1, ?_⟩
      rw [List.find?_cons_of_neg (by simpa using hne), h2]
      congr 1
      simp [e]
    · have e : findN (p :: w) a = 0 := by
        unfold findN; rw [List.countP_eq_zero]
        intro q hq
        rcases List.mem_cons.1 hq with rfl | hq
        · simpa using hlt
        · simp only [decide_eq_true_eq]; exact fun hq2 => hlt (lblC_trans (hp.1 q hq) hq2)
      have hrest : p.lab ≠ a → findB (p :: w) a = false := by
        intro heq
        have hz : lblC p.lab a ≠ 0 := fun e => heq ((lblC_zero _ _).1 e)
        unfold findB
        rw [List.any_eq_false]
        intro q hq
        rcases List.mem_cons.1 hq with rfl | hq
        · simpa using heq
        · have hpos : 0 < lblC q.lab a := (lblC_swap _ _).1 (lblC_trans ((lblC_swap _ _).2 (show 0 < lblC p.lab a by omega)) (hp.1 q hq))
          simp only [decide_eq_true_eq]
          intro e; have := (lblC_zero q.lab a).2 e; omega
      by_cases heq : p.lab = a
      · have e2 : findB (p :: w) a = true := by unfold findB; simp [heq]
        refine ⟨by rw [e2, e]; simp [heq], fun _ => ⟨by rw [e]; simp, ?_⟩⟩
        rw [List.find?_cons_of_pos (by simpa using heq)]
        congr 1
        simp [e]
      · refine ⟨by rw [hrest heq, e]; simp [heq], fun hb => by rw [hrest heq] at hb; cases hb⟩
/-! ### the document's Set -/
def setRef (a : LblD) (l : List ObjD) : Bool → List PartD → List PartD
  | done, [] => if done then [] else [⟨a.lv, a.cs, a.ig, l⟩]
  | done, p :: w =>
    (if !done && decide (lblC a p.lab ≤ 0) then [⟨a.lv, a.cs, a.ig, l⟩] else []) ++ ((if p.lab = a then [] else [p]) ++ setRef a l (done || decide (lblC a p.lab ≤ 0)) w)
theorem lblC_neg_swap (a b : LblD) : lblC a b ≤ 0 ↔ ¬ lblC b a < 0 := by
  have h1 := lblC_swap b a
  omega
theorem setRef_done (a : LblD) (l : List ObjD) : ∀ (w : List PartD), (∀ q ∈ w, ¬ lblC q.lab a < 0) → Srt w → setRef a l true w = w.filter (fun p => decide (0 < lblC p.lab a))
  | [], _, _ => rfl
  | p :: w, hall, h => by
    have hp := List.pairwise_cons.1 h
    have ih := setRef_done a l w (fun q hq => hall q (by simp [hq])) hp.2
    simp only [setRef, Bool.not_true, Bool.false_and, Bool.false_eq_true, if_false, Bool.true_or, List.nil_append, ih]
    by_cases heq : p.lab = a
    · rw [if_pos heq, List.filter_cons_of_neg (by have := (lblC_zero p.lab a).2 heq; simp; omega)]; rfl
    · have hz : lblC p.lab a ≠ 0 := fun e => heq ((lblC_zero _ _).1 e)
      have := hall p (by simp)
      rw [if_neg heq, List.filter_cons_of_pos (by simp; omega)]; rfl
theorem setRef_eq (a : LblD) (l : List ObjD) (hl : l ≠ []) : ∀ (w : List PartD), Srt w → setRef a l false w = putW w a l
  | [], _ => by
    have : l.isEmpty = false := by simpa using hl
    simp [setRef, putW, this]
  | p :: w, h => by
    have hp := List.pairwise_cons.1 h
    have hle : l.isEmpty = false := by simpa using hl
    by_cases hlt : lblC p.lab a < 0
    · have h1 : ¬ lblC a p.lab ≤ 0 := by rw [lblC_neg_swap]; omega
      have hne : p.lab ≠ a := fun e => by have := (lblC_zero p.lab a).2 e; omega
      have ih := setRef_eq a l hl w hp.2
      simp only [setRef, h1, decide_false, Bool.and_false, Bool.false_eq_true, if_false, Bool.or_false, List.nil_append, if_neg hne, ih, putW]
      rw [List.filter_cons_of_pos (by simpa using hlt), List.filter_cons_of_neg (by simp; omega)]
      simp
    · have h1 : lblC a p.lab ≤ 0 := by rw [lblC_neg_swap]; exact hlt
      have hall : ∀ q ∈ w, ¬ lblC q.lab a < 0 := fun q hq hq2 => hlt (lblC_trans (hp.1 q hq) hq2)
      have hd := setRef_done a l w hall hp.2
      have hf : w.filter (fun p => decide (lblC p.lab a < 0)) = [] := by
        rw [List.filter_eq_nil_iff]; intro q hq; simpa using hall q hq
      simp only [setRef, h1, decide_true, Bool.not_false, Bool.and_self, if_true, Bool.or_true, hd, putW]
      rw [List.filter_cons_of_neg (by simpa using hlt), hf, hle]
      by_cases heq : p.lab = a
      · rw [if_pos heq, List.filter_cons_of_neg (by have := (lblC_zero p.lab a).2 heq; simp; omega)]; simp
      · have hz : lblC p.lab a ≠ 0 := fun e => heq ((lblC_zero _ _).1 e)
        rw [if_neg heq, List.filter_cons_of_pos (by simp; omega)]; simp
theorem setRef_nil (a : LblD) : ∀ (w : List PartD), Srt w → setRef a [] true w = putW w a []
  | [], _ => rfl
  | p :: w, h => by
    have hp := List.pairwise_cons.1 h
    have ih := setRef_nil a w hp.2
    simp only [setRef, Bool.not_true, Bool.false_and, Bool.false_eq_true, if_false, Bool.true_or, List.nil_append, ih, putW, List.isEmpty_nil, if_true]
    by_cases hlt : lblC p.lab a < 0
    · have hne : p.lab ≠ a := fun e => by have := (lblC_zero p.lab a).2 e; omega
      rw [if_neg hne, List.filter_cons_of_pos (by simpa using hlt), List.filter_cons_of_neg (by simp; omega)]; simp
    · have hall : ∀ q ∈ w, ¬ lblC q.lab a < 0 := fun q hq hq2 => hlt (lblC_trans (hp.1 q hq) hq2)
      have hf : w.filter (fun p => decide (lblC p.lab a < 0)) = [] := by
        rw [List.filter_eq_nil_iff]; intro q hq; simpa using hall q hq
      rw [List.filter_cons_of_neg (by simpa using hlt), hf]
      by_cases heq : p.lab = a
      · rw [if_pos heq, List.filter_cons_of_neg (by have := (lblC_zero p.lab a).2 heq; simp; omega)]; simp
      · have hz : lblC p.lab a ≠ 0 := fun e => heq ((lblC_zero _ _).1 e)
        rw [if_neg heq, List.filter_cons_of_pos (by simp; omega)]; simp
/-! ### the same -/
theorem sameO_refl (x : ObjD) : sameO x x = true := by simp [sameO]
theorem sameS_refl (l : List ObjD) : sameS l l = true := by
  unfold sameS
  rw [Bool.and_eq_true]
  refine ⟨by simp, List.all_eq_true.2 fun p hp => ?_⟩
  obtain ⟨i, hi, e⟩ := List.getElem_of_mem hp
  rw [List.getElem_zip] at e
  rw [← e]; exact sameO_refl _
theorem sameW_refl (l : List PartD) : sameW l l = true := by
  unfold sameW
  rw [Bool.and_eq_true]
  refine ⟨by simp, List.all_eq_true.2 fun p hp => ?_⟩
  obtain ⟨i, hi, e⟩ := List.getElem_of_mem hp
  rw [List.getElem_zip] at e
  rw [← e]; simp [samePart, sameS_refl]
end Go.Proofs.YthclfkhakmcnbaaGreatDoor
/- Plain: how the statements of layers 8, 10 and 11 cut what comes in; what the world's statements lean on. -/
namespace Go.Proofs.YthclfkhakmcnbaaGreatDoor
def fewI (l : List (List UInt8)) : List (List UInt8) := (l.take 40).map fun s => s.take 210
def fewO (x : ObjD) : ObjD := ⟨x.name.take 50, x.kind, x.data.take 1010, x.max, fewI x.items⟩
def fewS (l : List ObjD) : List ObjD := (l.take 22).map fewO
def fewP (p : PartD) : PartD := ⟨p.lv, p.cs, p.ig, fewS p.l⟩
def fewW (w : List PartD) : List PartD := (w.take 8).map fewP
theorem fewS_len (l : List ObjD) : (fewS l).length ≤ 22 := by simp [fewS]; omega
theorem fewW_len (w : List PartD) : (fewW w).length ≤ 8 := by simp [fewW]; omega
/-- in a world each part is found by its label -/
theorem find_self : ∀ {w : List PartD}, Srt w → ∀ (i : Nat) (hi : i < w.length), w.find? (fun p => decide (p.lab = w[i].lab)) = some w[i]
  | [], _, i, hi => absurd hi (by simp)
  | p :: w, h, i, hi => by
    have hp := List.pairwise_cons.1 h
    cases i with
    | zero => simp
    | succ i =>
      have hi' : i < w.length := by simpa using hi
      have hne : p.lab ≠ w[i].lab := fun e => by
        have := hp.1 w[i] (List.getElem_mem hi')
        have := (lblC_zero p.lab w[i].lab).2 e
        omega
      rw [List.getElem_cons_succ, List.find?_cons_of_neg (by simpa using hne)]
      exact find_self hp.2 i hi'
theorem get_self {w : List PartD} (h : worldB w = true) (i : Nat) (hi : i < w.length) : getW w w[i].lab = w[i].l := by
  unfold getW
  rw [if_pos h, find_self (worldB_srt h) i hi]
theorem cost_nonneg {l : List ObjD} : 0 ≤ costS l := by
  unfold costS
  split
  · rename_i h
    have hs : spB [] l = true := by
      unfold spaceB at h; rw [Bool.and_eq_true] at h; exact h.1
    have aux : ∀ (l : List ObjD) (last : List UInt8), spB last l = true → 0 ≤ costL l := by
      intro l
      induction l with
      | nil => intro _ _; simp [costL]
      | cons x l ih =>
        intro last h
        simp only [spB, Bool.and_eq_true] at h
        have h2 := ih _ h.2
        have hm : 0 ≤ x.max := by
          have ho := h.1.1
          unfold objB at ho
          split at ho
          · simp at ho; omega
          · split at ho
            · simp [ringB] at ho; omega
            · cases ho
        unfold costL at h2 ⊢
        rw [List.map_cons, List.sum_cons]
        have : 0 ≤ costO x := by unfold costO; omega
        omega
    exact aux l [] hs
  · omega
/-- what is within a quota is within a greater one -/
theorem within_mono {w : List PartD} {q q' : Int} (h : q ≤ q') (hw : withinB w q = true) : withinB w q' = true := by
  unfold withinB at *
  rw [Bool.and_eq_true] at *
  refine ⟨hw.1, List.all_eq_true.2 fun p hp => ?_⟩
  have := List.all_eq_true.1 hw.2 p hp
  simp only [decide_eq_true_eq] at this ⊢
  omega
end Go.Proofs.YthclfkhakmcnbaaGreatDoor
/- Rows that are turned from one kind to another, element by element; where a label's part is found. On no program. -/
namespace Go.Proofs.YthclfkhakmcnbaaGreatDoor
open Go.RowKit
/-- the first i elements are of the first kind, the others of the second -/
def Mix {α : Type} (E F : α → List Value → Prop) (i : Nat) (l : List α) (cs : List Value) : Prop := ∃ a b, cs = a ++ b ∧ Rows E (l.take i) a ∧ Rows F (l.drop i) b
theorem Mix.start {α : Type} {E F : α → List Value → Prop} {l : List α} {cs : List Value} (h : Rows F l cs) : Mix E F 0 l cs := ⟨[], cs, rfl, by rw [List.take_zero]; rfl, by rw [List.drop_zero]; exact h⟩
theorem Mix.all {α : Type} {E F : α → List Value → Prop} {l : List α} {cs : List Value} (h : Mix E F l.length l cs) : Rows E l cs := by
  obtain ⟨a, b, rfl, h1, h2⟩ := h
  rw [List.take_of_length_le (Nat.le_refl _)] at h1
  rw [List.drop_of_length_le (Nat.le_refl _)] at h2
  have h2' : b = [] := h2
  rw [h2', List.append_nil]; exact h1
theorem Mix.mono {α : Type} {E E' F : α → List Value → Prop} {i : Nat} {l : List α} {cs : List Value} (h : Mix E F i l cs) (hm : ∀ x ∈ l, ∀ c, E x c → E' x c) : Mix E' F i l cs := by
  obtain ⟨a, b, e, h1, h2⟩ := h
  exact ⟨a, b, e, h1.mono fun x hx c hc => hm x (List.mem_of_mem_take hx) c hc, h2⟩
theorem Mix.step {α : Type} {E F : α → List Value → Prop} {k : Nat} (hE : ∀ x c, E x c → c.length = k) (hF : ∀ x c, F x c → c.length = k) {i : Nat} {l : List α} {cs : List Value} (h : Mix E F i l cs) (hi : i < l.length) :
    ∃ c, F l[i] c ∧ (∀ j, j < k → cs[i * k + j]? = c[j]?) ∧ ∀ j u, j < k → E l[i] (c.set j u) → Mix E F (i + 1) l (cs.set (i * k + j) u) := by
  obtain ⟨a, b, rfl, h1, h2⟩ := h
  rw [List.drop_eq_getElem_cons hi] at h2
  obtain ⟨c, r, rfl, h3, h4⟩ := h2
  have ha : a.length = i * k := by rw [Rows.length hE h1, List.length_take]; congr 1; omega
  have hc := hF _ _ h3
  refine ⟨c, h3, fun j hj => ?_, fun j u hj he => ⟨a ++ c.set j u, r, ?_, ?_, h4⟩⟩
  · rw [List.getElem?_append_right (by omega), ha, Nat.add_sub_cancel_left, List.getElem?_append_left (by omega)]
  · rw [← ha, List.set_append_right _ _ (by omega), Nat.add_sub_cancel_left, List.set_append_left _ _ (by omega), List.append_assoc]
  · rw [List.take_succ_eq_append_getElem hi]
    exact h1.append (Rows.one he)
theorem row_at {W : World} {base e k n cap g : Nat} {cs : List Value} (h : W.ownsRow base e k (.slice (some ⟨g, 0, none⟩) n cap) n cs) (j : Nat) (hj : j < n * k) (u : Value) (hu : cs[j]? = some u) : W.cell? ⟨g, j, none⟩ = some u := by rw [h.cellAt j hj, hu]
/-- an operation of a region, as it stands in the list -/
def nthO {α : Type} : List α → Nat → Option α
  | [], _ => none
  | a :: _, 0 => some a
  | _ :: l, n + 1 => nthO l n
theorem nth_at {α : Type} : ∀ {l : List α} {i : Nat} {o : α}, nthO l i = some o → l.toArray[i]? = some o
  | [], _, _, h => by cases h
  | a :: l, 0, o, h => by simpa [nthO] using h
  | a :: l, n + 1, o, h => by
    have := nth_at (l := l) (i := n) h
    simpa using this
/-- a piece of a slice reads as a piece of its cells -/
theorem SlR.sub {k : Nat} {W : World} {ao : Option Addr} {n cap : Nat} {cs : List Value} (h : SlR k W (.slice ao n cap) n cs) (lo hi m : Nat) (h1 : lo ≤ hi) (h2 : hi ≤ n) (h3 : hi ≤ m) (h4 : m ≤ cap) : SlR k W (sliced ao lo hi m k) (hi - lo) ((cs.drop (lo * k)).take ((hi - lo) * k)) := by
  obtain ⟨hl, a', cap', e, hn, hc⟩ := h
  cases e
  have hle : lo * k + (hi - lo) * k ≤ n * k := by rw [← Nat.add_mul]; exact Nat.mul_le_mul_right _ (by omega)
  refine ⟨by rw [List.length_take, List.length_drop, hl]; omega, _, _, rfl, by omega, ?_⟩
  by_cases hz : hi - lo = 0
  · exact .inl hz
  · right
    rcases hc with hc | ⟨b, o, e, hb, hcell⟩
    · omega
    · subst e
      have hml : m ≠ lo := by omega
      refine ⟨b, o + lo * k, by rw [if_neg hml, Option.map_some, Addr.add_lit], hb, fun j hj => ?_⟩
      have hj' : j < (hi - lo) * k := by rw [List.length_take] at hj; omega
      rw [List.getElem_take, List.getElem_drop, Nat.add_assoc]
      exact hcell _ _
/-- what a row of the call's own is -/
theorem row_form {W : World} {base e k n : Nat} {v : Value} {cs : List Value} (h : W.ownsRow base e k v n cs) : ∃ a cap, v = .slice a n cap ∧ (a = none → cap = 0) := by
  rcases h.2 with ⟨rfl, rfl⟩ | ⟨g, cap, cur, rfl, _⟩
  · exact ⟨none, 0, rfl, fun _ => rfl⟩
  · exact ⟨some ⟨g, 0, none⟩, cap, rfl, fun h => by cases h⟩
theorem add0_map (ao : Option Addr) : Option.map (fun x : Addr => x.add 0) ao = ao := by cases ao <;> simp [Addr.add]
/-! ### where a label's part is found -/
theorem findN_le (w : List PartD) (a : LblD) : findN w a ≤ w.length := List.countP_le_length
theorem srt_at : ∀ {w : List PartD} (a : LblD), Srt w → ∀ (i : Nat) (hi : i < w.length), lblC w[i].lab a < 0 ↔ i < findN w a
  | [], _, _, i, hi => absurd hi (by simp)
  | p :: w, a, h, i, hi => by
    have hp := List.pairwise_cons.1 h
    by_cases hlt : lblC p.lab a < 0
    · have e : findN (p :: w) a = findN w a + 1 := by unfold findN; rw [List.countP_cons_of_pos (by simpa using hlt)]
      rw [e]
      cases i with
      | zero => simp [hlt]
      | succ i => rw [List.getElem_cons_succ, srt_at a hp.2 i (by simpa using hi)]; omega
    · have hall : ∀ q ∈ w, ¬ lblC q.lab a < 0 := fun q hq hq2 => hlt (lblC_trans (hp.1 q hq) hq2)
      have e : findN (p :: w) a = 0 := by
        unfold findN; rw [List.countP_eq_zero]
        intro q hq
        rcases List.mem_cons.1 hq with rfl | hq
        · simpa using hlt
        · simpa using hall q hq
      rw [e]
      cases i with
      | zero => simp [hlt]
      | succ i =>
        have hi' : i < w.length := by simpa using hi
        rw [List.getElem_cons_succ]
        have := hall w[i] (List.getElem_mem hi')
        omega
theorem findB_in {w : List PartD} {a : LblD} (h : Srt w) (hi : findN w a < w.length) : findB w a = (lblC w[findN w a].lab a == 0) := by
  rw [(find_at a h).1, List.getElem?_eq_getElem hi]
  have := lblC_zero w[findN w a].lab a
  rw [Bool.eq_iff_iff, decide_eq_true_eq, beq_iff_eq]
  exact this.symm
theorem findB_out {w : List PartD} {a : LblD} (h : Srt w) (hi : ¬ findN w a < w.length) : findB w a = false := by
  rw [(find_at a h).1, List.getElem?_eq_none (by omega)]
end Go.Proofs.YthclfkhakmcnbaaGreatDoor
/- What layers 8, 9 and 10 do with rings, files, objects: plain. -/
namespace Go.Proofs.YthclfkhakmcnbaaGreatDoor
/-! ### names' places -/
def idxS (l : List ObjD) (n : List UInt8) : Nat := l.findIdx fun x => x.name == n
def hasS (l : List ObjD) (n : List UInt8) : Bool := decide (idxS l n < l.length)
def findS (l : List ObjD) (n : List UInt8) : Int := if idxS l n < l.length then (idxS l n : Int) else -1
/-- how many names are less -/
def posS (l : List ObjD) (n : List UInt8) : Nat := l.countP fun x => Op.bytesLess x.name n
/-! ### rings -/
def maxB (m : Int) : Bool := decide (0 ≤ m) && decide (m ≤ 2000)
def rputE (m : Int) (l : List (List UInt8)) (t : List UInt8) : Int := if ringB m l && decide (t.length ≤ 200) then if decide ((takesL l : Int) + (t.length + 1) ≤ m) then 0 else 80 else 2
def rtakeE (m : Int) (l : List (List UInt8)) : Int := if ringB m l then if l.isEmpty then 81 else 0 else 2
/-! ### files -/
def fwriteB (s : List UInt8) (k : Int) (t : List UInt8) : Bool := decide (s.length ≤ 1000) && decide (0 ≤ k) && decide (k ≤ s.length) && decide (k + t.length ≤ 1000)
def fwriteL (s : List UInt8) (k : Int) (t : List UInt8) : List UInt8 := s.take k.toNat ++ (t ++ s.drop (k.toNat + t.length))
def freadB (s : List UInt8) (k n : Int) : Bool := decide (s.length ≤ 1000) && decide (0 ≤ k) && decide (k ≤ s.length) && decide (0 ≤ n)
def freadL (s : List UInt8) (k n : Int) : List UInt8 := (s.drop k.toNat).take n.toNat
def fcutB (s : List UInt8) (n : Int) : Bool := decide (s.length ≤ 1000) && decide (0 ≤ n) && decide (n ≤ 1000)
def fcutL (s : List UInt8) (n : Int) : List UInt8 := s.take n.toNat ++ List.replicate (n.toNat - s.length) 0
def fE (b : Bool) : Int := if b then 0 else 90
def fL (b : Bool) (s : List UInt8) : List UInt8 := if b then s else []
/-! ### spaces -/
def mkO (n : List UInt8) (k m : Int) : ObjD := ⟨n, k, [], m, []⟩
def insS (l : List ObjD) (x : ObjD) : List ObjD := l.take (posS l x.name) ++ ([x] ++ l.drop (posS l x.name))
def makeE (l : List ObjD) (q : Int) (n : List UInt8) (k m : Int) : Int :=
  if spaceB l then if nameB n then if (k == 1 || k == 2) then if hasS l n then 101 else if maxB m && (k == 2 || m == 0) then
    if decide (l.length + 1 ≤ 20) && decide (costL (insS l (mkO n k m)) ≤ q) then 0 else 104
  else 2 else 103 else 100 else 110
def makeS (l : List ObjD) (q : Int) (n : List UInt8) (k m : Int) : List ObjD := if makeE l q n k m = 0 then insS l (mkO n k m) else []
/-- who is edited: the object of a name, of a kind (0: any) -/
def editE (l : List ObjD) (n : List UInt8) (k : Int) : Int := if spaceB l then if h : idxS l n < l.length then if k == 0 || l[idxS l n].kind == k then 0 else 103 else 102 else 110
def setS (l : List ObjD) (n : List UInt8) (f : ObjD → ObjD) : List ObjD := l.modify (idxS l n) f
def objS (l : List ObjD) (n : List UInt8) : ObjD := (l[idxS l n]?).getD (mkO [] 0 0)
def dropE (l : List ObjD) (n : List UInt8) : Int := editE l n 0
def dropS (l : List ObjD) (n : List UInt8) : List ObjD := if dropE l n = 0 then l.take (idxS l n) ++ l.drop (idxS l n + 1) else []
def withD (s : List UInt8) (x : ObjD) : ObjD := ⟨x.name, x.kind, s, x.max, x.items⟩
def withR (m : Int) (l : List (List UInt8)) (x : ObjD) : ObjD := ⟨x.name, x.kind, x.data, m, l⟩
def dataE (l : List ObjD) (q : Int) (n : List UInt8) (b : Bool) (s : List UInt8) : Int :=
  if editE l n 1 = 0 then if b then if decide (q < costL (setS l n (withD s))) && decide (costL l < costL (setS l n (withD s))) then 104 else 0 else 90 else editE l n 1
def dataS (l : List ObjD) (q : Int) (n : List UInt8) (b : Bool) (s : List UInt8) : List ObjD := if dataE l q n b s = 0 then setS l n (withD s) else []
def writeE (l : List ObjD) (q : Int) (n : List UInt8) (k : Int) (t : List UInt8) : Int := dataE l q n (fwriteB (objS l n).data k t) (fwriteL (objS l n).data k t)
def writeS (l : List ObjD) (q : Int) (n : List UInt8) (k : Int) (t : List UInt8) : List ObjD := dataS l q n (fwriteB (objS l n).data k t) (fwriteL (objS l n).data k t)
def cutE (l : List ObjD) (q : Int) (n : List UInt8) (k : Int) : Int := dataE l q n (fcutB (objS l n).data k) (fcutL (objS l n).data k)
def cutS (l : List ObjD) (q : Int) (n : List UInt8) (k : Int) : List ObjD := dataS l q n (fcutB (objS l n).data k) (fcutL (objS l n).data k)
def readE (l : List ObjD) (n : List UInt8) (k m : Int) : Int := if editE l n 1 = 0 then fE (freadB (objS l n).data k m) else editE l n 1
def readS (l : List ObjD) (n : List UInt8) (k m : Int) : List UInt8 := if readE l n k m = 0 then freadL (objS l n).data k m else []
def putE (l : List ObjD) (n t : List UInt8) : Int := if editE l n 2 = 0 then rputE (objS l n).max (objS l n).items t else editE l n 2
def putS (l : List ObjD) (n t : List UInt8) : List ObjD := if putE l n t = 0 then setS l n (withR (objS l n).max ((objS l n).items ++ [t])) else []
def takeE (l : List ObjD) (n : List UInt8) : Int := if editE l n 2 = 0 then rtakeE (objS l n).max (objS l n).items else editE l n 2
def takeS (l : List ObjD) (n : List UInt8) : List ObjD := if takeE l n = 0 then setS l n (withR (objS l n).max (objS l n).items.tail) else []
def takeT (l : List ObjD) (n : List UInt8) : List UInt8 := if takeE l n = 0 then (objS l n).items.headD [] else []
end Go.Proofs.YthclfkhakmcnbaaGreatDoor
/- Spaces in order: where names lie, what an insertion makes. Plain. -/
namespace Go.Proofs.YthclfkhakmcnbaaGreatDoor
def SrtS (l : List ObjD) : Prop := l.Pairwise fun x y => Op.bytesLess x.name y.name = true
theorem spB_iff : ∀ {l : List ObjD} {last : List UInt8}, spB last l = true ↔ SrtS l ∧ (∀ x ∈ l, objB x = true) ∧ ∀ x ∈ l.head?, Op.bytesLess last x.name = true
  | [], last => by simp [spB, SrtS]
  | x :: l, last => by
    have ih := spB_iff (l := l) (last := x.name)
    rw [spB, Bool.and_eq_true, Bool.and_eq_true, ih]
    constructor
    · rintro ⟨⟨h1, h2⟩, h3, h4, h5⟩
      refine ⟨List.pairwise_cons.2 ⟨?_, h3⟩, ?_, ?_⟩
      · intro y hy
        cases l with
        | nil => cases hy
        | cons z t =>
          have hz := h5 z (by simp)
          rcases List.mem_cons.1 hy with rfl | hy
          · exact hz
          · exact less_trans hz ((List.pairwise_cons.1 h3).1 y hy)
      · intro y hy
        rcases List.mem_cons.1 hy with rfl | hy
        · exact h1
        · exact h4 y hy
      · intro y hy
        simp at hy; subst hy; exact h2
    · rintro ⟨h1, h2, h3⟩
      have hp := List.pairwise_cons.1 h1
      exact ⟨⟨h2 x (by simp), h3 x (by simp)⟩, hp.2, fun y hy => h2 y (by simp [hy]), fun y hy => hp.1 y (List.mem_of_mem_head? hy)⟩
theorem obj_name {x : ObjD} (h : objB x = true) : nameB x.name = true := by
  unfold objB at h
  split at h
  · simp only [Bool.and_eq_true] at h; exact h.1.1.1
  · split at h
    · simp only [Bool.and_eq_true] at h; exact h.1.1
    · cases h
theorem space_iff {l : List ObjD} : spaceB l = true ↔ SrtS l ∧ (∀ x ∈ l, objB x = true) ∧ l.length ≤ 20 := by
  unfold spaceB
  rw [Bool.and_eq_true, spB_iff, decide_eq_true_eq]
  constructor
  · rintro ⟨⟨h1, h2, -⟩, h3⟩; exact ⟨h1, h2, h3⟩
  · rintro ⟨h1, h2, h3⟩
    refine ⟨⟨h1, h2, fun x hx => ?_⟩, h3⟩
    have := obj_name (h2 x (List.mem_of_mem_head? hx))
    rw [less_nil]
    simp only [nameB, Bool.and_eq_true] at this
    exact this.1.2
theorem has_iff {l : List ObjD} {n : List UInt8} : hasS l n = true ↔ ∃ x ∈ l, x.name = n := by
  unfold hasS idxS
  rw [decide_eq_true_eq, List.findIdx_lt_length]
  simp
theorem has_no {l : List ObjD} {n : List UInt8} : hasS l n = false ↔ ∀ x ∈ l, x.name ≠ n := by
  rw [← Bool.not_eq_true, has_iff]
  simp
theorem pos_le (l : List ObjD) (n : List UInt8) : posS l n ≤ l.length := List.countP_le_length
theorem pos_take : ∀ {l : List ObjD} (n : List UInt8), SrtS l → l.take (posS l n) = l.filter (fun p => Op.bytesLess p.name n) ∧ l.drop (posS l n) = l.filter (fun p => !Op.bytesLess p.name n)
  | [], n, _ => ⟨rfl, rfl⟩
  | p :: w, n, h => by
    have hp := List.pairwise_cons.1 h
    obtain ⟨i1, i2⟩ := pos_take n hp.2
    by_cases hlt : Op.bytesLess p.name n = true
    · have e : posS (p :: w) n = posS w n + 1 := by unfold posS; rw [List.countP_cons_of_pos (by simpa using hlt)]
      rw [e, List.take_succ_cons, List.drop_succ_cons, i1, i2, List.filter_cons_of_pos (by simpa using hlt), List.filter_cons_of_neg (by simpa using hlt)]
      exact ⟨rfl, rfl⟩
    · have hall : ∀ q ∈ w, ¬ Op.bytesLess q.name n = true := fun q hq hq2 => hlt (less_trans (hp.1 q hq) hq2)
      have hall' : ∀ q ∈ p :: w, ¬ Op.bytesLess q.name n = true := by
        intro q hq
        rcases List.mem_cons.1 hq with rfl | hq
        · exact hlt
        · exact hall q hq
      have e : posS (p :: w) n = 0 := by
        unfold posS; rw [List.countP_eq_zero]
        exact hall'
      rw [e, List.take_zero, List.drop_zero]
      constructor
      · rw [List.filter_eq_nil_iff.2 hall']
      · rw [List.filter_eq_self.2]
        intro q hq
        simpa using hall' q hq
theorem pos_at {l : List ObjD} (n : List UInt8) (h : SrtS l) (i : Nat) (hi : i < l.length) : Op.bytesLess l[i].name n = true ↔ i < posS l n := by
  obtain ⟨h1, h2⟩ := pos_take n h
  constructor
  · intro hl
    refine Classical.byContradiction fun hn => ?_
    have hm : l[i] ∈ l.drop (posS l n) := List.mem_drop_iff_getElem.2 ⟨i - posS l n, by omega, by congr 1; omega⟩
    rw [h2] at hm
    have := (List.mem_filter.1 hm).2
    rw [hl] at this; cases this
  · intro hlt
    have hm : l[i] ∈ l.take (posS l n) := List.mem_take_iff_getElem.2 ⟨i, by omega, rfl⟩
    rw [h1] at hm
    exact (List.mem_filter.1 hm).2
theorem ins_mem {l : List ObjD} {x y : ObjD} : y ∈ insS l x ↔ y = x ∨ y ∈ l := by
  unfold insS
  have h : y ∈ l ↔ y ∈ l.take (posS l x.name) ∨ y ∈ l.drop (posS l x.name) := by
    rw [← List.mem_append, List.take_append_drop]
  rw [List.mem_append, List.mem_append, List.mem_singleton, h]
  constructor
  · rintro (h | h | h) <;> simp [h]
  · rintro (h | h | h) <;> simp [h]
theorem ins_srt {l : List ObjD} {x : ObjD} (h : SrtS l) (hn : hasS l x.name = false) : SrtS (insS l x) := by
  obtain ⟨h1, h2⟩ := pos_take x.name h
  unfold insS SrtS
  rw [h1, h2, List.pairwise_append]
  refine ⟨h.filter _, List.pairwise_cons.2 ⟨?_, h.filter _⟩, ?_⟩
  · intro y hy
    obtain ⟨k1, k2⟩ := List.mem_filter.1 hy
    rcases less_total x.name y.name with e | e | e
    · exact e
    · exact absurd e.symm (has_no.1 hn y k1)
    · rw [e] at k2; cases k2
  · intro y hy z hz
    obtain ⟨k1, k2⟩ := List.mem_filter.1 hy
    rcases List.mem_cons.1 hz with rfl | hz
    · exact k2
    · obtain ⟨k3, k4⟩ := List.mem_filter.1 hz
      rcases less_total y.name z.name with e | e | e
      · exact e
      · rw [e] at k2; rw [k2] at k4; cases k4
      · rw [less_trans e k2] at k4; cases k4
theorem ins_len (l : List ObjD) (x : ObjD) : (insS l x).length = l.length + 1 := by
  have := pos_le l x.name
  unfold insS
  rw [List.length_append, List.length_append, List.length_take, List.length_drop, List.length_singleton]
  omega
theorem costL_append (a b : List ObjD) : costL (a ++ b) = costL a + costL b := by unfold costL; rw [List.map_append, List.sum_append]
theorem costL_one (x : ObjD) : costL [x] = costO x := by simp [costL]
theorem ins_cost (l : List ObjD) (x : ObjD) : costL (insS l x) = costL l + costO x := by
  have e : costL l = costL (l.take (posS l x.name)) + costL (l.drop (posS l x.name)) := by rw [← costL_append, List.take_append_drop]
  unfold insS
  rw [costL_append, costL_append, costL_one, e]
  omega
theorem ins_space {l : List ObjD} {x : ObjD} (h : spaceB l = true) (hx : objB x = true) (hn : hasS l x.name = false) (hl : l.length + 1 ≤ 20) : spaceB (insS l x) = true := by
  obtain ⟨h1, h2, h3⟩ := space_iff.1 h
  refine space_iff.2 ⟨ins_srt h1 hn, fun y hy => ?_, by rw [ins_len]; exact hl⟩
  rcases ins_mem.1 hy with rfl | hy
  · exact hx
  · exact h2 y hy
theorem mk_obj {n : List UInt8} {k m : Int} (hn : nameB n = true) (hk : (k == 1 || k == 2) = true) (hm : (maxB m && (k == 2 || m == 0)) = true) : objB (mkO n k m) = true := by
  unfold objB mkO
  simp only [maxB, Bool.and_eq_true, Bool.or_eq_true, beq_iff_eq, decide_eq_true_eq] at hk hm
  rcases hk with rfl | rfl
  · rw [if_pos rfl, hn]
    simp; omega
  · rw [if_neg (show ¬ (2 : Int) = 1 by decide), if_pos rfl, hn]
    simp [ringB, takesL]; omega
/-- strings.Compare -/
def cmpS (a b : List UInt8) : Int := if Op.bytesLess a b then -1 else if Op.bytesLess b a then 1 else 0
theorem cmpS_neg (a b : List UInt8) : cmpS a b < 0 ↔ Op.bytesLess a b = true := by unfold cmpS; split <;> rename_i h <;> simp [h] <;> split <;> omega
theorem cmpS_zero (a b : List UInt8) : cmpS a b = 0 ↔ a = b := by
  unfold cmpS
  constructor
  · intro h
    rcases less_total a b with e | e | e
    · rw [if_pos e] at h; cases h
    · exact e
    · rw [if_neg (by rw [less_asymm e]; simp), if_pos e] at h; cases h
  · rintro rfl; rw [less_irrefl]; rfl
def thereS (l : List ObjD) (n : List UInt8) : Bool := match l[posS l n]? with | some x => cmpS x.name n == 0 | none => false
end Go.Proofs.YthclfkhakmcnbaaGreatDoor
/- Two makes, either way about; what is made is dropped again. Plain. -/
namespace Go.Proofs.YthclfkhakmcnbaaGreatDoor
theorem srt_ext : ∀ {a b : List ObjD}, SrtS a → SrtS b → (∀ x, x ∈ a ↔ x ∈ b) → a = b
  | [], [], _, _, _ => rfl
  | [], y :: b, _, _, h => absurd ((h y).2 (by simp)) (by simp)
  | x :: a, [], _, _, h => absurd ((h x).1 (by simp)) (by simp)
  | x :: a, y :: b, h1, h2, h => by
    have p1 := List.pairwise_cons.1 h1
    have p2 := List.pairwise_cons.1 h2
    have e : x = y := by
      rcases List.mem_cons.1 ((h x).1 (by simp)) with e | e
      · exact e
      · rcases List.mem_cons.1 ((h y).2 (by simp)) with e2 | e2
        · exact e2.symm
        · have k1 := p2.1 x e
          have k2 := p1.1 y e2
          rw [less_asymm k1] at k2; cases k2
    subst e
    congr 1
    refine srt_ext p1.2 p2.2 fun z => ⟨fun hz => ?_, fun hz => ?_⟩
    · rcases List.mem_cons.1 ((h z).1 (by simp [hz])) with rfl | e
      · have := p1.1 z hz; rw [less_irrefl] at this; cases this
      · exact e
    · rcases List.mem_cons.1 ((h z).2 (by simp [hz])) with rfl | e
      · have := p2.1 z hz; rw [less_irrefl] at this; cases this
      · exact e
theorem ins_comm {l : List ObjD} {x y : ObjD} (h : SrtS l) (hx : hasS l x.name = false) (hy : hasS l y.name = false) (hne : x.name ≠ y.name) : insS (insS l x) y = insS (insS l y) x := by
  have h1 : hasS (insS l x) y.name = false := has_no.2 fun z hz => by
    rcases ins_mem.1 hz with rfl | hz
    · exact hne
    · exact has_no.1 hy z hz
  have h2 : hasS (insS l y) x.name = false := has_no.2 fun z hz => by
    rcases ins_mem.1 hz with rfl | hz
    · exact fun e => hne e.symm
    · exact has_no.1 hx z hz
  refine srt_ext (ins_srt (ins_srt h hx) h1) (ins_srt (ins_srt h hy) h2) fun z => ?_
  rw [ins_mem, ins_mem, ins_mem, ins_mem]
  constructor <;> rintro (h | h | h) <;> simp [h]
theorem make_zero {l : List ObjD} {q : Int} {n : List UInt8} {k m : Int} : makeE l q n k m = 0 ↔ spaceB l = true ∧ nameB n = true ∧ (k == 1 || k == 2) = true ∧ hasS l n = false ∧ (maxB m && (k == 2 || m == 0)) = true ∧ l.length + 1 ≤ 20 ∧ costL l + costO (mkO n k m) ≤ q := by
  unfold makeE
  rw [ins_cost]
  cases spaceB l <;> cases nameB n <;> cases (k == 1 || k == 2) <;> cases hasS l n <;> cases (maxB m && (k == 2 || m == 0)) <;> simp
theorem mk_cost {n : List UInt8} {k m : Int} (hm : (maxB m && (k == 2 || m == 0)) = true) : 10 ≤ costO (mkO n k m) := by
  simp only [maxB, Bool.and_eq_true, decide_eq_true_eq] at hm
  simp only [costO, mkO, List.length_nil]
  omega
theorem mkO_name (n : List UInt8) (k m : Int) : (mkO n k m).name = n := rfl
theorem make_made {l : List ObjD} {q : Int} {n : List UInt8} {k m : Int} (h : makeE l q n k m = 0) : makeS l q n k m = insS l (mkO n k m) := by unfold makeS; rw [if_pos h]
theorem make_space {l : List ObjD} {q : Int} {n : List UInt8} {k m : Int} (h : makeE l q n k m = 0) : spaceB (makeS l q n k m) = true := by
  rw [make_made h]
  obtain ⟨h1, h2, h3, h4, h5, h6, h7⟩ := make_zero.1 h
  exact ins_space h1 (mk_obj h2 h3 h5) h4 h6
theorem mturns_half {l : List ObjD} {q : Int} {n o : List UInt8} {k m k2 m2 : Int} (h : makeE l q n k m = 0) (h2 : makeE (makeS l q n k m) q o k2 m2 = 0) :
    makeE l q o k2 m2 = 0 ∧ makeE (makeS l q o k2 m2) q n k m = 0 ∧ makeS (makeS l q n k m) q o k2 m2 = makeS (makeS l q o k2 m2) q n k m ∧ (makeS (makeS l q n k m) q o k2 m2).length = l.length + 2 := by
  obtain ⟨a1, a2, a3, a4, a5, a6, a7⟩ := make_zero.1 h
  have hh := h2
  rw [make_made h] at h2
  obtain ⟨b1, b2, b3, b4, b5, b6, b7⟩ := make_zero.1 h2
  rw [ins_len] at b6
  rw [ins_cost] at b7
  have c1 := mk_cost (n := n) a5
  have c2 := mk_cost (n := o) b5
  have hx : hasS l o = false := has_no.2 fun z hz => has_no.1 b4 z (ins_mem.2 (.inr hz))
  have hne : n ≠ o := has_no.1 b4 (mkO n k m) (ins_mem.2 (.inl rfl))
  have e1 : makeE l q o k2 m2 = 0 := make_zero.2 ⟨a1, b2, b3, hx, b5, by omega, by omega⟩
  have e2 : makeE (makeS l q o k2 m2) q n k m = 0 := by
    rw [make_made e1]
    refine make_zero.2 ⟨ins_space a1 (mk_obj b2 b3 b5) hx (by omega), a2, a3, has_no.2 fun z hz => ?_, a5, by rw [ins_len]; omega, by rw [ins_cost]; omega⟩
    rcases ins_mem.1 hz with rfl | hz
    · exact fun e => hne e.symm
    · exact has_no.1 a4 z hz
  refine ⟨e1, e2, ?_, ?_⟩
  · rw [make_made hh, make_made e2, make_made h, make_made e1]
    exact ins_comm (space_iff.1 a1).1 a4 hx hne
  · rw [make_made hh, make_made h, ins_len, ins_len]
/-- in a space, a name's place is where it would be put -/
theorem idx_pos {l : List ObjD} {n : List UInt8} (h : SrtS l) (hh : hasS l n = true) : idxS l n = posS l n := by
  have hlt : idxS l n < l.length := by simpa [hasS] using hh
  have hp : (l[idxS l n].name == n) = true := List.findIdx_getElem (w := hlt)
  have hp' : l[idxS l n].name = n := by simpa using hp
  rcases Nat.lt_trichotomy (idxS l n) (posS l n) with h1 | h1 | h1
  · have := (pos_at n h _ hlt).2 h1
    rw [hp', less_irrefl] at this; cases this
  · exact h1
  · have hlp : posS l n < l.length := by omega
    have h2 := List.pairwise_iff_getElem.1 h _ _ hlp hlt h1
    rw [hp'] at h2
    have := (pos_at n h _ hlp).1 h2
    omega
theorem ins_has (l : List ObjD) (x : ObjD) : hasS (insS l x) x.name = true := has_iff.2 ⟨x, ins_mem.2 (.inl rfl), rfl⟩
theorem ins_pos (l : List ObjD) (x : ObjD) : posS (insS l x) x.name = posS l x.name := by
  have e : posS l x.name = (l.take (posS l x.name)).countP (fun y => Op.bytesLess y.name x.name) + (l.drop (posS l x.name)).countP (fun y => Op.bytesLess y.name x.name) := by
    rw [← List.countP_append, List.take_append_drop]; rfl
  show (insS l x).countP _ = _
  unfold insS
  rw [List.countP_append, List.countP_append, List.countP_cons, List.countP_nil, less_irrefl]
  simp only [Bool.false_eq_true, if_false]
  omega
theorem ins_idx {l : List ObjD} {x : ObjD} (h : SrtS l) (hn : hasS l x.name = false) : idxS (insS l x) x.name = posS l x.name := by
  rw [idx_pos (ins_srt h hn) (ins_has l x), ins_pos]
theorem ins_getElem? (l : List ObjD) (x : ObjD) : (insS l x)[posS l x.name]? = some x := by
  have := pos_le l x.name
  unfold insS
  rw [List.getElem?_append_right (by rw [List.length_take]; omega), List.length_take, Nat.min_eq_left this, Nat.sub_self]
  rfl
theorem ins_out (l : List ObjD) (x : ObjD) : (insS l x).take (posS l x.name) ++ (insS l x).drop (posS l x.name + 1) = l := by
  have hp := pos_le l x.name
  have hlen : (l.take (posS l x.name)).length = posS l x.name := by rw [List.length_take]; omega
  unfold insS
  rw [List.take_append_of_le_length (by omega), List.take_of_length_le (by omega), List.drop_append, hlen, Nat.add_sub_cancel_left, List.drop_of_length_le (by omega), List.nil_append]
  exact List.take_append_drop _ _
/-- SpaceBack -/
theorem make_back {l : List ObjD} {q : Int} {n : List UInt8} {k m : Int} (h : makeE l q n k m = 0) :
    findS l n = -1 ∧ (∃ hlt : idxS (makeS l q n k m) n < (makeS l q n k m).length, (makeS l q n k m)[idxS (makeS l q n k m) n] = mkO n k m) ∧ findS (makeS l q n k m) n = (idxS (makeS l q n k m) n : Int) ∧ dropE (makeS l q n k m) n = 0 ∧ dropS (makeS l q n k m) n = l := by
  have hsp := make_space h
  obtain ⟨a1, a2, a3, a4, a5, a6, a7⟩ := make_zero.1 h
  have hsrt := (space_iff.1 a1).1
  have hi : idxS (insS l (mkO n k m)) n = posS l n := ins_idx (x := mkO n k m) hsrt a4
  have hg := ins_getElem? l (mkO n k m)
  rw [mkO_name] at hg
  rw [make_made h] at hsp ⊢
  have hlt : idxS (insS l (mkO n k m)) n < (insS l (mkO n k m)).length := by rw [ins_len, hi]; have := pos_le l n; omega
  have hdE : dropE (insS l (mkO n k m)) n = 0 := by
    unfold dropE editE
    rw [if_pos hsp, dif_pos hlt]
    rfl
  refine ⟨?_, ⟨hlt, ?_⟩, ?_, hdE, ?_⟩
  · unfold findS
    rw [if_neg]
    intro hx
    have : hasS l n = true := by unfold hasS; exact decide_eq_true hx
    rw [this] at a4; cases a4
  · have := List.getElem?_eq_getElem hlt
    simp only [hi] at this
    rw [hg] at this
    simp only [hi]
    exact (Option.some.inj this).symm
  · unfold findS; rw [if_pos hlt]
  · unfold dropS
    rw [if_pos hdE, hi]
    exact ins_out l (mkO n k m)
end Go.Proofs.YthclfkhakmcnbaaGreatDoor
/- What is edited stays a space; costs. Plain. -/
namespace Go.Proofs.YthclfkhakmcnbaaGreatDoor
theorem has_lt {l : List ObjD} {n : List UInt8} (h : hasS l n = true) : idxS l n < l.length := by simpa [hasS] using h
theorem idx_name {l : List ObjD} {n : List UInt8} (h : idxS l n < l.length) : l[idxS l n].name = n := by
  have hp : (l[idxS l n].name == n) = true := List.findIdx_getElem (w := h)
  simpa using hp
theorem objS_at {l : List ObjD} {n : List UInt8} (h : idxS l n < l.length) : objS l n = l[idxS l n] := by unfold objS; rw [List.getElem?_eq_getElem h]; rfl
theorem edit_zero {l : List ObjD} {n : List UInt8} {k : Int} : editE l n k = 0 ↔ spaceB l = true ∧ idxS l n < l.length ∧ (k == 0 || (objS l n).kind == k) = true := by
  unfold editE
  cases spaceB l
  · simp
  · by_cases h : idxS l n < l.length
    · rw [if_pos rfl, dif_pos h, objS_at h]
      cases (k == 0 || l[idxS l n].kind == k) <;> simp [h]
    · rw [if_pos rfl, dif_neg h]; simp [h]
theorem set_split {l : List ObjD} {n : List UInt8} (f : ObjD → ObjD) (h : idxS l n < l.length) : setS l n f = l.take (idxS l n) ++ (f (objS l n) :: l.drop (idxS l n + 1)) := by
  unfold setS; rw [objS_at h, List.modify_eq_take_cons_drop h]
theorem l_split {l : List ObjD} {n : List UInt8} (h : idxS l n < l.length) : l = l.take (idxS l n) ++ (objS l n :: l.drop (idxS l n + 1)) := by
  rw [objS_at h]; simp
theorem set_len (l : List ObjD) (n : List UInt8) (f : ObjD → ObjD) : (setS l n f).length = l.length := by unfold setS; exact List.length_modify ..
theorem set_cost {l : List ObjD} {n : List UInt8} (f : ObjD → ObjD) (h : idxS l n < l.length) : costL (setS l n f) = costL l - costO (objS l n) + costO (f (objS l n)) := by
  have e := congrArg costL (l_split h)
  rw [costL_append] at e
  rw [set_split f h, costL_append]
  have k : ∀ (x : ObjD) (r : List ObjD), costL (x :: r) = costO x + costL r := fun x r => by simp [costL]
  rw [k] at e ⊢
  omega
theorem objS_mem {l : List ObjD} {n : List UInt8} (h : idxS l n < l.length) : objS l n ∈ l := by rw [objS_at h]; exact List.getElem_mem h
theorem set_names (l : List ObjD) (n : List UInt8) (f : ObjD → ObjD) (hf : ∀ x, (f x).name = x.name) : (setS l n f).map (·.name) = l.map (·.name) := by
  refine List.ext_getElem? fun i => ?_
  unfold setS
  rw [List.getElem?_map, List.getElem?_map, List.getElem?_modify]
  cases l[i]? with
  | none => split <;> rfl
  | some x =>
    split
    · simp [hf]
    · rfl
theorem srt_names {l : List ObjD} : SrtS l ↔ (l.map (·.name)).Pairwise fun a b => Op.bytesLess a b = true := by
  unfold SrtS; rw [List.pairwise_map]
theorem set_mem {l : List ObjD} {n : List UInt8} {f : ObjD → ObjD} (h : idxS l n < l.length) {y : ObjD} (hy : y ∈ setS l n f) : y ∈ l ∨ y = f (objS l n) := by
  rw [set_split f h] at hy
  rcases List.mem_append.1 hy with h1 | h1
  · exact .inl (List.mem_of_mem_take h1)
  · rcases List.mem_cons.1 h1 with h1 | h1
    · exact .inr h1
    · exact .inl (List.mem_of_mem_drop h1)
theorem set_space {l : List ObjD} {n : List UInt8} {f : ObjD → ObjD} (h : spaceB l = true) (hi : idxS l n < l.length) (hf : ∀ x, (f x).name = x.name) (ho : objB (f (objS l n)) = true) : spaceB (setS l n f) = true := by
  obtain ⟨h1, h2, h3⟩ := space_iff.1 h
  refine space_iff.2 ⟨?_, fun y hy => ?_, by rw [set_len]; exact h3⟩
  · rw [srt_names, set_names l n f hf, ← srt_names]; exact h1
  · rcases set_mem hi hy with k | rfl
    · exact h2 y k
    · exact ho
theorem withD_obj {x : ObjD} {s : List UInt8} (h : objB x = true) (hk : x.kind = 1) (hs : s.length ≤ 1000) : objB (withD s x) = true := by
  unfold objB withD at *
  simp only [hk, if_true, Bool.and_eq_true, decide_eq_true_eq] at h ⊢
  exact ⟨⟨⟨h.1.1.1, hs⟩, h.1.2⟩, h.2⟩
theorem obj_cost {x : ObjD} (h : objB x = true) : 10 ≤ costO x := by
  have hm : 0 ≤ x.max := by
    unfold objB at h
    split at h
    · simp only [Bool.and_eq_true, beq_iff_eq] at h; omega
    · split at h
      · simp only [ringB, Bool.and_eq_true, decide_eq_true_eq] at h; exact h.2.1.1.1
      · cases h
  unfold costO; omega
theorem costS_of {l : List ObjD} (h : spaceB l = true) : costS l = costL l := by unfold costS; rw [if_pos h]
theorem make_bound {l : List ObjD} {q : Int} {n : List UInt8} {k m : Int} (h : makeE l q n k m = 0) : spaceB (makeS l q n k m) = true ∧ costS (makeS l q n k m) ≤ q ∧ costS l < costS (makeS l q n k m) := by
  have hsp := make_space h
  obtain ⟨a1, a2, a3, a4, a5, a6, a7⟩ := make_zero.1 h
  rw [costS_of hsp, costS_of a1, make_made h, ins_cost]
  have := mk_cost (n := n) a5
  exact ⟨by rw [← make_made h]; exact hsp, a7, by omega⟩
theorem data_zero {l : List ObjD} {q : Int} {n : List UInt8} {b : Bool} {s : List UInt8} : dataE l q n b s = 0 ↔ editE l n 1 = 0 ∧ b = true ∧ (costL (setS l n (withD s)) ≤ q ∨ costL (setS l n (withD s)) ≤ costL l) := by
  unfold dataE
  by_cases h : editE l n 1 = 0
  · rw [if_pos h]
    cases b
    · simp [h]
    · simp only [if_true, h, true_and]
      by_cases h2 : (decide (q < costL (setS l n (withD s))) && decide (costL l < costL (setS l n (withD s)))) = true
      · rw [if_pos h2]
        simp only [Bool.and_eq_true, decide_eq_true_eq] at h2
        constructor
        · intro h; cases h
        · intro h; omega
      · rw [if_neg h2]
        simp only [Bool.and_eq_true, decide_eq_true_eq] at h2
        simp; omega
  · rw [if_neg h]; simp [h]
theorem data_space {l : List ObjD} {q : Int} {n : List UInt8} {b : Bool} {s : List UInt8} (h : dataE l q n b s = 0) (hs : b = true → s.length ≤ 1000) : spaceB (dataS l q n b s) = true := by
  obtain ⟨h1, h2, -⟩ := data_zero.1 h
  obtain ⟨e1, e2, e3⟩ := edit_zero.1 h1
  unfold dataS
  rw [if_pos h]
  refine set_space e1 e2 (fun x => rfl) (withD_obj ((space_iff.1 e1).2.1 _ (objS_mem e2)) ?_ (hs h2))
  simpa using e3
theorem data_bound {l : List ObjD} {q : Int} {n : List UInt8} {b : Bool} {s : List UInt8} (h : dataE l q n b s = 0) (hs : b = true → s.length ≤ 1000) : spaceB (dataS l q n b s) = true ∧ costS (dataS l q n b s) ≤ max (costS l) q := by
  have hsp := data_space h hs
  obtain ⟨h1, h2, h3⟩ := data_zero.1 h
  obtain ⟨e1, e2, e3⟩ := edit_zero.1 h1
  refine ⟨hsp, ?_⟩
  rw [costS_of hsp, costS_of e1]
  unfold dataS
  rw [if_pos h]
  omega
theorem fwrite_len {s t : List UInt8} {k : Int} (h : fwriteB s k t = true) : (fwriteL s k t).length ≤ 1000 := by
  simp only [fwriteB, Bool.and_eq_true, decide_eq_true_eq] at h
  simp only [fwriteL, List.length_append, List.length_take, List.length_drop]
  omega
theorem fcut_len {s : List UInt8} {k : Int} (h : fcutB s k = true) : (fcutL s k).length ≤ 1000 := by
  simp only [fcutB, Bool.and_eq_true, decide_eq_true_eq] at h
  simp only [fcutL, List.length_append, List.length_take, List.length_replicate]
  omega
theorem write_bound {l : List ObjD} {q : Int} {n : List UInt8} {k : Int} {t : List UInt8} (h : writeE l q n k t = 0) : spaceB (writeS l q n k t) = true ∧ costS (writeS l q n k t) ≤ max (costS l) q := data_bound h fun hb => fwrite_len hb
theorem cut_bound {l : List ObjD} {q : Int} {n : List UInt8} {k : Int} (h : cutE l q n k = 0) : spaceB (cutS l q n k) = true ∧ costS (cutS l q n k) ≤ max (costS l) q := data_bound h fun hb => fcut_len hb
theorem drop_mem {l : List ObjD} {n : List UInt8} {y : ObjD} (hy : y ∈ l.take (idxS l n) ++ l.drop (idxS l n + 1)) : y ∈ l := by
  rcases List.mem_append.1 hy with h1 | h1
  · exact List.mem_of_mem_take h1
  · exact List.mem_of_mem_drop h1
theorem drop_srt {l : List ObjD} {n : List UInt8} (h : SrtS l) : SrtS (l.take (idxS l n) ++ l.drop (idxS l n + 1)) := by
  unfold SrtS at *
  rw [← List.eraseIdx_eq_take_drop_succ]
  exact h.sublist (List.eraseIdx_sublist _ _)
theorem drop_space {l : List ObjD} {n : List UInt8} (h : dropE l n = 0) : spaceB (dropS l n) = true := by
  obtain ⟨e1, e2, -⟩ := edit_zero.1 h
  obtain ⟨h1, h2, h3⟩ := space_iff.1 e1
  unfold dropS
  rw [if_pos h]
  exact space_iff.2 ⟨drop_srt h1, fun y hy => h2 y (drop_mem hy), by rw [List.length_append, List.length_take, List.length_drop]; omega⟩
theorem drop_bound {l : List ObjD} {n : List UInt8} (h : dropE l n = 0) : spaceB (dropS l n) = true ∧ costS (dropS l n) < costS l := by
  have hsp := drop_space h
  obtain ⟨e1, e2, -⟩ := edit_zero.1 h
  refine ⟨hsp, ?_⟩
  rw [costS_of hsp, costS_of e1]
  unfold dropS
  rw [if_pos h]
  have e := congrArg costL (l_split e2)
  rw [costL_append] at e
  have k : ∀ (x : ObjD) (r : List ObjD), costL (x :: r) = costO x + costL r := fun x r => by simp [costL]
  rw [k] at e
  have := obj_cost ((space_iff.1 e1).2.1 _ (objS_mem e2))
  rw [costL_append]
  omega
end Go.Proofs.YthclfkhakmcnbaaGreatDoor
/- What names one object changes no other one; what is put into a ring comes out. Plain. -/
namespace Go.Proofs.YthclfkhakmcnbaaGreatDoor
theorem find_idxS (l : List ObjD) (n : List UInt8) : l.find? (fun x => x.name == n) = l[idxS l n]? := by
  induction l with
  | nil => rfl
  | cons x l ih =>
    unfold idxS at *
    rw [List.find?_cons, List.findIdx_cons]
    cases h : (x.name == n) with
    | true => rfl
    | false => simpa using ih
/-- has a name the same object in both, or none in both? -/
def keptB (a b : List ObjD) (n : List UInt8) : Bool :=
  if idxS a n < a.length ∧ idxS b n < b.length then sameO (objS a n) (objS b n) else decide (¬ idxS a n < a.length) && decide (¬ idxS b n < b.length)
theorem kept_of {a b : List ObjD} {n : List UInt8} (h : a.find? (fun x => x.name == n) = b.find? (fun x => x.name == n)) : keptB a b n = true := by
  rw [find_idxS, find_idxS] at h
  unfold keptB
  by_cases ha : idxS a n < a.length
  · have hb : idxS b n < b.length := by
      rw [List.getElem?_eq_getElem ha] at h
      exact (List.getElem?_eq_some_iff.1 h.symm).1
    rw [if_pos ⟨ha, hb⟩]
    have e : objS a n = objS b n := by unfold objS; rw [h]
    rw [e]; simp [sameO]
  · have hb : ¬ idxS b n < b.length := by
      intro hb
      rw [List.getElem?_eq_none (by omega), List.getElem?_eq_getElem hb] at h
      cases h
    rw [if_neg (fun h => ha h.1)]
    simp only [ha, hb, not_false_eq_true, decide_true, Bool.and_true]
theorem make_kept {l : List ObjD} {q : Int} {n o : List UInt8} {k m : Int} (h : makeE l q n k m = 0) (hne : n ≠ o) : keptB l (makeS l q n k m) o = true := by
  refine kept_of ?_
  rw [make_made h]
  unfold insS
  have e : ((mkO n k m).name == o) = false := by simpa [mkO] using hne
  have e2 := congrArg (List.find? fun x => x.name == o) (List.take_append_drop (posS l (mkO n k m).name) l)
  rw [List.find?_append] at e2
  rw [List.find?_append, List.find?_append, List.find?_cons, e]
  simpa using e2.symm
theorem split_find {l : List ObjD} {n o : List UInt8} (hi : idxS l n < l.length) (hne : n ≠ o) (r : List ObjD) (hr : r.find? (fun x => x.name == o) = none) :
    l.find? (fun x => x.name == o) = (l.take (idxS l n) ++ (r ++ l.drop (idxS l n + 1))).find? (fun x => x.name == o) := by
  have e2 := congrArg (List.find? fun x => x.name == o) (l_split hi)
  have e : ((objS l n).name == o) = false := by rw [objS_at hi, idx_name hi]; simpa using hne
  rw [List.find?_append, List.find?_cons, e] at e2
  rw [List.find?_append, List.find?_append, hr]
  simpa using e2
theorem drop_kept {l : List ObjD} {n o : List UInt8} (h : dropE l n = 0) (hne : n ≠ o) : keptB l (dropS l n) o = true := by
  obtain ⟨-, hi, -⟩ := edit_zero.1 h
  refine kept_of ?_
  unfold dropS
  rw [if_pos h]
  exact split_find hi hne [] rfl
theorem set_kept {l : List ObjD} {n o : List UInt8} {f : ObjD → ObjD} (hi : idxS l n < l.length) (hne : n ≠ o) (hf : ∀ x, (f x).name = x.name) : keptB l (setS l n f) o = true := by
  refine kept_of ?_
  rw [set_split f hi]
  refine split_find hi hne [f (objS l n)] ?_
  have e : ((f (objS l n)).name == o) = false := by rw [hf, objS_at hi, idx_name hi]; simpa using hne
  rw [List.find?_cons, e]; rfl
theorem data_kept {l : List ObjD} {q : Int} {n o : List UInt8} {b : Bool} {s : List UInt8} (h : dataE l q n b s = 0) (hne : n ≠ o) : keptB l (dataS l q n b s) o = true := by
  obtain ⟨h1, -, -⟩ := data_zero.1 h
  obtain ⟨-, hi, -⟩ := edit_zero.1 h1
  unfold dataS
  rw [if_pos h]
  exact set_kept hi hne fun x => rfl
theorem write_kept {l : List ObjD} {q : Int} {n o : List UInt8} {k : Int} {t : List UInt8} (h : writeE l q n k t = 0) (hne : n ≠ o) : keptB l (writeS l q n k t) o = true := data_kept h hne
theorem put_zero {l : List ObjD} {n t : List UInt8} : putE l n t = 0 ↔ editE l n 2 = 0 ∧ rputE (objS l n).max (objS l n).items t = 0 := by
  unfold putE
  by_cases h : editE l n 2 = 0
  · rw [if_pos h]; simp [h]
  · rw [if_neg h]; simp [h]
theorem put_kept {l : List ObjD} {n o t : List UInt8} (h : putE l n t = 0) (hne : n ≠ o) : keptB l (putS l n t) o = true := by
  obtain ⟨h1, -⟩ := put_zero.1 h
  obtain ⟨-, hi, -⟩ := edit_zero.1 h1
  unfold putS
  rw [if_pos h]
  exact set_kept hi hne fun x => rfl
/-! ### queues -/
theorem set_idx (l : List ObjD) (n : List UInt8) (f : ObjD → ObjD) (hf : ∀ x, (f x).name = x.name) : idxS (setS l n f) n = idxS l n := by
  have key : ∀ (l : List ObjD), idxS l n = (l.map (·.name)).findIdx (fun x => x == n) := fun l => by unfold idxS; rw [List.findIdx_map]; rfl
  rw [key, key, set_names l n f hf]
theorem set_obj {l : List ObjD} {n : List UInt8} {f : ObjD → ObjD} (hi : idxS l n < l.length) (hf : ∀ x, (f x).name = x.name) : objS (setS l n f) n = f (objS l n) := by
  unfold objS
  rw [set_idx l n f hf]
  unfold setS
  rw [List.getElem?_modify, List.getElem?_eq_getElem hi]
  simp
theorem set_set {l : List ObjD} {n : List UInt8} {f g : ObjD → ObjD} (hi : idxS l n < l.length) (hf : ∀ x, (f x).name = x.name) : setS (setS l n f) n g = setS l n (fun x => g (f x)) := by
  refine List.ext_getElem? fun i => ?_
  unfold setS
  rw [List.getElem?_modify, List.getElem?_modify, List.getElem?_modify, show idxS (l.modify (idxS l n) f) n = idxS l n from set_idx l n f hf]
  split
  · simp [Option.map_map]; rfl
  · simp
theorem set_self {l : List ObjD} {n : List UInt8} {f : ObjD → ObjD} (hi : idxS l n < l.length) (h : f (objS l n) = objS l n) : setS l n f = l := by
  rw [set_split f hi, h, ← l_split hi]
theorem takesL_app (l : List (List UInt8)) (t : List UInt8) : takesL (l ++ [t]) = takesL l + (t.length + 1) := by simp [takesL]
theorem rput_zero {m : Int} {l : List (List UInt8)} {t : List UInt8} : rputE m l t = 0 ↔ ringB m l = true ∧ t.length ≤ 200 ∧ (takesL l : Int) + (t.length + 1) ≤ m := by
  unfold rputE
  by_cases h : (ringB m l && decide (t.length ≤ 200)) = true
  · rw [if_pos h]
    simp only [Bool.and_eq_true, decide_eq_true_eq] at h
    by_cases h2 : (takesL l : Int) + (t.length + 1) ≤ m
    · rw [if_pos (by simpa using h2)]; simp [h.1, h.2, h2]
    · rw [if_neg (by simpa using h2)]; simp [h.1, h.2, h2]
  · rw [if_neg h]
    simp only [Bool.and_eq_true, decide_eq_true_eq] at h
    simp
    intro h1 h2
    exact absurd ⟨h1, h2⟩ h
theorem rput_ring {m : Int} {l : List (List UInt8)} {t : List UInt8} (h : rputE m l t = 0) : ringB m (l ++ [t]) = true := by
  obtain ⟨h1, h2, h3⟩ := rput_zero.1 h
  simp only [ringB, Bool.and_eq_true, decide_eq_true_eq, List.all_append, List.all_cons, List.all_nil, Bool.and_true] at h1 ⊢
  rw [takesL_app]
  refine ⟨⟨⟨h1.1.1.1, h1.1.1.2⟩, ⟨h1.1.2, h2⟩⟩, by omega⟩
theorem ring_tail {m : Int} {s : List UInt8} {l : List (List UInt8)} (h : ringB m (s :: l) = true) : ringB m l = true := by
  have e : takesL (s :: l) = s.length + 1 + takesL l := by simp [takesL]
  simp only [ringB, Bool.and_eq_true, decide_eq_true_eq, List.all_cons, e] at h ⊢
  exact ⟨⟨⟨h.1.1.1, h.1.1.2⟩, h.1.2.2⟩, by omega⟩
theorem withR_obj {x : ObjD} {m : Int} {l : List (List UInt8)} (h : objB x = true) (hk : x.kind = 2) (hm : ringB m l = true) : objB (withR m l x) = true := by
  unfold objB withR at *
  simp only [hk, if_neg (show ¬ (2 : Int) = 1 by decide), if_true, Bool.and_eq_true] at h ⊢
  exact ⟨⟨h.1.1, h.1.2⟩, hm⟩
theorem ring_of {x : ObjD} (h : objB x = true) (hk : x.kind = 2) : ringB x.max x.items = true := by
  unfold objB at h
  simp only [hk, if_neg (show ¬ (2 : Int) = 1 by decide), if_true, Bool.and_eq_true] at h
  exact h.2
theorem edit_kind {l : List ObjD} {n : List UInt8} {k : Int} (hk : k ≠ 0) (h : editE l n k = 0) : (objS l n).kind = k := by
  obtain ⟨-, -, h3⟩ := edit_zero.1 h
  simpa [hk] using h3
theorem put_space {l : List ObjD} {n t : List UInt8} (h : putE l n t = 0) : spaceB (putS l n t) = true := by
  obtain ⟨h1, h2⟩ := put_zero.1 h
  obtain ⟨e1, hi, -⟩ := edit_zero.1 h1
  unfold putS
  rw [if_pos h]
  exact set_space e1 hi (fun x => rfl) (withR_obj ((space_iff.1 e1).2.1 _ (objS_mem hi)) (edit_kind (by decide) h1) (rput_ring h2))
theorem queue_law {l : List ObjD} {n t : List UInt8} (h : putE l n t = 0) :
    findS l n = (idxS l n : Int) ∧ idxS l n < l.length ∧ takeE (putS l n t) n = 0 ∧
    ((objS l n).items = [] → takeT (putS l n t) n = t ∧ takeS (putS l n t) n = l) ∧
    (∀ s r, (objS l n).items = s :: r → takeT (putS l n t) n = s ∧ costS (takeS (putS l n t) n) = costS l) := by
  have hsp := put_space h
  obtain ⟨h1, h2⟩ := put_zero.1 h
  obtain ⟨e1, hi, -⟩ := edit_zero.1 h1
  have hk := edit_kind (by decide) h1
  have hob := (space_iff.1 e1).2.1 _ (objS_mem hi)
  have hp : putS l n t = setS l n (withR (objS l n).max ((objS l n).items ++ [t])) := by unfold putS; rw [if_pos h]
  have hs := set_obj (f := withR (objS l n).max ((objS l n).items ++ [t])) hi (fun x => rfl)
  have hi2 : idxS (putS l n t) n < (putS l n t).length := by rw [hp, set_idx l n (withR (objS l n).max ((objS l n).items ++ [t])) (fun x => rfl), set_len]; exact hi
  have hed : editE (putS l n t) n 2 = 0 := edit_zero.2 ⟨hsp, hi2, by rw [hp, hs]; simp [withR, hk]⟩
  have hrg := rput_ring h2
  have ht : takeE (putS l n t) n = 0 := by
    unfold takeE
    rw [if_pos hed, hp, hs]
    unfold rtakeE withR
    dsimp only
    rw [if_pos hrg, if_neg]
    simp
  have hT : takeT (putS l n t) n = ((objS l n).items ++ [t]).headD [] := by
    unfold takeT
    rw [if_pos ht, hp, hs]; rfl
  have hS : takeS (putS l n t) n = setS l n (fun x => withR (objS l n).max ((objS l n).items ++ [t]).tail (withR (objS l n).max ((objS l n).items ++ [t]) x)) := by
    unfold takeS
    rw [if_pos ht, hp, hs, set_set (f := withR (objS l n).max ((objS l n).items ++ [t])) hi (fun x => rfl)]
    rfl
  refine ⟨by unfold findS; rw [if_pos hi], hi, ht, fun h0 => ?_, fun s r h0 => ?_⟩
  · rw [hT, hS]
    refine ⟨by rw [h0]; rfl, ?_⟩
    refine set_self hi ?_
    obtain ⟨x, hx⟩ : ∃ x, objS l n = x := ⟨_, rfl⟩
    rw [hx] at h0 ⊢
    rw [h0]
    obtain ⟨x1, x2, x3, x4, x5⟩ := x
    simp only at h0
    subst h0
    rfl
  · rw [hT, hS]
    refine ⟨by rw [h0]; rfl, ?_⟩
    have hg : ringB (objS l n).max ((objS l n).items ++ [t]).tail = true := by
      rw [h0]
      rw [h0] at hrg
      exact ring_tail hrg
    have hsp2 : spaceB (setS l n (fun x => withR (objS l n).max ((objS l n).items ++ [t]).tail (withR (objS l n).max ((objS l n).items ++ [t]) x))) = true :=
      set_space e1 hi (fun x => rfl) (withR_obj (withR_obj hob hk hrg) hk hg)
    rw [costS_of hsp2, costS_of e1, set_cost _ hi]
    have : costO (withR (objS l n).max ((objS l n).items ++ [t]).tail (withR (objS l n).max ((objS l n).items ++ [t]) (objS l n))) = costO (objS l n) := rfl
    rw [this]; omega
end Go.Proofs.YthclfkhakmcnbaaGreatDoor
