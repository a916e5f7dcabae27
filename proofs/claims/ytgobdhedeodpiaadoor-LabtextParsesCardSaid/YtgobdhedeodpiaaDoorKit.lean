/- Small lemmas on no program, used by this seat's walks. -/
import Derived.Test.YtgobdhedeodpiaaDoorChecked
import Derived.WalkKit
import Derived.WalkSpells
import Derived.WalkLawsBesides
import Derived.Deep.QuietTactic
import Derived.BigQuiet
import Derived.Lib.Hide
import Derived.Lib.SmallJoins
import Derived.Lib.Strings
namespace Go.Proofs.YtgobdhedeodpiaaDoor
open Go.RowKit
theorem ret_bool {a b : Bool} (h : a = b) : Ending.returned (.bool a) = .returned (.bool b) := by rw [h]
theorem ret_int {k : IntKind} {a b : Int} (h : a = b) : Ending.returned (.int k a) = .returned (.int k b) := by rw [h]
theorem ret_str {a b : List UInt8} (h : a = b) : Ending.returned (.string ⟨a.toArray⟩) = .returned (.string ⟨b.toArray⟩) := by rw [h]
theorem drop_cons {α : Type} (l : List α) (k : Nat) (h : k < l.length) : l.drop k = l[k] :: l.drop (k + 1) := List.drop_eq_getElem_cons h
theorem ba_size (l : List UInt8) : (ByteArray.mk l.toArray).size = l.length := by simp [ByteArray.size]
@[go_sem] theorem ba_get (l : List UInt8) (k : Nat) (h : k < (ByteArray.mk l.toArray).size) : (ByteArray.mk l.toArray)[k] = l[k]'(by rw [← ba_size]; exact h) := by
  simp [ByteArray.getElem_eq_getElem_data]
@[go_sem] theorem ba_append (a b : List UInt8) : (ByteArray.mk a.toArray) ++ (ByteArray.mk b.toArray) = ByteArray.mk (a ++ b).toArray := by
  have h := Joins.data_append (ByteArray.mk a.toArray) (ByteArray.mk b.toArray)
  have := Lib.mk_data ((ByteArray.mk a.toArray) ++ (ByteArray.mk b.toArray))
  rw [← this, h]
@[go_sem] theorem ba_extract (l : List UInt8) (a b : Nat) : (ByteArray.mk l.toArray).extract a b = ByteArray.mk ((l.drop a).take (b - a)).toArray := by
  rw [Lib.extract_eq]
@[go_sem] theorem ba_empty : ByteArray.empty = ByteArray.mk #[] := rfl
theorem sum_i (k : Nat) (j : Int) (m : Nat) (hm : (m : Int) = k + j) (h : m ≤ 9223372036854775807) : IntKind.i64.wrap ((k : Int) + j) = k + j ∧ (0 : Int) ≤ k + j ∧ ((k : Int) + j).toNat = m :=
  ⟨IntWalk.i64_in _ (by omega), by omega, by omega⟩
theorem u8_lt (a : UInt8) : (0 : Int) ≤ a.toNat ∧ (a.toNat : Int) ≤ 255 := ⟨by omega, by have := a.toNat_lt; omega⟩
theorem u8_eq {a b : UInt8} (h : a.toNat = b.toNat) : a = b := UInt8.toNat_inj.1 h
theorem fold_push (l : List UInt8) : ∀ (pre : List UInt8), (l.map fun c => (c.toNat : Int)).foldl (fun r n => r.push (UInt8.ofNat n.toNat)) (⟨pre.toArray⟩ : ByteArray) = ⟨(pre ++ l).toArray⟩ := by
  induction l with
  | nil => intro pre; simp
  | cons c l ih =>
    intro pre
    have h : (ByteArray.mk pre.toArray).push (UInt8.ofNat ((c.toNat : Int)).toNat) = ⟨(pre ++ [c]).toArray⟩ := by simp [ByteArray.push]
    rw [List.map_cons, List.foldl_cons, h, ih]; simp
/-- 'string(bytes)', the cells being known. -/
theorem conv_bytes {P : Program} (W : World) (src dst e : TypeId) (a : Addr) (cap : Nat) (l : List UInt8) (hs : P.underlying src = some (.slice e)) (he : P.underlying e = some (.int .u8)) (hd : P.underlying dst = some .string)
    (h : ∀ (j : Nat) (hj : j < l.length), W.cell? (a.add j) = some (.int .u8 l[j].toNat)) :
    (convert src dst (.slice (some a) l.length cap)).run P W = .ok (.string ⟨l.toArray⟩) W := by
  rw [run_convert_bytes_string W src dst e _ _ _ hs he hd]
  have hl := run_loadCells_list (P := P) (w := W) a ((l.map fun c => (c.toNat : Int)).map (Value.int .u8)) (by
    intro j v hv
    simp only [List.map_map, List.getElem?_map, Option.map_eq_some_iff] at hv
    obtain ⟨c, hc, rfl⟩ := hv
    obtain ⟨hj, rfl⟩ := List.getElem?_eq_some_iff.1 hc
    exact h j hj)
  rw [List.length_map, List.length_map] at hl
  rw [run_bytesToString W a _ cap _ hl]
  have := fold_push l []
  simp only [List.nil_append] at this
  rw [← this]; rfl
/-- 'string([]byte{c})' -/
theorem conv_byte1 {P : Program} (W : World) (src dst e : TypeId) (c : UInt8) (hs : P.underlying src = some (.slice e)) (he : P.underlying e = some (.int .u8)) (hd : P.underlying dst = some .string) :
    (convert src dst (.slice (some ⟨W.heap.size, 0, none⟩) 1 1)).run P (W.alloc (.cells #[.int .u8 c.toNat] e)) = .ok (.string ⟨#[c]⟩) (W.alloc (.cells #[.int .u8 c.toNat] e)) :=
  conv_bytes (W.alloc (.cells #[.int .u8 c.toNat] e)) src dst e ⟨W.heap.size, 0, none⟩ 1 [c] hs he hd (by
    intro j hj
    obtain rfl : j = 0 := by simpa using hj
    simp [Addr.add])
/-- Block b holds just the cells cs, of type t, none frozen. -/
def Blk (W : World) (b : Nat) (cs : Array Value) (t : TypeId) : Prop := W.heap[b]? = some (.cells cs t (0, 0))
theorem Blk.lt {W : World} {b : Nat} {cs : Array Value} {t : TypeId} (h : Blk W b cs t) : b < W.heap.size := (Array.getElem?_eq_some_iff.1 h).1
theorem Blk.cell {W : World} {b : Nat} {cs : Array Value} {t : TypeId} (h : Blk W b cs t) (i : Nat) : W.cell? ⟨b, i, none⟩ = cs[i]? := by simp [World.cell?, show W.heap[b]? = _ from h]
theorem Blk.frozen {W : World} {b : Nat} {cs : Array Value} {t : TypeId} (h : Blk W b cs t) (i : Nat) : W.frozen? ⟨b, i, none⟩ = false := by simp [World.frozen?, show W.heap[b]? = _ from h]
theorem Blk.new (W : World) (cs : Array Value) (t : TypeId) : Blk (W.alloc (.cells cs t)) W.heap.size cs t := by
  show (W.heap.push _)[W.heap.size]? = _
  simp
theorem Blk.kept {W W' : World} {row : Option Nat} {b : Nat} {cs : Array Value} {t : TypeId} (h : Blk W b cs t) (hg : W.grownBy W' row) (hne : some b ≠ row) : Blk W' b cs t := (hg.block b h.lt hne).trans h
theorem Blk.alloc {W : World} {b : Nat} {cs : Array Value} {t : TypeId} (h : Blk W b cs t) (o : Obj) : Blk (W.alloc o) b cs t := h.kept (World.grownBy_alloc W o none) (by simp)
theorem Blk.below {n : Nat} {W W' : World} {b : Nat} {cs : Array Value} {t : TypeId} (h : Blk W b cs t) (hb : Below n W W') (hn : b < n) : Blk W' b cs t := (hb.block b hn).trans h
theorem Blk.set {W : World} {b : Nat} {cs : Array Value} {t : TypeId} (i : Nat) (v : Value) (h : Blk W b cs t) : Blk (W.setCell ⟨b, i, none⟩ v) b (cs.setIfInBounds i v) t := by
  obtain ⟨hlt, hk⟩ := Array.getElem?_eq_some_iff.1 h
  show (W.heap.modify b _)[b]? = _
  rw [Array.getElem?_eq_getElem (by rw [Array.size_modify]; exact hlt), Array.getElem_modify_self, hk]
  rfl
theorem Blk.drewN {W : World} {b : Nat} {cs : Array Value} {t : TypeId} (h : Blk W b cs t) (n : Nat) : Blk (W.drewN n) b cs t := h
theorem Blk.other {W : World} {b b' : Nat} {cs : Array Value} {t : TypeId} (i : Nat) (v : Value) (h : Blk W b cs t) (hne : b ≠ b') : Blk (W.setCell ⟨b', i, none⟩ v) b cs t := (Below.heap_setCell W ⟨b', i, none⟩ v b hne).trans h
theorem grownBy_setCellB (W : World) (b i : Nat) (v : Value) : W.grownBy (W.setCell ⟨b, i, none⟩ v) (some b) :=
  ⟨rfl, rfl, rfl, by simp [World.setCell], fun k _ hk => Below.heap_setCell _ _ _ k (fun e => hk (by rw [e]))⟩
theorem grownBy_t {a b c : World} {row : Option Nat} (h : a.grownBy b row) (k : b.grownBy c row) : a.grownBy c row :=
  ⟨k.os.trans h.os, k.tape.trans h.tape, k.output.trans h.output, Nat.le_trans h.size k.size, fun i hi hr => (k.block i (Nat.lt_of_lt_of_le hi h.size) hr).trans (h.block i hi hr)⟩
theorem Blk_at {W : World} {b : Nat} {cs : Array Value} {t : TypeId} (h : b = W.heap.size) : Blk (W.alloc (.cells cs t)) b cs t := by subst h; exact Blk.new _ _ _
theorem Blk_at2 {W : World} {b : Nat} {cs : Array Value} {t : TypeId} {o : Obj} (h : b = W.heap.size) : Blk ((W.alloc (.cells cs t)).alloc o) b cs t := by subst h; exact (Blk.new _ _ _).alloc _
theorem Blk.drew {W : World} {b : Nat} {cs : Array Value} {t : TypeId} (h : Blk W b cs t) : Blk W.drew b cs t := h
theorem grown_cells {w w' : World} {b : Nat} (h : w.grownBy w' (some b)) : (∀ k o, k < w.heap.size → k ≠ b → w'.cell? ⟨k, o, none⟩ = w.cell? ⟨k, o, none⟩) ∧ (∀ k o, k < w.heap.size → k ≠ b → w'.frozen? ⟨k, o, none⟩ = w.frozen? ⟨k, o, none⟩) :=
  ⟨fun k o hk hb => World.cell?_of_block (w := w) (a := ⟨k, o, none⟩) (h.block k hk (by simpa using hb)), fun k o hk hb => World.frozen?_of_block (w := w) (a := ⟨k, o, none⟩) (h.block k hk (by simpa using hb))⟩
theorem below_cells {w w' : World} {n : Nat} (h : Below n w w') : (∀ k o, k < n → w'.cell? ⟨k, o, none⟩ = w.cell? ⟨k, o, none⟩) ∧ (∀ k o, k < n → w'.frozen? ⟨k, o, none⟩ = w.frozen? ⟨k, o, none⟩) :=
  ⟨fun k o hk => h.cell (p := ⟨k, o, none⟩) hk, fun k o hk => h.frozen (p := ⟨k, o, none⟩) hk⟩
theorem grown_of_below {w w' : World} (h : Below w.heap.size w w') (row : Option Nat) : w.grownBy w' row := ⟨h.os, h.tape, h.output, h.size, fun k hk _ => h.block k hk⟩
end Go.Proofs.YtgobdhedeodpiaaDoor
