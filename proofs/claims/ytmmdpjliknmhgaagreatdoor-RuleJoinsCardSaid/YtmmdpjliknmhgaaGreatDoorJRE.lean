/- Joined: FlrH; FlrJ; FlrK; Cut; FlrL; FlrRound -/
import Derived.Test.YtmmdpjliknmhgaaGreatDoorJRD
import Derived.Test.YtmmdpjliknmhgaaGreatDoorJRC
import Derived.Test.YtmmdpjliknmhgaaGreatDoorJRB
import Derived.Test.YtmmdpjliknmhgaaGreatDoorJRA
import Derived.Test.YtmmdpjliknmhgaaGreatDoorShelf
import Derived.Deep.RegionWith
import Derived.Deep.DeepCutAuto
/- Walks of layer 13: Right, Place, Pass, Size. -/
namespace Go.Proofs.YtmmdpjliknmhgaaGreatDoor
open Go.RowKit
theorem ftold_any (ea : Addr) (w : World) (hge : w.cell? ⟨1, 0, none⟩ = some (eV ea)) :
    Calls Tryz.prog 67 #[eV ea] w fun e w' => e = .returned (.int .i64 130) ∧ w = w' := by
  go_enter Tryz.func67, Tryz.ntmps67
  go_wp2_with (go_at_call 89; refine (is_same ea _).mono ?_; rintro e w' ⟨rfl, rfl⟩)
  go_ret
  exact ⟨rfl, rfl⟩

def placeI (k m : Int) (form l : List UInt8) : Int := if firstL (predsOf k m form) 0 l < 0 ∧ l.length < sizeOf k form then l.length else firstL (predsOf k m form) 0 l

theorem predsOf_len (k m : Int) (form : List UInt8) : (predsOf k m form).length ≤ 100 := by
  unfold predsOf; split
  · simp
  · split <;> simp
theorem firstL_lo (ps : List (Nat → UInt8 → Bool)) : ∀ (l : List UInt8) (k : Nat), firstL ps k l = -1 ∨ (k : Int) ≤ firstL ps k l ∧ firstL ps k l < k + l.length
  | [], _ => .inl rfl
  | c :: r, k => by
    rw [firstL]; split
    · rcases firstL_lo ps r (k + 1) with h | h
      · exact .inl h
      · right; simp at h ⊢; omega
    · right; simp; omega

set_option maxHeartbeats 1000000 in
theorem right_any (k m : Int) (form : List UInt8) (hl : form.length ≤ maxLen) (ea : Addr) (w : World) (hge : w.cell? ⟨1, 0, none⟩ = some (eV ea)) :
    Calls Tryz.prog 66 #[fV k m form] w fun e w' => e = .returned (.bool (rightB k m form)) ∧ Below w.heap.size w w' := by
  have hgs : 1 < w.heap.size := World.block_lt_of_cell? w _ hge
  have hB0 := (Below.refl w.heap.size w).alloc (Nat.le_refl _) (.cells #[.int .i64 k, .int .i64 m, .string ⟨form.toArray⟩] 38)
  have hg1 := (hB0.cell (p := ⟨1, 0, none⟩) hgs).trans hge
  have HC := checked_any k m form hl ea _ hg1
  rw [World.size_alloc] at HC
  go_enter Tryz.func66, Tryz.ntmps66
  go_wp2_with fail
  refine HC.mono ?_
  rintro e w1 ⟨⟨tv, sz, ev, rfl, (⟨hr, rfl, rfl, -⟩ | ⟨hr, rfl⟩)⟩, hb1⟩
  all_goals
    have HR := Lib.hid hr; clear hr
    go_wp2
    go_ret
    exact ⟨ret_bool HR.out.symm, hB0.trans (hb1.mono (by omega))⟩

/-- What Pass hands back. -/
def passI (k m : Int) (form l : List UInt8) : Bool := decide (placeI k m form l < 0)

end Go.Proofs.YtmmdpjliknmhgaaGreatDoor
/- Walks of layer 13: a filter's print. -/
namespace Go.Proofs.YtmmdpjliknmhgaaGreatDoor
open Go.RowKit Go.Maps
theorem kindsD_eq : kindsD = .map [(.string wClass, .lit (.int .i64 2)), (.string wForm, .lit (.int .i64 3)), (.string wLen, .lit (.int .i64 1))] := by rfl
theorem kinds_key (x : List UInt8) (y : DataW Unit) (h : ∀ zd, kindsD.atKey (.string x) zd = y) : (x = wLen ∧ y = .lit (.int .i64 1)) ∨ (x = wClass ∧ y = .lit (.int .i64 2)) ∨ (x = wForm ∧ y = .lit (.int .i64 3)) := by
  rw [kindsD_eq] at h
  by_cases h1 : x = wLen
  · subst h1; exact .inl ⟨rfl, by rw [← h .nil]; rfl⟩
  · by_cases h2 : x = wClass
    · subst h2; exact .inr (.inl ⟨rfl, by rw [← h .nil]; rfl⟩)
    · by_cases h3 : x = wForm
      · subst h3; exact .inr (.inr ⟨rfl, by rw [← h .nil]; rfl⟩)
      · exfalso
        have e : ∀ zd : DataW Unit, (DataW.map [(.string wClass, .lit (.int .i64 2)), (.string wForm, .lit (.int .i64 3)), (.string wLen, .lit (.int .i64 1))]).atKey (.string x) zd = zd := by
          intro zd
          simp [DataW.atKey, Lit.sameKey, Ne.symm h1, Ne.symm h2, Ne.symm h3]
        have a := (e .nil).symm.trans (h .nil)
        have b := (e (.map [])).symm.trans (h (.map []))
        rw [← a] at b; cases b
def wordOf (k : Int) : List UInt8 := if k = 1 then wLen else if k = 2 then wClass else wForm
def fprintL (k m : Int) (form : List UInt8) : List UInt8 := wordOf k ++ 32 :: digL m ++ (if k = 1 then [] else 32 :: form)

theorem key_inv {P : Program} {k : TypeId} (hk : P.underlying k = some .string) {key : Value} {kl : Lit} (h : keyOf P k key = some kl) : ∃ l : List UInt8, key = .string ⟨l.toArray⟩ ∧ kl = .string l := by
  cases key <;> simp [keyOf, hk, mapKey] at h
  rename_i s
  refine ⟨s.data.toList, by rw [Lib.mk_data], ?_⟩
  revert h
  cases kl <;> simp
  exact fun _ h => h.symm
/-- The step of a range over a map from strings to integers. -/
theorem next_si {H : Type} {P : Program} (w : World) {ops : Array Oper} {rest : List Oper} {o : Oper} {a : Act} {Q : Exit → Act → World → Prop} (hg : o.guard = none) (it : Operand) (hop : o.op = Op.next it false) (k e : TypeId) (q : IntKind) (hk : P.underlying k = some .string) (he : P.underlying e = some (.int q))
    (b r n : Nat) (D : DataW H) (left : Lit → Bool) (cnt : Nat) (hit : a.eval it = .pointer (some ⟨r, 0, none⟩)) (h : w.ranges P k (plainElem P e) b r n D left cnt)
    (hDone : (∀ kl, left kl = false) → wpList P ops Q rest (a.put o.dst (.tuple #[.bool false])) w)
    (hMore : ∀ (x : List UInt8) (c : Int) (w' : World) (cnt' : Nat), left (.string x) = true → (∀ zd, D.atKey (.string x) zd = .lit (.int q c)) → w'.ranges P k (plainElem P e) b r n D (fun z => left z && !z.sameKey (.string x)) cnt' → cnt' < cnt →
      w.grownBy w' (some r) → w'.heap.size = w.heap.size → (Instr.entry (.pointer (some ⟨r, 0, none⟩))).run P w' = .ok (.tuple #[.string ⟨x.toArray⟩, .int q c]) w' → wpList P ops Q rest (a.put o.dst (.tuple #[.bool true, .string ⟨x.toArray⟩, .int q c])) w') :
    wpList P ops Q (o :: rest) a w :=
  wpList_next_ranges w hg it hop k (string_keyed hk) (plainElem P e) (fun l : List UInt8 => Value.string ⟨l.toArray⟩) (fun c : Int => Value.int q c) (fun key kl h => by obtain ⟨l, h1, _⟩ := key_inv hk h; exact ⟨l, h1⟩) (fun v y h => by obtain ⟨c, h1, _⟩ := plainElem_int_inv he h; exact ⟨c, h1⟩)
    b r n D left cnt hit h (fun _ h => hDone h) (fun x c kl y w' cnt' hkey hlk hv hat hrg hlt hgr hsz hen => by
      obtain ⟨l', hx1, rfl⟩ := key_inv hk hkey
      obtain rfl : x = l' := by simpa using hx1
      obtain ⟨c', hc1, rfl, _⟩ := plainElem_int_inv he hv
      obtain rfl : c = c' := by cases hc1; rfl
      exact hMore x c w' cnt' hlk hat hrg hlt hgr hsz hen)
theorem size_kinds : Maps.size kindsD = 3 := by rw [kindsD_eq]; rfl
theorem has_kinds (x : List UInt8) (h : x = wLen ∨ x = wClass ∨ x = wForm) : Maps.has kindsD (.string x) = true := by
  rw [kindsD_eq]; rcases h with rfl | rfl | rfl <;> rfl
theorem wordOf_in (k : Int) : wordOf k = wLen ∨ wordOf k = wClass ∨ wordOf k = wForm := by
  unfold wordOf; split
  · exact .inl rfl
  · split
    · exact .inr (.inl rfl)
    · exact .inr (.inr rfl)
theorem kinds_word (x : List UInt8) (c k : Int) (hk : k = 1 ∨ k = 2 ∨ k = 3) (h : ∀ zd : DataW Unit, kindsD.atKey (.string x) zd = .lit (.int .i64 c)) : c = k ↔ x = wordOf k := by
  have hne1 : wLen ≠ wClass := by decide
  have hne2 : wLen ≠ wForm := by decide
  have hne3 : wClass ≠ wForm := by decide
  rcases kinds_key x _ h with ⟨rfl, e⟩ | ⟨rfl, e⟩ | ⟨rfl, e⟩ <;> cases e <;> rcases hk with rfl | rfl | rfl <;> simp [wordOf, hne1, hne2, hne3, Ne.symm hne1, Ne.symm hne2, Ne.symm hne3]

theorem fDigits_any (n : Int) (w : World) (hn : n ≤ 9223372036854775807) :
    Calls Tryz.prog 43 #[.int .i64 n] w fun e w' => e = .returned (.string ⟨(digL n).toArray⟩) ∧ Below w.heap.size w w' := by
  by_cases h : n < 0
  · exact Digits_neg n w h
  · obtain ⟨k, rfl⟩ := Int.eq_ofNat_of_zero_le (by omega : 0 ≤ n)
    exact Digits_pos k w hn

set_option maxHeartbeats 1000000 in
theorem print_no (k m : Int) (form : List UInt8) (hl : form.length ≤ maxLen) (ea : Addr) (w : World) (hge : w.cell? ⟨1, 0, none⟩ = some (eV ea)) (hr : rightB k m form = false) :
    Calls Tryz.prog 41 #[fV k m form] w fun e w' => e = .returned (.tuple #[.string ⟨#[]⟩, .int .i64 130]) ∧ Below w.heap.size w w' := by
  have hgs : 1 < w.heap.size := World.block_lt_of_cell? w _ hge
  have hB0 := (Below.refl w.heap.size w).alloc (Nat.le_refl _) (.cells #[.int .i64 k, .int .i64 m, .string ⟨form.toArray⟩] 38)
  have hg1 := (hB0.cell (p := ⟨1, 0, none⟩) hgs).trans hge
  have HC := right_any k m form hl ea _ hg1
  rw [World.size_alloc, hr] at HC
  go_enter Tryz.func41, Tryz.ntmps41
  go_wp2_with (first | (go_at_call 66; refine HC.mono ?_; rintro e w1 ⟨rfl, hb1⟩; have hg2 := (hb1.cell (p := ⟨1, 0, none⟩) (by show 1 < _; omega)).trans hg1) | (go_at_call 67; refine (ftold_any ea _ hg2).mono ?_; rintro e w' ⟨rfl, rfl⟩))
  go_ret2
  exact ⟨rfl, hB0.trans (hb1.mono (by omega))⟩

theorem right_facts {k m : Int} {form : List UInt8} (h : rightB k m form = true) : 0 ≤ m ∧ m ≤ 200 ∧ form.length ≤ 40 ∧ (k = 1 ∨ k = 2 ∨ k = 3) := by
  unfold rightB at h
  simp only [Bool.and_eq_true, Bool.or_eq_true, decide_eq_true_eq, beq_iff_eq] at h
  obtain ⟨⟨⟨a, b⟩, c⟩, d⟩ := h
  exact ⟨a, b, c, by rcases d with (d | d) | d <;> simp [d.1]⟩
/-- What the loop over the words has: nothing while the kind's own word is still to come, all once it has come. -/
def PrintMid (k m : Int) (left : Lit → Bool) (S : List UInt8) : Prop := S = if left (.string (wordOf k)) then [] else wordOf k ++ 32 :: digL m

set_option maxRecDepth 100000 in
set_option maxHeartbeats 2000000 in
theorem fprint_yes (k m : Int) (form : List UInt8) (hl : form.length ≤ maxLen) (ea : Addr) (w : World) (hge : w.cell? ⟨1, 0, none⟩ = some (eV ea)) (hr : rightB k m form = true) :
    Calls Tryz.prog 41 #[fV k m form] w fun e w' => e = .returned (.tuple #[.string ⟨(fprintL k m form).toArray⟩, .int .i64 0]) ∧ Below w.heap.size w w' := by
  have hgs : 1 < w.heap.size := World.block_lt_of_cell? w _ hge
  have hB0 := (Below.refl w.heap.size w).alloc (Nat.le_refl _) (.cells #[.int .i64 k, .int .i64 m, .string ⟨form.toArray⟩] 38)
  have hg1 := (hB0.cell (p := ⟨1, 0, none⟩) hgs).trans hge
  have HC := right_any k m form hl ea _ hg1
  rw [World.size_alloc, hr] at HC
  have F0 := Blk.new w #[.int .i64 k, .int .i64 m, .string ⟨form.toArray⟩] 38
  obtain ⟨hm0, hm1, hf40, hk⟩ := right_facts hr
  clear hr
  go_enter Tryz.func41, Tryz.ntmps41
  go_wp2_with (go_at_call 66; refine HC.mono ?_; rintro e w1 ⟨rfl, hb1⟩)
  clear HC
  have hz1 := hb1.size
  rw [World.size_alloc] at hz1
  have F1 := F0.below hb1 (by omega)
  have HK := kinds_any w1.heap.size (.int .u32 0) (w1.alloc (.cells #[.int .u32 0, .int .i32 0, .int .u32 0, .map none] 127)) (Blk.new _ _ _)
  refine HK.mono ?_
  rintro e w2 ⟨mb, rfl, ho2, hg2⟩
  have F2 := (F1.alloc (.cells #[.int .u32 0, .int .i32 0, .int .u32 0, .map none] 127)).kept hg2 (by simp; omega)
  have hB1 : Below w.heap.size w w1 := hB0.trans (hb1.mono (by omega))
  have hB2 : Below w.heap.size w w2 := (hB1.alloc (by omega) _).grown hg2 (by simp; omega) (fun k e => by cases e; omega)
  have hz2 := hg2.size
  rw [World.size_alloc] at hz2
  have hmb : mb < w2.heap.size := ho2.lt
  clear HK hg2 F1 hB1 F0 hg1
  go_wp2_with (at_range; refine wpList_range_own _ rfl _ 112 rfl 9 3 keyStr Tryz.underlying112 _ mb 3 _ rfl ho2 ?_; intro w3 hrg3 hg3 hs3)
  go_frame
  have F3 := F2.kept hg3 (by simp)
  have hB3 : Below w.heap.size w w3 := hB2.grown hg3 (by omega) (fun k e => by cases e)
  clear F2 hB2 hg3 ho2
  go_loopw [4] (fun s wr => ∃ (left : Lit → Bool) (cnt : Nat) (S : List UInt8), wr.ranges Tryz.prog 9 (plainElem Tryz.prog 3) mb w2.heap.size 3 kindsD left cnt ∧ s = .string ⟨S.toArray⟩ ∧ PrintMid k m left S ∧ Blk wr w.heap.size #[.int .i64 k, .int .i64 m, .string ⟨form.toArray⟩] 38 ∧ Below w.heap.size w wr ∧ w2.heap.size + 1 ≤ wr.heap.size)
    (fun _ wr => wr.rangeLeft mb w2.heap.size)
  case atStart => exact ⟨_, _, [], hrg3, rfl, by rw [PrintMid, if_pos (has_kinds _ (wordOf_in k))], F3, hB3, by omega⟩
  case round =>
    obtain ⟨left, cnt, S, hrg, rfl, hS, F4, hB4, hz4⟩ := hrel
    have hdl := digL_len m (by omega)
    go_wp2_with (at_next; refine next_si _ rfl _ rfl 9 3 .i64 Tryz.underlying9 Tryz.underlying3 mb w2.heap.size 3 _ _ _ rfl hrg ?_ ?_)
    · intro hl0
      have hS' : S = wordOf k ++ 32 :: digL m := by rw [hS, if_neg (by rw [hl0]; simp)]
      have hwl : (wordOf k).length ≤ 5 := by rcases wordOf_in k with e | e | e <;> rw [e] <;> decide
      have hsl : S.length ≤ 30 := by rw [hS']; simp; omega
      have HP : Hid (S ++ (if k = 1 then [] else 32 :: form) = fprintL k m form) := by show _ = _; rw [hS', fprintL]
      have c0 := F4.cell 0
      have c2 := F4.cell 2
      simp at c0 c2
      clear hS hS' hl0 hwl hrg F4 hdl
      by_cases hk1 : k = 1
      · have hkb : (k != 1) = false := by simp [hk1]
        have HP1 : Hid (S = fprintL k m form) := by show _ = _; rw [← HP.out, if_pos hk1, List.append_nil]
        clear HP hk1 hk
        go_wp2
        go_ret2
        exact ⟨by rw [← HP1.out]; rfl, hB4⟩
      · have hkb : (k != 1) = true := by simp [hk1]
        have HP1 : Hid (S ++ 32 :: form = fprintL k m form) := by show _ = _; rw [← HP.out, if_neg hk1]
        clear HP hk1 hk
        go_wp2
        go_ret2
        exact ⟨by rw [← HP1.out]; rfl, hB4⟩
    · intro x c wn cn hleft hat hrgn hlt hgn hsn hen
      have hw := kinds_word x c k hk hat
      have F5 := F4.kept hgn (by simp; omega)
      have hB5 : Below w.heap.size w wn := hB4.grown hgn (by omega) (fun k e => by cases e; omega)
      have c0 := F5.cell 0
      have c1 := F5.cell 1
      simp at c0 c1
      by_cases hck : c = k
      · have hx := hw.1 hck
        have hckb : (c == k) = true := by simp [hck]
        have hxl : x.length ≤ 5 := by rw [hx]; rcases wordOf_in k with e | e | e <;> rw [e] <;> decide
        have HM : Hid (PrintMid k m (fun z => left z && !z.sameKey (.string x)) (x ++ 32 :: digL m)) := by
          show _ = _
          rw [← hx, if_neg (by simp [Lit.sameKey])]
        have HR : Hid (wn.rangeLeft mb w2.heap.size < wr.rangeLeft mb w2.heap.size) := by show _ < _; rw [hrgn.left_eq, hrg.left_eq]; exact hlt
        clear hw hck hx hS hat hleft hlt hrg
        go_wp2_with (go_at_call 43; refine (fDigits_any m _ (by omega)).mono ?_; rintro e w6 ⟨rfl, hb6⟩)
        have hrg6 := hrgn.kept (grown_of_below hb6 none) (by simp) (by simp)
        have HR6 : Hid (w6.rangeLeft mb w2.heap.size < wr.rangeLeft mb w2.heap.size) := by show _ < _; rw [hrg6.left_eq, ← hrgn.left_eq]; exact HR.out
        have F6 := F5.below hb6 (by omega)
        have hB6 := hB5.trans (hb6.mono (by omega))
        have hz6 := hb6.size
        clear HR hrgn
        go_roundw
        case rel => exact ⟨_, _, x ++ 32 :: digL m, hrg6, by simp, HM.out, F6, hB6, by omega⟩
        case measure => exact HR6.out
      · have hckb : (c == k) = false := by simp [hck]
        have hxn : x ≠ wordOf k := fun e => hck (hw.2 e)
        have HM : Hid (PrintMid k m (fun z => left z && !z.sameKey (.string x)) S) := by
          show _ = _
          rw [hS]
          have : (Lit.string (wordOf k)).sameKey (.string x) = false := by simp [Lit.sameKey, Ne.symm hxn]
          simp only [this, Bool.not_false, Bool.and_true]
        have HR : Hid (wn.rangeLeft mb w2.heap.size < wr.rangeLeft mb w2.heap.size) := by show _ < _; rw [hrgn.left_eq, hrg.left_eq]; exact hlt
        clear hw hck hxn hS hat hleft hlt hrg
        go_wp2
        go_roundw
        case rel => exact ⟨_, _, S, hrgn, rfl, HM.out, F5, hB5, by omega⟩
        case measure => exact HR.out
end Go.Proofs.YtmmdpjliknmhgaaGreatDoor
/- Walks of layer 13: a number's digits read. -/
namespace Go.Proofs.YtmmdpjliknmhgaaGreatDoor
open Go.RowKit
def numFrom : Nat → List UInt8 → Int
  | n, [] => n
  | n, c :: r => if (c.toNat : Int) < 48 ∨ 57 < (c.toNat : Int) ∨ 200 < n then -1 else numFrom (n * 10 + (c.toNat - 48)) r
def numL (l : List UInt8) : Int := numFrom 0 l
theorem numFrom_le : ∀ (l : List UInt8) (n : Nat), n ≤ 2009 → -1 ≤ numFrom n l ∧ numFrom n l ≤ 2009
  | [], n, h => by simp [numFrom]; omega
  | c :: r, n, h => by
    rw [numFrom]; split
    · omega
    · rename_i hc; exact numFrom_le r _ (by omega)
theorem iter_below (w : World) (s : ByteArray) (p : Nat) : Below w.heap.size w (w.iter s p) := (Below.refl _ w).alloc (Nat.le_refl _) _

set_option maxHeartbeats 1000000 in
theorem fnumber_any (l : List UInt8) (w : World) :
    Calls Tryz.prog 101 #[.string ⟨l.toArray⟩] w fun e w' => e = .returned (.int .i64 (numL l)) ∧ Below w.heap.size w w' := by
  go_enter Tryz.func101, Tryz.ntmps101
  go_wp2
  go_loopw [3] (fun t wr => ∃ pos n : Nat, pos ≤ l.length ∧ n ≤ 2009 ∧ t = .int .i64 n ∧ wr = w.iter ⟨l.toArray⟩ pos ∧ Hid (numL l = numFrom n (l.drop pos))) (fun _ wr => l.length - wr.iterPos w.heap.size)
  case atStart => exact ⟨0, 0, Nat.zero_le _, by omega, rfl, rfl, rfl⟩
  case round =>
    obtain ⟨pos, n, hp, hn, rfl, rfl, hnum⟩ := hrel
    by_cases hlt : pos < l.length
    · have hs : pos < (ByteArray.mk l.toArray).size := by rw [ba_size]; exact hlt
      by_cases ha : l[pos].toNat < 128
      · have hN := fun ty => run_next_ascii (P := Tryz.prog) w ⟨l.toArray⟩ pos ty hs (by rw [ba_get]; exact ha)
        rw [ba_get] at hN
        have HF : Hid (numL l = if (l[pos].toNat : Int) < 48 ∨ 57 < (l[pos].toNat : Int) ∨ 200 < n then -1 else numFrom (n * 10 + (l[pos].toNat - 48)) (l.drop (pos + 1))) := by
          show numL l = _
          rw [hnum.out, drop_cons l pos hlt]; rfl
        clear hnum
        generalize l[pos] = c at *
        by_cases h1 : (c.toNat : Int) < 48
        · have HX : Hid (numL l = -1) := by show _ = _; rw [HF.out, if_pos (.inl h1)]
          clear HF
          go_wp2
          go_ret
          exact ⟨ret_int HX.out.symm, iter_below _ _ _⟩
        · by_cases h2 : 57 < (c.toNat : Int)
          · have HX : Hid (numL l = -1) := by show _ = _; rw [HF.out, if_pos (.inr (.inl h2))]
            clear HF
            go_wp2
            go_ret
            exact ⟨ret_int HX.out.symm, iter_below _ _ _⟩
          · by_cases h3 : 200 < n
            · have HX : Hid (numL l = -1) := by show _ = _; rw [HF.out, if_pos (.inr (.inr h3))]
              clear HF
              go_wp2
              go_ret
              exact ⟨ret_int HX.out.symm, iter_below _ _ _⟩
            · have HX : Hid (numL l = numFrom (n * 10 + (c.toNat - 48)) (l.drop (pos + 1))) := by show _ = _; rw [HF.out, if_neg (by omega)]
              clear HF
              go_wp2
              go_roundw
              case rel => exact ⟨pos + 1, n * 10 + (c.toNat - 48), by omega, by omega, by go_num, rfl, HX⟩
              case measure => simp; omega
      · have hN := fun ty => run_next_any (P := Tryz.prog) w ⟨l.toArray⟩ pos ty hs
        have hd := decode_high ⟨l.toArray⟩ pos hs (by rw [ba_get]; omega)
        generalize Utf8.decode ⟨l.toArray⟩ pos = d at hN hd
        obtain ⟨d1, d2⟩ := d
        have hd1 : (57 : Int) < (d1 : Int) := by have := hd.1; simp at this; omega
        have hd0 : ¬ (d1 : Int) < 48 := by omega
        have HX : Hid (numL l = -1) := by
          show numL l = -1
          rw [hnum.out, drop_cons l pos hlt, numFrom, if_pos (by omega)]
        clear hnum hd
        simp only at hN
        go_wp2
        go_ret
        exact ⟨ret_int HX.out.symm, iter_below _ _ _⟩
    · have hN := fun ty => run_next_end (P := Tryz.prog) w ⟨l.toArray⟩ pos ty (by rw [ba_size]; exact hlt)
      have HX : Hid (numL l = n) := by show _ = _; rw [hnum.out, List.drop_of_length_le (by omega)]; rfl
      clear hnum
      go_wp2
      go_ret
      exact ⟨ret_int HX.out.symm, iter_below _ _ _⟩
end Go.Proofs.YtmmdpjliknmhgaaGreatDoor
/- strings.Cut at a space. -/
namespace Go.Proofs.YtmmdpjliknmhgaaGreatDoor
open Go.RowKit
/-- what stands ahead of the first c; behind it; whether there is one -/
def cutL (c : UInt8) : List UInt8 → List UInt8 × List UInt8 × Bool
  | [] => ([], [], false)
  | x :: r => if x = c then ([], r, true) else (x :: (cutL c r).1, (cutL c r).2.1, (cutL c r).2.2)
theorem cutL_yes (c : UInt8) : ∀ l : List UInt8, (cutL c l).2.2 = true → Lib.indexByte l c = (cutL c l).1.length ∧ l = (cutL c l).1 ++ c :: (cutL c l).2.1
  | [], h => by simp [cutL] at h
  | x :: r, h => by
    by_cases e : x = c
    · subst e; simp [cutL, Lib.indexByte]
    · have h' : (cutL c r).2.2 = true := by simpa [cutL, e] using h
      obtain ⟨h1, h2⟩ := cutL_yes c r h'
      constructor
      · have hb : (x == c) = false := by simpa using e
        have hn : ((((cutL c r).1.length : Nat) : Int) == -1) = false := by simp
        simp [Lib.indexByte, cutL, e, hb, h1, hn]
      · simp only [cutL, e, if_false, List.cons_append]; rw [← h2]
theorem cutL_no (c : UInt8) : ∀ l : List UInt8, (cutL c l).2.2 = false → Lib.indexByte l c = -1 ∧ (cutL c l).1 = l ∧ (cutL c l).2.1 = []
  | [], _ => by simp [cutL, Lib.indexByte]
  | x :: r, h => by
    by_cases e : x = c
    · subst e; simp [cutL] at h
    · have h' : (cutL c r).2.2 = false := by simpa [cutL, e] using h
      obtain ⟨h1, h2, h3⟩ := cutL_no c r h'
      refine ⟨?_, ?_, ?_⟩
      · have hb : (x == c) = false := by simpa using e
        simp [Lib.indexByte, hb, h1]
      · simp only [cutL, e, if_false, h2]
      · simp only [cutL, e, if_false, h3]
theorem cutL_len (c : UInt8) (l : List UInt8) : (cutL c l).1.length ≤ l.length ∧ (cutL c l).2.1.length ≤ l.length := by
  induction l with
  | nil => simp [cutL]
  | cons x r ih =>
    rw [cutL]; split
    · simp
    · simp; omega

set_option maxHeartbeats 1000000 in
theorem lcut_any (c : UInt8) (l : List UInt8) (hl : l.length ≤ 1000000) (w : World) :
    Calls Tryz.prog 94 #[.string ⟨l.toArray⟩, .string ⟨#[c]⟩] w fun e w' => e = .returned (.tuple #[.string ⟨(cutL c l).1.toArray⟩, .string ⟨(cutL c l).2.1.toArray⟩, .bool (cutL c l).2.2]) ∧ ∃ n, w' = w.drewN n := by
  have HI := Tryz.stringslite_Index_one ⟨l.toArray⟩ c w
  obtain ⟨hq1, hq2⟩ := cutL_len c l
  cases hf : (cutL c l).2.2 with
  | true =>
    obtain ⟨h1, h2⟩ := cutL_yes c l hf
    have h1' : Lib.indexByte (ByteArray.mk l.toArray).data.toList c = (cutL c l).1.length := h1
    rw [h1'] at HI
    generalize (cutL c l).1 = A at *
    generalize (cutL c l).2.1 = B at *
    clear h1 h1' hf
    subst h2
    have w0 : A.length + (B.length + 1) = (A ++ c :: B).length := by simp
    have w1 : IntKind.i64.wrap ((A.length : Int) + 1) = A.length + 1 := IntWalk.i64_in _ (by omega)
    have w2 : ((A.length : Int) + 1).toNat = A.length + 1 := by omega
    have w3 : (0 : Int) ≤ (A.length : Int) + 1 := by omega
    have w4 : (A.length : Int) + 1 ≤ (A ++ c :: B).length := by omega
    have w5 : (A.length : Int) ≤ (A ++ c :: B).length := by omega
    have e1 : (A ++ c :: B).take A.length = A := by simp
    have e2 : ((A ++ c :: B).drop (A.length + 1)).take ((A ++ c :: B).length - (A.length + 1)) = B := by simp; exact List.take_of_length_le (by omega)
    clear w0
    generalize A ++ c :: B = l at *
    have E1 := Lib.hid e1; clear e1
    have E2 := Lib.hid e2; clear e2
    go_enter Tryz.func94, Tryz.ntmps94
    go_wp2_with (go_at_call 114; refine HI.mono ?_; rintro e w' ⟨rfl, rfl⟩)
    go_quiet (fail)
    go_wp2
    go_ret3
    refine ⟨?_, _, rfl⟩
    show Ending.returned (.tuple #[.string ⟨(l.take A.length).toArray⟩, .string ⟨((l.drop (A.length + 1)).take (l.length - (A.length + 1))).toArray⟩, .bool true]) = _
    rw [E1.out, E2.out]
  | false =>
    obtain ⟨h1, h2, h3⟩ := cutL_no c l hf
    have h1' : Lib.indexByte (ByteArray.mk l.toArray).data.toList c = -1 := h1
    rw [h1'] at HI
    rw [h2, h3]
    clear h1 h1' h2 h3 hf
    go_enter Tryz.func94, Tryz.ntmps94
    go_wp2_with (go_at_call 114; refine HI.mono ?_; rintro e w' ⟨rfl, rfl⟩)
    go_ret3
    exact ⟨rfl, 0, rfl⟩
theorem cut_any (c : UInt8) (l : List UInt8) (hl : l.length ≤ 1000000) (w : World) :
    Calls Tryz.prog 73 #[.string ⟨l.toArray⟩, .string ⟨#[c]⟩] w fun e w' => e = .returned (.tuple #[.string ⟨(cutL c l).1.toArray⟩, .string ⟨(cutL c l).2.1.toArray⟩, .bool (cutL c l).2.2]) ∧ ∃ n, w' = w.drewN n := by
  have H := lcut_any c l hl w
  generalize (cutL c l).1 = A at *
  generalize (cutL c l).2.1 = B at *
  generalize (cutL c l).2.2 = C at *
  go_enter Tryz.func73, Tryz.ntmps73
  go_wp2_with (go_at_call 94; refine H.mono ?_; rintro e w' ⟨rfl, n, rfl⟩)
  go_ret3
  exact ⟨rfl, n, rfl⟩
end Go.Proofs.YtmmdpjliknmhgaaGreatDoor
/- Walks of layer 13: the filter of a print. -/
namespace Go.Proofs.YtmmdpjliknmhgaaGreatDoor
open Go.RowKit Go.Maps
/-- a word's kind; 0: it is none -/
def kindOf (l : List UInt8) : Int := if l = wLen then 1 else if l = wClass then 2 else if l = wForm then 3 else 0
theorem kindOf_at (l : List UInt8) : kindsD.atKey (.string l) (.lit (.int .i64 0)) = .lit (.int .i64 (kindOf l)) := by
  rw [kindsD_eq]
  by_cases h1 : l = wLen
  · subst h1; rfl
  · by_cases h2 : l = wClass
    · subst h2; rfl
    · by_cases h3 : l = wForm
      · subst h3; rfl
      · simp [DataW.atKey, Lit.sameKey, kindOf, h1, h2, h3, Ne.symm h1, Ne.symm h2, Ne.symm h3]
theorem zeroI (w : World) : (zeroValue 3).run Tryz.prog w = .ok (.int .i64 0) w := by kernel_rfl
theorem lookK (l : List UInt8) (hl : l.length ≤ maxLen) (mb : Nat) (w : World) (h : ownsKinds w mb) : (Instr.lookup 112 (.map (some mb)) (.string ⟨l.toArray⟩) false).run Tryz.prog w = .ok (.int .i64 (kindOf l)) w := by
  obtain ⟨c, hrun, hat, _⟩ := h.lookup_int (t := 112) keyStr Tryz.underlying112 Tryz.underlying3 (zeroI w) (key := .string ⟨l.toArray⟩) (kl := .string l) (WideMaps.keyOf_string_mk Tryz.underlying9 (by rw [ba_size]; exact hl))
  rw [kindOf_at] at hat
  cases hat
  exact hrun
def pWord (l : List UInt8) : List UInt8 := (cutL 32 l).1
def pRest (l : List UInt8) : List UInt8 := (cutL 32 l).2.1
def pKind (l : List UInt8) : Int := kindOf (pWord l)
def pMax (l : List UInt8) : Int := numL (cutL 32 (pRest l)).1
def pForm (l : List UInt8) : List UInt8 := (cutL 32 (pRest l)).2.1
abbrev zF : Array Value := #[.int .i64 0, .int .i64 0, .string ⟨#[]⟩]

def parseV2 (k m : Int) (form l : List UInt8) : Ending := .returned (if rightB k m form && (fprintL k m form == l) then .tuple #[fV k m form, .int .i64 0] else .tuple #[.agg zF, .int .i64 130])
/-- What Parse hands back. -/
def parseV (l : List UInt8) : Ending := parseV2 (pKind l) (pMax l) (pForm l) l
/-- What the region that builds the filter leaves. -/
def Built (w : World) (k m : Int) (form : List UInt8) (v : Value) (wx : World) : Prop :=
  ∃ g, v = .pointer (some ⟨g, 0, none⟩) ∧ w.heap.size < g ∧ Blk wx g #[.int .i64 k, .int .i64 m, .string ⟨form.toArray⟩] 38 ∧ Blk wx w.heap.size zF 38 ∧ Below w.heap.size w wx

theorem built_new (w W : World) (k m : Int) (form : List UInt8) (hk : Blk W w.heap.size zF 38) (hb : Below w.heap.size w W) :
    Built w k m form (.pointer (some ⟨W.heap.size, 0, none⟩)) (W.alloc (.cells #[.int .i64 k, .int .i64 m, .string ⟨form.toArray⟩] 38)) :=
  ⟨W.heap.size, rfl, hk.lt, Blk.new _ _ _, hk.alloc _, hb.alloc hb.size _⟩
theorem built_store (w W : World) (g : Nat) (k m : Int) (form : List UInt8) (hz : Blk W g zF 38) (hk : Blk W w.heap.size zF 38) (hb : Below w.heap.size w W) (hg : w.heap.size < g) :
    Built w k m form (.pointer (some ⟨g, 0, none⟩)) (((W.setCell ⟨g, 0, none⟩ (.int .i64 k)).setCell ⟨g, 1, none⟩ (.int .i64 m)).setCell ⟨g, 2, none⟩ (.string ⟨form.toArray⟩)) :=
  ⟨g, rfl, hg, by simpa using ((hz.set 0 (.int .i64 k)).set 1 (.int .i64 m)).set 2 (.string ⟨form.toArray⟩), ((hk.other 0 _ (by omega)).other 1 _ (by omega)).other 2 _ (by omega),
    ((hb.setCell (p := ⟨g, 0, none⟩) (by show w.heap.size ≤ g; omega) _).setCell (p := ⟨g, 1, none⟩) (by show w.heap.size ≤ g; omega) _).setCell (p := ⟨g, 2, none⟩) (by show w.heap.size ≤ g; omega) _⟩

theorem mid2 {w U w2 : World} {o1 : Obj} {b : Nat} (hk : Blk U w.heap.size zF 38) (hb : Below w.heap.size w U) (hs : U.heap.size = w.heap.size + 1) (hg : (U.alloc o1).grownBy w2 (some b)) (h : w.heap.size < b) : Blk w2 w.heap.size zF 38 ∧ Below w.heap.size w w2 :=
  ⟨(hk.alloc _).kept hg (by simp only [ne_eq, Option.some.injEq]; omega), (hb.alloc (by omega) _).grown hg (by rw [World.size_alloc]; omega) (fun k e => by cases e; omega)⟩
theorem mid2b {w U w2 : World} {o1 o2 : Obj} {b : Nat} (hk : Blk U w.heap.size zF 38) (hb : Below w.heap.size w U) (hs : U.heap.size = w.heap.size + 1) (hg : ((U.alloc o1).alloc o2).grownBy w2 (some b)) (h : w.heap.size < b) : Blk w2 w.heap.size zF 38 ∧ Below w.heap.size w w2 :=
  ⟨((hk.alloc _).alloc _).kept hg (by simp only [ne_eq, Option.some.injEq]; omega), ((hb.alloc (by omega) _).alloc (by rw [World.size_alloc]; omega) _).grown hg (by rw [World.size_alloc, World.size_alloc]; omega) (fun k e => by cases e; omega)⟩
/-- the zero block laid ahead of the words' box, behind it -/
theorem mid2z {w U w2 : World} {o2 : Obj} (hs : U.heap.size = w.heap.size + 1) (hg : ((U.alloc (.cells zF 38)).alloc o2).grownBy w2 (some (w.heap.size + 1 + 1))) : Blk w2 (w.heap.size + 1) zF 38 :=
  ((Blk_at hs.symm).alloc _).kept hg (by simp only [ne_eq, Option.some.injEq]; omega)
theorem mid2y {w U w2 : World} {o1 : Obj} (hs : U.heap.size = w.heap.size + 1) (hg : ((U.alloc o1).alloc (.cells zF 38)).grownBy w2 (some (w.heap.size + 1))) : Blk w2 (w.heap.size + 1 + 1) zF 38 :=
  (Blk_at (by rw [World.size_alloc, hs])).kept hg (by simp only [ne_eq, Option.some.injEq]; omega)
theorem mid3 {w w2 w3 : World} (h : Blk w2 w.heap.size zF 38 ∧ Below w.heap.size w w2) (hb : Below w2.heap.size w2 w3) : Blk w3 w.heap.size zF 38 ∧ Below w.heap.size w w3 :=
  ⟨h.1.below hb h.1.lt, h.2.trans (hb.mono h.2.size)⟩
theorem mid3b {w w2 w3 : World} {o : Obj} (h : Blk w2 w.heap.size zF 38 ∧ Below w.heap.size w w2) (hb : Below (w2.alloc o).heap.size (w2.alloc o) w3) : Blk w3 w.heap.size zF 38 ∧ Below w.heap.size w w3 :=
  ⟨(h.1.alloc o).below hb (h.1.alloc o).lt, (h.2.alloc h.2.size o).trans (hb.mono (by rw [World.size_alloc]; have := h.2.size; omega))⟩

set_option maxRecDepth 100000 in
set_option maxHeartbeats 4000000 in
theorem fparse_any (l : List UInt8) (hl : l.length ≤ 1000000) (ea : Addr) (w : World) (hge : w.cell? ⟨1, 0, none⟩ = some (eV ea)) :
    Calls Tryz.prog 77 #[.string ⟨l.toArray⟩] w fun e w' => e = parseV l ∧ Below w.heap.size w w' := by
  have hgs : 1 < w.heap.size := World.block_lt_of_cell? w _ hge
  have hB0 := (Below.refl w.heap.size w).alloc (Nat.le_refl _) (.cells zF 38)
  have hC1 := fun W => cut_any 32 l hl W
  have hC2 := fun W => cut_any 32 (cutL 32 l).2.1 (by have := (cutL_len 32 l).2; omega) W
  have hlw : (cutL 32 l).1.length ≤ maxLen := by have := (cutL_len 32 l).1; unfold maxLen; omega
  have hKW := fun mb W h => lookK (cutL 32 l).1 hlw mb W h
  have hN := fnumber_any (cutL 32 (cutL 32 l).2.1).1
  have hPV : parseV l = parseV2 (kindOf (cutL 32 l).1) (numL (cutL 32 (cutL 32 l).2.1).1) (cutL 32 (cutL 32 l).2.1).2.1 l := rfl
  rw [hPV]
  clear hPV
  have hlf : (cutL 32 (cutL 32 l).2.1).2.1.length ≤ 1000000 := by have h1 := (cutL_len 32 l).2; have h2 := (cutL_len 32 (cutL 32 l).2.1).2; omega
  generalize hA : (cutL 32 l).1 = A at *
  generalize hB : (cutL 32 l).2.1 = B at *
  generalize (cutL 32 l).2.2 = C at *
  generalize hA2 : (cutL 32 B).1 = A2 at *
  generalize hB2 : (cutL 32 B).2.1 = B2 at *
  generalize (cutL 32 B).2.2 = C2 at *
  generalize kindOf A = K at *
  generalize numL A2 = M at *
  have HC1 := Lib.hid hC1; have HC2 := Lib.hid hC2; have HKW := Lib.hid hKW; have HN := Lib.hid hN
  clear hC1 hC2 hKW hN hA hB hA2 hB2
  go_enter Tryz.func77, Tryz.ntmps77
  go_upto_region 3 with (first | (go_at_call_of 73 (Value.string ⟨l.toArray⟩); refine (HC1.out _).mono ?_; rintro e w' ⟨rfl, n1, rfl⟩) | (go_at_call_of 73 (Value.string ⟨B.toArray⟩); refine (HC2.out _).mono ?_; rintro e w' ⟨rfl, n2, rfl⟩))
  have b0 : Blk (((w.alloc (.cells zF 38)).drewN n1).drewN n2) w.heap.size zF 38 := Blk.new w _ _
  have hB1 : Below w.heap.size w (((w.alloc (.cells zF 38)).drewN n1).drewN n2) := below_drewN (below_drewN hB0 n1) n2
  have hz1 : (((w.alloc (.cells zF 38)).drewN n1).drewN n2).heap.size = w.heap.size + 1 := by simp
  clear HC1 HC2 hB0
  go_cut [10] (fun v wx => Built w K M B2 v wx)
  case first =>
    go_region_with (first
      | (go_at_call 68; refine (kinds_any _ (.int .u32 0) _ (by first | exact Blk_at (by simp) | exact Blk_at2 (by simp) | exact Blk.drew (Blk_at (by simp)) | exact Blk.drew (Blk_at2 (by simp)))).mono ?_; rintro e w2 ⟨mb, rfl, ho2, hg2⟩; have hk2 := HKW.out mb w2 ho2; have ho2a := World.ownsMap.alloc ho2 (.cells zF 38); have hk2a := HKW.out mb _ ho2a; obtain ⟨hc2, hf2⟩ := grown_cells hg2; have hz2 := hg2.size; (try simp at hz2); (try have hz2a : w.heap.size + 1 < w2.heap.size := by omega); (try have hz2b : w.heap.size + 1 + 1 < w2.heap.size := by omega))
      | (go_at_call 101; refine (HN.out _).mono ?_; rintro e w3 ⟨rfl, hb3⟩; have ho3 : ownsKinds w3 _ := World.ownsMap.kept (by first | exact ho2 | exact ho2a) (grown_of_below hb3 none) (by simp); have hk3 := HKW.out _ w3 ho3; have ho3a := World.ownsMap.alloc ho3 (.cells zF 38); have hk3a := HKW.out _ _ ho3a; obtain ⟨hc3, hf3⟩ := below_cells hb3; have hz3 := hb3.size; (try simp at hz3); (try have hz3a : w.heap.size + 1 < w3.heap.size := by omega); (try have hz3b : w.heap.size + 1 + 1 < w3.heap.size := by omega)))
    all_goals (go_wp2_with fail; go_meet)
    all_goals
      have hU : Blk ((w.alloc (.cells zF 38)).drewN (n1 + n2 + 1)) w.heap.size zF 38 ∧ Below w.heap.size w ((w.alloc (.cells zF 38)).drewN (n1 + n2 + 1)) ∧ ((w.alloc (.cells zF 38)).drewN (n1 + n2 + 1)).heap.size = w.heap.size + 1 := ⟨Blk.new w _ _, below_drewN ((Below.refl _ w).alloc (Nat.le_refl _) _) _, by simp⟩
      have h2 : Blk w2 w.heap.size zF 38 ∧ Below w.heap.size w w2 := by
        first | exact mid2 hU.1 hU.2.1 hU.2.2 hg2 (by omega) | exact mid2b hU.1 hU.2.1 hU.2.2 hg2 (by omega)
      have h3 : Blk w3 w.heap.size zF 38 ∧ Below w.heap.size w w3 := by
        first | exact mid3 h2 hb3 | exact mid3b h2 hb3
      first
        | exact built_new w w3 K M B2 h3.1 h3.2
        | exact built_store w w3 _ K M B2 ((Blk.new w2 zF 38).below hb3 (by rw [World.size_alloc]; omega)) h3.1 h3.2 (by omega)
        | exact built_store w w3 _ K M B2 ((mid2z hU.2.2 hg2).below hb3 (by omega)) h3.1 h3.2 (by omega)
        | exact built_store w w3 _ K M B2 ((mid2y hU.2.2 hg2).below hb3 (by omega)) h3.1 h3.2 (by omega)
  case rest =>
    obtain ⟨g, rfl, hgw, hfg, hf0, hBc⟩ := hcut
    have g0 := hfg.cell 0
    have g1 := hfg.cell 1
    have g2 := hfg.cell 2
    have r0 := hf0.cell 0
    have r1 := hf0.cell 1
    have r2 := hf0.cell 2
    have f0 := hf0.frozen 0
    have f1 := hf0.frozen 1
    have f2 := hf0.frozen 2
    simp at g0 g1 g2 r0 r1 r2
    have hgc : wc.cell? ⟨1, 0, none⟩ = some (eV ea) := (hBc.cell (p := ⟨1, 0, none⟩) hgs).trans hge
    clear HKW HN b0 hB1 hz1
    cases hr : rightB K M B2 with
    | false =>
      have HP := print_no K M B2 (by unfold maxLen; omega) ea wc hgc hr
      have HV : Hid (parseV2 K M B2 l = .returned (.tuple #[.agg zF, .int .i64 130])) := by show _ = _; rw [parseV2, hr]; rfl
      clear hr r0 r1 r2 f0 f1 f2
      go_wp2_with fail
      refine HP.mono ?_
      rintro e w6 ⟨rfl, hb6⟩
      clear HP
      have hf6 := hf0.below hb6 hf0.lt
      have hB6 : Below w.heap.size w w6 := hBc.trans (hb6.mono hBc.size)
      have hg6 : w6.cell? ⟨1, 0, none⟩ = some (eV ea) := (hB6.cell (p := ⟨1, 0, none⟩) hgs).trans hge
      have r0 := hf6.cell 0
      have r1 := hf6.cell 1
      have r2 := hf6.cell 2
      have f0 := hf6.frozen 0
      have f1 := hf6.frozen 1
      have f2 := hf6.frozen 2
      simp at r0 r1 r2
      have hT := ftold_any ea w6 hg6
      clear hb6
      go_wp2_with (go_at_call 67; refine hT.mono ?_; rintro e w' ⟨rfl, rfl⟩)
      have hfin := ((hf6.set 0 (.int .i64 0)).set 1 (.int .i64 0)).set 2 (.string ⟨#[]⟩)
      have q0 := hfin.cell 0
      have q1 := hfin.cell 1
      have q2 := hfin.cell 2
      simp at q0 q1 q2
      have hBf : Below w.heap.size w (((w6.setCell ⟨w.heap.size, 0, none⟩ (.int .i64 0)).setCell ⟨w.heap.size, 1, none⟩ (.int .i64 0)).setCell ⟨w.heap.size, 2, none⟩ (.string ⟨#[]⟩)) :=
        ((hB6.setCell (p := ⟨w.heap.size, 0, none⟩) (Nat.le_refl _) _).setCell (p := ⟨w.heap.size, 1, none⟩) (Nat.le_refl _) _).setCell (p := ⟨w.heap.size, 2, none⟩) (Nat.le_refl _) _
      refine bodyPost_ret (v := .tuple #[.agg zF, .int .i64 130]) (by simp [results, Tryz.results77, go_sem, q0, q1, q2]) rfl ⟨HV.out.symm, hBf⟩
    | true =>
      have HP := fprint_yes K M B2 (by unfold maxLen; omega) ea wc hgc hr
      have hv : parseV2 K M B2 l = .returned (if (fprintL K M B2 == l) then .tuple #[fV K M B2, .int .i64 0] else .tuple #[.agg zF, .int .i64 130]) := by rw [parseV2, hr]; rfl
      generalize fprintL K M B2 = PL at HP hv
      clear hr r0 r1 r2 f0 f1 f2
      cases hpl : (PL == l) with
      | false =>
        rw [hpl] at hv
        have HV := Lib.hid hv; clear hv
        go_wp2_with fail
        refine HP.mono ?_
        rintro e w6 ⟨rfl, hb6⟩
        clear HP
        have hf6 := hf0.below hb6 hf0.lt
        have hB6 : Below w.heap.size w w6 := hBc.trans (hb6.mono hBc.size)
        have hg6 : w6.cell? ⟨1, 0, none⟩ = some (eV ea) := (hB6.cell (p := ⟨1, 0, none⟩) hgs).trans hge
        have r0 := hf6.cell 0
        have r1 := hf6.cell 1
        have r2 := hf6.cell 2
        have f0 := hf6.frozen 0
        have f1 := hf6.frozen 1
        have f2 := hf6.frozen 2
        simp at r0 r1 r2
        have hT := ftold_any ea w6 hg6
        clear hb6
        go_wp2_with (go_at_call 67; refine hT.mono ?_; rintro e w' ⟨rfl, rfl⟩)
        have hfin := ((hf6.set 0 (.int .i64 0)).set 1 (.int .i64 0)).set 2 (.string ⟨#[]⟩)
        have q0 := hfin.cell 0
        have q1 := hfin.cell 1
        have q2 := hfin.cell 2
        simp at q0 q1 q2
        have hBf : Below w.heap.size w (((w6.setCell ⟨w.heap.size, 0, none⟩ (.int .i64 0)).setCell ⟨w.heap.size, 1, none⟩ (.int .i64 0)).setCell ⟨w.heap.size, 2, none⟩ (.string ⟨#[]⟩)) :=
          ((hB6.setCell (p := ⟨w.heap.size, 0, none⟩) (Nat.le_refl _) _).setCell (p := ⟨w.heap.size, 1, none⟩) (Nat.le_refl _) _).setCell (p := ⟨w.heap.size, 2, none⟩) (Nat.le_refl _) _
        refine bodyPost_ret (v := .tuple #[.agg zF, .int .i64 130]) (by simp [results, Tryz.results77, go_sem, q0, q1, q2]) rfl ⟨HV.out.symm, hBf⟩
      | true =>
        rw [hpl] at hv
        have HV := Lib.hid hv; clear hv
        go_wp2_with fail
        refine HP.mono ?_
        rintro e w6 ⟨rfl, hb6⟩
        clear HP
        have hf6 := hf0.below hb6 hf0.lt
        have hB6 : Below w.heap.size w w6 := hBc.trans (hb6.mono hBc.size)
        have hg6 : w6.cell? ⟨1, 0, none⟩ = some (eV ea) := (hB6.cell (p := ⟨1, 0, none⟩) hgs).trans hge
        have r0 := hf6.cell 0
        have r1 := hf6.cell 1
        have r2 := hf6.cell 2
        have f0 := hf6.frozen 0
        have f1 := hf6.frozen 1
        have f2 := hf6.frozen 2
        simp at r0 r1 r2
        have hg6' := hfg.below hb6 hfg.lt
        have g0' := hg6'.cell 0
        have g1' := hg6'.cell 1
        have g2' := hg6'.cell 2
        simp at g0' g1' g2'
        clear hb6
        go_wp2
        have hfin := ((hf6.set 0 (.int .i64 K)).set 1 (.int .i64 M)).set 2 (.string ⟨B2.toArray⟩)
        have q0 := hfin.cell 0
        have q1 := hfin.cell 1
        have q2 := hfin.cell 2
        simp at q0 q1 q2
        have hBf : Below w.heap.size w (((w6.setCell ⟨w.heap.size, 0, none⟩ (.int .i64 K)).setCell ⟨w.heap.size, 1, none⟩ (.int .i64 M)).setCell ⟨w.heap.size, 2, none⟩ (.string ⟨B2.toArray⟩)) :=
          ((hB6.setCell (p := ⟨w.heap.size, 0, none⟩) (Nat.le_refl _) _).setCell (p := ⟨w.heap.size, 1, none⟩) (Nat.le_refl _) _).setCell (p := ⟨w.heap.size, 2, none⟩) (Nat.le_refl _) _
        refine bodyPost_ret (v := .tuple #[fV K M B2, .int .i64 0]) (by simp [results, Tryz.results77, go_sem, q0, q1, q2]) rfl ⟨HV.out.symm, hBf⟩
end Go.Proofs.YtmmdpjliknmhgaaGreatDoor
/- Prints and filters: plain laws, and the contracts of Print and Parse, each result by itself. -/
namespace Go.Proofs.YtmmdpjliknmhgaaGreatDoor
open Go.RowKit
def errE (k m : Int) (form : List UInt8) : Int := if rightB k m form then 0 else 130
theorem cutL_app (c : UInt8) (r : List UInt8) : ∀ (a : List UInt8), (a.all fun x => x != c) = true → cutL c (a ++ c :: r) = (a, r, true)
  | [], _ => by simp [cutL]
  | x :: a, h => by
    simp only [List.all_cons, Bool.and_eq_true, bne_iff_ne] at h
    rw [List.cons_append, cutL, if_neg h.1, cutL_app c r a h.2]
theorem cutL_all (c : UInt8) : ∀ (a : List UInt8), (a.all fun x => x != c) = true → cutL c a = (a, [], false)
  | [], _ => rfl
  | x :: a, h => by
    simp only [List.all_cons, Bool.and_eq_true, bne_iff_ne] at h
    rw [cutL, if_neg h.1, cutL_all c a h.2]
theorem fdigits_small : ((List.range 201).all fun n => numL (digL n) == n && ((digL n).all fun x => x != 32) && decide ((digL n).length ≤ 3)) = true := by kernel_rfl
theorem fdigits_ok (m : Int) (h0 : 0 ≤ m) (h : m ≤ 200) : numL (digL m) = m ∧ ((digL m).all fun x => x != 32) = true ∧ (digL m).length ≤ 3 := by
  obtain ⟨n, rfl⟩ := Int.eq_ofNat_of_zero_le h0
  have := List.all_eq_true.1 fdigits_small n (List.mem_range.2 (by omega))
  simp only [Bool.and_eq_true, beq_iff_eq, decide_eq_true_eq] at this
  exact ⟨this.1.1, this.1.2, this.2⟩
theorem word_ok (k : Int) : ((wordOf k).all fun x => x != 32) = true ∧ (wordOf k).length ≤ 5 := by
  rcases wordOf_in k with h | h | h <;> rw [h] <;> exact ⟨by rfl, by decide⟩
theorem kind_word (k : Int) (h : k = 1 ∨ k = 2 ∨ k = 3) : kindOf (wordOf k) = k := by
  rcases h with rfl | rfl | rfl <;> rfl
theorem right_lenform {m : Int} {form : List UInt8} (h : rightB 1 m form = true) : form = [] := by simp [rightB] at h; exact h.2
theorem fprint_len (k m : Int) (form : List UInt8) (hr : rightB k m form = true) : (fprintL k m form).length ≤ 100 := by
  have h := right_facts hr
  have h1 := (fdigits_ok m h.1 h.2.1).2.2
  have h2 := (word_ok k).2
  unfold fprintL
  split <;> simp <;> omega
theorem parse_print (k m : Int) (form : List UInt8) (hr : rightB k m form = true) : pKind (fprintL k m form) = k ∧ pMax (fprintL k m form) = m ∧ pForm (fprintL k m form) = form := by
  have h := right_facts hr
  have h1 := fdigits_ok m h.1 h.2.1
  have h2 := (word_ok k).1
  have e : fprintL k m form = wordOf k ++ 32 :: (digL m ++ if k = 1 then [] else 32 :: form) := by unfold fprintL; simp
  rw [e]
  unfold pKind pMax pForm pWord pRest
  rw [cutL_app 32 _ _ h2]
  by_cases hk : k = 1
  · subst hk
    obtain rfl := right_lenform hr
    simp only [if_true, List.append_nil]
    rw [cutL_all 32 _ h1.2.1]
    exact ⟨kind_word 1 h.2.2.2, h1.1, rfl⟩
  · rw [if_neg hk]
    rw [cutL_app 32 _ _ h1.2.1]
    exact ⟨kind_word k h.2.2.2, h1.1, rfl⟩
def printA (k m : Int) (form : List UInt8) : List UInt8 := if rightB k m form then fprintL k m form else []
def parOk (l : List UInt8) : Bool := rightB (pKind l) (pMax l) (pForm l) && (fprintL (pKind l) (pMax l) (pForm l) == l)
def parK (l : List UInt8) : Int := if parOk l then pKind l else 0
def parM (l : List UInt8) : Int := if parOk l then pMax l else 0
def parF (l : List UInt8) : List UInt8 := if parOk l then pForm l else []
def fparE (l : List UInt8) : Int := if parOk l then 0 else 130
theorem print2 (k m : Int) (form : List UInt8) (hl : form.length ≤ maxLen) (ea : Addr) (w : World) (hge : w.cell? ⟨1, 0, none⟩ = some (eV ea)) :
    Calls Tryz.prog 41 #[fV k m form] w fun e w' => e = .returned (.tuple #[.string ⟨(printA k m form).toArray⟩, .int .i64 (errE k m form)]) ∧ Below w.heap.size w w' := by
  cases hr : rightB k m form with
  | false =>
    refine (print_no k m form hl ea w hge hr).mono fun e w' h => ⟨?_, h.2⟩
    rw [h.1, printA, errE, hr]; rfl
  | true =>
    refine (fprint_yes k m form hl ea w hge hr).mono fun e w' h => ⟨?_, h.2⟩
    rw [h.1, printA, errE, hr]; rfl
theorem parse2 (l : List UInt8) (hl : l.length ≤ 1000000) (ea : Addr) (w : World) (hge : w.cell? ⟨1, 0, none⟩ = some (eV ea)) :
    Calls Tryz.prog 77 #[.string ⟨l.toArray⟩] w fun e w' => e = .returned (.tuple #[fV (parK l) (parM l) (parF l), .int .i64 (fparE l)]) ∧ Below w.heap.size w w' := by
  refine (fparse_any l hl ea w hge).mono fun e w' h => ⟨?_, h.2⟩
  rw [h.1, parseV, parseV2, parK, parM, parF, fparE]
  change Ending.returned (if parOk l = true then _ else _) = _
  cases parOk l <;> rfl
/-- what Back asks -/
theorem fback_there (k m : Int) (form : List UInt8) (hr : rightB k m form = true) : parK (printA k m form) = k ∧ parM (printA k m form) = m ∧ parF (printA k m form) = form ∧ fparE (printA k m form) = 0 := by
  have h := parse_print k m form hr
  have e : printA k m form = fprintL k m form := by rw [printA, hr]; rfl
  have ho : parOk (fprintL k m form) = true := by rw [parOk, h.1, h.2.1, h.2.2, hr]; simp
  rw [e, parK, parM, parF, fparE, ho]
  exact ⟨h.1, h.2.1, h.2.2, rfl⟩
theorem fback_here (l : List UInt8) : (fparE l = 130) ∨ (fparE l = 0 ∧ errE (parK l) (parM l) (parF l) = 0 ∧ printA (parK l) (parM l) (parF l) = l) := by
  unfold fparE parK parM parF
  cases ho : parOk l with
  | false => left; rfl
  | true =>
    right
    simp only [parOk, Bool.and_eq_true, beq_iff_eq] at ho
    exact ⟨rfl, by show errE (pKind l) (pMax l) (pForm l) = 0; rw [errE, ho.1]; rfl, by show printA (pKind l) (pMax l) (pForm l) = l; rw [printA, ho.1]; exact ho.2⟩
theorem fprintA_len (k m : Int) (form : List UInt8) : (printA k m form).length ≤ 100 := by
  unfold printA
  split
  · rename_i h; exact fprint_len k m form h
  · simp
theorem parF_len (l : List UInt8) : (parF l).length ≤ 1000 := by
  unfold parF
  split
  · rename_i h
    simp only [parOk, Bool.and_eq_true] at h
    have := (right_facts h.1).2.2.1
    omega
  · simp
end Go.Proofs.YtmmdpjliknmhgaaGreatDoor
