/- Walks of layer 13: a filter's print. -/
import Derived.Test.YtcgffokejpgbdaaDoorFilterI
import Derived.Test.YtcgffokejpgbdaaDoorFilterH
import Derived.Test.YtcgffokejpgbdaaDoorDigits
namespace Go.Proofs.YtcgffokejpgbdaaDoor
open Go.RowKit Go.Maps
theorem kindsD_eq : kindsD = .map [(.string wClass, .lit (.int .i64 2)), (.string wForm, .lit (.int .i64 3)), (.string wLen, .lit (.int .i64 1))] := by rfl
theorem kinds_key (x : List UInt8) (y : DataW Unit) (h : ∀ zd, kindsD.atKey (.string x) zd = y) : (x = wLen ∧ y = .lit (.int .i64 1)) ∨ (x = wClass ∧ y = .lit (.int .i64 2)) ∨ (x = wForm ∧ y = .lit (.int .i64 3)) := by
  rw [kindsD_eq] at h
  by_cases h1 : x = wLen
  · subst h1; exact .inl ⟨rfl, by rw [← h .nil]; rfl⟩
  · by_cases h2 : x = wClass
    · subst h2; exact .inr (.inl ⟨rfl, by rw [← h .nil]; rfl⟩)
    · by_cases h3 : x = wForm
      · subst h3; exact .inr (.inr ⟨rfl, by rw [← h .nil]; rfl⟩)
      · exfalso
        have e : ∀ zd : DataW Unit, (DataW.map [(.string wClass, .lit (.int .i64 2)), (.string wForm, .lit (.int .i64 3)), (.string wLen, .lit (.int .i64 1))]).atKey (.string x) zd = zd := by
          intro zd
          simp [DataW.atKey, Lit.sameKey, Ne.symm h1, Ne.symm h2, Ne.symm h3]
        have a := (e .nil).symm.trans (h .nil)
        have b := (e (.map [])).symm.trans (h (.map []))
        rw [← a] at b; cases b
def wordOf (k : Int) : List UInt8 := if k = 1 then wLen else if k = 2 then wClass else wForm
def printL (k m : Int) (form : List UInt8) : List UInt8 := wordOf k ++ 32 :: digL m ++ (if k = 1 then [] else 32 :: form)

theorem key_inv {P : Program} {k : TypeId} (hk : P.underlying k = some .string) {key : Value} {kl : Lit} (h : keyOf P k key = some kl) : ∃ l : List UInt8, key = .string ⟨l.toArray⟩ ∧ kl = .string l := by
  cases key <;> simp [keyOf, hk, mapKey] at h
  rename_i s
  refine ⟨s.data.toList, by rw [Lib.mk_data], ?_⟩
  revert h
  cases kl <;> simp
  exact fun _ h => h.symm
/-- The step of a range over a map from strings to integers. -/
theorem next_si {H : Type} {P : Program} (w : World) {ops : Array Oper} {rest : List Oper} {o : Oper} {a : Act} {Q : Exit → Act → World → Prop} (hg : o.guard = none) (it : Operand) (hop : o.op = Op.next it false) (k e : TypeId) (q : IntKind) (hk : P.underlying k = some .string) (he : P.underlying e = some (.int q))
    (b r n : Nat) (D : DataW H) (left : Lit → Bool) (cnt : Nat) (hit : a.eval it = .pointer (some ⟨r, 0, none⟩)) (h : w.ranges P k (plainElem P e) b r n D left cnt)
    (hDone : (∀ kl, left kl = false) → wpList P ops Q rest (a.put o.dst (.tuple #[.bool false])) w)
    (hMore : ∀ (x : List UInt8) (c : Int) (w' : World) (cnt' : Nat), left (.string x) = true → (∀ zd, D.atKey (.string x) zd = .lit (.int q c)) → w'.ranges P k (plainElem P e) b r n D (fun z => left z && !z.sameKey (.string x)) cnt' → cnt' < cnt →
      w.grownBy w' (some r) → w'.heap.size = w.heap.size → (Instr.entry (.pointer (some ⟨r, 0, none⟩))).run P w' = .ok (.tuple #[.string ⟨x.toArray⟩, .int q c]) w' → wpList P ops Q rest (a.put o.dst (.tuple #[.bool true, .string ⟨x.toArray⟩, .int q c])) w') :
    wpList P ops Q (o :: rest) a w :=
  wpList_next_ranges w hg it hop k (string_keyed hk) (plainElem P e) (fun l : List UInt8 => Value.string ⟨l.toArray⟩) (fun c : Int => Value.int q c) (fun key kl h => by obtain ⟨l, h1, _⟩ := key_inv hk h; exact ⟨l, h1⟩) (fun v y h => by obtain ⟨c, h1, _⟩ := plainElem_int_inv he h; exact ⟨c, h1⟩)
    b r n D left cnt hit h (fun _ h => hDone h) (fun x c kl y w' cnt' hkey hlk hv hat hrg hlt hgr hsz hen => by
      obtain ⟨l', hx1, rfl⟩ := key_inv hk hkey
      obtain rfl : x = l' := by simpa using hx1
      obtain ⟨c', hc1, rfl, _⟩ := plainElem_int_inv he hv
      obtain rfl : c = c' := by cases hc1; rfl
      exact hMore x c w' cnt' hlk hat hrg hlt hgr hsz hen)
theorem size_kinds : Maps.size kindsD = 3 := by rw [kindsD_eq]; rfl
theorem has_kinds (x : List UInt8) (h : x = wLen ∨ x = wClass ∨ x = wForm) : Maps.has kindsD (.string x) = true := by
  rw [kindsD_eq]; rcases h with rfl | rfl | rfl <;> rfl
theorem wordOf_in (k : Int) : wordOf k = wLen ∨ wordOf k = wClass ∨ wordOf k = wForm := by
  unfold wordOf; split
  · exact .inl rfl
  · split
    · exact .inr (.inl rfl)
    · exact .inr (.inr rfl)
theorem kinds_word (x : List UInt8) (c k : Int) (hk : k = 1 ∨ k = 2 ∨ k = 3) (h : ∀ zd : DataW Unit, kindsD.atKey (.string x) zd = .lit (.int .i64 c)) : c = k ↔ x = wordOf k := by
  have hne1 : wLen ≠ wClass := by decide
  have hne2 : wLen ≠ wForm := by decide
  have hne3 : wClass ≠ wForm := by decide
  rcases kinds_key x _ h with ⟨rfl, e⟩ | ⟨rfl, e⟩ | ⟨rfl, e⟩ <;> cases e <;> rcases hk with rfl | rfl | rfl <;> simp [wordOf, hne1, hne2, hne3, Ne.symm hne1, Ne.symm hne2, Ne.symm hne3]

theorem Digits_any (n : Int) (w : World) (hn : n ≤ 9223372036854775807) :
    Calls Tryd.prog 34 #[.int .i64 n] w fun e w' => e = .returned (.string ⟨(digL n).toArray⟩) ∧ Below w.heap.size w w' := by
  by_cases h : n < 0
  · exact Digits_neg n w h
  · obtain ⟨k, rfl⟩ := Int.eq_ofNat_of_zero_le (by omega : 0 ≤ n)
    exact Digits_pos k w hn

set_option maxHeartbeats 1000000 in
theorem print_no (k m : Int) (form : List UInt8) (hl : form.length ≤ maxLen) (ea : Addr) (w : World) (hge : w.cell? ⟨0, 0, none⟩ = some (eV ea)) (hr : rightB k m form = false) :
    Calls Tryd.prog 22 #[fV k m form] w fun e w' => e = .returned (.tuple #[.string ⟨#[]⟩, .int .i64 130]) ∧ Below w.heap.size w w' := by
  have hgs : 0 < w.heap.size := World.block_lt_of_cell? w _ hge
  have hB0 := (Below.refl w.heap.size w).alloc (Nat.le_refl _) (.cells #[.int .i64 k, .int .i64 m, .string ⟨form.toArray⟩] 23)
  have hg1 := (hB0.cell (p := ⟨0, 0, none⟩) hgs).trans hge
  have HC := right_any k m form hl ea _ hg1
  rw [World.size_alloc, hr] at HC
  go_enter Tryd.func22, Tryd.ntmps22
  go_wp2_with (first | (go_at_call 20; refine HC.mono ?_; rintro e w1 ⟨rfl, hb1⟩; have hg2 := (hb1.cell (p := ⟨0, 0, none⟩) (by show 0 < _; omega)).trans hg1) | (go_at_call 27; refine (told_any ea _ hg2).mono ?_; rintro e w' ⟨rfl, rfl⟩))
  go_ret2
  exact ⟨rfl, hB0.trans (hb1.mono (by omega))⟩

theorem right_facts {k m : Int} {form : List UInt8} (h : rightB k m form = true) : 0 ≤ m ∧ m ≤ 200 ∧ form.length ≤ 40 ∧ (k = 1 ∨ k = 2 ∨ k = 3) := by
  unfold rightB at h
  simp only [Bool.and_eq_true, Bool.or_eq_true, decide_eq_true_eq, beq_iff_eq] at h
  obtain ⟨⟨⟨a, b⟩, c⟩, d⟩ := h
  exact ⟨a, b, c, by rcases d with (d | d) | d <;> simp [d.1]⟩
/-- What the loop over the words has: nothing while the kind's own word is still to come, all once it has come. -/
def PrintMid (k m : Int) (left : Lit → Bool) (S : List UInt8) : Prop := S = if left (.string (wordOf k)) then [] else wordOf k ++ 32 :: digL m

set_option maxRecDepth 100000 in
set_option maxHeartbeats 2000000 in
theorem print_yes (k m : Int) (form : List UInt8) (hl : form.length ≤ maxLen) (ea : Addr) (w : World) (hge : w.cell? ⟨0, 0, none⟩ = some (eV ea)) (hr : rightB k m form = true) :
    Calls Tryd.prog 22 #[fV k m form] w fun e w' => e = .returned (.tuple #[.string ⟨(printL k m form).toArray⟩, .int .i64 0]) ∧ Below w.heap.size w w' := by
  have hgs : 0 < w.heap.size := World.block_lt_of_cell? w _ hge
  have hB0 := (Below.refl w.heap.size w).alloc (Nat.le_refl _) (.cells #[.int .i64 k, .int .i64 m, .string ⟨form.toArray⟩] 23)
  have hg1 := (hB0.cell (p := ⟨0, 0, none⟩) hgs).trans hge
  have HC := right_any k m form hl ea _ hg1
  rw [World.size_alloc, hr] at HC
  have F0 := Blk.new w #[.int .i64 k, .int .i64 m, .string ⟨form.toArray⟩] 23
  obtain ⟨hm0, hm1, hf40, hk⟩ := right_facts hr
  clear hr
  go_enter Tryd.func22, Tryd.ntmps22
  go_wp2_with (go_at_call 20; refine HC.mono ?_; rintro e w1 ⟨rfl, hb1⟩)
  clear HC
  have hz1 := hb1.size
  rw [World.size_alloc] at hz1
  have F1 := F0.below hb1 (by omega)
  have HK := kinds_any w1.heap.size (.int .u32 0) (w1.alloc (.cells #[.int .u32 0, .int .i32 0, .int .u32 0, .map none] 69)) (Blk.new _ _ _)
  refine HK.mono ?_
  rintro e w2 ⟨mb, rfl, ho2, hg2⟩
  have F2 := (F1.alloc (.cells #[.int .u32 0, .int .i32 0, .int .u32 0, .map none] 69)).kept hg2 (by simp; omega)
  have hB1 : Below w.heap.size w w1 := hB0.trans (hb1.mono (by omega))
  have hB2 : Below w.heap.size w w2 := (hB1.alloc (by omega) _).grown hg2 (by simp; omega) (fun k e => by cases e; omega)
  have hz2 := hg2.size
  rw [World.size_alloc] at hz2
  have hmb : mb < w2.heap.size := ho2.lt
  clear HK hg2 F1 hB1 F0 hg1
  go_wp2_with (at_range; refine wpList_range_own _ rfl _ 54 rfl 9 3 keyStr Tryd.underlying54 _ mb 3 _ rfl ho2 ?_; intro w3 hrg3 hg3 hs3)
  go_frame
  have F3 := F2.kept hg3 (by simp)
  have hB3 : Below w.heap.size w w3 := hB2.grown hg3 (by omega) (fun k e => by cases e)
  clear F2 hB2 hg3 ho2
  go_loopw [4] (fun s wr => ∃ (left : Lit → Bool) (cnt : Nat) (S : List UInt8), wr.ranges Tryd.prog 9 (plainElem Tryd.prog 3) mb w2.heap.size 3 kindsD left cnt ∧ s = .string ⟨S.toArray⟩ ∧ PrintMid k m left S ∧ Blk wr w.heap.size #[.int .i64 k, .int .i64 m, .string ⟨form.toArray⟩] 23 ∧ Below w.heap.size w wr ∧ w2.heap.size + 1 ≤ wr.heap.size)
    (fun _ wr => wr.rangeLeft mb w2.heap.size)
  case atStart => exact ⟨_, _, [], hrg3, rfl, by rw [PrintMid, if_pos (has_kinds _ (wordOf_in k))], F3, hB3, by omega⟩
  case round =>
    obtain ⟨left, cnt, S, hrg, rfl, hS, F4, hB4, hz4⟩ := hrel
    have hdl := digL_len m (by omega)
    go_wp2_with (at_next; refine next_si _ rfl _ rfl 9 3 .i64 Tryd.underlying9 Tryd.underlying3 mb w2.heap.size 3 _ _ _ rfl hrg ?_ ?_)
    · intro hl0
      have hS' : S = wordOf k ++ 32 :: digL m := by rw [hS, if_neg (by rw [hl0]; simp)]
      have hwl : (wordOf k).length ≤ 5 := by rcases wordOf_in k with e | e | e <;> rw [e] <;> decide
      have hsl : S.length ≤ 30 := by rw [hS']; simp; omega
      have HP : Hid (S ++ (if k = 1 then [] else 32 :: form) = printL k m form) := by show _ = _; rw [hS', printL]
      have c0 := F4.cell 0
      have c2 := F4.cell 2
      simp at c0 c2
      clear hS hS' hl0 hwl hrg F4 hdl
      by_cases hk1 : k = 1
      · have hkb : (k != 1) = false := by simp [hk1]
        have HP1 : Hid (S = printL k m form) := by show _ = _; rw [← HP.out, if_pos hk1, List.append_nil]
        clear HP hk1 hk
        go_wp2
        go_ret2
        exact ⟨by rw [← HP1.out]; rfl, hB4⟩
      · have hkb : (k != 1) = true := by simp [hk1]
        have HP1 : Hid (S ++ 32 :: form = printL k m form) := by show _ = _; rw [← HP.out, if_neg hk1]
        clear HP hk1 hk
        go_wp2
        go_ret2
        exact ⟨by rw [← HP1.out]; rfl, hB4⟩
    · intro x c wn cn hleft hat hrgn hlt hgn hsn hen
      have hw := kinds_word x c k hk hat
      have F5 := F4.kept hgn (by simp; omega)
      have hB5 : Below w.heap.size w wn := hB4.grown hgn (by omega) (fun k e => by cases e; omega)
      have c0 := F5.cell 0
      have c1 := F5.cell 1
      simp at c0 c1
      by_cases hck : c = k
      · have hx := hw.1 hck
        have hckb : (c == k) = true := by simp [hck]
        have hxl : x.length ≤ 5 := by rw [hx]; rcases wordOf_in k with e | e | e <;> rw [e] <;> decide
        have HM : Hid (PrintMid k m (fun z => left z && !z.sameKey (.string x)) (x ++ 32 :: digL m)) := by
          show _ = _
          rw [← hx, if_neg (by simp [Lit.sameKey])]
        have HR : Hid (wn.rangeLeft mb w2.heap.size < wr.rangeLeft mb w2.heap.size) := by show _ < _; rw [hrgn.left_eq, hrg.left_eq]; exact hlt
        clear hw hck hx hS hat hleft hlt hrg
        go_wp2_with (go_at_call 34; refine (Digits_any m _ (by omega)).mono ?_; rintro e w6 ⟨rfl, hb6⟩)
        have hrg6 := hrgn.kept (grown_of_below hb6 none) (by simp) (by simp)
        have HR6 : Hid (w6.rangeLeft mb w2.heap.size < wr.rangeLeft mb w2.heap.size) := by show _ < _; rw [hrg6.left_eq, ← hrgn.left_eq]; exact HR.out
        have F6 := F5.below hb6 (by omega)
        have hB6 := hB5.trans (hb6.mono (by omega))
        have hz6 := hb6.size
        clear HR hrgn
        go_roundw
        case rel => exact ⟨_, _, x ++ 32 :: digL m, hrg6, by simp, HM.out, F6, hB6, by omega⟩
        case measure => exact HR6.out
      · have hckb : (c == k) = false := by simp [hck]
        have hxn : x ≠ wordOf k := fun e => hck (hw.2 e)
        have HM : Hid (PrintMid k m (fun z => left z && !z.sameKey (.string x)) S) := by
          show _ = _
          rw [hS]
          have : (Lit.string (wordOf k)).sameKey (.string x) = false := by simp [Lit.sameKey, Ne.symm hxn]
          simp only [this, Bool.not_false, Bool.and_true]
        have HR : Hid (wn.rangeLeft mb w2.heap.size < wr.rangeLeft mb w2.heap.size) := by show _ < _; rw [hrgn.left_eq, hrg.left_eq]; exact hlt
        clear hw hck hxn hS hat hleft hlt hrg
        go_wp2
        go_roundw
        case rel => exact ⟨_, _, S, hrgn, rfl, HM.out, F5, hB5, by omega⟩
        case measure => exact HR.out
end Go.Proofs.YtcgffokejpgbdaaDoor
