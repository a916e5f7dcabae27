/- Joined: FileA; FileB; FileC; FileD -/
import Derived.Test.YthclfkhakmcnbaaGreatDoorJTG
import Derived.Test.YthclfkhakmcnbaaGreatDoorJTI
import Derived.Lib.BufferWrite
import Derived.Lib.ConvBytes
import Derived.Lib.SlBuf
import Derived.Test.YthclfkhakmcnbaaGreatDoorJTD
import Derived.Deep.OwnRows
import Derived.Test.YthclfkhakmcnbaaGreatDoorJTE
/- Walks of layer 9: a file at work: must, isOffset, end. -/
namespace Go.Proofs.YthclfkhakmcnbaaGreatDoor
open Go.RowKit Go.Shelf
attribute [local go_sem] Oper.semAt_some
abbrev fwV : Value := .iface 130 (.agg #[])
def errF (b : Bool) : Value := if b then .nilIface else fwV
def u8C (s : List UInt8) : List Value := s.map fun c => .int .u8 c.toNat
theorem u8C_len (s : List UInt8) : (u8C s).length = s.length := by simp [u8C]
theorem u8C_one (s : List UInt8) : ∀ u ∈ u8C s, u.oneCell' = true := by intro u hu; obtain ⟨x, _, rfl⟩ := List.mem_map.1 hu; rfl
theorem u8C_app (a b : List UInt8) : u8C (a ++ b) = u8C a ++ u8C b := by simp [u8C]
/-- bytes as they lie in memory -/
def BySl (W : World) (v : Value) (s : List UInt8) : Prop := SlR 1 W v s.length (u8C s)
set_option maxRecDepth 100000 in
set_option maxHeartbeats 2000000 in
theorem toldF_any (w : World) (hg : w.cell? ⟨4, 0, none⟩ = some (.iface FileAs.RT (.agg #[FileAs.H 69]))) :
    Calls Tryz.prog 109 #[fwV] w fun e w' => e = .returned (.int .i64 90) ∧ Below w.heap.size w w' := by
  have b0 := Blk.new w #[] 130
  have hB0 := (Below.refl w.heap.size w).alloc (Nat.le_refl _) (.cells #[] 130)
  have hgl := World.block_lt_of_cell? w _ hg
  have HA := Lib.hid (FileAs.as_hit w.heap.size _ ((hB0.cell (p := ⟨4, 0, none⟩) hgl).trans hg) b0)
  clear hg
  go_enter Tryz.func109, Tryz.ntmps109
  go_wp2_with fail
  with_reducible refine HA.out.mono ?_
  rintro e w1 ⟨rfl, hw1⟩
  have hB1 : Below w.heap.size w w1 := by
    rw [hw1]
    exact ((((hB0.alloc (by simp) _).alloc (by simp; omega) _).alloc (by simp; omega) _).alloc (by simp; omega) _)
  clear hw1 HA
  go_wp2_with fail
  go_ret
  exact ⟨rfl, hB1⟩
set_option maxRecDepth 100000 in
set_option maxHeartbeats 2000000 in
theorem mustF_any (q g c : Nat) (v : Value) (ok : Bool) (bs : List Bool) (hbl : bs.length ≤ 1000000) (w : World) (hq : Blk w q #[v, errF ok] 111) (hg : ∀ i (hi : i < bs.length), w.cell? ⟨g, i, none⟩ = some (.bool bs[i])) (hgq : g ≠ q) :
    Calls Tryz.prog 91 #[.pointer (some ⟨q, 0, none⟩), .slice (some ⟨g, 0, none⟩) bs.length c] w fun e w' => e = .returned (.tuple #[]) ∧ Blk w' q #[v, errF (ok && bs.all id)] 111 ∧ w.grownBy w' (some q) := by
  have hall : ∀ k (hk : k < bs.length), (bs.take (k + 1)).all id = ((bs.take k).all id && bs[k]) := fun k hk => by rw [List.take_succ_eq_append_getElem hk, List.all_append]; simp
  have hend : (bs.take bs.length).all id = bs.all id := by rw [List.take_of_length_le (Nat.le_refl _)]
  go_enter Tryz.func91, Tryz.ntmps91
  go_wp2_with fail
  go_loopg [8] bs.length (fun gg s8 wr => ∃ kk : Nat, kk ≤ bs.length ∧ bs.length - kk ≤ gg ∧ s8 = .int .i64 kk ∧ Hid (Blk wr q #[v, errF (ok && (bs.take kk).all id)] 111 ∧ w.grownBy wr (some q)))
  case atStart => exact ⟨0, Nat.zero_le _, by omega, rfl, by simpa using hq, World.grownBy.refl _ _⟩
  case round =>
    obtain ⟨kk, hkk, hgg, rfl, HI⟩ := hrel
    by_cases hlt : kk < bs.length
    · have hltz : (kk : Int) < (bs.length : Int) := by omega
      have hkz : (0 : Int) ≤ (kk : Int) := by omega
      have hc := hg kk hlt
      have hlg : g < w.heap.size := World.block_lt_of_cell? w _ hc
      have hc2 : wr.cell? ⟨g, kk, none⟩ = some (.bool bs[kk]) := by
        have := HI.out.2.block g hlg (by simpa using hgq)
        unfold World.cell? at hc ⊢
        simp only at hc ⊢
        rw [this]; exact hc
      have ha := hall kk hlt
      have e1 := HI.out.1.cell 1
      have f1 := HI.out.1.frozen 1
      have HST : Hid (∀ wr', Blk wr' q #[v, errF (ok && ((bs.take kk).all id && bs[kk]))] 111 → Blk wr' q #[v, errF (ok && (bs.take (kk + 1)).all id)] 111) := fun wr' h => by rw [ha]; exact h
      have HB := Lib.hid HI.out.1
      have HG := Lib.hid HI.out.2
      simp at e1
      clear hg hc hall hend ha HI
      generalize (bs.take kk).all id = r at *
      generalize bs[kk] = x at *
      cases x with
      | true =>
        go_wp2_with fail
        go_roundg (bs.length - (kk + 1))
        case measure => omega
        case rel => exact ⟨kk + 1, by omega, by omega, by go_num, HST.out _ (by simpa using HB.out), HG.out⟩
      | false =>
        go_wp2_with fail
        go_roundg (bs.length - (kk + 1))
        case measure => omega
        case rel => exact ⟨kk + 1, by omega, by omega, by go_num, HST.out _ (by have := HB.out.set 1 fwV; simpa [errF] using this), grownBy_t HG.out (grownBy_setCellB wr q 1 _)⟩
    · have hltz : ¬ (kk : Int) < (bs.length : Int) := by omega
      obtain rfl : kk = bs.length := by omega
      rw [hend] at HI
      clear hg hall hend
      go_wp2_with fail
      go_end0
      exact ⟨rfl, HI.out.1, HI.out.2⟩
set_option maxRecDepth 100000 in
set_option maxHeartbeats 2000000 in
theorem isOffset_any (q : Nat) (a : Option Addr) (n c : Nat) (hn : n ≤ 1000000) (k : Int) (w : World) (hq : w.cell? ⟨q, 0, none⟩ = some (.slice a n c)) :
    Calls Tryz.prog 92 #[.pointer (some ⟨q, 0, none⟩), .int .i64 k] w fun e w' => e = .returned (.bool (decide (0 ≤ k) && decide (k ≤ n))) ∧ w = w' := by
  by_cases h : 0 ≤ k
  · have hb : decide (0 ≤ k) = true := by simpa using h
    rw [hb, Bool.true_and]
    go_enter Tryz.func92, Tryz.ntmps92
    go_wp2
    go_ret
    exact ⟨rfl, rfl⟩
  · have hb : decide (0 ≤ k) = false := by simpa using h
    rw [hb, Bool.false_and]
    go_enter Tryz.func92, Tryz.ntmps92
    go_wp2
    go_ret
    exact ⟨rfl, rfl⟩
set_option maxRecDepth 100000 in
set_option maxHeartbeats 2000000 in
theorem endF_any (q : Nat) (s : List UInt8) (v : Value) (ok : Bool) (w : World) (hgE : w.cell? ⟨4, 0, none⟩ = some (.iface FileAs.RT (.agg #[FileAs.H 69]))) (hq : Blk w q #[v, errF ok] 111) (hvs : ok = true → BySl w v s) :
    Calls Tryz.prog 88 #[.pointer (some ⟨q, 0, none⟩)] w fun e w' => e = .returned (.tuple #[.string ⟨(fL ok s).toArray⟩, .int .i64 (fE ok)]) ∧ Below w.heap.size w w' := by
  have e0 := hq.cell 0
  have e1 := hq.cell 1
  simp at e0 e1
  cases ok with
  | false =>
    have HT := toldF_any w hgE
    have e1' : w.cell? ⟨q, 1, none⟩ = some fwV := e1
    clear e1 hgE hvs hq
    go_enter Tryz.func88, Tryz.ntmps88
    go_wp2_with fail
    with_reducible refine HT.mono ?_
    rintro e w1 ⟨rfl, b1⟩
    go_wp2_with fail
    go_ret2
    exact ⟨rfl, b1⟩
  | true =>
    have e1' : w.cell? ⟨q, 1, none⟩ = some .nilIface := e1
    have hs := hvs rfl
    obtain ⟨hl, a, cap, rfl, hcap, h4⟩ := id hs
    have hconv : (convert 107 9 (.slice a s.length cap)).run Tryz.prog w = .ok (.string ⟨s.toArray⟩) w := by
      rcases h4 with h0 | ⟨b, o, rfl, hb, hc⟩
      · have e : s = [] := List.length_eq_zero_iff.1 h0
        subst e
        rw [run_convert_bytes_string w _ _ _ _ _ _ Tryz.underlying107 Tryz.underlying5 Tryz.underlying9]
        cases a <;> simp [Conv.bytesToString, loadCells, loadCellsFrom, Result.andThen] <;> rfl
      · refine conv_bytes w _ _ _ ⟨b, o, none⟩ cap s Tryz.underlying107 Tryz.underlying5 Tryz.underlying9 fun j hj => ?_
        have := hc j (by rw [u8C_len]; exact hj)
        rw [Addr.add_lit, this]
        simp [u8C]
    clear e1 hgE hvs hq hs h4 hl
    go_enter Tryz.func88, Tryz.ntmps88
    go_wp2_with fail
    go_ret2
    exact ⟨rfl, Below.refl _ _⟩
end Go.Proofs.YthclfkhakmcnbaaGreatDoor
/- Walks of layer 9: a file at work: parts, set. -/
namespace Go.Proofs.YthclfkhakmcnbaaGreatDoor
open Go.RowKit Go.Shelf
attribute [local go_sem] Oper.semAt_some
theorem infoU8 : (Tryz.prog.info? 5).map (fun i => (i.zero, i.size, i.bytes)) = some (some (.int .u8 0), 1, 1) := by kernel_rfl
/-- bytes that lie somewhere -/
structure PcD (w : World) where
  b : Nat
  o : Nat
  c : Nat
  s : List UInt8
  ok : ∀ (j : Nat) u, (u8C s)[j]? = some u → w.cell? ⟨b, o + j, none⟩ = some u
  fit : s.length ≤ 1000000
section
variable {w : World}
def sumP (l : List (PcD w)) : Nat := (l.map fun x => x.s.length).sum
def catP (l : List (PcD w)) : List UInt8 := (l.map fun x => x.s).flatten
theorem catP_len (l : List (PcD w)) : (catP l).length = sumP l := by simp [catP, sumP, List.length_flatten, List.map_map, Function.comp_def]
theorem sumP_take {l : List (PcD w)} {k : Nat} (h : k < l.length) : sumP (l.take (k + 1)) = sumP (l.take k) + l[k].s.length := by
  rw [List.take_succ_eq_append_getElem h]; simp only [sumP, List.map_append, List.sum_append, List.map_cons, List.map_nil, List.sum_cons, List.sum_nil, Nat.add_zero]
theorem sumP_bound (l : List (PcD w)) : sumP l ≤ l.length * 1000000 := by
  induction l with
  | nil => simp [sumP]
  | cons x l ih =>
    have h := x.fit
    have e : sumP (x :: l) = x.s.length + sumP l := by simp [sumP]
    rw [e, List.length_cons]; omega
theorem catP_snoc (l : List (PcD w)) (x : PcD w) : catP (l ++ [x]) = catP l ++ x.s := by simp [catP]
theorem sumP_snoc (l : List (PcD w)) (x : PcD w) : sumP (l ++ [x]) = sumP l + x.s.length := by simp [sumP]
theorem sumP_le (l : List (PcD w)) (k : Nat) : sumP (l.take k) ≤ sumP l := by
  have h := congrArg sumP (List.take_append_drop k l)
  have e : ∀ a b : List (PcD w), sumP (a ++ b) = sumP a + sumP b := fun a b => by simp [sumP]
  rw [e] at h; omega
/-- as many parts as are a file -/
def TakenP (l xs : List (PcD w)) : Prop := ∃ k, k ≤ l.length ∧ xs = l.take k ∧ sumP xs ≤ 1000 ∧ (k = l.length ∨ 1000 < sumP (l.take (k + 1)))
theorem taken_all {l xs : List (PcD w)} (h : TakenP l xs) (hs : sumP l ≤ 1000) : xs = l := by
  obtain ⟨k, hk, rfl, -, rfl | h⟩ := h
  · simp
  · have := sumP_le l (k + 1); omega
theorem taken_no {l xs : List (PcD w)} (h : TakenP l xs) (hs : ¬ sumP l ≤ 1000) : sumP xs ≠ sumP l := by
  obtain ⟨k, hk, rfl, h1, -⟩ := h
  omega
def pcV (x : PcD w) : Value := .slice (some ⟨x.b, x.o, none⟩) x.s.length x.c
end
set_option maxRecDepth 100000 in
theorem partsF_any (a : Option Addr) (n c : Nat) (w : World) : Calls Tryz.prog 111 #[.slice a n c] w fun e w' => e = .returned (.func (.func 122) #[] #[.pointer (some ⟨w.heap.size, 0, none⟩)]) ∧ w.alloc (.cells #[.slice a n c] 133) = w' := by
  have hmf : ∀ (fn : Fn) (first cap : Array Value) (w : World), (Instr.makeFunc fn first cap).run Tryz.prog w = .ok (.func fn first cap) w := fun _ _ _ _ => rfl
  go_enter Tryz.func111, Tryz.ntmps111
  go_wp2
  go_ret
  exact ⟨rfl, rfl⟩
set_option maxRecDepth 100000 in
set_option maxHeartbeats 2000000 in
theorem parts1_seq {w : World} (n b ob m g c : Nat) (l : List (PcD w)) (hl : l.length ≤ 1000) (W : World) (hb : Boxed W b 133 (.slice (some ⟨g, 0, none⟩) l.length c)) (hc : ∀ i (hi : i < l.length), W.cell? ⟨g, i, none⟩ = some (pcV l[i])) (hgm : g < m) (hgo : g ≠ ob) :
    SeqG Fence.wide n Tryz.prog 122 #[.pointer (some ⟨b, 0, none⟩)] (fun x : PcD w => #[pcV x]) (fun A B => A = B) (keepK m ob) (fun xs _ => TakenP l xs) (fun _ _ => True) l.length W := by
  intro lp J Jx hJ hJx hY h0
  have hcb := hb.cell
  have hs : sumP l ≤ 1000000000 := by have := sumP_bound l; omega
  (refine callsIn_of_wp Tryz.func122 rfl trivial ?_ rfl; simp only [Tryz.ntmps122, List.size_toArray, List.length_cons, List.length_nil, Nat.reduceAdd, Nat.reduceSub, Array.replicate_succ, Array.replicate_zero, List.push_toArray, List.append_toArray, List.nil_append, List.cons_append])
  refine wpIn_scope_w ?_
  gi_wp2
  refine wpIn_label ?_
  gi_wp2
  clear hcb hb
  gi_loopw [3, 8] (fun s t wr => ∃ k : Nat, k ≤ l.length ∧ t = .int .i64 k ∧ s = .int .i64 (sumP (l.take k)) ∧ sumP (l.take k) ≤ 1000 ∧ J (l.take k) wr ∧ Hid (∀ o, wr.cell? ⟨g, o, none⟩ = W.cell? ⟨g, o, none⟩)) (fun _ t wr => l.length - (intOf t).toNat)
  case atStart => exact ⟨0, Nat.zero_le _, rfl, rfl, Nat.zero_le _, h0, fun _ => rfl⟩
  case round =>
    obtain ⟨k, hk, rfl, rfl, hsk, hj, hC⟩ := hrel
    by_cases hlt : k < l.length
    · have hltz : (k : Int) < (l.length : Int) := by omega
      have hkz : (0 : Int) ≤ (k : Int) := by omega
      have k0 := (hC.out k).trans (hc k hlt)
      have hlen2 : (l.take k).length < l.length := by rw [List.length_take]; omega
      have hts : l.take k ++ [l[k]] = l.take (k + 1) := (List.take_succ_eq_append_getElem hlt).symm
      have hst := sumP_take hlt
      have hsl := sumP_le l (k + 1)
      have hY1 := fun V hJV => hY (l.take k) l[k] V hJV hlen2
      rw [hts] at hY1
      have htk : Hid (¬ sumP (l.take (k + 1)) ≤ 1000 → TakenP l (l.take k)) := fun h => ⟨k, hk, rfl, hsk, .inr (by omega)⟩
      clear hlen2 hts
      generalize l[k] = x at *
      generalize hs2 : sumP (l.take (k + 1)) = s2 at *
      generalize sumP (l.take k) = s1 at *
      subst hst
      have hpx : pcV x = .slice (some ⟨x.b, x.o, none⟩) x.s.length x.c := rfl
      rw [hpx] at k0 hY1
      clear hpx
      generalize x.s.length = n1 at *
      generalize x.b = xb at *
      generalize x.o = xo at *
      generalize x.c = xc at *
      clear x
      have hw1 : IntKind.i64.wrap ((s1 : Int) + (n1 : Int)) = ((s1 + n1 : Nat) : Int) := by rw [Int.natCast_add]; exact IntWalk.i64_in _ (by omega)
      by_cases hfit : s1 + n1 ≤ 1000
      · have hfz : ¬ (1000 : Int) < ((s1 + n1 : Nat) : Int) := by omega
        have hY2 := hY1 wr hj
        obtain ⟨fn, tmps, assign, body, hy, hR⟩ := hY2
        have hRH := Lib.hid hR
        clear hR hY1 hY hc htk
        gi_wp2
        refine ⟨fun h => (by cases h), hRH.out.mono ?_⟩
        clear k0 hj
        rintro e V (⟨rfl, hj3, hk3⟩ | ⟨rfl, hj3⟩)
        · gi_wp2
          go_roundw
          case rel => exact ⟨k + 1, by omega, by go_num, by rw [hs2, Int.natCast_add], by rw [hs2]; exact hfit, hj3, fun o => (World.cell?_of_block (w := wr) (a := ⟨g, o, none⟩) (hk3 _ hgm hgo)).trans (hC.out o)⟩
          case measure => simp [intOf]; omega
        · gi_wp2
          simp only [Exit.noGoto_normal]
          go_end0
          exact ⟨⟨_, rfl⟩, .inr ⟨_, trivial, hj3⟩⟩
      · have hfz : (1000 : Int) < ((s1 + n1 : Nat) : Int) := by omega
        have ht := htk.out hfit
        clear hY1 hY hc htk
        gi_wp2
        refine ⟨fun _ h => (by cases h), ?_⟩
        gi_wp2
        simp only [Exit.noGoto_normal]
        go_end0
        exact ⟨⟨_, rfl⟩, .inl ⟨_, ht, hj⟩⟩
    · have hltz : ¬ (k : Int) < (l.length : Int) := by omega
      have hkl : k = l.length := by omega
      subst hkl
      have ht : TakenP l (l.take l.length) := ⟨l.length, Nat.le_refl _, rfl, hsk, .inl rfl⟩
      clear hc hY
      gi_wp2
      go_end0
      exact ⟨⟨_, rfl⟩, .inl ⟨_, ht, hj⟩⟩
end Go.Proofs.YthclfkhakmcnbaaGreatDoor
/- Walks of layer 9: a file at work: set. -/
namespace Go.Proofs.YthclfkhakmcnbaaGreatDoor
open Go.RowKit Go.Shelf
attribute [local go_sem] Oper.semAt_some
/-- 'out = append(out, ..)', out in a box, nothing laid between -/
theorem appended0 {W w1 : World} {base b : Nat} {t e : TypeId} {size : Nat} {v v' : Value} {k m : Nat} {xs ys : List Value}
    (hv : Boxed W b t v) (hte : t ≠ e) (hrow : W.ownsRow base e size v k xs) (hown' : w1.ownsRow base e size v' m ys) (hgrow : W.grownBy w1 v.ownBlock) :
    Boxed w1 b t v ∧ Boxed (w1.setCell ⟨b, 0, none⟩ v') b t v' ∧ (w1.setCell ⟨b, 0, none⟩ v').ownsRow base e size v' m ys ∧ (∀ B, Keeps B W (w1.setCell ⟨b, 0, none⟩ v')) ∧
      W.heap.size ≤ (w1.setCell ⟨b, 0, none⟩ v').heap.size ∧ (∀ i, i < W.heap.size → i < base → i ≠ b → (w1.setCell ⟨b, 0, none⟩ v').heap[i]? = W.heap[i]?) ∧ (∀ n₀, n₀ ≤ W.heap.size → n₀ ≤ b → n₀ ≤ base → Below n₀ W (w1.setCell ⟨b, 0, none⟩ v')) := by
  have hv1 : Boxed w1 b t v := hv.kept hgrow (hv.not_row hte hrow)
  have hob : ∀ j, v.ownBlock = some j → base ≤ j ∧ ∃ o : Obj, W.heap[j]? = some o ∧ o.isCells = true := by
    intro j ej
    rcases hrow.2 with ⟨rfl, _⟩ | ⟨g, cap, cur, rfl, hg, hgb, _⟩
    · simp [Value.ownBlock] at ej
    · obtain rfl : g = j := by simpa [Value.ownBlock] using ej
      exact ⟨hg, _, hgb, rfl⟩
  have hsz : W.heap.size ≤ w1.heap.size := hgrow.size
  have hblk : ∀ i, i < W.heap.size → i < base → i ≠ b → (w1.setCell ⟨b, 0, none⟩ v').heap[i]? = W.heap[i]? := by
    intro i hi hbase hne
    rw [Below.heap_setCell _ _ _ _ (by show i ≠ b; exact hne), hgrow.block i hi (fun ej => by have := (hob i ej.symm).1; omega)]
  refine ⟨hv1, hv1.set v', hown'.kept (grownBy_setCell' w1 b v') (.inr (hv1.not_row hte hown').symm), ?_, ?_, hblk, ?_⟩
  · intro B i o _ hi ho
    have hlt := (Array.getElem?_eq_some_iff.1 hi).1
    have h2 : w1.heap[i]? = some o := by
      rw [hgrow.block i hlt (fun ej => by
        obtain ⟨_, o', ho', hc⟩ := hob i ej.symm
        rw [hi] at ho'; cases ho'; rw [ho] at hc; cases hc)]
      exact hi
    rw [Below.heap_setCell _ _ _ _ (fun e => by have e' : i = b := e; have h' : w1.heap[b]? = _ := hv1; rw [← e', h2] at h'; cases h'; cases ho)]
    exact h2
  · rw [size_setCell]; omega
  · intro n₀ h1 h2 h3
    exact ((Below.refl n₀ W).grown hgrow h1 (fun j ej => by have := (hob j ej).1; omega)).setCell (p := ⟨b, 0, none⟩) h2 v'
theorem blk_bools {W : World} {g : Nat} {bs : List Bool} {t : TypeId} (h : Blk W g (bs.map Value.bool).toArray t) : ∀ i (hi : i < bs.length), W.cell? ⟨g, i, none⟩ = some (.bool bs[i]) := fun i hi => by
  rw [h.cell i]; simp [hi]
theorem grown_new {w A B : World} {row : Option Nat} {D : Nat} (h : w.grownBy A row) (k : A.grownBy B (some D)) (hD : w.heap.size ≤ D) : w.grownBy B row :=
  ⟨k.os.trans h.os, k.tape.trans h.tape, k.output.trans h.output, Nat.le_trans h.size k.size, fun i hi hr => (k.block i (Nat.lt_of_lt_of_le hi h.size) (by simp; omega)).trans (h.block i hi hr)⟩
theorem setF_fin {w W W0 w2 : World} {q D : Nat} {t : TypeId} (v0 v : Value) (cs' : Value) (hB : Below w.heap.size w W) (hD : W0.heap.size ≤ D) (hz : W0.heap.size = w.heap.size + 2) (hK : W.heap[D]? = some (.deferred (some []))) (hq2 : Blk w2 q #[v0, cs'] t) (g : W.grownBy w2 (some q)) (hK2 : w2.heap[D]? = some (.deferred (some []))) (hql : q < w.heap.size) :
    (w2.setCell ⟨q, 0, none⟩ v).heap[D]? = some (.deferred (some [])) ∧ Blk ((w2.setCell ⟨q, 0, none⟩ v).putObj D (.deferred none)) q #[v, cs'] t ∧ w.grownBy ((w2.setCell ⟨q, 0, none⟩ v).putObj D (.deferred none)) (some q) := by
  have h1 : (w2.setCell ⟨q, 0, none⟩ v).heap[D]? = some (.deferred (some [])) := (Below.heap_setCell _ _ _ _ (by show D ≠ q; omega)).trans hK2
  refine ⟨h1, ?_, ?_⟩
  · have := hq2.set 0 v
    exact putObj_other _ h1 rfl this rfl
  · exact grown_new (grownBy_t (grownBy_t (grown_of_below hB _) g) (grownBy_setCellB w2 q 0 v)) (grownBy_putObj' _ D _) (by omega)
set_option maxRecDepth 100000 in
set_option maxHeartbeats 4000000 in
theorem setF_any (q g c : Nat) (w : World) (l : List (PcD w)) (hl : l.length ≤ 1000) (v0 : Value) (ok : Bool) (hq : Blk w q #[v0, errF ok] 111) (hc : ∀ i (hi : i < l.length), w.cell? ⟨g, i, none⟩ = some (pcV l[i])) (hgl : g < w.heap.size) (hgq : g ≠ q)
    (hv0 : ∃ a n c, v0 = .slice a n c) :
    Calls Tryz.prog 94 #[.pointer (some ⟨q, 0, none⟩), .slice (some ⟨g, 0, none⟩) l.length c] w fun e w' => e = .returned (.tuple #[]) ∧ ∃ v', Blk w' q #[v', errF (ok && decide (sumP l ≤ 1000))] 111 ∧ (sumP l ≤ 1000 → w'.ownsRow w.heap.size 5 1 v' (sumP l) (u8C (catP l))) ∧ w.grownBy w' (some q) ∧ ∃ a n c, v' = .slice a n c := by
  obtain ⟨i0, hI, hz0, hz1, hz2⟩ := info_parts infoU8
  obtain ⟨bb, hbb⟩ : ∃ bb, decide (sumP l ≤ 1000) = bb := ⟨_, rfl⟩
  rw [hbb]
  refine (callsIn_wide (n := 3)).1 ?_
  (refine callsIn_of_wp_marks Tryz.func94 rfl trivial ?_ rfl; simp only [Tryz.ntmps94, List.size_toArray, List.length_cons, List.length_nil, Nat.reduceAdd, Nat.reduceSub, Array.replicate_succ, Array.replicate_zero, List.push_toArray, List.append_toArray, List.nil_append, List.cons_append])
  gi_wp2_with (refine ⟨trivial, ?_⟩; gi_at_call 111; refine (callsIn_wide.2 (partsF_any _ _ _ _)).mono ?_; rintro e w' ⟨rfl, rfl⟩)
  have o0 := Boxed.new w 107 (.slice none 0 0)
  have p0 := Boxed.new (w.alloc (.cells #[.slice none 0 0] 107)) 133 (.slice (some ⟨g, 0, none⟩) l.length c)
  rw [World.size_alloc] at p0
  have o1 := o0.alloc (.cells #[.slice (some ⟨g, 0, none⟩) l.length c] 133)
  have hB0 : Below w.heap.size w ((w.alloc (.cells #[.slice none 0 0] 107)).alloc (.cells #[.slice (some ⟨g, 0, none⟩) l.length c] 133)) :=
    ((Below.refl _ w).alloc (Nat.le_refl _) _).alloc (by simp) _
  have hz0' : ((w.alloc (.cells #[.slice none 0 0] 107)).alloc (.cells #[.slice (some ⟨g, 0, none⟩) l.length c] 133)).heap.size = w.heap.size + 2 := by simp
  obtain ⟨W0, hW0⟩ : ∃ W0, (w.alloc (.cells #[.slice none 0 0] 107)).alloc (.cells #[.slice (some ⟨g, 0, none⟩) l.length c] 133) = W0 := ⟨_, rfl⟩
  rw [hW0] at o1 p0 hB0 hz0' ⊢
  clear hW0 o0
  have hK0 := KeepC.of_below hB0
  have hql := hq.lt
  have hqw : w.heap.size ≠ q := by omega
  refine range_law rfl (by omega) (gf := 122) (lb := #[.pointer (some ⟨w.heap.size + 1, 0, none⟩)]) rfl trivial (enters_of Tryz.func122 (by kernel_rfl) rfl)
    (G := fun A B => A = B) (Kp := keepK (w.heap.size + 2) w.heap.size)
    (fun W hW _ => parts1_seq _ (w.heap.size + 1) w.heap.size (w.heap.size + 2) g c l hl W ((hW.block _ (by omega)).trans p0) (fun i hi => (KeepC.of_below hW).2 _ _ _ (hK0.2 _ _ _ (hc i hi))) (by omega) (by omega)) keepK_t (by rw [hz0']; exact keepK_b) (fun A B h => by subst h; exact Keeps.refl _ _) (fun _ => rfl)
    (fun pre W => (∃ v, Boxed W w.heap.size 107 v ∧ W.ownsRow (w.heap.size + 2) 5 1 v (sumP pre) (u8C (catP pre))) ∧ Below w.heap.size w W ∧ w.heap.size + 2 ≤ W.heap.size) (fun _ _ _ => False)
    ((bears_ex fun v => (bears_boxed _ _ _ (fun _ => v)).and (bears_row _ _ _ _ (fun _ => v) _ _)).and ((bears_below (Nat.le_refl _) (by omega)).and (bears_size _ _))) (fun _ => bears_const _ _)
    (bears_const _ _) (bears_const _ _)
    (fun s A B h hg => by subst hg; exact h) (fun _ _ _ _ h _ => h)
    ⟨⟨_, o1, World.ownsRow_nil _ _ _ _⟩, hB0, by omega⟩
    (fun x => { tmps := #[.pointer (some ⟨q, 0, none⟩), .slice (some ⟨g, 0, none⟩) l.length c, undef, undef, .pointer (some ⟨w.heap.size, 0, none⟩), .int .i64 0, pcV x, undef, undef, .slice (some ⟨g, 0, none⟩) l.length c,
      .func (.func 122) #[] #[.pointer (some ⟨w.heap.size + 1, 0, none⟩)], pcV x, undef, undef, undef, undef, undef, undef, undef, undef, undef, undef, undef, undef, undef, undef, undef, undef, undef, undef, undef, undef, undef, undef, undef, undef, undef, undef], defers := [] }) ?assign ?body ?done ?stop
  case assign =>
    intro lp x W K hK
    gi_wp2
    exact hK
  case body =>
    rintro lp pre x W ⟨⟨v, hv, hrow⟩, hB, hz⟩ hlen
    have hc := hv.cell
    have hbd := sumP_bound pre
    have hxs := x.fit
    have hK1 := (KeepC.of_below hB).2
    have hxok : ∀ (j : Nat) u, (u8C x.s)[j]? = some u → W.cell? ((⟨x.b, x.o, none⟩ : Addr).add j) = some u := fun j u hu => by rw [Addr.add_lit]; exact hK1 _ _ _ (x.ok j u hu)
    have hpx : pcV x = .slice (some ⟨x.b, x.o, none⟩) x.s.length x.c := rfl
    rw [hpx]
    obtain ⟨av, cv, rfl, -⟩ := row_form hrow
    gi_wp2_with (gi_at_builtin; refine wpListIn_append_own _ rfl _ _ 107 rfl (w.heap.size + 2) 5 i0 (.int .u8 0) 1 1 Tryz.underlying107 hI hz0 hz1 hz2 rfl (by decide) _ _ _ rfl hrow ⟨x.b, x.o, none⟩ x.s.length x.c (u8C x.s) rfl (by rw [u8C_len]; omega) hxok (u8C_one _) (by unfold maxLen; omega) (by omega) hz ?_; intro v' w1 hown' hgrow _; obtain ⟨a', cap', rfl, -⟩ := row_form hown'; obtain ⟨hv1, hv2, hr2, hk2, hs2, hi2, hb2⟩ := appended0 hv (by decide) hrow hown' hgrow; have hc1 := hv1.cell; have hf1 := hv1.frozen)
    refine ⟨hk2 _, fun i hi ho => hi2 i (by omega) (by omega) ho, ⟨_, hv2, ?_⟩, hB.trans ((hb2 _ hB.size (Nat.le_refl _) (by omega))), by omega⟩
    rw [sumP_snoc, catP_snoc, u8C_app]
    exact hr2
  case done =>
    rintro D xs W hD hT ⟨⟨v, hv, hrow⟩, hB, hz⟩ hK
    have hcc := hv.cell
    have hcw : ∀ i (hi : i < l.length), W.cell? ⟨g, i, none⟩ = some (pcV l[i]) := fun i hi => (KeepC.of_below hB).2 _ _ _ (hc i hi)
    obtain ⟨av, cv, rfl, -⟩ := row_form hrow
    have hbd := sumP_bound l
    gi_wp2
    gi_loopw [5, 17] (fun s t wr => ∃ k : Nat, k ≤ l.length ∧ t = .int .i64 k ∧ s = .int .i64 (sumP (l.take k)) ∧ W = wr) (fun _ t wr => l.length - (intOf t).toNat)
    case atStart => exact ⟨0, Nat.zero_le _, rfl, rfl, rfl⟩
    case round =>
      obtain ⟨k, hk, rfl, rfl, rfl⟩ := hrel
      by_cases hlt : k < l.length
      · have hltz : (k : Int) < (l.length : Int) := by omega
        have hkz : (0 : Int) ≤ (k : Int) := by omega
        have k0 := hcw k hlt
        have hst := sumP_take hlt
        have hsl := sumP_le l (k + 1)
        have hpx : pcV l[k] = .slice (some ⟨l[k].b, l[k].o, none⟩) l[k].s.length l[k].c := rfl
        rw [hpx] at k0
        clear hpx hcw
        generalize l[k].s.length = n1 at *
        generalize l[k].b = xb at *
        generalize l[k].o = xo at *
        generalize l[k].c = xc at *
        generalize hs2 : sumP (l.take (k + 1)) = s2 at *
        generalize sumP (l.take k) = s1 at *
        subst hst
        have hw1 : IntKind.i64.wrap ((s1 : Int) + (n1 : Int)) = ((s1 + n1 : Nat) : Int) := by rw [Int.natCast_add]; exact IntWalk.i64_in _ (by omega)
        gi_wp2
        go_roundw
        case rel => exact ⟨k + 1, by omega, by go_num, by rw [hs2, Int.natCast_add], by trivial⟩
        case measure => simp [intOf]; omega
      · have hltz : ¬ (k : Int) < (l.length : Int) := by omega
        have hkl : k = l.length := by omega
        subst hkl
        rw [List.take_of_length_le (Nat.le_refl _)]
        have hq1 := hq.below hB hql
        have heq : ((sumP xs : Nat) : Int) = ((sumP l : Nat) : Int) ↔ bb = true := by
          rw [← hbb, decide_eq_true_eq]
          constructor
          · intro h
            by_cases hx : sumP l ≤ 1000
            · exact hx
            · exact absurd (by omega) (taken_no hT hx)
          · intro h; rw [taken_all hT h]
        have hsl : ((sumP l : Nat) : Int) ≤ 1000000000 := by omega
        have hrow' : sumP l ≤ 1000 → W.ownsRow (w.heap.size + 2) 5 1 (.slice av (sumP xs) cv) (sumP l) (u8C (catP l)) := fun h => by have e := taken_all hT h; rw [← e]; exact hrow
        have hrowH := Lib.hid hrow'
        have HM := fun g' W' (h1 : Blk W' q #[v0, errF ok] 111) h2 h3 => mustF_any q g' 1 v0 ok [bb] (by simp) W' h1 h2 h3
        clear hcw hc hT hbb hrow'
        generalize sumP xs = nx at *
        have hnx : bb = decide ((nx : Int) = ((sumP l : Nat) : Int)) := by cases bb <;> simp_all
        have hbW : Blk (W.alloc (.cells #[.bool bb] 4)) W.heap.size #[.bool bb] 4 := Blk.new _ _ _
        have HM1 := Lib.hid (HM W.heap.size (W.alloc (.cells #[.bool bb] 4)) (hq1.alloc _) (blk_bools (bs := [bb]) hbW) (by have := hq1.lt; omega))
        clear HM
        cases bb with
        | true =>
          have he : (nx : Int) = ((sumP l : Nat) : Int) := heq.2 rfl
          clear heq hnx hrow hsl hbd hlt hltz hk
          gi_wp2_with fail
          refine ⟨trivial, ?_⟩
          refine (callsIn_wide.2 HM1.out).mono ?_
          rintro e w2 ⟨rfl, hq2, g2⟩
          have hlD := (Array.getElem?_eq_some_iff.1 hK).1
          have gW2 : W.grownBy w2 (some q) := grownBy_t (World.grownBy_alloc W _ _) g2
          have hK2 : w2.heap[D]? = some (.deferred (some [])) := (gW2.block D hlD (by simp; omega)).trans hK
          have hv2 : Boxed w2 w.heap.size 107 (.slice av nx cv) := hv.kept gW2 (by simpa using hqw)
          have hc2 := hv2.cell
          have hf2 := hq2.frozen 0
          have e2 := hq2.cell 0
          simp at e2
          have FIN := Lib.hid (setF_fin v0 (.slice av nx cv) _ hB hD hz0' hK hq2 gW2 hK2 hql)
          clear hB0 hz0'
          gi_wp2_with fail
          obtain ⟨f1, f2, f3⟩ := FIN.out
          refine ⟨by simp, .inl ⟨_, _, rfl, run_takeDeferred f1, ?_⟩⟩
          exact ⟨_, results_none rfl _ _ _, rfl, _, by simpa using f2, fun h => own_base (ownsRow_putObj (own_kept (own_kept (hrowH.out h) gW2 (RowT.blk hq1 _ (by decide))) (grownBy_setCellB w2 q 0 _) (RowT.blk hq2 _ (by decide))) _ f1 rfl) (by omega), f3, _, _, _, rfl⟩
        | false =>
          have he : ((nx : Int) == ((sumP l : Nat) : Int)) = false := by
            cases hx : ((nx : Int) == ((sumP l : Nat) : Int)) with
            | false => rfl
            | true => exact absurd (heq.1 (by simpa using hx)) (by simp)
          clear heq hnx hrow hsl hbd hlt hltz hk
          gi_wp2_with fail
          refine ⟨trivial, ?_⟩
          refine (callsIn_wide.2 HM1.out).mono ?_
          rintro e w2 ⟨rfl, hq2, g2⟩
          have hlD := (Array.getElem?_eq_some_iff.1 hK).1
          have gW2 : W.grownBy w2 (some q) := grownBy_t (World.grownBy_alloc W _ _) g2
          have hK2 : w2.heap[D]? = some (.deferred (some [])) := (gW2.block D hlD (by simp; omega)).trans hK
          have hv2 : Boxed w2 w.heap.size 107 (.slice av nx cv) := hv.kept gW2 (by simpa using hqw)
          have hc2 := hv2.cell
          have hf2 := hq2.frozen 0
          have e2 := hq2.cell 0
          simp at e2
          have FIN := Lib.hid (setF_fin v0 (.slice av nx cv) _ hB hD hz0' hK hq2 gW2 hK2 hql)
          clear hB0 hz0'
          gi_wp2_with fail
          obtain ⟨f1, f2, f3⟩ := FIN.out
          refine ⟨by simp, .inl ⟨_, _, rfl, run_takeDeferred f1, ?_⟩⟩
          exact ⟨_, results_none rfl _ _ _, rfl, _, by simpa using f2, fun h => own_base (ownsRow_putObj (own_kept (own_kept (hrowH.out h) gW2 (RowT.blk hq1 _ (by decide))) (grownBy_setCellB w2 q 0 _) (RowT.blk hq2 _ (by decide))) _ f1 rfl) (by omega), f3, _, _, _, rfl⟩
  case stop =>
    rintro D c pre W _ _ h _
    exact h.elim
end Go.Proofs.YthclfkhakmcnbaaGreatDoor
/- Walks of layer 9: open; splice that does nothing. -/
namespace Go.Proofs.YthclfkhakmcnbaaGreatDoor
open Go.RowKit Go.Shelf
attribute [local go_sem] Oper.semAt_some
/-- bytes at a block's start -/
def At8 (W : World) (g : Nat) (s : List UInt8) : Prop := g < W.heap.size ∧ ∀ (j : Nat) u, (u8C s)[j]? = some u → W.cell? ⟨g, j, none⟩ = some u
theorem At8.keep {W W' : World} {g : Nat} {s : List UInt8} (h : At8 W g s) (hk : KeepC W W') : At8 W' g s := ⟨Nat.lt_of_lt_of_le h.1 hk.1, fun j u hu => hk.2 _ _ _ (h.2 j u hu)⟩
def openFP (w : World) (s : List UInt8) (ok : Bool) (e : Ending) (w' : World) : Prop := ∃ q g, e = .returned (.pointer (some ⟨q, 0, none⟩)) ∧ w.heap.size ≤ q ∧ w.heap.size ≤ g ∧ g ≠ q ∧ Blk w' q #[.slice (some ⟨g, 0, none⟩) s.length s.length, errF ok] 111 ∧ At8 w' g s ∧ Below w.heap.size w w'
theorem byteCells_u8C (s : List UInt8) : Lib.byteCells s = u8C s := rfl
set_option maxRecDepth 100000 in
set_option maxHeartbeats 2000000 in
theorem openF_any (s : List UInt8) (hs : s.length ≤ 1000000) (w : World) :
    Calls Tryz.prog 86 #[.string ⟨s.toArray⟩] w (openFP w s (decide (s.length ≤ 1000))) := by
  have hmk := fun W => run_make_row' (P := Tryz.prog) 107 5 (.int .u8 0) 1 Tryz.underlying107 infoU8 rfl .i64 .i64 s.length (by omega) (by omega) W
  have hz := ba_size s
  have hsz : (madeCells #[.int .u8 0] s.length).size = s.length := size_madeCells _ _
  have n0 : Blk (w.alloc (.cells (madeCells #[.int .u8 0] s.length) 5)) w.heap.size (madeCells #[.int .u8 0] s.length) 5 := Blk.new _ _ _
  generalize madeCells #[.int .u8 0] s.length = mc at *
  have q0 := Blk.new (w.alloc (.cells mc 5)) #[.slice (some ⟨w.heap.size, 0, none⟩) s.length s.length, .nilIface] 111
  rw [World.size_alloc] at q0
  have n1 := n0.alloc (.cells #[.slice (some ⟨w.heap.size, 0, none⟩) s.length s.length, .nilIface] 111)
  have hB2 : Below w.heap.size w ((w.alloc (.cells mc 5)).alloc (.cells #[.slice (some ⟨w.heap.size, 0, none⟩) s.length s.length, .nilIface] 111)) := ((Below.refl _ w).alloc (Nat.le_refl _) _).alloc (by simp) _
  have hcp := Lib.run_copy_row_string (P := Tryz.prog) _ 107 9 3 5 w.heap.size 0 s.length s.length ⟨s.toArray⟩ mc 5 Tryz.underlying107 (by kernel_rfl) n1 (by rw [hz]; exact Nat.le_refl _) (by rw [hz, hsz]; omega)
  have hrow : (List.take 0 mc.toList ++ Lib.byteCells s ++ List.drop (0 + (ByteArray.mk s.toArray).size) mc.toList).toArray = (u8C s).toArray := by
    rw [List.drop_of_length_le (by rw [hz, Array.length_toList, hsz]; omega)]; simp [byteCells_u8C]
  have hcp2 : (Builtin.copy_ #[107, 9] 3 #[.slice (some ⟨w.heap.size, 0, none⟩) s.length s.length, .string ⟨s.toArray⟩]).run Tryz.prog ((w.alloc (.cells mc 5)).alloc (.cells #[.slice (some ⟨w.heap.size, 0, none⟩) s.length s.length, .nilIface] 111)) = .ok (goInt (ByteArray.mk s.toArray).size) (((w.alloc (.cells mc 5)).alloc (.cells #[.slice (some ⟨w.heap.size, 0, none⟩) s.length s.length, .nilIface] 111)).setRow w.heap.size (u8C s).toArray) := by rw [← hrow]; exact hcp
  have n3 : Blk (((w.alloc (.cells mc 5)).alloc (.cells #[.slice (some ⟨w.heap.size, 0, none⟩) s.length s.length, .nilIface] 111)).setRow w.heap.size (u8C s).toArray) w.heap.size (u8C s).toArray 5 := setRow_heap _ _ _ _ _ _ n1
  have q3 : Blk (((w.alloc (.cells mc 5)).alloc (.cells #[.slice (some ⟨w.heap.size, 0, none⟩) s.length s.length, .nilIface] 111)).setRow w.heap.size (u8C s).toArray) (w.heap.size + 1) #[.slice (some ⟨w.heap.size, 0, none⟩) s.length s.length, .nilIface] 111 := (setRow_other _ _ _ _ (by omega)).trans q0
  have hB3 : Below w.heap.size w (((w.alloc (.cells mc 5)).alloc (.cells #[.slice (some ⟨w.heap.size, 0, none⟩) s.length s.length, .nilIface] 111)).setRow w.heap.size (u8C s).toArray) := by
    refine hB2.grown (row := some w.heap.size) ⟨rfl, rfl, rfl, by simp, fun k _ hk => setRow_other _ _ _ _ (fun e => hk (by rw [e]))⟩ (by simp; omega) (fun k e => by cases e; exact Nat.le_refl _)
  have hz3 : (((w.alloc (.cells mc 5)).alloc (.cells #[.slice (some ⟨w.heap.size, 0, none⟩) s.length s.length, .nilIface] 111)).setRow w.heap.size (u8C s).toArray).heap.size = w.heap.size + 1 + 1 := by simp
  have hz3H := Lib.hid hz3
  clear n1 hB2 hcp q0 hrow hz3
  go_enter Tryz.func86, Tryz.ntmps86
  go_wp2_with (at_builtin; refine Lib.wpList_copy_run _ rfl _ _ 107 9 rfl _ _ rfl rfl hcp2 ?_)
  clear hcp2 hmk
  generalize (((w.alloc (.cells mc 5)).alloc (.cells #[.slice (some ⟨w.heap.size, 0, none⟩) s.length s.length, .nilIface] 111)).setRow w.heap.size (u8C s).toArray) = W3 at *
  have n4 := n3.alloc (.cells #[.bool (decide ((s.length : Int) ≤ 1000))] 4)
  have HM := mustF_any (w.heap.size + 1) (w.heap.size + 1 + 1) 1 _ true [decide ((s.length : Int) ≤ 1000)] (by simp) _ (q3.alloc (.cells #[.bool (decide ((s.length : Int) ≤ 1000))] 4)) (blk_bools (bs := [_]) (Blk_at hz3H.out.symm)) (by omega)
  have hB4 := hB3.alloc hB3.size (.cells #[.bool (decide ((s.length : Int) ≤ 1000))] 4)
  refine HM.mono ?_
  rintro e w5 ⟨rfl, q5, g5⟩
  have n5 := n4.kept g5 (by simp)
  have hB5 := hB4.grown g5 hB4.size (fun k e => by cases e; omega)
  have hd : (true && [decide ((s.length : Int) ≤ 1000)].all id) = decide (s.length ≤ 1000) := by simp; omega
  rw [hd] at q5
  clear HM n4 hB4 hB3 n3 q3
  go_wp2_with fail
  go_ret
  exact ⟨_, _, rfl, by omega, Nat.le_refl _, by omega, q5, ⟨n5.lt, fun j u hu => by rw [n5.cell j]; simpa using hu⟩, hB5⟩
set_option maxRecDepth 100000 in
set_option maxHeartbeats 2000000 in
/-- nothing is spliced -/
theorem splice_no (q : Nat) (a : Option Addr) (len cap : Nat) (hlen : len ≤ 1000000) (ok : Bool) (k n : Int) (hn : 0 ≤ n) (t : List UInt8) (w : World) (hq : Blk w q #[.slice a len cap, errF ok] 111) (h : (ok && (decide (0 ≤ k) && decide (k ≤ len))) = false) :
    Calls Tryz.prog 87 #[.pointer (some ⟨q, 0, none⟩), .int .i64 k, .int .i64 n, .string ⟨t.toArray⟩] w fun e w' => e = .returned (.tuple #[]) ∧ Blk w' q #[.slice a len cap, errF false] 111 ∧ w.grownBy w' (some q) := by
  have HI := isOffset_any q a len cap hlen k w ((hq.cell 0).trans rfl)
  generalize (decide (0 ≤ k) && decide (k ≤ len)) = b at *
  have hql := hq.lt
  have b1 : Blk (w.alloc (.cells #[.bool b, .bool true] 4)) w.heap.size #[.bool b, .bool true] 4 := Blk.new _ _ _
  have HM := mustF_any q w.heap.size 2 _ ok [b, true] (by simp) _ (hq.alloc (.cells #[.bool b, .bool true] 4)) (blk_bools (bs := [b, true]) b1) (by omega)
  have hall : (ok && [b, true].all id) = false := by simpa using h
  rw [hall] at HM
  have gA := World.grownBy_alloc w (.cells #[.bool b, .bool true] 4) (some q)
  clear h hall b1
  go_enter Tryz.func87, Tryz.ntmps87
  go_wp2_with fail
  with_reducible refine HI.mono ?_
  rintro e w1 ⟨rfl, rfl⟩
  go_wp2_with fail
  refine HM.mono ?_
  rintro e w2 ⟨rfl, q2, g2⟩
  have e2 : w2.cell? ⟨q, 1, none⟩ = some fwV := (q2.cell 1).trans rfl
  clear HM HI
  go_wp2_with fail
  exact bodyPost_ret (results_none rfl _ _ _) rfl ⟨rfl, q2, grownBy_t gA g2⟩
end Go.Proofs.YthclfkhakmcnbaaGreatDoor
