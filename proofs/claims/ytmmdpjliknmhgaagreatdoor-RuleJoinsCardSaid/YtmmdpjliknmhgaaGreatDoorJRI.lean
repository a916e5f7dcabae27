/- Joined: RuWS; RuP; RuN; RuX; RuS -/
import Derived.Test.YtmmdpjliknmhgaaGreatDoorShelf
import Derived.Test.YtmmdpjliknmhgaaGreatDoorJRC
import Derived.Lib.Builder
import Derived.Lib.AppendStr
import Derived.Test.YtmmdpjliknmhgaaGreatDoorJRH
import Derived.Test.YtmmdpjliknmhgaaGreatDoorJRB
import Derived.Test.YtmmdpjliknmhgaaGreatDoorJRE
import Derived.Test.YtmmdpjliknmhgaaGreatDoorJRG
/- (*strings.Builder).WriteString, walked. -/
namespace Go.Proofs.YtmmdpjliknmhgaaGreatDoor
open Go.RowKit Go.Shelf
attribute [local go_sem] Oper.semAt_some
set_option maxRecDepth 100000 in
set_option maxHeartbeats 1000000 in
theorem copyCheck_used (b : Nat) (w : World) (h0 : w.cell? ⟨b, 0, none⟩ = some (.pointer (some ⟨b, 0, none⟩))) :
    Calls Tryz.prog 39 #[.pointer (some ⟨b, 0, none⟩)] w fun e w' => e = .returned (.tuple #[]) ∧ w' = w := by
  obtain ⟨j, hj, -⟩ := Option.map_eq_some_iff.1 Tryz.Builder_Extra_169.sizeBuilder
  go_enter Tryz.func39, Tryz.ntmps39
  go_wp2_with fail
  rw [Lib.run_neq_ptr_same w _ Tryz.underlying53 hj]
  go_wp2_with fail
  go_end0
  exact ⟨rfl, rfl⟩
set_option maxRecDepth 100000 in
set_option maxHeartbeats 1000000 in
theorem copyCheck_fresh (b : Nat) (w : World) (h0 : w.cell? ⟨b, 0, none⟩ = some (.pointer none)) (hsh : w.shape? b = some (56, 2)) (hfz : w.frozen? ⟨b, 0, none⟩ = false) :
    Calls Tryz.prog 39 #[.pointer (some ⟨b, 0, none⟩)] w fun e w' => e = .returned (.tuple #[]) ∧ w' = w.setCell ⟨b, 0, none⟩ (.pointer (some ⟨b, 0, none⟩)) := by
  obtain ⟨j, hj, hjs⟩ := Option.map_eq_some_iff.1 Tryz.Builder_Extra_169.sizeBuilder
  go_enter Tryz.func39, Tryz.ntmps39
  go_wp2_with fail
  rw [Lib.run_to_unsafe w ⟨b, 0, none⟩ Tryz.underlying53 Tryz.underlying95 hj (by rw [hjs]; decide) hsh (Nat.zero_lt_succ 1)]
  simp only [Result.andThen]
  rw [Oper.upon_value]
  go_wp2_with fail
  rw [run_callFunc_extern Tryz.func62 (by kernel_rfl) (by kernel_rfl) (by kernel_rfl) (e := Extern.AbiNoEscape.same) (by kernel_rfl)]
  rw [Lib.run_noEscape]
  simp only [Result.andThen]
  rw [Oper.upon_value]
  go_wp2_with fail
  rw [Lib.run_from_unsafe w ⟨b, 0, none⟩ Tryz.underlying95 Tryz.underlying53 hj hsh Tryz.Builder_Extra_169.liesBuilder]
  simp only [Result.andThen]
  rw [Oper.upon_value]
  go_wp2_with fail
  go_end0
  exact ⟨rfl, rfl⟩
theorem copyCheck_any (B b : Nat) (bs : List Value) (w : World) (h : Lib.IsBuilder 56 5 B b bs w) :
    Calls Tryz.prog 39 #[.pointer (some ⟨b, 0, none⟩)] w fun e w' => e = .returned (.tuple #[]) ∧ (Lib.BuilderAt 56 5 B b (.pointer (some ⟨b, 0, none⟩)) bs w' ∧ Below B w w') := by
  rcases h with h | h
  · refine (copyCheck_fresh b w h.cell0 h.shape h.frozen0).mono ?_
    rintro e w' ⟨rfl, rfl⟩
    exact ⟨rfl, h.used _, (Below.refl B w).setCell (p := ⟨b, 0, none⟩) h.1 _⟩
  · refine (copyCheck_used b w h.cell0).mono ?_
    rintro e w' ⟨rfl, rfl⟩
    exact ⟨rfl, h, Below.refl B _⟩
set_option maxRecDepth 100000 in
set_option maxHeartbeats 1000000 in
theorem writeString_any (B b : Nat) (bs : List Value) (s : ByteArray) (w : World) (h : Lib.IsBuilder 56 5 B b bs w) (hlen : bs.length + s.size ≤ 140737488355328) (hBw : B ≤ w.heap.size) :
    Calls Tryz.prog 27 #[.pointer (some ⟨b, 0, none⟩), .string s] w fun e w' => e = .returned (.tuple #[.int .i64 s.size, .nilIface]) ∧ (Lib.BuilderAt 56 5 B b (.pointer (some ⟨b, 0, none⟩)) (bs ++ Lib.strCells s) w' ∧ Below B w w') := by
  obtain ⟨i0, hi, hz0, hz1, hz2⟩ := info_parts Tryz.Builder_Extra_169.infoByte
  have HC := copyCheck_any B b bs w h
  go_enter Tryz.func27, Tryz.ntmps27
  go_wp2_with fail
  with_reducible refine HC.mono ?_
  rintro e w1 ⟨rfl, h1, hb1⟩
  obtain ⟨hB, v, hbk, hown, hne⟩ := h1
  have c0 : w1.cell? ⟨b, 0, none⟩ = some (.pointer (some ⟨b, 0, none⟩)) := by rw [Lib.cell_of_heap hbk]; rfl
  have c1 : w1.cell? ⟨b, 1, none⟩ = some v := by rw [Lib.cell_of_heap hbk]; rfl
  go_wp2_with (at_builtin; refine Lib.wpList_append_own_string _ rfl _ _ 54 9 rfl B 5 i0 Tryz.underlying54 Tryz.underlying9 hi hz0 hz1 hz2 _ _ _ rfl hown s rfl ?c3 ?c4 ?c5 ?_)
  case c3 => unfold maxLen; omega
  case c4 => omega
  case c5 => have := hb1.size; omega
  intro v' w2 hown' hgrow _
  have hlt : b < w1.heap.size := by
    rcases Nat.lt_or_ge b w1.heap.size with h' | h'
    · exact h'
    · simp [Array.getElem?_eq_none h'] at hbk
  have hb2 : w2.heap[b]? = some (.cells #[.pointer (some ⟨b, 0, none⟩), v] 56 (0, 0)) := by
    rw [hgrow.block b hlt (fun e => hne e.symm)]
    exact hbk
  have d0 : w2.cell? ⟨b, 0, none⟩ = some (.pointer (some ⟨b, 0, none⟩)) := by rw [Lib.cell_of_heap hb2]; rfl
  have d1 : w2.cell? ⟨b, 1, none⟩ = some v := by rw [Lib.cell_of_heap hb2]; rfl
  have f1 : w2.frozen? ⟨b, 1, none⟩ = false := Lib.frozen_of_heap hb2 1
  obtain ⟨ao, n', cap, rfl⟩ : ∃ ao n' cap, v' = .slice ao n' cap := by
    rcases hown'.2 with ⟨hv, _⟩ | ⟨g, cap, cur, hv, _⟩
    · exact ⟨_, _, _, hv⟩
    · exact ⟨_, _, _, hv⟩
  go_wp2_with fail
  go_ret2
  refine ⟨rfl, ?_, ?_⟩
  · exact Lib.BuilderAt.put (T := 56) (e := 5) hB hb2 (bs' := bs ++ Lib.strCells s) (by simpa [Lib.strCells_length] using hown') (by decide)
  · exact (hb1.grown hgrow (by have := hb1.size; omega) (fun k hk => (hown.lt k hk).1)).setCell (p := ⟨b, 1, none⟩) hB _
theorem bldAt_below {T e : TypeId} {B b : Nat} {p : Value} {bs : List Value} {w w' : World} (h : Lib.BuilderAt T e B b p bs w) (hb : Below w.heap.size w w') : Lib.BuilderAt T e B b p bs w' := by
  obtain ⟨h1, v, h2, h3, h4⟩ := h
  refine ⟨h1, v, ?_, own_kept h3 (grown_of_below hb none) (RowT.none _ _), h4⟩
  rw [hb.block b (by rcases Nat.lt_or_ge b w.heap.size with h' | h'; · exact h'
                     · simp [Array.getElem?_eq_none h'] at h2)]
  exact h2
theorem bld_below {T e : TypeId} {B b : Nat} {bs : List Value} {w w' : World} (h : Lib.IsBuilder T e B b bs w) (hb : Below w.heap.size w w') : Lib.IsBuilder T e B b bs w' := by
  rcases h with h | h
  · exact .inl (bldAt_below h hb)
  · exact .inr (bldAt_below h hb)
end Go.Proofs.YtmmdpjliknmhgaaGreatDoor
/- Walks of layer 14: Print. -/
namespace Go.Proofs.YtmmdpjliknmhgaaGreatDoor
open Go.RowKit Go.Shelf
attribute [local go_sem] Oper.semAt_some
theorem text_len : ∀ (l : List RuT), (∀ r ∈ l, isRX labK filK r = true) → (ruL.text l).length ≤ l.length * 10001
  | [], _ => by simp [LineS.text]
  | r :: l, h => by
    have h1 := text_len l (fun x hx => h x (by simp [hx]))
    have h2 := head_len r (h r (by simp))
    have h3 : (ruL.line r).length = (headX labK filK r).length + 1 := by
      show (lineX labK filK r).length = _
      unfold lineX; simp
    rw [LineS.text_cons, List.length_append, h3, List.length_cons, Nat.add_mul]; omega
theorem text_take_succ (l : List RuT) (k : Nat) (hk : k < l.length) : ruL.text (l.take (k + 1)) = ruL.text (l.take k) ++ lineX labK filK l[k] := by
  rw [List.take_succ_eq_append_getElem hk, LineS.text_app]
  congr 1
  show ruL.text [l[k]] = ruL.line l[k]
  simp [LineS.text]
set_option maxRecDepth 100000 in
set_option maxHeartbeats 4000000 in
theorem ruPrint_any (l : List RuT) (hl : l.length ≤ 1000000) (hok : ∀ r ∈ l, OkR r) (v : Value) (ea : Addr) (w : World) (hge : w.cell? ⟨1, 0, none⟩ = some (eV ea)) (hT : Tab w) (hET : ErrT w) (hv : RulesV w v l) :
    Calls Tryz.prog 11 #[v] w fun e w' => e = .returned (.tuple #[.string ⟨(ruL.pT l).toArray⟩, .int .i64 (ruL.pE l)]) ∧ Below w.heap.size w w' := by
  have HR := ruRight_any l hl hok v ea w hge hv
  obtain ⟨a, cap, rfl, -, hc⟩ := hv.at
  have hpt : ruL.pT l = if ruL.right l then ruL.text l else [] := rfl
  have hpe : ruL.pE l = if ruL.right l then 0 else 140 := rfl
  have hTl := hT.lt
  cases hR : ruL.right l with
  | false =>
    rw [hR] at hpt hpe HR
    simp only [Bool.false_eq_true, if_false] at hpt hpe
    rw [hpt, hpe]
    have HT := fun W (h : KeepC w W) => ruTold_any 0 .nilIface rfl W (h.2 _ _ _ hET)
    clear hpt hpe hR hc hv
    go_enter Tryz.func11, Tryz.ntmps11
    go_wp2_with fail
    with_reducible refine HR.mono ?_
    rintro e w1 ⟨rfl, b1⟩
    have HT1 := HT w1 (KeepC.of_below b1)
    clear HT HR hge hET hT hTl
    go_wp2_with fail
    with_reducible refine HT1.mono ?_
    rintro e w2 ⟨rfl, b2⟩
    go_wp2_with fail
    go_ret2
    exact ⟨rfl, b1.trans (b2.mono b1.size)⟩
  | true =>
    rw [hR] at hpt hpe HR
    simp only [if_true] at hpt hpe
    rw [hpt, hpe]
    have hris := LineS.right_isR ruL hR
    have hl8 : l.length ≤ 8 := by
      unfold LineS.right at hR
      simp only [Bool.and_eq_true, decide_eq_true_eq] at hR
      exact hR.2
    have HL := fun r (hr : r ∈ l) W (h : Below w.heap.size w W) => line_any r (hok r hr) (hris r hr) ea W ((KeepC.of_below h).2 _ _ _ hge) (hT.same (h.block _ hTl))
    have hlen := fun k => Nat.le_trans (text_len (l.take k) (fun r hr => hris r (List.mem_of_mem_take hr))) (Nat.mul_le_mul_right 10001 (show (l.take k).length ≤ 8 by rw [List.length_take]; omega))
    have hst := Lib.hid (text_take_succ l)
    have hend : Hid (ruL.text (l.take l.length) = ruL.text l) := by show _ = _; rw [List.take_length]
    clear hpt hpe hR hv hge hET hT hok hris
    have ht0 : ruL.text (l.take 0) = [] := rfl
    generalize ruL.text l = TX at *
    obtain ⟨tx, htx⟩ : ∃ tx : Nat → List UInt8, tx = fun k => ruL.text (l.take k) := ⟨_, rfl⟩
    have e1 : ∀ k, ruL.text (l.take k) = tx k := fun k => by rw [htx]
    simp only [e1] at hst hend hlen ht0
    clear e1 htx
    go_enter Tryz.func11, Tryz.ntmps11
    go_wp2_with fail
    with_reducible refine HR.mono ?_
    rintro e w1 ⟨rfl, b1⟩
    have B0 := b1.alloc b1.size (.cells #[.pointer none, .slice none 0 0] 56)
    have I0 := Lib.fresh_isBuilder 56 5 w1
    clear HR
    go_wp2_with fail
    have hb0 : w.heap.size ≤ w1.heap.size := b1.size
    generalize w1.alloc (.cells #[.pointer none, .slice none 0 0] 56) = W0 at *
    generalize w1.heap.size = b0 at *
    clear b1
    go_loopg [21] l.length (fun gg s8 wr => ∃ kk : Nat, kk ≤ l.length ∧ l.length - kk ≤ gg ∧ s8 = .int .i64 kk ∧ Below w.heap.size w wr ∧ b0 ≤ wr.heap.size ∧ Hid (Lib.IsBuilder 56 5 b0 b0 (Lib.byteCells (tx kk)) wr))
    case atStart => exact ⟨0, Nat.zero_le _, by omega, rfl, B0, Nat.le_of_lt (by rcases I0 with h | h <;> exact h.lt), by show Lib.IsBuilder _ _ _ _ _ _; rw [ht0]; exact I0⟩
    case round =>
      obtain ⟨kk, hkk, hg, rfl, hB, hbr, hI⟩ := hrel
      by_cases hlt : kk < l.length
      · have hltz : (kk : Int) < (l.length : Int) := by omega
        have hkz : (0 : Int) ≤ (kk : Int) := by omega
        obtain ⟨b, o, rfl, -, hcl⟩ := hc kk hlt
        obtain ⟨k0, k1, k2, k3, k4, k5, k6, k7, k8, k9, k10⟩ := hcl _ (KeepC.of_below hB)
        have HLx := HL l[kk] (List.getElem_mem hlt)
        have hstk := hst.out kk hlt
        have hlk := hlen (kk + 1)
        rw [hstk, List.length_append] at hlk
        have hsz := ba_size (lineX labK filK l[kk])
        clear hc hcl hst hend HL hlen ht0
        generalize lineX labK filK l[kk] = LX at *
        have hstH := Lib.hid hstk
        clear hstk
        obtain ⟨x, hx⟩ : ∃ x, l[kk] = x := ⟨_, rfl⟩
        rw [hx] at k0 k1 k2 k3 k4 k5 k6 k7 k8 k9 k10 
        simp only [hx] at HLx
        clear hx
        obtain ⟨id, ⟨l1, S1, i1⟩, ⟨l2, S2, i2⟩, bu, ⟨k, m, form⟩⟩ := x
        dsimp only at *
        have r1 := Blk.new wr #[.int .i64 id, .int .i64 l1, .int .u64 S1, .int .i64 i1, .int .i64 l2, .int .u64 S2, .int .i64 i2, .int .i64 bu, .int .i64 k, .int .i64 m, .string ⟨form.toArray⟩] 40
        obtain ⟨W1, hW1⟩ : ∃ W1, wr.alloc (.cells #[.int .i64 id, .int .i64 l1, .int .u64 S1, .int .i64 i1, .int .i64 l2, .int .u64 S2, .int .i64 i2, .int .i64 bu, .int .i64 k, .int .i64 m, .string ⟨form.toArray⟩] 40) = W1 := ⟨_, rfl⟩
        rw [hW1] at r1
        have bW : Below wr.heap.size wr W1 := hW1 ▸ (Below.refl _ wr).alloc (Nat.le_refl _) _
        have B1 : Below w.heap.size w W1 := hB.trans (bW.mono hB.size)
        have HLy := HLx W1 B1
        have c0 : W1.cell? ⟨wr.heap.size, 0, none⟩ = some (.int .i64 id) := (r1.cell 0).trans rfl
        have c1 : W1.cell? ⟨wr.heap.size, 1, none⟩ = some (.int .i64 l1) := (r1.cell 1).trans rfl
        have c2 : W1.cell? ⟨wr.heap.size, 2, none⟩ = some (.int .u64 S1) := (r1.cell 2).trans rfl
        have c3 : W1.cell? ⟨wr.heap.size, 3, none⟩ = some (.int .i64 i1) := (r1.cell 3).trans rfl
        have c4 : W1.cell? ⟨wr.heap.size, 4, none⟩ = some (.int .i64 l2) := (r1.cell 4).trans rfl
        have c5 : W1.cell? ⟨wr.heap.size, 5, none⟩ = some (.int .u64 S2) := (r1.cell 5).trans rfl
        have c6 : W1.cell? ⟨wr.heap.size, 6, none⟩ = some (.int .i64 i2) := (r1.cell 6).trans rfl
        have c7 : W1.cell? ⟨wr.heap.size, 7, none⟩ = some (.int .i64 bu) := (r1.cell 7).trans rfl
        have c8 : W1.cell? ⟨wr.heap.size, 8, none⟩ = some (.int .i64 k) := (r1.cell 8).trans rfl
        have c9 : W1.cell? ⟨wr.heap.size, 9, none⟩ = some (.int .i64 m) := (r1.cell 9).trans rfl
        have c10 : W1.cell? ⟨wr.heap.size, 10, none⟩ = some (.string ⟨form.toArray⟩) := (r1.cell 10).trans rfl
        clear HLx r1
        go_wp2_with fail
        with_reducible refine HLy.mono ?_
        rintro e w2 ⟨rfl, b2⟩
        have I2 := bld_below (bld_below hI.out bW) b2
        have B2 := B1.trans (b2.mono B1.size)
        have hb2 : b0 ≤ w2.heap.size := Nat.le_trans (Nat.le_trans hbr bW.size) b2.size
        have HW := writeString_any b0 b0 _ ⟨LX.toArray⟩ w2 I2 (by rw [Lib.byteCells_length, hsz]; omega) hb2
        clear HLy c0 c1 c2 c3 c4 c5 c6 c7 c8 c9 c10 k0 k1 k2 k3 k4 k5 k6 k7 k8 k9 k10 hI I2
        go_wp2_with fail
        with_reducible refine HW.mono ?_
        rintro e w3 ⟨rfl, I3, b3⟩
        have I3H : Hid (Lib.IsBuilder 56 5 b0 b0 (Lib.byteCells (tx (kk + 1))) w3) := by
          show Lib.IsBuilder _ _ _ _ _ _
          rw [hstH.out, Lib.byteCells_append]
          exact .inr I3
        clear HW I3
        go_wp2_with fail
        go_roundg (l.length - (kk + 1))
        case measure => omega
        case rel => exact ⟨kk + 1, by omega, by omega, by go_num, B2.trans (b3.mono hb0), Nat.le_trans hb2 b3.size, by assumption⟩
      · have hltz : ¬ (kk : Int) < (l.length : Int) := by omega
        have hkl : kk = l.length := by omega
        subst hkl
        have I2 := hI.out
        rw [hend.out] at I2
        have HS := Tryz.Builder_String_any b0 b0 TX wr I2 hbr
        clear hc hst hend HL hlen ht0 hI I2
        go_wp2_with fail
        with_reducible refine HS.mono ?_
        rintro e w2 ⟨rfl, b2⟩
        go_wp2_with fail
        go_ret2
        exact ⟨rfl, hB.trans (b2.mono hb0)⟩
end Go.Proofs.YtmmdpjliknmhgaaGreatDoor
/- Walks of layer 14: a number's digits read. -/
namespace Go.Proofs.YtmmdpjliknmhgaaGreatDoor
open Go.RowKit
set_option maxHeartbeats 1000000 in
theorem ruNumber_any (l : List UInt8) (w : World) :
    Calls Tryz.prog 75 #[.string ⟨l.toArray⟩] w fun e w' => e = .returned (.int .i64 (numW 1000 0 l)) ∧ Below w.heap.size w w' := by
  go_enter Tryz.func75, Tryz.ntmps75
  go_wp2
  go_loopw [3] (fun t wr => ∃ pos n : Nat, pos ≤ l.length ∧ n ≤ 10009 ∧ t = .int .i64 n ∧ wr = w.iter ⟨l.toArray⟩ pos ∧ Hid (numW 1000 0 l = numW 1000 (n : Int) (l.drop pos))) (fun _ wr => l.length - wr.iterPos w.heap.size)
  case atStart => exact ⟨0, 0, Nat.zero_le _, by omega, rfl, rfl, rfl⟩
  case round =>
    obtain ⟨pos, n, hp, hn, rfl, rfl, hnum⟩ := hrel
    by_cases hlt : pos < l.length
    · have hs : pos < (ByteArray.mk l.toArray).size := by rw [ba_size]; exact hlt
      by_cases ha : l[pos].toNat < 128
      · have hN := fun ty => run_next_ascii (P := Tryz.prog) w ⟨l.toArray⟩ pos ty hs (by rw [ba_get]; exact ha)
        rw [ba_get] at hN
        have HF : Hid (numW 1000 0 l = if (l[pos].toNat : Int) < 48 ∨ 57 < (l[pos].toNat : Int) ∨ 1000 < (n : Int) then -1 else numW 1000 ((n : Int) * 10 + ((l[pos].toNat : Int) - 48)) (l.drop (pos + 1))) := by
          show numW 1000 0 l = _
          rw [hnum.out, drop_cons l pos hlt]; rfl
        clear hnum
        generalize l[pos] = c at *
        by_cases h1 : (c.toNat : Int) < 48
        · have HX : Hid (numW 1000 0 l = -1) := by show _ = _; rw [HF.out, if_pos (.inl h1)]
          clear HF
          go_wp2
          go_ret
          exact ⟨ret_int HX.out.symm, iter_below _ _ _⟩
        · by_cases h2 : 57 < (c.toNat : Int)
          · have HX : Hid (numW 1000 0 l = -1) := by show _ = _; rw [HF.out, if_pos (.inr (.inl h2))]
            clear HF
            go_wp2
            go_ret
            exact ⟨ret_int HX.out.symm, iter_below _ _ _⟩
          · by_cases h3 : 1000 < (n : Int)
            · have HX : Hid (numW 1000 0 l = -1) := by show _ = _; rw [HF.out, if_pos (.inr (.inr h3))]
              clear HF
              go_wp2
              go_ret
              exact ⟨ret_int HX.out.symm, iter_below _ _ _⟩
            · have HX : Hid (numW 1000 0 l = numW 1000 ((n * 10 + (c.toNat - 48) : Nat) : Int) (l.drop (pos + 1))) := by
                show _ = _
                rw [HF.out, if_neg (by omega)]
                congr 1; omega
              clear HF
              go_wp2
              go_roundw
              case rel => exact ⟨pos + 1, n * 10 + (c.toNat - 48), by omega, by omega, by go_num, rfl, HX⟩
              case measure => simp; omega
      · have hN := fun ty => run_next_any (P := Tryz.prog) w ⟨l.toArray⟩ pos ty hs
        have hd := decode_high ⟨l.toArray⟩ pos hs (by rw [ba_get]; omega)
        generalize Utf8.decode ⟨l.toArray⟩ pos = d at hN hd
        obtain ⟨d1, d2⟩ := d
        have hd1 : (57 : Int) < (d1 : Int) := by have := hd.1; simp at this; omega
        have hd0 : ¬ (d1 : Int) < 48 := by omega
        have HX : Hid (numW 1000 0 l = -1) := by
          show numW 1000 0 l = -1
          rw [hnum.out, drop_cons l pos hlt, numW, if_pos (by omega)]
        clear hnum hd
        simp only at hN
        go_wp2
        go_ret
        exact ⟨ret_int HX.out.symm, iter_below _ _ _⟩
    · have hN := fun ty => run_next_end (P := Tryz.prog) w ⟨l.toArray⟩ pos ty (by rw [ba_size]; exact hlt)
      have HX : Hid (numW 1000 0 l = n) := by show _ = _; rw [hnum.out, List.drop_of_length_le (by omega)]; rfl
      clear hnum
      go_wp2
      go_ret
      exact ⟨ret_int HX.out.symm, iter_below _ _ _⟩
end Go.Proofs.YtmmdpjliknmhgaaGreatDoor
/- Walks of layer 14: next. -/
namespace Go.Proofs.YtmmdpjliknmhgaaGreatDoor
open Go.RowKit Go.Shelf
attribute [local go_sem] Oper.semAt_some
theorem cutN_cutL : ∀ (s : List UInt8), cutN s = cutL 10 s
  | [] => rfl
  | c :: s => by
    rw [cutN, cutL, cutN_cutL s]
set_option maxRecDepth 100000 in
set_option maxHeartbeats 2000000 in
theorem next_any (q : Nat) (s : List UInt8) (hs : s.length ≤ 1000000) (rv ev : Value) (w : World) (hq : Blk w q #[.string ⟨s.toArray⟩, rv, ev] 65) :
    Calls Tryz.prog 48 #[.pointer (some ⟨q, 0, none⟩)] w fun e w' => e = .returned (.tuple #[.string ⟨(cutN s).1.toArray⟩, .bool (cutN s).2.2]) ∧ Blk w' q #[.string ⟨(cutN s).2.1.toArray⟩, rv, ev] 65 ∧ w.grownBy w' (some q) := by
  have HC := fun W => cut_any 10 s hs W
  rw [← cutN_cutL] at HC
  have q0 : w.cell? ⟨q, 0, none⟩ = some (.string ⟨s.toArray⟩) := (hq.cell 0).trans rfl
  go_enter Tryz.func48, Tryz.ntmps48
  go_wp2_with fail
  with_reducible refine (HC _).mono ?_
  rintro e w1 ⟨rfl, n, rfl⟩
  have b1 : Below w.heap.size w (w.drewN n) := below_drewN (Below.refl _ _) n
  have q1 := hq.below b1 hq.lt
  generalize w.drewN n = w1 at *
  have f0 := q1.frozen 0
  have x0 : w1.cell? ⟨q, 0, none⟩ = some (.string ⟨s.toArray⟩) := (q1.cell 0).trans rfl
  clear HC q0
  go_wp2_with fail
  go_ret2
  exact ⟨rfl, by simpa using q1.set 0 (.string ⟨(cutN s).2.1.toArray⟩), grownBy_t (grown_of_below b1 _) (grownBy_setCellB w1 q 0 _)⟩
end Go.Proofs.YtmmdpjliknmhgaaGreatDoor
/- Walks of layer 14: a line's words. -/
namespace Go.Proofs.YtmmdpjliknmhgaaGreatDoor
open Go.RowKit Go.Shelf
attribute [local go_sem] Oper.semAt_some
theorem split_any (s : List UInt8) (hs : s.length ≤ 1000000) (m : Int) (w : World) (hm : w.cell? ⟨3, 0, none⟩ = some (.int .i64 m)) :
    Calls Tryz.prog 74 #[.string ⟨s.toArray⟩, .string ⟨#[32]⟩, .int .i64 6] w fun e w' => ∃ b c, e = .returned (.slice (some ⟨b, 0, none⟩) (splitW 5 s).length c) ∧ w.heap.size ≤ b ∧ (∀ j (hj : j < (splitW 5 s).length), w'.cell? ⟨b, j, none⟩ = some (.string ⟨(splitW 5 s)[j].toArray⟩)) ∧ Below w.heap.size w w' := by
  have hz := ba_size s
  have H := Tryz.strings_SplitN ⟨s.toArray⟩ ⟨#[32]⟩ 6 m w (by rw [hz]; omega) hm (by decide) (by decide) (by decide)
  have hW := splitB_W s 5
  generalize hxs : Lib.splitB ⟨#[32]⟩ 0 (min 6 ((⟨s.toArray⟩ : ByteArray).size + 1) - 1) ⟨s.toArray⟩ = xs at *
  have hlen : xs.length = (splitW 5 s).length := by rw [← hW, List.length_map]
  refine H.mono ?_
  rintro e w' ⟨rfl, rfl⟩
  refine ⟨w.heap.size, _, by rw [hlen], Nat.le_refl _, fun j hj => ?_, (Below.refl _ w).alloc (Nat.le_refl _) _⟩
  have hj' : j < xs.length := by omega
  have e1 : xs[j].data.toList = (splitW 5 s)[j] := by
    have : (xs.map (·.data.toList))[j]'(by simpa using hj') = (splitW 5 s)[j] := by simp only [hW]
    simpa using this
  have e2 : xs[j] = ⟨(splitW 5 s)[j].toArray⟩ := by
    rw [← e1]
  rw [(Blk.new w _ _).cell j]
  unfold Lib.cellsOf
  rw [List.getElem?_toArray, List.getElem?_append_left (by simpa using hj'), List.getElem?_map, List.getElem?_eq_getElem hj', e2]
  rfl
/-- fewer than six words are no rule -/
theorem readX_short {s : List UInt8} (h : (splitW 5 s).length < 6) : readX labK filK 1000 s = none := by
  unfold readX
  split
  · rename_i e
    rw [e] at h
    simp at h
  · rfl
theorem split_six {s : List UInt8} (h : ¬ (splitW 5 s).length < 6) : ∃ w0 w1 w2 w3 w4 w5, splitW 5 s = [w0, w1, w2, w3, w4, w5] := by
  have hl := splitW_len 5 s
  generalize splitW 5 s = l at *
  match l, h, hl with
  | [a, b, c, d, e, f], _, _ => exact ⟨_, _, _, _, _, _, rfl⟩
  | [], h, _ => simp at h
  | [_], h, _ => simp at h
  | [_, _], h, _ => simp at h
  | [_, _, _], h, _ => simp at h
  | [_, _, _, _], h, _ => simp at h
  | [_, _, _, _, _], h, _ => simp at h
  | _ :: _ :: _ :: _ :: _ :: _ :: _ :: _, _, hl => simp at hl
theorem splitW_le : ∀ (k : Nat) (s : List UInt8), ∀ x ∈ splitW k s, x.length ≤ s.length
  | 0, s, x, h => by simp only [splitW, List.mem_singleton] at h; subst h; exact Nat.le_refl _
  | k + 1, s, x, h => by
    rw [splitW] at h
    rcases index_cut s with ⟨h1, -⟩ | ⟨a, r, h1, -, h3⟩
    · rw [h1] at h
      simp only [List.mem_singleton] at h; subst h; exact Nat.le_refl _
    · rw [h1] at h
      have hl := congrArg List.length h3
      rw [List.length_append, List.length_cons] at hl
      simp only [List.mem_cons] at h
      rcases h with rfl | h
      · omega
      · have := splitW_le k r x h; omega
theorem readX_six {s w0 w1 w2 w3 w4 w5 : List UInt8} (h : splitW 5 s = [w0, w1, w2, w3, w4, w5]) : readX labK filK 1000 s = if isRX labK filK ⟨numW 1000 0 w1, parL w2, parL w3, numW 1000 0 w4, (parK w5, parM w5, parF w5)⟩ && (lineX labK filK ⟨numW 1000 0 w1, parL w2, parL w3, numW 1000 0 w4, (parK w5, parM w5, parF w5)⟩ == s ++ [10]) then some ⟨numW 1000 0 w1, parL w2, parL w3, numW 1000 0 w4, (parK w5, parM w5, parF w5)⟩ else none := by
  unfold readX
  rw [h]
  rfl
theorem parL_lt (s : List UInt8) : (parL s).2.1 < 18446744073709551616 := by
  unfold parL
  rcases h : ptext s with ⟨_ | ⟨lv, S, ig⟩, r⟩
  · show (0 : Nat) < _; omega
  · exact (ptext_back h).2.2.2.2.2.2
end Go.Proofs.YtmmdpjliknmhgaaGreatDoor
