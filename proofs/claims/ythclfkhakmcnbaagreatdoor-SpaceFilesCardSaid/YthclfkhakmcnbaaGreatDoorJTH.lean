/- Joined: Err; EdD; Make -/
import Derived.Test.YthclfkhakmcnbaaGreatDoorJTA
import Derived.LaidEql
import Derived.Stop.Asserts
import Derived.RowKitTokens
import Derived.Test.YthclfkhakmcnbaaGreatDoorJTG
import Derived.Lib.Bytealg
/- errors.Is at a sentinel of errors.New's make, and at nil. (Turned from the worked Sentry texts.) -/
namespace Go.Proofs.YthclfkhakmcnbaaGreatDoor
open Go.RowKit Go.Extern.Stop Go.Stop Go.Extern
/-- The error's value: a pointer to what errors.New made. -/
abbrev eV (a : Addr) : Value := .iface 174 (.pointer (some a))
theorem is_typeOf (v : Value) (w : World) : (callFunc 123 #[.iface 174 v]).run Tryz.prog w = .ok (.value (.iface 159 (.agg #[.pointer (some ⟨5, 174, none⟩)]))) w := by kernel_rfl
theorem is_comparable (w : World) : (callFunc 158 #[.agg #[.pointer (some ⟨5, 174, none⟩)]]).run Tryz.prog w = .ok (.value (.bool true)) w := by kernel_rfl
theorem is_methodComparable (v : Value) (w : World) : (Go.method 307 159 v "Comparable").run Tryz.prog w = .ok (158, v) w := by kernel_rfl
theorem is_comp : (Tryz.prog.info? 174).map (·.comparable) = some true := by kernel_rfl
theorem is_size : (Tryz.prog.info? 195).map (·.size) = some 1 := by kernel_rfl
set_option maxRecDepth 100000 in
set_option maxHeartbeats 1000000 in
theorem is_same (a : Addr) (w : World) :
    Calls Tryz.prog 112 #[eV a, eV a] w fun e w' => e = .returned (.bool true) ∧ w = w' := by
  obtain ⟨i, hi, hcmp⟩ := Option.map_eq_some_iff.1 is_comp
  obtain ⟨j, hj, hjs⟩ := Option.map_eq_some_iff.1 is_size
  have tT := is_typeOf
  have cT := is_comparable
  have mR := is_methodComparable
  have heq := run_eql_iface_ptr_same (P := Tryz.prog) w a Tryz.underlying69 Tryz.underlying174 hi hcmp hj
  go_enter Tryz.func112, Tryz.ntmps112
  go_wp2
  refine wp_loop_rounds 1 ?_
  rw [rounds_succ]
  go_wp2
  go_ret
  exact ⟨rfl, rfl⟩
theorem is_nil (b : Addr) (w : World) :
    Calls Tryz.prog 112 #[.nilIface, eV b] w fun e w' => e = .returned (.bool false) ∧ w = w' := by
  have hn := run_eql_iface_nil_left (P := Tryz.prog) w 174 (.pointer (some b)) Tryz.underlying69
  go_enter Tryz.func112, Tryz.ntmps112
  go_wp2
  go_ret
  exact ⟨rfl, rfl⟩
end Go.Proofs.YthclfkhakmcnbaaGreatDoor
/- Walks of layer 10: where a name would be put; an insertion; a new ring. -/
namespace Go.Proofs.YthclfkhakmcnbaaGreatDoor
open Go.RowKit Go.Shelf
attribute [local go_sem] Oper.semAt_some
theorem compare_eq : ∀ (a b : List UInt8), Lib.compareBytes a b = cmpS a b
  | [], [] => by simp [Lib.compareBytes, cmpS, Op.bytesLess]
  | [], _ :: _ => by simp [Lib.compareBytes, cmpS, Op.bytesLess]
  | _ :: _, [] => by simp [Lib.compareBytes, cmpS, Op.bytesLess]
  | x :: a, y :: b => by
    have ih := compare_eq a b
    unfold Lib.compareBytes
    rw [ih]
    unfold cmpS
    simp only [Op.bytesLess, UInt8.lt_iff_toNat_lt]
    rcases Nat.lt_trichotomy x.toNat y.toNat with h | h | h
    · simp [h]
    · have e : x = y := UInt8.toNat_inj.1 h
      subst e
      simp
    · have h1 : ¬ x.toNat < y.toNat := by omega
      have h2 : ¬ x = y := fun e => by subst e; omega
      have h3 : ¬ y = x := fun e => h2 e.symm
      simp [h, h1, h2, h3]
set_option maxRecDepth 100000 in
theorem compare_any (a b : List UInt8) (w : World) : Calls Tryz.prog 63 #[.string ⟨a.toArray⟩, .string ⟨b.toArray⟩] w fun e w' => e = .returned (.int .i64 (cmpS a b)) ∧ w = w' := by
  have hc := @run_callFunc_extern Tryz.prog 113 _ Extern.BytealgCompare.compare Tryz.func113 (by kernel_rfl) (by kernel_rfl) (by kernel_rfl) (by kernel_rfl)
  have hr : ∀ w, (Extern.BytealgCompare.compare #[.string ⟨a.toArray⟩, .string ⟨b.toArray⟩]).run Tryz.prog w = .ok (.int .i64 (cmpS a b)) w := fun w => by
    rw [Lib.run_compareString]; simp [compare_eq]
  go_enter Tryz.func63, Tryz.ntmps63
  go_wp2
  go_ret
  exact ⟨rfl, rfl⟩
set_option maxRecDepth 100000 in
set_option maxHeartbeats 2000000 in
theorem make1_any (x : ObjD) (lv : Value) (n : List UInt8) (w : World) :
    Calls Tryz.prog 62 #[objV x lv, .string ⟨n.toArray⟩] w fun e w' => e = .returned (.int .i64 (cmpS x.name n)) ∧ Below w.heap.size w w' := by
  obtain ⟨n1, p1, d1, m1, i1⟩ := x
  have hB := (Below.refl _ w).alloc (Nat.le_refl _) (.cells #[.string ⟨n1.toArray⟩, .int .i64 p1, .string ⟨d1.toArray⟩, .int .i64 m1, lv] 48)
  have HC := fun W => compare_any n1 n W
  generalize hR : cmpS n1 n = R at *
  clear hR
  go_enter Tryz.func62, Tryz.ntmps62
  go_wp2_with fail
  with_reducible refine (HC _).mono ?_
  rintro e w1 ⟨rfl, rfl⟩
  go_wp2_with fail
  go_ret
  exact ⟨rfl, hB⟩
theorem there_in {l : List ObjD} {n : List UInt8} (h : posS l n < l.length) : thereS l n = (cmpS l[posS l n].name n == 0) := by unfold thereS; rw [List.getElem?_eq_getElem h]
theorem there_out {l : List ObjD} {n : List UInt8} (h : ¬ posS l n < l.length) : thereS l n = false := by unfold thereS; rw [List.getElem?_eq_none (by omega)]
set_option maxRecDepth 100000 in
set_option maxHeartbeats 4000000 in
theorem bsearchO_any (l : List ObjD) (hlm : l.length ≤ 1000000) (hs : SrtS l) (v : Value) (n : List UInt8) (w : World) (hv : ObjsV w v l) :
    Calls Tryz.prog 61 #[v, .string ⟨n.toArray⟩, .func (.func 62) #[] #[]] w fun e w' => e = .returned (.tuple #[.int .i64 (posS l n), .bool (thereS l n)]) ∧ Below w.heap.size w w' := by
  obtain ⟨ao, cap, rfl, hc⟩ := hv.at
  have hle := pos_le l n
  have hat : Hid (∀ i (hi : i < l.length), cmpS l[i].name n < 0 ↔ i < posS l n) := fun i hi => by rw [cmpS_neg]; exact pos_at n hs i hi
  have hin := Lib.hid (fun h => there_in (l := l) (n := n) h)
  have hout := Lib.hid (fun h => there_out (l := l) (n := n) h)
  have eg : ∀ args w, (callFunc 62 args).run Tryz.prog w = .ok (.enter 62 args) w := enters_of Tryz.func62 (by kernel_rfl) rfl
  generalize hF : thereS l n = F at *
  generalize posS l n = N at *
  clear hv hF
  go_enter Tryz.func61, Tryz.ntmps61
  go_wp2_with fail
  go_loopg [9, 10] l.length (fun gg s9 s10 wr => ∃ lo hi : Nat, s9 = .int .i64 lo ∧ s10 = .int .i64 hi ∧ lo ≤ hi ∧ hi ≤ l.length ∧ hi - lo ≤ gg ∧ Below w.heap.size w wr ∧ Hid (lo ≤ N ∧ N ≤ hi))
  case atStart => exact ⟨0, l.length, rfl, rfl, Nat.zero_le _, Nat.le_refl _, by omega, Below.refl _ _, ⟨Nat.zero_le _, hle⟩⟩
  case round =>
    obtain ⟨lo, hi, rfl, rfl, hlh, hhi, hg, HB, HN⟩ := hrel
    by_cases hlt : lo < hi
    · have hmid : (lo + hi) / 2 < l.length := by omega
      obtain ⟨b, o, lv, rfl, hb, hlv, k0, k1, k2, k3, k4⟩ := hc _ hmid
      have hBk := KeepC.of_below HB
      replace k0 := hBk.2 _ _ _ k0
      replace k1 := hBk.2 _ _ _ k1
      replace k2 := hBk.2 _ _ _ k2
      replace k3 := hBk.2 _ _ _ k3
      replace k4 := hBk.2 _ _ _ k4
      have hltz : (lo : Int) < (hi : Int) := by omega
      have hatm := hat.out _ hmid
      have H2 := fun W => make1_any l[(lo + hi) / 2] lv n W
      obtain ⟨a4, c4, rfl, -⟩ := hlv.at
      have hlen : ((l.length : Nat) : Int) ≤ 1000000 := by omega
      clear hc hlv hBk hin hout
      generalize l[(lo + hi) / 2].items.length = il at *
      obtain ⟨x, hx⟩ : ∃ x, l[(lo + hi) / 2] = x := ⟨_, rfl⟩
      rw [hx] at k0 k1 k2 k3 hatm
      simp only [hx] at H2
      clear hx
      obtain ⟨m, hm⟩ : ∃ m, (lo + hi) / 2 = m := ⟨_, rfl⟩
      have hmz : ((lo : Int) + (hi : Int)) / 2 = (m : Int) := by omega
      rw [hm] at k0 k1 k2 k3 k4 hatm hmid
      have hm2 : lo ≤ m ∧ m < hi := by omega
      clear hm
      have hmz1 : (0 : Int) ≤ (m : Int) := by omega
      have hmz2 : (m : Int) < (l.length : Int) := by omega
      obtain ⟨n1, p1, d1, m1, i1⟩ := x
      dsimp only at *
      generalize cmpS n1 n = R at *
      by_cases hR : R < 0
      · have hRb : decide (R < 0) = true := by simpa using hR
        go_wp2_with (go_at_fn 62; refine (H2 _).mono ?_; rintro e w2 ⟨rfl, hb2⟩)
        go_roundg (hi - (m + 1))
        case measure => omega
        case rel => exact ⟨m + 1, hi, by go_num, rfl, by omega, hhi, Nat.le_refl _, HB.trans (hb2.mono HB.size), by have := HN.out; have := hatm.1 hR; exact ⟨by omega, by omega⟩⟩
      · have hRb : decide (R < 0) = false := by simpa using hR
        go_wp2_with (go_at_fn 62; refine (H2 _).mono ?_; rintro e w2 ⟨rfl, hb2⟩)
        go_roundg (m - lo)
        case measure => omega
        case rel => exact ⟨lo, m, rfl, rfl, by omega, by omega, Nat.le_refl _, HB.trans (hb2.mono HB.size), by have := HN.out; obtain ⟨-, h2⟩ := hatm; exact ⟨by omega, Nat.not_lt.1 fun h => absurd (h2 h) (by omega)⟩⟩
    · obtain rfl : hi = lo := by omega
      have hNe : N = hi := by have := HN.out; omega
      subst hNe
      clear HN hlh hhi hlt hat
      have hno : ¬ ((N : Int) < (N : Int)) := by omega
      by_cases hn : N < l.length
      · have hnz : (N : Int) < (l.length : Int) := by omega
        have hnz0 : (0 : Int) ≤ (N : Int) := by omega
        obtain ⟨b, o, lv, rfl, hb, hlv, k0, k1, k2, k3, k4⟩ := hc _ hn
        have hBk := KeepC.of_below HB
        replace k0 := hBk.2 _ _ _ k0
        replace k1 := hBk.2 _ _ _ k1
        replace k2 := hBk.2 _ _ _ k2
        replace k3 := hBk.2 _ _ _ k3
        replace k4 := hBk.2 _ _ _ k4
        have hF := hin.out hn
        have H2 := fun W => make1_any l[N] lv n W
        obtain ⟨a4, c4, rfl, -⟩ := hlv.at
        clear hc hlv hBk hin hout
        generalize l[N].items.length = il at *
        obtain ⟨x, hx⟩ : ∃ x, l[N] = x := ⟨_, rfl⟩
        rw [hx] at k0 k1 k2 k3 hF
        simp only [hx] at H2
        clear hx
        obtain ⟨n1, p1, d1, m1, i1⟩ := x
        dsimp only at *
        generalize cmpS n1 n = R at *
        have HF := Lib.hid hF
        clear hF
        go_wp2_with (go_at_fn 62; refine (H2 _).mono ?_; rintro e w2 ⟨rfl, hb2⟩)
        go_ret2
        exact ⟨by rw [HF.out]; rfl, HB.trans (hb2.mono HB.size)⟩
      · have hnz : ¬ (N : Int) < (l.length : Int) := by omega
        have hF := hout.out hn
        subst hF
        clear hc hin hout
        go_wp2_with fail
        go_ret2
        exact ⟨rfl, HB⟩
/-! ### a new ring -/
theorem errV_eq (ea : Addr) : errV8 ea = eV ea := rfl
set_option maxRecDepth 100000 in
set_option maxHeartbeats 2000000 in
theorem told8_arg (ea : Addr) (w : World) (hge : w.cell? ⟨0, 0, none⟩ = some (errV8 ea)) :
    Calls Tryz.prog 97 #[errV8 ea] w fun e w' => e = .returned (.int .i64 2) ∧ w = w' := by
  have HI := fun W => is_same ea W
  have hg1 : w.cell? ⟨0, 0, none⟩ = some (.iface 174 (.pointer (some ea))) := hge
  clear hge
  go_enter Tryz.func97, Tryz.ntmps97
  go_wp2_with fail
  with_reducible refine (HI _).mono ?_
  rintro e w1 ⟨rfl, rfl⟩
  go_wp2_with fail
  go_ret
  exact ⟨rfl, rfl⟩
set_option maxRecDepth 100000 in
set_option maxHeartbeats 2000000 in
theorem new_any (m : Int) (ea : Addr) (w : World) (hge : w.cell? ⟨0, 0, none⟩ = some (errV8 ea)) :
    Calls Tryz.prog 60 #[.int .i64 m] w fun e w' => e = .returned (.tuple #[.agg #[.int .i64 (if maxB m then m else 0), .slice none 0 0], .int .i64 (if maxB m then 0 else 2)]) ∧ Below w.heap.size w w' := by
  have HM := fun W => isMax_any m W
  have hmb : maxB m = (decide (0 ≤ m) && decide (m ≤ 2000)) := rfl
  rw [← hmb] at HM
  clear hmb
  have n0 := Blk.new w #[.int .i64 0, .slice none 0 0] 46
  have hB := (Below.refl _ w).alloc (Nat.le_refl _) (.cells #[.int .i64 0, .slice none 0 0] 46)
  have hg0 : (w.alloc (.cells #[.int .i64 0, .slice none 0 0] 46)).cell? ⟨0, 0, none⟩ = some (.iface 174 (.pointer (some ea))) := (KeepC.of_below hB).2 _ _ _ hge
  have HT := fun W (h : W.cell? ⟨0, 0, none⟩ = some (errV8 ea)) => told8_arg ea W h
  generalize maxB m = b at *
  cases b with
  | true =>
    clear HT hge hg0
    go_enter Tryz.func60, Tryz.ntmps60
    go_wp2_with fail
    with_reducible refine (HM _).mono ?_
    rintro e w1 ⟨rfl, rfl⟩
    go_wp2_with fail
    exact bodyPost_ret (v := .tuple #[.agg #[.int .i64 m, .slice none 0 0], .int .i64 0]) (by simp [results, Tryz.results60, go_sem]) rfl ⟨rfl, (Below.refl _ w).alloc (Nat.le_refl _) _⟩
  | false =>
    clear hge
    go_enter Tryz.func60, Tryz.ntmps60
    go_wp2_with fail
    with_reducible refine (HM _).mono ?_
    rintro e w1 ⟨rfl, rfl⟩
    go_wp2_with fail
    with_reducible refine (HT _ hg0).mono ?_
    rintro e w1 ⟨rfl, rfl⟩
    go_wp2_with fail
    exact bodyPost_ret (v := .tuple #[.agg #[.int .i64 0, .slice none 0 0], .int .i64 2]) (by simp [results, Tryz.results60, go_sem]) rfl ⟨rfl, (Below.refl _ w).alloc (Nat.le_refl _) _⟩
/-! ### an insertion -/
theorem objsO_rows {base tO tS : Nat} {W : World} {l : List ObjD} {cs : List Value} (h : Rows (ObjO base tS W) l cs) : ∀ u ∈ cs, u.oneCell' = true := objs_one (h.mono fun _ _ _ hc => hc.view)
set_option maxRecDepth 100000 in
set_option maxHeartbeats 4000000 in
theorem insert_any (base q : Nat) (v ev : Value) (l : List ObjD) (x : ObjD) (p : Nat) (hp : p ≤ l.length) (hl : l.length ≤ 1000000) (ax : Option Addr) (cx : Nat) (w : World) (hq : Blk w q #[v, ev] 71) (hv : ObjsO base 48 9 w v l) (hx : ObjsO base 48 9 w (.slice ax 1 cx) [x]) (hbase : base ≤ w.heap.size) :
    Calls Tryz.prog 64 #[.pointer (some ⟨q, 0, none⟩), .int .i64 p, .slice ax 1 cx] w fun e w' => e = .returned (.tuple #[]) ∧ ∃ v', Blk w' q #[v', ev] 71 ∧ ObjsO base 48 9 w' v' (l.take p ++ ([x] ++ l.drop p)) ∧ w.grownBy w' (some q) := by
  obtain ⟨cs, hown, hrows⟩ := hv
  obtain ⟨csx, hownx, hrowsx⟩ := hx
  obtain ⟨ao, cap, rfl, hz⟩ := row_form hown
  have z2 : ax = none → cx = 0 := by obtain ⟨a', c', e, h⟩ := row_form hownx; cases e; exact h
  have hs0 := SlR.of_row hown
  have hcap : l.length ≤ cap := by obtain ⟨_, a', c', e, hn, _⟩ := id hs0; cases e; exact hn
  have HS1 := hs0.sub 0 p p (Nat.zero_le _) hp (Nat.le_refl _) (Nat.le_trans hp hcap)
  have HS3 := hs0.sub p l.length cap hp (Nat.le_refl _) hcap (Nat.le_refl _)
  have HS2 := Lib.hid (SlR.of_row hownx)
  have HR1 : Rows (ObjO base 9 w) (l.take p) ((cs.drop (0 * 5)).take ((p - 0) * 5)) := by
    have := (hrows.drop ObjO.len 0).take ObjO.len (p - 0)
    simpa using this
  have HR3 : Rows (ObjO base 9 w) (l.drop p) ((cs.drop (p * 5)).take ((l.length - p) * 5)) := by
    have := (hrows.drop ObjO.len p).take ObjO.len (l.length - p)
    rwa [List.take_of_length_le (by rw [List.length_drop]; exact Nat.le_refl _)] at this
  have HO1 := Lib.hid (objsO_rows (tO := 0) HR1)
  have HO2 := Lib.hid (objsO_rows (tO := 0) hrowsx)
  have HO3 := Lib.hid (objsO_rows (tO := 0) HR3)
  generalize (cs.drop (0 * 5)).take ((p - 0) * 5) = x1 at *
  generalize (cs.drop (p * 5)).take ((l.length - p) * 5) = x3 at *
  obtain ⟨a1, c1, hy1, z1⟩ : ∃ a1 c1, sliced ao 0 p p 5 = .slice a1 p c1 ∧ (a1 = none → c1 = 0) := by
    refine ⟨if p = 0 then ao else ao.map (·.add (0 * 5)), p, by simp [sliced], fun h => ?_⟩
    cases ao with
    | none => have := hz rfl; omega
    | some ad => split at h <;> simp at h
  obtain ⟨a3, c3, hy3, z3⟩ : ∃ a3 c3, sliced ao p l.length cap 5 = .slice a3 (l.length - p) c3 ∧ (a3 = none → c3 = 0) := by
    refine ⟨if cap = p then ao else ao.map (·.add (p * 5)), cap - p, by simp [sliced], fun h => ?_⟩
    cases ao with
    | none => have := hz rfl; omega
    | some ad => split at h <;> simp at h
  rw [hy1, Nat.sub_zero] at HS1
  rw [hy3] at HS3
  replace HS1 := Lib.hid HS1
  replace HS3 := Lib.hid HS3
  have HY1 := Lib.hid hy1
  have HY3 := Lib.hid hy3
  have q0 := hq.cell 0
  simp at q0
  have hql := hq.lt
  have hpz : (p : Int) ≤ (l.length : Int) := by omega
  have hpz0 : (0 : Int) ≤ (p : Int) := by omega
  have hcz : (l.length : Int) ≤ (cap : Int) := by omega
  have hpc : (p : Int) ≤ (cap : Int) := by omega
  have HRx := Lib.hid hrowsx
  clear hs0 hy1 hy3 hown hownx hrows hrowsx hz
  go_enter Tryz.func64, Tryz.ntmps64
  go_wp2_with fail
  refine wp_region_noPanic ?_
  refine wp_region_any (by kernel_rfl) ?_
  change wpAny _ _ _ _ _ _ _ (World.drew _)
  refine wpAny_take (i := 0) (oi := _) (v := ?_) (nth_at rfl) (by kernel_rfl) (by kernel_rfl) (by kernel_rfl) (fun _ _ _ h => h) (Or.inl ⟨by rfl, ?_⟩) ?_
  rotate_left 1
  · intro w; (go_simp <;> with_reducible rfl)
  try simp only [Act.put, List.setIfInBounds_toArray, List.set_cons_zero, List.set_cons_succ]
  refine wpAny_take (i := 1) (oi := _) (v := ?_) (nth_at rfl) (by kernel_rfl) (by kernel_rfl) (by kernel_rfl) (fun _ _ _ h => h) (Or.inl ⟨by rfl, ?_⟩) ?_
  rotate_left 1
  · intro w; (go_simp <;> with_reducible rfl)
  try simp only [Act.put, List.setIfInBounds_toArray, List.set_cons_zero, List.set_cons_succ]
  refine wpAny_take (i := 2) (oi := _) (v := ?_) (nth_at rfl) (by kernel_rfl) (by kernel_rfl) (by kernel_rfl) (fun _ _ _ h => h) (Or.inl ⟨by rfl, ?_⟩) ?_
  rotate_left 1
  · intro w; (go_simp <;> with_reducible rfl)
  try simp only [Act.put, List.setIfInBounds_toArray, List.set_cons_zero, List.set_cons_succ]
  refine wpAny_take (i := 3) (oi := _) (v := ?_) (nth_at rfl) (by kernel_rfl) (by kernel_rfl) (by kernel_rfl) (fun _ _ _ h => h) (Or.inl ⟨by rfl, ?_⟩) ?_
  rotate_left 1
  · intro w; (go_simp <;> with_reducible rfl)
  try simp only [Act.put, List.setIfInBounds_toArray, List.set_cons_zero, List.set_cons_succ]
  refine wpAny_take (i := 4) (oi := _) (v := ?_) (nth_at rfl) (by kernel_rfl) (by kernel_rfl) (by kernel_rfl) (fun _ _ _ h => h) (Or.inl ⟨by rfl, ?_⟩) ?_
  rotate_left 1
  · intro w; (go_simp <;> with_reducible rfl)
  try simp only [Act.put, List.setIfInBounds_toArray, List.set_cons_zero, List.set_cons_succ]
  refine wpAny_take (i := 6) (oi := _) (v := ?_) (nth_at rfl) (by kernel_rfl) (by kernel_rfl) (by kernel_rfl) (fun _ _ _ h => h) (Or.inl ⟨by rfl, ?_⟩) ?_
  rotate_left 1
  · intro w; (go_simp <;> with_reducible rfl)
  try simp only [Act.put, List.setIfInBounds_toArray, List.set_cons_zero, List.set_cons_succ]
  refine wpAny_take (i := 7) (oi := _) (v := ?_) (nth_at rfl) (by kernel_rfl) (by kernel_rfl) (by kernel_rfl) (fun _ _ _ h => h) (Or.inl ⟨by rfl, ?_⟩) ?_
  rotate_left 1
  · intro w; (go_simp <;> with_reducible rfl)
  try simp only [Act.put, List.setIfInBounds_toArray, List.set_cons_zero, List.set_cons_succ]
  refine wpAny_take (i := 9) (oi := _) (v := ?_) (nth_at rfl) (by kernel_rfl) (by kernel_rfl) (by kernel_rfl) (fun _ _ _ h => h) (Or.inl ⟨by rfl, ?_⟩) ?_
  rotate_left 1
  · intro w; (go_simp <;> with_reducible rfl)
  try simp only [Act.put, List.setIfInBounds_toArray, List.set_cons_zero, List.set_cons_succ]
  refine wpAny_take (i := 10) (oi := _) (v := ?_) (nth_at rfl) (by kernel_rfl) (by kernel_rfl) (by kernel_rfl) (fun _ _ _ h => h) (Or.inl ⟨by rfl, ?_⟩) ?_
  rotate_left 1
  · intro w; (go_simp <;> with_reducible rfl)
  try simp only [Act.put, List.setIfInBounds_toArray, List.set_cons_zero, List.set_cons_succ]
  refine wpAny_take (i := 11) (oi := _) (v := ?_) (nth_at rfl) (by kernel_rfl) (by kernel_rfl) (by kernel_rfl) (fun _ _ _ h => h) (Or.inl ⟨by rfl, ?_⟩) ?_
  rotate_left 1
  · intro w; (go_simp <;> with_reducible rfl)
  try simp only [Act.put, List.setIfInBounds_toArray, List.set_cons_zero, List.set_cons_succ]
  refine wpAny_take (i := 12) (oi := _) (v := ?_) (nth_at rfl) (by kernel_rfl) (by kernel_rfl) (by kernel_rfl) (fun _ _ _ h => h) (Or.inl ⟨by rfl, ?_⟩) ?_
  rotate_left 1
  · intro w; (go_simp <;> with_reducible rfl)
  try simp only [Act.put, List.setIfInBounds_toArray, List.set_cons_zero, List.set_cons_succ]
  refine wpAny_take (i := 13) (oi := _) (v := ?_) (nth_at rfl) (by kernel_rfl) (by kernel_rfl) (by kernel_rfl) (fun _ _ _ h => h) (Or.inl ⟨by rfl, ?_⟩) ?_
  rotate_left 1
  · intro w; (go_simp <;> with_reducible rfl)
  try simp only [Act.put, List.setIfInBounds_toArray, List.set_cons_zero, List.set_cons_succ]
  refine wpAny_take (i := 15) (oi := _) (v := ?_) (nth_at rfl) (by kernel_rfl) (by kernel_rfl) (by kernel_rfl) (fun _ _ _ h => h) (Or.inl ⟨by rfl, ?_⟩) ?_
  rotate_left 1
  · intro w; (go_simp <;> with_reducible rfl)
  try simp only [Act.put, List.setIfInBounds_toArray, List.set_cons_zero, List.set_cons_succ]
  refine wpAny_ready (rs := [5, 14]) (by kernel_rfl) (by simp) ?_
  refine AllReady.cons (o := _) (nth_at rfl) (fun K hK => ?_) ?_
  · go_simp
    refine hK _ _ ?_
    clear hK K
    try simp only [Act.put, List.setIfInBounds_toArray, List.set_cons_zero, List.set_cons_succ]
    refine wpAny_take (i := 8) (oi := _) (v := .slice a1 p c1) (nth_at rfl) (by kernel_rfl) (by kernel_rfl) (by kernel_rfl) (fun _ _ _ h => h) (Or.inl ⟨by rfl, ?_⟩) ?_
    · intro w; (go_simp <;> (have h := HY1.out; simp [sliced, add0_map] at h ⊢; exact h))
    try simp only [Act.put, List.setIfInBounds_toArray, List.set_cons_zero, List.set_cons_succ]
    refine wpAny_ready (rs := [14]) (by kernel_rfl) (by simp) ?_
    refine AllReady.cons (o := _) (nth_at rfl) (fun K hK => ?_) AllReady.nil
    go_simp
    refine hK _ _ ?_
    clear hK K
    try simp only [Act.put, List.setIfInBounds_toArray, List.set_cons_zero, List.set_cons_succ]
    refine wpAny_take (i := 16) (oi := _) (v := .slice a3 (l.length - p) c3) (nth_at rfl) (by kernel_rfl) (by kernel_rfl) (by kernel_rfl) (fun _ _ _ h => h) (Or.inl ⟨by rfl, ?_⟩) ?_
    · intro w; (go_simp <;> (have h := HY3.out; simp [sliced, add0_map] at h ⊢; exact h))
    try simp only [Act.put, List.setIfInBounds_toArray, List.set_cons_zero, List.set_cons_succ]
    refine wpAny_ready (rs := [17]) (by kernel_rfl) (by simp) ?_
    refine AllReady.cons (o := _) (nth_at rfl) (fun K hK => ?_) AllReady.nil
    go_simp
    obtain ⟨W1, hW1⟩ : ∃ W1, w.drew.alloc (.cells #[.slice a1 p c1, .slice ax 1 cx, .slice a3 (l.length - p) c3] 22) = W1 := ⟨_, rfl⟩
    have hW1' : (w.alloc (.cells #[.slice a1 p c1, .slice ax 1 cx, .slice a3 (l.length - p) c3] 22)).drew = W1 := hW1
    try rw [hW1]
    try rw [hW1']
    have b1 : Below w.heap.size w W1 := by rw [← hW1]; exact (Below.refl _ w).drew.alloc (Nat.le_refl _) _
    have n1 : Blk W1 w.heap.size #[.slice a1 p c1, .slice ax 1 cx, .slice a3 (l.length - p) c3] 22 := by rw [← hW1]; exact Blk.new w.drew _ _
    have k1 := KeepC.of_below b1
    have HC1 := Lib.hid (concatO_any w.heap.size a1 ax a3 p 1 (l.length - p) c1 cx c3 _ _ _ W1 ((n1.cell 0).trans rfl) ((n1.cell 1).trans rfl) ((n1.cell 2).trans rfl) (HS1.out.keep k1) (HS2.out.keep k1) (HS3.out.keep k1) z1 z2 z3 HO1.out HO2.out HO3.out (by omega) (by omega) (by omega))
    clear hW1 hW1' n1
    refine hK _ _ ?_
    clear hK K
    try simp only [Act.put, List.setIfInBounds_toArray, List.set_cons_zero, List.set_cons_succ]
    refine wpAny_ready (rs := [18]) (by kernel_rfl) (by simp) ?_
    refine AllReady.cons (o := _) (nth_at rfl) (fun K hK => ?_) AllReady.nil
    go_simp
    with_reducible refine HC1.out.mono ?_
    rintro e w2 ⟨v2, rfl, r2, b2⟩
    obtain ⟨a2, c2, rfl, -⟩ := row_form r2
    have B2 := b1.trans (b2.mono b1.size)
    have q2 := hq.below B2 hql
    have q20 := q2.cell 0
    have q2f := q2.frozen 0
    simp at q20
    have R2 := Lib.hid r2
    clear r2 HC1
    try dsimp only
    refine hK _ _ ?_
    clear hK K
    try simp only [Act.put, List.setIfInBounds_toArray, List.set_cons_zero, List.set_cons_succ]
    refine wpAny_take (i := 19) (oi := _) (v := ?_) (nth_at rfl) (by kernel_rfl) (by kernel_rfl) (by kernel_rfl) (fun _ _ _ h => h) (Or.inl ⟨by rfl, ?_⟩) ?_
    rotate_left 1
    · intro w; (go_simp <;> with_reducible rfl)
    try simp only [Act.put, List.setIfInBounds_toArray, List.set_cons_zero, List.set_cons_succ]
    refine wpAny_take (i := 20) (oi := _) (v := ?_) (nth_at rfl) (by kernel_rfl) (by kernel_rfl) (by kernel_rfl) (fun _ _ _ h => h) (Or.inl ⟨by rfl, ?_⟩) ?_
    rotate_left 1
    · intro w; (go_simp <;> with_reducible rfl)
    try simp only [Act.put, List.setIfInBounds_toArray, List.set_cons_zero, List.set_cons_succ]
    refine wpAny_take (i := 21) (oi := _) (v := ?_) (nth_at rfl) (by kernel_rfl) (by kernel_rfl) (by kernel_rfl) (fun _ _ _ h => h) (Or.inl ⟨by rfl, ?_⟩) ?_
    rotate_left 1
    · intro w; (go_simp <;> with_reducible rfl)
    try simp only [Act.put, List.setIfInBounds_toArray, List.set_cons_zero, List.set_cons_succ]
    refine wpAny_ready (rs := [22]) (by kernel_rfl) (by simp) ?_
    refine AllReady.cons (o := _) (nth_at rfl) (fun K hK => ?_) AllReady.nil
    go_simp
    refine hK _ _ ?_
    clear hK K
    try simp only [Act.put, List.setIfInBounds_toArray, List.set_cons_zero, List.set_cons_succ]
    refine wpAny_done (by kernel_rfl) ?_ _
    refine NoPanic.normal ?_
    go_wp2_with fail
    go_end0
    refine ⟨rfl, .slice a2 (p + 1 + (l.length - p)) c2, ?_, ⟨x1 ++ csx ++ x3, ?_, ?_⟩, ?_⟩
    · have := q2.set 0 (.slice a2 (p + 1 + (l.length - p)) c2); simpa using this
    · rw [show (l.take p ++ x :: l.drop p).length = p + 1 + (l.length - p) by simp; omega]
      exact own_kept (own_base R2.out (Nat.le_trans hbase b1.size)) (grownBy_setCellB w2 q 0 _) (RowT.blk q2 _ (by decide))
    · have gT : w.grownBy w2 none := grown_of_below B2 none
      have gS := grownBy_setCellB w2 q 0 (.slice a2 (p + 1 + (l.length - p)) c2)
      have rT : RowT w2 [9] (some q) := RowT.blk q2 _ (by decide)
      have K : ∀ x c, ObjO base 9 w x c → ObjO base 9 (w2.setCell ⟨q, 0, none⟩ (.slice a2 (p + 1 + (l.length - p)) c2)) x c := fun x c hc => (hc.kept gT (RowT.none _ _)).kept gS rT
      rw [List.append_assoc]
      exact (HR1.mono fun x _ c hc => K x c hc).append ((HRx.out.mono fun x _ c hc => K x c hc).append (HR3.mono fun x _ c hc => K x c hc))
    · exact grownBy_t (grown_of_below B2 _) (grownBy_setCellB w2 q 0 _)
  refine AllReady.cons (o := _) (nth_at rfl) (fun K hK => ?_) AllReady.nil
  go_simp
  refine hK _ _ ?_
  clear hK K
  try simp only [Act.put, List.setIfInBounds_toArray, List.set_cons_zero, List.set_cons_succ]
  refine wpAny_take (i := 16) (oi := _) (v := .slice a3 (l.length - p) c3) (nth_at rfl) (by kernel_rfl) (by kernel_rfl) (by kernel_rfl) (fun _ _ _ h => h) (Or.inl ⟨by rfl, ?_⟩) ?_
  · intro w; (go_simp <;> (have h := HY3.out; simp [sliced, add0_map] at h ⊢; exact h))
  try simp only [Act.put, List.setIfInBounds_toArray, List.set_cons_zero, List.set_cons_succ]
  refine wpAny_ready (rs := [5]) (by kernel_rfl) (by simp) ?_
  refine AllReady.cons (o := _) (nth_at rfl) (fun K hK => ?_) AllReady.nil
  go_simp
  refine hK _ _ ?_
  clear hK K
  try simp only [Act.put, List.setIfInBounds_toArray, List.set_cons_zero, List.set_cons_succ]
  refine wpAny_take (i := 8) (oi := _) (v := .slice a1 p c1) (nth_at rfl) (by kernel_rfl) (by kernel_rfl) (by kernel_rfl) (fun _ _ _ h => h) (Or.inl ⟨by rfl, ?_⟩) ?_
  · intro w; (go_simp <;> (have h := HY1.out; simp [sliced, add0_map] at h ⊢; exact h))
  try simp only [Act.put, List.setIfInBounds_toArray, List.set_cons_zero, List.set_cons_succ]
  refine wpAny_ready (rs := [17]) (by kernel_rfl) (by simp) ?_
  refine AllReady.cons (o := _) (nth_at rfl) (fun K hK => ?_) AllReady.nil
  go_simp
  obtain ⟨W1, hW1⟩ : ∃ W1, w.drew.alloc (.cells #[.slice a1 p c1, .slice ax 1 cx, .slice a3 (l.length - p) c3] 22) = W1 := ⟨_, rfl⟩
  have hW1' : (w.alloc (.cells #[.slice a1 p c1, .slice ax 1 cx, .slice a3 (l.length - p) c3] 22)).drew = W1 := hW1
  try rw [hW1]
  try rw [hW1']
  have b1 : Below w.heap.size w W1 := by rw [← hW1]; exact (Below.refl _ w).drew.alloc (Nat.le_refl _) _
  have n1 : Blk W1 w.heap.size #[.slice a1 p c1, .slice ax 1 cx, .slice a3 (l.length - p) c3] 22 := by rw [← hW1]; exact Blk.new w.drew _ _
  have k1 := KeepC.of_below b1
  have HC1 := Lib.hid (concatO_any w.heap.size a1 ax a3 p 1 (l.length - p) c1 cx c3 _ _ _ W1 ((n1.cell 0).trans rfl) ((n1.cell 1).trans rfl) ((n1.cell 2).trans rfl) (HS1.out.keep k1) (HS2.out.keep k1) (HS3.out.keep k1) z1 z2 z3 HO1.out HO2.out HO3.out (by omega) (by omega) (by omega))
  clear hW1 hW1' n1
  refine hK _ _ ?_
  clear hK K
  try simp only [Act.put, List.setIfInBounds_toArray, List.set_cons_zero, List.set_cons_succ]
  refine wpAny_ready (rs := [18]) (by kernel_rfl) (by simp) ?_
  refine AllReady.cons (o := _) (nth_at rfl) (fun K hK => ?_) AllReady.nil
  go_simp
  with_reducible refine HC1.out.mono ?_
  rintro e w2 ⟨v2, rfl, r2, b2⟩
  obtain ⟨a2, c2, rfl, -⟩ := row_form r2
  have B2 := b1.trans (b2.mono b1.size)
  have q2 := hq.below B2 hql
  have q20 := q2.cell 0
  have q2f := q2.frozen 0
  simp at q20
  have R2 := Lib.hid r2
  clear r2 HC1
  try dsimp only
  refine hK _ _ ?_
  clear hK K
  try simp only [Act.put, List.setIfInBounds_toArray, List.set_cons_zero, List.set_cons_succ]
  refine wpAny_take (i := 19) (oi := _) (v := ?_) (nth_at rfl) (by kernel_rfl) (by kernel_rfl) (by kernel_rfl) (fun _ _ _ h => h) (Or.inl ⟨by rfl, ?_⟩) ?_
  rotate_left 1
  · intro w; (go_simp <;> with_reducible rfl)
  try simp only [Act.put, List.setIfInBounds_toArray, List.set_cons_zero, List.set_cons_succ]
  refine wpAny_take (i := 20) (oi := _) (v := ?_) (nth_at rfl) (by kernel_rfl) (by kernel_rfl) (by kernel_rfl) (fun _ _ _ h => h) (Or.inl ⟨by rfl, ?_⟩) ?_
  rotate_left 1
  · intro w; (go_simp <;> with_reducible rfl)
  try simp only [Act.put, List.setIfInBounds_toArray, List.set_cons_zero, List.set_cons_succ]
  refine wpAny_take (i := 21) (oi := _) (v := ?_) (nth_at rfl) (by kernel_rfl) (by kernel_rfl) (by kernel_rfl) (fun _ _ _ h => h) (Or.inl ⟨by rfl, ?_⟩) ?_
  rotate_left 1
  · intro w; (go_simp <;> with_reducible rfl)
  try simp only [Act.put, List.setIfInBounds_toArray, List.set_cons_zero, List.set_cons_succ]
  refine wpAny_ready (rs := [22]) (by kernel_rfl) (by simp) ?_
  refine AllReady.cons (o := _) (nth_at rfl) (fun K hK => ?_) AllReady.nil
  go_simp
  refine hK _ _ ?_
  clear hK K
  try simp only [Act.put, List.setIfInBounds_toArray, List.set_cons_zero, List.set_cons_succ]
  refine wpAny_done (by kernel_rfl) ?_ _
  refine NoPanic.normal ?_
  go_wp2_with fail
  go_end0
  refine ⟨rfl, .slice a2 (p + 1 + (l.length - p)) c2, ?_, ⟨x1 ++ csx ++ x3, ?_, ?_⟩, ?_⟩
  · have := q2.set 0 (.slice a2 (p + 1 + (l.length - p)) c2); simpa using this
  · rw [show (l.take p ++ x :: l.drop p).length = p + 1 + (l.length - p) by simp; omega]
    exact own_kept (own_base R2.out (Nat.le_trans hbase b1.size)) (grownBy_setCellB w2 q 0 _) (RowT.blk q2 _ (by decide))
  · have gT : w.grownBy w2 none := grown_of_below B2 none
    have gS := grownBy_setCellB w2 q 0 (.slice a2 (p + 1 + (l.length - p)) c2)
    have rT : RowT w2 [9] (some q) := RowT.blk q2 _ (by decide)
    have K : ∀ x c, ObjO base 9 w x c → ObjO base 9 (w2.setCell ⟨q, 0, none⟩ (.slice a2 (p + 1 + (l.length - p)) c2)) x c := fun x c hc => (hc.kept gT (RowT.none _ _)).kept gS rT
    rw [List.append_assoc]
    exact (HR1.mono fun x _ c hc => K x c hc).append ((HRx.out.mono fun x _ c hc => K x c hc).append (HR3.mono fun x _ c hc => K x c hc))
  · exact grownBy_t (grown_of_below B2 _) (grownBy_setCellB w2 q 0 _)
end Go.Proofs.YthclfkhakmcnbaaGreatDoor
/- Walks of layer 10: Make. -/
namespace Go.Proofs.YthclfkhakmcnbaaGreatDoor
open Go.RowKit Go.Shelf
attribute [local go_sem] Oper.semAt_some
def errE (c : Int) : Value := if c = 0 then .nilIface else wrongV c
def andE (c : Int) (b : Bool) (why : Int) : Int := if c = 0 then (if b then 0 else why) else c
theorem errE_form (c : Int) : errE c = .nilIface ∨ ∃ t u, errE c = .iface t u := by
  unfold errE; split
  · exact .inl rfl
  · exact .inr ⟨_, _, rfl⟩
theorem errE_is (c : Int) : errIs (errE c) c := by
  unfold errE errIs; split
  · rename_i h; exact .inl ⟨rfl, h⟩
  · rename_i h; exact .inr (.inl ⟨h, rfl⟩)
theorem mustV_errE (c : Int) (b : Bool) (why : Int) (hw : why ≠ 0) : mustV (errE c) b why = errE (andE c b why) := by
  by_cases h : c = 0
  · subst h
    cases b
    · show mustV .nilIface false why = errE why
      unfold errE; rw [if_neg hw]; rfl
    · rfl
  · have e : errE c = wrongV c := by unfold errE; rw [if_neg h]
    have e2 : andE c b why = c := by unfold andE; rw [if_neg h]
    rw [e2, e]; rfl
theorem must_e (q : Nat) (v : Value) (c : Int) (is : Bool) (why : Int) (hw : why ≠ 0) (w : World) (hq : Blk w q #[v, errE c] 71) :
    Calls Tryz.prog 59 #[.pointer (some ⟨q, 0, none⟩), .bool is, .int .i64 why] w fun e w' => e = .returned (.tuple #[]) ∧ Blk w' q #[v, errE (andE c is why)] 71 ∧ w.grownBy w' (some q) := by
  rw [← mustV_errE c is why hw]
  exact must_any q v (errE c) is why w (errE_form c) hq
theorem keepC_q {w w' : World} {b q : Nat} (hb : Below b w w') (hq : b ≤ q) : KeepC w w' ∨ True := .inr trivial
/-- where only one's own editor, at or above b, is written, what is below stays -/
theorem grown_below {b q : Nat} {w w1 w2 : World} (h : Below b w w1) (hb : b ≤ q) (hbw : b ≤ w1.heap.size) (g : w1.grownBy w2 (some q)) : Below b w w2 := h.grown g hbw (fun k hk => by cases hk; exact hb)
theorem make_code (l : List ObjD) (q : Int) (n : List UInt8) (k m : Int) :
    makeE l q n k m = andE (andE (andE (andE (andE (if spaceB l then 0 else 110) (nameB n) 100) (k == 1 || k == 2) 103) (decide (findS l n < 0)) 101) (maxB m && (k == 2 || m == 0)) 2) (decide (l.length + 1 ≤ 20) && decide (costL (insS l (mkO n k m)) ≤ q)) 104 := by
  have hf : decide (findS l n < 0) = !hasS l n := by
    unfold findS hasS
    by_cases h : idxS l n < l.length
    · simp [h]
    · simp [h]
  rw [hf]
  unfold makeE andE
  cases spaceB l <;> cases nameB n <;> cases (k == 1 || k == 2) <;> cases hasS l n <;> cases (maxB m && (k == 2 || m == 0)) <;> simp
theorem andE_zero {c : Int} {b : Bool} {why : Int} (h : andE c b why = 0) (hw : why ≠ 0) : c = 0 ∧ b = true := by
  unfold andE at h
  split at h
  · rename_i hc
    refine ⟨hc, ?_⟩
    cases b
    · exact absurd h hw
    · rfl
  · exact absurd h (by assumption)
theorem and_chain {c0 c1 c2 c3 : Int} {nb kb fb rb : Bool} (h1 : andE c3 rb 2 = 0) (h2 : andE c2 fb 101 = c3) (h3 : andE c1 kb 103 = c2) (h5 : andE c0 nb 100 = c1) : c0 = 0 ∧ nb = true ∧ kb = true ∧ fb = true ∧ rb = true := by
  obtain ⟨e1, e2⟩ := andE_zero h1 (by decide)
  obtain ⟨e3, e4⟩ := andE_zero (h2.trans e1) (by decide)
  obtain ⟨e5, e6⟩ := andE_zero (h3.trans e3) (by decide)
  obtain ⟨e7, e8⟩ := andE_zero (h5.trans e5) (by decide)
  exact ⟨e7, e8, e6, e4, e2⟩
def makeP (base : Nat) (w : World) (l : List ObjD) (x : Int) (e : Ending) (w' : World) : Prop :=
  ∃ v', e = .returned (.tuple #[v', .int .i64 x]) ∧ ObjsO base 48 9 w' v' l ∧ Below base w w'
set_option maxRecDepth 100000 in
set_option maxHeartbeats 8000000 in
theorem Make_any (l : List ObjD) (hl : FitsS l) (v : Value) (qu : Int) (n : List UInt8) (hn : n.length ≤ maxLen) (k m : Int) (ea : Addr) (w : World) (hge : w.cell? ⟨0, 0, none⟩ = some (errV8 ea)) (het : ErrT w) (hv : ObjsV w v l) :
    Calls Tryz.prog 21 #[v, .int .i64 qu, .string ⟨n.toArray⟩, .int .i64 k, .int .i64 m] w (makeP w.heap.size w (makeS l qu n k m) (makeE l qu n k m)) := by
  have HO := open_any l hl v ea w hge hv
  have HN := fun W => isName_any n hn W
  have HF := fun W (h : KeepC w W) => Find_any l hl.1 v n W (hv.keep h)
  have HM := fun W (h : KeepC w W) => new_any m ea W (h.2 _ _ _ hge)
  have hcode := make_code l qu n k m
  have hsr : makeS l qu n k m = if makeE l qu n k m = 0 then insS l (mkO n k m) else [] := rfl
  have HE := fun (q : Nat) v c W (hvs : ∃ a n c, v = Value.slice a n c) (h : KeepC w W) hq => end_any q v (errE c) c (errE_is c) hvs W (h.2 _ _ _ het) hq
  have hsp0 : Hid ((if spaceB l then 0 else 110 : Int) = 0 → spaceB l = true) := by intro h; cases hx : spaceB l with | true => rfl | false => rw [hx] at h; cases h
  have HS := Lib.hid (fun (hs : spaceB l = true) v W (h : ObjsV W v l) => bsearchO_any l hl.1 (space_iff.1 hs).1 v n W h)
  have e0 : Hid ((if spaceB l then Value.nilIface else wrongV 110) = errE (if spaceB l then 0 else 110)) := by show _ = _; cases spaceB l <;> rfl
  have hfacts : Hid (makeE l qu n k m = 0 → maxB m = true ∧ spaceB (insS l (mkO n k m)) = true) := fun h => by
    obtain ⟨a1, a2, a3, a4, a5, a6, a7⟩ := make_zero.1 h
    exact ⟨by simp only [Bool.and_eq_true] at a5; exact a5.1, ins_space a1 (mk_obj a2 a3 a5) a4 a6⟩
  have hobj : Hid ((if spaceB l then 0 else 110 : Int) = 0 → nameB n = true → (k == 1 || k == 2) = true → decide (findS l n < 0) = true → (maxB m && (k == 2 || m == 0)) = true → l.length + 1 ≤ 20 → spaceB (insS l (mkO n k m)) = true) := fun h1 h2 h3 h4 h5 h6 =>
    ins_space (hsp0.out h1) (mk_obj h2 h3 h5) (by
      cases hh : hasS l n with
      | false => exact hh
      | true => rw [find_yes (has_lt hh)] at h4; simp at h4; omega) h6
  obtain ⟨av, cv, rfl, -⟩ := hv.at
  have hlm := hl.1
  have hle := pos_le l n
  have hcodeH := Lib.hid hcode
  have hsrH := Lib.hid hsr
  clear hge het hv hcode hsr
  generalize makeE l qu n k m = E at *
  generalize makeS l qu n k m = X at *
  generalize hmb : maxB m = mb at *
  have hmbH := Lib.hid hmb
  clear hmb
  generalize nameB n = nb at *
  generalize hfs : findS l n = fs at *
  clear hfs
  go_enter Tryz.func21, Tryz.ntmps21
  go_wp2_with fail
  with_reducible refine HO.mono ?_
  rintro e w1 ⟨q, v1, rfl, hqw, q1, o1, B1⟩
  rw [e0.out] at q1
  generalize (if spaceB l then 0 else 110 : Int) = c0 at *
  clear HO
  go_wp2_with fail
  with_reducible refine (HN _).mono ?_
  rintro e w2 ⟨rfl, b2⟩
  have q2 := q1.below b2 q1.lt
  have B2 := B1.trans (b2.mono B1.size)
  have o2 := o1.kept (grown_of_below b2 none) (RowT.none _ _)
  clear q1 o1 HN
  go_wp2_with fail
  with_reducible refine (must_e q _ _ _ _ (by decide) _ q2).mono ?_
  rintro e w3 ⟨rfl, q3, g3⟩
  have B3 := grown_below B2 hqw B2.size g3
  have o3 := o2.kept g3 (RowT.blk q2 _ (by decide))
  clear q2 o2
  generalize hc1 : andE c0 nb 100 = c1 at *
  have Hc1 := Lib.hid hc1
  clear hc1
  rcases Classical.em (k = 1) with hk1 | hk1
  rotate_left 1
  rcases Classical.em (k = 2) with hk2 | hk2
  all_goals (cases mb)
  · subst hk2
    have hkb : ((2 : Int) == 1 || (2 : Int) == 2) = true := by decide
    rw [hkb] at hcodeH hobj
    clear hkb
    go_wp2_with fail
    with_reducible refine (must_e q _ _ _ _ (by decide) _ q3).mono ?_
    rintro e w4 ⟨rfl, q4, g4⟩
    have B4 := grown_below B3 hqw B3.size g4
    have o4 := o3.kept g4 (RowT.blk q3 _ (by decide))
    clear q3 o3
    generalize hc2 : andE c1 true 103 = c2 at *
    have Hc2 := Lib.hid hc2
    clear hc2
    go_wp2_with fail
    with_reducible refine (HF _ (KeepC.of_below B4)).mono ?_
    rintro e w5 ⟨rfl, b5⟩
    have q5 := q4.below b5 q4.lt
    have B5 := B4.trans (b5.mono B4.size)
    have o5 := o4.kept (grown_of_below b5 none) (RowT.none _ _)
    clear q4 o4
    generalize hfb : decide (fs < 0) = fb at *
    have Hfb := Lib.hid hfb
    go_wp2_with fail
    with_reducible refine (must_e q _ _ _ _ (by decide) _ q5).mono ?_
    rintro e w6 ⟨rfl, q6, g6⟩
    have B6 := grown_below B5 hqw B5.size g6
    have o6 := o5.kept g6 (RowT.blk q5 _ (by decide))
    clear q5 o5
    clear hfb
    generalize hc3 : andE c2 fb 101 = c3 at *
    have Hc3 := Lib.hid hc3
    clear hc3
    simp only [Bool.false_eq_true, if_false] at HM
    go_wp2_with fail
    with_reducible refine (HM _ (KeepC.of_below B6)).mono ?_
    rintro e w7 ⟨rfl, b7⟩
    have q7 := q6.below b7 q6.lt
    have B7 := B6.trans (b7.mono B6.size)
    have o7 := o6.kept (grown_of_below b7 none) (RowT.none _ _)
    clear q6 o6 HM HF
    have n8 := Blk.new w7 #[.int .i64 0, .slice none 0 0] 46
    have b8 : Below w7.heap.size w7 (w7.alloc (.cells #[.int .i64 0, .slice none 0 0] 46)) := (Below.refl _ w7).alloc (Nat.le_refl _) _
    go_wp2_with fail
    generalize w7.alloc (.cells #[.int .i64 0, .slice none 0 0] 46) = w8 at *
    have q8 := q7.below b8 q7.lt
    have B8 := B7.trans (b8.mono B7.size)
    have o8 := o7.kept (grown_of_below b8 none) (RowT.none _ _)
    clear q7 o7
    have hrb : (false && ((2 : Int) == 2 || (m == 0))) = false := by rfl
    rw [hrb] at hcodeH hobj
    clear hrb
    with_reducible refine (must_e q _ _ _ _ (by decide) _ q8).mono ?_
    rintro e w9 ⟨rfl, q9, g9⟩
    have B9 := grown_below B8 hqw B8.size g9
    have o9 := o8.kept g9 (RowT.blk q8 _ (by decide))
    have n9 : Blk w9 w7.heap.size #[.int .i64 0, .slice none 0 0] 46 := n8.kept g9 (fun e => by have := q8.lt; injection e with e; subst e; exact absurd (n8.symm.trans q8) (by simp))
    clear q8 o8 n8
    generalize hc4 : andE c3 false 2 = c4 at *
    have Hc4 := Lib.hid hc4
    clear hc4
    obtain ⟨a1, cp1, rfl, -⟩ := o9.view.at
    have hqb : ∀ (v : Value) (e : Int) (W : World), Blk W q #[v, errE e] 71 → W.cell? ⟨q, 1, none⟩ = some (errE e) ∧ W.cell? ⟨q, 0, none⟩ = some v := fun v e W h => ⟨(h.cell 1).trans rfl, (h.cell 0).trans rfl⟩
    have h4 : c4 ≠ 0 := fun h => by have := and_chain (Hc4.out.trans h) Hc3.out Hc2.out Hc1.out; simp at this
    have hE : E = c4 := by rw [hcodeH.out]; unfold andE; rw [if_neg h4]
    have hX : X = [] := by rw [hsrH.out, hE, if_neg h4]
    subst hX
    subst hE
    have HEx := HE q _ E _ ⟨_, _, _, rfl⟩ (KeepC.of_below B9) q9
    rw [if_neg h4] at HEx
    have e9 := (hqb _ _ _ q9).1
    have ew : errE E = wrongV E := by unfold errE; rw [if_neg h4]
    rw [ew] at e9
    clear hcodeH hsrH HE HS hfacts hobj Hc4 Hc3 Hc2 Hc1 hqb ew h4
    go_wp2_with fail
    with_reducible refine HEx.mono ?_
    rintro e w10 ⟨rfl, b10⟩
    go_wp2_with fail
    go_ret2
    exact ⟨_, rfl, ObjsO.nil _ _ _ _, B9.trans (b10.mono B9.size)⟩
  · subst hk2
    have hkb : ((2 : Int) == 1 || (2 : Int) == 2) = true := by decide
    rw [hkb] at hcodeH hobj
    clear hkb
    go_wp2_with fail
    with_reducible refine (must_e q _ _ _ _ (by decide) _ q3).mono ?_
    rintro e w4 ⟨rfl, q4, g4⟩
    have B4 := grown_below B3 hqw B3.size g4
    have o4 := o3.kept g4 (RowT.blk q3 _ (by decide))
    clear q3 o3
    generalize hc2 : andE c1 true 103 = c2 at *
    have Hc2 := Lib.hid hc2
    clear hc2
    go_wp2_with fail
    with_reducible refine (HF _ (KeepC.of_below B4)).mono ?_
    rintro e w5 ⟨rfl, b5⟩
    have q5 := q4.below b5 q4.lt
    have B5 := B4.trans (b5.mono B4.size)
    have o5 := o4.kept (grown_of_below b5 none) (RowT.none _ _)
    clear q4 o4
    generalize hfb : decide (fs < 0) = fb at *
    have Hfb := Lib.hid hfb
    go_wp2_with fail
    with_reducible refine (must_e q _ _ _ _ (by decide) _ q5).mono ?_
    rintro e w6 ⟨rfl, q6, g6⟩
    have B6 := grown_below B5 hqw B5.size g6
    have o6 := o5.kept g6 (RowT.blk q5 _ (by decide))
    clear q5 o5
    clear hfb
    generalize hc3 : andE c2 fb 101 = c3 at *
    have Hc3 := Lib.hid hc3
    clear hc3
    simp only [if_true] at HM
    go_wp2_with fail
    with_reducible refine (HM _ (KeepC.of_below B6)).mono ?_
    rintro e w7 ⟨rfl, b7⟩
    have q7 := q6.below b7 q6.lt
    have B7 := B6.trans (b7.mono B6.size)
    have o7 := o6.kept (grown_of_below b7 none) (RowT.none _ _)
    clear q6 o6 HM HF
    have n8 := Blk.new w7 #[.int .i64 m, .slice none 0 0] 46
    have b8 : Below w7.heap.size w7 (w7.alloc (.cells #[.int .i64 m, .slice none 0 0] 46)) := (Below.refl _ w7).alloc (Nat.le_refl _) _
    go_wp2_with fail
    generalize w7.alloc (.cells #[.int .i64 m, .slice none 0 0] 46) = w8 at *
    have q8 := q7.below b8 q7.lt
    have B8 := B7.trans (b8.mono B7.size)
    have o8 := o7.kept (grown_of_below b8 none) (RowT.none _ _)
    clear q7 o7
    have hrb : (true && ((2 : Int) == 2 || (m == 0))) = true := by simp
    rw [hrb] at hcodeH hobj
    clear hrb
    with_reducible refine (must_e q _ _ _ _ (by decide) _ q8).mono ?_
    rintro e w9 ⟨rfl, q9, g9⟩
    have B9 := grown_below B8 hqw B8.size g9
    have o9 := o8.kept g9 (RowT.blk q8 _ (by decide))
    have n9 : Blk w9 w7.heap.size #[.int .i64 m, .slice none 0 0] 46 := n8.kept g9 (fun e => by have := q8.lt; injection e with e; subst e; exact absurd (n8.symm.trans q8) (by simp))
    clear q8 o8 n8
    generalize hc4 : andE c3 true 2 = c4 at *
    have Hc4 := Lib.hid hc4
    clear hc4
    obtain ⟨a1, cp1, rfl, -⟩ := o9.view.at
    have hqb : ∀ (v : Value) (e : Int) (W : World), Blk W q #[v, errE e] 71 → W.cell? ⟨q, 1, none⟩ = some (errE e) ∧ W.cell? ⟨q, 0, none⟩ = some v := fun v e W h => ⟨(h.cell 1).trans rfl, (h.cell 0).trans rfl⟩
    by_cases h4 : c4 = 0
    rotate_left 1
    · have hE : E = c4 := by rw [hcodeH.out]; unfold andE; rw [if_neg h4]
      have hX : X = [] := by rw [hsrH.out, hE, if_neg h4]
      subst hX
      subst hE
      have HEx := HE q _ E _ ⟨_, _, _, rfl⟩ (KeepC.of_below B9) q9
      rw [if_neg h4] at HEx
      have e9 := (hqb _ _ _ q9).1
      have ew : errE E = wrongV E := by unfold errE; rw [if_neg h4]
      rw [ew] at e9
      clear hcodeH hsrH HE HS hfacts hobj Hc4 Hc3 Hc2 Hc1 hqb ew h4
      go_wp2_with fail
      with_reducible refine HEx.mono ?_
      rintro e w10 ⟨rfl, b10⟩
      go_wp2_with fail
      go_ret2
      exact ⟨_, rfl, ObjsO.nil _ _ _ _, B9.trans (b10.mono B9.size)⟩
    · have hz := and_chain (Hc4.out.trans h4) Hc3.out Hc2.out Hc1.out
      obtain ⟨hz0, hz1, -, hz2, hz3⟩ := hz
      have hsp := hsp0.out hz0
      have HSx := HS.out hsp _ w9 o9.view
      have hob := hobj.out hz0 hz1 (by decide) hz2 hz3
      subst h4
      have e9 : w9.cell? ⟨q, 1, none⟩ = some .nilIface := (hqb _ _ _ q9).1
      have e90 := (hqb _ _ _ q9).2
      clear HS hobj hsp0 Hc4 Hc3 Hc2 Hc1 hfacts e0
      have hins : insS l (mkO n 2 m) = l.take (posS l n) ++ ([mkO n 2 m] ++ l.drop (posS l n)) := rfl
      have HINS := Lib.hid hins
      clear hins
      have hfit : Hid (l.length + 1 ≤ 20 → FitsS (insS l (mkO n 2 m))) := fun h => ⟨by rw [ins_len]; omega, fun x hx => by
        rcases ins_mem.1 hx with rfl | hx
        · exact ⟨hn, Nat.zero_le _, Nat.zero_le _, fun s hs => by cases hs⟩
        · exact hl.2 x hx⟩
      have hilen := ins_len l (mkO n 2 m)
      generalize hI : insS l (mkO n 2 m) = I at *
      clear hI
      generalize posS l n = p at *
      generalize thereS l n = th at *
      go_wp2_with fail
      with_reducible refine HSx.mono ?_
      rintro e w10 ⟨rfl, b10⟩
      have q10 := q9.below b10 q9.lt
      have n10 := n9.below b10 n9.lt
      have B10 := B9.trans (b10.mono B9.size)
      have o10 := o9.kept (grown_of_below b10 none) (RowT.none _ _)
      have d0 := n10.cell 0
      have d1 := n10.cell 1
      simp at d0 d1
      clear q9 o9 n9 HSx e9 e90
      have b11 : Below w10.heap.size w10 (w10.alloc (.cells #[.string ⟨n.toArray⟩, .int .i64 2, .string ⟨#[]⟩, .int .i64 m, .slice none 0 0] 48)) := (Below.refl _ w10).alloc (Nat.le_refl _) _
      have x11 : ObjsO w.heap.size 48 9 (w10.alloc (.cells #[.string ⟨n.toArray⟩, .int .i64 2, .string ⟨#[]⟩, .int .i64 m, .slice none 0 0] 48)) (.slice (some ⟨w10.heap.size, 0, none⟩) 1 1) [mkO n 2 m] := ⟨_, World.ownsRow_lit w10 #[.string ⟨n.toArray⟩, .int .i64 2, .string ⟨#[]⟩, .int .i64 m, .slice none 0 0] 1 B10.size (by decide) rfl, Rows.one ⟨_, rfl, StrsO.nil _ _ _⟩⟩
      have q11 := q10.below b11 q10.lt
      have B11 := B10.trans (b11.mono B10.size)
      have o11 := o10.kept (grown_of_below b11 none) (RowT.none _ _)
      have HI := insert_any w.heap.size q _ _ l (mkO n 2 m) p hle hlm _ 1 _ q11 o11 x11 B11.size
      rw [← HINS.out] at HI
      clear q10 o10 n10 x11 o11
      go_wp2_with fail
      generalize w10.alloc (.cells #[.string ⟨n.toArray⟩, .int .i64 2, .string ⟨#[]⟩, .int .i64 m, .slice none 0 0] 48) = w11 at *
      with_reducible refine HI.mono ?_
      rintro e w12 ⟨rfl, v12, q12, o12, g12⟩
      have B12 := grown_below B11 hqw B11.size g12
      obtain ⟨a12, c12, rfl, -⟩ := o12.view.at
      have e12 := (hqb _ 0 _ q12).2
      clear HI q11 d0 d1
      rw [hilen] at *
      clear hilen
      have hNz : l.length + 1 ≤ 1000001 := by omega
      generalize hNl : l.length + 1 = N at *
      clear hNl
      have q12' : Blk w12 q #[.slice a12 N c12, .nilIface] 71 := q12
      by_cases h20 : N ≤ 20
      · have h20z : (N : Int) ≤ 20 := by omega
        have h20b : decide (N ≤ 20) = true := by simpa using h20
        rw [h20b, Bool.true_and] at hcodeH
        have HCo := cost_any q I (hfit.out h20) (small_of (hob h20)) _ w12 e12 o12.view
        generalize costL I = cI at *
        clear hob hfit h20b hqb HINS
        go_wp2_with fail
        with_reducible refine HCo.mono ?_
        rintro e w13 ⟨rfl, b13⟩
        have q13 := q12.below b13 q12.lt
        have B13 := B12.trans (b13.mono B12.size)
        have o13 := o12.kept (grown_of_below b13 none) (RowT.none _ _)
        clear q12 q12' o12 HCo e12
        generalize hcb : decide (cI ≤ qu) = cb at *
        have Hcb := Lib.hid hcb
        go_wp2_with fail
        with_reducible refine (must_e q _ 0 _ _ (by decide) _ q13).mono ?_
        rintro e w14 ⟨rfl, q14, g14⟩
        have B14 := grown_below B13 hqw B13.size g14
        have o14 := o13.kept g14 (RowT.blk q13 _ (by decide))
        clear q13 o13 hcb Hcb
        have HEx := HE q _ _ _ ⟨_, _, _, rfl⟩ (KeepC.of_below B14) q14
        cases cb with
        | true =>
          have hE : E = 0 := hcodeH.out
          subst hE
          have hX : X = I := hsrH.out
          subst hX
          have ez : andE 0 true 104 = 0 := rfl
          rw [ez, if_pos rfl] at HEx
          clear hcodeH hsrH HE q14 ez
          go_wp2_with fail
          with_reducible refine HEx.mono ?_
          rintro e w15 ⟨rfl, b15⟩
          have o15 := o14.kept (grown_of_below b15 none) (RowT.none _ _)
          go_wp2_with fail
          go_ret2
          exact ⟨_, rfl, o15, B14.trans (b15.mono B14.size)⟩
        | false =>
          have hE : E = 104 := hcodeH.out
          subst hE
          have hX : X = [] := hsrH.out
          subst hX
          have ez : andE 0 false 104 = 104 := rfl
          rw [ez, if_neg (by decide)] at HEx
          clear hcodeH hsrH HE q14 ez o14
          go_wp2_with fail
          with_reducible refine HEx.mono ?_
          rintro e w15 ⟨rfl, b15⟩
          go_wp2_with fail
          go_ret2
          exact ⟨_, rfl, ObjsO.nil _ _ _ _, B14.trans (b15.mono B14.size)⟩
      · have h20z : ¬ (N : Int) ≤ 20 := by omega
        have h20b : decide (N ≤ 20) = false := by simpa using h20
        rw [h20b, Bool.false_and] at hcodeH
        have hE : E = 104 := hcodeH.out
        subst hE
        have hX : X = [] := hsrH.out
        subst hX
        clear hcodeH hsrH hob hfit h20b hqb HINS
        go_wp2_with fail
        with_reducible refine (must_e q _ 0 _ _ (by decide) _ q12).mono ?_
        rintro e w14 ⟨rfl, q14, g14⟩
        have B14 := grown_below B12 hqw B12.size g14
        have HEx := HE q _ _ _ ⟨_, _, _, rfl⟩ (KeepC.of_below B14) q14
        have ez : andE 0 false 104 = 104 := rfl
        rw [ez, if_neg (by decide)] at HEx
        clear HE q14 ez q12 q12' o12 e12
        go_wp2_with fail
        with_reducible refine HEx.mono ?_
        rintro e w15 ⟨rfl, b15⟩
        go_wp2_with fail
        go_ret2
        exact ⟨_, rfl, ObjsO.nil _ _ _ _, B14.trans (b15.mono B14.size)⟩
  · have hk1b : (k == 1) = false := by simpa using hk1
    have hk2b : (k == 2) = false := by simpa using hk2
    have hkb : ((k : Int) == 1 || (k : Int) == 2) = false := by rw [hk1b, hk2b]; rfl
    rw [hkb] at hcodeH hobj
    clear hkb
    go_wp2_with fail
    with_reducible refine (must_e q _ _ _ _ (by decide) _ q3).mono ?_
    rintro e w4 ⟨rfl, q4, g4⟩
    have B4 := grown_below B3 hqw B3.size g4
    have o4 := o3.kept g4 (RowT.blk q3 _ (by decide))
    clear q3 o3
    generalize hc2 : andE c1 false 103 = c2 at *
    have Hc2 := Lib.hid hc2
    clear hc2
    go_wp2_with fail
    with_reducible refine (HF _ (KeepC.of_below B4)).mono ?_
    rintro e w5 ⟨rfl, b5⟩
    have q5 := q4.below b5 q4.lt
    have B5 := B4.trans (b5.mono B4.size)
    have o5 := o4.kept (grown_of_below b5 none) (RowT.none _ _)
    clear q4 o4
    generalize hfb : decide (fs < 0) = fb at *
    have Hfb := Lib.hid hfb
    go_wp2_with fail
    with_reducible refine (must_e q _ _ _ _ (by decide) _ q5).mono ?_
    rintro e w6 ⟨rfl, q6, g6⟩
    have B6 := grown_below B5 hqw B5.size g6
    have o6 := o5.kept g6 (RowT.blk q5 _ (by decide))
    clear q5 o5
    clear hfb
    generalize hc3 : andE c2 fb 101 = c3 at *
    have Hc3 := Lib.hid hc3
    clear hc3
    simp only [Bool.false_eq_true, if_false] at HM
    go_wp2_with fail
    with_reducible refine (HM _ (KeepC.of_below B6)).mono ?_
    rintro e w7 ⟨rfl, b7⟩
    have q7 := q6.below b7 q6.lt
    have B7 := B6.trans (b7.mono B6.size)
    have o7 := o6.kept (grown_of_below b7 none) (RowT.none _ _)
    clear q6 o6 HM HF
    have n8 := Blk.new w7 #[.int .i64 0, .slice none 0 0] 46
    have b8 : Below w7.heap.size w7 (w7.alloc (.cells #[.int .i64 0, .slice none 0 0] 46)) := (Below.refl _ w7).alloc (Nat.le_refl _) _
    go_wp2_with fail
    generalize w7.alloc (.cells #[.int .i64 0, .slice none 0 0] 46) = w8 at *
    have q8 := q7.below b8 q7.lt
    have B8 := B7.trans (b8.mono B7.size)
    have o8 := o7.kept (grown_of_below b8 none) (RowT.none _ _)
    clear q7 o7
    have hrb : (false && ((k : Int) == 2 || (m == 0))) = false := by rfl
    rw [hrb] at hcodeH hobj
    clear hrb
    with_reducible refine (must_e q _ _ _ _ (by decide) _ q8).mono ?_
    rintro e w9 ⟨rfl, q9, g9⟩
    have B9 := grown_below B8 hqw B8.size g9
    have o9 := o8.kept g9 (RowT.blk q8 _ (by decide))
    have n9 : Blk w9 w7.heap.size #[.int .i64 0, .slice none 0 0] 46 := n8.kept g9 (fun e => by have := q8.lt; injection e with e; subst e; exact absurd (n8.symm.trans q8) (by simp))
    clear q8 o8 n8
    generalize hc4 : andE c3 false 2 = c4 at *
    have Hc4 := Lib.hid hc4
    clear hc4
    obtain ⟨a1, cp1, rfl, -⟩ := o9.view.at
    have hqb : ∀ (v : Value) (e : Int) (W : World), Blk W q #[v, errE e] 71 → W.cell? ⟨q, 1, none⟩ = some (errE e) ∧ W.cell? ⟨q, 0, none⟩ = some v := fun v e W h => ⟨(h.cell 1).trans rfl, (h.cell 0).trans rfl⟩
    have h4 : c4 ≠ 0 := fun h => by have := and_chain (Hc4.out.trans h) Hc3.out Hc2.out Hc1.out; simp at this
    have hE : E = c4 := by rw [hcodeH.out]; unfold andE; rw [if_neg h4]
    have hX : X = [] := by rw [hsrH.out, hE, if_neg h4]
    subst hX
    subst hE
    have HEx := HE q _ E _ ⟨_, _, _, rfl⟩ (KeepC.of_below B9) q9
    rw [if_neg h4] at HEx
    have e9 := (hqb _ _ _ q9).1
    have ew : errE E = wrongV E := by unfold errE; rw [if_neg h4]
    rw [ew] at e9
    clear hcodeH hsrH HE HS hfacts hobj Hc4 Hc3 Hc2 Hc1 hqb ew h4
    go_wp2_with fail
    with_reducible refine HEx.mono ?_
    rintro e w10 ⟨rfl, b10⟩
    go_wp2_with fail
    go_ret2
    exact ⟨_, rfl, ObjsO.nil _ _ _ _, B9.trans (b10.mono B9.size)⟩
  · have hk1b : (k == 1) = false := by simpa using hk1
    have hk2b : (k == 2) = false := by simpa using hk2
    have hkb : ((k : Int) == 1 || (k : Int) == 2) = false := by rw [hk1b, hk2b]; rfl
    rw [hkb] at hcodeH hobj
    clear hkb
    go_wp2_with fail
    with_reducible refine (must_e q _ _ _ _ (by decide) _ q3).mono ?_
    rintro e w4 ⟨rfl, q4, g4⟩
    have B4 := grown_below B3 hqw B3.size g4
    have o4 := o3.kept g4 (RowT.blk q3 _ (by decide))
    clear q3 o3
    generalize hc2 : andE c1 false 103 = c2 at *
    have Hc2 := Lib.hid hc2
    clear hc2
    go_wp2_with fail
    with_reducible refine (HF _ (KeepC.of_below B4)).mono ?_
    rintro e w5 ⟨rfl, b5⟩
    have q5 := q4.below b5 q4.lt
    have B5 := B4.trans (b5.mono B4.size)
    have o5 := o4.kept (grown_of_below b5 none) (RowT.none _ _)
    clear q4 o4
    generalize hfb : decide (fs < 0) = fb at *
    have Hfb := Lib.hid hfb
    go_wp2_with fail
    with_reducible refine (must_e q _ _ _ _ (by decide) _ q5).mono ?_
    rintro e w6 ⟨rfl, q6, g6⟩
    have B6 := grown_below B5 hqw B5.size g6
    have o6 := o5.kept g6 (RowT.blk q5 _ (by decide))
    clear q5 o5
    clear hfb
    generalize hc3 : andE c2 fb 101 = c3 at *
    have Hc3 := Lib.hid hc3
    clear hc3
    simp only [if_true] at HM
    go_wp2_with fail
    with_reducible refine (HM _ (KeepC.of_below B6)).mono ?_
    rintro e w7 ⟨rfl, b7⟩
    have q7 := q6.below b7 q6.lt
    have B7 := B6.trans (b7.mono B6.size)
    have o7 := o6.kept (grown_of_below b7 none) (RowT.none _ _)
    clear q6 o6 HM HF
    have n8 := Blk.new w7 #[.int .i64 m, .slice none 0 0] 46
    have b8 : Below w7.heap.size w7 (w7.alloc (.cells #[.int .i64 m, .slice none 0 0] 46)) := (Below.refl _ w7).alloc (Nat.le_refl _) _
    go_wp2_with fail
    generalize w7.alloc (.cells #[.int .i64 m, .slice none 0 0] 46) = w8 at *
    have q8 := q7.below b8 q7.lt
    have B8 := B7.trans (b8.mono B7.size)
    have o8 := o7.kept (grown_of_below b8 none) (RowT.none _ _)
    clear q7 o7
    generalize hmz : (m == 0) = mz at *
    clear hmz
    have hrb : (true && ((k : Int) == 2 || mz)) = mz := by rw [hk2b]; rfl
    rw [hrb] at hcodeH hobj
    clear hrb
    go_wp2_with fail
    with_reducible refine (must_e q _ _ _ _ (by decide) _ q8).mono ?_
    rintro e w9 ⟨rfl, q9, g9⟩
    have B9 := grown_below B8 hqw B8.size g9
    have o9 := o8.kept g9 (RowT.blk q8 _ (by decide))
    have n9 : Blk w9 w7.heap.size #[.int .i64 m, .slice none 0 0] 46 := n8.kept g9 (fun e => by have := q8.lt; injection e with e; subst e; exact absurd (n8.symm.trans q8) (by simp))
    clear q8 o8 n8
    generalize hc4 : andE c3 mz 2 = c4 at *
    have Hc4 := Lib.hid hc4
    clear hc4
    obtain ⟨a1, cp1, rfl, -⟩ := o9.view.at
    have hqb : ∀ (v : Value) (e : Int) (W : World), Blk W q #[v, errE e] 71 → W.cell? ⟨q, 1, none⟩ = some (errE e) ∧ W.cell? ⟨q, 0, none⟩ = some v := fun v e W h => ⟨(h.cell 1).trans rfl, (h.cell 0).trans rfl⟩
    have h4 : c4 ≠ 0 := fun h => by have := and_chain (Hc4.out.trans h) Hc3.out Hc2.out Hc1.out; simp at this
    have hE : E = c4 := by rw [hcodeH.out]; unfold andE; rw [if_neg h4]
    have hX : X = [] := by rw [hsrH.out, hE, if_neg h4]
    subst hX
    subst hE
    have HEx := HE q _ E _ ⟨_, _, _, rfl⟩ (KeepC.of_below B9) q9
    rw [if_neg h4] at HEx
    have e9 := (hqb _ _ _ q9).1
    have ew : errE E = wrongV E := by unfold errE; rw [if_neg h4]
    rw [ew] at e9
    clear hcodeH hsrH HE HS hfacts hobj Hc4 Hc3 Hc2 Hc1 hqb ew h4
    go_wp2_with fail
    with_reducible refine HEx.mono ?_
    rintro e w10 ⟨rfl, b10⟩
    go_wp2_with fail
    go_ret2
    exact ⟨_, rfl, ObjsO.nil _ _ _ _, B9.trans (b10.mono B9.size)⟩
  · subst hk1
    have hkb : ((1 : Int) == 1 || (1 : Int) == 2) = true := by decide
    rw [hkb] at hcodeH hobj
    clear hkb
    go_wp2_with fail
    with_reducible refine (must_e q _ _ _ _ (by decide) _ q3).mono ?_
    rintro e w4 ⟨rfl, q4, g4⟩
    have B4 := grown_below B3 hqw B3.size g4
    have o4 := o3.kept g4 (RowT.blk q3 _ (by decide))
    clear q3 o3
    generalize hc2 : andE c1 true 103 = c2 at *
    have Hc2 := Lib.hid hc2
    clear hc2
    go_wp2_with fail
    with_reducible refine (HF _ (KeepC.of_below B4)).mono ?_
    rintro e w5 ⟨rfl, b5⟩
    have q5 := q4.below b5 q4.lt
    have B5 := B4.trans (b5.mono B4.size)
    have o5 := o4.kept (grown_of_below b5 none) (RowT.none _ _)
    clear q4 o4
    generalize hfb : decide (fs < 0) = fb at *
    have Hfb := Lib.hid hfb
    go_wp2_with fail
    with_reducible refine (must_e q _ _ _ _ (by decide) _ q5).mono ?_
    rintro e w6 ⟨rfl, q6, g6⟩
    have B6 := grown_below B5 hqw B5.size g6
    have o6 := o5.kept g6 (RowT.blk q5 _ (by decide))
    clear q5 o5
    clear hfb
    generalize hc3 : andE c2 fb 101 = c3 at *
    have Hc3 := Lib.hid hc3
    clear hc3
    simp only [Bool.false_eq_true, if_false] at HM
    go_wp2_with fail
    with_reducible refine (HM _ (KeepC.of_below B6)).mono ?_
    rintro e w7 ⟨rfl, b7⟩
    have q7 := q6.below b7 q6.lt
    have B7 := B6.trans (b7.mono B6.size)
    have o7 := o6.kept (grown_of_below b7 none) (RowT.none _ _)
    clear q6 o6 HM HF
    have n8 := Blk.new w7 #[.int .i64 0, .slice none 0 0] 46
    have b8 : Below w7.heap.size w7 (w7.alloc (.cells #[.int .i64 0, .slice none 0 0] 46)) := (Below.refl _ w7).alloc (Nat.le_refl _) _
    go_wp2_with fail
    generalize w7.alloc (.cells #[.int .i64 0, .slice none 0 0] 46) = w8 at *
    have q8 := q7.below b8 q7.lt
    have B8 := B7.trans (b8.mono B7.size)
    have o8 := o7.kept (grown_of_below b8 none) (RowT.none _ _)
    clear q7 o7
    have hrb : (false && ((1 : Int) == 2 || (m == 0))) = false := by rfl
    rw [hrb] at hcodeH hobj
    clear hrb
    with_reducible refine (must_e q _ _ _ _ (by decide) _ q8).mono ?_
    rintro e w9 ⟨rfl, q9, g9⟩
    have B9 := grown_below B8 hqw B8.size g9
    have o9 := o8.kept g9 (RowT.blk q8 _ (by decide))
    have n9 : Blk w9 w7.heap.size #[.int .i64 0, .slice none 0 0] 46 := n8.kept g9 (fun e => by have := q8.lt; injection e with e; subst e; exact absurd (n8.symm.trans q8) (by simp))
    clear q8 o8 n8
    generalize hc4 : andE c3 false 2 = c4 at *
    have Hc4 := Lib.hid hc4
    clear hc4
    obtain ⟨a1, cp1, rfl, -⟩ := o9.view.at
    have hqb : ∀ (v : Value) (e : Int) (W : World), Blk W q #[v, errE e] 71 → W.cell? ⟨q, 1, none⟩ = some (errE e) ∧ W.cell? ⟨q, 0, none⟩ = some v := fun v e W h => ⟨(h.cell 1).trans rfl, (h.cell 0).trans rfl⟩
    have h4 : c4 ≠ 0 := fun h => by have := and_chain (Hc4.out.trans h) Hc3.out Hc2.out Hc1.out; simp at this
    have hE : E = c4 := by rw [hcodeH.out]; unfold andE; rw [if_neg h4]
    have hX : X = [] := by rw [hsrH.out, hE, if_neg h4]
    subst hX
    subst hE
    have HEx := HE q _ E _ ⟨_, _, _, rfl⟩ (KeepC.of_below B9) q9
    rw [if_neg h4] at HEx
    have e9 := (hqb _ _ _ q9).1
    have ew : errE E = wrongV E := by unfold errE; rw [if_neg h4]
    rw [ew] at e9
    clear hcodeH hsrH HE HS hfacts hobj Hc4 Hc3 Hc2 Hc1 hqb ew h4
    go_wp2_with fail
    with_reducible refine HEx.mono ?_
    rintro e w10 ⟨rfl, b10⟩
    go_wp2_with fail
    go_ret2
    exact ⟨_, rfl, ObjsO.nil _ _ _ _, B9.trans (b10.mono B9.size)⟩
  · subst hk1
    have hkb : ((1 : Int) == 1 || (1 : Int) == 2) = true := by decide
    rw [hkb] at hcodeH hobj
    clear hkb
    go_wp2_with fail
    with_reducible refine (must_e q _ _ _ _ (by decide) _ q3).mono ?_
    rintro e w4 ⟨rfl, q4, g4⟩
    have B4 := grown_below B3 hqw B3.size g4
    have o4 := o3.kept g4 (RowT.blk q3 _ (by decide))
    clear q3 o3
    generalize hc2 : andE c1 true 103 = c2 at *
    have Hc2 := Lib.hid hc2
    clear hc2
    go_wp2_with fail
    with_reducible refine (HF _ (KeepC.of_below B4)).mono ?_
    rintro e w5 ⟨rfl, b5⟩
    have q5 := q4.below b5 q4.lt
    have B5 := B4.trans (b5.mono B4.size)
    have o5 := o4.kept (grown_of_below b5 none) (RowT.none _ _)
    clear q4 o4
    generalize hfb : decide (fs < 0) = fb at *
    have Hfb := Lib.hid hfb
    go_wp2_with fail
    with_reducible refine (must_e q _ _ _ _ (by decide) _ q5).mono ?_
    rintro e w6 ⟨rfl, q6, g6⟩
    have B6 := grown_below B5 hqw B5.size g6
    have o6 := o5.kept g6 (RowT.blk q5 _ (by decide))
    clear q5 o5
    clear hfb
    generalize hc3 : andE c2 fb 101 = c3 at *
    have Hc3 := Lib.hid hc3
    clear hc3
    simp only [if_true] at HM
    go_wp2_with fail
    with_reducible refine (HM _ (KeepC.of_below B6)).mono ?_
    rintro e w7 ⟨rfl, b7⟩
    have q7 := q6.below b7 q6.lt
    have B7 := B6.trans (b7.mono B6.size)
    have o7 := o6.kept (grown_of_below b7 none) (RowT.none _ _)
    clear q6 o6 HM HF
    have n8 := Blk.new w7 #[.int .i64 m, .slice none 0 0] 46
    have b8 : Below w7.heap.size w7 (w7.alloc (.cells #[.int .i64 m, .slice none 0 0] 46)) := (Below.refl _ w7).alloc (Nat.le_refl _) _
    go_wp2_with fail
    generalize w7.alloc (.cells #[.int .i64 m, .slice none 0 0] 46) = w8 at *
    have q8 := q7.below b8 q7.lt
    have B8 := B7.trans (b8.mono B7.size)
    have o8 := o7.kept (grown_of_below b8 none) (RowT.none _ _)
    clear q7 o7
    generalize hmz : (m == 0) = mz at *
    clear hmz
    have hrb : (true && ((1 : Int) == 2 || mz)) = mz := by simp
    rw [hrb] at hcodeH hobj
    clear hrb
    go_wp2_with fail
    with_reducible refine (must_e q _ _ _ _ (by decide) _ q8).mono ?_
    rintro e w9 ⟨rfl, q9, g9⟩
    have B9 := grown_below B8 hqw B8.size g9
    have o9 := o8.kept g9 (RowT.blk q8 _ (by decide))
    have n9 : Blk w9 w7.heap.size #[.int .i64 m, .slice none 0 0] 46 := n8.kept g9 (fun e => by have := q8.lt; injection e with e; subst e; exact absurd (n8.symm.trans q8) (by simp))
    clear q8 o8 n8
    generalize hc4 : andE c3 mz 2 = c4 at *
    have Hc4 := Lib.hid hc4
    clear hc4
    obtain ⟨a1, cp1, rfl, -⟩ := o9.view.at
    have hqb : ∀ (v : Value) (e : Int) (W : World), Blk W q #[v, errE e] 71 → W.cell? ⟨q, 1, none⟩ = some (errE e) ∧ W.cell? ⟨q, 0, none⟩ = some v := fun v e W h => ⟨(h.cell 1).trans rfl, (h.cell 0).trans rfl⟩
    by_cases h4 : c4 = 0
    rotate_left 1
    · have hE : E = c4 := by rw [hcodeH.out]; unfold andE; rw [if_neg h4]
      have hX : X = [] := by rw [hsrH.out, hE, if_neg h4]
      subst hX
      subst hE
      have HEx := HE q _ E _ ⟨_, _, _, rfl⟩ (KeepC.of_below B9) q9
      rw [if_neg h4] at HEx
      have e9 := (hqb _ _ _ q9).1
      have ew : errE E = wrongV E := by unfold errE; rw [if_neg h4]
      rw [ew] at e9
      clear hcodeH hsrH HE HS hfacts hobj Hc4 Hc3 Hc2 Hc1 hqb ew h4
      go_wp2_with fail
      with_reducible refine HEx.mono ?_
      rintro e w10 ⟨rfl, b10⟩
      go_wp2_with fail
      go_ret2
      exact ⟨_, rfl, ObjsO.nil _ _ _ _, B9.trans (b10.mono B9.size)⟩
    · have hz := and_chain (Hc4.out.trans h4) Hc3.out Hc2.out Hc1.out
      obtain ⟨hz0, hz1, -, hz2, hz3⟩ := hz
      have hsp := hsp0.out hz0
      have HSx := HS.out hsp _ w9 o9.view
      have hob := hobj.out hz0 hz1 (by decide) hz2 hz3
      subst h4
      have e9 : w9.cell? ⟨q, 1, none⟩ = some .nilIface := (hqb _ _ _ q9).1
      have e90 := (hqb _ _ _ q9).2
      clear HS hobj hsp0 Hc4 Hc3 Hc2 Hc1 hfacts e0
      have hins : insS l (mkO n 1 m) = l.take (posS l n) ++ ([mkO n 1 m] ++ l.drop (posS l n)) := rfl
      have HINS := Lib.hid hins
      clear hins
      have hfit : Hid (l.length + 1 ≤ 20 → FitsS (insS l (mkO n 1 m))) := fun h => ⟨by rw [ins_len]; omega, fun x hx => by
        rcases ins_mem.1 hx with rfl | hx
        · exact ⟨hn, Nat.zero_le _, Nat.zero_le _, fun s hs => by cases hs⟩
        · exact hl.2 x hx⟩
      have hilen := ins_len l (mkO n 1 m)
      generalize hI : insS l (mkO n 1 m) = I at *
      clear hI
      generalize posS l n = p at *
      generalize thereS l n = th at *
      go_wp2_with fail
      with_reducible refine HSx.mono ?_
      rintro e w10 ⟨rfl, b10⟩
      have q10 := q9.below b10 q9.lt
      have n10 := n9.below b10 n9.lt
      have B10 := B9.trans (b10.mono B9.size)
      have o10 := o9.kept (grown_of_below b10 none) (RowT.none _ _)
      have d0 := n10.cell 0
      have d1 := n10.cell 1
      simp at d0 d1
      clear q9 o9 n9 HSx e9 e90
      have b11 : Below w10.heap.size w10 (w10.alloc (.cells #[.string ⟨n.toArray⟩, .int .i64 1, .string ⟨#[]⟩, .int .i64 m, .slice none 0 0] 48)) := (Below.refl _ w10).alloc (Nat.le_refl _) _
      have x11 : ObjsO w.heap.size 48 9 (w10.alloc (.cells #[.string ⟨n.toArray⟩, .int .i64 1, .string ⟨#[]⟩, .int .i64 m, .slice none 0 0] 48)) (.slice (some ⟨w10.heap.size, 0, none⟩) 1 1) [mkO n 1 m] := ⟨_, World.ownsRow_lit w10 #[.string ⟨n.toArray⟩, .int .i64 1, .string ⟨#[]⟩, .int .i64 m, .slice none 0 0] 1 B10.size (by decide) rfl, Rows.one ⟨_, rfl, StrsO.nil _ _ _⟩⟩
      have q11 := q10.below b11 q10.lt
      have B11 := B10.trans (b11.mono B10.size)
      have o11 := o10.kept (grown_of_below b11 none) (RowT.none _ _)
      have HI := insert_any w.heap.size q _ _ l (mkO n 1 m) p hle hlm _ 1 _ q11 o11 x11 B11.size
      rw [← HINS.out] at HI
      clear q10 o10 n10 x11 o11
      go_wp2_with fail
      generalize w10.alloc (.cells #[.string ⟨n.toArray⟩, .int .i64 1, .string ⟨#[]⟩, .int .i64 m, .slice none 0 0] 48) = w11 at *
      with_reducible refine HI.mono ?_
      rintro e w12 ⟨rfl, v12, q12, o12, g12⟩
      have B12 := grown_below B11 hqw B11.size g12
      obtain ⟨a12, c12, rfl, -⟩ := o12.view.at
      have e12 := (hqb _ 0 _ q12).2
      clear HI q11 d0 d1
      rw [hilen] at *
      clear hilen
      have hNz : l.length + 1 ≤ 1000001 := by omega
      generalize hNl : l.length + 1 = N at *
      clear hNl
      have q12' : Blk w12 q #[.slice a12 N c12, .nilIface] 71 := q12
      by_cases h20 : N ≤ 20
      · have h20z : (N : Int) ≤ 20 := by omega
        have h20b : decide (N ≤ 20) = true := by simpa using h20
        rw [h20b, Bool.true_and] at hcodeH
        have HCo := cost_any q I (hfit.out h20) (small_of (hob h20)) _ w12 e12 o12.view
        generalize costL I = cI at *
        clear hob hfit h20b hqb HINS
        go_wp2_with fail
        with_reducible refine HCo.mono ?_
        rintro e w13 ⟨rfl, b13⟩
        have q13 := q12.below b13 q12.lt
        have B13 := B12.trans (b13.mono B12.size)
        have o13 := o12.kept (grown_of_below b13 none) (RowT.none _ _)
        clear q12 q12' o12 HCo e12
        generalize hcb : decide (cI ≤ qu) = cb at *
        have Hcb := Lib.hid hcb
        go_wp2_with fail
        with_reducible refine (must_e q _ 0 _ _ (by decide) _ q13).mono ?_
        rintro e w14 ⟨rfl, q14, g14⟩
        have B14 := grown_below B13 hqw B13.size g14
        have o14 := o13.kept g14 (RowT.blk q13 _ (by decide))
        clear q13 o13 hcb Hcb
        have HEx := HE q _ _ _ ⟨_, _, _, rfl⟩ (KeepC.of_below B14) q14
        cases cb with
        | true =>
          have hE : E = 0 := hcodeH.out
          subst hE
          have hX : X = I := hsrH.out
          subst hX
          have ez : andE 0 true 104 = 0 := rfl
          rw [ez, if_pos rfl] at HEx
          clear hcodeH hsrH HE q14 ez
          go_wp2_with fail
          with_reducible refine HEx.mono ?_
          rintro e w15 ⟨rfl, b15⟩
          have o15 := o14.kept (grown_of_below b15 none) (RowT.none _ _)
          go_wp2_with fail
          go_ret2
          exact ⟨_, rfl, o15, B14.trans (b15.mono B14.size)⟩
        | false =>
          have hE : E = 104 := hcodeH.out
          subst hE
          have hX : X = [] := hsrH.out
          subst hX
          have ez : andE 0 false 104 = 104 := rfl
          rw [ez, if_neg (by decide)] at HEx
          clear hcodeH hsrH HE q14 ez o14
          go_wp2_with fail
          with_reducible refine HEx.mono ?_
          rintro e w15 ⟨rfl, b15⟩
          go_wp2_with fail
          go_ret2
          exact ⟨_, rfl, ObjsO.nil _ _ _ _, B14.trans (b15.mono B14.size)⟩
      · have h20z : ¬ (N : Int) ≤ 20 := by omega
        have h20b : decide (N ≤ 20) = false := by simpa using h20
        rw [h20b, Bool.false_and] at hcodeH
        have hE : E = 104 := hcodeH.out
        subst hE
        have hX : X = [] := hsrH.out
        subst hX
        clear hcodeH hsrH hob hfit h20b hqb HINS
        go_wp2_with fail
        with_reducible refine (must_e q _ 0 _ _ (by decide) _ q12).mono ?_
        rintro e w14 ⟨rfl, q14, g14⟩
        have B14 := grown_below B12 hqw B12.size g14
        have HEx := HE q _ _ _ ⟨_, _, _, rfl⟩ (KeepC.of_below B14) q14
        have ez : andE 0 false 104 = 104 := rfl
        rw [ez, if_neg (by decide)] at HEx
        clear HE q14 ez q12 q12' o12 e12
        go_wp2_with fail
        with_reducible refine HEx.mono ?_
        rintro e w15 ⟨rfl, b15⟩
        go_wp2_with fail
        go_ret2
        exact ⟨_, rfl, ObjsO.nil _ _ _ _, B14.trans (b15.mono B14.size)⟩
end Go.Proofs.YthclfkhakmcnbaaGreatDoor
