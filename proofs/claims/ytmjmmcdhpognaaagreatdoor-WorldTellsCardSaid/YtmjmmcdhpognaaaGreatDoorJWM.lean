/- Joined: SeenA; Range2; SeenB; SeenLaw; OpenPc -/
import Derived.Test.YtmjmmcdhpognaaaGreatDoorJWI
import Derived.Test.YtmjmmcdhpognaaaGreatDoorJWB
import Derived.Test.YtmjmmcdhpognaaaGreatDoorJWH
/- Walks of layer 11: the parts under a label, one by one. -/
namespace Go.Proofs.YtmjmmcdhpognaaaGreatDoor
open Go.RowKit Go.Shelf
attribute [local go_sem] Oper.semAt_some
/-- a part as it lies in memory -/
structure Item (w : World) where
  x : PartD
  a : Option Addr
  c : Nat
  ok : ObjsV w (.slice a x.l.length c) x.l
  fit : FitsS x.l
  cs : x.cs < 18446744073709551616
abbrev Item.cells {w : World} (d : Item w) : Array Value := #[.int .i64 d.x.lv, .int .u64 d.x.cs, .int .i64 d.x.ig, .slice d.a d.x.l.length d.c]
theorem rows_items {w : World} : ∀ {l : List PartD} {cs : List Value}, Rows (PartC w) l cs → (∀ x ∈ l, FitsS x.l) → (∀ x ∈ l, x.cs < 18446744073709551616) → ∃ zs : List (Item w), zs.map (·.x) = l ∧ Rows (fun (d : Item w) c => c = d.cells.toList) zs cs
  | [], cs, h, _, _ => ⟨[], rfl, h⟩
  | x :: l, cs, ⟨c, r, e, ⟨ov, e2, ho⟩, h2⟩, hf, hc => by
    obtain ⟨zs, hz, hr⟩ := rows_items h2 (fun y hy => hf y (by simp [hy])) (fun y hy => hc y (by simp [hy]))
    obtain ⟨a2, c2, rfl, -⟩ := ho.at
    exact ⟨⟨x, a2, c2, ho, hf x (by simp), hc x (by simp)⟩ :: zs, by rw [List.map_cons, hz], c, r, e, e2, hr⟩
theorem parts_items {w : World} {v : Value} {l : List PartD} (h : PartsV w v l) (hf : FitsW l) (hc : ∀ x ∈ l, x.cs < 18446744073709551616) : ∃ zs : List (Item w), zs.map (·.x) = l ∧ ∃ a cap, v = .slice a zs.length cap ∧ ∀ i (hi : i < zs.length), ∃ b o, a = some ⟨b, o, none⟩ ∧ b < w.heap.size ∧
    w.cell? ⟨b, o + i * 4, none⟩ = some (.int .i64 zs[i].x.lv) ∧ w.cell? ⟨b, o + i * 4 + 1, none⟩ = some (.int .u64 zs[i].x.cs) ∧ w.cell? ⟨b, o + i * 4 + 2, none⟩ = some (.int .i64 zs[i].x.ig) ∧ w.cell? ⟨b, o + i * 4 + 3, none⟩ = some (.slice zs[i].a zs[i].x.l.length zs[i].c) := by
  obtain ⟨cs, hs, hr⟩ := h
  obtain ⟨zs, hz, hzr⟩ := rows_items hr hf.2 hc
  have hlen : zs.length = l.length := by rw [← hz, List.length_map]
  obtain ⟨_, a, cap, rfl, hcap, h4⟩ := hs
  refine ⟨zs, hz, a, cap, by rw [hlen], fun i hi => ?_⟩
  rcases h4 with h0 | ⟨b, o, rfl, hb, hcell⟩
  · omega
  · obtain ⟨c, rfl, hj⟩ := Rows.at (k := 4) (fun d c hc => by rw [hc]; rfl) hzr i hi
    have at_ : ∀ j u, j < 4 → cs[i * 4 + j]? = some u → w.cell? ⟨b, o + i * 4 + j, none⟩ = some u := by
      intro j u hj5 hu
      obtain ⟨hlt, rfl⟩ := List.getElem?_eq_some_iff.1 hu
      rw [Nat.add_assoc]; exact hcell _ hlt
    exact ⟨b, o, rfl, hb, at_ 0 _ (by omega) (hj 0 (by omega)), at_ 1 _ (by omega) (hj 1 (by omega)), at_ 2 _ (by omega) (hj 2 (by omega)), at_ 3 _ (by omega) (hj 3 (by omega))⟩
theorem underF_any (b : Nat) (a : LblD) (w : World) : Calls Tryz.prog 29 #[.pointer (some ⟨b, 0, none⟩), lblV a] w fun e w' => e = .returned (.func (.func 54) #[] #[.pointer (some ⟨w.heap.size, 0, none⟩), .pointer (some ⟨w.heap.size + 1, 0, none⟩)]) ∧ (w.alloc (.cells #[.pointer (some ⟨b, 0, none⟩)] 52)).alloc (.cells #[.int .i64 a.lv, .int .u64 a.cs, .int .i64 a.ig] 25) = w' := by
  have hmf : ∀ (fn : Fn) (first cap : Array Value) (w : World), (Instr.makeFunc fn first cap).run Tryz.prog w = .ok (.func fn first cap) w := fun _ _ _ _ => rfl
  obtain ⟨l1, S1, i1⟩ := a
  go_enter Tryz.func29, Tryz.ntmps29
  go_wp2
  go_ret
  exact ⟨rfl, rfl⟩
def okU {w : World} (a : LblD) (d : Item w) : Bool := underB d.x.lab a
set_option maxRecDepth 100000 in
set_option maxHeartbeats 4000000 in
theorem under1_seq (w0 : World) (n b1 b2 ob m q : Nat) (zs : List (Item w0)) (hlz : zs.length ≤ 1000000) (lb : LblD) (hlb : lb.cs < 18446744073709551616) (ao : Option Addr) (cap : Nat) (W : World) (hb : Boxed W b1 52 (.pointer (some ⟨q, 0, none⟩))) (hq : W.cell? ⟨q, 0, none⟩ = some (.slice ao zs.length cap)) (hn : Blk W b2 #[.int .i64 lb.lv, .int .u64 lb.cs, .int .i64 lb.ig] 25)
    (hz : ∀ i (hi : i < zs.length), ∃ b o, ao = some ⟨b, o, none⟩ ∧ b < m ∧ b ≠ ob ∧ W.cell? ⟨b, o + i * 4, none⟩ = some (.int .i64 zs[i].x.lv) ∧ W.cell? ⟨b, o + i * 4 + 1, none⟩ = some (.int .u64 zs[i].x.cs) ∧ W.cell? ⟨b, o + i * 4 + 2, none⟩ = some (.int .i64 zs[i].x.ig) ∧ W.cell? ⟨b, o + i * 4 + 3, none⟩ = some (.slice zs[i].a zs[i].x.l.length zs[i].c))
    (hmW : m ≤ W.heap.size) (hb2 : b2 < m) (hb2o : b2 ≠ ob) :
    SeqG Fence.wide n Tryz.prog 54 #[.pointer (some ⟨b1, 0, none⟩), .pointer (some ⟨b2, 0, none⟩)] (fun d : Item w0 => #[Value.agg d.cells]) (fun A B => A.grownBy B none) (keepS m ob) (fun xs _ => xs = zs.filter (okU lb)) (fun _ _ => True) zs.length W := by
  intro lp J Jx hJ hJx hY h0
  have hc := hb.cell
  have HU := fun (x : PartD) hx W => under_any x.lab lb hx hlb W
  (refine callsIn_of_wp Tryz.func54 rfl trivial ?_ rfl; simp only [Tryz.ntmps54, List.size_toArray, List.length_cons, List.length_nil, Nat.reduceAdd, Nat.reduceSub, Array.replicate_succ, Array.replicate_zero, List.push_toArray, List.append_toArray, List.nil_append, List.cons_append])
  refine wpIn_scope_w ?_
  gi_wp2
  refine wpIn_label ?_
  gi_wp2
  clear hc hq
  gi_loopw [11] (fun t wr => ∃ k : Nat, k ≤ zs.length ∧ t = .int .i64 k ∧ J ((zs.take k).filter (okU lb)) wr ∧ m ≤ wr.heap.size ∧ Hid (∀ g o, g < m → g ≠ ob → wr.cell? ⟨g, o, none⟩ = W.cell? ⟨g, o, none⟩)) (fun t wr => zs.length - (intOf t).toNat)
  case atStart => exact ⟨0, Nat.zero_le _, rfl, h0, hmW, fun _ _ _ _ => rfl⟩
  case round =>
    obtain ⟨k, hk, rfl, hj, hmw, hC⟩ := hrel
    by_cases hlt : k < zs.length
    · have hltz : (k : Int) < (zs.length : Int) := by omega
      obtain ⟨g, o, rfl, hg1, hg2, k0, k1, k2, k3⟩ := hz k hlt
      have hCo := hC.out
      rw [← hCo _ _ hg1 hg2] at k0 k1 k2 k3
      have hgw : g < wr.heap.size := by omega
      have hlen2 : ((zs.take k).filter (okU lb)).length < zs.length := Nat.lt_of_le_of_lt (List.length_filter_le _ _) (by rw [List.length_take]; omega)
      have hts : (zs.take (k + 1)).filter (okU lb) = (zs.take k).filter (okU lb) ++ (if okU lb zs[k] then [zs[k]] else []) := by
        rw [List.take_succ_eq_append_getElem hlt, List.filter_append]
        congr 1
        cases hx : okU lb zs[k] <;> simp [hx]
      have hn0 := (hCo b2 0 hb2 hb2o).trans ((hn.cell 0).trans rfl)
      have hn1 := (hCo b2 1 hb2 hb2o).trans ((hn.cell 1).trans rfl)
      have hn2 := (hCo b2 2 hb2 hb2o).trans ((hn.cell 2).trans rfl)
      obtain ⟨d, hd⟩ : ∃ d, zs[k] = d := ⟨_, rfl⟩
      rw [hd] at k0 k1 k2 k3 hts
      clear hd hz hCo
      have hY1 := fun V hJV => hY ((zs.take k).filter (okU lb)) d V hJV hlen2
      have hHU := fun W => HU d.x d.cs W
      clear hlen2 HU
      have hbz : b2 < wr.heap.size := by omega
      have gA := World.grownBy_alloc wr (.cells d.cells 46) none
      have bA := Blk.new wr d.cells 46
      have hj1 := hJ _ _ _ hj gA
      have hC1 : Hid (∀ g o, g < m → g ≠ ob → (wr.alloc (.cells d.cells 46)).cell? ⟨g, o, none⟩ = W.cell? ⟨g, o, none⟩) := fun g' o' h1 h2 => (World.cell?_of_block (w := wr) (a := ⟨g', o', none⟩) (gA.block g' (by omega) (by simp))).trans (hC.out g' o' h1 h2)
      have hsz : m ≤ (wr.alloc (.cells d.cells 46)).heap.size := Nat.le_trans hmw gA.size
      obtain ⟨x, a2, c2, dok, dfit, dcs⟩ := d
      obtain ⟨lv, S, ig, pl⟩ := x
      dsimp only [PartD.lab, Item.cells] at *
      gi_wp2_with fail
      refine ⟨trivial, fun h => (by cases h), ?_⟩
      refine (callsIn_wide.2 (hHU _)).mono ?_
      rintro e W2 ⟨rfl, hu2⟩
      have g2 := grown_of_below hu2 none
      have hj2 := hJ _ _ _ hj1 g2
      have hsz2 := Nat.le_trans hsz g2.size
      have hC2 : Hid (∀ g o, g < m → g ≠ ob → W2.cell? ⟨g, o, none⟩ = W.cell? ⟨g, o, none⟩) := fun g' o' h1 h2 => ((KeepC.of_below hu2 |> fun _ => World.cell?_of_block (w := wr.alloc (.cells #[.int .i64 lv, .int .u64 S, .int .i64 ig, .slice a2 pl.length c2] 46)) (a := ⟨g', o', none⟩) (hu2.block g' (by omega)))).trans (hC1.out g' o' h1 h2)
      have bB := bA.below hu2 bA.lt
      have f0 := bB.cell 0
      have f1 := bB.cell 1
      have f2 := bB.cell 2
      have f3 := bB.cell 3
      simp at f0 f1 f2 f3
      clear hj hj1 hC hC1 hsz bA gA hHU hn0 hn1 hn2 k0 k1 k2 k3 hu2 g2 bB
      generalize hok : okU lb (⟨⟨lv, S, ig, pl⟩, a2, c2, dok, dfit, dcs⟩ : Item w0) = okb at hts
      have hok2 : underB ⟨lv, S, ig⟩ lb = okb := hok
      rw [hok2]
      clear hok hok2
      cases okb with
      | false =>
        simp only [Bool.false_eq_true, if_false, List.append_nil] at hts
        clear hY1
        gi_wp2
        refine ⟨fun f h => (by cases h), ?_⟩
        gi_wp2
        go_roundw
        case rel => exact ⟨k + 1, by omega, by go_num, by rw [hts]; exact hj2, hsz2, hC2⟩
        case measure => simp [intOf]; omega
      | true =>
        simp only [if_true] at hts
        have HTS := Lib.hid hts
        clear hts
        obtain ⟨fn, tmps, assign, body, hy, hR⟩ := hY1 W2 hj2
        have hRH := Lib.hid hR
        clear hR hY1 hj2
        gi_wp2
        refine ⟨fun h => (by cases h), hRH.out.mono ?_⟩
        rintro e V (⟨rfl, hj3, hk3, hsz3⟩ | ⟨rfl, hj3⟩)
        · gi_wp2
          go_roundw
          case rel => exact ⟨k + 1, by omega, by go_num, by rw [HTS.out]; exact hj3, Nat.le_trans hsz2 hsz3, fun g' o' h1 h2 => (World.cell?_of_block (w := W2) (a := ⟨g', o', none⟩) (hk3 _ h1 h2)).trans (hC2.out g' o' h1 h2)⟩
          case measure => simp [intOf]; omega
        · gi_wp2
          simp only [Exit.noGoto_normal]
          go_end0
          exact ⟨⟨_, rfl⟩, .inr ⟨_, trivial, hj3⟩⟩
    · have hltz : ¬ (k : Int) < (zs.length : Int) := by omega
      have hkl : k = zs.length := by omega
      subst hkl
      rw [List.take_of_length_le (Nat.le_refl _)] at hj
      clear hz
      gi_wp2
      go_end0
      exact ⟨⟨_, rfl⟩, .inl hj⟩
end Go.Proofs.YtmjmmcdhpognaaaGreatDoor
/- Range over a function whose round lays its variables in blocks of their own. -/
namespace Go.Proofs.YtmjmmcdhpognaaaGreatDoor
open Go.RowKit
section
variable {F : Fence} {n : Nat} {P : Program}
/-- as range_law, where the assignment of a round's variables may lay blocks (a variable that is captured): R: what the frame and the world are behind it -/
theorem range_law2 {α : Type} {g : Operand} {ps : Array Tmp} {assign body : Code} {Q : Exit → Act → World → Prop} {a : Act} {w : World}
    (hro : F.round = none) (h1 : 1 ≤ n) {gf : Nat} {lb : Array Value} (hg : a.eval g = .func (.func gf) #[] lb) (hFg : F.fn gf) (eg : ∀ args w, (callFunc gf args).run P w = .ok (.enter gf args) w)
    {encs : α → Array Value} {G Kp : World → World → Prop} {S Sp : List α → World → Prop} {N : Nat}
    (hseq : ∀ W, Below w.heap.size w W → W.heap.size = w.heap.size + 2 → SeqG F (n - 1) P gf lb encs G Kp S Sp N W)
    (hKt : ∀ {A B C : World}, Kp A B → Kp B C → Kp A C) (hKb : ∀ W l o o', w.heap.size ≤ l → W.heap[l]? = some o → o.isCells = false → Kp W (W.putObj l o'))
    (hGk : ∀ A B, G A B → Keeps w.heap.size A B) (hps : ∀ x, (encs x).size = ps.size)
    (I : List α → World → Prop) (Ix : Code → List α → World → Prop) (hI : Bears w.heap.size I) (hIx : ∀ c, Bears w.heap.size (Ix c)) (hS : Bears w.heap.size S) (hSp : Bears w.heap.size Sp)
    (hIG : ∀ s A B, I s A → G A B → I s B) (hIxG : ∀ c s A B, Ix c s A → G A B → Ix c s B) (h0 : I [] w) (R : α → Act → World → Prop) (hRp : ∀ x b, Bears w.heap.size (fun (_ : Unit) W => R x b W))
    (hassign : ∀ (l : Nat) (pre : List α) (x : α) (W : World) (K : Act → World → Prop), I pre W → (∀ b W', R x b W' → I pre W' → Keeps w.heap.size W W' → Kp W W' → K b W') →
      assign.wpIn (F.inRound l) (n - 1 - 1) P (Exit.then K (fun _ _ _ => False)) { tmps := (ps.zip (encs x)).foldl (fun t (p, v) => t.setIfInBounds p v) a.tmps, defers := [] } W)
    (hbody : ∀ (l : Nat) (pre : List α) (x : α) (b : Act) (W : World), R x b W → I pre W → pre.length < N → body.wpIn (F.inRound l) (n - 1 - 1) P (outOf w.heap.size Kp I Ix (pre ++ [x]) W) b W)
    (hdone : ∀ (D : Nat) (xs : List α) (W : World), w.heap.size ≤ D → S xs W → I xs W → W.heap[D]? = some (.deferred (some [])) → Q .normal { a with defers := { target := .collected D, args := #[] } :: a.defers } W)
    (hstop : ∀ (D : Nat) (c : Code) (pre : List α) (W : World), w.heap.size ≤ D → Sp pre W → Ix c pre W → W.heap[D]? = some (.deferred (some [])) → c.wpIn F n P Q { a with defers := { target := .collected D, args := #[] } :: a.defers } W) :
    (Code.rangeFunc g ps assign body).wpIn F n P Q a w := by
  refine wpIn_rangeFunc fun fn hfn => ?_
  rw [hro]
  generalize hD : w.heap.size = D at *
  obtain ⟨rec, hrec⟩ : ∃ rec : LoopState → Option Code → Loop, rec = fun st pe => { state := st, pending := pe, fn, tmps := a.tmps, params := ps, assign, body, defers := D } := ⟨_, rfl⟩
  have hst : ∀ st pe, (rec st pe).state = st := fun _ _ => by rw [hrec]
  have hpe : ∀ st pe, (rec st pe).pending = pe := fun _ _ => by rw [hrec]
  obtain ⟨W1, hW1⟩ : ∃ W1, (w.alloc (.deferred (some []))).alloc (.loop (rec .ready none)) = W1 := ⟨_, rfl⟩
  have hz : (w.alloc (.deferred (some []))).heap.size = D + 1 := by rw [World.size_alloc, hD]
  have hL : W1.heap[D + 1]? = some (.loop (rec .ready none)) := by rw [← hW1, ← hz]; exact World.alloc_heap_new _ _
  have hK : W1.heap[D]? = some (.deferred (some [])) := by
    rw [← hW1, Below.heap_alloc _ _ _ (by rw [hz]; omega), ← hD]; exact World.alloc_heap_new _ _
  have hsize : W1.heap.size = D + 2 := by rw [← hW1, World.size_alloc, hz]
  have hbel : Below D w W1 := by rw [← hW1]; exact ((Below.refl D w).alloc (by omega) _).alloc (by rw [hz]; omega) _
  have hI1 : I [] W1 := by rw [← hW1]; exact hI.2 _ _ _ (hI.2 _ _ _ h0)
  refine ⟨D + 1, [{ target := .collected D, args := #[] }], W1, { target := .fn (.func gf) lb, args := #[.func (.yield (D + 1)) #[] #[]] }, W1, gf,
    #[.func (.yield (D + 1)) #[] #[]] ++ lb, W1, ?enter, ?resolve, ?leads, ?invoke, fun _ => h1, ?call⟩
  case enter => rw [← hW1, hrec, ← hD]; exact run_enterLoop_outer _ _ _ _ _
  case resolve => simp only [resolve, hg]; simp [go_sem]
  case leads => intro f' hf'; simp [Target.leads] at hf'; subst hf'; exact hFg
  case invoke => simp [invoke, go_sem, eg]
  case call =>
    refine (hseq W1 hbel hsize (D + 1)
      (fun pre W => I pre W ∧ W.heap[D + 1]? = some (.loop (rec .ready none)) ∧ W.heap[D]? = some (.deferred (some [])))
      (fun pre W => ∃ c, Ix c pre W ∧ W.heap[D + 1]? = some (.loop (rec .done (some c))) ∧ W.heap[D]? = some (.deferred (some [])))
      (fun s A B hs hg' => ⟨hIG s A B hs.1 hg', hGk A B hg' _ _ (by omega) hs.2.1 rfl, hGk A B hg' _ _ (by omega) hs.2.2 rfl⟩)
      (fun s A B ⟨c, hc, hl, hk⟩ hg' => ⟨c, hIxG c s A B hc hg', hGk A B hg' _ _ (by omega) hl rfl, hGk A B hg' _ _ (by omega) hk rfl⟩)
      ?round ⟨hI1, hL, hK⟩).mono ?behind
    case round =>
      rintro pre x W ⟨hi, hl, hk⟩ hlen
      have hlt : D + 1 < W.heap.size := (Array.getElem?_eq_some_iff.1 hl).1
      have hy := run_yield (P := P) (args := encs x) hl (by rw [hrec]; exact hps x)
      rw [hrec] at hy
      refine ⟨fn, _, assign, body, hy, roundIn_of_wpIn hfn (hassign _ pre x W _ hi (fun a₁ W₁ hR1 hi hkeep hkp => ⟨_, run_beginRound (hkeep _ _ (by omega) hl rfl) (hst _ _), ?_⟩))⟩
      replace hl := hkeep _ _ (by omega) hl rfl
      replace hk := hkeep _ _ (Nat.le_refl _) hk rfl
      have hlt : D + 1 < W₁.heap.size := (Array.getElem?_eq_some_iff.1 hl).1
      obtain ⟨busy, hbusy⟩ : ∃ b : Loop, b = { rec .ready none with state := .busy } := ⟨_, rfl⟩
      rw [← hbusy]
      obtain ⟨V, hV⟩ : ∃ V, W₁.putObj (D + 1) (.loop busy) = V := ⟨_, rfl⟩
      have hl2 : V.heap[D + 1]? = some (.loop busy) := by rw [← hV]; exact World.putObj_heap_same hlt
      have hk2 : V.heap[D]? = some (.deferred (some [])) := by rw [← hV]; exact (World.putObj_heap_other (by omega)).trans hk
      have hw2 : Kp W V := hKt hkp (by rw [← hV]; exact hKb _ _ _ _ (by omega) hl rfl)
      have hR2 : R x a₁ V := by rw [← hV]; exact (hRp x a₁).1 () _ _ _ _ hR1 (by omega) hl rfl
      have hi2 : I pre V := by rw [← hV]; exact hI.1 _ _ _ _ _ hi (by omega) hl rfl
      rw [hV]
      have fin : ∀ (jump : Option Code) (X : World), Keeps D V X →
          (Instr.endRound (D + 1) jump).run P X = .ok (.bool jump.isNone) (X.putObj (D + 1) (.loop (rec (if jump.isNone then .ready else .done) jump))) ∧
          X.heap[D + 1]? = some (.loop busy) ∧
          (X.putObj (D + 1) (.loop (rec (if jump.isNone then .ready else .done) jump))).heap[D + 1]? = some (.loop (rec (if jump.isNone then .ready else .done) jump)) ∧
          (X.putObj (D + 1) (.loop (rec (if jump.isNone then .ready else .done) jump))).heap[D]? = some (.deferred (some [])) := by
        intro jump X hkx
        have hx := hkx _ _ (by omega) hl2 rfl
        have hr := run_endRound (P := P) jump hx
        have e : ({ busy with state := if jump.isNone then .ready else .done, pending := jump } : Loop) = rec (if jump.isNone then .ready else .done) jump := by rw [hbusy, hrec]
        rw [e] at hr
        exact ⟨hr, hx, World.putObj_heap_same (Array.getElem?_eq_some_iff.1 hx).1, (World.putObj_heap_other (by omega)).trans (hkx _ _ (Nat.le_refl _) hk2 rfl)⟩
      refine wpIn_mono (hbody _ pre x a₁ V hR2 hi2 hlen) ?_
      rintro e b X hp
      cases e with
      | normal =>
        obtain ⟨q1, q2, q3⟩ := hp
        obtain ⟨r1, r2, r3, r4⟩ := fin none X q1
        exact ⟨_, _, r1, .inl ⟨rfl, ⟨hI.1 _ _ _ _ _ q3 (by omega) r2 rfl, r3, r4⟩, hKt (hKt hw2 q2) (hKb _ _ _ _ (by omega) r2 rfl)⟩⟩
      | ret =>
        obtain ⟨q1, q3⟩ := hp
        obtain ⟨r1, r2, r3, r4⟩ := fin (some .ret) X q1
        exact ⟨_, _, r1, .inr ⟨rfl, .ret, (hIx _).1 _ _ _ _ _ q3 (by omega) r2 rfl, r3, r4⟩⟩
      | exit id =>
        obtain ⟨q1, q3⟩ := hp
        obtain ⟨r1, r2, r3, r4⟩ := fin (some (.exit id)) X q1
        exact ⟨_, _, r1, .inr ⟨rfl, .exit id, (hIx _).1 _ _ _ _ _ q3 (by omega) r2 rfl, r3, r4⟩⟩
      | goto t =>
        obtain ⟨q1, q3⟩ := hp
        obtain ⟨r1, r2, r3, r4⟩ := fin (some (.goto t)) X q1
        exact ⟨_, _, r1, .inr ⟨rfl, .goto t, (hIx _).1 _ _ _ _ _ q3 (by omega) r2 rfl, r3, r4⟩⟩
      | panic ch => exact hp.elim
      | outgrown => exact hp.elim
    case behind =>
      rintro e V ⟨⟨v, rfl⟩, (⟨xs, hs, hi, hl, hk⟩ | ⟨pre, hs, c, hi, hl, hk⟩)⟩
      · refine ⟨none, _, (run_endLoop (P := P) hl (by rw [hst]; simp)).trans (by rw [hpe]), ?_⟩
        exact hdone _ xs _ (Nat.le_refl _) (hS.1 _ _ _ _ _ hs (by omega) hl rfl) (hI.1 _ _ _ _ _ hi (by omega) hl rfl) ((World.putObj_heap_other (by omega)).trans hk)
      · refine ⟨some c, _, (run_endLoop (P := P) hl (by rw [hst]; simp)).trans (by rw [hpe]), ?_⟩
        exact hstop _ c pre _ (Nat.le_refl _) (hSp.1 _ _ _ _ _ hs (by omega) hl rfl) ((hIx c).1 _ _ _ _ _ hi (by omega) hl rfl) ((World.putObj_heap_other (by omega)).trans hk)
end
end Go.Proofs.YtmjmmcdhpognaaaGreatDoor
/- Walks of layer 11: Seen. -/
namespace Go.Proofs.YtmjmmcdhpognaaaGreatDoor
open Go.RowKit Go.Shelf
attribute [local go_sem] Oper.semAt_some
theorem objO_put {base tS : Nat} {W : World} {x : ObjD} {c : List Value} {l : Nat} {o o' : Obj} (h : ObjO base tS W x c) (hl : W.heap[l]? = some o) (ho : o.isCells = false) : ObjO base tS (W.putObj l o') x c := by
  obtain ⟨lv, e, hr⟩ := h; exact ⟨lv, e, ownsRow_putObj hr o' hl ho⟩
theorem partO_put {base tO tS : Nat} {W : World} {x : PartD} {c : List Value} {l : Nat} {o o' : Obj} (h : PartO base tO tS W x c) (hl : W.heap[l]? = some o) (ho : o.isCells = false) : PartO base tO tS (W.putObj l o') x c := by
  obtain ⟨ov, e, cs, h1, h2⟩ := h; exact ⟨ov, e, cs, ownsRow_putObj h1 o' hl ho, h2.mono fun y _ c hc => objO_put hc hl ho⟩
theorem partsO_put {base tP tO tS : Nat} {W : World} {v : Value} {xs : List PartD} {l : Nat} {o o' : Obj} (h : PartsO base tP tO tS W v xs) (hl : W.heap[l]? = some o) (ho : o.isCells = false) : PartsO base tP tO tS (W.putObj l o') v xs := by
  obtain ⟨cs, h1, h2⟩ := h; exact ⟨cs, ownsRow_putObj h1 o' hl ho, h2.mono fun y _ c hc => partO_put hc hl ho⟩
theorem bears_partsO {β : Type} (B base tP tO tS : Nat) (v : Value) (f : β → List PartD) : Bears B (fun s W => PartsO base tP tO tS W v (f s)) :=
  ⟨fun _ _ _ _ _ h _ hl ho => partsO_put h hl ho, fun _ W o h => h.kept (World.grownBy_alloc W o none) (RowT.none _ _)⟩
section
variable {F : Fence} {n : Nat} {P : Program}
theorem wpIn_append_own (w : World) {o : Oper} {a : Act} {K : Act → World → Prop} {Q : Exit → Act → World → Prop}
    (s x : Operand) (t : TypeId) (hop : o.op = Op.call { callee := Callee.builtin Builtin.append, args := #[s, x], argTypes := #[t, t] })
    (base : Nat) (e : TypeId) (i : TypeInfo) (z : Value) (size bytes : Nat) (h1 : P.underlying t = some (.slice e)) (h2 : P.info? e = some i) (h3 : i.zero = some z) (h4 : i.size = size) (h5 : i.bytes = bytes) (h6 : z.cells.size = size) (h7 : 0 < size)
    (v : Value) (k : Nat) (xs : List Value) (hs : a.eval s = v) (hown : w.ownsRow base e size v k xs) (ad : Addr) (m c : Nat) (news : List Value) (hx : a.eval x = .slice (some ad) m c) (hn : news.length = m * size)
    (hc : ∀ j u, news[j]? = some u → w.cell? (ad.add j) = some u) (h1c : ∀ u ∈ news, u.oneCell' = true) (b1 : k + m ≤ maxLen) (b2 : (k + m) * bytes ≤ 140737488355328) (b3 : base ≤ w.heap.size)
    (hK : ∀ v' w', w'.ownsRow base e size v' (k + m) (xs ++ news) → w.grownBy w' v.ownBlock → (v' = .slice none 0 0 ↔ v = .slice none 0 0 ∧ m = 0) → K (a.put o.dst v') w') :
    o.wpIn F n P a w K Q := by
  obtain ⟨v', w', hrun, r1, r2, r3⟩ := run_append_own (P := P) w base t o.type e i z size bytes h1 h2 h3 h4 h5 h6 h7 v k xs hown ad m c news hn hc h1c b1 b2 b3
  unfold Oper.wpIn
  refine ⟨?_, ?_⟩
  · simp [Oper.about, hop, resolve, Target.leads, Sem.run_pure]
  · rw [Oper.semAt_plain F _ _ (by rw [hop]; intro c hc'; cases hc')]
    simp [execOp, hop, resolve, invoke, builtin, hs, hx, hrun, Result.andThen]
    exact hK v' w' r1 r2 r3
end
theorem own_pos {W : World} {base e size n : Nat} {v : Value} {c : List Value} (h : W.ownsRow base e size v (n + 1) c) : ∃ g cap, v = .slice (some ⟨g, 0, none⟩) (n + 1) cap := by
  rcases h.2 with ⟨_, h0⟩ | ⟨g, cap, cur, hv, _⟩
  · omega
  · exact ⟨g, cap, hv⟩
theorem own_ge {W : World} {base e size n : Nat} {v : Value} {c : List Value} (h : W.ownsRow base e size v n c) : ∀ k, v.ownBlock = some k → base ≤ k := by
  intro k hk
  rcases h.2 with ⟨rfl, _⟩ | ⟨g, cap, cur, rfl, hg, _⟩
  · simp [Value.ownBlock] at hk
  · obtain rfl : g = k := by simpa [Value.ownBlock] using hk
    exact hg
theorem news_blk {W : World} {b : Nat} {cs : Array Value} {t : TypeId} (h : Blk W b cs t) {x : PartD} {k : Nat} (hk : 1 ≤ k) (hc : cs.size = 4) (hx : PartC W x cs.toList) : PartsV W (.slice (some ⟨b, 0, none⟩) 1 k) [x] := by
  have hlt : b < W.heap.size := h.lt
  refine ⟨cs.toList, ⟨by simpa using hc, some ⟨b, 0, none⟩, k, rfl, hk, .inr ⟨b, 0, rfl, hlt, fun j hj => ?_⟩⟩, Rows.one hx⟩
  have := blk_news h j _ (List.getElem?_eq_getElem hj)
  rw [Addr.add_lit] at this
  exact this
theorem own_news {W : World} {base e size n g cap : Nat} {c : List Value} (h : W.ownsRow base e size (.slice (some ⟨g, 0, none⟩) n cap) n c) : ∀ j u, c[j]? = some u → W.cell? ((⟨g, 0, none⟩ : Addr).add j) = some u := h.cells (g := g) rfl
theorem rowsO_one {base tO tS : Nat} {W : World} {x : PartD} {c : List Value} (h : Rows (PartO base tO tS W) [x] c) : c.length = 4 ∧ ∀ u ∈ c, u.oneCell' = true := by
  obtain ⟨d, r, rfl, ⟨ov, rfl, ho⟩, h2⟩ := h
  obtain rfl : r = [] := h2
  obtain ⟨a, cap, rfl, -⟩ := ho.view.at
  exact ⟨rfl, by simp [Value.oneCell']⟩
theorem seen_round {w W W1 w2 w4 : World} {xs : List PartD} {x : PartD} {v v4 : Value} {tP tO tS tB base ob : Nat} {c c3 : List Value} (hob : ob < base) (hwb : w.heap.size ≤ ob)
    (hb : Boxed W ob tB v) (ht1 : tB ≠ tP ∧ tB ≠ tO ∧ tB ≠ tS) (ht2 : tP ≠ tO ∧ tP ≠ tS) (hB : Below w.heap.size w W) (hz : base ≤ W.heap.size) (h1 : W.ownsRow base tP 4 v xs.length c) (h2 : Rows (PartO base tO tS W) xs c)
    (hB1 : Below W.heap.size W W1) (h3 : Rows (PartO W1.heap.size tO tS w2) [x] c3) (hB2 : Below W1.heap.size W1 w2)
    (h4 : w4.ownsRow base tP 4 v4 (xs.length + 1) (c ++ c3)) (hg : w2.grownBy w4 v.ownBlock) :
    Keeps base W (w4.setCell ⟨ob, 0, none⟩ v4) ∧ keepS base ob W (w4.setCell ⟨ob, 0, none⟩ v4) ∧ ((∃ u, Boxed (w4.setCell ⟨ob, 0, none⟩ v4) ob tB u ∧ PartsO base tP tO tS (w4.setCell ⟨ob, 0, none⟩ v4) u (xs ++ [x])) ∧ Below w.heap.size w (w4.setCell ⟨ob, 0, none⟩ v4) ∧ base ≤ (w4.setCell ⟨ob, 0, none⟩ v4).heap.size) := by
  have hBB : Below W.heap.size W w2 := hB1.trans (hB2.mono hB1.size)
  have g2 : W.grownBy w2 none := grown_of_below hBB none
  have g4 : W.grownBy w4 v.ownBlock := grownBy_t (grown_of_below hBB _) hg
  have hb2 : Boxed w2 ob tB v := hb.kept g2 (by simp)
  have hvb : ∀ k, v.ownBlock = some k → base ≤ k := fun k hk => own_ge h1 k hk
  have hb4 : Boxed w4 ob tB v := hb2.kept hg (fun e => by have := hvb _ e.symm; omega)
  have hb5 := hb4.set v4
  have g5 : w4.grownBy (w4.setCell ⟨ob, 0, none⟩ v4) (some ob) := grownBy_setCell' w4 ob v4
  have rT : RowT W [tO, tS] v.ownBlock := RowT.of_row h1 _ (by simp [ht2.1, ht2.2])
  have rT2 : RowT w2 [tO, tS] v.ownBlock := RowT.of_row (own_kept h1 g2 (RowT.none _ _)) _ (by simp [ht2.1, ht2.2])
  have rB : RowT w4 [tP, tO, tS] (some ob) := RowT.blk (cs := #[v]) hb4 _ (by simp [ht1.1, ht1.2.1, ht1.2.2])
  have hz4 : W.heap.size ≤ w4.heap.size := g4.size
  have hz1 : W.heap.size ≤ W1.heap.size := hB1.size
  refine ⟨?_, ⟨?_, ?_⟩, ⟨v4, hb5, c ++ c3, ?_, ?_⟩, ?_, ?_⟩
  · intro k o hk ho hoc
    have hlt := (Array.getElem?_eq_some_iff.1 ho).1
    have hne : some k ≠ v.ownBlock := by
      intro e
      obtain ⟨cur, t, fr, hh, _⟩ := rT k e.symm
      rw [ho] at hh; cases hh; cases hoc
    have h4' := (g4.block k hlt hne).trans ho
    exact (g5.block k (Array.getElem?_eq_some_iff.1 h4').1 (by simp; omega)).trans h4'
  · intro k hk hko
    have hlt : k < W.heap.size := by omega
    have h4' := g4.block k hlt (fun e => by have := hvb _ e.symm; omega)
    rw [g5.block k (by omega) (by simpa using hko), h4']
  · rw [size_setCell]; exact hz4
  · rw [List.length_append]; exact own_kept h4 g5 (rB.mono (by simp))
  · refine (((h2.mono fun y _ d hd => (hd.kept g4 rT).kept g5 (rB.mono (by simp))).append (h3.mono fun y _ d hd => ((hd.base (by omega)).kept hg rT2).kept g5 (rB.mono (by simp)))))
  · refine Below.setCell (p := ⟨ob, 0, none⟩) ?_ hwb _
    exact (hB.trans (hBB.mono hB.size)).grown hg (by have := hB.size; have := hBB.size; omega) (fun k hk => by have := hvb k hk; omega)
  · rw [size_setCell]; omega
set_option maxRecDepth 100000 in
set_option maxHeartbeats 4000000 in
theorem Seen_any (l : List PartD) (hl : FitsW l) (hcs : ∀ x ∈ l, x.cs < 18446744073709551616) (v : Value) (a : LblD) (ha : a.cs < 18446744073709551616) (w : World) (hv : PartsV w v l) :
    Calls Tryz.prog 12 #[v, lblV a] w fun e w' => ∃ v', e = .returned v' ∧ PartsO w.heap.size 46 40 9 w' v' (seenW l a) ∧ Below w.heap.size w w' := by
  obtain ⟨i0, hI, hz0, hz1, hz2⟩ := info_parts infoP
  obtain ⟨zs, hzs, ao, cap, rfl, hcell⟩ := parts_items hv hl hcs
  have hlz : zs.length ≤ 1000000 := by have := hl.1; rw [← hzs, List.length_map] at this; exact this
  have hseen : seenW l a = (zs.filter (okU a)).map (·.x) := by
    unfold seenW
    rw [← hzs, List.filter_map]; rfl
  have HOwn := fun (d : Item w) W (u : Value) (hu : PartsV W u [d.x]) => own_any [d.x] ⟨by simp, fun y hy => by rcases List.mem_singleton.1 hy with rfl; exact d.fit⟩ u W hu
  rw [hseen]
  clear hv hseen hzs hl hcs
  have HUF := fun W => underF_any (w.heap.size + 1 + 1) a W
  obtain ⟨l1, S1, i1⟩ := a
  dsimp only at ha
  have B0 := ((Below.refl _ w).alloc (Nat.le_refl _) (.cells #[.int .i64 l1, .int .u64 S1, .int .i64 i1] 25)).alloc (by simp) (.cells #[.slice none 0 0] 22)
  have hlw : ∀ i (hi : i < zs.length), ∃ b o, ao = some ⟨b, o, none⟩ ∧ b < w.heap.size := fun i hi => by obtain ⟨b, o, e, hb, _⟩ := hcell i hi; exact ⟨b, o, e, hb⟩
  refine (callsIn_wide (n := 3)).1 ?_
  (refine callsIn_of_wp_marks Tryz.func12 rfl trivial ?_ rfl; simp only [Tryz.ntmps12, List.size_toArray, List.length_cons, List.length_nil, Nat.reduceAdd, Nat.reduceSub, Array.replicate_succ, Array.replicate_zero, List.push_toArray, List.append_toArray, List.nil_append, List.cons_append])
  gi_wp2_with fail
  refine ⟨trivial, ?_⟩
  refine (callsIn_wide.2 (HUF _)).mono ?_
  rintro e w1 ⟨rfl, rfl⟩
  have o0 := Boxed.new (w.alloc (.cells #[.int .i64 l1, .int .u64 S1, .int .i64 i1] 25)) 22 (.slice none 0 0)
  rw [World.size_alloc] at o0
  have q0 := Blk.new ((w.alloc (.cells #[.int .i64 l1, .int .u64 S1, .int .i64 i1] 25)).alloc (.cells #[.slice none 0 0] 22)) #[.slice ao zs.length cap] 54
  rw [World.size_alloc, World.size_alloc] at q0
  have p0 := Boxed.new (((w.alloc (.cells #[.int .i64 l1, .int .u64 S1, .int .i64 i1] 25)).alloc (.cells #[.slice none 0 0] 22)).alloc (.cells #[.slice ao zs.length cap] 54)) 52 (.pointer (some ⟨w.heap.size + 1 + 1, 0, none⟩))
  rw [World.size_alloc, World.size_alloc, World.size_alloc] at p0
  have l0 := Blk.new ((((w.alloc (.cells #[.int .i64 l1, .int .u64 S1, .int .i64 i1] 25)).alloc (.cells #[.slice none 0 0] 22)).alloc (.cells #[.slice ao zs.length cap] 54)).alloc (.cells #[.pointer (some ⟨w.heap.size + 1 + 1, 0, none⟩)] 52)) #[.int .i64 l1, .int .u64 S1, .int .i64 i1] 25
  rw [World.size_alloc, World.size_alloc, World.size_alloc, World.size_alloc] at l0
  have o1 := ((o0.alloc (.cells #[.slice ao zs.length cap] 54)).alloc (.cells #[.pointer (some ⟨w.heap.size + 1 + 1, 0, none⟩)] 52)).alloc (.cells #[.int .i64 l1, .int .u64 S1, .int .i64 i1] 25)
  have q1 := (q0.alloc (.cells #[.pointer (some ⟨w.heap.size + 1 + 1, 0, none⟩)] 52)).alloc (.cells #[.int .i64 l1, .int .u64 S1, .int .i64 i1] 25)
  have p1 := p0.alloc (.cells #[.int .i64 l1, .int .u64 S1, .int .i64 i1] 25)
  have B1 := ((B0.alloc (by simp; omega) (.cells #[.slice ao zs.length cap] 54)).alloc (by simp; omega) (.cells #[.pointer (some ⟨w.heap.size + 1 + 1, 0, none⟩)] 52)).alloc (by simp; omega) (.cells #[.int .i64 l1, .int .u64 S1, .int .i64 i1] 25)
  have hz0' : (((((w.alloc (.cells #[.int .i64 l1, .int .u64 S1, .int .i64 i1] 25)).alloc (.cells #[.slice none 0 0] 22)).alloc (.cells #[.slice ao zs.length cap] 54)).alloc (.cells #[.pointer (some ⟨w.heap.size + 1 + 1, 0, none⟩)] 52)).alloc (.cells #[.int .i64 l1, .int .u64 S1, .int .i64 i1] 25)).heap.size = w.heap.size + 1 + 1 + 1 + 1 + 1 := by simp
  have hz3 : (((w.alloc (.cells #[.int .i64 l1, .int .u64 S1, .int .i64 i1] 25)).alloc (.cells #[.slice none 0 0] 22)).alloc (.cells #[.slice ao zs.length cap] 54)).heap.size = w.heap.size + 1 + 1 + 1 := by simp
  rw [hz3]
  clear o0 q0 p0 B0 HUF hz3
  gi_wp2_with fail
  generalize (((((w.alloc (.cells #[.int .i64 l1, .int .u64 S1, .int .i64 i1] 25)).alloc (.cells #[.slice none 0 0] 22)).alloc (.cells #[.slice ao zs.length cap] 54)).alloc (.cells #[.pointer (some ⟨w.heap.size + 1 + 1, 0, none⟩)] 52)).alloc (.cells #[.int .i64 l1, .int .u64 S1, .int .i64 i1] 25)) = W0 at *
  have hK0 := KeepC.of_below B1
  refine range_law2 rfl (by omega) (gf := 54) (lb := #[.pointer (some ⟨w.heap.size + 1 + 1 + 1, 0, none⟩), .pointer (some ⟨w.heap.size + 1 + 1 + 1 + 1, 0, none⟩)]) rfl trivial (enters_of Tryz.func54 (by kernel_rfl) rfl)
    (G := fun A B => A.grownBy B none) (Kp := keepS (w.heap.size + 1 + 1 + 1 + 1 + 1) (w.heap.size + 1))
    (fun W hW hWz => under1_seq w _ (w.heap.size + 1 + 1 + 1) (w.heap.size + 1 + 1 + 1 + 1) (w.heap.size + 1) (w.heap.size + 1 + 1 + 1 + 1 + 1) (w.heap.size + 1 + 1) zs hlz ⟨l1, S1, i1⟩ ha ao cap W ((hW.block _ (by omega)).trans p1) ((KeepC.of_below hW).2 _ _ _ ((q1.cell 0).trans rfl)) (l0.below hW l0.lt)
      (fun i hi => by
        obtain ⟨b, o, e, hb, k0, k1, k2, k3⟩ := hcell i hi
        have hk := (hK0.trans (KeepC.of_below hW)).2
        exact ⟨b, o, e, by omega, by omega, hk _ _ _ k0, hk _ _ _ k1, hk _ _ _ k2, hk _ _ _ k3⟩) (by omega) (by omega) (by omega))
    keepS_t (by rw [hz0']; exact keepS_b) (fun A B h k o _ ho _ => (h.block k (Array.getElem?_eq_some_iff.1 ho).1 (by simp)).trans ho) (fun _ => rfl)
    (fun pre W => (∃ v, Boxed W (w.heap.size + 1) 22 v ∧ PartsO (w.heap.size + 1 + 1 + 1 + 1 + 1) 46 40 9 W v (pre.map (·.x))) ∧ Below w.heap.size w W ∧ w.heap.size + 1 + 1 + 1 + 1 + 1 ≤ W.heap.size) (fun _ _ _ => False)
    ((bears_ex fun v => (bears_boxed _ _ _ (fun _ => v)).and (bears_partsO _ _ _ _ _ v _)).and ((bears_below (Nat.le_refl _) (by omega)).and (bears_size _ _))) (fun _ => bears_const _ _)
    (bears_const _ _) (bears_const _ _)
    (fun s A B h hg => ⟨by obtain ⟨⟨v, h1, h2⟩, _⟩ := h; exact ⟨v, h1.kept hg (by simp), h2.kept hg (RowT.none _ _)⟩, h.2.1.grown hg h.2.1.size (fun k e => by cases e), Nat.le_trans h.2.2 hg.size⟩) (fun _ _ _ _ h _ => h)
    ⟨⟨_, o1, PartsO.nil _ _ _ _ _⟩, B1, by omega⟩
    (fun d b W => ∃ g, b = { tmps := #[.slice ao zs.length cap, lblV ⟨l1, S1, i1⟩, undef, .pointer (some ⟨w.heap.size, 0, none⟩), .slice none 0 0, .pointer (some ⟨w.heap.size + 1, 0, none⟩), .pointer (some ⟨g, 0, none⟩), .slice ao zs.length cap, .agg #[.slice ao zs.length cap], .pointer (some ⟨w.heap.size + 1 + 1, 0, none⟩), .agg #[.int .i64 l1, .int .u64 S1, .int .i64 i1], .func (.func 54) #[] #[.pointer (some ⟨w.heap.size + 1 + 1 + 1, 0, none⟩), .pointer (some ⟨w.heap.size + 1 + 1 + 1 + 1, 0, none⟩)], .agg d.cells, undef, undef, undef, undef, undef, undef], defers := [] } ∧ Blk W g d.cells 46 ∧ w.heap.size + 1 + 1 + 1 + 1 + 1 ≤ g)
    (fun d b => bears_ex fun g => (bears_const _ _).and ((bears_blk _ _ _ (fun _ => d.cells)).and (bears_const _ _))) ?assign ?body ?done ?stop
  case assign =>
    rintro lp pre d W K ⟨⟨v, hb, hp⟩, hB, hz⟩ hK
    have gA := World.grownBy_alloc W (.cells d.cells 46) none
    have hK2 := fun b hb' => hK b (W.alloc (.cells d.cells 46)) ⟨W.heap.size, hb', Blk.new W _ _, hz⟩ ⟨⟨v, hb.alloc _, hp.kept gA (RowT.none _ _)⟩, hB.alloc hB.size _, Nat.le_trans hz gA.size⟩
      (fun k o _ ho _ => (gA.block k (Array.getElem?_eq_some_iff.1 ho).1 (by simp)).trans ho) ⟨fun g hg _ => gA.block g (by omega) (by simp), gA.size⟩
    have HK2 := Lib.hid hK2
    clear hK gA hK2
    gi_wp2
    exact HK2.out _ rfl
  case body =>
    rintro lp pre d b W ⟨g, rfl, hbg, hgb⟩ ⟨⟨v, hb, hp⟩, hB, hz⟩ hlen
    obtain ⟨c1, hc1, hr1⟩ := hp
    rw [List.length_map] at hc1
    have HO := HOwn d
    obtain ⟨W1, hW1⟩ : ∃ W1, (W.alloc (.cells d.cells 46)).drew = W1 := ⟨_, rfl⟩
    have hB1 : Below W.heap.size W W1 := by rw [← hW1]; exact ((Below.refl _ W).alloc (Nat.le_refl _) _).drew
    have n1 : Blk W1 W.heap.size d.cells 46 := by rw [← hW1]; exact Blk.new W _ _
    have hv1 : PartsV W1 (.slice (some ⟨W.heap.size, 0, none⟩) 1 1) [d.x] := news_blk n1 (Nat.le_refl _) rfl ⟨_, rfl, d.ok.keep ((KeepC.of_below (hB.trans (hB1.mono hB.size))))⟩
    have hco1 : W1.cell? ⟨w.heap.size + 1, 0, none⟩ = some v := (hb.kept (grown_of_below hB1 none) (by simp)).cell
    obtain ⟨x, a2, c2, dok, dfit, dcs⟩ := d
    obtain ⟨lv, S, ig, pl⟩ := x
    dsimp only [Item.cells] at *
    gi_wp2_with fail
    have e0 := hbg.cell 0
    have e1 := hbg.cell 1
    have e2 := hbg.cell 2
    have e3 := hbg.cell 3
    simp at e0 e1 e2 e3
    have hco := hb.cell
    refine wpIn_region_any (by kernel_rfl) ?_
    change wpAnyIn _ _ _ _ _ _ _ _ _ (World.drew _)
    refine wpAnyIn_ready (rs := [0, 1]) (by kernel_rfl) (by simp) ?_
    refine AllReadyIn.cons (o := _) (nth_at rfl) (fun K hK => ?_) (AllReadyIn.cons (o := _) (nth_at rfl) (fun K hK => ?_) AllReadyIn.nil)
    · go_simp
      refine hK _ _ ?_
      clear hK K
      try simp only [Act.put, List.setIfInBounds_toArray, List.set_cons_zero, List.set_cons_succ]
      refine wpAnyIn_ready (rs := [1]) (by kernel_rfl) (by simp) ?_
      refine AllReadyIn.cons (o := _) (nth_at rfl) (fun K hK => ?_) AllReadyIn.nil
      go_simp
      refine hK _ _ ?_
      clear hK K
      try simp only [Act.put, List.setIfInBounds_toArray, List.set_cons_zero, List.set_cons_succ]
      refine wpAnyIn_ready (rs := [2]) (by kernel_rfl) (by simp) ?_
      refine AllReadyIn.cons (o := _) (nth_at rfl) (fun K hK => ?_) AllReadyIn.nil
      go_simp
      refine hK _ _ ?_
      clear hK K
      try simp only [Act.put, List.setIfInBounds_toArray, List.set_cons_zero, List.set_cons_succ]
      refine wpAnyIn_ready (rs := [3]) (by kernel_rfl) (by simp) ?_
      refine AllReadyIn.cons (o := _) (nth_at rfl) (fun K hK => ?_) AllReadyIn.nil
      go_simp
      refine ⟨trivial, ?_⟩
      refine (CallsIn.inRound lp (callsIn_wide.2 (HO W1 _ hv1))).mono ?_
      rintro e w2 ⟨v3, rfl, ⟨c3, ho3, hr3⟩, hB2⟩
      obtain ⟨g3, cap3, rfl⟩ := own_pos ho3
      have g2 : W.grownBy w2 none := grown_of_below (hB1.trans (hB2.mono hB1.size)) none
      have hco2 : w2.cell? ⟨w.heap.size + 1, 0, none⟩ = some v := (hb.kept g2 (by simp)).cell
      try dsimp only
      refine hK _ _ ?_
      clear hK K
      try simp only [Act.put, List.setIfInBounds_toArray, List.set_cons_zero, List.set_cons_succ]
      refine wpAnyIn_ready (rs := [4]) (by kernel_rfl) (by simp) ?_
      refine AllReadyIn.cons (o := _) (nth_at rfl) (fun K hK => ?_) AllReadyIn.nil
      refine wpIn_append_own w2 _ _ _ rfl (w.heap.size + 1 + 1 + 1 + 1 + 1) 46 i0 (.agg #[.int .i64 0, .int .u64 0, .int .i64 0, .slice none 0 0]) 4 48 Tryz.underlying22 hI hz0 hz1 hz2 rfl (by decide) _ _ _ rfl (own_kept hc1 g2 (RowT.none _ _)) ⟨g3, 0, none⟩ 1 cap3 c3 rfl (rowsO_one hr3).1 (own_news ho3) (rowsO_one hr3).2 (by unfold maxLen; omega) (by omega) (Nat.le_trans hz g2.size) ?_
      intro v4 w4 h4 hg4 _
      obtain ⟨g4, cap4, rfl⟩ := own_pos h4
      have hb4 : Boxed w4 (w.heap.size + 1) 22 v := (hb.kept g2 (by simp)).kept hg4 (fun e => by have := own_ge hc1 _ e.symm; omega)
      have hco4 := hb4.cell
      have hf4 := hb4.frozen
      refine hK _ _ ?_
      clear hK K
      try simp only [Act.put, List.setIfInBounds_toArray, List.set_cons_zero, List.set_cons_succ]
      refine wpAnyIn_ready (rs := [5]) (by kernel_rfl) (by simp) ?_
      refine AllReadyIn.cons (o := _) (nth_at rfl) (fun K hK => ?_) AllReadyIn.nil
      go_simp
      refine hK _ _ ?_
      clear hK K
      try simp only [Act.put, List.setIfInBounds_toArray, List.set_cons_zero, List.set_cons_succ]
      refine wpAnyIn_done (by kernel_rfl) ?_ _
      gi_wp2
      have hfin := seen_round (tP := 46) (by omega) (by omega) hb (by decide) (by decide) hB hz (by rw [List.length_map]; exact hc1) hr1 hB1 hr3 hB2 (by rw [List.length_map]; exact h4) hg4
      refine ⟨by rw [hz0']; exact hfin.1, hfin.2.1, ?_⟩
      show (∃ v, _ ∧ PartsO _ _ _ _ _ v (List.map _ (_ ++ _))) ∧ _
      rw [List.map_append]
      exact hfin.2.2
    · go_simp
      refine hK _ _ ?_
      clear hK K
      try simp only [Act.put, List.setIfInBounds_toArray, List.set_cons_zero, List.set_cons_succ]
      refine wpAnyIn_ready (rs := [0, 2]) (by kernel_rfl) (by simp) ?_
      refine AllReadyIn.cons (o := _) (nth_at rfl) (fun K hK => ?_) (AllReadyIn.cons (o := _) (nth_at rfl) (fun K hK => ?_) AllReadyIn.nil)
      · go_simp
        refine hK _ _ ?_
        clear hK K
        try simp only [Act.put, List.setIfInBounds_toArray, List.set_cons_zero, List.set_cons_succ]
        refine wpAnyIn_ready (rs := [2]) (by kernel_rfl) (by simp) ?_
        refine AllReadyIn.cons (o := _) (nth_at rfl) (fun K hK => ?_) AllReadyIn.nil
        go_simp
        refine hK _ _ ?_
        clear hK K
        try simp only [Act.put, List.setIfInBounds_toArray, List.set_cons_zero, List.set_cons_succ]
        refine wpAnyIn_ready (rs := [3]) (by kernel_rfl) (by simp) ?_
        refine AllReadyIn.cons (o := _) (nth_at rfl) (fun K hK => ?_) AllReadyIn.nil
        go_simp
        refine ⟨trivial, ?_⟩
        refine (CallsIn.inRound lp (callsIn_wide.2 (HO W1 _ hv1))).mono ?_
        rintro e w2 ⟨v3, rfl, ⟨c3, ho3, hr3⟩, hB2⟩
        obtain ⟨g3, cap3, rfl⟩ := own_pos ho3
        have g2 : W.grownBy w2 none := grown_of_below (hB1.trans (hB2.mono hB1.size)) none
        have hco2 : w2.cell? ⟨w.heap.size + 1, 0, none⟩ = some v := (hb.kept g2 (by simp)).cell
        try dsimp only
        refine hK _ _ ?_
        clear hK K
        try simp only [Act.put, List.setIfInBounds_toArray, List.set_cons_zero, List.set_cons_succ]
        refine wpAnyIn_ready (rs := [4]) (by kernel_rfl) (by simp) ?_
        refine AllReadyIn.cons (o := _) (nth_at rfl) (fun K hK => ?_) AllReadyIn.nil
        refine wpIn_append_own w2 _ _ _ rfl (w.heap.size + 1 + 1 + 1 + 1 + 1) 46 i0 (.agg #[.int .i64 0, .int .u64 0, .int .i64 0, .slice none 0 0]) 4 48 Tryz.underlying22 hI hz0 hz1 hz2 rfl (by decide) _ _ _ rfl (own_kept hc1 g2 (RowT.none _ _)) ⟨g3, 0, none⟩ 1 cap3 c3 rfl (rowsO_one hr3).1 (own_news ho3) (rowsO_one hr3).2 (by unfold maxLen; omega) (by omega) (Nat.le_trans hz g2.size) ?_
        intro v4 w4 h4 hg4 _
        obtain ⟨g4, cap4, rfl⟩ := own_pos h4
        have hb4 : Boxed w4 (w.heap.size + 1) 22 v := (hb.kept g2 (by simp)).kept hg4 (fun e => by have := own_ge hc1 _ e.symm; omega)
        have hco4 := hb4.cell
        have hf4 := hb4.frozen
        refine hK _ _ ?_
        clear hK K
        try simp only [Act.put, List.setIfInBounds_toArray, List.set_cons_zero, List.set_cons_succ]
        refine wpAnyIn_ready (rs := [5]) (by kernel_rfl) (by simp) ?_
        refine AllReadyIn.cons (o := _) (nth_at rfl) (fun K hK => ?_) AllReadyIn.nil
        go_simp
        refine hK _ _ ?_
        clear hK K
        try simp only [Act.put, List.setIfInBounds_toArray, List.set_cons_zero, List.set_cons_succ]
        refine wpAnyIn_done (by kernel_rfl) ?_ _
        gi_wp2
        have hfin := seen_round (tP := 46) (by omega) (by omega) hb (by decide) (by decide) hB hz (by rw [List.length_map]; exact hc1) hr1 hB1 hr3 hB2 (by rw [List.length_map]; exact h4) hg4
        refine ⟨by rw [hz0']; exact hfin.1, hfin.2.1, ?_⟩
        show (∃ v, _ ∧ PartsO _ _ _ _ _ v (List.map _ (_ ++ _))) ∧ _
        rw [List.map_append]
        exact hfin.2.2
      · go_simp
        refine hK _ _ ?_
        clear hK K
        try simp only [Act.put, List.setIfInBounds_toArray, List.set_cons_zero, List.set_cons_succ]
        refine wpAnyIn_ready (rs := [0, 3]) (by kernel_rfl) (by simp) ?_
        refine AllReadyIn.cons (o := _) (nth_at rfl) (fun K hK => ?_) (AllReadyIn.cons (o := _) (nth_at rfl) (fun K hK => ?_) AllReadyIn.nil)
        · go_simp
          refine hK _ _ ?_
          clear hK K
          try simp only [Act.put, List.setIfInBounds_toArray, List.set_cons_zero, List.set_cons_succ]
          refine wpAnyIn_ready (rs := [3]) (by kernel_rfl) (by simp) ?_
          refine AllReadyIn.cons (o := _) (nth_at rfl) (fun K hK => ?_) AllReadyIn.nil
          go_simp
          refine ⟨trivial, ?_⟩
          refine (CallsIn.inRound lp (callsIn_wide.2 (HO W1 _ hv1))).mono ?_
          rintro e w2 ⟨v3, rfl, ⟨c3, ho3, hr3⟩, hB2⟩
          obtain ⟨g3, cap3, rfl⟩ := own_pos ho3
          have g2 : W.grownBy w2 none := grown_of_below (hB1.trans (hB2.mono hB1.size)) none
          have hco2 : w2.cell? ⟨w.heap.size + 1, 0, none⟩ = some v := (hb.kept g2 (by simp)).cell
          try dsimp only
          refine hK _ _ ?_
          clear hK K
          try simp only [Act.put, List.setIfInBounds_toArray, List.set_cons_zero, List.set_cons_succ]
          refine wpAnyIn_ready (rs := [4]) (by kernel_rfl) (by simp) ?_
          refine AllReadyIn.cons (o := _) (nth_at rfl) (fun K hK => ?_) AllReadyIn.nil
          refine wpIn_append_own w2 _ _ _ rfl (w.heap.size + 1 + 1 + 1 + 1 + 1) 46 i0 (.agg #[.int .i64 0, .int .u64 0, .int .i64 0, .slice none 0 0]) 4 48 Tryz.underlying22 hI hz0 hz1 hz2 rfl (by decide) _ _ _ rfl (own_kept hc1 g2 (RowT.none _ _)) ⟨g3, 0, none⟩ 1 cap3 c3 rfl (rowsO_one hr3).1 (own_news ho3) (rowsO_one hr3).2 (by unfold maxLen; omega) (by omega) (Nat.le_trans hz g2.size) ?_
          intro v4 w4 h4 hg4 _
          obtain ⟨g4, cap4, rfl⟩ := own_pos h4
          have hb4 : Boxed w4 (w.heap.size + 1) 22 v := (hb.kept g2 (by simp)).kept hg4 (fun e => by have := own_ge hc1 _ e.symm; omega)
          have hco4 := hb4.cell
          have hf4 := hb4.frozen
          refine hK _ _ ?_
          clear hK K
          try simp only [Act.put, List.setIfInBounds_toArray, List.set_cons_zero, List.set_cons_succ]
          refine wpAnyIn_ready (rs := [5]) (by kernel_rfl) (by simp) ?_
          refine AllReadyIn.cons (o := _) (nth_at rfl) (fun K hK => ?_) AllReadyIn.nil
          go_simp
          refine hK _ _ ?_
          clear hK K
          try simp only [Act.put, List.setIfInBounds_toArray, List.set_cons_zero, List.set_cons_succ]
          refine wpAnyIn_done (by kernel_rfl) ?_ _
          gi_wp2
          have hfin := seen_round (tP := 46) (by omega) (by omega) hb (by decide) (by decide) hB hz (by rw [List.length_map]; exact hc1) hr1 hB1 hr3 hB2 (by rw [List.length_map]; exact h4) hg4
          refine ⟨by rw [hz0']; exact hfin.1, hfin.2.1, ?_⟩
          show (∃ v, _ ∧ PartsO _ _ _ _ _ v (List.map _ (_ ++ _))) ∧ _
          rw [List.map_append]
          exact hfin.2.2
        · go_simp
          refine ⟨trivial, ?_⟩
          refine (CallsIn.inRound lp (callsIn_wide.2 (HO W1 _ hv1))).mono ?_
          rintro e w2 ⟨v3, rfl, ⟨c3, ho3, hr3⟩, hB2⟩
          obtain ⟨g3, cap3, rfl⟩ := own_pos ho3
          have g2 : W.grownBy w2 none := grown_of_below (hB1.trans (hB2.mono hB1.size)) none
          have hco2 : w2.cell? ⟨w.heap.size + 1, 0, none⟩ = some v := (hb.kept g2 (by simp)).cell
          try dsimp only
          refine hK _ _ ?_
          clear hK K
          try simp only [Act.put, List.setIfInBounds_toArray, List.set_cons_zero, List.set_cons_succ]
          refine wpAnyIn_ready (rs := [0]) (by kernel_rfl) (by simp) ?_
          refine AllReadyIn.cons (o := _) (nth_at rfl) (fun K hK => ?_) AllReadyIn.nil
          go_simp
          refine hK _ _ ?_
          clear hK K
          try simp only [Act.put, List.setIfInBounds_toArray, List.set_cons_zero, List.set_cons_succ]
          refine wpAnyIn_ready (rs := [4]) (by kernel_rfl) (by simp) ?_
          refine AllReadyIn.cons (o := _) (nth_at rfl) (fun K hK => ?_) AllReadyIn.nil
          refine wpIn_append_own w2 _ _ _ rfl (w.heap.size + 1 + 1 + 1 + 1 + 1) 46 i0 (.agg #[.int .i64 0, .int .u64 0, .int .i64 0, .slice none 0 0]) 4 48 Tryz.underlying22 hI hz0 hz1 hz2 rfl (by decide) _ _ _ rfl (own_kept hc1 g2 (RowT.none _ _)) ⟨g3, 0, none⟩ 1 cap3 c3 rfl (rowsO_one hr3).1 (own_news ho3) (rowsO_one hr3).2 (by unfold maxLen; omega) (by omega) (Nat.le_trans hz g2.size) ?_
          intro v4 w4 h4 hg4 _
          obtain ⟨g4, cap4, rfl⟩ := own_pos h4
          have hb4 : Boxed w4 (w.heap.size + 1) 22 v := (hb.kept g2 (by simp)).kept hg4 (fun e => by have := own_ge hc1 _ e.symm; omega)
          have hco4 := hb4.cell
          have hf4 := hb4.frozen
          refine hK _ _ ?_
          clear hK K
          try simp only [Act.put, List.setIfInBounds_toArray, List.set_cons_zero, List.set_cons_succ]
          refine wpAnyIn_ready (rs := [5]) (by kernel_rfl) (by simp) ?_
          refine AllReadyIn.cons (o := _) (nth_at rfl) (fun K hK => ?_) AllReadyIn.nil
          go_simp
          refine hK _ _ ?_
          clear hK K
          try simp only [Act.put, List.setIfInBounds_toArray, List.set_cons_zero, List.set_cons_succ]
          refine wpAnyIn_done (by kernel_rfl) ?_ _
          gi_wp2
          have hfin := seen_round (tP := 46) (by omega) (by omega) hb (by decide) (by decide) hB hz (by rw [List.length_map]; exact hc1) hr1 hB1 hr3 hB2 (by rw [List.length_map]; exact h4) hg4
          refine ⟨by rw [hz0']; exact hfin.1, hfin.2.1, ?_⟩
          show (∃ v, _ ∧ PartsO _ _ _ _ _ v (List.map _ (_ ++ _))) ∧ _
          rw [List.map_append]
          exact hfin.2.2
  case done =>
    rintro D xs W hD rfl ⟨⟨v, hv, hp⟩, hB, hz⟩ hK
    have hc := hv.cell
    have hend : Below w.heap.size w (W.putObj D (.deferred none)) := hB.trans (belowK_b (w := w) (Nat.le_refl _) W D _ _ (by omega) hK rfl rfl)
    gi_wp2
    refine ⟨by simp, .inl ⟨_, _, rfl, run_takeDeferred hK, ?_⟩⟩
    refine ⟨_, results_tmp rfl _ _ _, ⟨v, rfl, ?_, hend⟩⟩
    exact (partsO_put hp hK rfl).base (by omega)
  case stop =>
    rintro D c pre W _ _ h _
    exact h.elim
end Go.Proofs.YtmjmmcdhpognaaaGreatDoor
/- What is seen hangs on what is under the label alone: plain. -/
namespace Go.Proofs.YtmjmmcdhpognaaaGreatDoor
theorem filt_split (a : LblD) (U : PartD → Bool) (hU : ∀ p, p.lab = a → U p = false) : ∀ {w : List PartD}, Srt w → (w.filter fun p => decide (lblC p.lab a < 0)).filter U ++ (w.filter fun p => decide (0 < lblC p.lab a)).filter U = w.filter U
  | [], _ => rfl
  | p :: w, h => by
    have hp := List.pairwise_cons.1 h
    have ih := filt_split a U hU hp.2
    have F1 : ∀ (U : PartD → Bool) (w : List PartD) (p : PartD), (p :: w).filter U = if U p then p :: w.filter U else w.filter U := fun U w p => List.filter_cons
    rcases lbl_tri p.lab a with h1 | h1 | h1
    · rw [F1 (fun p => decide (lblC p.lab a < 0)), F1 (fun p => decide (0 < lblC p.lab a)), if_pos (by simpa using h1), if_neg (by simp; omega), F1 U, F1 U, ← ih]
      split <;> simp
    · have h0 := (lblC_zero p.lab a).2 h1
      rw [F1 (fun p => decide (lblC p.lab a < 0)), F1 (fun p => decide (0 < lblC p.lab a)), if_neg (by simp; omega), if_neg (by simp; omega), ih, F1 U, if_neg (by simp [hU p h1])]
    · have hgt : ∀ q ∈ p :: w, ¬ lblC q.lab a ≤ 0 := by
        intro q hq
        rw [lblC_neg_swap, Classical.not_not]
        rcases List.mem_cons.1 hq with rfl | hq
        · exact h1
        · exact lblC_trans h1 (hp.1 q hq)
      have e1 : (p :: w).filter (fun p => decide (lblC p.lab a < 0)) = [] := List.filter_eq_nil_iff.2 (by intro q hq; have := hgt q hq; simp; omega)
      have e2 : (p :: w).filter (fun p => decide (0 < lblC p.lab a)) = p :: w := List.filter_eq_self.2 (by intro q hq; have := hgt q hq; simp; omega)
      rw [e1, e2]; rfl
theorem seen_put {w : List PartD} {a b : LblD} (l : List ObjD) (h : Srt w) (hu : underB a b = false) : seenW (putW w a l) b = seenW w b := by
  have e1 : (midP a l).filter (fun p => underB p.lab b) = [] := List.filter_eq_nil_iff.2 (by intro p hp; rw [mid_lab hp, hu]; simp)
  have e2 := filt_split a (fun p => underB p.lab b) (fun p hp => by rw [hp, hu]) h
  unfold seenW
  rw [putW_eq, List.filter_append, List.filter_append, e1, List.nil_append]
  exact e2
theorem seen_set {w : List PartD} {a b : LblD} {l : List ObjD} (h : setE w a l = 0) (hu : underB a b = false) : sameW (seenW (setW w a l) b) (seenW w b) = true := by
  rw [setW_ok h, seen_put l (worldB_srt (setE_zero.1 h).1) hu]; exact sameW_refl _
theorem seen_lab {w : List PartD} {a : LblD} : ∀ i (h : i < (seenW w a).length), underB (seenW w a)[i].lab a = true := fun i h => by
  have := List.getElem_mem h
  unfold seenW at this
  exact (List.mem_filter.1 this).2
theorem seen_fits {k : Nat} {w : List PartD} (a : LblD) (h : FitsK k w) : FitsK k (seenW w a) := ⟨Nat.le_trans (List.length_filter_le _ _) h.1, fun x hx => h.2 x (List.mem_filter.1 hx).1⟩
/-- the parts' categories are numbers of 64 bits -/
def CsK (w : List PartD) : Prop := ∀ x ∈ w, x.cs < 18446744073709551616
theorem seen_cs {w : List PartD} (a : LblD) (h : CsK w) : CsK (seenW w a) := fun x hx => h x (List.mem_filter.1 hx).1
theorem few_cs {w : List PartD} (h : CsK w) : CsK (fewW w) := fun x hx => by
  unfold fewW at hx
  obtain ⟨t, ht, rfl⟩ := List.mem_map.1 hx
  exact h t (List.mem_of_mem_take ht)
theorem set_cs {w : List PartD} {a : LblD} {l : List ObjD} (h : CsK w) (ha : a.cs < 18446744073709551616) : CsK (setW w a l) := fun x hx => by
  unfold setW at hx
  split at hx
  · rcases put_mem.1 hx with ⟨h1, _⟩ | h1
    · exact h x h1
    · rw [(midP_mem h1).1]; exact ha
  · cases hx
end Go.Proofs.YtmjmmcdhpognaaaGreatDoor
/- Parts that are given, opened, with their categories' bound. -/
namespace Go.Proofs.YtmjmmcdhpognaaaGreatDoor
open Go.RowKit Go.ChangeShapes Go.WideShapes Go.ChangeAt Go.Deep
section
variable {H : Type} {enc : TypeId × Value → H} {w : World} {base : Nat} {spare : Nat → Bool} {held : Bool} {r : Reach} {b0 : Nat} {v : Value} {d : DataW H} {p : List MemPlace}
set_option maxRecDepth 100000 in
theorem part_open_cs {fuel : Nat} {cs : List Value} {x : DataW H × List MemPlace} (h : DataW.trod enc Tryz.prog w base spare held fuel 46 cs = some x) : ∃ o : PartD, PartC w o cs ∧ OkP o ∧ o.cs < 18446744073709551616 := by
  obtain ⟨y0, y1, n, -, hl, h0, h1⟩ := trod_struct2 Tryz.underlying46 h
  rw [cPartC] at hl
  obtain ⟨c0, c1, c2, c3, rfl⟩ := len4 hl
  simp only [cLblC, cObjsC] at h0 h1
  obtain ⟨z0, z1, z2, m, -, hl2, k0, k1, k2⟩ := trod_struct3 Tryz.underlying25 h0
  simp only [cIntC, cU64C] at k0 k1 k2
  simp at h1 k0 k1 k2
  obtain ⟨i0, e0, -⟩ := int_open Tryz.underlying3 k0
  obtain ⟨i1, e1, w1⟩ := int_open Tryz.underlying23 k1
  obtain ⟨i2, e2, -⟩ := int_open Tryz.underlying3 k2
  obtain ⟨v3, l3, e3, o3, w3, w4⟩ := objs_open2 h1
  obtain ⟨S, rfl, hS⟩ := wf_u64 w1
  cases e0; cases e1; cases e2; cases e3
  exact ⟨⟨i0, S, i2, l3⟩, ⟨_, rfl, o3⟩, ⟨w3, w4⟩, hS⟩
set_option maxRecDepth 100000 in
theorem open_parts_cs (hv : Value.okWide Tryz.prog w r b0 22 v) (h : DataW.Trod enc Tryz.prog w base spare held 22 v d p) : ∃ l, PartsV w v l ∧ l.length ≤ maxLen ∧ (∀ x ∈ l, OkP x) ∧ CsK l := by
  obtain ⟨a, n, c, rfl⟩ := okWide_slice Tryz.underlying22 hv
  obtain ⟨fuel, hf⟩ := h
  obtain ⟨v', l, css, e, h1, h2, h3⟩ := slR_open (α := PartD) (k := 4) (fun o c => PartC w o c ∧ OkP o ∧ o.cs < 18446744073709551616) Tryz.underlying22 cPartC (by omega) (fun n cs' y hy => part_open_cs hy) (fun x c hc => hc.1.len) hf
  cases e
  obtain ⟨h4, h5⟩ := Rows.both h2
  exact ⟨l, ⟨css, h1, h4⟩, h3, fun x hx => (h5 x hx).1, fun x hx => (h5 x hx).2⟩
end
end Go.Proofs.YtmjmmcdhpognaaaGreatDoor
