/- Joined: PutA; RgC; RgD -/
import Derived.Test.YthclfkhakmcnbaaGreatDoorJTM
import Derived.Test.YthclfkhakmcnbaaGreatDoorJTT
/- Layer 10: an object's ring is set in a list of one's own. On no program. -/
namespace Go.Proofs.YthclfkhakmcnbaaGreatDoor
open Go.RowKit
/-- a list of texts that lies in blocks from n on -/
def FreshV (n : Nat) (w : World) (v : Value) (l : List (List UInt8)) : Prop := (∃ a c, v = .slice a l.length c) ∧ ∀ W', w.heap.size ≤ W'.heap.size → (∀ b, n ≤ b → b < w.heap.size → W'.heap[b]? = w.heap[b]?) → StrsV W' v l
theorem FreshV.nil (n : Nat) (w : World) : FreshV n w (.slice none 0 0) [] := ⟨⟨_, _, rfl⟩, fun _ _ _ => SlR.nil _ _⟩
theorem FreshV.of_own {base tS : Nat} {W : World} {v : Value} {l : List (List UInt8)} (h : StrsO base tS W v l) : FreshV base W v l := by
  refine ⟨by obtain ⟨a, c, hv, -⟩ := row_form h; exact ⟨a, c, hv⟩, fun W' hs hb => ?_⟩
  rcases h.2 with ⟨rfl, h0⟩ | ⟨g, cap, cur, rfl, hg, hh, h3, h4, h5, h6⟩
  · have : l = [] := List.length_eq_zero_iff.1 h0
    subst this
    exact SlR.nil _ _
  · have hlt : g < W.heap.size := (Array.getElem?_eq_some_iff.1 hh).1
    have : W'.ownsRow base tS 1 (.slice (some ⟨g, 0, none⟩) l.length cap) l.length (strsC l) := ⟨h.1, .inr ⟨g, cap, cur, rfl, hg, (hb g hg hlt).trans hh, h3, h4, h5, h6⟩⟩
    exact SlR.of_row this
theorem FreshV.view {n : Nat} {w : World} {v : Value} {l : List (List UInt8)} (h : FreshV n w v l) : StrsV w v l := h.2 w (Nat.le_refl _) fun _ _ _ => rfl
theorem objs_ring {base tO tS : Nat} {W : World} {g cap : Nat} {l : List ObjD} (h : ObjsO base tO tS W (.slice (some ⟨g, 0, none⟩) l.length cap) l) (hne : tO ≠ tS) (i : Nat) (hi : i < l.length) (m : Int) (lv : Value) (its : List (List UInt8))
    (hlv : StrsV ((W.setCell ⟨g, i * 5 + 3, none⟩ (.int .i64 m)).setCell ⟨g, i * 5 + 4, none⟩ lv) lv its) :
    ObjsV ((W.setCell ⟨g, i * 5 + 3, none⟩ (.int .i64 m)).setCell ⟨g, i * 5 + 4, none⟩ lv) (.slice (some ⟨g, 0, none⟩) l.length cap) (l.set i (withR m its l[i])) ∧
      W.grownBy ((W.setCell ⟨g, i * 5 + 3, none⟩ (.int .i64 m)).setCell ⟨g, i * 5 + 4, none⟩ lv) (some g) := by
  obtain ⟨cs, h1, h2⟩ := h
  obtain ⟨s1, g1⟩ := h1.stored (i * 5 + 3) (.int .i64 m)
  obtain ⟨s2, g2⟩ := s1.stored (i * 5 + 4) lv
  have hr : RowT W [tS] (some g) := by
    have := RowT.of_row h1 [tS] (by simpa using hne)
    simpa [Value.ownBlock] using this
  have hG := grownBy_t g1 g2
  refine ⟨⟨_, by rw [List.length_set]; exact SlR.of_row s2, ?_⟩, hG⟩
  have hm := h2.mono fun x _ c hc => (hc.kept hG hr).view
  have r1 := rows_set ObjC.len i 3 hi (by omega) (⟨l[i].name, l[i].kind, l[i].data, m, l[i].items⟩ : ObjD) (.int .i64 m) (fun c hc => by
    obtain ⟨x, rfl, hx⟩ := hc
    exact ⟨x, rfl, hx⟩) hm
  have r2 := rows_set ObjC.len i 4 (by rw [List.length_set]; exact hi) (by omega) (withR m its l[i]) lv (fun c hc => by
    rw [List.getElem_set_self] at hc
    obtain ⟨x, rfl, hx⟩ := hc
    exact ⟨lv, rfl, hlv⟩) r1
  rw [List.set_set] at r2
  exact r2
end Go.Proofs.YthclfkhakmcnbaaGreatDoor
/- Walks of layer 8: ring.Put. -/
namespace Go.Proofs.YthclfkhakmcnbaaGreatDoor
open Go.RowKit Go.Shelf
attribute [local go_sem] Oper.semAt_some
def rputP (w : World) (m : Int) (l : List (List UInt8)) (t : List UInt8) (e : Ending) (w' : World) : Prop :=
  ∃ v', e = .returned (.tuple #[.agg #[.int .i64 (if rputE m l t = 0 then m else 0), v'], .int .i64 (rputE m l t)]) ∧ StrsO w.heap.size 9 w' v' (if rputE m l t = 0 then l ++ [t] else []) ∧ Below w.heap.size w w'
theorem rputE_q {m : Int} {l : List (List UInt8)} {t : List UInt8} (h : ringB m l = true) : rputE m l t = qput m l t := by
  unfold rputE qput
  rw [h]
  by_cases h1 : t.length ≤ 200
  · rw [if_pos h1, decide_eq_true h1]
    by_cases h2 : (takesL l : Int) + (t.length + 1) ≤ m <;> simp [h2]
  · rw [if_neg h1, decide_eq_false h1]; rfl
theorem qput_kinds (m : Int) (l : List (List UInt8)) (t : List UInt8) : qput m l t = 0 ∨ qput m l t = 2 ∨ qput m l t = 80 ∨ qput m l t = 81 := by
  unfold qput
  split
  · split <;> simp
  · simp
theorem ring_nums {m : Int} {l : List (List UInt8)} (h : ringB m l = true) : 0 ≤ m ∧ m ≤ 2000 ∧ (∀ s ∈ l, s.length ≤ 200) ∧ (takesL l : Int) ≤ m := by
  unfold ringB at h
  simp only [Bool.and_eq_true, decide_eq_true_eq, List.all_eq_true] at h
  exact ⟨h.1.1.1, h.1.1.2, h.1.2, h.2⟩
theorem jump_retG {l : Nat} {J : Act → World → Prop} {Q : Exit → Act → World → Prop} {a : Act} {w : World} : Exit.jump l J Q .ret a w = Q .ret a w := rfl
set_option maxRecDepth 100000 in
set_option maxHeartbeats 4000000 in
theorem rput_any (m : Int) (l : List (List UInt8)) (hl : FitsL l) (v : Value) (t : List UInt8) (ht : t.length ≤ 1000000) (a f em : Addr) (w : World) (hr : RErr w a f em) (hv : StrsV w v l) :
    Calls Tryz.prog 78 #[.agg #[.int .i64 m, v], .string ⟨t.toArray⟩] w (rputP w m l t) := by
  obtain ⟨av, cv, hvv, -⟩ := hv.2
  subst hvv
  have HO := fun W (h : KeepC w W) => own8_any m l hl.1 av cv W (hv.keep h)
  cases hb : ringB m l with
  | false =>
    have hE : rputE m l t = 2 := by unfold rputE; rw [hb]; rfl
    have HC := fun q v W h1 h2 h3 h4 => checked8_any q l hl m v a W h1 h2 h3 h4
    have HT := fun W (h : RErr W a f em) => toldRg_any 2 (by omega) a f em W h
    rw [show rerr 2 a f em = eV a from rfl] at HT
    rw [hb] at HC
    unfold rputP
    rw [hE]
    clear hE hb hv
    go_enter Tryz.func78, Tryz.ntmps78
    go_wp2_with fail
    obtain ⟨W0, hW0⟩ : ∃ W0, (w.alloc (.cells #[.int .i64 m, .slice av l.length cv] 46)).alloc (.cells #[.int .i64 0, .slice none 0 0] 46) = W0 := ⟨_, rfl⟩
    rw [hW0]
    have p0 : Blk W0 w.heap.size #[.int .i64 m, .slice av l.length cv] 46 := by rw [← hW0]; exact (Blk.new _ _ _).alloc _
    have r0 : Blk W0 (w.heap.size + 1) #[.int .i64 0, .slice none 0 0] 46 := by
      have := Blk.new (w.alloc (.cells #[.int .i64 m, .slice av l.length cv] 46)) #[.int .i64 0, .slice none 0 0] 46
      rw [World.size_alloc] at this
      rw [← hW0]; exact this
    have B0 : Below w.heap.size w W0 := by rw [← hW0]; exact ((Below.refl _ w).alloc (Nat.le_refl _) _).alloc (by simp) _
    have p00 : W0.cell? ⟨w.heap.size, 0, none⟩ = some (.int .i64 m) := (p0.cell 0).trans rfl
    have p01 : W0.cell? ⟨w.heap.size, 1, none⟩ = some (.slice av l.length cv) := (p0.cell 1).trans rfl
    have HOx := HO W0 (KeepC.of_below B0)
    have R0 := hr.below B0
    have hc4 : w.heap.size ≤ w.heap.size + 1 := by omega
    clear hW0 HO hr p0
    generalize w.heap.size + 1 = c4 at *
    refine wp_scope_jumps (l := 0) (J := fun x W => RErr W a f em ∧ Blk W c4 #[.int .i64 0, .slice none 0 0] 46 ∧ Below w.heap.size w W ∧ ∃ u0 u1 u2 u3 u5 u6 u8 u9 u10 u11 u12 u13 u14 u15 u16 u17 u18 u19 u20 u21 u22 u23 u24 u25 u26 u27 u28 u29 : Value, x = { tmps := #[u0, u1, u2, u3, .pointer (some ⟨c4, 0, none⟩), u5, u6, eV a, u8, u9, u10, u11, u12, u13, u14, u15, u16, u17, u18, u19, u20, u21, u22, u23, u24, u25, u26, u27, u28, u29], defers := [] }) (μ := fun _ _ => 0) rfl ?first ?pass
    case pass =>
      rintro x W ⟨R3, r3, B3, u0, u1, u2, u3, u5, u6, u8, u9, u10, u11, u12, u13, u14, u15, u16, u17, u18, u19, u20, u21, u22, u23, u24, u25, u26, u27, u28, u29, rfl⟩
      have HTx := HT W R3
      have f0 := r3.frozen 0
      have f1 := r3.frozen 1
      have c0 := r3.cell 0
      have c1 := r3.cell 1
      simp at c0 c1
      clear HOx R0 R3 HT HC r0 B0 p00 p01
      go_wp2_with fail
      with_reducible refine HTx.mono ?_
      rintro e w4 ⟨rfl, rfl⟩
      go_wp2_with fail
      rw [jump_retG]
      have r6 := (r3.set 0 (.int .i64 0)).set 1 (.slice none 0 0)
      have B6 := (B3.setCell (p := ⟨c4, 0, none⟩) hc4 (.int .i64 0)).setCell (p := ⟨c4, 1, none⟩) hc4 (.slice none 0 0)
      simp only [List.setIfInBounds_toArray, List.set_cons_zero, List.set_cons_succ] at r6
      generalize (W.setCell ⟨c4, 0, none⟩ (.int .i64 0)).setCell ⟨c4, 1, none⟩ (.slice none 0 0) = W6 at *
      have q0 : W6.cell? ⟨c4, 0, none⟩ = some (.int .i64 0) := (r6.cell 0).trans rfl
      have q1 : W6.cell? ⟨c4, 1, none⟩ = some (.slice none 0 0) := (r6.cell 1).trans rfl
      exact bodyPost_ret (v := .tuple #[.agg #[.int .i64 0, .slice none 0 0], .int .i64 2]) (by simp [results, Tryz.results78, go_sem, q0, q1]) rfl ⟨_, rfl, World.ownsRow_nil _ _ _ _, B6⟩
    case first =>
      go_wp2_with fail
      with_reducible refine HOx.mono ?_
      rintro e w1 ⟨q, g, rfl, hqw, q1, g1, b1⟩
      have R1 := R0.below b1
      have r1 := r0.below b1 r0.lt
      have B1 := B0.trans (b1.mono B0.size)
      have HCx := HC q _ w1 R1.ga ((q1.cell 0).trans rfl) ((q1.cell 1).trans rfl) g1.view
      clear HOx HC p00 p01 R0 r0 B0
      go_wp2_with fail
      with_reducible refine HCx.mono ?_
      rintro e w2 ⟨rfl, b2⟩
      have R2 := R1.below b2
      have r2 := r1.below b2 r1.lt
      have B2 := B1.trans (b2.mono B1.size)
      clear HCx R1 r1 B1
      go_wp2_with fail
      refine wp_goto ⟨rfl, R2, r2, B2, ?_⟩
      exact ⟨_, _, _, _, _, _, _, _, _, _, _, _, _, _, _, _, _, _, _, _, _, _, _, _, _, _, _, _, rfl⟩
  | true =>
    obtain ⟨m0, m1, hh2, htk⟩ := ring_nums hb
    have hE := rputE_q (t := t) hb
    have HC := fun q v W h1 h2 h3 h4 => checked8_any q l hl m v a W h1 h2 h3 h4
    rw [hb] at HC
    have HP := fun q g base W h1 h2 h3 h4 h5 gi h6 => put8_any q g base m m1 l hl hh2 (by omega) t ht a f em W h1 h2 h3 h4 h5 gi h6
    unfold rputP
    rw [hE]
    have hqk := qput_kinds m l t
    have HT := fun W (h : RErr W a f em) => toldRg_any (qput m l t) hqk a f em W h
    clear hE hb htk hh2 m0 m1
    unfold put8P at HP
    generalize qput m l t = E at *
    by_cases hE0 : E = 0
    · subst hE0
      rw [show rerr 0 a f em = .nilIface from rfl] at HP
      simp only [if_true] at HC ⊢
      go_enter Tryz.func78, Tryz.ntmps78
      go_wp2_with fail
      obtain ⟨W0, hW0⟩ : ∃ W0, (w.alloc (.cells #[.int .i64 m, .slice av l.length cv] 46)).alloc (.cells #[.int .i64 0, .slice none 0 0] 46) = W0 := ⟨_, rfl⟩
      rw [hW0]
      have p0 : Blk W0 w.heap.size #[.int .i64 m, .slice av l.length cv] 46 := by rw [← hW0]; exact (Blk.new _ _ _).alloc _
      have r0 : Blk W0 (w.heap.size + 1) #[.int .i64 0, .slice none 0 0] 46 := by
        have := Blk.new (w.alloc (.cells #[.int .i64 m, .slice av l.length cv] 46)) #[.int .i64 0, .slice none 0 0] 46
        rw [World.size_alloc] at this
        rw [← hW0]; exact this
      have B0 : Below w.heap.size w W0 := by rw [← hW0]; exact ((Below.refl _ w).alloc (Nat.le_refl _) _).alloc (by simp) _
      have p00 : W0.cell? ⟨w.heap.size, 0, none⟩ = some (.int .i64 m) := (p0.cell 0).trans rfl
      have p01 : W0.cell? ⟨w.heap.size, 1, none⟩ = some (.slice av l.length cv) := (p0.cell 1).trans rfl
      have HOx := HO W0 (KeepC.of_below B0)
      have R0 := hr.below B0
      have hc4 : w.heap.size ≤ w.heap.size + 1 := by omega
      have hcl : w.heap.size + 1 < W0.heap.size := r0.lt
      have hB0 := B0.size
      have hrH := Lib.hid hr
      clear hW0 HO hr p0
      generalize w.heap.size + 1 = c4 at *
      refine wp_scope_straight ?_
      go_wp2_with fail
      with_reducible refine HOx.mono ?_
      rintro e w1 ⟨q, g, rfl, hqw, q1, g1, b1⟩
      have R1 := R0.below b1
      have r1 := r0.below b1 r0.lt
      have B1 := B0.trans (b1.mono B0.size)
      have HCx := HC q _ w1 R1.ga ((q1.cell 0).trans rfl) ((q1.cell 1).trans rfl) g1.view
      clear HOx HC p00 p01 R0 r0 B0
      go_wp2_with fail
      with_reducible refine HCx.mono ?_
      rintro e w2 ⟨rfl, b2⟩
      have R2 := R1.below b2
      have r2 := r1.below b2 r1.lt
      have B2 := B1.trans (b2.mono B1.size)
      clear HCx R1 r1 B1
      have q2 := q1.below b2 q1.lt
      have v2 : StrsO W0.heap.size 9 w2 (.slice (some ⟨g, 0, none⟩) l.length l.length) l := own_kept g1 (grown_of_below b2 none) (RowT.none _ _)
      have hbb : W0.heap.size ≤ w2.heap.size := Nat.le_trans b1.size b2.size
      clear q1 g1 b1 b2
      obtain ⟨W3, hW3⟩ : ∃ W3, w2.alloc (.cells #[.string ⟨t.toArray⟩] 9) = W3 := ⟨_, rfl⟩
      have q3 : Blk W3 q _ _ := hW3 ▸ q2.alloc _
      have v3 : StrsO W0.heap.size 9 W3 (.slice (some ⟨g, 0, none⟩) l.length l.length) l := own_kept v2 (show w2.grownBy W3 none from hW3 ▸ World.grownBy_alloc _ _ none) (RowT.none _ _)
      have gi3 : W3.cell? ⟨w2.heap.size, 0, none⟩ = some (.string ⟨t.toArray⟩) := hW3 ▸ ((Blk.new _ _ _).cell 0).trans rfl
      have r3 : Blk W3 c4 _ _ := hW3 ▸ r2.alloc _
      have B3 : Below w.heap.size w W3 := hW3 ▸ B2.alloc B2.size _
      have HPx := HP q g W0.heap.size W3 (hrH.out.below B3) q3 v3 (Nat.le_trans hbb (hW3 ▸ (KeepC.alloc _ _).1)) hqw w2.heap.size gi3
      clear HP q2 v2 r2 R2 B2 q3 v3 gi3 hbb
      go_wp2_with fail
      try rw [hW3]
      clear hW3
      refine HPx.mono ?_
      rintro e w4 ⟨k, rfl, b4, hok⟩
      have r4 := r3.below b4 hcl
      have B4 := B3.trans (b4.mono hB0)
      have R4 := hrH.out.below B4
      have f40 := r4.frozen 0
      have f41 := r4.frozen 1
      have c40 := r4.cell 0
      have c41 := r4.cell 1
      simp at c40 c41
      clear HPx r3 B3 b4
      obtain ⟨v4, q4, s4⟩ := hok trivial
      have e40 := q4.cell 0
      have e41 := q4.cell 1
      simp at e40 e41
      clear hok HT hqk
      obtain ⟨a4, cp4, rfl, -⟩ := row_form s4
      go_wp2_with fail
      simp only [Exit.noGoto_ret]
      have r6 := (r4.set 0 (.int .i64 m)).set 1 (.slice a4 (l ++ [t]).length cp4)
      simp only [List.length_append, List.length_cons, List.length_nil, Nat.zero_add, List.setIfInBounds_toArray, List.set_cons_zero, List.set_cons_succ] at r6 s4 ⊢
      have B6 := (B4.setCell (p := ⟨c4, 0, none⟩) hc4 (.int .i64 m)).setCell (p := ⟨c4, 1, none⟩) hc4 (.slice a4 (l.length + 1) cp4)
      have g6 : w4.grownBy ((w4.setCell ⟨c4, 0, none⟩ (.int .i64 m)).setCell ⟨c4, 1, none⟩ (.slice a4 (l.length + 1) cp4)) (some c4) := grownBy_t (grownBy_setCellB _ _ _ _) (grownBy_setCellB _ _ _ _)
      generalize (w4.setCell ⟨c4, 0, none⟩ (.int .i64 m)).setCell ⟨c4, 1, none⟩ (.slice a4 (l.length + 1) cp4) = W6 at *
      have s6 := own_kept s4 g6 (RowT.blk r4 _ (by decide))
      have s7 : StrsO w.heap.size 9 W6 (.slice a4 (l.length + 1) cp4) (l ++ [t]) := by
        have := own_base s6 hB0
        unfold StrsO
        simpa using this
      have q0 : W6.cell? ⟨c4, 0, none⟩ = some (.int .i64 m) := (r6.cell 0).trans rfl
      have q1 : W6.cell? ⟨c4, 1, none⟩ = some (.slice a4 (l.length + 1) cp4) := (r6.cell 1).trans rfl
      exact bodyPost_ret (v := .tuple #[.agg #[.int .i64 m, .slice a4 (l.length + 1) cp4], .int .i64 0]) (by simp [results, Tryz.results78, go_sem, q0, q1]) rfl ⟨_, rfl, s7, B6⟩

    · simp only [if_neg hE0]
      simp only [if_true] at HC
      go_enter Tryz.func78, Tryz.ntmps78
      go_wp2_with fail
      obtain ⟨W0, hW0⟩ : ∃ W0, (w.alloc (.cells #[.int .i64 m, .slice av l.length cv] 46)).alloc (.cells #[.int .i64 0, .slice none 0 0] 46) = W0 := ⟨_, rfl⟩
      rw [hW0]
      have p0 : Blk W0 w.heap.size #[.int .i64 m, .slice av l.length cv] 46 := by rw [← hW0]; exact (Blk.new _ _ _).alloc _
      have r0 : Blk W0 (w.heap.size + 1) #[.int .i64 0, .slice none 0 0] 46 := by
        have := Blk.new (w.alloc (.cells #[.int .i64 m, .slice av l.length cv] 46)) #[.int .i64 0, .slice none 0 0] 46
        rw [World.size_alloc] at this
        rw [← hW0]; exact this
      have B0 : Below w.heap.size w W0 := by rw [← hW0]; exact ((Below.refl _ w).alloc (Nat.le_refl _) _).alloc (by simp) _
      have p00 : W0.cell? ⟨w.heap.size, 0, none⟩ = some (.int .i64 m) := (p0.cell 0).trans rfl
      have p01 : W0.cell? ⟨w.heap.size, 1, none⟩ = some (.slice av l.length cv) := (p0.cell 1).trans rfl
      have HOx := HO W0 (KeepC.of_below B0)
      have R0 := hr.below B0
      have hc4 : w.heap.size ≤ w.heap.size + 1 := by omega
      have hcl : w.heap.size + 1 < W0.heap.size := r0.lt
      have hB0 := B0.size
      have hrH := Lib.hid hr
      clear hW0 HO hr p0
      generalize w.heap.size + 1 = c4 at *
      refine wp_scope_straight ?_
      go_wp2_with fail
      with_reducible refine HOx.mono ?_
      rintro e w1 ⟨q, g, rfl, hqw, q1, g1, b1⟩
      have R1 := R0.below b1
      have r1 := r0.below b1 r0.lt
      have B1 := B0.trans (b1.mono B0.size)
      have HCx := HC q _ w1 R1.ga ((q1.cell 0).trans rfl) ((q1.cell 1).trans rfl) g1.view
      clear HOx HC p00 p01 R0 r0 B0
      go_wp2_with fail
      with_reducible refine HCx.mono ?_
      rintro e w2 ⟨rfl, b2⟩
      have R2 := R1.below b2
      have r2 := r1.below b2 r1.lt
      have B2 := B1.trans (b2.mono B1.size)
      clear HCx R1 r1 B1
      have q2 := q1.below b2 q1.lt
      have v2 : StrsO W0.heap.size 9 w2 (.slice (some ⟨g, 0, none⟩) l.length l.length) l := own_kept g1 (grown_of_below b2 none) (RowT.none _ _)
      have hbb : W0.heap.size ≤ w2.heap.size := Nat.le_trans b1.size b2.size
      clear q1 g1 b1 b2
      obtain ⟨W3, hW3⟩ : ∃ W3, w2.alloc (.cells #[.string ⟨t.toArray⟩] 9) = W3 := ⟨_, rfl⟩
      have q3 : Blk W3 q _ _ := hW3 ▸ q2.alloc _
      have v3 : StrsO W0.heap.size 9 W3 (.slice (some ⟨g, 0, none⟩) l.length l.length) l := own_kept v2 (show w2.grownBy W3 none from hW3 ▸ World.grownBy_alloc _ _ none) (RowT.none _ _)
      have gi3 : W3.cell? ⟨w2.heap.size, 0, none⟩ = some (.string ⟨t.toArray⟩) := hW3 ▸ ((Blk.new _ _ _).cell 0).trans rfl
      have r3 : Blk W3 c4 _ _ := hW3 ▸ r2.alloc _
      have B3 : Below w.heap.size w W3 := hW3 ▸ B2.alloc B2.size _
      have HPx := HP q g W0.heap.size W3 (hrH.out.below B3) q3 v3 (Nat.le_trans hbb (hW3 ▸ (KeepC.alloc _ _).1)) hqw w2.heap.size gi3
      clear HP q2 v2 r2 R2 B2 q3 v3 gi3 hbb
      go_wp2_with fail
      try rw [hW3]
      clear hW3
      refine HPx.mono ?_
      rintro e w4 ⟨k, rfl, b4, hok⟩
      have r4 := r3.below b4 hcl
      have B4 := B3.trans (b4.mono hB0)
      have R4 := hrH.out.below B4
      have f40 := r4.frozen 0
      have f41 := r4.frozen 1
      have c40 := r4.cell 0
      have c41 := r4.cell 1
      simp at c40 c41
      clear HPx r3 B3 b4
      have HTx := HT w4 R4
      have hkk : ∃ t4 p4, rerr E a f em = .iface t4 p4 := by
        unfold rerr
        rw [if_neg hE0]
        split
        · exact ⟨_, _, rfl⟩
        · split <;> exact ⟨_, _, rfl⟩
      obtain ⟨t4, p4, hkk⟩ := hkk
      rw [hkk] at HTx ⊢
      clear hok HT hqk
      go_wp2_with fail
      refine wp_label ?_
      go_wp2_with fail
      with_reducible refine HTx.mono ?_
      rintro e w5 ⟨rfl, rfl⟩
      go_wp2_with fail
      simp only [Exit.noGoto_ret]
      have r6 := (r4.set 0 (.int .i64 0)).set 1 (.slice none 0 0)
      have B6 := (B4.setCell (p := ⟨c4, 0, none⟩) hc4 (.int .i64 0)).setCell (p := ⟨c4, 1, none⟩) hc4 (.slice none 0 0)
      simp only [List.setIfInBounds_toArray, List.set_cons_zero, List.set_cons_succ] at r6
      generalize (w4.setCell ⟨c4, 0, none⟩ (.int .i64 0)).setCell ⟨c4, 1, none⟩ (.slice none 0 0) = W6 at *
      have q0 : W6.cell? ⟨c4, 0, none⟩ = some (.int .i64 0) := (r6.cell 0).trans rfl
      have q1 : W6.cell? ⟨c4, 1, none⟩ = some (.slice none 0 0) := (r6.cell 1).trans rfl
      exact bodyPost_ret (v := .tuple #[.agg #[.int .i64 0, .slice none 0 0], .int .i64 E]) (by simp [results, Tryz.results78, go_sem, q0, q1]) rfl ⟨_, rfl, World.ownsRow_nil _ _ _ _, B6⟩

end Go.Proofs.YthclfkhakmcnbaaGreatDoor
/- Walks of layer 8: ring.Take. -/
namespace Go.Proofs.YthclfkhakmcnbaaGreatDoor
open Go.RowKit Go.Shelf
attribute [local go_sem] Oper.semAt_some undef
def rtakeP (w : World) (m : Int) (l : List (List UInt8)) (e : Ending) (w' : World) : Prop :=
  ∃ v', e = .returned (.tuple #[.string ⟨(if rtakeE m l = 0 then l.headD [] else []).toArray⟩, .agg #[.int .i64 (if rtakeE m l = 0 then m else 0), v'], .int .i64 (rtakeE m l)]) ∧ FreshV w.heap.size w' v' (if rtakeE m l = 0 then l.tail else []) ∧ Below w.heap.size w w'
theorem tail_view {base g o3 : Nat} {W W' : World} {s : List UInt8} {r : List (List UInt8)} (h : StrsO base 9 W (.slice (some ⟨g, 0, none⟩) (r.length + 1) (r.length + 1)) (s :: r)) (hg : W'.heap[g]? = W.heap[g]?) (ho : (if r.length + 1 = 1 then 0 else 1) = o3) :
    StrsV W' (.slice (some ⟨g, o3, none⟩) r.length r.length) r := by
  have hlt : g < W.heap.size := (h.lt g rfl).2
  have hlt' : g < W'.heap.size := by
    rw [Array.getElem?_eq_getElem hlt] at hg
    exact (Array.getElem?_eq_some_iff.1 hg).1
  refine ⟨by rw [strsC_len]; omega, _, _, rfl, Nat.le_refl _, ?_⟩
  rcases Nat.eq_zero_or_pos r.length with h0 | h0
  · exact .inl h0
  · refine .inr ⟨g, o3, rfl, hlt', fun j hj => ?_⟩
    rw [strsC_len] at hj
    have h1 : o3 = 1 := by rw [← ho, if_neg (by omega)]
    have := World.ownsRow.cellAt h (o3 + j) (by simp; omega)
    rw [World.cell?_of_block (a := ⟨g, o3 + j, none⟩) hg, this, h1, List.getElem?_eq_getElem (by rw [strsC_len]; simp; omega)]
    simp [strsC, Nat.add_comm 1 j]
attribute [-go_sem] sliced
set_option maxRecDepth 100000 in
set_option maxHeartbeats 4000000 in
theorem rtake_any (m : Int) (l : List (List UInt8)) (hl : FitsL l) (v : Value) (a f em : Addr) (w : World) (hr : RErr w a f em) (hv : StrsV w v l) :
    Calls Tryz.prog 82 #[.agg #[.int .i64 m, v]] w (rtakeP w m l) := by
  obtain ⟨av, cv, hvv, -⟩ := hv.2
  subst hvv
  have HO := fun W (h : KeepC w W) => own8_any m l hl.1 av cv W (hv.keep h)
  have HC := fun q v W h1 h2 h3 h4 => checked8_any q l hl m v a W h1 h2 h3 h4
  have hlm := hl.1
  unfold rtakeP
  cases hb : ringB m l with
  | false =>
    have hE : rtakeE m l = 2 := by unfold rtakeE; rw [hb]; rfl
    have HT := fun W (h : RErr W a f em) => toldRg_any 2 (by omega) a f em W h
    rw [show rerr 2 a f em = eV a from rfl] at HT
    rw [hb] at HC
    rw [hE]
    clear hE hb hv
    go_enter Tryz.func82, Tryz.ntmps82
    go_wp2_with fail
    obtain ⟨W0, hW0⟩ : ∃ W0, (w.alloc (.cells #[.int .i64 m, .slice av l.length cv] 46)).alloc (.cells #[.int .i64 0, .slice none 0 0] 46) = W0 := ⟨_, rfl⟩
    rw [hW0]
    have p0 : Blk W0 w.heap.size #[.int .i64 m, .slice av l.length cv] 46 := by rw [← hW0]; exact (Blk.new _ _ _).alloc _
    have r0 : Blk W0 (w.heap.size + 1) #[.int .i64 0, .slice none 0 0] 46 := by
      have := Blk.new (w.alloc (.cells #[.int .i64 m, .slice av l.length cv] 46)) #[.int .i64 0, .slice none 0 0] 46
      rw [World.size_alloc] at this
      rw [← hW0]; exact this
    have B0 : Below w.heap.size w W0 := by rw [← hW0]; exact ((Below.refl _ w).alloc (Nat.le_refl _) _).alloc (by simp) _
    have p00 : W0.cell? ⟨w.heap.size, 0, none⟩ = some (.int .i64 m) := (p0.cell 0).trans rfl
    have p01 : W0.cell? ⟨w.heap.size, 1, none⟩ = some (.slice av l.length cv) := (p0.cell 1).trans rfl
    have HOx := HO W0 (KeepC.of_below B0)
    have R0 := hr.below B0
    have hc4 : w.heap.size ≤ w.heap.size + 1 := by omega
    clear hW0 HO hr p0
    generalize w.heap.size + 1 = c4 at *
    go_wp2_with fail
    with_reducible refine HOx.mono ?_
    rintro e w1 ⟨q, g, rfl, hqw, q1, g1, b1⟩
    have R1 := R0.below b1
    have r1 := r0.below b1 r0.lt
    have B1 := B0.trans (b1.mono B0.size)
    have HCx := HC q _ w1 R1.ga ((q1.cell 0).trans rfl) ((q1.cell 1).trans rfl) g1.view
    clear HOx HC p00 p01 R0 r0 B0
    go_wp2_with fail
    with_reducible refine HCx.mono ?_
    rintro e w2 ⟨rfl, b2⟩
    have R2 := R1.below b2
    have r2 := r1.below b2 r1.lt
    have B2 := B1.trans (b2.mono B1.size)
    clear HCx R1 r1 B1
    have HTx := HT w2 R2
    have f0 := r2.frozen 0
    have f1 := r2.frozen 1
    have c0 := r2.cell 0
    have c1 := r2.cell 1
    simp at c0 c1
    clear HT R2 b2 q1 g1 b1
    go_wp2_with fail
    with_reducible refine HTx.mono ?_
    rintro e w4 ⟨rfl, rfl⟩
    go_wp2_with fail
    have r6 := (r2.set 0 (.int .i64 0)).set 1 (.slice none 0 0)
    have B6 := (B2.setCell (p := ⟨c4, 0, none⟩) hc4 (.int .i64 0)).setCell (p := ⟨c4, 1, none⟩) hc4 (.slice none 0 0)
    simp only [List.setIfInBounds_toArray, List.set_cons_zero, List.set_cons_succ] at r6
    generalize (w2.setCell ⟨c4, 0, none⟩ (.int .i64 0)).setCell ⟨c4, 1, none⟩ (.slice none 0 0) = W6 at *
    have q0 : W6.cell? ⟨c4, 0, none⟩ = some (.int .i64 0) := (r6.cell 0).trans rfl
    have q1 : W6.cell? ⟨c4, 1, none⟩ = some (.slice none 0 0) := (r6.cell 1).trans rfl
    exact bodyPost_ret (v := .tuple #[(.string ⟨#[]⟩), .agg #[.int .i64 0, .slice none 0 0], .int .i64 2]) (by simp [results, Tryz.results82, go_sem, q0, q1]) rfl ⟨_, rfl, FreshV.nil _ _, B6⟩
  | true =>
    rw [hb] at HC
    simp only [if_true] at HC
    cases l with
    | nil =>
      have hE : rtakeE m [] = 81 := by unfold rtakeE; rw [hb]; rfl
      have HT := fun W (h : RErr W a f em) => toldRg_any 81 (by omega) a f em W h
      rw [show rerr 81 a f em = eV em from rfl] at HT
      rw [hE]
      simp only [List.length_nil] at *
      clear hE hb hv
      go_enter Tryz.func82, Tryz.ntmps82
      go_wp2_with fail
      obtain ⟨W0, hW0⟩ : ∃ W0, (w.alloc (.cells #[.int .i64 m, .slice av 0 cv] 46)).alloc (.cells #[.int .i64 0, .slice none 0 0] 46) = W0 := ⟨_, rfl⟩
      rw [hW0]
      have p0 : Blk W0 w.heap.size #[.int .i64 m, .slice av 0 cv] 46 := by rw [← hW0]; exact (Blk.new _ _ _).alloc _
      have r0 : Blk W0 (w.heap.size + 1) #[.int .i64 0, .slice none 0 0] 46 := by
        have := Blk.new (w.alloc (.cells #[.int .i64 m, .slice av 0 cv] 46)) #[.int .i64 0, .slice none 0 0] 46
        rw [World.size_alloc] at this
        rw [← hW0]; exact this
      have B0 : Below w.heap.size w W0 := by rw [← hW0]; exact ((Below.refl _ w).alloc (Nat.le_refl _) _).alloc (by simp) _
      have p00 : W0.cell? ⟨w.heap.size, 0, none⟩ = some (.int .i64 m) := (p0.cell 0).trans rfl
      have p01 : W0.cell? ⟨w.heap.size, 1, none⟩ = some (.slice av 0 cv) := (p0.cell 1).trans rfl
      have HOx := HO W0 (KeepC.of_below B0)
      have R0 := hr.below B0
      have hc4 : w.heap.size ≤ w.heap.size + 1 := by omega
      clear hW0 HO hr p0
      generalize w.heap.size + 1 = c4 at *
      go_wp2_with fail
      with_reducible refine HOx.mono ?_
      rintro e w1 ⟨q, g, rfl, hqw, q1, g1, b1⟩
      have R1 := R0.below b1
      have r1 := r0.below b1 r0.lt
      have B1 := B0.trans (b1.mono B0.size)
      have HCx := HC q _ w1 R1.ga ((q1.cell 0).trans rfl) ((q1.cell 1).trans rfl) g1.view
      clear HOx HC p00 p01 R0 r0 B0
      go_wp2_with fail
      with_reducible refine HCx.mono ?_
      rintro e w2 ⟨rfl, b2⟩
      have R2 := R1.below b2
      have r2 := r1.below b2 r1.lt
      have B2 := B1.trans (b2.mono B1.size)
      clear HCx R1 r1 B1
      have HTx := HT w2 R2
      have gm2 := R2.gm
      have q2 := q1.below b2 q1.lt
      have e21 := q2.cell 1
      simp at e21
      have f0 := r2.frozen 0
      have f1 := r2.frozen 1
      have c0 := r2.cell 0
      have c1 := r2.cell 1
      simp at c0 c1
      clear HT R2 b2 q1 g1 b1 q2
      go_wp2_with fail
      with_reducible refine HTx.mono ?_
      rintro e w4 ⟨rfl, rfl⟩
      go_wp2_with fail
      have r6 := (r2.set 0 (.int .i64 0)).set 1 (.slice none 0 0)
      have B6 := (B2.setCell (p := ⟨c4, 0, none⟩) hc4 (.int .i64 0)).setCell (p := ⟨c4, 1, none⟩) hc4 (.slice none 0 0)
      simp only [List.setIfInBounds_toArray, List.set_cons_zero, List.set_cons_succ] at r6
      generalize (w2.setCell ⟨c4, 0, none⟩ (.int .i64 0)).setCell ⟨c4, 1, none⟩ (.slice none 0 0) = W6 at *
      have q0 : W6.cell? ⟨c4, 0, none⟩ = some (.int .i64 0) := (r6.cell 0).trans rfl
      have q1 : W6.cell? ⟨c4, 1, none⟩ = some (.slice none 0 0) := (r6.cell 1).trans rfl
      exact bodyPost_ret (v := .tuple #[(.string ⟨#[]⟩), .agg #[.int .i64 0, .slice none 0 0], .int .i64 81]) (by simp [results, Tryz.results82, go_sem, q0, q1]) rfl ⟨_, rfl, FreshV.nil _ _, B6⟩
    | cons s r =>
      have hE : rtakeE m (s :: r) = 0 := by unfold rtakeE; rw [hb]; rfl
      rw [hE]
      simp only [if_true, List.headD_cons, List.tail_cons]
      simp only [List.length_cons] at *
      have hnz : (((r.length + 1 : Nat) : Int) == 0) = false := by simp; omega
      clear hE hb hv
      go_enter Tryz.func82, Tryz.ntmps82
      go_wp2_with fail
      obtain ⟨W0, hW0⟩ : ∃ W0, (w.alloc (.cells #[.int .i64 m, .slice av (r.length + 1) cv] 46)).alloc (.cells #[.int .i64 0, .slice none 0 0] 46) = W0 := ⟨_, rfl⟩
      rw [hW0]
      have p0 : Blk W0 w.heap.size #[.int .i64 m, .slice av (r.length + 1) cv] 46 := by rw [← hW0]; exact (Blk.new _ _ _).alloc _
      have r0 : Blk W0 (w.heap.size + 1) #[.int .i64 0, .slice none 0 0] 46 := by
        have := Blk.new (w.alloc (.cells #[.int .i64 m, .slice av (r.length + 1) cv] 46)) #[.int .i64 0, .slice none 0 0] 46
        rw [World.size_alloc] at this
        rw [← hW0]; exact this
      have B0 : Below w.heap.size w W0 := by rw [← hW0]; exact ((Below.refl _ w).alloc (Nat.le_refl _) _).alloc (by simp) _
      have p00 : W0.cell? ⟨w.heap.size, 0, none⟩ = some (.int .i64 m) := (p0.cell 0).trans rfl
      have p01 : W0.cell? ⟨w.heap.size, 1, none⟩ = some (.slice av (r.length + 1) cv) := (p0.cell 1).trans rfl
      have HOx := HO W0 (KeepC.of_below B0)
      have R0 := hr.below B0
      have hc4 : w.heap.size ≤ w.heap.size + 1 := by omega
      have hcl : w.heap.size + 1 < W0.heap.size := r0.lt
      have hB0 := B0.size
      clear hW0 HO hr p0
      generalize w.heap.size + 1 = c4 at *
      go_wp2_with fail
      with_reducible refine HOx.mono ?_
      rintro e w1 ⟨q, g, rfl, hqw, q1, g1, b1⟩
      have R1 := R0.below b1
      have r1 := r0.below b1 r0.lt
      have B1 := B0.trans (b1.mono B0.size)
      have HCx := HC q _ w1 R1.ga ((q1.cell 0).trans rfl) ((q1.cell 1).trans rfl) g1.view
      clear HOx HC p00 p01 R0 r0 B0
      go_wp2_with fail
      with_reducible refine HCx.mono ?_
      rintro e w2 ⟨rfl, b2⟩
      have R2 := R1.below b2
      have r2 := r1.below b2 r1.lt
      have B2 := B1.trans (b2.mono B1.size)
      clear HCx R1 r1 B1
      have q2 := q1.below b2 q1.lt
      have e20 := q2.cell 0
      have e21 := q2.cell 1
      simp at e20 e21
      have v2 : StrsO W0.heap.size 9 w2 (.slice (some ⟨g, 0, none⟩) (r.length + 1) (r.length + 1)) (s :: r) := own_kept g1 (grown_of_below b2 none) (RowT.none _ _)
      have g20 : w2.cell? ⟨g, 0, none⟩ = some (.string ⟨s.toArray⟩) := (World.ownsRow.cellAt v2 0 (by simp)).trans rfl
      obtain ⟨o3, ho3⟩ : ∃ o3, (if r.length + 1 = 1 then 0 else 1) = o3 := ⟨_, rfl⟩
      have hy : sliced (some ⟨g, 0, none⟩) 1 (r.length + 1) (r.length + 1) 1 = .slice (some ⟨g, o3, none⟩) r.length r.length := by
        rw [← ho3]
        simp only [sliced]
        split <;> simp [Addr.add_lit]
      have f21 := q2.frozen 1
      have hqg : g ≠ q := by
        rintro rfl
        rcases v2.2 with ⟨h, -⟩ | ⟨g', cap', cur, h, -, hg, -⟩
        · cases h
        · cases h
          have := (show w2.heap[g]? = _ from q2).symm.trans hg
          injection this with this
          injection this with _ h2
          exact absurd h2 (by decide)
      clear R2 b2 q1 g1 b1
      have q2H := Lib.hid q2
      have v2H := Lib.hid v2
      have r2H := Lib.hid r2
      have hoH := Lib.hid ho3
      clear q2 v2 r2 ho3
      go_wp2_with fail
      have q3 := q2H.out.set 1 (.slice (some ⟨g, o3, none⟩) r.length r.length)
      simp only [List.setIfInBounds_toArray, List.set_cons_zero, List.set_cons_succ] at q3
      have r3 := r2H.out.other 1 (.slice (some ⟨g, o3, none⟩) r.length r.length) (show c4 ≠ q by omega)
      have B3 := B2.setCell (p := ⟨q, 1, none⟩) (show w.heap.size ≤ q from Nat.le_trans hB0 hqw) (.slice (some ⟨g, o3, none⟩) r.length r.length)
      have T3 := Lib.hid (fun W' hg => tail_view (W' := W') v2H.out ((hg : W'.heap[g]? = _).trans (Below.heap_setCell w2 ⟨q, 1, none⟩ (.slice (some ⟨g, o3, none⟩) r.length r.length) g hqg)) hoH.out)
      have hcg : g ≠ c4 := by have := (v2H.out.lt g rfl).1; omega
      have hwg : w.heap.size ≤ g := by have := (v2H.out.lt g rfl).1; omega
      have hgl : g < w2.heap.size := (v2H.out.lt g rfl).2
      have hs3 : Hid (w2.heap.size ≤ (w2.setCell ⟨q, 1, none⟩ (.slice (some ⟨g, o3, none⟩) r.length r.length)).heap.size) := by show _ ≤ _; simp
      clear q2H r2H B2 v2H g20 hqg f21 e20 e21 hy
      generalize w2.setCell ⟨q, 1, none⟩ (.slice (some ⟨g, o3, none⟩) r.length r.length) = W3 at *
      have q3d : Blk W3.drew q _ _ := q3
      have r3d : Blk W3.drew c4 _ _ := r3
      have d0 := (q3d.cell 0).trans rfl
      have d1 := (q3d.cell 1).trans rfl
      simp at d0 d1
      have f0 := r3d.frozen 0
      have f1 := r3d.frozen 1
      have c0 := r3d.cell 0
      have c1 := r3d.cell 1
      simp at c0 c1
      have f0' := r3.frozen 0
      have f1' := r3.frozen 1
      have d0' := (q3.cell 0).trans rfl
      have d1' := (q3.cell 1).trans rfl
      have c0' := r3.cell 0
      have c1' := r3.cell 1
      simp at c0' c1' d0' d1'
      have B3H := Lib.hid B3
      have r3H := Lib.hid r3d
      clear q3 r3 q3d r3d B3
      refine wp_region_noPanic ?_
      refine wp_region_any (by kernel_rfl) ?_
      change wpAny _ _ _ _ _ _ _ (World.drew _)
      refine wpAny_take (i := 0) (oi := _) (v := ?_) (nth_at rfl) (by kernel_rfl) (by kernel_rfl) (by kernel_rfl) (fun _ _ _ h => h) (Or.inl ⟨by rfl, ?_⟩) ?_
      rotate_left 1
      · intro w; (go_simp <;> with_reducible rfl)
      try simp only [Act.put, List.setIfInBounds_toArray, List.set_cons_zero, List.set_cons_succ]
      refine wpAny_take (i := 1) (oi := _) (v := ?_) (nth_at rfl) (by kernel_rfl) (by kernel_rfl) (by kernel_rfl) (fun _ _ _ h => h) (Or.inl ⟨by rfl, ?_⟩) ?_
      rotate_left 1
      · intro w; (go_simp <;> with_reducible rfl)
      try simp only [Act.put, List.setIfInBounds_toArray, List.set_cons_zero, List.set_cons_succ]
      refine wpAny_take (i := 2) (oi := _) (v := ?_) (nth_at rfl) (by kernel_rfl) (by kernel_rfl) (by kernel_rfl) (fun _ _ _ h => h) (Or.inl ⟨by rfl, ?_⟩) ?_
      rotate_left 1
      · intro w; (go_simp <;> with_reducible rfl)
      try simp only [Act.put, List.setIfInBounds_toArray, List.set_cons_zero, List.set_cons_succ]
      refine wpAny_take (i := 3) (oi := _) (v := ?_) (nth_at rfl) (by kernel_rfl) (by kernel_rfl) (by kernel_rfl) (fun _ _ _ h => h) (Or.inl ⟨by rfl, ?_⟩) ?_
      rotate_left 1
      · intro w; (go_simp <;> with_reducible rfl)
      try simp only [Act.put, List.setIfInBounds_toArray, List.set_cons_zero, List.set_cons_succ]
      refine wpAny_take (i := 5) (oi := _) (v := ?_) (nth_at rfl) (by kernel_rfl) (by kernel_rfl) (by kernel_rfl) (fun _ _ _ h => h) (Or.inl ⟨by rfl, ?_⟩) ?_
      rotate_left 1
      · intro w; (go_simp <;> with_reducible rfl)
      try simp only [Act.put, List.setIfInBounds_toArray, List.set_cons_zero, List.set_cons_succ]
      refine wpAny_ready (rs := [4]) (by kernel_rfl) (by simp) ?_
      refine AllReady.cons (o := _) (nth_at rfl) (fun K hK => ?_) AllReady.nil
      go_simp
      refine hK _ _ ?_
      clear hK K
      try simp only [Act.put, List.setIfInBounds_toArray, List.set_cons_zero, List.set_cons_succ]
      refine wpAny_ready (rs := [6]) (by kernel_rfl) (by simp) ?_
      refine AllReady.cons (o := _) (nth_at rfl) (fun K hK => ?_) AllReady.nil
      go_simp
      refine hK _ _ ?_
      clear hK K
      try simp only [Act.put, List.setIfInBounds_toArray, List.set_cons_zero, List.set_cons_succ]
      refine wpAny_take (i := 7) (oi := _) (v := ?_) (nth_at rfl) (by kernel_rfl) (by kernel_rfl) (by kernel_rfl) (fun _ _ _ h => h) (Or.inl ⟨by rfl, ?_⟩) ?_
      rotate_left 1
      · intro w; (go_simp <;> with_reducible rfl)
      try simp only [Act.put, List.setIfInBounds_toArray, List.set_cons_zero, List.set_cons_succ]
      refine wpAny_done (by kernel_rfl) ?_ _
      refine NoPanic.normal ?_
      go_wp2_with fail
      have r6 := (r3H.out.set 0 (.int .i64 m)).set 1 (.slice (some ⟨g, o3, none⟩) r.length r.length)
      simp only [List.setIfInBounds_toArray, List.set_cons_zero, List.set_cons_succ] at r6
      have B6 := ((B3H.out.drew.setCell (p := ⟨c4, 0, none⟩) hc4 (.int .i64 m)).setCell (p := ⟨c4, 1, none⟩) hc4 (.slice (some ⟨g, o3, none⟩) r.length r.length))
      have hg6 : ((W3.drew.setCell ⟨c4, 0, none⟩ (.int .i64 m)).setCell ⟨c4, 1, none⟩ (.slice (some ⟨g, o3, none⟩) r.length r.length)).heap[g]? = W3.heap[g]? := (Below.heap_setCell _ ⟨c4, 1, none⟩ _ g hcg).trans (Below.heap_setCell _ ⟨c4, 0, none⟩ _ g hcg)
      have hs6 : w2.heap.size ≤ ((W3.drew.setCell ⟨c4, 0, none⟩ (.int .i64 m)).setCell ⟨c4, 1, none⟩ (.slice (some ⟨g, o3, none⟩) r.length r.length)).heap.size := by simpa using hs3.out
      have T6 : FreshV w.heap.size ((W3.drew.setCell ⟨c4, 0, none⟩ (.int .i64 m)).setCell ⟨c4, 1, none⟩ (.slice (some ⟨g, o3, none⟩) r.length r.length)) (.slice (some ⟨g, o3, none⟩) r.length r.length) r := ⟨⟨_, _, rfl⟩, fun W' hs hb => T3.out W' ((hb g hwg (Nat.lt_of_lt_of_le hgl hs6)).trans hg6)⟩
      change bodyPost _ _ _ _ _ ((W3.drew.setCell ⟨c4, 0, none⟩ (.int .i64 m)).setCell ⟨c4, 1, none⟩ (.slice (some ⟨g, o3, none⟩) r.length r.length))
      generalize (W3.drew.setCell ⟨c4, 0, none⟩ (.int .i64 m)).setCell ⟨c4, 1, none⟩ (.slice (some ⟨g, o3, none⟩) r.length r.length) = W6 at *
      have q0 : W6.cell? ⟨c4, 0, none⟩ = some (.int .i64 m) := (r6.cell 0).trans rfl
      have q1 : W6.cell? ⟨c4, 1, none⟩ = some (.slice (some ⟨g, o3, none⟩) r.length r.length) := (r6.cell 1).trans rfl
      exact bodyPost_ret (v := .tuple #[.string ⟨s.toArray⟩, .agg #[.int .i64 m, .slice (some ⟨g, o3, none⟩) r.length r.length], .int .i64 0]) (by simp [results, Tryz.results82, go_sem, q0, q1]) rfl ⟨_, rfl, T6, B6⟩
end Go.Proofs.YthclfkhakmcnbaaGreatDoor
