/- Joined: RuJp; ApSrc; SlRuleJoins -/
import Derived.Test.YtmmdpjliknmhgaaGreatDoorJRN
import Derived.Test.YtmmdpjliknmhgaaGreatDoorJRC
import Derived.Lib.AppendZeros
import Derived.Deep.DeepMust
import Derived.Deep.QuietTactic
import Derived.BigQuiet
/- What RuleJoins leans on: two texts, one behind the other. Plain. -/
namespace Go.Proofs.YtmmdpjliknmhgaaGreatDoor
open Go.RowKit
def goodJ (L M : List RuT) : Prop := ruL.rE (ruL.pT L ++ ruL.pT M) = 0 ∧ ruL.rL (ruL.pT L ++ ruL.pT M) = L ++ M
def badJ (L M : List RuT) : Prop := ruL.rE (ruL.pT L ++ ruL.pT M) = 140
theorem right_of {l : List RuT} (h : ruL.pE l = 0) : ruL.right l = true := ruL.pE_zero.1 h
theorem good_of {L M : List RuT} (hl : ruL.pE L = 0) (hm : ruL.pE M = 0) (hr : ruL.right (L ++ M) = true) : goodJ L M := (ruL.law_joins hl hm).1 hr
theorem bad_of {L M : List RuT} (hl : ruL.pE L = 0) (hm : ruL.pE M = 0) (hr : ¬ ruL.right (L ++ M) = true) : badJ L M := (ruL.law_joins hl hm).2 hr
theorem ends_at {L M : List RuT} (h1 : 0 < L.length) (h2 : 0 < M.length) : (L = [] ∨ M = [] ∨ ∃ x y, L.getLast? = some x ∧ M.head? = some y ∧ ruL.idR x < ruL.idR y) ↔ L[L.length - 1].id < M[0].id := by
  have e1 : L.getLast? = some (L[L.length - 1]) := by rw [List.getLast?_eq_getElem?, List.getElem?_eq_getElem]
  have e2 : M.head? = some M[0] := by rw [List.head?_eq_getElem?, List.getElem?_eq_getElem]
  constructor
  · rintro (rfl | rfl | ⟨x, y, hx, hy, h⟩)
    · exact absurd h1 (by simp)
    · exact absurd h2 (by simp)
    · rw [e1] at hx; rw [e2] at hy
      cases hx; cases hy; exact h
  · exact fun h => .inr (.inr ⟨_, _, e1, e2, h⟩)
theorem joins_nil1 {L M : List RuT} (hl : ruL.pE L = 0) (hm : ruL.pE M = 0) (h : L.length = 0) : goodJ L M ∧ L.length + M.length ≤ 8 := by
  have h8 := right_len (right_of hm)
  exact ⟨good_of hl hm ((ruL.law_rising hl hm).2 ⟨.inl (List.eq_nil_of_length_eq_zero h), by rw [List.length_append]; omega⟩), by omega⟩
theorem joins_nil2 {L M : List RuT} (hl : ruL.pE L = 0) (hm : ruL.pE M = 0) (h : M.length = 0) : goodJ L M ∧ L.length + M.length ≤ 8 := by
  have h8 := right_len (right_of hl)
  exact ⟨good_of hl hm ((ruL.law_rising hl hm).2 ⟨.inr (.inl (List.eq_nil_of_length_eq_zero h)), by rw [List.length_append]; omega⟩), by omega⟩
theorem joins_good {L M : List RuT} (hl : ruL.pE L = 0) (hm : ruL.pE M = 0) (h1 : 0 < L.length) (h2 : 0 < M.length) (hlt : L[L.length - 1].id < M[0].id) (h8 : L.length + M.length ≤ 8) : goodJ L M :=
  good_of hl hm ((ruL.law_rising hl hm).2 ⟨(ends_at h1 h2).2 hlt, by rw [List.length_append]; exact h8⟩)
theorem joins_bad {L M : List RuT} (hl : ruL.pE L = 0) (hm : ruL.pE M = 0) (h1 : 0 < L.length) (h2 : 0 < M.length) (h : ¬ L[L.length - 1].id < M[0].id ∨ 8 < L.length + M.length) : badJ L M :=
  bad_of hl hm fun hr => by
    obtain ⟨k1, k2⟩ := (ruL.law_rising hl hm).1 hr
    rw [List.length_append] at k2
    rcases h with h | h
    · exact h ((ends_at h1 h2).1 k1)
    · omega
end Go.Proofs.YtmmdpjliknmhgaaGreatDoor
/- Appends of a whole list that may be nil to an own row. -/
namespace Go.Proofs.YtmmdpjliknmhgaaGreatDoor
open Go.RowKit Go.Shelf
theorem run_append_no {P : Program} {w : World} {base size : Nat} (t ty e : TypeId) (i : TypeInfo) (ht : P.underlying t = some (.slice e)) (hi : P.info? e = some i)
    (v : Value) (n : Nat) (xs : List Value) (hown : w.ownsRow base e size v n xs) (c : Nat) :
    (Builtin.append_ #[t, t] ty #[v, .slice none 0 c]).run P w = .ok v w := by
  rcases hown.2 with ⟨rfl, rfl⟩ | ⟨g, cap, cur, rfl, _, _, hnc, _⟩
  · simp [Builtin.append_, run_underlying ht, Go.sizeOf, typeInfo, hi, Builtin.lenOf, Builtin.firstCells]
  · simp [Builtin.append_, run_underlying ht, Go.sizeOf, typeInfo, hi, Builtin.lenOf, Builtin.firstCells, hnc, storeCells]
theorem wp_append_src {P : Program} {w : World} {o : Oper} {a : Act} {K : Act → World → Prop} {Q : Exit → Act → World → Prop} (s x : Operand) (t : TypeId)
    (ho : o.op = .call { callee := .builtin .append, args := #[s, x], argTypes := #[t, t] })
    (base : Nat) (e : TypeId) (i : TypeInfo) (z : Value) (size bytes : Nat) (ht : P.underlying t = some (.slice e)) (hi : P.info? e = some i) (hz : i.zero = some z)
    (hsize : i.size = size) (hby : i.bytes = bytes) (hzs : z.cells.size = size) (hsz : 0 < size)
    (v : Value) (n : Nat) (xs : List Value) (hs : a.eval s = v) (hown : w.ownsRow base e size v n xs)
    (ao : Option Addr) (m c : Nat) (news : List Value) (hx : a.eval x = .slice ao m c) (hno : ao = none → m = 0) (hl : news.length = m * size) (hnews : ∀ ad, ao = some ad → ∀ j u, news[j]? = some u → w.cell? (ad.add j) = some u) (h1 : ∀ u ∈ news, u.oneCell' = true)
    (h63 : n + m ≤ maxLen) (hbytes : (n + m) * bytes ≤ 140737488355328) (hbase : base ≤ w.heap.size)
    (h : ∀ v' w', w'.ownsRow base e size v' (n + m) (xs ++ news) → w.grownBy w' v.ownBlock → K (a.put o.dst v') w') : o.wp P a w K Q := by
  cases ao with
  | some ad => exact wp_append_own w s x t ho base e i z size bytes ht hi hz hsize hby hzs hsz v n xs hs hown ad m c news hx hl (hnews ad rfl) h1 h63 hbytes hbase fun v' w' h2 h3 _ => h v' w' h2 h3
  | none =>
    obtain rfl := hno rfl
    obtain rfl : news = [] := by rw [Nat.zero_mul] at hl; exact List.eq_nil_of_length_eq_zero hl
    refine Lib.wp_append_run w s x t t ho v (.slice none 0 c) hs hx v w (run_append_no t _ e i ht hi v n xs hown c) (h v w (by simpa using hown) (World.grownBy.refl _ _))
theorem wpList_append_src {P : Program} {w : World} {ops : Array Oper} {rest : List Oper} {o : Oper} {a : Act} {Q : Exit → Act → World → Prop} (hgd : o.guard = none) (s x : Operand) (t : TypeId)
    (ho : o.op = .call { callee := .builtin .append, args := #[s, x], argTypes := #[t, t] })
    (base : Nat) (e : TypeId) (i : TypeInfo) (z : Value) (size bytes : Nat) (ht : P.underlying t = some (.slice e)) (hi : P.info? e = some i) (hz : i.zero = some z)
    (hsize : i.size = size) (hby : i.bytes = bytes) (hzs : z.cells.size = size) (hsz : 0 < size)
    (v : Value) (n : Nat) (xs : List Value) (hs : a.eval s = v) (hown : w.ownsRow base e size v n xs)
    (ao : Option Addr) (m c : Nat) (news : List Value) (hx : a.eval x = .slice ao m c) (hno : ao = none → m = 0) (hl : news.length = m * size) (hnews : ∀ ad, ao = some ad → ∀ j u, news[j]? = some u → w.cell? (ad.add j) = some u) (h1 : ∀ u ∈ news, u.oneCell' = true)
    (h63 : n + m ≤ maxLen) (hbytes : (n + m) * bytes ≤ 140737488355328) (hbase : base ≤ w.heap.size)
    (h : ∀ v' w', w'.ownsRow base e size v' (n + m) (xs ++ news) → w.grownBy w' v.ownBlock → wpList P ops Q rest (a.put o.dst v') w') : wpList P ops Q (o :: rest) a w :=
  wpList_plain hgd fun _ hK => wp_append_src s x t ho base e i z size bytes ht hi hz hsize hby hzs hsz v n xs hs hown ao m c news hx hno hl hnews h1 h63 hbytes hbase fun v' w' h2 h3 => hK _ _ (h v' w' h2 h3)
theorem slR_src {k : Nat} {w : World} {v : Value} {n : Nat} {cs : List Value} (h : SlR k w v n cs) : ∃ ao cap, v = .slice ao n cap ∧ n ≤ cap ∧ cs.length = n * k ∧ (ao = none → n = 0) ∧ ∀ W, KeepC w W → ∀ ad, ao = some ad → ∀ j u, cs[j]? = some u → W.cell? (ad.add j) = some u := by
  rcases Nat.eq_zero_or_pos n with h0 | h0
  · subst h0
    have hl := h.1
    obtain ⟨hcs, ao, cap, rfl⟩ := h.zero
    subst hcs
    exact ⟨ao, cap, rfl, Nat.zero_le _, by simp, fun _ => rfl, fun W _ ad _ j u hu => by simp at hu⟩
  · obtain ⟨b, o, cap, rfl, hc, -, hcell⟩ := h.pos h0
    refine ⟨some ⟨b, o, none⟩, cap, rfl, hc, h.1, by simp, fun W hW ad hd j u hu => ?_⟩
    cases hd
    rw [Addr.add_lit]
    obtain ⟨hj, rfl⟩ := List.getElem?_eq_some_iff.1 hu
    exact hW.2 _ _ _ (hcell j hj)
end Go.Proofs.YtmmdpjliknmhgaaGreatDoor
/- A statement of layer 14: RuleJoins. -/
namespace Go.Proofs.YtmmdpjliknmhgaaGreatDoor
open Go.RowKit Go.Shelf
attribute [local go_sem] Oper.semAt_some
theorem less_one (k m : Nat) (hm : (m : Int) = k - 1) (h : k ≤ 9223372036854775807) : IntKind.i64.wrap ((k : Int) - 1) = k - 1 ∧ (0 : Int) ≤ k - 1 ∧ ((k : Int) - 1).toNat = m :=
  ⟨IntWalk.i64_in _ (by omega), by omega, by omega⟩
set_option maxRecDepth 100000 in
set_option maxHeartbeats 8000000 in
theorem ruleJoins_any (l m : List RuT) (hl : l.length ≤ maxLen) (hf : ∀ r ∈ l, r.what.2.2.length ≤ maxLen) (hS : ∀ r ∈ l, r.src.2.1 < 18446744073709551616 ∧ r.dst.2.1 < 18446744073709551616) (hm : m.length ≤ maxLen) (hmf : ∀ r ∈ m, r.what.2.2.length ≤ maxLen) (hmS : ∀ r ∈ m, r.src.2.1 < 18446744073709551616 ∧ r.dst.2.1 < 18446744073709551616) (v u : Value) (ea : Addr) (mx : Int) (w : World) (hG : Glob ea mx w) (hv : RulesV w v l) (hu : RulesV w u m) :
    Calls Tryz.prog 6 #[v, u] w fun e w' => e = .returned (.bool true) ∧ Below w.heap.size w w' := by
  obtain ⟨ii, hI, hz0, hz1, hz2⟩ := info_parts infoR
  have hGk := fun W (h : Below w.heap.size w W) => hG.same (W := W) h.block
  have HSh := fun W (h : Below w.heap.size w W) => shown14_any ea mx W (hGk W h)
  have HF := fun W (h : Below w.heap.size w W) => few14_any l hl hf v W (hv.keep (KeepC.of_below h))
  have HF2 := fun W (h : Below w.heap.size w W) => few14_any m hm hmf u W (hu.keep (KeepC.of_below h))
  have hFl := fewRu_len l
  have hFo := fewRu_ok l hS
  have hMl := fewRu_len m
  have hMo := fewRu_ok m hmS
  have HP := fun W (h : Below w.heap.size w W) z hz => ruPrint_any (fewRu l) (by omega) hFo z ea W (hGk W h).1 (hGk W h).2.1 (hGk W h).2.2.1 hz
  have HP2 := fun W (h : Below w.heap.size w W) z hz => ruPrint_any (fewRu m) (by omega) hMo z ea W (hGk W h).1 (hGk W h).2.1 (hGk W h).2.2.1 hz
  have hpl := pT_len (fewRu l)
  have hpm := pT_len (fewRu m)
  have HA := fun W (h : Below w.heap.size w W) => ruParse_any (ruL.pT (fewRu l) ++ ruL.pT (fewRu m)) (by rw [List.length_append]; omega) ea mx W (hGk W h)
  have HS := fun W y z hy hz => ruSame_eq (fewRu l ++ fewRu m) (by rw [List.length_append]; omega) y z W hy hz
  have hc1 := pE_cases (fewRu l)
  have hc2 := pE_cases (fewRu m)
  clear hG hGk hv hu hFo hMo hS hmS hf hmf hl hm
  generalize fewRu l = F at *
  generalize fewRu m = M at *
  rcases hc1 with ⟨e0, eR⟩ | ⟨e0, eR, eT⟩
  · rcases hc2 with ⟨f0, fR⟩ | ⟨f0, fR, fT⟩
    · rw [e0] at HP
      rw [f0] at HP2
      have hJ1 := fun h => joins_nil1 e0 f0 h
      have hJ2 := fun h => joins_nil2 e0 f0 h
      have hJ3 := fun h1 h2 h3 h4 => joins_good e0 f0 h1 h2 h3 h4
      have hJ4 := fun h1 h2 h3 => joins_bad e0 f0 h1 h2 h3
      unfold goodJ at hJ1 hJ2 hJ3
      unfold badJ at hJ4
      clear e0 f0 eR fR
      have hz1' := ba_size (ruL.pT F)
      have hz2' := ba_size (ruL.pT M)
      generalize ruL.rE (ruL.pT F ++ ruL.pT M) = g at *
      generalize ruL.rN (ruL.pT F ++ ruL.pT M) = n at *
      generalize hRL : ruL.rL (ruL.pT F ++ ruL.pT M) = R at *
      clear hRL
      generalize ruL.pT F = a at *
      generalize ruL.pT M = b at *
      have hq1 : ¬ (9223372036854775807 < a.length + b.length) := by omega
      go_enter Tryz.func6, Tryz.ntmps6
      go_wp2_with fail
      with_reducible refine (HSh w (Below.refl w.heap.size w)).mono ?_
      rintro e w1 ⟨rfl, b1⟩
      have B1 := (Below.refl w.heap.size w).trans (b1.mono (Below.refl w.heap.size w).size)
      clear b1
      go_wp2_with fail
      with_reducible refine (HF w1 B1).mono ?_
      rintro e w2 ⟨v2, rfl, o2, b2⟩
      have B2 := B1.trans (b2.mono B1.size)
      clear b2
      obtain ⟨a2, c2, rfl⟩ := ruOwn_shape o2
      have V2 := RulesO.view o2
      clear o2
      go_wp2_with fail
      with_reducible refine (HF2 w2 B2).mono ?_
      rintro e w3 ⟨v3, rfl, o3, b3⟩
      have B3 := B2.trans (b3.mono B2.size)
      replace V2 := V2.keep (KeepC.of_below b3)
      clear b3
      obtain ⟨a3, c3, rfl⟩ := ruOwn_shape o3
      have V3 := RulesO.view o3
      clear o3
      go_wp2_with fail
      with_reducible refine (HP w3 B3 _ V2).mono ?_
      rintro e w4 ⟨rfl, b4⟩
      have B4 := B3.trans (b4.mono B3.size)
      replace V2 := V2.keep (KeepC.of_below b4)
      replace V3 := V3.keep (KeepC.of_below b4)
      clear b4
      go_wp2_with fail
      with_reducible refine (HP2 w4 B4 _ V3).mono ?_
      rintro e w5 ⟨rfl, b5⟩
      have B5 := B4.trans (b5.mono B4.size)
      replace V2 := V2.keep (KeepC.of_below b5)
      replace V3 := V3.keep (KeepC.of_below b5)
      clear b5
      go_wp2_with fail
      with_reducible refine (HA w5 B5).mono ?_
      rintro e w6 ⟨v6, rfl, o6, b6⟩
      have B6 := B5.trans (b6.mono B5.size)
      replace V2 := V2.keep (KeepC.of_below b6)
      replace V3 := V3.keep (KeepC.of_below b6)
      clear b6
      obtain ⟨a6, c6, rfl⟩ := ruOwn_shape o6
      have V6 := RulesO.view o6
      clear o6
      rcases Nat.eq_zero_or_pos F.length with hF0 | hF0
      · obtain ⟨⟨rfl, rfl⟩, hT8⟩ := hJ1 hF0
        clear hJ1 hJ2 hJ3 hJ4
        have zA : ((F.length : Int) == 0) = true := by rw [hF0]; rfl
        clear hF0
        clear HSh HF HF2 HP HP2 HA
        try rw [List.length_append] at V6
        go_wp2_with fail
        go_quiet (fail)
        have BQ := below_drewN B6 nq
        replace V2 := V2.keep (KeepC.drewN _ nq)
        replace V3 := V3.keep (KeepC.drewN _ nq)
        replace V6 := V6.keep (KeepC.drewN _ nq)
        generalize w6.drewN nq = wq at *
        clear B6
        obtain ⟨p2, q2, x2, -, y2, n2, g2⟩ := slR_src V2
        obtain ⟨p3, q3, x3, -, y3, n3, g3⟩ := slR_src V3
        cases x2
        cases x3
        have g20 := g2 wq (KeepC.refl _)
        go_wp2_with (at_builtin; go_must (refine wpList_append_src rfl _ _ 22 rfl wq.heap.size 40 ii _ 11 96 Tryz.underlying22 hI hz0 hz1 hz2 rfl (by decide) _ 0 [] rfl (World.ownsRow_nil _ _ _ _) _ F.length _ (rusC F) rfl n2 y2 g20 (rusC_one F) (by unfold maxLen; omega) (by omega) (Nat.le_refl _) ?_))
        intro v7 w7 hown hgrow
        try simp only [Nat.zero_add, List.nil_append] at hown
        have b7 : Below wq.heap.size wq w7 := (Below.refl _ wq).grown hgrow (Nat.le_refl _) (fun k hk => (by cases hk))
        have g30 := g3 w7 (KeepC.of_below b7)
        clear hgrow g20 g2 g3
        go_wp2_with (at_builtin; go_must (refine wpList_append_src rfl _ _ 22 rfl wq.heap.size 40 ii _ 11 96 Tryz.underlying22 hI hz0 hz1 hz2 rfl (by decide) _ F.length (rusC F) rfl hown _ M.length _ (rusC M) rfl n3 y3 g30 (rusC_one M) (by unfold maxLen; omega) (by omega) b7.size ?_))
        intro v8 w8 hown8 hgrow8
        have b8 : Below wq.heap.size wq w8 := b7.grown hgrow8 b7.size (fun k hk => (hown.lt k hk).1)
        have B8 := BQ.trans (b8.mono BQ.size)
        replace V6 := V6.keep (KeepC.of_below b8)
        have V8 : RulesV w8 v8 (F ++ M) := by unfold RulesV; rw [List.length_append, rusC_app]; exact SlR.of_row hown8
        obtain ⟨a8, c8, rfl⟩ := ruOwn_shape hown8
        clear hown hown8 hgrow8 g30 b7 b8 V2 V3 n2 n3 y2 y3 BQ
        clear hFl hMl
        have h88 : ¬ (8 < (F.length : Int) + (M.length : Int)) := by omega
        have h89 : ¬ (8 < ((F.length + M.length : Nat) : Int)) := by omega
        clear hT8
        go_wp2_with fail
        with_reducible refine (HS w8 _ _ V8 V6).mono ?_
        rintro e w9 ⟨rfl, b9⟩
        have B9 := B8.trans (b9.mono B8.size)
        go_wp2_with fail
        go_ret
        exact ⟨rfl, B9⟩
      rcases Nat.eq_zero_or_pos M.length with hM0 | hM0
      · obtain ⟨⟨rfl, rfl⟩, hT8⟩ := hJ2 hM0
        clear hJ1 hJ2 hJ3 hJ4
        have zA : ((F.length : Int) == 0) = false := by rw [beq_eq_false_iff_ne]; omega
        have zB : ((M.length : Int) == 0) = true := by rw [hM0]; rfl
        clear hF0 hM0
        clear HSh HF HF2 HP HP2 HA
        try rw [List.length_append] at V6
        go_wp2_with fail
        go_quiet (fail)
        have BQ := below_drewN B6 nq
        replace V2 := V2.keep (KeepC.drewN _ nq)
        replace V3 := V3.keep (KeepC.drewN _ nq)
        replace V6 := V6.keep (KeepC.drewN _ nq)
        generalize w6.drewN nq = wq at *
        clear B6
        obtain ⟨p2, q2, x2, -, y2, n2, g2⟩ := slR_src V2
        obtain ⟨p3, q3, x3, -, y3, n3, g3⟩ := slR_src V3
        cases x2
        cases x3
        have g20 := g2 wq (KeepC.refl _)
        go_wp2_with (at_builtin; go_must (refine wpList_append_src rfl _ _ 22 rfl wq.heap.size 40 ii _ 11 96 Tryz.underlying22 hI hz0 hz1 hz2 rfl (by decide) _ 0 [] rfl (World.ownsRow_nil _ _ _ _) _ F.length _ (rusC F) rfl n2 y2 g20 (rusC_one F) (by unfold maxLen; omega) (by omega) (Nat.le_refl _) ?_))
        intro v7 w7 hown hgrow
        try simp only [Nat.zero_add, List.nil_append] at hown
        have b7 : Below wq.heap.size wq w7 := (Below.refl _ wq).grown hgrow (Nat.le_refl _) (fun k hk => (by cases hk))
        have g30 := g3 w7 (KeepC.of_below b7)
        clear hgrow g20 g2 g3
        go_wp2_with (at_builtin; go_must (refine wpList_append_src rfl _ _ 22 rfl wq.heap.size 40 ii _ 11 96 Tryz.underlying22 hI hz0 hz1 hz2 rfl (by decide) _ F.length (rusC F) rfl hown _ M.length _ (rusC M) rfl n3 y3 g30 (rusC_one M) (by unfold maxLen; omega) (by omega) b7.size ?_))
        intro v8 w8 hown8 hgrow8
        have b8 : Below wq.heap.size wq w8 := b7.grown hgrow8 b7.size (fun k hk => (hown.lt k hk).1)
        have B8 := BQ.trans (b8.mono BQ.size)
        replace V6 := V6.keep (KeepC.of_below b8)
        have V8 : RulesV w8 v8 (F ++ M) := by unfold RulesV; rw [List.length_append, rusC_app]; exact SlR.of_row hown8
        obtain ⟨a8, c8, rfl⟩ := ruOwn_shape hown8
        clear hown hown8 hgrow8 g30 b7 b8 V2 V3 n2 n3 y2 y3 BQ
        clear hFl hMl
        have h88 : ¬ (8 < (F.length : Int) + (M.length : Int)) := by omega
        have h89 : ¬ (8 < ((F.length + M.length : Nat) : Int)) := by omega
        clear hT8
        go_wp2_with fail
        with_reducible refine (HS w8 _ _ V8 V6).mono ?_
        rintro e w9 ⟨rfl, b9⟩
        have B9 := B8.trans (b9.mono B8.size)
        go_wp2_with fail
        go_ret
        exact ⟨rfl, B9⟩
      have hJ3' := hJ3 hF0 hM0
      have hJ4' := hJ4 hF0 hM0
      clear hJ1 hJ2 hJ3 hJ4
      obtain ⟨A2, C2, x2, -, hc2⟩ := V2.at
      cases x2
      obtain ⟨A3, C3, x3, -, hc3⟩ := V3.at
      cases x3
      obtain ⟨m1, hm1⟩ : ∃ m1, F.length - 1 = m1 := ⟨_, rfl⟩
      have hm1z : (m1 : Int) = (F.length : Int) - 1 := by omega
      obtain ⟨D1, D2, D3⟩ := less_one F.length m1 hm1z (by omega)
      obtain ⟨b2, oo2, rfl, -, hk2⟩ := hc2 (F.length - 1) (by omega)
      obtain ⟨b3, oo3, rfl, -, hk3⟩ := hc3 0 hM0
      have k2 := (hk2 _ (KeepC.refl _)).1
      have k3 := (hk3 _ (KeepC.refl _)).1
      clear hc2 hc3 hk2 hk3
      rw [Nat.zero_mul, Nat.add_zero] at k3
      generalize F[F.length - 1].id = id1 at *
      generalize M[0].id = id2 at *
      rw [hm1] at k2
      clear hm1
      have zA : ((F.length : Int) == 0) = false := by rw [beq_eq_false_iff_ne]; omega
      have zB : ((M.length : Int) == 0) = false := by rw [beq_eq_false_iff_ne]; omega
      have D4 : (F.length : Int) - 1 < (F.length : Int) := by omega
      have D5 : (0 : Int) < (M.length : Int) := by omega
      by_cases hlt : id1 < id2
      · have zD : decide (id1 < id2) = true := decide_eq_true hlt
        by_cases hT8 : F.length + M.length ≤ 8
        · obtain ⟨rfl, rfl⟩ := hJ3' hlt hT8
          clear hJ3' hJ4' hlt hF0 hM0 hm1z
          clear HSh HF HF2 HP HP2 HA
          try rw [List.length_append] at V6
          go_wp2_with fail
          go_quiet (fail)
          have BQ := below_drewN B6 nq
          replace V2 := V2.keep (KeepC.drewN _ nq)
          replace V3 := V3.keep (KeepC.drewN _ nq)
          replace V6 := V6.keep (KeepC.drewN _ nq)
          generalize w6.drewN nq = wq at *
          clear B6
          obtain ⟨p2, q2, x2, -, y2, n2, g2⟩ := slR_src V2
          obtain ⟨p3, q3, x3, -, y3, n3, g3⟩ := slR_src V3
          cases x2
          cases x3
          have g20 := g2 wq (KeepC.refl _)
          go_wp2_with (at_builtin; go_must (refine wpList_append_src rfl _ _ 22 rfl wq.heap.size 40 ii _ 11 96 Tryz.underlying22 hI hz0 hz1 hz2 rfl (by decide) _ 0 [] rfl (World.ownsRow_nil _ _ _ _) _ F.length _ (rusC F) rfl n2 y2 g20 (rusC_one F) (by unfold maxLen; omega) (by omega) (Nat.le_refl _) ?_))
          intro v7 w7 hown hgrow
          try simp only [Nat.zero_add, List.nil_append] at hown
          have b7 : Below wq.heap.size wq w7 := (Below.refl _ wq).grown hgrow (Nat.le_refl _) (fun k hk => (by cases hk))
          have g30 := g3 w7 (KeepC.of_below b7)
          clear hgrow g20 g2 g3
          go_wp2_with (at_builtin; go_must (refine wpList_append_src rfl _ _ 22 rfl wq.heap.size 40 ii _ 11 96 Tryz.underlying22 hI hz0 hz1 hz2 rfl (by decide) _ F.length (rusC F) rfl hown _ M.length _ (rusC M) rfl n3 y3 g30 (rusC_one M) (by unfold maxLen; omega) (by omega) b7.size ?_))
          intro v8 w8 hown8 hgrow8
          have b8 : Below wq.heap.size wq w8 := b7.grown hgrow8 b7.size (fun k hk => (hown.lt k hk).1)
          have B8 := BQ.trans (b8.mono BQ.size)
          replace V6 := V6.keep (KeepC.of_below b8)
          have V8 : RulesV w8 v8 (F ++ M) := by unfold RulesV; rw [List.length_append, rusC_app]; exact SlR.of_row hown8
          obtain ⟨a8, c8, rfl⟩ := ruOwn_shape hown8
          clear hown hown8 hgrow8 g30 b7 b8 V2 V3 n2 n3 y2 y3 BQ
          clear hFl hMl
          have h88 : ¬ (8 < (F.length : Int) + (M.length : Int)) := by omega
          have h89 : ¬ (8 < ((F.length + M.length : Nat) : Int)) := by omega
          clear hT8
          go_wp2_with fail
          with_reducible refine (HS w8 _ _ V8 V6).mono ?_
          rintro e w9 ⟨rfl, b9⟩
          have B9 := B8.trans (b9.mono B8.size)
          go_wp2_with fail
          go_ret
          exact ⟨rfl, B9⟩
        · obtain rfl := hJ4' (.inr (by omega))
          clear hJ3' hJ4' hlt hF0 hM0 hm1z
          clear HSh HF HF2 HP HP2 HA
          try rw [List.length_append] at V6
          go_wp2_with fail
          go_quiet (fail)
          have BQ := below_drewN B6 nq
          replace V2 := V2.keep (KeepC.drewN _ nq)
          replace V3 := V3.keep (KeepC.drewN _ nq)
          replace V6 := V6.keep (KeepC.drewN _ nq)
          generalize w6.drewN nq = wq at *
          clear B6
          obtain ⟨p2, q2, x2, -, y2, n2, g2⟩ := slR_src V2
          obtain ⟨p3, q3, x3, -, y3, n3, g3⟩ := slR_src V3
          cases x2
          cases x3
          have g20 := g2 wq (KeepC.refl _)
          go_wp2_with (at_builtin; go_must (refine wpList_append_src rfl _ _ 22 rfl wq.heap.size 40 ii _ 11 96 Tryz.underlying22 hI hz0 hz1 hz2 rfl (by decide) _ 0 [] rfl (World.ownsRow_nil _ _ _ _) _ F.length _ (rusC F) rfl n2 y2 g20 (rusC_one F) (by unfold maxLen; omega) (by omega) (Nat.le_refl _) ?_))
          intro v7 w7 hown hgrow
          try simp only [Nat.zero_add, List.nil_append] at hown
          have b7 : Below wq.heap.size wq w7 := (Below.refl _ wq).grown hgrow (Nat.le_refl _) (fun k hk => (by cases hk))
          have g30 := g3 w7 (KeepC.of_below b7)
          clear hgrow g20 g2 g3
          go_wp2_with (at_builtin; go_must (refine wpList_append_src rfl _ _ 22 rfl wq.heap.size 40 ii _ 11 96 Tryz.underlying22 hI hz0 hz1 hz2 rfl (by decide) _ F.length (rusC F) rfl hown _ M.length _ (rusC M) rfl n3 y3 g30 (rusC_one M) (by unfold maxLen; omega) (by omega) b7.size ?_))
          intro v8 w8 hown8 hgrow8
          have b8 : Below wq.heap.size wq w8 := b7.grown hgrow8 b7.size (fun k hk => (hown.lt k hk).1)
          have B8 := BQ.trans (b8.mono BQ.size)
          replace V6 := V6.keep (KeepC.of_below b8)
          have V8 : RulesV w8 v8 (F ++ M) := by unfold RulesV; rw [List.length_append, rusC_app]; exact SlR.of_row hown8
          obtain ⟨a8, c8, rfl⟩ := ruOwn_shape hown8
          clear hown hown8 hgrow8 g30 b7 b8 V2 V3 n2 n3 y2 y3 BQ
          clear hFl hMl
          have h88 : 8 < (F.length : Int) + (M.length : Int) := by omega
          have h89 : 8 < ((F.length + M.length : Nat) : Int) := by omega
          try clear HS
          go_wp2_with fail
          go_ret
          exact ⟨rfl, B8⟩
      · obtain rfl := hJ4' (.inl (by omega))
        have zD : decide (id1 < id2) = false := decide_eq_false hlt
        clear hJ3' hJ4' hlt hF0 hM0 hm1z
        clear HSh HF HF2 HP HP2 HA
        try rw [List.length_append] at V6
        go_wp2_with fail
        go_quiet (fail)
        have BQ := below_drewN B6 nq
        replace V2 := V2.keep (KeepC.drewN _ nq)
        replace V3 := V3.keep (KeepC.drewN _ nq)
        replace V6 := V6.keep (KeepC.drewN _ nq)
        generalize w6.drewN nq = wq at *
        clear B6
        obtain ⟨p2, q2, x2, -, y2, n2, g2⟩ := slR_src V2
        obtain ⟨p3, q3, x3, -, y3, n3, g3⟩ := slR_src V3
        cases x2
        cases x3
        have g20 := g2 wq (KeepC.refl _)
        go_wp2_with (at_builtin; go_must (refine wpList_append_src rfl _ _ 22 rfl wq.heap.size 40 ii _ 11 96 Tryz.underlying22 hI hz0 hz1 hz2 rfl (by decide) _ 0 [] rfl (World.ownsRow_nil _ _ _ _) _ F.length _ (rusC F) rfl n2 y2 g20 (rusC_one F) (by unfold maxLen; omega) (by omega) (Nat.le_refl _) ?_))
        intro v7 w7 hown hgrow
        try simp only [Nat.zero_add, List.nil_append] at hown
        have b7 : Below wq.heap.size wq w7 := (Below.refl _ wq).grown hgrow (Nat.le_refl _) (fun k hk => (by cases hk))
        have g30 := g3 w7 (KeepC.of_below b7)
        clear hgrow g20 g2 g3
        go_wp2_with (at_builtin; go_must (refine wpList_append_src rfl _ _ 22 rfl wq.heap.size 40 ii _ 11 96 Tryz.underlying22 hI hz0 hz1 hz2 rfl (by decide) _ F.length (rusC F) rfl hown _ M.length _ (rusC M) rfl n3 y3 g30 (rusC_one M) (by unfold maxLen; omega) (by omega) b7.size ?_))
        intro v8 w8 hown8 hgrow8
        have b8 : Below wq.heap.size wq w8 := b7.grown hgrow8 b7.size (fun k hk => (hown.lt k hk).1)
        have B8 := BQ.trans (b8.mono BQ.size)
        replace V6 := V6.keep (KeepC.of_below b8)
        have V8 : RulesV w8 v8 (F ++ M) := by unfold RulesV; rw [List.length_append, rusC_app]; exact SlR.of_row hown8
        obtain ⟨a8, c8, rfl⟩ := ruOwn_shape hown8
        clear hown hown8 hgrow8 g30 b7 b8 V2 V3 n2 n3 y2 y3 BQ
        clear hFl hMl
        clear HS
        skip
        try clear HS
        go_wp2_with fail
        go_ret
        exact ⟨rfl, B8⟩
    · rw [e0] at HP
      rw [f0] at HP2
      clear HA HS e0 f0 eR fR fT
      generalize ruL.pT F = a at *
      generalize ruL.pT M = b at *
      go_enter Tryz.func6, Tryz.ntmps6
      go_wp2_with fail
      with_reducible refine (HSh w (Below.refl w.heap.size w)).mono ?_
      rintro e w1 ⟨rfl, b1⟩
      have B1 := (Below.refl w.heap.size w).trans (b1.mono (Below.refl w.heap.size w).size)
      clear b1
      go_wp2_with fail
      with_reducible refine (HF w1 B1).mono ?_
      rintro e w2 ⟨v2, rfl, o2, b2⟩
      have B2 := B1.trans (b2.mono B1.size)
      clear b2
      obtain ⟨a2, c2, rfl⟩ := ruOwn_shape o2
      have V2 := RulesO.view o2
      clear o2
      go_wp2_with fail
      with_reducible refine (HF2 w2 B2).mono ?_
      rintro e w3 ⟨v3, rfl, o3, b3⟩
      have B3 := B2.trans (b3.mono B2.size)
      replace V2 := V2.keep (KeepC.of_below b3)
      clear b3
      obtain ⟨a3, c3, rfl⟩ := ruOwn_shape o3
      have V3 := RulesO.view o3
      clear o3
      go_wp2_with fail
      with_reducible refine (HP w3 B3 _ V2).mono ?_
      rintro e w4 ⟨rfl, b4⟩
      have B4 := B3.trans (b4.mono B3.size)
      replace V2 := V2.keep (KeepC.of_below b4)
      replace V3 := V3.keep (KeepC.of_below b4)
      clear b4
      go_wp2_with fail
      with_reducible refine (HP2 w4 B4 _ V3).mono ?_
      rintro e w5 ⟨rfl, b5⟩
      have B5 := B4.trans (b5.mono B4.size)
      replace V2 := V2.keep (KeepC.of_below b5)
      replace V3 := V3.keep (KeepC.of_below b5)
      clear b5
      go_wp2_with fail
      go_ret
      exact ⟨rfl, B5⟩
  · rw [e0] at HP
    clear HA HS e0 eR eT hc2
    generalize ruL.pT F = a at *
    generalize ruL.pT M = b at *
    generalize ruL.pE M = f at *
    go_enter Tryz.func6, Tryz.ntmps6
    go_wp2_with fail
    with_reducible refine (HSh w (Below.refl w.heap.size w)).mono ?_
    rintro e w1 ⟨rfl, b1⟩
    have B1 := (Below.refl w.heap.size w).trans (b1.mono (Below.refl w.heap.size w).size)
    clear b1
    go_wp2_with fail
    with_reducible refine (HF w1 B1).mono ?_
    rintro e w2 ⟨v2, rfl, o2, b2⟩
    have B2 := B1.trans (b2.mono B1.size)
    clear b2
    obtain ⟨a2, c2, rfl⟩ := ruOwn_shape o2
    have V2 := RulesO.view o2
    clear o2
    go_wp2_with fail
    with_reducible refine (HF2 w2 B2).mono ?_
    rintro e w3 ⟨v3, rfl, o3, b3⟩
    have B3 := B2.trans (b3.mono B2.size)
    replace V2 := V2.keep (KeepC.of_below b3)
    clear b3
    obtain ⟨a3, c3, rfl⟩ := ruOwn_shape o3
    have V3 := RulesO.view o3
    clear o3
    go_wp2_with fail
    with_reducible refine (HP w3 B3 _ V2).mono ?_
    rintro e w4 ⟨rfl, b4⟩
    have B4 := B3.trans (b4.mono B3.size)
    replace V2 := V2.keep (KeepC.of_below b4)
    replace V3 := V3.keep (KeepC.of_below b4)
    clear b4
    go_wp2_with fail
    with_reducible refine (HP2 w4 B4 _ V3).mono ?_
    rintro e w5 ⟨rfl, b5⟩
    have B5 := B4.trans (b5.mono B4.size)
    replace V2 := V2.keep (KeepC.of_below b5)
    replace V3 := V3.keep (KeepC.of_below b5)
    clear b5
    go_wp2_with fail
    go_ret
    exact ⟨rfl, B5⟩
end Go.Proofs.YtmmdpjliknmhgaaGreatDoor
