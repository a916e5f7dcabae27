/- Joined: OwnA; OwnB -/
import Derived.Test.YtmjmmcdhpognaaaDoorJWH
import Derived.Test.YtmjmmcdhpognaaaDoorJWI
/- What only writes texts over texts, at or above a block. -/
namespace Go.Proofs.YtmjmmcdhpognaaaDoor
open Go.RowKit Go.Shelf
def strV : Value → Bool
  | .string _ => true
  | _ => false
/-- the world behind writes of texts over texts in blocks from B on -/
def Sq (B : Nat) (W W' : World) : Prop := Below B W W' ∧ (∀ b o u, W.cell? ⟨b, o, none⟩ = some u → ∃ u', W'.cell? ⟨b, o, none⟩ = some u' ∧ (u' = u ∨ (strV u = true ∧ strV u' = true))) ∧ ∀ p, W.frozen? p = false → W'.frozen? p = false
theorem Sq.refl (B : Nat) (W : World) : Sq B W W := ⟨Below.refl _ _, fun _ _ u h => ⟨u, h, .inl rfl⟩, fun _ h => h⟩
theorem Sq.trans {B : Nat} {A W C : World} (h : Sq B A W) (k : Sq B W C) : Sq B A C := ⟨h.1.trans k.1, fun b o u hu => by
  obtain ⟨u1, h1, e1⟩ := h.2.1 b o u hu
  obtain ⟨u2, h2, e2⟩ := k.2.1 b o u1 h1
  refine ⟨u2, h2, ?_⟩
  rcases e1 with rfl | ⟨a1, a2⟩
  · exact e2
  · rcases e2 with rfl | ⟨b1, b2⟩
    · exact .inr ⟨a1, a2⟩
    · exact .inr ⟨a1, b2⟩, fun p h1 => k.2.2 p (h.2.2 p h1)⟩
theorem Sq.same {B : Nat} {W W' : World} (h : Sq B W W') {b o : Nat} {u : Value} (hu : W.cell? ⟨b, o, none⟩ = some u) (hs : strV u = false) : W'.cell? ⟨b, o, none⟩ = some u := by
  obtain ⟨u', h1, rfl | ⟨h2, _⟩⟩ := h.2.1 b o u hu
  · exact h1
  · rw [hs] at h2; cases h2
theorem Sq.text {B : Nat} {W W' : World} (h : Sq B W W') {b o : Nat} {u : Value} (hu : W.cell? ⟨b, o, none⟩ = some u) (hs : strV u = true) : ∃ s, W'.cell? ⟨b, o, none⟩ = some (.string s) := by
  obtain ⟨u', h1, h2⟩ := h.2.1 b o u hu
  have : strV u' = true := by rcases h2 with rfl | ⟨_, h3⟩ <;> assumption
  cases u' <;> simp [strV] at this
  exact ⟨_, h1⟩
theorem Sq.set {B : Nat} {W W' : World} (h : Sq B W W') {b o : Nat} {s : ByteArray} (hc : W'.cell? ⟨b, o, none⟩ = some (.string s)) (hb : B ≤ b) (t : ByteArray) : Sq B W (W'.setCell ⟨b, o, none⟩ (.string t)) := by
  refine h.trans ⟨(Below.refl _ _).setCell hb _, fun b2 o2 u hu => ?_, fun p hp => by rw [World.frozen?_setCell]; exact hp⟩
  by_cases e : (⟨b, o, none⟩ : Addr) = ⟨b2, o2, none⟩
  · cases e
    rw [hc] at hu
    cases hu
    exact ⟨_, World.cell?_setCell_same _ _ _ hc, .inr ⟨rfl, rfl⟩⟩
  · exact ⟨u, (World.cell?_setCell_other _ _ _ _ e).trans hu, .inl rfl⟩
/-- a list of texts of one's own: its first text can be written -/
def HeadW (B : Nat) (W : World) (a : Option Addr) (n : Nat) : Prop := n = 0 ∨ ∃ g s, a = some ⟨g, 0, none⟩ ∧ B ≤ g ∧ W.cell? ⟨g, 0, none⟩ = some (.string s) ∧ W.frozen? ⟨g, 0, none⟩ = false
theorem StrsO.head {base tS : Nat} {W : World} {v : Value} {l : List (List UInt8)} (h : StrsO base tS W v l) : ∃ a cap, v = .slice a l.length cap ∧ l.length ≤ cap ∧ HeadW base W a l.length := by
  rcases id h.2 with ⟨rfl, h0⟩ | ⟨g, cap, cur, rfl, hg, _, hc, _⟩
  · exact ⟨none, 0, by rw [h0], by omega, .inl h0⟩
  · refine ⟨_, cap, rfl, hc, ?_⟩
    rcases Nat.eq_zero_or_pos l.length with h0 | h0
    · exact .inl h0
    · obtain ⟨x, r, rfl⟩ : ∃ x r, l = x :: r := by cases l with | nil => cases h0 | cons x r => exact ⟨x, r, rfl⟩
      exact .inr ⟨g, _, rfl, hg, (World.ownsRow.cellAt h 0 (by simp)).trans rfl, World.ownsRow.frozenAt h 0⟩
/-- objects of one's own, for who writes into them -/
theorem ObjsO.atW {base tO tS : Nat} {W : World} {v : Value} {l : List ObjD} (h : ObjsO base tO tS W v l) : ∃ a cap, v = .slice a l.length cap ∧ l.length ≤ cap ∧ ∀ i, i < l.length → ∃ g s0 s2 a2 n2 c2, a = some ⟨g, 0, none⟩ ∧ base ≤ g ∧
    W.cell? ⟨g, i * 5, none⟩ = some (.string s0) ∧ W.cell? ⟨g, i * 5 + 2, none⟩ = some (.string s2) ∧ W.cell? ⟨g, i * 5 + 4, none⟩ = some (.slice a2 n2 c2) ∧ n2 ≤ c2 ∧ HeadW base W a2 n2 ∧ ∀ j, W.frozen? ⟨g, j, none⟩ = false := by
  obtain ⟨cs, h1, h2⟩ := h
  rcases id h1.2 with ⟨rfl, h0⟩ | ⟨g, cap, cur, rfl, hg, _, hc, _⟩
  · exact ⟨none, 0, by rw [h0], by omega, fun i hi => by omega⟩
  · refine ⟨_, cap, rfl, hc, fun i hi => ?_⟩
    obtain ⟨c, ⟨lv, rfl, hl⟩, hj⟩ := Rows.at (k := 5) (fun d c hc => ObjO.len d c hc) h2 i hi
    obtain ⟨a2, c2, rfl, hlc, hw⟩ := StrsO.head hl
    have at_ : ∀ j u, j < 5 → cs[i * 5 + j]? = some u → W.cell? ⟨g, i * 5 + j, none⟩ = some u := by
      intro j u hj5 hu
      have hlt : i * 5 + j < l.length * 5 := by omega
      exact (World.ownsRow.cellAt h1 _ hlt).trans hu
    exact ⟨g, _, _, a2, _, c2, rfl, hg, at_ 0 _ (by omega) (hj 0 (by omega)), at_ 2 _ (by omega) (hj 2 (by omega)), at_ 4 _ (by omega) (hj 4 (by omega)), hlc, hw, fun j => World.ownsRow.frozenAt h1 j⟩
theorem PartsO.atW {base tP tO tS : Nat} {W : World} {v : Value} {l : List PartD} (h : PartsO base tP tO tS W v l) : ∃ a cap, v = .slice a l.length cap ∧ l.length ≤ cap ∧ ∀ i (hi : i < l.length), ∃ g ov, a = some ⟨g, 0, none⟩ ∧ base ≤ g ∧
    W.cell? ⟨g, i * 4 + 3, none⟩ = some ov ∧ ObjsO base tO tS W ov l[i].l := by
  obtain ⟨cs, h1, h2⟩ := h
  rcases id h1.2 with ⟨rfl, h0⟩ | ⟨g, cap, cur, rfl, hg, _, hc, _⟩
  · exact ⟨none, 0, by rw [h0], by omega, fun i hi => by omega⟩
  · refine ⟨_, cap, rfl, hc, fun i hi => ?_⟩
    obtain ⟨c, ⟨lv, rfl, hl⟩, hj⟩ := Rows.at (k := 4) (fun d c hc => PartO.len d c hc) h2 i hi
    have hlt : i * 4 + 3 < l.length * 4 := by omega
    exact ⟨g, lv, rfl, hg, (World.ownsRow.cellAt h1 _ hlt).trans (hj 3 (by omega)), hl⟩
end Go.Proofs.YtmjmmcdhpognaaaDoor
/- Spoil: parts' objects are given other data. -/
namespace Go.Proofs.YtmjmmcdhpognaaaDoor
open Go.RowKit Go.Shelf
attribute [local go_sem] Oper.semAt_some
set_option maxRecDepth 100000 in
set_option maxHeartbeats 4000000 in
theorem spoil_any (B : Nat) (l : List PartD) (v : Value) (W0 w : World) (hp : PartsO B 39 51 9 W0 v l) (hs : Sq B W0 w) (hl : l.length ≤ 1000000) (hlo : ∀ x ∈ l, x.l.length ≤ 1000000) :
    Calls Tryd.prog 23 #[v] w fun e w' => e = .returned (.tuple #[]) ∧ Sq B W0 w' := by
  obtain ⟨a, cap, rfl, hcap, hat⟩ := hp.atW
  clear hp
  go_enter Tryd.func23, Tryd.ntmps23
  go_wp2_with fail
  go_loopg [2] l.length (fun gg s2 wr => ∃ (kk : Nat), kk ≤ l.length ∧ l.length - kk ≤ gg ∧ s2 = .int .i64 kk ∧ Sq B W0 wr)
  case atStart => exact ⟨0, Nat.zero_le _, by omega, rfl, hs⟩
  case round =>
    obtain ⟨kk, hkk, hg, rfl, hB⟩ := hrel
    by_cases hlt : kk < l.length
    · have hltz : (kk : Int) < (l.length : Int) := by omega
      have hkz : (0 : Int) ≤ (kk : Int) := by omega
      obtain ⟨g, ov, rfl, hgB, k3, ho⟩ := hat kk hlt
      obtain ⟨ao, co, rfl, hco, hato⟩ := ho.atW
      have hln := hlo _ (List.getElem_mem hlt)
      obtain ⟨m, hm⟩ : ∃ m, l[kk].l.length = m := ⟨_, rfl⟩
      rw [hm] at k3 hco hato hln
      clear ho hat hlo hm
      go_wp2_with fail
      go_loopg [3] m (fun gg s3 wr => ∃ (jj : Nat), jj ≤ m ∧ m - jj ≤ gg ∧ s3 = .int .i64 jj ∧ Sq B W0 wr)
      case atStart => exact ⟨0, Nat.zero_le _, by omega, rfl, hB⟩
      case round =>
        obtain ⟨jj, hjj, hgj, rfl, hBj⟩ := hrel
        have k3' := hBj.same k3 rfl
        by_cases hltj : jj < m
        · have hltzj : (jj : Int) < (m : Int) := by omega
          have hjz : (0 : Int) ≤ (jj : Int) := by omega
          obtain ⟨g2, s0, s2, a2, n2, c2, rfl, hg2, j0, j2, j4, hnc, hhead, hfr⟩ := hato jj hltj
          obtain ⟨t2, j2'⟩ := hBj.text j2 rfl
          have f2' := hBj.2.2 _ (hfr (jj * 5 + 2))
          have S1 := hBj.set j2' hg2 ⟨#[111, 116, 104, 101, 114]⟩
          have j4' := S1.same j4 rfl
          have k3'' := S1.same k3 rfl
          clear hato
          rcases hhead with rfl | ⟨g3, s3, rfl, hg3, j5, f5⟩
          · go_wp2_with fail
            go_roundg (m - (jj + 1))
            case measure => omega
            case rel => exact ⟨jj + 1, by omega, by omega, by go_num, S1⟩
          · by_cases hn2 : n2 = 0
            · subst hn2
              go_wp2_with fail
              go_roundg (m - (jj + 1))
              case measure => omega
              case rel => exact ⟨jj + 1, by omega, by omega, by go_num, S1⟩
            · have hn2z : (0 : Int) < (n2 : Int) := by omega
              obtain ⟨t5, j5'⟩ := S1.text j5 rfl
              have f5' := S1.2.2 _ f5
              have S2 := S1.set j5' hg3 ⟨#[111, 116, 104, 101, 114]⟩
              go_wp2_with fail
              go_roundg (m - (jj + 1))
              case measure => omega
              case rel => exact ⟨jj + 1, by omega, by omega, by go_num, S2⟩
        · have hltzj : ¬ (jj : Int) < (m : Int) := by omega
          clear hato
          go_wp2_with fail
          go_roundg (l.length - (kk + 1))
          case measure => omega
          case rel => exact ⟨kk + 1, by omega, by omega, by go_num, hBj⟩
    · have hltz : ¬ (kk : Int) < (l.length : Int) := by omega
      clear hat
      go_wp2_with fail
      go_end0
      exact ⟨rfl, hB⟩
end Go.Proofs.YtmjmmcdhpognaaaDoor
