/- Joined: RqD; RqE; FlrR5; RqF -/
import Derived.Test.YtmmdpjliknmhgaaGreatDoorJRH
import Derived.Test.YtmmdpjliknmhgaaGreatDoorJRN
import Derived.Deep.DeepMust
import Derived.Deep.QuietTactic
import Derived.BigQuiet
import Derived.Test.YtmmdpjliknmhgaaGreatDoorJRC
import Derived.Test.YtmmdpjliknmhgaaGreatDoorJRI
import Derived.Test.YtmmdpjliknmhgaaGreatDoorJRR
import Derived.Test.YtmmdpjliknmhgaaGreatDoorJRP
import Derived.Deep.RegionWith
import Derived.Deep.DeepCutAuto
import Derived.Test.YtmmdpjliknmhgaaGreatDoorJRQ
/- Walks of the reference, layer 14: Find, From. -/
namespace Go.Proofs.YtmmdpjliknmhgaaGreatDoor
open Go.RowKit Go.Shelf
attribute [local go_sem] Oper.semAt_some
set_option maxRecDepth 100000 in
set_option maxHeartbeats 4000000 in
theorem ruFindR_any (l : List RuT) (hl : l.length ≤ 1000000) (v : Value) (n : Int) (w : World) (hv : RulesV w v l) :
    Calls Tryz.prog 19 #[v, .int .i64 n] w fun e w' => e = .returned (.tuple #[ruV ((findRu l n).getD zRu), .bool (findRu l n).isSome]) ∧ Below w.heap.size w w' := by
  obtain ⟨a, cap, rfl, -, hc⟩ := hv.at
  have hin := Lib.hid (fun k hk h he => findRu_in (l := l) (n := n) k hk h he)
  have hout := Lib.hid (fun h => findRu_out (l := l) (n := n) h)
  generalize findRu l n = F at *
  have B0 := (Below.refl _ w).alloc (Nat.le_refl _) (.cells #[.int .i64 0, .int .i64 0, .int .u64 0, .int .i64 0, .int .i64 0, .int .u64 0, .int .i64 0, .int .i64 0, .int .i64 0, .int .i64 0, .string ⟨#[]⟩] 40)
  have r0 := Blk.new w #[.int .i64 0, .int .i64 0, .int .u64 0, .int .i64 0, .int .i64 0, .int .u64 0, .int .i64 0, .int .i64 0, .int .i64 0, .int .i64 0, .string ⟨#[]⟩] 40
  clear hv
  go_enter Tryz.func19, Tryz.ntmps19
  go_wp2_with fail
  generalize w.alloc (.cells #[.int .i64 0, .int .i64 0, .int .u64 0, .int .i64 0, .int .i64 0, .int .u64 0, .int .i64 0, .int .i64 0, .int .i64 0, .int .i64 0, .string ⟨#[]⟩] 40) = W0 at *
  go_loopg [6] l.length (fun gg s6 wr => ∃ kk : Nat, kk ≤ l.length ∧ l.length - kk ≤ gg ∧ s6 = .int .i64 kk ∧ W0 = wr ∧ Hid (∀ i (hi : i < l.length), i < kk → l[i].id ≠ n))
  case atStart => exact ⟨0, Nat.zero_le _, by omega, rfl, rfl, fun i _ h => absurd h (by omega)⟩
  case round =>
    obtain ⟨kk, hkk, hg, rfl, rfl, A⟩ := hrel
    by_cases hlt : kk < l.length
    · have hltz : (kk : Int) < (l.length : Int) := by omega
      have hkz : (0 : Int) ≤ (kk : Int) := by omega
      obtain ⟨b, o, rfl, -, hcl⟩ := hc kk hlt
      obtain ⟨k0, k1, k2, k3, k4, k5, k6, k7, k8, k9, k10⟩ := hcl _ (KeepC.of_below B0)
      have HY : Hid (l[kk].id = n → F = some l[kk]) := fun h => hin.out kk hlt A.out h
      have HN : Hid (l[kk].id ≠ n → ∀ i (hi : i < l.length), i < kk + 1 → l[i].id ≠ n) := fun h i hi hik => by
        by_cases e : i = kk
        · subst e; exact h
        · exact A.out i hi (by omega)
      clear hc hcl hin hout A
      obtain ⟨x, hx⟩ : ∃ x, l[kk] = x := ⟨_, rfl⟩
      rw [hx] at k0 k1 k2 k3 k4 k5 k6 k7 k8 k9 k10 HY HN
      clear hx
      obtain ⟨id, ⟨l1, S1, i1⟩, ⟨l2, S2, i2⟩, bu, ⟨k, m, form⟩⟩ := x
      dsimp only at *
      by_cases h : id = n
      · have hF := HY.out h
        subst hF h
        have hb : (id == id) = true := by simp
        have f0 : W0.frozen? ⟨w.heap.size, 0, none⟩ = false := r0.frozen 0
        have f1 : W0.frozen? ⟨w.heap.size, 1, none⟩ = false := r0.frozen 1
        have f2 : W0.frozen? ⟨w.heap.size, 2, none⟩ = false := r0.frozen 2
        have f3 : W0.frozen? ⟨w.heap.size, 3, none⟩ = false := r0.frozen 3
        have f4 : W0.frozen? ⟨w.heap.size, 4, none⟩ = false := r0.frozen 4
        have f5 : W0.frozen? ⟨w.heap.size, 5, none⟩ = false := r0.frozen 5
        have f6 : W0.frozen? ⟨w.heap.size, 6, none⟩ = false := r0.frozen 6
        have f7 : W0.frozen? ⟨w.heap.size, 7, none⟩ = false := r0.frozen 7
        have f8 : W0.frozen? ⟨w.heap.size, 8, none⟩ = false := r0.frozen 8
        have f9 : W0.frozen? ⟨w.heap.size, 9, none⟩ = false := r0.frozen 9
        have f10 : W0.frozen? ⟨w.heap.size, 10, none⟩ = false := r0.frozen 10
        have x0 : W0.cell? ⟨w.heap.size, 0, none⟩ = some (.int .i64 0) := (r0.cell 0).trans rfl
        have x1 : W0.cell? ⟨w.heap.size, 1, none⟩ = some (.int .i64 0) := (r0.cell 1).trans rfl
        have x2 : W0.cell? ⟨w.heap.size, 2, none⟩ = some (.int .u64 0) := (r0.cell 2).trans rfl
        have x3 : W0.cell? ⟨w.heap.size, 3, none⟩ = some (.int .i64 0) := (r0.cell 3).trans rfl
        have x4 : W0.cell? ⟨w.heap.size, 4, none⟩ = some (.int .i64 0) := (r0.cell 4).trans rfl
        have x5 : W0.cell? ⟨w.heap.size, 5, none⟩ = some (.int .u64 0) := (r0.cell 5).trans rfl
        have x6 : W0.cell? ⟨w.heap.size, 6, none⟩ = some (.int .i64 0) := (r0.cell 6).trans rfl
        have x7 : W0.cell? ⟨w.heap.size, 7, none⟩ = some (.int .i64 0) := (r0.cell 7).trans rfl
        have x8 : W0.cell? ⟨w.heap.size, 8, none⟩ = some (.int .i64 0) := (r0.cell 8).trans rfl
        have x9 : W0.cell? ⟨w.heap.size, 9, none⟩ = some (.int .i64 0) := (r0.cell 9).trans rfl
        have x10 : W0.cell? ⟨w.heap.size, 10, none⟩ = some (.string ⟨#[]⟩) := (r0.cell 10).trans rfl
        clear HY HN
        go_wp2_with fail
        have r9 := (((((((((((r0.set 0 (.int .i64 id)).set 1 (.int .i64 l1)).set 2 (.int .u64 S1)).set 3 (.int .i64 i1)).set 4 (.int .i64 l2)).set 5 (.int .u64 S2)).set 6 (.int .i64 i2)).set 7 (.int .i64 bu)).set 8 (.int .i64 k)).set 9 (.int .i64 m)).set 10 (.string ⟨form.toArray⟩))
        have B9 := (((((((((((B0.setCell (p := ⟨w.heap.size, 0, none⟩) (Nat.le_refl _) (.int .i64 id)).setCell (p := ⟨w.heap.size, 1, none⟩) (Nat.le_refl _) (.int .i64 l1)).setCell (p := ⟨w.heap.size, 2, none⟩) (Nat.le_refl _) (.int .u64 S1)).setCell (p := ⟨w.heap.size, 3, none⟩) (Nat.le_refl _) (.int .i64 i1)).setCell (p := ⟨w.heap.size, 4, none⟩) (Nat.le_refl _) (.int .i64 l2)).setCell (p := ⟨w.heap.size, 5, none⟩) (Nat.le_refl _) (.int .u64 S2)).setCell (p := ⟨w.heap.size, 6, none⟩) (Nat.le_refl _) (.int .i64 i2)).setCell (p := ⟨w.heap.size, 7, none⟩) (Nat.le_refl _) (.int .i64 bu)).setCell (p := ⟨w.heap.size, 8, none⟩) (Nat.le_refl _) (.int .i64 k)).setCell (p := ⟨w.heap.size, 9, none⟩) (Nat.le_refl _) (.int .i64 m)).setCell (p := ⟨w.heap.size, 10, none⟩) (Nat.le_refl _) (.string ⟨form.toArray⟩))
        simp only [List.setIfInBounds_toArray, List.set_cons_zero, List.set_cons_succ] at r9
        generalize (((((((((((W0.setCell ⟨w.heap.size, 0, none⟩ (.int .i64 id)).setCell ⟨w.heap.size, 1, none⟩ (.int .i64 l1)).setCell ⟨w.heap.size, 2, none⟩ (.int .u64 S1)).setCell ⟨w.heap.size, 3, none⟩ (.int .i64 i1)).setCell ⟨w.heap.size, 4, none⟩ (.int .i64 l2)).setCell ⟨w.heap.size, 5, none⟩ (.int .u64 S2)).setCell ⟨w.heap.size, 6, none⟩ (.int .i64 i2)).setCell ⟨w.heap.size, 7, none⟩ (.int .i64 bu)).setCell ⟨w.heap.size, 8, none⟩ (.int .i64 k)).setCell ⟨w.heap.size, 9, none⟩ (.int .i64 m)).setCell ⟨w.heap.size, 10, none⟩ (.string ⟨form.toArray⟩)) = W9 at *
        have q0 : W9.cell? ⟨w.heap.size, 0, none⟩ = some (.int .i64 id) := (r9.cell 0).trans rfl
        have q1 : W9.cell? ⟨w.heap.size, 1, none⟩ = some (.int .i64 l1) := (r9.cell 1).trans rfl
        have q2 : W9.cell? ⟨w.heap.size, 2, none⟩ = some (.int .u64 S1) := (r9.cell 2).trans rfl
        have q3 : W9.cell? ⟨w.heap.size, 3, none⟩ = some (.int .i64 i1) := (r9.cell 3).trans rfl
        have q4 : W9.cell? ⟨w.heap.size, 4, none⟩ = some (.int .i64 l2) := (r9.cell 4).trans rfl
        have q5 : W9.cell? ⟨w.heap.size, 5, none⟩ = some (.int .u64 S2) := (r9.cell 5).trans rfl
        have q6 : W9.cell? ⟨w.heap.size, 6, none⟩ = some (.int .i64 i2) := (r9.cell 6).trans rfl
        have q7 : W9.cell? ⟨w.heap.size, 7, none⟩ = some (.int .i64 bu) := (r9.cell 7).trans rfl
        have q8 : W9.cell? ⟨w.heap.size, 8, none⟩ = some (.int .i64 k) := (r9.cell 8).trans rfl
        have q9 : W9.cell? ⟨w.heap.size, 9, none⟩ = some (.int .i64 m) := (r9.cell 9).trans rfl
        have q10 : W9.cell? ⟨w.heap.size, 10, none⟩ = some (.string ⟨form.toArray⟩) := (r9.cell 10).trans rfl
        exact bodyPost_ret (v := .tuple #[.agg #[.int .i64 id, .int .i64 l1, .int .u64 S1, .int .i64 i1, .int .i64 l2, .int .u64 S2, .int .i64 i2, .int .i64 bu, .int .i64 k, .int .i64 m, .string ⟨form.toArray⟩], .bool true]) (by simp [results, Tryz.results19, go_sem, q0, q1, q2, q3, q4, q5, q6, q7, q8, q9, q10]) rfl ⟨rfl, B9⟩
      · have HN2 := Lib.hid (HN.out h)
        have hb : (id == n) = false := by simpa using h
        clear HY HN h
        go_wp2_with fail
        go_roundg (l.length - (kk + 1))
        case measure => omega
        case rel => exact ⟨kk + 1, by omega, by omega, by go_num, rfl, HN2.out⟩
    · have hltz : ¬ (kk : Int) < (l.length : Int) := by omega
      have hF := hout.out (fun i hi => A.out i hi (by omega))
      subst hF
      have f0 : W0.frozen? ⟨w.heap.size, 0, none⟩ = false := r0.frozen 0
      have f1 : W0.frozen? ⟨w.heap.size, 1, none⟩ = false := r0.frozen 1
      have f2 : W0.frozen? ⟨w.heap.size, 2, none⟩ = false := r0.frozen 2
      have f3 : W0.frozen? ⟨w.heap.size, 3, none⟩ = false := r0.frozen 3
      have f4 : W0.frozen? ⟨w.heap.size, 4, none⟩ = false := r0.frozen 4
      have f5 : W0.frozen? ⟨w.heap.size, 5, none⟩ = false := r0.frozen 5
      have f6 : W0.frozen? ⟨w.heap.size, 6, none⟩ = false := r0.frozen 6
      have f7 : W0.frozen? ⟨w.heap.size, 7, none⟩ = false := r0.frozen 7
      have f8 : W0.frozen? ⟨w.heap.size, 8, none⟩ = false := r0.frozen 8
      have f9 : W0.frozen? ⟨w.heap.size, 9, none⟩ = false := r0.frozen 9
      have f10 : W0.frozen? ⟨w.heap.size, 10, none⟩ = false := r0.frozen 10
      have x0 : W0.cell? ⟨w.heap.size, 0, none⟩ = some (.int .i64 0) := (r0.cell 0).trans rfl
      have x1 : W0.cell? ⟨w.heap.size, 1, none⟩ = some (.int .i64 0) := (r0.cell 1).trans rfl
      have x2 : W0.cell? ⟨w.heap.size, 2, none⟩ = some (.int .u64 0) := (r0.cell 2).trans rfl
      have x3 : W0.cell? ⟨w.heap.size, 3, none⟩ = some (.int .i64 0) := (r0.cell 3).trans rfl
      have x4 : W0.cell? ⟨w.heap.size, 4, none⟩ = some (.int .i64 0) := (r0.cell 4).trans rfl
      have x5 : W0.cell? ⟨w.heap.size, 5, none⟩ = some (.int .u64 0) := (r0.cell 5).trans rfl
      have x6 : W0.cell? ⟨w.heap.size, 6, none⟩ = some (.int .i64 0) := (r0.cell 6).trans rfl
      have x7 : W0.cell? ⟨w.heap.size, 7, none⟩ = some (.int .i64 0) := (r0.cell 7).trans rfl
      have x8 : W0.cell? ⟨w.heap.size, 8, none⟩ = some (.int .i64 0) := (r0.cell 8).trans rfl
      have x9 : W0.cell? ⟨w.heap.size, 9, none⟩ = some (.int .i64 0) := (r0.cell 9).trans rfl
      have x10 : W0.cell? ⟨w.heap.size, 10, none⟩ = some (.string ⟨#[]⟩) := (r0.cell 10).trans rfl
      clear hc hin hout A
      go_wp2_with fail
      have r9 := (((((((((((r0.set 0 (.int .i64 0)).set 1 (.int .i64 0)).set 2 (.int .u64 0)).set 3 (.int .i64 0)).set 4 (.int .i64 0)).set 5 (.int .u64 0)).set 6 (.int .i64 0)).set 7 (.int .i64 0)).set 8 (.int .i64 0)).set 9 (.int .i64 0)).set 10 (.string ⟨#[]⟩))
      have B9 := (((((((((((B0.setCell (p := ⟨w.heap.size, 0, none⟩) (Nat.le_refl _) (.int .i64 0)).setCell (p := ⟨w.heap.size, 1, none⟩) (Nat.le_refl _) (.int .i64 0)).setCell (p := ⟨w.heap.size, 2, none⟩) (Nat.le_refl _) (.int .u64 0)).setCell (p := ⟨w.heap.size, 3, none⟩) (Nat.le_refl _) (.int .i64 0)).setCell (p := ⟨w.heap.size, 4, none⟩) (Nat.le_refl _) (.int .i64 0)).setCell (p := ⟨w.heap.size, 5, none⟩) (Nat.le_refl _) (.int .u64 0)).setCell (p := ⟨w.heap.size, 6, none⟩) (Nat.le_refl _) (.int .i64 0)).setCell (p := ⟨w.heap.size, 7, none⟩) (Nat.le_refl _) (.int .i64 0)).setCell (p := ⟨w.heap.size, 8, none⟩) (Nat.le_refl _) (.int .i64 0)).setCell (p := ⟨w.heap.size, 9, none⟩) (Nat.le_refl _) (.int .i64 0)).setCell (p := ⟨w.heap.size, 10, none⟩) (Nat.le_refl _) (.string ⟨#[]⟩))
      simp only [List.setIfInBounds_toArray, List.set_cons_zero, List.set_cons_succ] at r9
      generalize (((((((((((W0.setCell ⟨w.heap.size, 0, none⟩ (.int .i64 0)).setCell ⟨w.heap.size, 1, none⟩ (.int .i64 0)).setCell ⟨w.heap.size, 2, none⟩ (.int .u64 0)).setCell ⟨w.heap.size, 3, none⟩ (.int .i64 0)).setCell ⟨w.heap.size, 4, none⟩ (.int .i64 0)).setCell ⟨w.heap.size, 5, none⟩ (.int .u64 0)).setCell ⟨w.heap.size, 6, none⟩ (.int .i64 0)).setCell ⟨w.heap.size, 7, none⟩ (.int .i64 0)).setCell ⟨w.heap.size, 8, none⟩ (.int .i64 0)).setCell ⟨w.heap.size, 9, none⟩ (.int .i64 0)).setCell ⟨w.heap.size, 10, none⟩ (.string ⟨#[]⟩)) = W9 at *
      have q0 : W9.cell? ⟨w.heap.size, 0, none⟩ = some (.int .i64 0) := (r9.cell 0).trans rfl
      have q1 : W9.cell? ⟨w.heap.size, 1, none⟩ = some (.int .i64 0) := (r9.cell 1).trans rfl
      have q2 : W9.cell? ⟨w.heap.size, 2, none⟩ = some (.int .u64 0) := (r9.cell 2).trans rfl
      have q3 : W9.cell? ⟨w.heap.size, 3, none⟩ = some (.int .i64 0) := (r9.cell 3).trans rfl
      have q4 : W9.cell? ⟨w.heap.size, 4, none⟩ = some (.int .i64 0) := (r9.cell 4).trans rfl
      have q5 : W9.cell? ⟨w.heap.size, 5, none⟩ = some (.int .u64 0) := (r9.cell 5).trans rfl
      have q6 : W9.cell? ⟨w.heap.size, 6, none⟩ = some (.int .i64 0) := (r9.cell 6).trans rfl
      have q7 : W9.cell? ⟨w.heap.size, 7, none⟩ = some (.int .i64 0) := (r9.cell 7).trans rfl
      have q8 : W9.cell? ⟨w.heap.size, 8, none⟩ = some (.int .i64 0) := (r9.cell 8).trans rfl
      have q9 : W9.cell? ⟨w.heap.size, 9, none⟩ = some (.int .i64 0) := (r9.cell 9).trans rfl
      have q10 : W9.cell? ⟨w.heap.size, 10, none⟩ = some (.string ⟨#[]⟩) := (r9.cell 10).trans rfl
      exact bodyPost_ret (v := .tuple #[.agg #[.int .i64 0, .int .i64 0, .int .u64 0, .int .i64 0, .int .i64 0, .int .u64 0, .int .i64 0, .int .i64 0, .int .i64 0, .int .i64 0, .string ⟨#[]⟩], .bool false]) (by simp [results, Tryz.results19, go_sem, q0, q1, q2, q3, q4, q5, q6, q7, q8, q9, q10]) rfl ⟨rfl, B9⟩
set_option maxRecDepth 100000 in
set_option maxHeartbeats 4000000 in
theorem ruFromR_any (l : List RuT) (hl : l.length ≤ 1000000) (v : Value) (lb : LaT) (w : World) (hv : RulesV w v l) :
    Calls Tryz.prog 24 #[v, .agg #[.int .i64 lb.1, .int .u64 lb.2.1, .int .i64 lb.2.2]] w fun e w' => ∃ v', e = .returned v' ∧ RulesO w.heap.size 40 w' v' (fromRu l lb) ∧ Below w.heap.size w w' := by
  obtain ⟨i0, hI, hz0, hz1, hz2⟩ := info_parts infoR
  obtain ⟨a, cap, rfl, -, hc⟩ := hv.at
  obtain ⟨la, Sa, ia⟩ := lb
  dsimp only
  have hsucc := Lib.hid (fromRu_succ l (la, Sa, ia))
  have hlen := Lib.hid (fromRu_len l (la, Sa, ia))
  have hend : Hid (fromRu (l.take l.length) (la, Sa, ia) = fromRu l (la, Sa, ia)) := by show _ = _; rw [List.take_length]
  have B0 := (Below.refl _ w).alloc (Nat.le_refl _) (.cells #[.int .i64 la, .int .u64 Sa, .int .i64 ia] 36)
  have a0 := Blk.new w #[.int .i64 la, .int .u64 Sa, .int .i64 ia] 36
  clear hv
  go_enter Tryz.func24, Tryz.ntmps24
  go_wp2_with fail
  generalize w.alloc (.cells #[.int .i64 la, .int .u64 Sa, .int .i64 ia] 36) = W0 at *
  go_loopg [5, 6] l.length (fun gg s5 s10 wr => ∃ (kk : Nat) (vv : Value), kk ≤ l.length ∧ l.length - kk ≤ gg ∧ s5 = vv ∧ s10 = .int .i64 kk ∧ Blk wr w.heap.size #[.int .i64 la, .int .u64 Sa, .int .i64 ia] 36 ∧ Below w.heap.size w wr ∧ Hid (RulesO w.heap.size 40 wr vv (fromRu (l.take kk) (la, Sa, ia))))
  case atStart => exact ⟨0, _, Nat.zero_le _, by omega, rfl, rfl, a0, B0, RulesO.nil _ _ _⟩
  case round =>
    obtain ⟨kk, s5, hkk, hg, hs5, rfl, hBr, hB, hO⟩ := hrel
    subst hs5
    by_cases hlt : kk < l.length
    · have hltz : (kk : Int) < (l.length : Int) := by omega
      have hkz : (0 : Int) ≤ (kk : Int) := by omega
      obtain ⟨b, o, rfl, -, hcl⟩ := hc kk hlt
      obtain ⟨k0, k1, k2, k3, k4, k5, k6, k7, k8, k9, k10⟩ := hcl _ (KeepC.of_below hB)
      have hs := hsucc.out kk hlt
      have hln := hlen.out kk
      obtain ⟨x, hx⟩ : ∃ x, l[kk] = x := ⟨_, rfl⟩
      simp only [hx] at k0 k1 k2 k3 k4 k5 k6 k7 k8 k9 k10 hs hcl
      clear hx hc hsucc hlen hend
      obtain ⟨id, ⟨l1, S1, i1⟩, ⟨l2, S2, i2⟩, bu, ⟨k, m, form⟩⟩ := x
      dsimp only at *
      have hrow := hO.out
      unfold RulesO at hrow
      have d0 : wr.cell? ⟨w.heap.size, 0, none⟩ = some (.int .i64 la) := (hBr.cell 0).trans rfl
      have d1 : wr.cell? ⟨w.heap.size, 1, none⟩ = some (.int .u64 Sa) := (hBr.cell 1).trans rfl
      have d2 : wr.cell? ⟨w.heap.size, 2, none⟩ = some (.int .i64 ia) := (hBr.cell 2).trans rfl
      clear hO
      rcases la_cases l1 S1 i1 la Sa ia with ⟨e, e1, e2, e3⟩ | ⟨e, h⟩
      · have hO2 : Hid (∀ W v', W.ownsRow w.heap.size 40 11 v' ((fromRu (l.take kk) (la, Sa, ia)).length + 1) (rusC (fromRu (l.take kk) (la, Sa, ia)) ++ #[.int .i64 id, .int .i64 l1, .int .u64 S1, .int .i64 i1, .int .i64 l2, .int .u64 S2, .int .i64 i2, .int .i64 bu, .int .i64 k, .int .i64 m, .string ⟨form.toArray⟩].toList) → RulesO w.heap.size 40 W v' (fromRu (l.take (kk + 1)) (la, Sa, ia))) := by
          show ∀ W, _
          intro W v' h
          unfold RulesO
          rw [hs, if_pos e, List.length_append, rusC_app]
          have : rusC [(⟨id, (l1, S1, i1), (l2, S2, i2), bu, (k, m, form)⟩ : RuT)] = #[.int .i64 id, .int .i64 l1, .int .u64 S1, .int .i64 i1, .int .i64 l2, .int .u64 S2, .int .i64 i2, .int .i64 bu, .int .i64 k, .int .i64 m, .string ⟨form.toArray⟩].toList := by simp [rusC, ruC]
          rw [this]; exact h
        clear hs e
        generalize rusC (fromRu (l.take kk) (la, Sa, ia)) = CS at *
        generalize (fromRu (l.take kk) (la, Sa, ia)).length = ln at *
        have z1 : (l1 == la) = true := by simpa using e1
        have z2 : ((S1 : Int) == (Sa : Int)) = true := by rw [beq_iff_eq]; omega
        have z3 : (i1 == ia) = true := by simpa using e3
        clear e1 e2 e3
        go_wp2_with fail
        go_quiet (fail)
        have B1 := below_drewN hB nq
        have a1 : Blk (wr.drewN nq) w.heap.size #[.int .i64 la, .int .u64 Sa, .int .i64 ia] 36 := hBr
        have hrow1 : (wr.drewN nq).ownsRow w.heap.size 40 11 _ ln CS := own_kept hrow (grown_of_below (below_drewN (Below.refl wr.heap.size wr) nq) none) (RowT.none _ _)
        obtain ⟨j0, j1, j2, j3, j4, j5, j6, j7, j8, j9, j10⟩ := hcl _ (KeepC.of_below B1)
        clear hcl hrow k0 k1 k2 k3 k4 k5 k6 k7 k8 k9 k10 d0 d1 d2
        generalize wr.drewN nq = W1 at *
        go_wp2_with (at_builtin; go_must (refine wpList_append_own _ rfl _ _ 22 rfl w.heap.size 40 i0 _ 11 96 Tryz.underlying22 hI hz0 hz1 hz2 rfl (by decide) _ _ _ rfl (hrow1.alloc _) ⟨W1.heap.size, 0, none⟩ 1 1 #[.int .i64 id, .int .i64 l1, .int .u64 S1, .int .i64 i1, .int .i64 l2, .int .u64 S2, .int .i64 i2, .int .i64 bu, .int .i64 k, .int .i64 m, .string ⟨form.toArray⟩].toList rfl rfl (ruBlk_srcs (Blk.new W1 _ _)) (by simp [Value.oneCell']) (by unfold maxLen; omega) (by omega) (by have := B1.size; simp; omega) ?_))
        intro v' w2 hown hgrow _
        have hB2 : Below w.heap.size w w2 := (B1.alloc B1.size _).grown hgrow (by have := B1.size; simp; omega) (fun k hk => (hrow1.lt k hk).1)
        have hBr2 : Blk w2 w.heap.size #[.int .i64 la, .int .u64 Sa, .int .i64 ia] 36 := (a1.alloc _).kept hgrow (fun e => by
          have hT := RowT.of_row hrow1 [36] (by decide)
          obtain ⟨cur, t, fr, hh, hne⟩ := hT _ e.symm
          have h' : W1.heap[w.heap.size]? = _ := a1
          rw [h'] at hh; cases hh; exact hne (by simp))
        have HX2 := Lib.hid (hO2.out _ _ hown)
        clear hown hgrow hrow1
        go_wp2_with fail
        go_roundg (l.length - (kk + 1))
        case measure => omega
        case rel => exact ⟨kk + 1, _, by omega, by omega, rfl, by go_num, hBr2, hB2, HX2.out⟩
      · have hO2 : Hid (∀ n, RulesO w.heap.size 40 (wr.drewN n) u5 (fromRu (l.take (kk + 1)) (la, Sa, ia))) := by
          show ∀ n, _
          intro n
          unfold RulesO
          rw [hs, if_neg e, List.append_nil]
          exact own_kept hrow (grown_of_below (below_drewN (Below.refl wr.heap.size wr) n) none) (RowT.none _ _)
        clear hs e hrow hcl
        rcases h with h1 | ⟨h1, h2⟩ | ⟨h1, h2, h3⟩
        all_goals
          go_wp2_with fail
          go_quiet (fail)
          have B1 := below_drewN hB nq
          go_wp2_with fail
          go_roundg (l.length - (kk + 1))
          case measure => omega
          case rel => exact ⟨kk + 1, _, by omega, by omega, rfl, by go_num, hBr, B1, hO2.out _⟩
    · have hltz : ¬ (kk : Int) < (l.length : Int) := by omega
      have hkl : kk = l.length := by omega
      subst hkl
      have hO3 : Hid (RulesO w.heap.size 40 wr u5 (fromRu l (la, Sa, ia))) := by
        show RulesO _ _ _ _ _
        have := hO.out
        rw [hend.out] at this; exact this
      clear hc hsucc hlen hend hO
      go_wp2_with fail
      go_ret
      exact ⟨_, rfl, hO3.out, hB⟩
end Go.Proofs.YtmmdpjliknmhgaaGreatDoor
/- Walks of the reference, layer 14: word, number. -/
namespace Go.Proofs.YtmmdpjliknmhgaaGreatDoor
open Go.RowKit Go.Shelf
attribute [local go_sem] Oper.semAt_some
set_option maxRecDepth 100000 in
set_option maxHeartbeats 1000000 in
theorem ruNumR_any (l : List UInt8) (hl : l.length ≤ 1000000) (w : World) :
    Calls Tryz.prog 52 #[.string ⟨l.toArray⟩] w fun e w' => e = .returned (.int .i64 (numW 10000 0 l)) ∧ w = w' := by
  have H0 := Lib.hid (show numW 10000 0 l = numW 10000 0 (l.drop 0) from rfl)
  generalize numW 10000 0 l = R at *
  go_enter Tryz.func52, Tryz.ntmps52
  go_wp2_with fail
  go_loopg [3, 4] l.length (fun gg s3 s4 wr => ∃ (k : Nat) (n : Int), k ≤ l.length ∧ l.length - k ≤ gg ∧ s3 = .int .i64 n ∧ s4 = .int .i64 k ∧ 0 ≤ n ∧ n ≤ 200000 ∧ w = wr ∧ Hid (R = numW 10000 n (l.drop k)))
  case atStart => exact ⟨0, 0, by omega, by omega, rfl, rfl, by omega, by omega, rfl, H0⟩
  case round =>
    obtain ⟨k, n, hk, hg, rfl, rfl, hn0, hn1, rfl, hN⟩ := hrel
    clear H0
    by_cases hlt : k < l.length
    · have hltz : (k : Int) < (l.length : Int) := by omega
      have hkz : (0 : Int) ≤ (k : Int) := by omega
      have hnx : R = if (l[k].toNat : Int) < 48 ∨ 57 < (l[k].toNat : Int) ∨ 10000 < n then -1 else numW 10000 (n * 10 + ((l[k].toNat : Int) - 48)) (l.drop (k + 1)) := by
        rw [hN.out, List.drop_eq_getElem_cons hlt, numW]
      have hlt1 : decide (k < l.length) = true := by simpa using hlt
      obtain ⟨c, hc⟩ : ∃ c, l[k] = c := ⟨_, rfl⟩
      rw [hc] at hnx
      have hX := Lib.hid hnx
      clear hnx hN
      by_cases c1 : (c.toNat : Int) < 48
      · have hR := Lib.hid (show R = -1 by rw [hX.out, if_pos (.inl c1)])
        clear hX
        go_wp2_with fail
        go_ret
        exact ⟨by rw [hR.out]; rfl, rfl⟩
      by_cases c2 : (57 : Int) < (c.toNat : Int)
      · have hR := Lib.hid (show R = -1 by rw [hX.out, if_pos (.inr (.inl c2))])
        clear hX
        go_wp2_with fail
        go_ret
        exact ⟨by rw [hR.out]; rfl, rfl⟩
      by_cases c3 : 10000 < n
      · have hR := Lib.hid (show R = -1 by rw [hX.out, if_pos (.inr (.inr c3))])
        clear hX
        go_wp2_with fail
        go_ret
        exact ⟨by rw [hR.out]; rfl, rfl⟩
      have hR := Lib.hid (show R = numW 10000 (n * 10 + ((c.toNat : Int) - 48)) (l.drop (k + 1)) by rw [hX.out, if_neg (by omega)])
      clear hX
      have w1 : IntKind.u8.wrap ((c.toNat : Int) - 48) = (c.toNat : Int) - 48 := IntWalk.u8_in _ (by omega)
      have hd0 : (0 : Int) ≤ (c.toNat : Int) - 48 := by omega
      have hd9 : (c.toNat : Int) - 48 ≤ 9 := by omega
      go_wp2_with fail
      go_roundg (l.length - (k + 1))
      case measure => omega
      case rel => exact ⟨k + 1, n * 10 + ((c.toNat : Int) - 48), by omega, by omega, by go_num, by go_num, by omega, by omega, rfl, hR⟩
    · have hltz : ¬ (k : Int) < (l.length : Int) := by omega
      have hR := Lib.hid (show R = n by rw [hN.out, List.drop_eq_nil_of_le (by omega), numW])
      clear hN
      go_wp2_with fail
      go_ret
      exact ⟨by rw [hR.out]; rfl, rfl⟩
theorem cutL_step (c d : UInt8) (r : List UInt8) : cutL c (d :: r) = if d = c then ([], r, true) else (d :: (cutL c r).1, (cutL c r).2.1, (cutL c r).2.2) := by
  rw [cutL]
/-- how far a word has been looked for -/
def WordQ (c : UInt8) (s : List UInt8) (k : Nat) : Prop := (cutL c s).1 = s.take k ++ (cutL c (s.drop k)).1 ∧ (cutL c s).2.1 = (cutL c (s.drop k)).2.1
theorem wordQ_zero (c : UInt8) (s : List UInt8) : WordQ c s 0 := ⟨by simp, by simp⟩
theorem wordQ_next {c : UInt8} {s : List UInt8} {k : Nat} (h : WordQ c s k) (hk : k < s.length) (hd : s[k] ≠ c) : WordQ c s (k + 1) := by
  unfold WordQ at *
  rw [List.drop_eq_getElem_cons hk, cutL_step, if_neg hd] at h
  exact ⟨by rw [h.1, List.take_succ_eq_append_getElem hk, List.append_assoc]; rfl, h.2⟩
theorem wordQ_hit {c : UInt8} {s : List UInt8} {k : Nat} (h : WordQ c s k) (hk : k < s.length) (hd : s[k] = c) : (cutL c s).1 = s.take k ∧ (cutL c s).2.1 = s.drop (k + 1) := by
  unfold WordQ at h
  rw [List.drop_eq_getElem_cons hk, cutL_step, if_pos hd] at h
  exact ⟨by rw [h.1]; simp, h.2⟩
theorem wordQ_end {c : UInt8} {s : List UInt8} {k : Nat} (h : WordQ c s k) (hk : s.length ≤ k) : (cutL c s).1 = s ∧ (cutL c s).2.1 = [] := by
  unfold WordQ at h
  rw [List.drop_eq_nil_of_le hk, List.take_of_length_le hk] at h
  exact ⟨by rw [h.1]; simp [cutL], by rw [h.2]; simp [cutL]⟩
set_option maxRecDepth 100000 in
set_option maxHeartbeats 1000000 in
theorem ruWord_any (c : UInt8) (cn : Int) (hcn : cn = (c.toNat : Int)) (s : List UInt8) (hs : s.length ≤ 1000000) (w : World) :
    Calls Tryz.prog 32 #[.string ⟨s.toArray⟩, .int .u8 cn] w fun e w' => e = .returned (.tuple #[.string ⟨(cutL c s).1.toArray⟩, .string ⟨(cutL c s).2.1.toArray⟩]) ∧ Below w.heap.size w w' := by
  have H0 := Lib.hid (wordQ_zero c s)
  have HN := Lib.hid (fun k (h : WordQ c s k) hk hd => wordQ_next h hk hd)
  have HH := Lib.hid (fun k (h : WordQ c s k) hk hd => wordQ_hit h hk hd)
  have HE := Lib.hid (fun k (h : WordQ c s k) hk => wordQ_end h hk)
  generalize (cutL c s).1 = A at *
  generalize (cutL c s).2.1 = B at *
  go_enter Tryz.func32, Tryz.ntmps32
  go_wp2_with fail
  go_loopg [6] s.length (fun gg s6 wr => ∃ k : Nat, k ≤ s.length ∧ s.length - k ≤ gg ∧ s6 = .int .i64 k ∧ w = wr ∧ Hid (WordQ c s k))
  case atStart => exact ⟨0, by omega, by omega, rfl, rfl, H0⟩
  case round =>
    obtain ⟨k, hk, hg, rfl, rfl, hQ⟩ := hrel
    clear H0
    by_cases hlt : k < s.length
    · have hltz : (k : Int) < (s.length : Int) := by omega
      have hkz : (0 : Int) ≤ (k : Int) := by omega
      have hlt1 : decide (k < s.length) = true := by simpa using hlt
      by_cases hd : s[k] = c
      · have hr := HH.out k hQ.out hlt hd
        have hA := Lib.hid hr.1
        have hB := Lib.hid hr.2
        clear hr HN HH HE hQ
        obtain ⟨d, hdd⟩ : ∃ d, s[k] = d := ⟨_, rfl⟩
        rw [hdd] at hd
        have hz : ((d.toNat : Int) == cn) = true := by rw [beq_iff_eq, hcn, hd]
        clear hd
        have hk1 : (k : Int) + 1 ≤ (s.length : Int) := by omega
        go_wp2_with fail
        go_quiet (fail)
        go_wp2_with fail
        go_ret2
        exact ⟨by rw [hA.out, hB.out]; simp; exact List.take_of_length_le (by rw [List.length_drop]; omega), below_drewN (Below.refl _ _) _⟩
      · have hq := Lib.hid (HN.out k hQ.out hlt hd)
        clear HN HH HE hQ
        obtain ⟨d, hdd⟩ : ∃ d, s[k] = d := ⟨_, rfl⟩
        rw [hdd] at hd
        have hz : ((d.toNat : Int) == cn) = false := by
          rw [beq_eq_false_iff_ne, hcn]
          exact fun e => hd (UInt8.toNat_inj.1 (by omega))
        clear hd
        go_wp2_with fail
        go_roundg (s.length - (k + 1))
        case measure => omega
        case rel => exact ⟨k + 1, by omega, by omega, by go_num, rfl, hq⟩
    · have hltz : ¬ (k : Int) < (s.length : Int) := by omega
      have hr := HE.out k hQ.out (by omega)
      have hA := Lib.hid hr.1
      have hB := Lib.hid hr.2
      clear hr HN HH HE hQ
      go_wp2_with fail
      go_ret2
      exact ⟨by rw [hA.out, hB.out]; rfl, Below.refl _ _⟩
end Go.Proofs.YtmmdpjliknmhgaaGreatDoor
/- Walks of the document's answer for layers 5 and 13: Digits, word, Print. -/
namespace Go.Proofs.YtmmdpjliknmhgaaGreatDoor
open Go.RowKit Go.Maps
theorem fdigL_small (n : Nat) (h : n < 10) : digL n = [dch n] := by
  rw [digL, if_neg (by omega), Int.toNat_natCast, revD, if_pos h]; rfl
theorem fdigL_step (n : Nat) (h : ¬ n < 10) : digL n = digL (n / 10 : Nat) ++ digL (n % 10 : Nat) := by
  rw [fdigL_small (n % 10) (by omega)]
  have e : dch (n % 10) = dch n := by simp [dch]
  rw [e, digL, if_neg (by omega), Int.toNat_natCast, revD, if_neg h, digL, if_neg (by omega), Int.toNat_natCast, List.reverse_cons]
set_option maxRecDepth 100000 in
set_option maxHeartbeats 1000000 in
theorem fdigitsR_nat : ∀ (b n : Nat), n < b → n ≤ 100000 → ∀ (w : World), Calls Tryz.prog 46 #[.int .i64 n] w fun e w' => e = .returned (.string ⟨(digL n).toArray⟩) ∧ Below w.heap.size w w'
  | 0, n, h, _, w => absurd h (by omega)
  | b + 1, n, h, hn, w => by
    by_cases hs : n < 10
    · have HD := Lib.hid (fdigL_small n hs)
      have hd := dch_nat n
      have hd1 : (dch n).toNat = 48 + n := by omega
      have hc := conv_byte1 (P := Tryz.prog) w 54 9 5 (dch n) Tryz.underlying54 Tryz.underlying5 Tryz.underlying9
      rw [hd1] at hc
      have hs' : (n : Int) < 10 := by omega
      have w1 : IntKind.i64.wrap (48 + (n : Int)) = 48 + n := IntWalk.i64_in _ (by omega)
      have w2 : IntKind.u8.wrap (48 + (n : Int)) = 48 + n := IntWalk.u8_in _ (by omega)
      push_cast at hc
      clear hd hd1 hs
      go_enter Tryz.func46, Tryz.ntmps46
      go_wp2
      go_ret
      exact ⟨ret_str HD.out.symm, (Below.refl _ w).alloc (Nat.le_refl _) _⟩
    · have HQ := fun u => fdigitsR_nat b (n / 10) (by omega) (by omega) u
      have HM := fun u => fdigitsR_nat b (n % 10) (by omega) (by omega) u
      have HD := Lib.hid (fdigL_step n hs)
      have hs' : ¬ ((n : Int) < 10) := by omega
      have hl1 := digL_len ((n / 10 : Nat) : Int) (by omega)
      have hl2 := digL_len ((n % 10 : Nat) : Int) (by omega)
      generalize digL ((n / 10 : Nat) : Int) = DQ at *
      generalize digL ((n % 10 : Nat) : Int) = DM at *
      push_cast at HQ HM
      clear hs
      go_enter Tryz.func46, Tryz.ntmps46
      go_wp2_with fail
      refine (HQ _).mono ?_
      rintro e w1 ⟨rfl, hb1⟩
      go_wp2_with fail
      refine (HM _).mono ?_
      rintro e w2 ⟨rfl, hb2⟩
      go_wp2_with fail
      go_ret
      exact ⟨ret_str HD.out.symm, hb1.trans (hb2.mono hb1.size)⟩
theorem fdigitsR_any (n : Int) (h0 : 0 ≤ n) (h : n ≤ 100000) (w : World) : Calls Tryz.prog 46 #[.int .i64 n] w fun e w' => e = .returned (.string ⟨(digL n).toArray⟩) ∧ Below w.heap.size w w' := by
  obtain ⟨k, rfl⟩ := Int.eq_ofNat_of_zero_le h0
  exact fdigitsR_nat (k + 1) k (by omega) (by omega) w
theorem fword_any (k : Int) (w : World) : Calls Tryz.prog 72 #[.int .i64 k] w fun e w' => e = .returned (.string ⟨(wordOf k ++ [32]).toArray⟩) ∧ w = w' := by
  by_cases h1 : k = 1
  · subst h1
    go_enter Tryz.func72, Tryz.ntmps72
    go_wp2
    go_ret
    exact ⟨rfl, rfl⟩
  · by_cases h2 : k = 2
    · subst h2
      go_enter Tryz.func72, Tryz.ntmps72
      go_wp2
      go_ret
      exact ⟨rfl, rfl⟩
    · have e1 : (k == 1) = false := by simpa using h1
      have e2 : (k == 2) = false := by simpa using h2
      have HW : Hid (wordOf k = wForm) := by show _ = _; rw [wordOf, if_neg h1, if_neg h2]
      clear h1 h2
      go_enter Tryz.func72, Tryz.ntmps72
      go_wp2
      go_ret
      exact ⟨by rw [HW.out]; rfl, rfl⟩
set_option maxRecDepth 100000 in
set_option maxHeartbeats 2000000 in
theorem fprintR_any (k m : Int) (form : List UInt8) (hl : form.length ≤ 1000) (w : World) :
    Calls Tryz.prog 45 #[fV k m form] w fun e w' => e = .returned (.tuple #[.string ⟨(printA k m form).toArray⟩, .int .i64 (errE k m form)]) ∧ Below w.heap.size w w' := by
  have hB0 := (Below.refl w.heap.size w).alloc (Nat.le_refl _) (.cells #[.int .i64 k, .int .i64 m, .string ⟨form.toArray⟩] 38)
  have b0 := Blk.new w #[.int .i64 k, .int .i64 m, .string ⟨form.toArray⟩] 38
  have HR := frightR_any k m form hl (w.alloc (.cells #[.int .i64 k, .int .i64 m, .string ⟨form.toArray⟩] 38))
  cases hr : rightB k m form with
  | false =>
    have HZ : Hid (printA k m form = [] ∧ errE k m form = 130) := by show _ ∧ _; rw [printA, errE, hr]; exact ⟨rfl, rfl⟩
    rw [hr] at HR
    clear hr
    go_enter Tryz.func45, Tryz.ntmps45
    go_wp2_with (go_at_call 57; refine HR.mono ?_; rintro e w1 ⟨rfl, hb1⟩)
    go_ret2
    exact ⟨by rw [HZ.out.1, HZ.out.2]; rfl, hB0.trans (hb1.mono hB0.size)⟩
  | true =>
    have HZ : Hid (printA k m form = (wordOf k ++ 32 :: digL m) ++ (if k = 1 then [] else 32 :: form) ∧ errE k m form = 0) := by
      show _ ∧ _; rw [printA, errE, hr, if_pos rfl, if_pos rfl, fprintL]; exact ⟨rfl, rfl⟩
    have hf := right_facts hr
    have HD := fun u => fdigitsR_any m hf.1 (by omega) u
    have HW := fun u => fword_any k u
    have hwl := (word_ok k).2
    have hdl := digL_len m (by omega)
    rw [hr] at HR
    clear hr
    generalize wordOf k = WK at *
    generalize digL m = DM at *
    go_enter Tryz.func45, Tryz.ntmps45
    go_wp2_with fail
    refine HR.mono ?_
    rintro e w1 ⟨rfl, hb1⟩
    have hB1 := hB0.trans (hb1.mono hB0.size)
    have b1 := b0.below hb1 b0.lt
    have b10 := b1.cell 0
    have b11 := b1.cell 1
    have b12 := b1.cell 2
    have b1x := b1.cell 0
    simp at b10 b11 b12 b1x
    have hold := fun W (h : Below w1.heap.size w1 W) => (b1.below h b1.lt)
    clear HR hb1 b0
    go_upto_region 3 with fail
    go_cut [4] (fun x wx => x = .string ⟨(WK ++ 32 :: DM).toArray⟩ ∧ Below w1.heap.size w1 wx)
    case first =>
      go_region_with (first
        | (go_at_call 72; refine (HW _).mono ?_; rintro e w' ⟨rfl, rfl⟩)
        | (go_at_call 46; refine (HD _).mono ?_; rintro e w' ⟨rfl, hbx⟩; have bx := hold w' ((Below.refl _ _).drew.trans hbx); have bx0 := bx.cell 0; simp at bx0))
      all_goals (go_wp2_with fail; go_meet)
      all_goals exact ⟨rfl, (Below.refl _ _).drew.trans hbx⟩
    case rest =>
      obtain ⟨rfl, hb2⟩ := hcut
      have hB2 := hB1.trans (hb2.mono hB1.size)
      have b2 := b1.below hb2 b1.lt
      have b20 := b2.cell 0
      have b22 := b2.cell 2
      simp at b20 b22
      clear b10 b11 b12 b1x HD HW hold
      by_cases hk : k = 1
      · have hk' : (k != 1) = false := by simpa using hk
        have HP : Hid (printA k m form = WK ++ 32 :: DM) := by show _ = _; rw [HZ.out.1, if_pos hk]; simp
        clear hk
        go_wp2_with fail
        go_ret2
        exact ⟨by rw [HP.out, HZ.out.2]; rfl, hB2⟩
      · have hk' : (k != 1) = true := by simpa using hk
        have HP : Hid (printA k m form = WK ++ 32 :: (DM ++ 32 :: form)) := by show _ = _; rw [HZ.out.1, if_neg hk]; simp
        clear hk
        go_wp2_with fail
        go_ret2
        exact ⟨by rw [HP.out, HZ.out.2]; simp, hB2⟩
end Go.Proofs.YtmmdpjliknmhgaaGreatDoor
/- Walks of the reference, layer 14: line, Print. -/
namespace Go.Proofs.YtmmdpjliknmhgaaGreatDoor
open Go.RowKit Go.Shelf
attribute [local go_sem] Oper.semAt_some
set_option maxRecDepth 100000 in
set_option maxHeartbeats 8000000 in
theorem ruLineR_any (r : RuT) (hr : OkQ r) (h : isRX labK filK r = true) (w : World) :
    Calls Tryz.prog 30 #[ruV r] w fun e w' => e = .returned (.string ⟨(lineX labK filK r).toArray⟩) ∧ Below w.heap.size w w' := by
  obtain ⟨⟨i1', i2'⟩, s1, s2, ⟨b1', b2'⟩, f1⟩ := isRX_facts h
  have hlen := head_len r h
  have hline : lineX labK filK r = (([114, 117, 108, 101] ++ 32 :: (digL r.id ++ 32 :: (labT r.src.1 r.src.2.1 r.src.2.2 ++ 32 :: (labT r.dst.1 r.dst.2.1 r.dst.2.2 ++ 32 :: (digL r.budget ++ 32 :: fprintL r.what.1 r.what.2.1 r.what.2.2))))) ++ [10]) := rfl
  have hlen2 : (lineX labK filK r).length ≤ 10001 := by
    have : lineX labK filK r = headX labK filK r ++ [10] := rfl
    rw [this, List.length_append]; simp only [List.length_cons, List.length_nil]; omega
  rw [hline] at hlen2
  obtain ⟨id, ⟨l1, S1, i1⟩, ⟨l2, S2, i2⟩, bu, ⟨k, m, form⟩⟩ := r
  obtain ⟨hS1, hS2, hfm⟩ := hr
  dsimp only at *
  have H1 := fun W => printR_any l1 i1 S1 hS1 W
  have H2 := fun W => printR_any l2 i2 S2 hS2 W
  have H3 := fun W => fprintR_any k m form hfm W
  have e1 : printL l1 S1 i1 = labT l1 S1 i1 := by unfold printL; rw [if_pos s1]
  have e2 : printL l2 S2 i2 = labT l2 S2 i2 := by unfold printL; rw [if_pos s2]
  have e3 : printA k m form = fprintL k m form := by unfold printA; rw [if_pos f1]
  rw [e1] at H1
  rw [e2] at H2
  rw [e3] at H3
  have HD1 := fun W => digitsR_any id (by omega) W
  have HD2 := fun W => digitsR_any bu (by omega) W
  have hLX := Lib.hid hline
  clear hline
  generalize lineX labK filK ⟨id, (l1, S1, i1), (l2, S2, i2), bu, (k, m, form)⟩ = LX at *
  generalize labE l1 i1 = x1 at *
  generalize labE l2 i2 = x2 at *
  generalize errE k m form = x3 at *
  generalize labT l1 S1 i1 = T1 at *
  generalize labT l2 S2 i2 = T2 at *
  generalize fprintL k m form = T3 at *
  generalize digL id = T4 at *
  generalize digL bu = T5 at *
  simp only [List.length_append, List.length_cons, List.length_nil] at hlen2
  obtain ⟨A1, hA1⟩ : ∃ A, A = ([114, 117, 108, 101, 32] : List UInt8) ++ T4 := ⟨_, rfl⟩
  have L1 : A1.length = ([114, 117, 108, 101, 32] : List UInt8).length + T4.length := by rw [hA1, List.length_append]
  have hs1 := sadd (P := Tryz.prog) ([114, 117, 108, 101, 32] : List UInt8) T4 (by simp only [List.length_cons, List.length_nil] at *; omega)
  rw [← hA1] at hs1
  obtain ⟨A2, hA2⟩ : ∃ A, A = A1 ++ ([32] : List UInt8) := ⟨_, rfl⟩
  have L2 : A2.length = A1.length + ([32] : List UInt8).length := by rw [hA2, List.length_append]
  have hs2 := sadd (P := Tryz.prog) A1 ([32] : List UInt8) (by simp only [List.length_cons, List.length_nil] at *; omega)
  rw [← hA2] at hs2
  obtain ⟨A3, hA3⟩ : ∃ A, A = A2 ++ T1 := ⟨_, rfl⟩
  have L3 : A3.length = A2.length + T1.length := by rw [hA3, List.length_append]
  have hs3 := sadd (P := Tryz.prog) A2 T1 (by simp only [List.length_cons, List.length_nil] at *; omega)
  rw [← hA3] at hs3
  obtain ⟨A4, hA4⟩ : ∃ A, A = A3 ++ ([32] : List UInt8) := ⟨_, rfl⟩
  have L4 : A4.length = A3.length + ([32] : List UInt8).length := by rw [hA4, List.length_append]
  have hs4 := sadd (P := Tryz.prog) A3 ([32] : List UInt8) (by simp only [List.length_cons, List.length_nil] at *; omega)
  rw [← hA4] at hs4
  obtain ⟨A5, hA5⟩ : ∃ A, A = A4 ++ T2 := ⟨_, rfl⟩
  have L5 : A5.length = A4.length + T2.length := by rw [hA5, List.length_append]
  have hs5 := sadd (P := Tryz.prog) A4 T2 (by simp only [List.length_cons, List.length_nil] at *; omega)
  rw [← hA5] at hs5
  obtain ⟨A6, hA6⟩ : ∃ A, A = A5 ++ ([32] : List UInt8) := ⟨_, rfl⟩
  have L6 : A6.length = A5.length + ([32] : List UInt8).length := by rw [hA6, List.length_append]
  have hs6 := sadd (P := Tryz.prog) A5 ([32] : List UInt8) (by simp only [List.length_cons, List.length_nil] at *; omega)
  rw [← hA6] at hs6
  obtain ⟨A7, hA7⟩ : ∃ A, A = A6 ++ T5 := ⟨_, rfl⟩
  have L7 : A7.length = A6.length + T5.length := by rw [hA7, List.length_append]
  have hs7 := sadd (P := Tryz.prog) A6 T5 (by simp only [List.length_cons, List.length_nil] at *; omega)
  rw [← hA7] at hs7
  obtain ⟨A8, hA8⟩ : ∃ A, A = A7 ++ ([32] : List UInt8) := ⟨_, rfl⟩
  have L8 : A8.length = A7.length + ([32] : List UInt8).length := by rw [hA8, List.length_append]
  have hs8 := sadd (P := Tryz.prog) A7 ([32] : List UInt8) (by simp only [List.length_cons, List.length_nil] at *; omega)
  rw [← hA8] at hs8
  obtain ⟨A9, hA9⟩ : ∃ A, A = A8 ++ T3 := ⟨_, rfl⟩
  have L9 : A9.length = A8.length + T3.length := by rw [hA9, List.length_append]
  have hs9 := sadd (P := Tryz.prog) A8 T3 (by simp only [List.length_cons, List.length_nil] at *; omega)
  rw [← hA9] at hs9
  obtain ⟨A10, hA10⟩ : ∃ A, A = A9 ++ ([10] : List UInt8) := ⟨_, rfl⟩
  have L10 : A10.length = A9.length + ([10] : List UInt8).length := by rw [hA10, List.length_append]
  have hs10 := sadd (P := Tryz.prog) A9 ([10] : List UInt8) (by simp only [List.length_cons, List.length_nil] at *; omega)
  rw [← hA10] at hs10
  have hX : LX = A10 := by rw [hLX.out, hA10, hA9, hA8, hA7, hA6, hA5, hA4, hA3, hA2, hA1]; simp
  subst hX
  clear hA1 hA2 hA3 hA4 hA5 hA6 hA7 hA8 hA9 hA10 L1 L2 L3 L4 L5 L6 L7 L8 L9 L10 hlen hlen2 hLX e1 e2 e3
  have B0 := (Below.refl _ w).alloc (Nat.le_refl _) (.cells #[.int .i64 id, .int .i64 l1, .int .u64 S1, .int .i64 i1, .int .i64 l2, .int .u64 S2, .int .i64 i2, .int .i64 bu, .int .i64 k, .int .i64 m, .string ⟨form.toArray⟩] 40)
  have n0 := Blk.new w #[.int .i64 id, .int .i64 l1, .int .u64 S1, .int .i64 i1, .int .i64 l2, .int .u64 S2, .int .i64 i2, .int .i64 bu, .int .i64 k, .int .i64 m, .string ⟨form.toArray⟩] 40
  obtain ⟨W0, hW0⟩ : ∃ W0, w.alloc (.cells #[.int .i64 id, .int .i64 l1, .int .u64 S1, .int .i64 i1, .int .i64 l2, .int .u64 S2, .int .i64 i2, .int .i64 bu, .int .i64 k, .int .i64 m, .string ⟨form.toArray⟩] 40) = W0 := ⟨_, rfl⟩
  rw [hW0] at B0 n0
  have SK : Hid (∀ W, Below W0.heap.size W0 W → W.cell? ⟨w.heap.size, 0, none⟩ = some (.int .i64 id) ∧ (W.cell? ⟨w.heap.size, 1, none⟩ = some (.int .i64 l1) ∧ W.cell? ⟨w.heap.size, 2, none⟩ = some (.int .u64 S1) ∧ W.cell? ⟨w.heap.size, 3, none⟩ = some (.int .i64 i1)) ∧ (W.cell? ⟨w.heap.size, 4, none⟩ = some (.int .i64 l2) ∧ W.cell? ⟨w.heap.size, 5, none⟩ = some (.int .u64 S2) ∧ W.cell? ⟨w.heap.size, 6, none⟩ = some (.int .i64 i2)) ∧ W.cell? ⟨w.heap.size, 7, none⟩ = some (.int .i64 bu) ∧
      (W.cell? ⟨w.heap.size, 8, none⟩ = some (.int .i64 k) ∧ W.cell? ⟨w.heap.size, 9, none⟩ = some (.int .i64 m) ∧ W.cell? ⟨w.heap.size, 10, none⟩ = some (.string ⟨form.toArray⟩))) := by
    show ∀ W, _
    intro W h
    have q := n0.below h n0.lt
    exact ⟨(q.cell 0).trans rfl, ⟨(q.cell 1).trans rfl, (q.cell 2).trans rfl, (q.cell 3).trans rfl⟩, ⟨(q.cell 4).trans rfl, (q.cell 5).trans rfl, (q.cell 6).trans rfl⟩, (q.cell 7).trans rfl, (q.cell 8).trans rfl, (q.cell 9).trans rfl, (q.cell 10).trans rfl⟩
  obtain ⟨c0, ⟨c1, c2, c3⟩, ⟨c4, c5, c6⟩, c7, c8, c9, c10⟩ := SK.out W0 (Below.refl _ _)
  clear n0 hfm hS1 hS2 h f1 s1 s2
  go_enter Tryz.func30, Tryz.ntmps30
  go_wp2_with fail
  with_reducible refine (H1 _).mono ?_
  rintro e w1 ⟨rfl, b1⟩
  have C1 := b1
  have B1 := B0.trans (b1.mono B0.size)
  clear c0 c1 c2 c3 c4 c5 c6 c7 c8 c9 c10 H1 b1
  obtain ⟨-, -, ⟨c4, c5, c6⟩, -, -, -, -⟩ := SK.out w1 C1
  go_wp2_with fail
  with_reducible refine (H2 _).mono ?_
  rintro e w2 ⟨rfl, b2⟩
  have C2 := C1.trans (b2.mono C1.size)
  have B2 := B1.trans (b2.mono B1.size)
  clear c4 c5 c6 H2 b2 B1 C1
  obtain ⟨-, -, -, -, c8, c9, c10⟩ := SK.out w2 C2
  go_wp2_with fail
  with_reducible refine (H3 _).mono ?_
  rintro e w3 ⟨rfl, b3⟩
  have C3 := C2.trans (b3.mono C2.size)
  have B3 := B2.trans (b3.mono B2.size)
  clear c8 c9 c10 H3 b3 B2 C2
  have SK3 : Hid (∀ u, Below w3.heap.size w3 u → u.cell? ⟨w.heap.size, 0, none⟩ = some (.int .i64 id) ∧ u.cell? ⟨w.heap.size, 7, none⟩ = some (.int .i64 bu)) := by
    show ∀ u, _
    intro u h
    obtain ⟨d0, -, -, d7, -⟩ := SK.out u (C3.trans (h.mono C3.size))
    exact ⟨d0, d7⟩
  obtain ⟨k30, k37⟩ := SK3.out w3 (Below.refl _ _)
  clear SK
  go_wp2_with fail
  go_region_held3 (fun u => u.cell? ⟨w.heap.size, 0, none⟩ = some (.int .i64 id) ∧ u.cell? ⟨w.heap.size, 7, none⟩ = some (.int .i64 bu)) (first | go_keep | exact ⟨k30, k37⟩ | exact ⟨k40, k47⟩ | exact ⟨k50, k57⟩)
    (first
      | (go_at_call 46; (with_reducible refine (HD1 _).mono ?_); rintro e w4 ⟨rfl, b4⟩; have D4 := (Below.refl w3.heap.size w3).drew.trans b4; obtain ⟨k40, k47⟩ := SK3.out w4 D4)
      | (go_at_call 46; (with_reducible refine (HD2 _).mono ?_); rintro e w5 ⟨rfl, b5⟩; have D5 := D4.trans (b5.mono D4.size); obtain ⟨k50, k57⟩ := SK3.out w5 D5))
  all_goals (go_wp2_with fail; go_ret; exact ⟨rfl, B3.trans (D5.mono B3.size)⟩)
set_option maxRecDepth 100000 in
set_option maxHeartbeats 4000000 in
theorem ruPrintR_any (l : List RuT) (hl : l.length ≤ 1000000) (hok : ∀ r ∈ l, OkQ r) (v : Value) (w : World) (hv : RulesV w v l) :
    Calls Tryz.prog 12 #[v] w fun e w' => e = .returned (.tuple #[.string ⟨(ruL.pT l).toArray⟩, .int .i64 (ruL.pE l)]) ∧ Below w.heap.size w w' := by
  have HR := ruRightR_any l hl hok v w hv
  obtain ⟨a, cap, rfl, -, hc⟩ := hv.at
  have hpt : ruL.pT l = if ruL.right l then ruL.text l else [] := rfl
  have hpe : ruL.pE l = if ruL.right l then 0 else 140 := rfl
  cases hR : ruL.right l with
  | false =>
    rw [hR] at hpt hpe HR
    simp only [Bool.false_eq_true, if_false] at hpt hpe
    rw [hpt, hpe]
    clear hpt hpe hR hc hv
    go_enter Tryz.func12, Tryz.ntmps12
    go_wp2_with fail
    with_reducible refine HR.mono ?_
    rintro e w1 ⟨rfl, b1⟩
    clear HR
    go_wp2_with fail
    go_ret2
    exact ⟨rfl, b1⟩
  | true =>
    rw [hR] at hpt hpe HR
    simp only [if_true] at hpt hpe
    rw [hpt, hpe]
    have hris := LineS.right_isR ruL hR
    have hl8 : l.length ≤ 8 := by
      unfold LineS.right at hR
      simp only [Bool.and_eq_true, decide_eq_true_eq] at hR
      exact hR.2
    have HL := fun r (hr : r ∈ l) W => ruLineR_any r (hok r hr) (hris r hr) W
    have hlen := fun k => Nat.le_trans (text_len (l.take k) (fun r hr => hris r (List.mem_of_mem_take hr))) (Nat.mul_le_mul_right 10001 (show (l.take k).length ≤ 8 by rw [List.length_take]; omega))
    have hst := Lib.hid (text_take_succ l)
    have hend : Hid (ruL.text (l.take l.length) = ruL.text l) := by show _ = _; rw [List.take_length]
    clear hpt hpe hR hv hok hris
    have ht0 : Hid (ruL.text (l.take 0) = []) := rfl
    generalize ruL.text l = TX at *
    obtain ⟨tx, htx⟩ : ∃ tx : Nat → List UInt8, tx = fun k => ruL.text (l.take k) := ⟨_, rfl⟩
    have e1 : ∀ k, ruL.text (l.take k) = tx k := fun k => by rw [htx]
    simp only [e1] at hst hend hlen ht0
    clear e1 htx
    go_enter Tryz.func12, Tryz.ntmps12
    go_wp2_with fail
    with_reducible refine HR.mono ?_
    rintro e w1 ⟨rfl, b1⟩
    clear HR
    go_wp2_with fail
    go_loopg [4, 5] l.length (fun gg s4 s5 wr => ∃ (kk : Nat) (A : List UInt8), kk ≤ l.length ∧ l.length - kk ≤ gg ∧ s4 = .string ⟨A.toArray⟩ ∧ s5 = .int .i64 kk ∧ Below w.heap.size w wr ∧ Hid (A = tx kk))
    case atStart => exact ⟨0, [], Nat.zero_le _, by omega, rfl, rfl, b1, by show _ = _; rw [ht0.out]⟩
    case round =>
      obtain ⟨kk, A, hkk, hg, rfl, rfl, hB, hA⟩ := hrel
      by_cases hlt : kk < l.length
      · have hltz : (kk : Int) < (l.length : Int) := by omega
        have hkz : (0 : Int) ≤ (kk : Int) := by omega
        obtain ⟨b, o, rfl, -, hcl⟩ := hc kk hlt
        obtain ⟨k0, k1, k2, k3, k4, k5, k6, k7, k8, k9, k10⟩ := hcl _ (KeepC.of_below hB)
        have HLx := HL l[kk] (List.getElem_mem hlt)
        have hA2 : Hid (A ++ lineX labK filK l[kk] = tx (kk + 1)) := by show _ = _; rw [hst.out kk hlt, hA.out]
        have hal : A.length + (lineX labK filK l[kk]).length ≤ 100000 := by
          have := hlen (kk + 1)
          rw [← hA2.out, List.length_append] at this; omega
        clear hc hcl hst hend HL hlen ht0 hA
        generalize lineX labK filK l[kk] = LX at *
        have hz1 := ba_size A
        have hz2 := ba_size LX
        have hq : ¬ (9223372036854775807 < A.length + LX.length) := by omega
        obtain ⟨x, hx⟩ : ∃ x, l[kk] = x := ⟨_, rfl⟩
        rw [hx] at k0 k1 k2 k3 k4 k5 k6 k7 k8 k9 k10
        simp only [hx] at HLx
        clear hx
        obtain ⟨id, ⟨l1, S1, i1⟩, ⟨l2, S2, i2⟩, bu, ⟨k, m, form⟩⟩ := x
        dsimp only at *
        have HLy := HLx wr
        clear HLx
        go_wp2_with fail
        with_reducible refine HLy.mono ?_
        rintro e w2 ⟨rfl, b2⟩
        clear HLy k0 k1 k2 k3 k4 k5 k6 k7 k8 k9 k10
        go_wp2_with fail
        go_roundg (l.length - (kk + 1))
        case measure => omega
        case rel => exact ⟨kk + 1, A ++ LX, by omega, by omega, by go_num, by go_num, hB.trans (b2.mono hB.size), hA2⟩
      · have hltz : ¬ (kk : Int) < (l.length : Int) := by omega
        have hkl : kk = l.length := by omega
        subst hkl
        have hE : Hid (A = TX) := by show _ = _; rw [hA.out, hend.out]
        clear hc hst hend HL hlen ht0 hA
        go_wp2_with fail
        go_ret2
        exact ⟨by rw [hE.out]; rfl, hB⟩
end Go.Proofs.YtmmdpjliknmhgaaGreatDoor
