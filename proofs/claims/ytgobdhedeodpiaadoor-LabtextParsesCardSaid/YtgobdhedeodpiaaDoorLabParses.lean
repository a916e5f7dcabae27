/- LabtextParses: its walk. -/
import Derived.Test.YtgobdhedeodpiaaDoorLabLaw
import Derived.Test.YtgobdhedeodpiaaDoorLabQ7
namespace Go.Proofs.YtgobdhedeodpiaaDoor
open Go.RowKit Go.Shelf
attribute [local go_sem] Oper.semAt_some
set_option maxHeartbeats 4000000 in
set_option maxRecDepth 100000 in
theorem parses_law (l : List UInt8) (w : World) (hT : Tab w) (hg : ErrT w) :
    Calls Tryd.prog 4 #[.string ⟨l.toArray⟩] w fun e w' => e = .returned (.bool true) ∧ Below w.heap.size w w' := by
  have hgl := World.block_lt_of_cell? w _ hg
  have HS := Lib.hid (shown_any w hT hg)
  have HCut := cut_any l
  have HL : (l.take 300).length ≤ 300 := by simp; omega
  generalize l.take 300 = L at HCut HL
  have HP := fun u hu => parse_any L (by omega) u hu
  have HQ := fun u => parseR_any L (by omega) u
  generalize parL L = PL at *
  obtain ⟨p1, p2, p3⟩ := PL
  generalize parAt L = PA at *
  generalize parE L = PE at *
  go_enter Tryd.func4, Tryd.ntmps4
  go_wp2_with fail
  refine HS.out.mono ?_
  rintro e w1 ⟨rfl, hb1⟩
  go_wp2_with (go_at_call 15; refine (HCut _).mono ?_; rintro e w' ⟨rfl, rfl⟩)
  refine (HP _ ((hb1.cell (p := ⟨0, 0, none⟩) hgl).trans hg)).mono ?_
  rintro e w2 ⟨rfl, hb2⟩
  have hB2 := hb1.trans (hb2.mono hb1.size)
  have a2 := label_box w2 p1 p2 p3
  have hB2' := hB2.alloc hB2.size (.cells #[.int .i64 p1, .int .u64 p2, .int .i64 p3] 24)
  go_wp2_with (go_at_call 15; refine (HCut _).mono ?_; rintro e w' ⟨rfl, rfl⟩)
  refine (HQ _).mono ?_
  rintro e w3 ⟨rfl, hb3⟩
  have a3 := (a2.below hb3 a2.lt).alloc (.cells #[.int .i64 p1, .int .u64 p2, .int .i64 p3] 24)
  have d3 := label_box w3 p1 p2 p3
  have hB3 := hB2'.trans (hb3.mono hB2'.size)
  have hB3' := hB3.alloc hB3.size (.cells #[.int .i64 p1, .int .u64 p2, .int .i64 p3] 24)
  have a30 := a3.cell 0
  have a31 := a3.cell 1
  have a32 := a3.cell 2
  have d30 := d3.cell 0
  have d31 := d3.cell 1
  have d32 := d3.cell 2
  simp at a30 a31 a32 d30 d31 d32
  go_wp2_with fail
  go_ret
  exact ⟨rfl, hB3'⟩
end Go.Proofs.YtgobdhedeodpiaaDoor
