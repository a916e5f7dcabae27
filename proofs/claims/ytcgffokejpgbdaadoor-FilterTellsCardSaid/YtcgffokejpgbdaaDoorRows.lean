/-
  NARROWER THAN 'FOR EVERY INPUT', by the rows' own cells (each row's printed sentence says how): FilterTells: laid · FilterPrints: laid · FilterBack: laid · FilterWider: laid · FilterPlaces: laid · FilterRecords: laid · FilterJoins: laid · FilterLong: laid.
  DERIVED. THE GIVEN ROWS OF THIS SEAT. 8 by the template 'for every input the law returns true; each argument reads behind the call as it read before'; 0 by the template 'total and deterministic' (their statements: YtcgffokejpgbdaaDoorTotals.lean).
  GIVEN WITH THE SEED: the statements are not yours to turn. If you find one false, say at which input.
  Laid BY PROGRAM, IN A SANDBOX (cutbox-rows.mjs): the forced cells as the released guide's own fill.sh prints them over the translation d0e1eb4e2f956d01… (all of the seat's roots in one cut). By AI agents, Wed Nov 11 2026. No macro, syntax, notation, axiom, sorry.
-/
import Derived.Test.YtcgffokejpgbdaaDoorChecked
import GoSem.Claim
import GoSem.ClaimJoined
import GoSem.ClaimMapViews
import Derived.JoinedTies
import Derived.KernelRfl
namespace Go.Proofs.YtcgffokejpgbdaaDoor
/- THE CELL 'sum', in the pinned program and in every row, IS THE sha256 OF THE DUMP (.gsa) THAT YtcgffokejpgbdaaDoorProg.lean LOADS. Nothing in Lean hashes anything: it is a label: what it is worth is what the hold of that sum in a sandbox is worth. -/
noncomputable def Tryd.pinned : Pinned := { name := "ytcgffokejpgbdaadoor", sum := "d0e1eb4e2f956d0139442f54c283e6ce892137cd80485f5c372bfa3181b914a3", checked := Tryd.checked }
namespace Rows
def none {H : Type} : Left H := { results := [], args := [] }

/- WHAT THE LISTED PACKAGE-LEVEL VARIABLES READ AS WHEN THE CALL BEGINS. Each datum BY PROGRAM (the guide's laid-datum.mjs) off the statement by which the dump's own 'gosem.cut.vars' lays the variable. In a bare row this is a premise. The card (YtcgffokejpgbdaaDoorCards.lean) ties it to the program's text. -/
def laid_plimsoll_filter_errFilter {H : Type} : DataW H := .iface "*errors.errorString" (.ptr (.agg [.lit (.string [110, 111, 32, 102, 105, 108, 116, 101, 114])]))

/-- 'plimsolllaw13.FilterTells': WHATEVER THE INPUT: true; the input reads as it did. -/
def filterTellsSpec : ChangeSpec := { name := "filterTells", fn := fun _ => fun
  | [d1, d2] => { results := [.lit (.bool true)], args := [d1, d2] }
  | _ => none }
def filterTellsRow : OpenClaim := { program := "ytcgffokejpgbdaadoor", sum := "d0e1eb4e2f956d0139442f54c283e6ce892137cd80485f5c372bfa3181b914a3", func := "plimsoll/plimsolllaw13.FilterTells", spec := "filterTells", inPlace := ["internal/bytealg.IndexByteString", "internal/bytealg.IndexString", "sync/atomic.LoadUint32", "(*internal/sync.Mutex).Lock", "internal/race.Disable", "sync/atomic.CompareAndSwapInt32", "internal/race.Enable", "internal/race.Acquire", "(*internal/sync.Mutex).lockSlow", "internal/sync.runtime_canSpin", "internal/sync.runtime_doSpin", "internal/sync.throw", "internal/sync.runtime_nanotime", "internal/sync.runtime_SemacquireMutex", "sync/atomic.AddInt32", "(*internal/sync.Mutex).Unlock", "internal/race.ReleaseMerge", "(*internal/sync.Mutex).unlockSlow", "internal/sync.fatal", "internal/sync.runtime_Semrelease", "sync/atomic.StoreUint32", "internal/reflectlite.TypeOf"], unfollowed := true, recurses := true, named := ["plimsoll/filter.errFilter", "internal/bytealg.MaxLen"], apart := false, laid := [("plimsoll/filter.errFilter", laid_plimsoll_filter_errFilter)] }
def FilterTellsSaid : Prop := filterTellsRow.holds Tryd.pinned (OpenSpec.ofChange filterTellsSpec)

/-- ITS FALSE NEIGHBOUR: 'it returns false'. Refute it at one input. -/
def filterTellsWrong : ChangeSpec := { name := "filterTells", fn := fun _ => fun
  | [d1, d2] => { results := [.lit (.bool false)], args := [d1, d2] }
  | _ => none }
def FilterTellsWrongFalsely : Prop := filterTellsRow.holds Tryd.pinned (OpenSpec.ofChange filterTellsWrong)

/-- 'plimsolllaw13.FilterPrints': WHATEVER THE INPUT: true; the input reads as it did. -/
def filterPrintsSpec : ChangeSpec := { name := "filterPrints", fn := fun _ => fun
  | [d1, d2] => { results := [.lit (.bool true)], args := [d1, d2] }
  | _ => none }
def filterPrintsRow : OpenClaim := { program := "ytcgffokejpgbdaadoor", sum := "d0e1eb4e2f956d0139442f54c283e6ce892137cd80485f5c372bfa3181b914a3", func := "plimsoll/plimsolllaw13.FilterPrints", spec := "filterPrints", inPlace := ["internal/bytealg.IndexByteString", "internal/bytealg.IndexString", "sync/atomic.LoadUint32", "(*internal/sync.Mutex).Lock", "internal/race.Disable", "sync/atomic.CompareAndSwapInt32", "internal/race.Enable", "internal/race.Acquire", "(*internal/sync.Mutex).lockSlow", "internal/sync.runtime_canSpin", "internal/sync.runtime_doSpin", "internal/sync.throw", "internal/sync.runtime_nanotime", "internal/sync.runtime_SemacquireMutex", "sync/atomic.AddInt32", "(*internal/sync.Mutex).Unlock", "internal/race.ReleaseMerge", "(*internal/sync.Mutex).unlockSlow", "internal/sync.fatal", "internal/sync.runtime_Semrelease", "sync/atomic.StoreUint32", "internal/reflectlite.TypeOf"], unfollowed := true, recurses := true, named := ["plimsoll/filter.errFilter", "internal/bytealg.MaxLen"], apart := false, laid := [("plimsoll/filter.errFilter", laid_plimsoll_filter_errFilter)] }
def FilterPrintsSaid : Prop := filterPrintsRow.holds Tryd.pinned (OpenSpec.ofChange filterPrintsSpec)

/-- ITS FALSE NEIGHBOUR: 'it returns false'. Refute it at one input. -/
def filterPrintsWrong : ChangeSpec := { name := "filterPrints", fn := fun _ => fun
  | [d1, d2] => { results := [.lit (.bool false)], args := [d1, d2] }
  | _ => none }
def FilterPrintsWrongFalsely : Prop := filterPrintsRow.holds Tryd.pinned (OpenSpec.ofChange filterPrintsWrong)

/-- 'plimsolllaw13.FilterBack': WHATEVER THE INPUT: true; the input reads as it did. -/
def filterBackSpec : ChangeSpec := { name := "filterBack", fn := fun _ => fun
  | [d1, d2] => { results := [.lit (.bool true)], args := [d1, d2] }
  | _ => none }
def filterBackRow : OpenClaim := { program := "ytcgffokejpgbdaadoor", sum := "d0e1eb4e2f956d0139442f54c283e6ce892137cd80485f5c372bfa3181b914a3", func := "plimsoll/plimsolllaw13.FilterBack", spec := "filterBack", inPlace := ["internal/bytealg.IndexByteString", "internal/bytealg.IndexString", "sync/atomic.LoadUint32", "(*internal/sync.Mutex).Lock", "internal/race.Disable", "sync/atomic.CompareAndSwapInt32", "internal/race.Enable", "internal/race.Acquire", "(*internal/sync.Mutex).lockSlow", "internal/sync.runtime_canSpin", "internal/sync.runtime_doSpin", "internal/sync.throw", "internal/sync.runtime_nanotime", "internal/sync.runtime_SemacquireMutex", "sync/atomic.AddInt32", "(*internal/sync.Mutex).Unlock", "internal/race.ReleaseMerge", "(*internal/sync.Mutex).unlockSlow", "internal/sync.fatal", "internal/sync.runtime_Semrelease", "sync/atomic.StoreUint32", "internal/reflectlite.TypeOf"], unfollowed := true, recurses := true, named := ["plimsoll/filter.errFilter", "internal/bytealg.MaxLen"], apart := false, laid := [("plimsoll/filter.errFilter", laid_plimsoll_filter_errFilter)] }
def FilterBackSaid : Prop := filterBackRow.holds Tryd.pinned (OpenSpec.ofChange filterBackSpec)

/-- ITS FALSE NEIGHBOUR: 'it returns false'. Refute it at one input. -/
def filterBackWrong : ChangeSpec := { name := "filterBack", fn := fun _ => fun
  | [d1, d2] => { results := [.lit (.bool false)], args := [d1, d2] }
  | _ => none }
def FilterBackWrongFalsely : Prop := filterBackRow.holds Tryd.pinned (OpenSpec.ofChange filterBackWrong)

/-- 'plimsolllaw13.FilterWider': WHATEVER THE INPUT: true; the input reads as it did. -/
def filterWiderSpec : ChangeSpec := { name := "filterWider", fn := fun _ => fun
  | [d1, d2, d3] => { results := [.lit (.bool true)], args := [d1, d2, d3] }
  | _ => none }
def filterWiderRow : OpenClaim := { program := "ytcgffokejpgbdaadoor", sum := "d0e1eb4e2f956d0139442f54c283e6ce892137cd80485f5c372bfa3181b914a3", func := "plimsoll/plimsolllaw13.FilterWider", spec := "filterWider", inPlace := ["internal/bytealg.IndexByteString", "internal/bytealg.IndexString", "sync/atomic.LoadUint32", "(*internal/sync.Mutex).Lock", "internal/race.Disable", "sync/atomic.CompareAndSwapInt32", "internal/race.Enable", "internal/race.Acquire", "(*internal/sync.Mutex).lockSlow", "internal/sync.runtime_canSpin", "internal/sync.runtime_doSpin", "internal/sync.throw", "internal/sync.runtime_nanotime", "internal/sync.runtime_SemacquireMutex", "sync/atomic.AddInt32", "(*internal/sync.Mutex).Unlock", "internal/race.ReleaseMerge", "(*internal/sync.Mutex).unlockSlow", "internal/sync.fatal", "internal/sync.runtime_Semrelease", "sync/atomic.StoreUint32", "internal/reflectlite.TypeOf"], unfollowed := true, recurses := true, named := ["plimsoll/filter.errFilter", "internal/bytealg.MaxLen"], apart := false, laid := [("plimsoll/filter.errFilter", laid_plimsoll_filter_errFilter)] }
def FilterWiderSaid : Prop := filterWiderRow.holds Tryd.pinned (OpenSpec.ofChange filterWiderSpec)

/-- ITS FALSE NEIGHBOUR: 'it returns false'. Refute it at one input. -/
def filterWiderWrong : ChangeSpec := { name := "filterWider", fn := fun _ => fun
  | [d1, d2, d3] => { results := [.lit (.bool false)], args := [d1, d2, d3] }
  | _ => none }
def FilterWiderWrongFalsely : Prop := filterWiderRow.holds Tryd.pinned (OpenSpec.ofChange filterWiderWrong)

/-- 'plimsolllaw13.FilterPlaces': WHATEVER THE INPUT: true; the input reads as it did. -/
def filterPlacesSpec : ChangeSpec := { name := "filterPlaces", fn := fun _ => fun
  | [d1, d2] => { results := [.lit (.bool true)], args := [d1, d2] }
  | _ => none }
def filterPlacesRow : OpenClaim := { program := "ytcgffokejpgbdaadoor", sum := "d0e1eb4e2f956d0139442f54c283e6ce892137cd80485f5c372bfa3181b914a3", func := "plimsoll/plimsolllaw13.FilterPlaces", spec := "filterPlaces", inPlace := ["internal/bytealg.IndexByteString", "internal/bytealg.IndexString", "sync/atomic.LoadUint32", "(*internal/sync.Mutex).Lock", "internal/race.Disable", "sync/atomic.CompareAndSwapInt32", "internal/race.Enable", "internal/race.Acquire", "(*internal/sync.Mutex).lockSlow", "internal/sync.runtime_canSpin", "internal/sync.runtime_doSpin", "internal/sync.throw", "internal/sync.runtime_nanotime", "internal/sync.runtime_SemacquireMutex", "sync/atomic.AddInt32", "(*internal/sync.Mutex).Unlock", "internal/race.ReleaseMerge", "(*internal/sync.Mutex).unlockSlow", "internal/sync.fatal", "internal/sync.runtime_Semrelease", "sync/atomic.StoreUint32", "internal/reflectlite.TypeOf"], unfollowed := true, recurses := true, named := ["plimsoll/filter.errFilter", "internal/bytealg.MaxLen"], apart := false, laid := [("plimsoll/filter.errFilter", laid_plimsoll_filter_errFilter)] }
def FilterPlacesSaid : Prop := filterPlacesRow.holds Tryd.pinned (OpenSpec.ofChange filterPlacesSpec)

/-- ITS FALSE NEIGHBOUR: 'it returns false'. Refute it at one input. -/
def filterPlacesWrong : ChangeSpec := { name := "filterPlaces", fn := fun _ => fun
  | [d1, d2] => { results := [.lit (.bool false)], args := [d1, d2] }
  | _ => none }
def FilterPlacesWrongFalsely : Prop := filterPlacesRow.holds Tryd.pinned (OpenSpec.ofChange filterPlacesWrong)

/-- 'plimsolllaw13.FilterRecords': WHATEVER THE INPUT: true; the input reads as it did. -/
def filterRecordsSpec : ChangeSpec := { name := "filterRecords", fn := fun _ => fun
  | [d1, d2] => { results := [.lit (.bool true)], args := [d1, d2] }
  | _ => none }
def filterRecordsRow : OpenClaim := { program := "ytcgffokejpgbdaadoor", sum := "d0e1eb4e2f956d0139442f54c283e6ce892137cd80485f5c372bfa3181b914a3", func := "plimsoll/plimsolllaw13.FilterRecords", spec := "filterRecords", inPlace := ["internal/bytealg.IndexByteString", "internal/bytealg.IndexString", "sync/atomic.LoadUint32", "(*internal/sync.Mutex).Lock", "internal/race.Disable", "sync/atomic.CompareAndSwapInt32", "internal/race.Enable", "internal/race.Acquire", "(*internal/sync.Mutex).lockSlow", "internal/sync.runtime_canSpin", "internal/sync.runtime_doSpin", "internal/sync.throw", "internal/sync.runtime_nanotime", "internal/sync.runtime_SemacquireMutex", "sync/atomic.AddInt32", "(*internal/sync.Mutex).Unlock", "internal/race.ReleaseMerge", "(*internal/sync.Mutex).unlockSlow", "internal/sync.fatal", "internal/sync.runtime_Semrelease", "sync/atomic.StoreUint32", "internal/reflectlite.TypeOf"], unfollowed := true, recurses := true, named := ["plimsoll/filter.errFilter", "internal/bytealg.MaxLen"], apart := false, laid := [("plimsoll/filter.errFilter", laid_plimsoll_filter_errFilter)] }
def FilterRecordsSaid : Prop := filterRecordsRow.holds Tryd.pinned (OpenSpec.ofChange filterRecordsSpec)

/-- ITS FALSE NEIGHBOUR: 'it returns false'. Refute it at one input. -/
def filterRecordsWrong : ChangeSpec := { name := "filterRecords", fn := fun _ => fun
  | [d1, d2] => { results := [.lit (.bool false)], args := [d1, d2] }
  | _ => none }
def FilterRecordsWrongFalsely : Prop := filterRecordsRow.holds Tryd.pinned (OpenSpec.ofChange filterRecordsWrong)

/-- 'plimsolllaw13.FilterJoins': WHATEVER THE INPUT: true; the input reads as it did. -/
def filterJoinsSpec : ChangeSpec := { name := "filterJoins", fn := fun _ => fun
  | [d1, d2, d3, d4] => { results := [.lit (.bool true)], args := [d1, d2, d3, d4] }
  | _ => none }
def filterJoinsRow : OpenClaim := { program := "ytcgffokejpgbdaadoor", sum := "d0e1eb4e2f956d0139442f54c283e6ce892137cd80485f5c372bfa3181b914a3", func := "plimsoll/plimsolllaw13.FilterJoins", spec := "filterJoins", inPlace := ["internal/bytealg.IndexByteString", "internal/bytealg.IndexString", "sync/atomic.LoadUint32", "(*internal/sync.Mutex).Lock", "internal/race.Disable", "sync/atomic.CompareAndSwapInt32", "internal/race.Enable", "internal/race.Acquire", "(*internal/sync.Mutex).lockSlow", "internal/sync.runtime_canSpin", "internal/sync.runtime_doSpin", "internal/sync.throw", "internal/sync.runtime_nanotime", "internal/sync.runtime_SemacquireMutex", "sync/atomic.AddInt32", "(*internal/sync.Mutex).Unlock", "internal/race.ReleaseMerge", "(*internal/sync.Mutex).unlockSlow", "internal/sync.fatal", "internal/sync.runtime_Semrelease", "sync/atomic.StoreUint32", "internal/reflectlite.TypeOf"], unfollowed := true, recurses := true, named := ["plimsoll/filter.errFilter", "internal/bytealg.MaxLen"], apart := false, laid := [("plimsoll/filter.errFilter", laid_plimsoll_filter_errFilter)] }
def FilterJoinsSaid : Prop := filterJoinsRow.holds Tryd.pinned (OpenSpec.ofChange filterJoinsSpec)

/-- ITS FALSE NEIGHBOUR: 'it returns false'. Refute it at one input. -/
def filterJoinsWrong : ChangeSpec := { name := "filterJoins", fn := fun _ => fun
  | [d1, d2, d3, d4] => { results := [.lit (.bool false)], args := [d1, d2, d3, d4] }
  | _ => none }
def FilterJoinsWrongFalsely : Prop := filterJoinsRow.holds Tryd.pinned (OpenSpec.ofChange filterJoinsWrong)

/-- 'plimsolllaw13.FilterLong': WHATEVER THE INPUT: true; the input reads as it did. -/
def filterLongSpec : ChangeSpec := { name := "filterLong", fn := fun _ => fun
  | [d1, d2] => { results := [.lit (.bool true)], args := [d1, d2] }
  | _ => none }
def filterLongRow : OpenClaim := { program := "ytcgffokejpgbdaadoor", sum := "d0e1eb4e2f956d0139442f54c283e6ce892137cd80485f5c372bfa3181b914a3", func := "plimsoll/plimsolllaw13.FilterLong", spec := "filterLong", inPlace := ["internal/bytealg.IndexByteString", "internal/bytealg.IndexString", "sync/atomic.LoadUint32", "(*internal/sync.Mutex).Lock", "internal/race.Disable", "sync/atomic.CompareAndSwapInt32", "internal/race.Enable", "internal/race.Acquire", "(*internal/sync.Mutex).lockSlow", "internal/sync.runtime_canSpin", "internal/sync.runtime_doSpin", "internal/sync.throw", "internal/sync.runtime_nanotime", "internal/sync.runtime_SemacquireMutex", "sync/atomic.AddInt32", "(*internal/sync.Mutex).Unlock", "internal/race.ReleaseMerge", "(*internal/sync.Mutex).unlockSlow", "internal/sync.fatal", "internal/sync.runtime_Semrelease", "sync/atomic.StoreUint32", "internal/reflectlite.TypeOf"], unfollowed := true, recurses := true, named := ["plimsoll/filter.errFilter", "internal/bytealg.MaxLen"], apart := false, laid := [("plimsoll/filter.errFilter", laid_plimsoll_filter_errFilter)] }
def FilterLongSaid : Prop := filterLongRow.holds Tryd.pinned (OpenSpec.ofChange filterLongSpec)

/-- ITS FALSE NEIGHBOUR: 'it returns false'. Refute it at one input. -/
def filterLongWrong : ChangeSpec := { name := "filterLong", fn := fun _ => fun
  | [d1, d2] => { results := [.lit (.bool false)], args := [d1, d2] }
  | _ => none }
def FilterLongWrongFalsely : Prop := filterLongRow.holds Tryd.pinned (OpenSpec.ofChange filterLongWrong)

/- THE SECOND FORM. 'bulk': how many values and letters a reading holds, each counted each time it is reached (what is shared counts as often as it is met; a slice's spare places count too). A statement '..UptoSaid' is the law's where the arguments, and the package variables that the reading takes, are together of bulk at most 1048576: NARROWER than '..Said'. Prove '..Said' where nothing that the law and all that it calls make is longer than what came in: it says more and counts as full. Else prove '..UptoSaid'. A law counts once. -/
mutual
def uptoBulk {H : Type} : DataW H → Nat
  | .lit (.string bytes) => bytes.length + 1
  | .lit _ => 1
  | .nil => 1
  | .ptr d => uptoBulk d + 1
  | .slice elems spare => uptoBulkAll elems + uptoBulkAll spare + 1
  | .agg parts => uptoBulkAll parts + 1
  | .iface _ d => uptoBulk d + 1
  | .map entries => uptoBulkEntries entries + 1
  | .held _ => 1
def uptoBulkAll {H : Type} : List (DataW H) → Nat
  | [] => 0
  | d :: r => uptoBulk d + uptoBulkAll r
def uptoBulkEntries {H : Type} : List (Lit × DataW H) → Nat
  | [] => 0
  | x :: r => uptoBulkEntry x + uptoBulkEntries r
def uptoBulkEntry {H : Type} : Lit × DataW H → Nat
  | (.string bytes, d) => bytes.length + uptoBulk d + 1
  | (_, d) => uptoBulk d + 1
 end
def uptoSmall : (H : Type) → List (DataW H) → Bool := fun _ ds => decide (uptoBulkAll ds ≤ 1048576)
def OpenSpec.upto (s : _root_.Go.ChangeSpec) : _root_.Go.OpenSpec := { _root_.Go.OpenSpec.ofChange s with cond := some uptoSmall }

/-- 'plimsolllaw13.FilterTells', WHERE WHAT IT READS IS OF BULK AT MOST 1048576: true; the input reads as it did. -/
def filterTellsUptoRow : OpenClaim := { program := "ytcgffokejpgbdaadoor", sum := "d0e1eb4e2f956d0139442f54c283e6ce892137cd80485f5c372bfa3181b914a3", func := "plimsoll/plimsolllaw13.FilterTells", spec := "filterTells", inPlace := ["internal/bytealg.IndexByteString", "internal/bytealg.IndexString", "sync/atomic.LoadUint32", "(*internal/sync.Mutex).Lock", "internal/race.Disable", "sync/atomic.CompareAndSwapInt32", "internal/race.Enable", "internal/race.Acquire", "(*internal/sync.Mutex).lockSlow", "internal/sync.runtime_canSpin", "internal/sync.runtime_doSpin", "internal/sync.throw", "internal/sync.runtime_nanotime", "internal/sync.runtime_SemacquireMutex", "sync/atomic.AddInt32", "(*internal/sync.Mutex).Unlock", "internal/race.ReleaseMerge", "(*internal/sync.Mutex).unlockSlow", "internal/sync.fatal", "internal/sync.runtime_Semrelease", "sync/atomic.StoreUint32", "internal/reflectlite.TypeOf"], unfollowed := true, recurses := true, named := ["plimsoll/filter.errFilter", "internal/bytealg.MaxLen"], apart := false, laid := [("plimsoll/filter.errFilter", laid_plimsoll_filter_errFilter)], narrowed := true }
def FilterTellsUptoSaid : Prop := filterTellsUptoRow.holds Tryd.pinned (OpenSpec.upto filterTellsSpec)

/-- 'plimsolllaw13.FilterPrints', WHERE WHAT IT READS IS OF BULK AT MOST 1048576: true; the input reads as it did. -/
def filterPrintsUptoRow : OpenClaim := { program := "ytcgffokejpgbdaadoor", sum := "d0e1eb4e2f956d0139442f54c283e6ce892137cd80485f5c372bfa3181b914a3", func := "plimsoll/plimsolllaw13.FilterPrints", spec := "filterPrints", inPlace := ["internal/bytealg.IndexByteString", "internal/bytealg.IndexString", "sync/atomic.LoadUint32", "(*internal/sync.Mutex).Lock", "internal/race.Disable", "sync/atomic.CompareAndSwapInt32", "internal/race.Enable", "internal/race.Acquire", "(*internal/sync.Mutex).lockSlow", "internal/sync.runtime_canSpin", "internal/sync.runtime_doSpin", "internal/sync.throw", "internal/sync.runtime_nanotime", "internal/sync.runtime_SemacquireMutex", "sync/atomic.AddInt32", "(*internal/sync.Mutex).Unlock", "internal/race.ReleaseMerge", "(*internal/sync.Mutex).unlockSlow", "internal/sync.fatal", "internal/sync.runtime_Semrelease", "sync/atomic.StoreUint32", "internal/reflectlite.TypeOf"], unfollowed := true, recurses := true, named := ["plimsoll/filter.errFilter", "internal/bytealg.MaxLen"], apart := false, laid := [("plimsoll/filter.errFilter", laid_plimsoll_filter_errFilter)], narrowed := true }
def FilterPrintsUptoSaid : Prop := filterPrintsUptoRow.holds Tryd.pinned (OpenSpec.upto filterPrintsSpec)

/-- 'plimsolllaw13.FilterBack', WHERE WHAT IT READS IS OF BULK AT MOST 1048576: true; the input reads as it did. -/
def filterBackUptoRow : OpenClaim := { program := "ytcgffokejpgbdaadoor", sum := "d0e1eb4e2f956d0139442f54c283e6ce892137cd80485f5c372bfa3181b914a3", func := "plimsoll/plimsolllaw13.FilterBack", spec := "filterBack", inPlace := ["internal/bytealg.IndexByteString", "internal/bytealg.IndexString", "sync/atomic.LoadUint32", "(*internal/sync.Mutex).Lock", "internal/race.Disable", "sync/atomic.CompareAndSwapInt32", "internal/race.Enable", "internal/race.Acquire", "(*internal/sync.Mutex).lockSlow", "internal/sync.runtime_canSpin", "internal/sync.runtime_doSpin", "internal/sync.throw", "internal/sync.runtime_nanotime", "internal/sync.runtime_SemacquireMutex", "sync/atomic.AddInt32", "(*internal/sync.Mutex).Unlock", "internal/race.ReleaseMerge", "(*internal/sync.Mutex).unlockSlow", "internal/sync.fatal", "internal/sync.runtime_Semrelease", "sync/atomic.StoreUint32", "internal/reflectlite.TypeOf"], unfollowed := true, recurses := true, named := ["plimsoll/filter.errFilter", "internal/bytealg.MaxLen"], apart := false, laid := [("plimsoll/filter.errFilter", laid_plimsoll_filter_errFilter)], narrowed := true }
def FilterBackUptoSaid : Prop := filterBackUptoRow.holds Tryd.pinned (OpenSpec.upto filterBackSpec)

/-- 'plimsolllaw13.FilterWider', WHERE WHAT IT READS IS OF BULK AT MOST 1048576: true; the input reads as it did. -/
def filterWiderUptoRow : OpenClaim := { program := "ytcgffokejpgbdaadoor", sum := "d0e1eb4e2f956d0139442f54c283e6ce892137cd80485f5c372bfa3181b914a3", func := "plimsoll/plimsolllaw13.FilterWider", spec := "filterWider", inPlace := ["internal/bytealg.IndexByteString", "internal/bytealg.IndexString", "sync/atomic.LoadUint32", "(*internal/sync.Mutex).Lock", "internal/race.Disable", "sync/atomic.CompareAndSwapInt32", "internal/race.Enable", "internal/race.Acquire", "(*internal/sync.Mutex).lockSlow", "internal/sync.runtime_canSpin", "internal/sync.runtime_doSpin", "internal/sync.throw", "internal/sync.runtime_nanotime", "internal/sync.runtime_SemacquireMutex", "sync/atomic.AddInt32", "(*internal/sync.Mutex).Unlock", "internal/race.ReleaseMerge", "(*internal/sync.Mutex).unlockSlow", "internal/sync.fatal", "internal/sync.runtime_Semrelease", "sync/atomic.StoreUint32", "internal/reflectlite.TypeOf"], unfollowed := true, recurses := true, named := ["plimsoll/filter.errFilter", "internal/bytealg.MaxLen"], apart := false, laid := [("plimsoll/filter.errFilter", laid_plimsoll_filter_errFilter)], narrowed := true }
def FilterWiderUptoSaid : Prop := filterWiderUptoRow.holds Tryd.pinned (OpenSpec.upto filterWiderSpec)

/-- 'plimsolllaw13.FilterPlaces', WHERE WHAT IT READS IS OF BULK AT MOST 1048576: true; the input reads as it did. -/
def filterPlacesUptoRow : OpenClaim := { program := "ytcgffokejpgbdaadoor", sum := "d0e1eb4e2f956d0139442f54c283e6ce892137cd80485f5c372bfa3181b914a3", func := "plimsoll/plimsolllaw13.FilterPlaces", spec := "filterPlaces", inPlace := ["internal/bytealg.IndexByteString", "internal/bytealg.IndexString", "sync/atomic.LoadUint32", "(*internal/sync.Mutex).Lock", "internal/race.Disable", "sync/atomic.CompareAndSwapInt32", "internal/race.Enable", "internal/race.Acquire", "(*internal/sync.Mutex).lockSlow", "internal/sync.runtime_canSpin", "internal/sync.runtime_doSpin", "internal/sync.throw", "internal/sync.runtime_nanotime", "internal/sync.runtime_SemacquireMutex", "sync/atomic.AddInt32", "(*internal/sync.Mutex).Unlock", "internal/race.ReleaseMerge", "(*internal/sync.Mutex).unlockSlow", "internal/sync.fatal", "internal/sync.runtime_Semrelease", "sync/atomic.StoreUint32", "internal/reflectlite.TypeOf"], unfollowed := true, recurses := true, named := ["plimsoll/filter.errFilter", "internal/bytealg.MaxLen"], apart := false, laid := [("plimsoll/filter.errFilter", laid_plimsoll_filter_errFilter)], narrowed := true }
def FilterPlacesUptoSaid : Prop := filterPlacesUptoRow.holds Tryd.pinned (OpenSpec.upto filterPlacesSpec)

/-- 'plimsolllaw13.FilterRecords', WHERE WHAT IT READS IS OF BULK AT MOST 1048576: true; the input reads as it did. -/
def filterRecordsUptoRow : OpenClaim := { program := "ytcgffokejpgbdaadoor", sum := "d0e1eb4e2f956d0139442f54c283e6ce892137cd80485f5c372bfa3181b914a3", func := "plimsoll/plimsolllaw13.FilterRecords", spec := "filterRecords", inPlace := ["internal/bytealg.IndexByteString", "internal/bytealg.IndexString", "sync/atomic.LoadUint32", "(*internal/sync.Mutex).Lock", "internal/race.Disable", "sync/atomic.CompareAndSwapInt32", "internal/race.Enable", "internal/race.Acquire", "(*internal/sync.Mutex).lockSlow", "internal/sync.runtime_canSpin", "internal/sync.runtime_doSpin", "internal/sync.throw", "internal/sync.runtime_nanotime", "internal/sync.runtime_SemacquireMutex", "sync/atomic.AddInt32", "(*internal/sync.Mutex).Unlock", "internal/race.ReleaseMerge", "(*internal/sync.Mutex).unlockSlow", "internal/sync.fatal", "internal/sync.runtime_Semrelease", "sync/atomic.StoreUint32", "internal/reflectlite.TypeOf"], unfollowed := true, recurses := true, named := ["plimsoll/filter.errFilter", "internal/bytealg.MaxLen"], apart := false, laid := [("plimsoll/filter.errFilter", laid_plimsoll_filter_errFilter)], narrowed := true }
def FilterRecordsUptoSaid : Prop := filterRecordsUptoRow.holds Tryd.pinned (OpenSpec.upto filterRecordsSpec)

/-- 'plimsolllaw13.FilterJoins', WHERE WHAT IT READS IS OF BULK AT MOST 1048576: true; the input reads as it did. -/
def filterJoinsUptoRow : OpenClaim := { program := "ytcgffokejpgbdaadoor", sum := "d0e1eb4e2f956d0139442f54c283e6ce892137cd80485f5c372bfa3181b914a3", func := "plimsoll/plimsolllaw13.FilterJoins", spec := "filterJoins", inPlace := ["internal/bytealg.IndexByteString", "internal/bytealg.IndexString", "sync/atomic.LoadUint32", "(*internal/sync.Mutex).Lock", "internal/race.Disable", "sync/atomic.CompareAndSwapInt32", "internal/race.Enable", "internal/race.Acquire", "(*internal/sync.Mutex).lockSlow", "internal/sync.runtime_canSpin", "internal/sync.runtime_doSpin", "internal/sync.throw", "internal/sync.runtime_nanotime", "internal/sync.runtime_SemacquireMutex", "sync/atomic.AddInt32", "(*internal/sync.Mutex).Unlock", "internal/race.ReleaseMerge", "(*internal/sync.Mutex).unlockSlow", "internal/sync.fatal", "internal/sync.runtime_Semrelease", "sync/atomic.StoreUint32", "internal/reflectlite.TypeOf"], unfollowed := true, recurses := true, named := ["plimsoll/filter.errFilter", "internal/bytealg.MaxLen"], apart := false, laid := [("plimsoll/filter.errFilter", laid_plimsoll_filter_errFilter)], narrowed := true }
def FilterJoinsUptoSaid : Prop := filterJoinsUptoRow.holds Tryd.pinned (OpenSpec.upto filterJoinsSpec)

/-- 'plimsolllaw13.FilterLong', WHERE WHAT IT READS IS OF BULK AT MOST 1048576: true; the input reads as it did. -/
def filterLongUptoRow : OpenClaim := { program := "ytcgffokejpgbdaadoor", sum := "d0e1eb4e2f956d0139442f54c283e6ce892137cd80485f5c372bfa3181b914a3", func := "plimsoll/plimsolllaw13.FilterLong", spec := "filterLong", inPlace := ["internal/bytealg.IndexByteString", "internal/bytealg.IndexString", "sync/atomic.LoadUint32", "(*internal/sync.Mutex).Lock", "internal/race.Disable", "sync/atomic.CompareAndSwapInt32", "internal/race.Enable", "internal/race.Acquire", "(*internal/sync.Mutex).lockSlow", "internal/sync.runtime_canSpin", "internal/sync.runtime_doSpin", "internal/sync.throw", "internal/sync.runtime_nanotime", "internal/sync.runtime_SemacquireMutex", "sync/atomic.AddInt32", "(*internal/sync.Mutex).Unlock", "internal/race.ReleaseMerge", "(*internal/sync.Mutex).unlockSlow", "internal/sync.fatal", "internal/sync.runtime_Semrelease", "sync/atomic.StoreUint32", "internal/reflectlite.TypeOf"], unfollowed := true, recurses := true, named := ["plimsoll/filter.errFilter", "internal/bytealg.MaxLen"], apart := false, laid := [("plimsoll/filter.errFilter", laid_plimsoll_filter_errFilter)], narrowed := true }
def FilterLongUptoSaid : Prop := filterLongUptoRow.holds Tryd.pinned (OpenSpec.upto filterLongSpec)

end Rows
end Go.Proofs.YtcgffokejpgbdaaDoor
