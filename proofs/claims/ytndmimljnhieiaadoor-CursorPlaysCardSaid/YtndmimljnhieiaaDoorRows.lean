/-
  NARROWER THAN 'FOR EVERY INPUT', by the rows' own cells (each row's printed sentence says how): TowerHeights: laid · TowerAnyway: laid · TowerNext: laid · TowerLevels: laid · TowerPlays: laid · CursorEnds: laid · CursorWhole: laid · CursorAhead: laid · CursorPlays: laid.
  DERIVED. THE GIVEN ROWS OF THIS SEAT. 9 by the template 'for every input the law returns true; each argument reads behind the call as it read before'; 0 by the template 'total and deterministic' (their statements: YtndmimljnhieiaaDoorTotals.lean).
  GIVEN WITH THE SEED: the statements are not yours to turn. If you find one false, say at which input.
  Laid BY PROGRAM, IN A SANDBOX (cutbox-rows.mjs): the forced cells as the released guide's own fill.sh prints them over the translation 2a535e747071f6e5… (all of the seat's roots in one cut). By AI agents, Wed Nov 11 2026. No macro, syntax, notation, axiom, sorry.
-/
import Derived.Test.YtndmimljnhieiaaDoorChecked
import GoSem.Claim
import GoSem.ClaimJoined
import GoSem.ClaimMapViews
import Derived.JoinedTies
import Derived.KernelRfl
namespace Go.Proofs.YtndmimljnhieiaaDoor
/- THE CELL 'sum', in the pinned program and in every row, IS THE sha256 OF THE DUMP (.gsa) THAT YtndmimljnhieiaaDoorProg.lean LOADS. Nothing in Lean hashes anything: it is a label: what it is worth is what the hold of that sum in a sandbox is worth. -/
noncomputable def Tryd.pinned : Pinned := { name := "ytndmimljnhieiaadoor", sum := "2a535e747071f6e52000315bcfc80e4542d18d7da741abd4e85be071ca794566", checked := Tryd.checked }
namespace Rows
def none {H : Type} : Left H := { results := [], args := [] }

/- WHAT THE LISTED PACKAGE-LEVEL VARIABLES READ AS WHEN THE CALL BEGINS. Each datum BY PROGRAM (the guide's laid-datum.mjs) off the statement by which the dump's own 'gosem.cut.vars' lays the variable. In a bare row this is a premise. The card (YtndmimljnhieiaaDoorCards.lean) ties it to the program's text. -/
def laid_math_bits_deBruijn64tab {H : Type} : DataW H := .agg [.lit (.int .u8 0), .lit (.int .u8 1), .lit (.int .u8 56), .lit (.int .u8 2), .lit (.int .u8 57), .lit (.int .u8 49), .lit (.int .u8 28), .lit (.int .u8 3), .lit (.int .u8 61), .lit (.int .u8 58), .lit (.int .u8 42), .lit (.int .u8 50), .lit (.int .u8 38), .lit (.int .u8 29), .lit (.int .u8 17), .lit (.int .u8 4), .lit (.int .u8 62), .lit (.int .u8 47), .lit (.int .u8 59), .lit (.int .u8 36), .lit (.int .u8 45), .lit (.int .u8 43), .lit (.int .u8 51), .lit (.int .u8 22), .lit (.int .u8 53), .lit (.int .u8 39), .lit (.int .u8 33), .lit (.int .u8 30), .lit (.int .u8 24), .lit (.int .u8 18), .lit (.int .u8 12), .lit (.int .u8 5), .lit (.int .u8 63), .lit (.int .u8 55), .lit (.int .u8 48), .lit (.int .u8 27), .lit (.int .u8 60), .lit (.int .u8 41), .lit (.int .u8 37), .lit (.int .u8 16), .lit (.int .u8 46), .lit (.int .u8 35), .lit (.int .u8 44), .lit (.int .u8 21), .lit (.int .u8 52), .lit (.int .u8 32), .lit (.int .u8 23), .lit (.int .u8 11), .lit (.int .u8 54), .lit (.int .u8 26), .lit (.int .u8 40), .lit (.int .u8 15), .lit (.int .u8 34), .lit (.int .u8 20), .lit (.int .u8 31), .lit (.int .u8 10), .lit (.int .u8 25), .lit (.int .u8 14), .lit (.int .u8 19), .lit (.int .u8 9), .lit (.int .u8 13), .lit (.int .u8 8), .lit (.int .u8 7), .lit (.int .u8 6)]

/-- 'vinculumlaw11.TowerHeights': WHATEVER THE INPUT: true; the input reads as it did. -/
def towerHeightsSpec : ChangeSpec := { name := "towerHeights", fn := fun _ => fun
  | [d1, d2, d3] => { results := [.lit (.bool true)], args := [d1, d2, d3] }
  | _ => none }
def towerHeightsRow : OpenClaim := { program := "ytndmimljnhieiaadoor", sum := "2a535e747071f6e52000315bcfc80e4542d18d7da741abd4e85be071ca794566", func := "vinculum/vinculumlaw11.TowerHeights", spec := "towerHeights", inPlace := ["sync/atomic.AddInt64", "sync/atomic.LoadUint64", "sync/atomic.CompareAndSwapUint64"], named := ["math/bits.deBruijn64tab"], apart := false, laid := [("math/bits.deBruijn64tab", laid_math_bits_deBruijn64tab)] }
def TowerHeightsSaid : Prop := towerHeightsRow.holds Tryd.pinned (OpenSpec.ofChange towerHeightsSpec)

/-- ITS FALSE NEIGHBOUR: 'it returns false'. Refute it at one input. -/
def towerHeightsWrong : ChangeSpec := { name := "towerHeights", fn := fun _ => fun
  | [d1, d2, d3] => { results := [.lit (.bool false)], args := [d1, d2, d3] }
  | _ => none }
def TowerHeightsWrongFalsely : Prop := towerHeightsRow.holds Tryd.pinned (OpenSpec.ofChange towerHeightsWrong)

/-- 'vinculumlaw11.TowerAnyway': WHATEVER THE INPUT: true; the input reads as it did. -/
def towerAnywaySpec : ChangeSpec := { name := "towerAnyway", fn := fun _ => fun
  | [d1, d2, d3, d4] => { results := [.lit (.bool true)], args := [d1, d2, d3, d4] }
  | _ => none }
def towerAnywayRow : OpenClaim := { program := "ytndmimljnhieiaadoor", sum := "2a535e747071f6e52000315bcfc80e4542d18d7da741abd4e85be071ca794566", func := "vinculum/vinculumlaw11.TowerAnyway", spec := "towerAnyway", inPlace := ["sync/atomic.AddInt64", "sync/atomic.LoadUint64", "sync/atomic.CompareAndSwapUint64"], named := ["math/bits.deBruijn64tab"], apart := false, laid := [("math/bits.deBruijn64tab", laid_math_bits_deBruijn64tab)] }
def TowerAnywaySaid : Prop := towerAnywayRow.holds Tryd.pinned (OpenSpec.ofChange towerAnywaySpec)

/-- ITS FALSE NEIGHBOUR: 'it returns false'. Refute it at one input. -/
def towerAnywayWrong : ChangeSpec := { name := "towerAnyway", fn := fun _ => fun
  | [d1, d2, d3, d4] => { results := [.lit (.bool false)], args := [d1, d2, d3, d4] }
  | _ => none }
def TowerAnywayWrongFalsely : Prop := towerAnywayRow.holds Tryd.pinned (OpenSpec.ofChange towerAnywayWrong)

/-- 'vinculumlaw11.TowerNext': WHATEVER THE INPUT: true; the input reads as it did. -/
def towerNextSpec : ChangeSpec := { name := "towerNext", fn := fun _ => fun
  | [d1, d2, d3] => { results := [.lit (.bool true)], args := [d1, d2, d3] }
  | _ => none }
def towerNextRow : OpenClaim := { program := "ytndmimljnhieiaadoor", sum := "2a535e747071f6e52000315bcfc80e4542d18d7da741abd4e85be071ca794566", func := "vinculum/vinculumlaw11.TowerNext", spec := "towerNext", inPlace := ["sync/atomic.AddInt64", "sync/atomic.LoadUint64", "sync/atomic.CompareAndSwapUint64"], named := ["math/bits.deBruijn64tab"], apart := false, laid := [("math/bits.deBruijn64tab", laid_math_bits_deBruijn64tab)] }
def TowerNextSaid : Prop := towerNextRow.holds Tryd.pinned (OpenSpec.ofChange towerNextSpec)

/-- ITS FALSE NEIGHBOUR: 'it returns false'. Refute it at one input. -/
def towerNextWrong : ChangeSpec := { name := "towerNext", fn := fun _ => fun
  | [d1, d2, d3] => { results := [.lit (.bool false)], args := [d1, d2, d3] }
  | _ => none }
def TowerNextWrongFalsely : Prop := towerNextRow.holds Tryd.pinned (OpenSpec.ofChange towerNextWrong)

/-- 'vinculumlaw11.TowerLevels': WHATEVER THE INPUT: true; the input reads as it did. -/
def towerLevelsSpec : ChangeSpec := { name := "towerLevels", fn := fun _ => fun
  | [d1, d2, d3] => { results := [.lit (.bool true)], args := [d1, d2, d3] }
  | _ => none }
def towerLevelsRow : OpenClaim := { program := "ytndmimljnhieiaadoor", sum := "2a535e747071f6e52000315bcfc80e4542d18d7da741abd4e85be071ca794566", func := "vinculum/vinculumlaw11.TowerLevels", spec := "towerLevels", inPlace := ["sync/atomic.AddInt64", "sync/atomic.LoadUint64", "sync/atomic.CompareAndSwapUint64"], named := ["math/bits.deBruijn64tab"], apart := false, laid := [("math/bits.deBruijn64tab", laid_math_bits_deBruijn64tab)] }
def TowerLevelsSaid : Prop := towerLevelsRow.holds Tryd.pinned (OpenSpec.ofChange towerLevelsSpec)

/-- ITS FALSE NEIGHBOUR: 'it returns false'. Refute it at one input. -/
def towerLevelsWrong : ChangeSpec := { name := "towerLevels", fn := fun _ => fun
  | [d1, d2, d3] => { results := [.lit (.bool false)], args := [d1, d2, d3] }
  | _ => none }
def TowerLevelsWrongFalsely : Prop := towerLevelsRow.holds Tryd.pinned (OpenSpec.ofChange towerLevelsWrong)

/-- 'vinculumlaw11.TowerPlays': WHATEVER THE INPUT: true; the input reads as it did. -/
def towerPlaysSpec : ChangeSpec := { name := "towerPlays", fn := fun _ => fun
  | [d1, d2, d3] => { results := [.lit (.bool true)], args := [d1, d2, d3] }
  | _ => none }
def towerPlaysRow : OpenClaim := { program := "ytndmimljnhieiaadoor", sum := "2a535e747071f6e52000315bcfc80e4542d18d7da741abd4e85be071ca794566", func := "vinculum/vinculumlaw11.TowerPlays", spec := "towerPlays", inPlace := ["sync/atomic.AddInt64", "sync/atomic.LoadUint64", "sync/atomic.CompareAndSwapUint64"], named := ["math/bits.deBruijn64tab"], apart := false, laid := [("math/bits.deBruijn64tab", laid_math_bits_deBruijn64tab)] }
def TowerPlaysSaid : Prop := towerPlaysRow.holds Tryd.pinned (OpenSpec.ofChange towerPlaysSpec)

/-- ITS FALSE NEIGHBOUR: 'it returns false'. Refute it at one input. -/
def towerPlaysWrong : ChangeSpec := { name := "towerPlays", fn := fun _ => fun
  | [d1, d2, d3] => { results := [.lit (.bool false)], args := [d1, d2, d3] }
  | _ => none }
def TowerPlaysWrongFalsely : Prop := towerPlaysRow.holds Tryd.pinned (OpenSpec.ofChange towerPlaysWrong)

/-- 'vinculumlaw12.CursorEnds': WHATEVER THE INPUT: true; the input reads as it did. -/
def cursorEndsSpec : ChangeSpec := { name := "cursorEnds", fn := fun _ => fun
  | [d1, d2, d3] => { results := [.lit (.bool true)], args := [d1, d2, d3] }
  | _ => none }
def cursorEndsRow : OpenClaim := { program := "ytndmimljnhieiaadoor", sum := "2a535e747071f6e52000315bcfc80e4542d18d7da741abd4e85be071ca794566", func := "vinculum/vinculumlaw12.CursorEnds", spec := "cursorEnds", inPlace := ["sync/atomic.AddInt64", "sync/atomic.LoadUint64", "sync/atomic.LoadUint32", "(*internal/sync.Mutex).Lock", "internal/race.Disable", "sync/atomic.CompareAndSwapInt32", "internal/race.Enable", "internal/race.Acquire", "(*internal/sync.Mutex).lockSlow", "internal/sync.runtime_canSpin", "internal/sync.runtime_doSpin", "internal/sync.throw", "internal/sync.runtime_nanotime", "internal/sync.runtime_SemacquireMutex", "sync/atomic.AddInt32", "(*internal/sync.Mutex).Unlock", "internal/race.ReleaseMerge", "(*internal/sync.Mutex).unlockSlow", "internal/sync.fatal", "internal/sync.runtime_Semrelease", "sync/atomic.StoreUint32", "sync/atomic.CompareAndSwapUint64"], unfollowed := true, recurses := true, named := ["math/bits.deBruijn64tab"], apart := false, laid := [("math/bits.deBruijn64tab", laid_math_bits_deBruijn64tab)] }
def CursorEndsSaid : Prop := cursorEndsRow.holds Tryd.pinned (OpenSpec.ofChange cursorEndsSpec)

/-- ITS FALSE NEIGHBOUR: 'it returns false'. Refute it at one input. -/
def cursorEndsWrong : ChangeSpec := { name := "cursorEnds", fn := fun _ => fun
  | [d1, d2, d3] => { results := [.lit (.bool false)], args := [d1, d2, d3] }
  | _ => none }
def CursorEndsWrongFalsely : Prop := cursorEndsRow.holds Tryd.pinned (OpenSpec.ofChange cursorEndsWrong)

/-- 'vinculumlaw12.CursorWhole': WHATEVER THE INPUT: true; the input reads as it did. -/
def cursorWholeSpec : ChangeSpec := { name := "cursorWhole", fn := fun _ => fun
  | [d1, d2, d3, d4] => { results := [.lit (.bool true)], args := [d1, d2, d3, d4] }
  | _ => none }
def cursorWholeRow : OpenClaim := { program := "ytndmimljnhieiaadoor", sum := "2a535e747071f6e52000315bcfc80e4542d18d7da741abd4e85be071ca794566", func := "vinculum/vinculumlaw12.CursorWhole", spec := "cursorWhole", inPlace := ["sync/atomic.AddInt64", "sync/atomic.LoadUint64", "sync/atomic.CompareAndSwapUint64", "sync/atomic.LoadUint32", "(*internal/sync.Mutex).Lock", "internal/race.Disable", "sync/atomic.CompareAndSwapInt32", "internal/race.Enable", "internal/race.Acquire", "(*internal/sync.Mutex).lockSlow", "internal/sync.runtime_canSpin", "internal/sync.runtime_doSpin", "internal/sync.throw", "internal/sync.runtime_nanotime", "internal/sync.runtime_SemacquireMutex", "sync/atomic.AddInt32", "(*internal/sync.Mutex).Unlock", "internal/race.ReleaseMerge", "(*internal/sync.Mutex).unlockSlow", "internal/sync.fatal", "internal/sync.runtime_Semrelease", "sync/atomic.StoreUint32"], unfollowed := true, recurses := true, named := ["math/bits.deBruijn64tab"], apart := false, laid := [("math/bits.deBruijn64tab", laid_math_bits_deBruijn64tab)] }
def CursorWholeSaid : Prop := cursorWholeRow.holds Tryd.pinned (OpenSpec.ofChange cursorWholeSpec)

/-- ITS FALSE NEIGHBOUR: 'it returns false'. Refute it at one input. -/
def cursorWholeWrong : ChangeSpec := { name := "cursorWhole", fn := fun _ => fun
  | [d1, d2, d3, d4] => { results := [.lit (.bool false)], args := [d1, d2, d3, d4] }
  | _ => none }
def CursorWholeWrongFalsely : Prop := cursorWholeRow.holds Tryd.pinned (OpenSpec.ofChange cursorWholeWrong)

/-- 'vinculumlaw12.CursorAhead': WHATEVER THE INPUT: true; the input reads as it did. -/
def cursorAheadSpec : ChangeSpec := { name := "cursorAhead", fn := fun _ => fun
  | [d1, d2, d3, d4] => { results := [.lit (.bool true)], args := [d1, d2, d3, d4] }
  | _ => none }
def cursorAheadRow : OpenClaim := { program := "ytndmimljnhieiaadoor", sum := "2a535e747071f6e52000315bcfc80e4542d18d7da741abd4e85be071ca794566", func := "vinculum/vinculumlaw12.CursorAhead", spec := "cursorAhead", inPlace := ["sync/atomic.AddInt64", "sync/atomic.LoadUint64", "sync/atomic.CompareAndSwapUint64", "sync/atomic.LoadUint32", "(*internal/sync.Mutex).Lock", "internal/race.Disable", "sync/atomic.CompareAndSwapInt32", "internal/race.Enable", "internal/race.Acquire", "(*internal/sync.Mutex).lockSlow", "internal/sync.runtime_canSpin", "internal/sync.runtime_doSpin", "internal/sync.throw", "internal/sync.runtime_nanotime", "internal/sync.runtime_SemacquireMutex", "sync/atomic.AddInt32", "(*internal/sync.Mutex).Unlock", "internal/race.ReleaseMerge", "(*internal/sync.Mutex).unlockSlow", "internal/sync.fatal", "internal/sync.runtime_Semrelease", "sync/atomic.StoreUint32"], unfollowed := true, recurses := true, named := ["math/bits.deBruijn64tab"], apart := false, laid := [("math/bits.deBruijn64tab", laid_math_bits_deBruijn64tab)] }
def CursorAheadSaid : Prop := cursorAheadRow.holds Tryd.pinned (OpenSpec.ofChange cursorAheadSpec)

/-- ITS FALSE NEIGHBOUR: 'it returns false'. Refute it at one input. -/
def cursorAheadWrong : ChangeSpec := { name := "cursorAhead", fn := fun _ => fun
  | [d1, d2, d3, d4] => { results := [.lit (.bool false)], args := [d1, d2, d3, d4] }
  | _ => none }
def CursorAheadWrongFalsely : Prop := cursorAheadRow.holds Tryd.pinned (OpenSpec.ofChange cursorAheadWrong)

/-- 'vinculumlaw12.CursorPlays': WHATEVER THE INPUT: true; the input reads as it did. -/
def cursorPlaysSpec : ChangeSpec := { name := "cursorPlays", fn := fun _ => fun
  | [d1, d2, d3, d4] => { results := [.lit (.bool true)], args := [d1, d2, d3, d4] }
  | _ => none }
def cursorPlaysRow : OpenClaim := { program := "ytndmimljnhieiaadoor", sum := "2a535e747071f6e52000315bcfc80e4542d18d7da741abd4e85be071ca794566", func := "vinculum/vinculumlaw12.CursorPlays", spec := "cursorPlays", inPlace := ["sync/atomic.AddInt64", "sync/atomic.LoadUint64", "sync/atomic.CompareAndSwapUint64", "sync/atomic.LoadUint32", "(*internal/sync.Mutex).Lock", "internal/race.Disable", "sync/atomic.CompareAndSwapInt32", "internal/race.Enable", "internal/race.Acquire", "(*internal/sync.Mutex).lockSlow", "internal/sync.runtime_canSpin", "internal/sync.runtime_doSpin", "internal/sync.throw", "internal/sync.runtime_nanotime", "internal/sync.runtime_SemacquireMutex", "sync/atomic.AddInt32", "(*internal/sync.Mutex).Unlock", "internal/race.ReleaseMerge", "(*internal/sync.Mutex).unlockSlow", "internal/sync.fatal", "internal/sync.runtime_Semrelease", "sync/atomic.StoreUint32"], unfollowed := true, recurses := true, named := ["math/bits.deBruijn64tab"], apart := false, laid := [("math/bits.deBruijn64tab", laid_math_bits_deBruijn64tab)] }
def CursorPlaysSaid : Prop := cursorPlaysRow.holds Tryd.pinned (OpenSpec.ofChange cursorPlaysSpec)

/-- ITS FALSE NEIGHBOUR: 'it returns false'. Refute it at one input. -/
def cursorPlaysWrong : ChangeSpec := { name := "cursorPlays", fn := fun _ => fun
  | [d1, d2, d3, d4] => { results := [.lit (.bool false)], args := [d1, d2, d3, d4] }
  | _ => none }
def CursorPlaysWrongFalsely : Prop := cursorPlaysRow.holds Tryd.pinned (OpenSpec.ofChange cursorPlaysWrong)

/- THE SECOND FORM. 'bulk': how many values and letters a reading holds, each counted each time it is reached (what is shared counts as often as it is met; a slice's spare places count too). A statement '..UptoSaid' is the law's where the arguments, and the package variables that the reading takes, are together of bulk at most 1048576: NARROWER than '..Said'. Prove '..Said' where nothing that the law and all that it calls make is longer than what came in: it says more and counts as full. Else prove '..UptoSaid'. A law counts once. -/
mutual
def uptoBulk {H : Type} : DataW H → Nat
  | .lit (.string bytes) => bytes.length + 1
  | .lit _ => 1
  | .nil => 1
  | .ptr d => uptoBulk d + 1
  | .slice elems spare => uptoBulkAll elems + uptoBulkAll spare + 1
  | .agg parts => uptoBulkAll parts + 1
  | .iface _ d => uptoBulk d + 1
  | .map entries => uptoBulkEntries entries + 1
  | .held _ => 1
def uptoBulkAll {H : Type} : List (DataW H) → Nat
  | [] => 0
  | d :: r => uptoBulk d + uptoBulkAll r
def uptoBulkEntries {H : Type} : List (Lit × DataW H) → Nat
  | [] => 0
  | x :: r => uptoBulkEntry x + uptoBulkEntries r
def uptoBulkEntry {H : Type} : Lit × DataW H → Nat
  | (.string bytes, d) => bytes.length + uptoBulk d + 1
  | (_, d) => uptoBulk d + 1
 end
def uptoSmall : (H : Type) → List (DataW H) → Bool := fun _ ds => decide (uptoBulkAll ds ≤ 1048576)
def OpenSpec.upto (s : _root_.Go.ChangeSpec) : _root_.Go.OpenSpec := { _root_.Go.OpenSpec.ofChange s with cond := some uptoSmall }

/-- 'vinculumlaw11.TowerHeights', WHERE WHAT IT READS IS OF BULK AT MOST 1048576: true; the input reads as it did. -/
def towerHeightsUptoRow : OpenClaim := { program := "ytndmimljnhieiaadoor", sum := "2a535e747071f6e52000315bcfc80e4542d18d7da741abd4e85be071ca794566", func := "vinculum/vinculumlaw11.TowerHeights", spec := "towerHeights", inPlace := ["sync/atomic.AddInt64", "sync/atomic.LoadUint64", "sync/atomic.CompareAndSwapUint64"], named := ["math/bits.deBruijn64tab"], apart := false, laid := [("math/bits.deBruijn64tab", laid_math_bits_deBruijn64tab)], narrowed := true }
def TowerHeightsUptoSaid : Prop := towerHeightsUptoRow.holds Tryd.pinned (OpenSpec.upto towerHeightsSpec)

/-- 'vinculumlaw11.TowerAnyway', WHERE WHAT IT READS IS OF BULK AT MOST 1048576: true; the input reads as it did. -/
def towerAnywayUptoRow : OpenClaim := { program := "ytndmimljnhieiaadoor", sum := "2a535e747071f6e52000315bcfc80e4542d18d7da741abd4e85be071ca794566", func := "vinculum/vinculumlaw11.TowerAnyway", spec := "towerAnyway", inPlace := ["sync/atomic.AddInt64", "sync/atomic.LoadUint64", "sync/atomic.CompareAndSwapUint64"], named := ["math/bits.deBruijn64tab"], apart := false, laid := [("math/bits.deBruijn64tab", laid_math_bits_deBruijn64tab)], narrowed := true }
def TowerAnywayUptoSaid : Prop := towerAnywayUptoRow.holds Tryd.pinned (OpenSpec.upto towerAnywaySpec)

/-- 'vinculumlaw11.TowerNext', WHERE WHAT IT READS IS OF BULK AT MOST 1048576: true; the input reads as it did. -/
def towerNextUptoRow : OpenClaim := { program := "ytndmimljnhieiaadoor", sum := "2a535e747071f6e52000315bcfc80e4542d18d7da741abd4e85be071ca794566", func := "vinculum/vinculumlaw11.TowerNext", spec := "towerNext", inPlace := ["sync/atomic.AddInt64", "sync/atomic.LoadUint64", "sync/atomic.CompareAndSwapUint64"], named := ["math/bits.deBruijn64tab"], apart := false, laid := [("math/bits.deBruijn64tab", laid_math_bits_deBruijn64tab)], narrowed := true }
def TowerNextUptoSaid : Prop := towerNextUptoRow.holds Tryd.pinned (OpenSpec.upto towerNextSpec)

/-- 'vinculumlaw11.TowerLevels', WHERE WHAT IT READS IS OF BULK AT MOST 1048576: true; the input reads as it did. -/
def towerLevelsUptoRow : OpenClaim := { program := "ytndmimljnhieiaadoor", sum := "2a535e747071f6e52000315bcfc80e4542d18d7da741abd4e85be071ca794566", func := "vinculum/vinculumlaw11.TowerLevels", spec := "towerLevels", inPlace := ["sync/atomic.AddInt64", "sync/atomic.LoadUint64", "sync/atomic.CompareAndSwapUint64"], named := ["math/bits.deBruijn64tab"], apart := false, laid := [("math/bits.deBruijn64tab", laid_math_bits_deBruijn64tab)], narrowed := true }
def TowerLevelsUptoSaid : Prop := towerLevelsUptoRow.holds Tryd.pinned (OpenSpec.upto towerLevelsSpec)

/-- 'vinculumlaw11.TowerPlays', WHERE WHAT IT READS IS OF BULK AT MOST 1048576: true; the input reads as it did. -/
def towerPlaysUptoRow : OpenClaim := { program := "ytndmimljnhieiaadoor", sum := "2a535e747071f6e52000315bcfc80e4542d18d7da741abd4e85be071ca794566", func := "vinculum/vinculumlaw11.TowerPlays", spec := "towerPlays", inPlace := ["sync/atomic.AddInt64", "sync/atomic.LoadUint64", "sync/atomic.CompareAndSwapUint64"], named := ["math/bits.deBruijn64tab"], apart := false, laid := [("math/bits.deBruijn64tab", laid_math_bits_deBruijn64tab)], narrowed := true }
def TowerPlaysUptoSaid : Prop := towerPlaysUptoRow.holds Tryd.pinned (OpenSpec.upto towerPlaysSpec)

/-- 'vinculumlaw12.CursorEnds', WHERE WHAT IT READS IS OF BULK AT MOST 1048576: true; the input reads as it did. -/
def cursorEndsUptoRow : OpenClaim := { program := "ytndmimljnhieiaadoor", sum := "2a535e747071f6e52000315bcfc80e4542d18d7da741abd4e85be071ca794566", func := "vinculum/vinculumlaw12.CursorEnds", spec := "cursorEnds", inPlace := ["sync/atomic.AddInt64", "sync/atomic.LoadUint64", "sync/atomic.LoadUint32", "(*internal/sync.Mutex).Lock", "internal/race.Disable", "sync/atomic.CompareAndSwapInt32", "internal/race.Enable", "internal/race.Acquire", "(*internal/sync.Mutex).lockSlow", "internal/sync.runtime_canSpin", "internal/sync.runtime_doSpin", "internal/sync.throw", "internal/sync.runtime_nanotime", "internal/sync.runtime_SemacquireMutex", "sync/atomic.AddInt32", "(*internal/sync.Mutex).Unlock", "internal/race.ReleaseMerge", "(*internal/sync.Mutex).unlockSlow", "internal/sync.fatal", "internal/sync.runtime_Semrelease", "sync/atomic.StoreUint32", "sync/atomic.CompareAndSwapUint64"], unfollowed := true, recurses := true, named := ["math/bits.deBruijn64tab"], apart := false, laid := [("math/bits.deBruijn64tab", laid_math_bits_deBruijn64tab)], narrowed := true }
def CursorEndsUptoSaid : Prop := cursorEndsUptoRow.holds Tryd.pinned (OpenSpec.upto cursorEndsSpec)

/-- 'vinculumlaw12.CursorWhole', WHERE WHAT IT READS IS OF BULK AT MOST 1048576: true; the input reads as it did. -/
def cursorWholeUptoRow : OpenClaim := { program := "ytndmimljnhieiaadoor", sum := "2a535e747071f6e52000315bcfc80e4542d18d7da741abd4e85be071ca794566", func := "vinculum/vinculumlaw12.CursorWhole", spec := "cursorWhole", inPlace := ["sync/atomic.AddInt64", "sync/atomic.LoadUint64", "sync/atomic.CompareAndSwapUint64", "sync/atomic.LoadUint32", "(*internal/sync.Mutex).Lock", "internal/race.Disable", "sync/atomic.CompareAndSwapInt32", "internal/race.Enable", "internal/race.Acquire", "(*internal/sync.Mutex).lockSlow", "internal/sync.runtime_canSpin", "internal/sync.runtime_doSpin", "internal/sync.throw", "internal/sync.runtime_nanotime", "internal/sync.runtime_SemacquireMutex", "sync/atomic.AddInt32", "(*internal/sync.Mutex).Unlock", "internal/race.ReleaseMerge", "(*internal/sync.Mutex).unlockSlow", "internal/sync.fatal", "internal/sync.runtime_Semrelease", "sync/atomic.StoreUint32"], unfollowed := true, recurses := true, named := ["math/bits.deBruijn64tab"], apart := false, laid := [("math/bits.deBruijn64tab", laid_math_bits_deBruijn64tab)], narrowed := true }
def CursorWholeUptoSaid : Prop := cursorWholeUptoRow.holds Tryd.pinned (OpenSpec.upto cursorWholeSpec)

/-- 'vinculumlaw12.CursorAhead', WHERE WHAT IT READS IS OF BULK AT MOST 1048576: true; the input reads as it did. -/
def cursorAheadUptoRow : OpenClaim := { program := "ytndmimljnhieiaadoor", sum := "2a535e747071f6e52000315bcfc80e4542d18d7da741abd4e85be071ca794566", func := "vinculum/vinculumlaw12.CursorAhead", spec := "cursorAhead", inPlace := ["sync/atomic.AddInt64", "sync/atomic.LoadUint64", "sync/atomic.CompareAndSwapUint64", "sync/atomic.LoadUint32", "(*internal/sync.Mutex).Lock", "internal/race.Disable", "sync/atomic.CompareAndSwapInt32", "internal/race.Enable", "internal/race.Acquire", "(*internal/sync.Mutex).lockSlow", "internal/sync.runtime_canSpin", "internal/sync.runtime_doSpin", "internal/sync.throw", "internal/sync.runtime_nanotime", "internal/sync.runtime_SemacquireMutex", "sync/atomic.AddInt32", "(*internal/sync.Mutex).Unlock", "internal/race.ReleaseMerge", "(*internal/sync.Mutex).unlockSlow", "internal/sync.fatal", "internal/sync.runtime_Semrelease", "sync/atomic.StoreUint32"], unfollowed := true, recurses := true, named := ["math/bits.deBruijn64tab"], apart := false, laid := [("math/bits.deBruijn64tab", laid_math_bits_deBruijn64tab)], narrowed := true }
def CursorAheadUptoSaid : Prop := cursorAheadUptoRow.holds Tryd.pinned (OpenSpec.upto cursorAheadSpec)

/-- 'vinculumlaw12.CursorPlays', WHERE WHAT IT READS IS OF BULK AT MOST 1048576: true; the input reads as it did. -/
def cursorPlaysUptoRow : OpenClaim := { program := "ytndmimljnhieiaadoor", sum := "2a535e747071f6e52000315bcfc80e4542d18d7da741abd4e85be071ca794566", func := "vinculum/vinculumlaw12.CursorPlays", spec := "cursorPlays", inPlace := ["sync/atomic.AddInt64", "sync/atomic.LoadUint64", "sync/atomic.CompareAndSwapUint64", "sync/atomic.LoadUint32", "(*internal/sync.Mutex).Lock", "internal/race.Disable", "sync/atomic.CompareAndSwapInt32", "internal/race.Enable", "internal/race.Acquire", "(*internal/sync.Mutex).lockSlow", "internal/sync.runtime_canSpin", "internal/sync.runtime_doSpin", "internal/sync.throw", "internal/sync.runtime_nanotime", "internal/sync.runtime_SemacquireMutex", "sync/atomic.AddInt32", "(*internal/sync.Mutex).Unlock", "internal/race.ReleaseMerge", "(*internal/sync.Mutex).unlockSlow", "internal/sync.fatal", "internal/sync.runtime_Semrelease", "sync/atomic.StoreUint32"], unfollowed := true, recurses := true, named := ["math/bits.deBruijn64tab"], apart := false, laid := [("math/bits.deBruijn64tab", laid_math_bits_deBruijn64tab)], narrowed := true }
def CursorPlaysUptoSaid : Prop := cursorPlaysUptoRow.holds Tryd.pinned (OpenSpec.upto cursorPlaysSpec)

end Rows
end Go.Proofs.YtndmimljnhieiaaDoor
