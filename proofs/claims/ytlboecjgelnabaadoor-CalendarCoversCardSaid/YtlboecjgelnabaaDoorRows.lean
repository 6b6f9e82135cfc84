/-
  NARROWER THAN 'FOR EVERY INPUT', by the rows' own cells (each row's printed sentence says how): CalendarJoins: laid · CalendarZones: laid · CalendarDeals: laid · CalendarParts: laid · CalendarCovers: laid · CalendarTiles: laid.
  DERIVED. THE GIVEN ROWS OF THIS SEAT. 6 by the template 'for every input the law returns true; each argument reads behind the call as it read before'; 0 by the template 'total and deterministic' (their statements: YtlboecjgelnabaaDoorTotals.lean).
  GIVEN WITH THE SEED: the statements are not yours to turn. If you find one false, say at which input.
  Laid BY PROGRAM, IN A SANDBOX (cutbox-rows.mjs): the forced cells as the released guide's own fill.sh prints them over the translation 1efafb3be98562d9… (all of the seat's roots in one cut). By AI agents, Wed Nov 11 2026. No macro, syntax, notation, axiom, sorry.
-/
import Derived.Test.YtlboecjgelnabaaDoorChecked
import GoSem.Claim
import GoSem.ClaimJoined
import GoSem.ClaimMapViews
import Derived.JoinedTies
import Derived.KernelRfl
namespace Go.Proofs.YtlboecjgelnabaaDoor
/- THE CELL 'sum', in the pinned program and in every row, IS THE sha256 OF THE DUMP (.gsa) THAT YtlboecjgelnabaaDoorProg.lean LOADS. Nothing in Lean hashes anything: it is a label: what it is worth is what the hold of that sum in a sandbox is worth. -/
noncomputable def Tryd.pinned : Pinned := { name := "ytlboecjgelnabaadoor", sum := "1efafb3be98562d97d090979f7055e128e9b072c5849875ee367320476c67657", checked := Tryd.checked }
namespace Rows
def none {H : Type} : Left H := { results := [], args := [] }

/- WHAT THE LISTED PACKAGE-LEVEL VARIABLES READ AS WHEN THE CALL BEGINS. Each datum BY PROGRAM (the guide's laid-datum.mjs) off the statement by which the dump's own 'gosem.cut.vars' lays the variable. In a bare row this is a premise. The card (YtlboecjgelnabaaDoorCards.lean) ties it to the program's text. -/
def laid_math_bits_deBruijn32tab {H : Type} : DataW H := .agg [.lit (.int .u8 0), .lit (.int .u8 1), .lit (.int .u8 28), .lit (.int .u8 2), .lit (.int .u8 29), .lit (.int .u8 14), .lit (.int .u8 24), .lit (.int .u8 3), .lit (.int .u8 30), .lit (.int .u8 22), .lit (.int .u8 20), .lit (.int .u8 15), .lit (.int .u8 25), .lit (.int .u8 17), .lit (.int .u8 4), .lit (.int .u8 8), .lit (.int .u8 31), .lit (.int .u8 27), .lit (.int .u8 13), .lit (.int .u8 23), .lit (.int .u8 21), .lit (.int .u8 19), .lit (.int .u8 16), .lit (.int .u8 7), .lit (.int .u8 26), .lit (.int .u8 12), .lit (.int .u8 18), .lit (.int .u8 6), .lit (.int .u8 11), .lit (.int .u8 5), .lit (.int .u8 10), .lit (.int .u8 9)]
def laid_math_bits_deBruijn64tab {H : Type} : DataW H := .agg [.lit (.int .u8 0), .lit (.int .u8 1), .lit (.int .u8 56), .lit (.int .u8 2), .lit (.int .u8 57), .lit (.int .u8 49), .lit (.int .u8 28), .lit (.int .u8 3), .lit (.int .u8 61), .lit (.int .u8 58), .lit (.int .u8 42), .lit (.int .u8 50), .lit (.int .u8 38), .lit (.int .u8 29), .lit (.int .u8 17), .lit (.int .u8 4), .lit (.int .u8 62), .lit (.int .u8 47), .lit (.int .u8 59), .lit (.int .u8 36), .lit (.int .u8 45), .lit (.int .u8 43), .lit (.int .u8 51), .lit (.int .u8 22), .lit (.int .u8 53), .lit (.int .u8 39), .lit (.int .u8 33), .lit (.int .u8 30), .lit (.int .u8 24), .lit (.int .u8 18), .lit (.int .u8 12), .lit (.int .u8 5), .lit (.int .u8 63), .lit (.int .u8 55), .lit (.int .u8 48), .lit (.int .u8 27), .lit (.int .u8 60), .lit (.int .u8 41), .lit (.int .u8 37), .lit (.int .u8 16), .lit (.int .u8 46), .lit (.int .u8 35), .lit (.int .u8 44), .lit (.int .u8 21), .lit (.int .u8 52), .lit (.int .u8 32), .lit (.int .u8 23), .lit (.int .u8 11), .lit (.int .u8 54), .lit (.int .u8 26), .lit (.int .u8 40), .lit (.int .u8 15), .lit (.int .u8 34), .lit (.int .u8 20), .lit (.int .u8 31), .lit (.int .u8 10), .lit (.int .u8 25), .lit (.int .u8 14), .lit (.int .u8 19), .lit (.int .u8 9), .lit (.int .u8 13), .lit (.int .u8 8), .lit (.int .u8 7), .lit (.int .u8 6)]
def laid_internal_strconv_uint64pow10 {H : Type} : DataW H := .agg [.lit (.int .u64 1), .lit (.int .u64 10), .lit (.int .u64 100), .lit (.int .u64 1000), .lit (.int .u64 10000), .lit (.int .u64 100000), .lit (.int .u64 1000000), .lit (.int .u64 10000000), .lit (.int .u64 100000000), .lit (.int .u64 1000000000), .lit (.int .u64 10000000000), .lit (.int .u64 100000000000), .lit (.int .u64 1000000000000), .lit (.int .u64 10000000000000), .lit (.int .u64 100000000000000), .lit (.int .u64 1000000000000000), .lit (.int .u64 10000000000000000), .lit (.int .u64 100000000000000000), .lit (.int .u64 1000000000000000000), .lit (.int .u64 10000000000000000000)]
def laid_turnround_calendar_lengths {H : Type} : DataW H := .agg [.lit (.int .i64 31), .lit (.int .i64 28), .lit (.int .i64 31), .lit (.int .i64 30), .lit (.int .i64 31), .lit (.int .i64 30), .lit (.int .i64 31), .lit (.int .i64 31), .lit (.int .i64 30), .lit (.int .i64 31), .lit (.int .i64 30), .lit (.int .i64 31)]

/-- 'turnroundlaw01.CalendarJoins': WHATEVER THE INPUT: true; the input reads as it did. -/
def calendarJoinsSpec : ChangeSpec := { name := "calendarJoins", fn := fun _ => fun
  | [d] => { results := [.lit (.bool true)], args := [d] }
  | _ => none }
def calendarJoinsRow : OpenClaim := { program := "ytlboecjgelnabaadoor", sum := "1efafb3be98562d97d090979f7055e128e9b072c5849875ee367320476c67657", func := "turnround/turnroundlaw01.CalendarJoins", spec := "calendarJoins", inPlace := ["internal/abi.NoEscape"], unfollowed := true, recurses := true, named := ["turnround/calendar.lengths", "internal/strconv.uint64pow10", "math/bits.deBruijn32tab", "math/bits.deBruijn64tab"], apart := false, laid := [("math/bits.deBruijn32tab", laid_math_bits_deBruijn32tab), ("math/bits.deBruijn64tab", laid_math_bits_deBruijn64tab), ("internal/strconv.uint64pow10", laid_internal_strconv_uint64pow10), ("turnround/calendar.lengths", laid_turnround_calendar_lengths)] }
def CalendarJoinsSaid : Prop := calendarJoinsRow.holds Tryd.pinned (OpenSpec.ofChange calendarJoinsSpec)

/-- ITS FALSE NEIGHBOUR: 'it returns false'. Refute it at one input. -/
def calendarJoinsWrong : ChangeSpec := { name := "calendarJoins", fn := fun _ => fun
  | [d] => { results := [.lit (.bool false)], args := [d] }
  | _ => none }
def CalendarJoinsWrongFalsely : Prop := calendarJoinsRow.holds Tryd.pinned (OpenSpec.ofChange calendarJoinsWrong)

/-- 'turnroundlaw01.CalendarZones': WHATEVER THE INPUT: true; the input reads as it did. -/
def calendarZonesSpec : ChangeSpec := { name := "calendarZones", fn := fun _ => fun
  | [d1, d2, d3] => { results := [.lit (.bool true)], args := [d1, d2, d3] }
  | _ => none }
def calendarZonesRow : OpenClaim := { program := "ytlboecjgelnabaadoor", sum := "1efafb3be98562d97d090979f7055e128e9b072c5849875ee367320476c67657", func := "turnround/turnroundlaw01.CalendarZones", spec := "calendarZones", inPlace := ["internal/abi.NoEscape"], unfollowed := true, recurses := true, named := ["turnround/calendar.lengths", "internal/strconv.uint64pow10", "math/bits.deBruijn32tab", "math/bits.deBruijn64tab"], apart := false, laid := [("math/bits.deBruijn32tab", laid_math_bits_deBruijn32tab), ("math/bits.deBruijn64tab", laid_math_bits_deBruijn64tab), ("internal/strconv.uint64pow10", laid_internal_strconv_uint64pow10), ("turnround/calendar.lengths", laid_turnround_calendar_lengths)] }
def CalendarZonesSaid : Prop := calendarZonesRow.holds Tryd.pinned (OpenSpec.ofChange calendarZonesSpec)

/-- ITS FALSE NEIGHBOUR: 'it returns false'. Refute it at one input. -/
def calendarZonesWrong : ChangeSpec := { name := "calendarZones", fn := fun _ => fun
  | [d1, d2, d3] => { results := [.lit (.bool false)], args := [d1, d2, d3] }
  | _ => none }
def CalendarZonesWrongFalsely : Prop := calendarZonesRow.holds Tryd.pinned (OpenSpec.ofChange calendarZonesWrong)

/-- 'turnroundlaw01.CalendarDeals': WHATEVER THE INPUT: true; the input reads as it did. -/
def calendarDealsSpec : ChangeSpec := { name := "calendarDeals", fn := fun _ => fun
  | [d1, d2] => { results := [.lit (.bool true)], args := [d1, d2] }
  | _ => none }
def calendarDealsRow : OpenClaim := { program := "ytlboecjgelnabaadoor", sum := "1efafb3be98562d97d090979f7055e128e9b072c5849875ee367320476c67657", func := "turnround/turnroundlaw01.CalendarDeals", spec := "calendarDeals", inPlace := ["internal/abi.NoEscape"], unfollowed := true, recurses := true, named := ["turnround/calendar.lengths", "internal/strconv.uint64pow10", "math/bits.deBruijn32tab", "math/bits.deBruijn64tab"], apart := false, laid := [("math/bits.deBruijn32tab", laid_math_bits_deBruijn32tab), ("math/bits.deBruijn64tab", laid_math_bits_deBruijn64tab), ("internal/strconv.uint64pow10", laid_internal_strconv_uint64pow10), ("turnround/calendar.lengths", laid_turnround_calendar_lengths)] }
def CalendarDealsSaid : Prop := calendarDealsRow.holds Tryd.pinned (OpenSpec.ofChange calendarDealsSpec)

/-- ITS FALSE NEIGHBOUR: 'it returns false'. Refute it at one input. -/
def calendarDealsWrong : ChangeSpec := { name := "calendarDeals", fn := fun _ => fun
  | [d1, d2] => { results := [.lit (.bool false)], args := [d1, d2] }
  | _ => none }
def CalendarDealsWrongFalsely : Prop := calendarDealsRow.holds Tryd.pinned (OpenSpec.ofChange calendarDealsWrong)

/-- 'turnroundlaw01.CalendarParts': WHATEVER THE INPUT: true; the input reads as it did. -/
def calendarPartsSpec : ChangeSpec := { name := "calendarParts", fn := fun _ => fun
  | [d1, d2, d3] => { results := [.lit (.bool true)], args := [d1, d2, d3] }
  | _ => none }
def calendarPartsRow : OpenClaim := { program := "ytlboecjgelnabaadoor", sum := "1efafb3be98562d97d090979f7055e128e9b072c5849875ee367320476c67657", func := "turnround/turnroundlaw01.CalendarParts", spec := "calendarParts", inPlace := ["internal/abi.NoEscape"], unfollowed := true, recurses := true, named := ["turnround/calendar.lengths", "internal/strconv.uint64pow10", "math/bits.deBruijn32tab", "math/bits.deBruijn64tab"], apart := false, laid := [("math/bits.deBruijn32tab", laid_math_bits_deBruijn32tab), ("math/bits.deBruijn64tab", laid_math_bits_deBruijn64tab), ("internal/strconv.uint64pow10", laid_internal_strconv_uint64pow10), ("turnround/calendar.lengths", laid_turnround_calendar_lengths)] }
def CalendarPartsSaid : Prop := calendarPartsRow.holds Tryd.pinned (OpenSpec.ofChange calendarPartsSpec)

/-- ITS FALSE NEIGHBOUR: 'it returns false'. Refute it at one input. -/
def calendarPartsWrong : ChangeSpec := { name := "calendarParts", fn := fun _ => fun
  | [d1, d2, d3] => { results := [.lit (.bool false)], args := [d1, d2, d3] }
  | _ => none }
def CalendarPartsWrongFalsely : Prop := calendarPartsRow.holds Tryd.pinned (OpenSpec.ofChange calendarPartsWrong)

/-- 'turnroundlaw01.CalendarCovers': WHATEVER THE INPUT: true; the input reads as it did. -/
def calendarCoversSpec : ChangeSpec := { name := "calendarCovers", fn := fun _ => fun
  | [d1, d2, d3] => { results := [.lit (.bool true)], args := [d1, d2, d3] }
  | _ => none }
def calendarCoversRow : OpenClaim := { program := "ytlboecjgelnabaadoor", sum := "1efafb3be98562d97d090979f7055e128e9b072c5849875ee367320476c67657", func := "turnround/turnroundlaw01.CalendarCovers", spec := "calendarCovers", inPlace := ["internal/abi.NoEscape"], unfollowed := true, recurses := true, named := ["turnround/calendar.lengths", "internal/strconv.uint64pow10", "math/bits.deBruijn32tab", "math/bits.deBruijn64tab"], apart := false, laid := [("math/bits.deBruijn32tab", laid_math_bits_deBruijn32tab), ("math/bits.deBruijn64tab", laid_math_bits_deBruijn64tab), ("internal/strconv.uint64pow10", laid_internal_strconv_uint64pow10), ("turnround/calendar.lengths", laid_turnround_calendar_lengths)] }
def CalendarCoversSaid : Prop := calendarCoversRow.holds Tryd.pinned (OpenSpec.ofChange calendarCoversSpec)

/-- ITS FALSE NEIGHBOUR: 'it returns false'. Refute it at one input. -/
def calendarCoversWrong : ChangeSpec := { name := "calendarCovers", fn := fun _ => fun
  | [d1, d2, d3] => { results := [.lit (.bool false)], args := [d1, d2, d3] }
  | _ => none }
def CalendarCoversWrongFalsely : Prop := calendarCoversRow.holds Tryd.pinned (OpenSpec.ofChange calendarCoversWrong)

/-- 'turnroundlaw01.CalendarTiles': WHATEVER THE INPUT: true; the input reads as it did. -/
def calendarTilesSpec : ChangeSpec := { name := "calendarTiles", fn := fun _ => fun
  | [d1, d2, d3] => { results := [.lit (.bool true)], args := [d1, d2, d3] }
  | _ => none }
def calendarTilesRow : OpenClaim := { program := "ytlboecjgelnabaadoor", sum := "1efafb3be98562d97d090979f7055e128e9b072c5849875ee367320476c67657", func := "turnround/turnroundlaw01.CalendarTiles", spec := "calendarTiles", inPlace := ["internal/abi.NoEscape"], unfollowed := true, recurses := true, named := ["turnround/calendar.lengths", "internal/strconv.uint64pow10", "math/bits.deBruijn32tab", "math/bits.deBruijn64tab"], apart := false, laid := [("math/bits.deBruijn32tab", laid_math_bits_deBruijn32tab), ("math/bits.deBruijn64tab", laid_math_bits_deBruijn64tab), ("internal/strconv.uint64pow10", laid_internal_strconv_uint64pow10), ("turnround/calendar.lengths", laid_turnround_calendar_lengths)] }
def CalendarTilesSaid : Prop := calendarTilesRow.holds Tryd.pinned (OpenSpec.ofChange calendarTilesSpec)

/-- ITS FALSE NEIGHBOUR: 'it returns false'. Refute it at one input. -/
def calendarTilesWrong : ChangeSpec := { name := "calendarTiles", fn := fun _ => fun
  | [d1, d2, d3] => { results := [.lit (.bool false)], args := [d1, d2, d3] }
  | _ => none }
def CalendarTilesWrongFalsely : Prop := calendarTilesRow.holds Tryd.pinned (OpenSpec.ofChange calendarTilesWrong)

/- THE SECOND FORM. 'bulk': how many values and letters a reading holds, each counted each time it is reached (what is shared counts as often as it is met; a slice's spare places count too). A statement '..UptoSaid' is the law's where the arguments, and the package variables that the reading takes, are together of bulk at most 1048576: NARROWER than '..Said'. Prove '..Said' where nothing that the law and all that it calls make is longer than what came in: it says more and counts as full. Else prove '..UptoSaid'. A law counts once. -/
mutual
def uptoBulk {H : Type} : DataW H → Nat
  | .lit (.string bytes) => bytes.length + 1
  | .lit _ => 1
  | .nil => 1
  | .ptr d => uptoBulk d + 1
  | .slice elems spare => uptoBulkAll elems + uptoBulkAll spare + 1
  | .agg parts => uptoBulkAll parts + 1
  | .iface _ d => uptoBulk d + 1
  | .map entries => uptoBulkEntries entries + 1
  | .held _ => 1
def uptoBulkAll {H : Type} : List (DataW H) → Nat
  | [] => 0
  | d :: r => uptoBulk d + uptoBulkAll r
def uptoBulkEntries {H : Type} : List (Lit × DataW H) → Nat
  | [] => 0
  | x :: r => uptoBulkEntry x + uptoBulkEntries r
def uptoBulkEntry {H : Type} : Lit × DataW H → Nat
  | (.string bytes, d) => bytes.length + uptoBulk d + 1
  | (_, d) => uptoBulk d + 1
 end
def uptoSmall : (H : Type) → List (DataW H) → Bool := fun _ ds => decide (uptoBulkAll ds ≤ 1048576)
def OpenSpec.upto (s : _root_.Go.ChangeSpec) : _root_.Go.OpenSpec := { _root_.Go.OpenSpec.ofChange s with cond := some uptoSmall }

/-- 'turnroundlaw01.CalendarJoins', WHERE WHAT IT READS IS OF BULK AT MOST 1048576: true; the input reads as it did. -/
def calendarJoinsUptoRow : OpenClaim := { program := "ytlboecjgelnabaadoor", sum := "1efafb3be98562d97d090979f7055e128e9b072c5849875ee367320476c67657", func := "turnround/turnroundlaw01.CalendarJoins", spec := "calendarJoins", inPlace := ["internal/abi.NoEscape"], unfollowed := true, recurses := true, named := ["turnround/calendar.lengths", "internal/strconv.uint64pow10", "math/bits.deBruijn32tab", "math/bits.deBruijn64tab"], apart := false, laid := [("math/bits.deBruijn32tab", laid_math_bits_deBruijn32tab), ("math/bits.deBruijn64tab", laid_math_bits_deBruijn64tab), ("internal/strconv.uint64pow10", laid_internal_strconv_uint64pow10), ("turnround/calendar.lengths", laid_turnround_calendar_lengths)], narrowed := true }
def CalendarJoinsUptoSaid : Prop := calendarJoinsUptoRow.holds Tryd.pinned (OpenSpec.upto calendarJoinsSpec)

/-- 'turnroundlaw01.CalendarZones', WHERE WHAT IT READS IS OF BULK AT MOST 1048576: true; the input reads as it did. -/
def calendarZonesUptoRow : OpenClaim := { program := "ytlboecjgelnabaadoor", sum := "1efafb3be98562d97d090979f7055e128e9b072c5849875ee367320476c67657", func := "turnround/turnroundlaw01.CalendarZones", spec := "calendarZones", inPlace := ["internal/abi.NoEscape"], unfollowed := true, recurses := true, named := ["turnround/calendar.lengths", "internal/strconv.uint64pow10", "math/bits.deBruijn32tab", "math/bits.deBruijn64tab"], apart := false, laid := [("math/bits.deBruijn32tab", laid_math_bits_deBruijn32tab), ("math/bits.deBruijn64tab", laid_math_bits_deBruijn64tab), ("internal/strconv.uint64pow10", laid_internal_strconv_uint64pow10), ("turnround/calendar.lengths", laid_turnround_calendar_lengths)], narrowed := true }
def CalendarZonesUptoSaid : Prop := calendarZonesUptoRow.holds Tryd.pinned (OpenSpec.upto calendarZonesSpec)

/-- 'turnroundlaw01.CalendarDeals', WHERE WHAT IT READS IS OF BULK AT MOST 1048576: true; the input reads as it did. -/
def calendarDealsUptoRow : OpenClaim := { program := "ytlboecjgelnabaadoor", sum := "1efafb3be98562d97d090979f7055e128e9b072c5849875ee367320476c67657", func := "turnround/turnroundlaw01.CalendarDeals", spec := "calendarDeals", inPlace := ["internal/abi.NoEscape"], unfollowed := true, recurses := true, named := ["turnround/calendar.lengths", "internal/strconv.uint64pow10", "math/bits.deBruijn32tab", "math/bits.deBruijn64tab"], apart := false, laid := [("math/bits.deBruijn32tab", laid_math_bits_deBruijn32tab), ("math/bits.deBruijn64tab", laid_math_bits_deBruijn64tab), ("internal/strconv.uint64pow10", laid_internal_strconv_uint64pow10), ("turnround/calendar.lengths", laid_turnround_calendar_lengths)], narrowed := true }
def CalendarDealsUptoSaid : Prop := calendarDealsUptoRow.holds Tryd.pinned (OpenSpec.upto calendarDealsSpec)

/-- 'turnroundlaw01.CalendarParts', WHERE WHAT IT READS IS OF BULK AT MOST 1048576: true; the input reads as it did. -/
def calendarPartsUptoRow : OpenClaim := { program := "ytlboecjgelnabaadoor", sum := "1efafb3be98562d97d090979f7055e128e9b072c5849875ee367320476c67657", func := "turnround/turnroundlaw01.CalendarParts", spec := "calendarParts", inPlace := ["internal/abi.NoEscape"], unfollowed := true, recurses := true, named := ["turnround/calendar.lengths", "internal/strconv.uint64pow10", "math/bits.deBruijn32tab", "math/bits.deBruijn64tab"], apart := false, laid := [("math/bits.deBruijn32tab", laid_math_bits_deBruijn32tab), ("math/bits.deBruijn64tab", laid_math_bits_deBruijn64tab), ("internal/strconv.uint64pow10", laid_internal_strconv_uint64pow10), ("turnround/calendar.lengths", laid_turnround_calendar_lengths)], narrowed := true }
def CalendarPartsUptoSaid : Prop := calendarPartsUptoRow.holds Tryd.pinned (OpenSpec.upto calendarPartsSpec)

/-- 'turnroundlaw01.CalendarCovers', WHERE WHAT IT READS IS OF BULK AT MOST 1048576: true; the input reads as it did. -/
def calendarCoversUptoRow : OpenClaim := { program := "ytlboecjgelnabaadoor", sum := "1efafb3be98562d97d090979f7055e128e9b072c5849875ee367320476c67657", func := "turnround/turnroundlaw01.CalendarCovers", spec := "calendarCovers", inPlace := ["internal/abi.NoEscape"], unfollowed := true, recurses := true, named := ["turnround/calendar.lengths", "internal/strconv.uint64pow10", "math/bits.deBruijn32tab", "math/bits.deBruijn64tab"], apart := false, laid := [("math/bits.deBruijn32tab", laid_math_bits_deBruijn32tab), ("math/bits.deBruijn64tab", laid_math_bits_deBruijn64tab), ("internal/strconv.uint64pow10", laid_internal_strconv_uint64pow10), ("turnround/calendar.lengths", laid_turnround_calendar_lengths)], narrowed := true }
def CalendarCoversUptoSaid : Prop := calendarCoversUptoRow.holds Tryd.pinned (OpenSpec.upto calendarCoversSpec)

/-- 'turnroundlaw01.CalendarTiles', WHERE WHAT IT READS IS OF BULK AT MOST 1048576: true; the input reads as it did. -/
def calendarTilesUptoRow : OpenClaim := { program := "ytlboecjgelnabaadoor", sum := "1efafb3be98562d97d090979f7055e128e9b072c5849875ee367320476c67657", func := "turnround/turnroundlaw01.CalendarTiles", spec := "calendarTiles", inPlace := ["internal/abi.NoEscape"], unfollowed := true, recurses := true, named := ["turnround/calendar.lengths", "internal/strconv.uint64pow10", "math/bits.deBruijn32tab", "math/bits.deBruijn64tab"], apart := false, laid := [("math/bits.deBruijn32tab", laid_math_bits_deBruijn32tab), ("math/bits.deBruijn64tab", laid_math_bits_deBruijn64tab), ("internal/strconv.uint64pow10", laid_internal_strconv_uint64pow10), ("turnround/calendar.lengths", laid_turnround_calendar_lengths)], narrowed := true }
def CalendarTilesUptoSaid : Prop := calendarTilesUptoRow.holds Tryd.pinned (OpenSpec.upto calendarTilesSpec)

end Rows
end Go.Proofs.YtlboecjgelnabaaDoor
