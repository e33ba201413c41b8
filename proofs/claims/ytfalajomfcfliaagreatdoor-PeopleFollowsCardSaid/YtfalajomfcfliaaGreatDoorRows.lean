/-
  NARROWER THAN 'FOR EVERY INPUT', by the rows' own cells (each row's printed sentence says how): PeopleChecks: laid · PeopleAppends: laid · PeopleValid: laid · PeopleWrites: laid · PeopleLines: laid · PeopleOrders: laid · PeopleSupersedes: laid · PeopleFollows: laid · PeopleEnds: laid · PeopleHouses: laid.
  DERIVED. THE GIVEN ROWS OF THIS SEAT. 10 by the template 'for every input the law returns true; each argument reads behind the call as it read before'; 0 by the template 'total and deterministic' (their statements: YtfalajomfcfliaaGreatDoorTotals.lean).
  GIVEN WITH THE SEED: the statements are not yours to turn. If you find one false, say at which input.
  Laid BY PROGRAM, IN A SANDBOX (cutbox-rows.mjs): the forced cells as the released guide's own fill.sh prints them over the translation 23c63b492ae8afd9… (all of the seat's roots in one cut). By AI agents, Wed Nov 11 2026. No macro, syntax, notation, axiom, sorry.
-/
import Derived.Test.YtfalajomfcfliaaGreatDoorChecked
import GoSem.Claim
import GoSem.ClaimJoined
import GoSem.ClaimMapViews
import Derived.JoinedTies
import Derived.KernelRfl
namespace Go.Proofs.YtfalajomfcfliaaGreatDoor
/- THE CELL 'sum', in the pinned program and in every row, IS THE sha256 OF THE DUMP (.gsa) THAT YtfalajomfcfliaaGreatDoorProg.lean LOADS. Nothing in Lean hashes anything: it is a label: what it is worth is what the hold of that sum in a sandbox is worth. -/
noncomputable def Tryz.pinned : Pinned := { name := "ytfalajomfcfliaagreatdoor", sum := "23c63b492ae8afd9f7d740677628cd85dc46eaa58cedc3c701021bcbbfc1f893", checked := Tryz.checked }
namespace Rows
def none {H : Type} : Left H := { results := [], args := [] }

/- WHAT THE LISTED PACKAGE-LEVEL VARIABLES READ AS WHEN THE CALL BEGINS. Each datum BY PROGRAM (the guide's laid-datum.mjs) off the statement by which the dump's own 'gosem.cut.vars' lays the variable. In a bare row this is a premise. The card (YtfalajomfcfliaaGreatDoorCards.lean) ties it to the program's text. -/
def laid_math_bits_deBruijn32tab {H : Type} : DataW H := .agg [.lit (.int .u8 0), .lit (.int .u8 1), .lit (.int .u8 28), .lit (.int .u8 2), .lit (.int .u8 29), .lit (.int .u8 14), .lit (.int .u8 24), .lit (.int .u8 3), .lit (.int .u8 30), .lit (.int .u8 22), .lit (.int .u8 20), .lit (.int .u8 15), .lit (.int .u8 25), .lit (.int .u8 17), .lit (.int .u8 4), .lit (.int .u8 8), .lit (.int .u8 31), .lit (.int .u8 27), .lit (.int .u8 13), .lit (.int .u8 23), .lit (.int .u8 21), .lit (.int .u8 19), .lit (.int .u8 16), .lit (.int .u8 7), .lit (.int .u8 26), .lit (.int .u8 12), .lit (.int .u8 18), .lit (.int .u8 6), .lit (.int .u8 11), .lit (.int .u8 5), .lit (.int .u8 10), .lit (.int .u8 9)]
def laid_math_bits_deBruijn64tab {H : Type} : DataW H := .agg [.lit (.int .u8 0), .lit (.int .u8 1), .lit (.int .u8 56), .lit (.int .u8 2), .lit (.int .u8 57), .lit (.int .u8 49), .lit (.int .u8 28), .lit (.int .u8 3), .lit (.int .u8 61), .lit (.int .u8 58), .lit (.int .u8 42), .lit (.int .u8 50), .lit (.int .u8 38), .lit (.int .u8 29), .lit (.int .u8 17), .lit (.int .u8 4), .lit (.int .u8 62), .lit (.int .u8 47), .lit (.int .u8 59), .lit (.int .u8 36), .lit (.int .u8 45), .lit (.int .u8 43), .lit (.int .u8 51), .lit (.int .u8 22), .lit (.int .u8 53), .lit (.int .u8 39), .lit (.int .u8 33), .lit (.int .u8 30), .lit (.int .u8 24), .lit (.int .u8 18), .lit (.int .u8 12), .lit (.int .u8 5), .lit (.int .u8 63), .lit (.int .u8 55), .lit (.int .u8 48), .lit (.int .u8 27), .lit (.int .u8 60), .lit (.int .u8 41), .lit (.int .u8 37), .lit (.int .u8 16), .lit (.int .u8 46), .lit (.int .u8 35), .lit (.int .u8 44), .lit (.int .u8 21), .lit (.int .u8 52), .lit (.int .u8 32), .lit (.int .u8 23), .lit (.int .u8 11), .lit (.int .u8 54), .lit (.int .u8 26), .lit (.int .u8 40), .lit (.int .u8 15), .lit (.int .u8 34), .lit (.int .u8 20), .lit (.int .u8 31), .lit (.int .u8 10), .lit (.int .u8 25), .lit (.int .u8 14), .lit (.int .u8 19), .lit (.int .u8 9), .lit (.int .u8 13), .lit (.int .u8 8), .lit (.int .u8 7), .lit (.int .u8 6)]
def laid_internal_strconv_uint64pow10 {H : Type} : DataW H := .agg [.lit (.int .u64 1), .lit (.int .u64 10), .lit (.int .u64 100), .lit (.int .u64 1000), .lit (.int .u64 10000), .lit (.int .u64 100000), .lit (.int .u64 1000000), .lit (.int .u64 10000000), .lit (.int .u64 100000000), .lit (.int .u64 1000000000), .lit (.int .u64 10000000000), .lit (.int .u64 100000000000), .lit (.int .u64 1000000000000), .lit (.int .u64 10000000000000), .lit (.int .u64 100000000000000), .lit (.int .u64 1000000000000000), .lit (.int .u64 10000000000000000), .lit (.int .u64 100000000000000000), .lit (.int .u64 1000000000000000000), .lit (.int .u64 10000000000000000000)]
def laid_strconv_ErrRange {H : Type} : DataW H := .iface "*errors.errorString" (.ptr (.agg [.lit (.string [118, 97, 108, 117, 101, 32, 111, 117, 116, 32, 111, 102, 32, 114, 97, 110, 103, 101])]))
def laid_strconv_ErrSyntax {H : Type} : DataW H := .iface "*errors.errorString" (.ptr (.agg [.lit (.string [105, 110, 118, 97, 108, 105, 100, 32, 115, 121, 110, 116, 97, 120])]))

/-- 'restantelaw03.PeopleChecks': WHATEVER THE INPUT: true; the input reads as it did. -/
def peopleChecksSpec : ChangeSpec := { name := "peopleChecks", fn := fun _ => fun
  | [d] => { results := [.lit (.bool true)], args := [d] }
  | _ => none }
def peopleChecksRow : OpenClaim := { program := "ytfalajomfcfliaagreatdoor", sum := "23c63b492ae8afd9f7d740677628cd85dc46eaa58cedc3c701021bcbbfc1f893", func := "restante/restantelaw03.PeopleChecks", spec := "peopleChecks", inPlace := ["internal/bytealg.IndexByteString", "internal/bytealg.IndexString"], unfollowed := true, recurses := true, named := ["internal/bytealg.MaxLen", "strconv.ErrSyntax", "strconv.ErrRange", "internal/strconv.uint64pow10", "math/bits.deBruijn32tab", "math/bits.deBruijn64tab"], plainKeys := false, apart := false, laid := [("math/bits.deBruijn32tab", laid_math_bits_deBruijn32tab), ("math/bits.deBruijn64tab", laid_math_bits_deBruijn64tab), ("internal/strconv.uint64pow10", laid_internal_strconv_uint64pow10), ("strconv.ErrRange", laid_strconv_ErrRange), ("strconv.ErrSyntax", laid_strconv_ErrSyntax)] }
def PeopleChecksSaid : Prop := peopleChecksRow.holds Tryz.pinned (OpenSpec.ofChange peopleChecksSpec)

/-- ITS FALSE NEIGHBOUR: 'it returns false'. Refute it at one input. -/
def peopleChecksWrong : ChangeSpec := { name := "peopleChecks", fn := fun _ => fun
  | [d] => { results := [.lit (.bool false)], args := [d] }
  | _ => none }
def PeopleChecksWrongFalsely : Prop := peopleChecksRow.holds Tryz.pinned (OpenSpec.ofChange peopleChecksWrong)

/-- 'restantelaw03.PeopleAppends': WHATEVER THE INPUT: true; the input reads as it did. -/
def peopleAppendsSpec : ChangeSpec := { name := "peopleAppends", fn := fun _ => fun
  | [d1, d2] => { results := [.lit (.bool true)], args := [d1, d2] }
  | _ => none }
def peopleAppendsRow : OpenClaim := { program := "ytfalajomfcfliaagreatdoor", sum := "23c63b492ae8afd9f7d740677628cd85dc46eaa58cedc3c701021bcbbfc1f893", func := "restante/restantelaw03.PeopleAppends", spec := "peopleAppends", inPlace := ["internal/bytealg.IndexByteString", "internal/bytealg.IndexString"], unfollowed := true, recurses := true, named := ["internal/bytealg.MaxLen", "strconv.ErrSyntax", "strconv.ErrRange", "internal/strconv.uint64pow10", "math/bits.deBruijn32tab", "math/bits.deBruijn64tab"], plainKeys := false, apart := false, laid := [("math/bits.deBruijn32tab", laid_math_bits_deBruijn32tab), ("math/bits.deBruijn64tab", laid_math_bits_deBruijn64tab), ("internal/strconv.uint64pow10", laid_internal_strconv_uint64pow10), ("strconv.ErrRange", laid_strconv_ErrRange), ("strconv.ErrSyntax", laid_strconv_ErrSyntax)] }
def PeopleAppendsSaid : Prop := peopleAppendsRow.holds Tryz.pinned (OpenSpec.ofChange peopleAppendsSpec)

/-- ITS FALSE NEIGHBOUR: 'it returns false'. Refute it at one input. -/
def peopleAppendsWrong : ChangeSpec := { name := "peopleAppends", fn := fun _ => fun
  | [d1, d2] => { results := [.lit (.bool false)], args := [d1, d2] }
  | _ => none }
def PeopleAppendsWrongFalsely : Prop := peopleAppendsRow.holds Tryz.pinned (OpenSpec.ofChange peopleAppendsWrong)

/-- 'restantelaw03.PeopleValid': WHATEVER THE INPUT: true; the input reads as it did. -/
def peopleValidSpec : ChangeSpec := { name := "peopleValid", fn := fun _ => fun
  | [d] => { results := [.lit (.bool true)], args := [d] }
  | _ => none }
def peopleValidRow : OpenClaim := { program := "ytfalajomfcfliaagreatdoor", sum := "23c63b492ae8afd9f7d740677628cd85dc46eaa58cedc3c701021bcbbfc1f893", func := "restante/restantelaw03.PeopleValid", spec := "peopleValid", inPlace := ["internal/bytealg.IndexByteString", "internal/bytealg.IndexString"], unfollowed := true, recurses := true, named := ["internal/bytealg.MaxLen", "strconv.ErrSyntax", "strconv.ErrRange", "internal/strconv.uint64pow10", "math/bits.deBruijn32tab", "math/bits.deBruijn64tab"], plainKeys := false, apart := false, laid := [("math/bits.deBruijn32tab", laid_math_bits_deBruijn32tab), ("math/bits.deBruijn64tab", laid_math_bits_deBruijn64tab), ("internal/strconv.uint64pow10", laid_internal_strconv_uint64pow10), ("strconv.ErrRange", laid_strconv_ErrRange), ("strconv.ErrSyntax", laid_strconv_ErrSyntax)] }
def PeopleValidSaid : Prop := peopleValidRow.holds Tryz.pinned (OpenSpec.ofChange peopleValidSpec)

/-- ITS FALSE NEIGHBOUR: 'it returns false'. Refute it at one input. -/
def peopleValidWrong : ChangeSpec := { name := "peopleValid", fn := fun _ => fun
  | [d] => { results := [.lit (.bool false)], args := [d] }
  | _ => none }
def PeopleValidWrongFalsely : Prop := peopleValidRow.holds Tryz.pinned (OpenSpec.ofChange peopleValidWrong)

/-- 'restantelaw03.PeopleWrites': WHATEVER THE INPUT: true; the input reads as it did. -/
def peopleWritesSpec : ChangeSpec := { name := "peopleWrites", fn := fun _ => fun
  | [d1, d2] => { results := [.lit (.bool true)], args := [d1, d2] }
  | _ => none }
def peopleWritesRow : OpenClaim := { program := "ytfalajomfcfliaagreatdoor", sum := "23c63b492ae8afd9f7d740677628cd85dc46eaa58cedc3c701021bcbbfc1f893", func := "restante/restantelaw03.PeopleWrites", spec := "peopleWrites", inPlace := ["internal/bytealg.IndexByteString", "internal/bytealg.IndexString"], unfollowed := true, recurses := true, named := ["internal/strconv.uint64pow10", "math/bits.deBruijn32tab", "math/bits.deBruijn64tab", "internal/bytealg.MaxLen", "strconv.ErrSyntax", "strconv.ErrRange"], plainKeys := false, apart := false, laid := [("math/bits.deBruijn32tab", laid_math_bits_deBruijn32tab), ("math/bits.deBruijn64tab", laid_math_bits_deBruijn64tab), ("internal/strconv.uint64pow10", laid_internal_strconv_uint64pow10), ("strconv.ErrRange", laid_strconv_ErrRange), ("strconv.ErrSyntax", laid_strconv_ErrSyntax)] }
def PeopleWritesSaid : Prop := peopleWritesRow.holds Tryz.pinned (OpenSpec.ofChange peopleWritesSpec)

/-- ITS FALSE NEIGHBOUR: 'it returns false'. Refute it at one input. -/
def peopleWritesWrong : ChangeSpec := { name := "peopleWrites", fn := fun _ => fun
  | [d1, d2] => { results := [.lit (.bool false)], args := [d1, d2] }
  | _ => none }
def PeopleWritesWrongFalsely : Prop := peopleWritesRow.holds Tryz.pinned (OpenSpec.ofChange peopleWritesWrong)

/-- 'restantelaw03.PeopleLines': WHATEVER THE INPUT: true; the input reads as it did. -/
def peopleLinesSpec : ChangeSpec := { name := "peopleLines", fn := fun _ => fun
  | [d1, d2] => { results := [.lit (.bool true)], args := [d1, d2] }
  | _ => none }
def peopleLinesRow : OpenClaim := { program := "ytfalajomfcfliaagreatdoor", sum := "23c63b492ae8afd9f7d740677628cd85dc46eaa58cedc3c701021bcbbfc1f893", func := "restante/restantelaw03.PeopleLines", spec := "peopleLines", inPlace := ["internal/bytealg.IndexByteString", "internal/bytealg.IndexString"], unfollowed := true, recurses := true, named := ["internal/strconv.uint64pow10", "math/bits.deBruijn32tab", "math/bits.deBruijn64tab", "internal/bytealg.MaxLen", "strconv.ErrSyntax", "strconv.ErrRange"], plainKeys := false, apart := false, laid := [("math/bits.deBruijn32tab", laid_math_bits_deBruijn32tab), ("math/bits.deBruijn64tab", laid_math_bits_deBruijn64tab), ("internal/strconv.uint64pow10", laid_internal_strconv_uint64pow10), ("strconv.ErrRange", laid_strconv_ErrRange), ("strconv.ErrSyntax", laid_strconv_ErrSyntax)] }
def PeopleLinesSaid : Prop := peopleLinesRow.holds Tryz.pinned (OpenSpec.ofChange peopleLinesSpec)

/-- ITS FALSE NEIGHBOUR: 'it returns false'. Refute it at one input. -/
def peopleLinesWrong : ChangeSpec := { name := "peopleLines", fn := fun _ => fun
  | [d1, d2] => { results := [.lit (.bool false)], args := [d1, d2] }
  | _ => none }
def PeopleLinesWrongFalsely : Prop := peopleLinesRow.holds Tryz.pinned (OpenSpec.ofChange peopleLinesWrong)

/-- 'restantelaw03.PeopleOrders': WHATEVER THE INPUT: true; the input reads as it did. -/
def peopleOrdersSpec : ChangeSpec := { name := "peopleOrders", fn := fun _ => fun
  | [d1, d2, d3, d4] => { results := [.lit (.bool true)], args := [d1, d2, d3, d4] }
  | _ => none }
def peopleOrdersRow : OpenClaim := { program := "ytfalajomfcfliaagreatdoor", sum := "23c63b492ae8afd9f7d740677628cd85dc46eaa58cedc3c701021bcbbfc1f893", func := "restante/restantelaw03.PeopleOrders", spec := "peopleOrders", inPlace := ["internal/bytealg.IndexByteString", "internal/bytealg.IndexString"], unfollowed := true, recurses := true, named := ["internal/bytealg.MaxLen", "strconv.ErrSyntax", "strconv.ErrRange", "internal/strconv.uint64pow10", "math/bits.deBruijn32tab", "math/bits.deBruijn64tab"], plainKeys := false, apart := false, laid := [("math/bits.deBruijn32tab", laid_math_bits_deBruijn32tab), ("math/bits.deBruijn64tab", laid_math_bits_deBruijn64tab), ("internal/strconv.uint64pow10", laid_internal_strconv_uint64pow10), ("strconv.ErrRange", laid_strconv_ErrRange), ("strconv.ErrSyntax", laid_strconv_ErrSyntax)] }
def PeopleOrdersSaid : Prop := peopleOrdersRow.holds Tryz.pinned (OpenSpec.ofChange peopleOrdersSpec)

/-- ITS FALSE NEIGHBOUR: 'it returns false'. Refute it at one input. -/
def peopleOrdersWrong : ChangeSpec := { name := "peopleOrders", fn := fun _ => fun
  | [d1, d2, d3, d4] => { results := [.lit (.bool false)], args := [d1, d2, d3, d4] }
  | _ => none }
def PeopleOrdersWrongFalsely : Prop := peopleOrdersRow.holds Tryz.pinned (OpenSpec.ofChange peopleOrdersWrong)

/-- 'restantelaw03.PeopleSupersedes': WHATEVER THE INPUT: true; the input reads as it did. -/
def peopleSupersedesSpec : ChangeSpec := { name := "peopleSupersedes", fn := fun _ => fun
  | [d1, d2, d3] => { results := [.lit (.bool true)], args := [d1, d2, d3] }
  | _ => none }
def peopleSupersedesRow : OpenClaim := { program := "ytfalajomfcfliaagreatdoor", sum := "23c63b492ae8afd9f7d740677628cd85dc46eaa58cedc3c701021bcbbfc1f893", func := "restante/restantelaw03.PeopleSupersedes", spec := "peopleSupersedes", inPlace := ["internal/bytealg.IndexByteString", "internal/bytealg.IndexString"], unfollowed := true, recurses := true, named := ["internal/bytealg.MaxLen", "strconv.ErrSyntax", "strconv.ErrRange", "internal/strconv.uint64pow10", "math/bits.deBruijn32tab", "math/bits.deBruijn64tab"], plainKeys := false, apart := false, laid := [("math/bits.deBruijn32tab", laid_math_bits_deBruijn32tab), ("math/bits.deBruijn64tab", laid_math_bits_deBruijn64tab), ("internal/strconv.uint64pow10", laid_internal_strconv_uint64pow10), ("strconv.ErrRange", laid_strconv_ErrRange), ("strconv.ErrSyntax", laid_strconv_ErrSyntax)] }
def PeopleSupersedesSaid : Prop := peopleSupersedesRow.holds Tryz.pinned (OpenSpec.ofChange peopleSupersedesSpec)

/-- ITS FALSE NEIGHBOUR: 'it returns false'. Refute it at one input. -/
def peopleSupersedesWrong : ChangeSpec := { name := "peopleSupersedes", fn := fun _ => fun
  | [d1, d2, d3] => { results := [.lit (.bool false)], args := [d1, d2, d3] }
  | _ => none }
def PeopleSupersedesWrongFalsely : Prop := peopleSupersedesRow.holds Tryz.pinned (OpenSpec.ofChange peopleSupersedesWrong)

/-- 'restantelaw03.PeopleFollows': WHATEVER THE INPUT: true; the input reads as it did. -/
def peopleFollowsSpec : ChangeSpec := { name := "peopleFollows", fn := fun _ => fun
  | [d1, d2, d3, d4] => { results := [.lit (.bool true)], args := [d1, d2, d3, d4] }
  | _ => none }
def peopleFollowsRow : OpenClaim := { program := "ytfalajomfcfliaagreatdoor", sum := "23c63b492ae8afd9f7d740677628cd85dc46eaa58cedc3c701021bcbbfc1f893", func := "restante/restantelaw03.PeopleFollows", spec := "peopleFollows", inPlace := ["internal/bytealg.IndexByteString", "internal/bytealg.IndexString"], unfollowed := true, recurses := true, named := ["internal/bytealg.MaxLen", "strconv.ErrSyntax", "strconv.ErrRange", "internal/strconv.uint64pow10", "math/bits.deBruijn32tab", "math/bits.deBruijn64tab"], plainKeys := false, apart := false, laid := [("math/bits.deBruijn32tab", laid_math_bits_deBruijn32tab), ("math/bits.deBruijn64tab", laid_math_bits_deBruijn64tab), ("internal/strconv.uint64pow10", laid_internal_strconv_uint64pow10), ("strconv.ErrRange", laid_strconv_ErrRange), ("strconv.ErrSyntax", laid_strconv_ErrSyntax)] }
def PeopleFollowsSaid : Prop := peopleFollowsRow.holds Tryz.pinned (OpenSpec.ofChange peopleFollowsSpec)

/-- ITS FALSE NEIGHBOUR: 'it returns false'. Refute it at one input. -/
def peopleFollowsWrong : ChangeSpec := { name := "peopleFollows", fn := fun _ => fun
  | [d1, d2, d3, d4] => { results := [.lit (.bool false)], args := [d1, d2, d3, d4] }
  | _ => none }
def PeopleFollowsWrongFalsely : Prop := peopleFollowsRow.holds Tryz.pinned (OpenSpec.ofChange peopleFollowsWrong)

/-- 'restantelaw03.PeopleEnds': WHATEVER THE INPUT: true; the input reads as it did. -/
def peopleEndsSpec : ChangeSpec := { name := "peopleEnds", fn := fun _ => fun
  | [d1, d2, d3, d4] => { results := [.lit (.bool true)], args := [d1, d2, d3, d4] }
  | _ => none }
def peopleEndsRow : OpenClaim := { program := "ytfalajomfcfliaagreatdoor", sum := "23c63b492ae8afd9f7d740677628cd85dc46eaa58cedc3c701021bcbbfc1f893", func := "restante/restantelaw03.PeopleEnds", spec := "peopleEnds", inPlace := ["internal/bytealg.IndexByteString", "internal/bytealg.IndexString"], unfollowed := true, recurses := true, named := ["internal/bytealg.MaxLen", "strconv.ErrSyntax", "strconv.ErrRange", "internal/strconv.uint64pow10", "math/bits.deBruijn32tab", "math/bits.deBruijn64tab"], plainKeys := false, apart := false, laid := [("math/bits.deBruijn32tab", laid_math_bits_deBruijn32tab), ("math/bits.deBruijn64tab", laid_math_bits_deBruijn64tab), ("internal/strconv.uint64pow10", laid_internal_strconv_uint64pow10), ("strconv.ErrRange", laid_strconv_ErrRange), ("strconv.ErrSyntax", laid_strconv_ErrSyntax)] }
def PeopleEndsSaid : Prop := peopleEndsRow.holds Tryz.pinned (OpenSpec.ofChange peopleEndsSpec)

/-- ITS FALSE NEIGHBOUR: 'it returns false'. Refute it at one input. -/
def peopleEndsWrong : ChangeSpec := { name := "peopleEnds", fn := fun _ => fun
  | [d1, d2, d3, d4] => { results := [.lit (.bool false)], args := [d1, d2, d3, d4] }
  | _ => none }
def PeopleEndsWrongFalsely : Prop := peopleEndsRow.holds Tryz.pinned (OpenSpec.ofChange peopleEndsWrong)

/-- 'restantelaw03.PeopleHouses': WHATEVER THE INPUT: true; the input reads as it did. -/
def peopleHousesSpec : ChangeSpec := { name := "peopleHouses", fn := fun _ => fun
  | [d1, d2, d3, d4] => { results := [.lit (.bool true)], args := [d1, d2, d3, d4] }
  | _ => none }
def peopleHousesRow : OpenClaim := { program := "ytfalajomfcfliaagreatdoor", sum := "23c63b492ae8afd9f7d740677628cd85dc46eaa58cedc3c701021bcbbfc1f893", func := "restante/restantelaw03.PeopleHouses", spec := "peopleHouses", inPlace := ["internal/bytealg.IndexByteString", "internal/bytealg.IndexString"], unfollowed := true, recurses := true, named := ["internal/bytealg.MaxLen", "strconv.ErrSyntax", "strconv.ErrRange", "internal/strconv.uint64pow10", "math/bits.deBruijn32tab", "math/bits.deBruijn64tab"], plainKeys := false, apart := false, laid := [("math/bits.deBruijn32tab", laid_math_bits_deBruijn32tab), ("math/bits.deBruijn64tab", laid_math_bits_deBruijn64tab), ("internal/strconv.uint64pow10", laid_internal_strconv_uint64pow10), ("strconv.ErrRange", laid_strconv_ErrRange), ("strconv.ErrSyntax", laid_strconv_ErrSyntax)] }
def PeopleHousesSaid : Prop := peopleHousesRow.holds Tryz.pinned (OpenSpec.ofChange peopleHousesSpec)

/-- ITS FALSE NEIGHBOUR: 'it returns false'. Refute it at one input. -/
def peopleHousesWrong : ChangeSpec := { name := "peopleHouses", fn := fun _ => fun
  | [d1, d2, d3, d4] => { results := [.lit (.bool false)], args := [d1, d2, d3, d4] }
  | _ => none }
def PeopleHousesWrongFalsely : Prop := peopleHousesRow.holds Tryz.pinned (OpenSpec.ofChange peopleHousesWrong)

/- THE SECOND FORM. 'bulk': how many values and letters a reading holds, each counted each time it is reached (what is shared counts as often as it is met; a slice's spare places count too). A statement '..UptoSaid' is the law's where the arguments, and the package variables that the reading takes, are together of bulk at most 1048576: NARROWER than '..Said'. Prove '..Said' where nothing that the law and all that it calls make is longer than what came in: it says more and counts as full. Else prove '..UptoSaid'. A law counts once. -/
mutual
def uptoBulk {H : Type} : DataW H → Nat
  | .lit (.string bytes) => bytes.length + 1
  | .lit _ => 1
  | .nil => 1
  | .ptr d => uptoBulk d + 1
  | .slice elems spare => uptoBulkAll elems + uptoBulkAll spare + 1
  | .agg parts => uptoBulkAll parts + 1
  | .iface _ d => uptoBulk d + 1
  | .map entries => uptoBulkEntries entries + 1
  | .held _ => 1
def uptoBulkAll {H : Type} : List (DataW H) → Nat
  | [] => 0
  | d :: r => uptoBulk d + uptoBulkAll r
def uptoBulkEntries {H : Type} : List (Lit × DataW H) → Nat
  | [] => 0
  | x :: r => uptoBulkEntry x + uptoBulkEntries r
def uptoBulkEntry {H : Type} : Lit × DataW H → Nat
  | (.string bytes, d) => bytes.length + uptoBulk d + 1
  | (_, d) => uptoBulk d + 1
 end
def uptoSmall : (H : Type) → List (DataW H) → Bool := fun _ ds => decide (uptoBulkAll ds ≤ 1048576)
def OpenSpec.upto (s : _root_.Go.ChangeSpec) : _root_.Go.OpenSpec := { _root_.Go.OpenSpec.ofChange s with cond := some uptoSmall }

/-- 'restantelaw03.PeopleChecks', WHERE WHAT IT READS IS OF BULK AT MOST 1048576: true; the input reads as it did. -/
def peopleChecksUptoRow : OpenClaim := { program := "ytfalajomfcfliaagreatdoor", sum := "23c63b492ae8afd9f7d740677628cd85dc46eaa58cedc3c701021bcbbfc1f893", func := "restante/restantelaw03.PeopleChecks", spec := "peopleChecks", inPlace := ["internal/bytealg.IndexByteString", "internal/bytealg.IndexString"], unfollowed := true, recurses := true, named := ["internal/bytealg.MaxLen", "strconv.ErrSyntax", "strconv.ErrRange", "internal/strconv.uint64pow10", "math/bits.deBruijn32tab", "math/bits.deBruijn64tab"], plainKeys := false, apart := false, laid := [("math/bits.deBruijn32tab", laid_math_bits_deBruijn32tab), ("math/bits.deBruijn64tab", laid_math_bits_deBruijn64tab), ("internal/strconv.uint64pow10", laid_internal_strconv_uint64pow10), ("strconv.ErrRange", laid_strconv_ErrRange), ("strconv.ErrSyntax", laid_strconv_ErrSyntax)], narrowed := true }
def PeopleChecksUptoSaid : Prop := peopleChecksUptoRow.holds Tryz.pinned (OpenSpec.upto peopleChecksSpec)

/-- 'restantelaw03.PeopleAppends', WHERE WHAT IT READS IS OF BULK AT MOST 1048576: true; the input reads as it did. -/
def peopleAppendsUptoRow : OpenClaim := { program := "ytfalajomfcfliaagreatdoor", sum := "23c63b492ae8afd9f7d740677628cd85dc46eaa58cedc3c701021bcbbfc1f893", func := "restante/restantelaw03.PeopleAppends", spec := "peopleAppends", inPlace := ["internal/bytealg.IndexByteString", "internal/bytealg.IndexString"], unfollowed := true, recurses := true, named := ["internal/bytealg.MaxLen", "strconv.ErrSyntax", "strconv.ErrRange", "internal/strconv.uint64pow10", "math/bits.deBruijn32tab", "math/bits.deBruijn64tab"], plainKeys := false, apart := false, laid := [("math/bits.deBruijn32tab", laid_math_bits_deBruijn32tab), ("math/bits.deBruijn64tab", laid_math_bits_deBruijn64tab), ("internal/strconv.uint64pow10", laid_internal_strconv_uint64pow10), ("strconv.ErrRange", laid_strconv_ErrRange), ("strconv.ErrSyntax", laid_strconv_ErrSyntax)], narrowed := true }
def PeopleAppendsUptoSaid : Prop := peopleAppendsUptoRow.holds Tryz.pinned (OpenSpec.upto peopleAppendsSpec)

/-- 'restantelaw03.PeopleValid', WHERE WHAT IT READS IS OF BULK AT MOST 1048576: true; the input reads as it did. -/
def peopleValidUptoRow : OpenClaim := { program := "ytfalajomfcfliaagreatdoor", sum := "23c63b492ae8afd9f7d740677628cd85dc46eaa58cedc3c701021bcbbfc1f893", func := "restante/restantelaw03.PeopleValid", spec := "peopleValid", inPlace := ["internal/bytealg.IndexByteString", "internal/bytealg.IndexString"], unfollowed := true, recurses := true, named := ["internal/bytealg.MaxLen", "strconv.ErrSyntax", "strconv.ErrRange", "internal/strconv.uint64pow10", "math/bits.deBruijn32tab", "math/bits.deBruijn64tab"], plainKeys := false, apart := false, laid := [("math/bits.deBruijn32tab", laid_math_bits_deBruijn32tab), ("math/bits.deBruijn64tab", laid_math_bits_deBruijn64tab), ("internal/strconv.uint64pow10", laid_internal_strconv_uint64pow10), ("strconv.ErrRange", laid_strconv_ErrRange), ("strconv.ErrSyntax", laid_strconv_ErrSyntax)], narrowed := true }
def PeopleValidUptoSaid : Prop := peopleValidUptoRow.holds Tryz.pinned (OpenSpec.upto peopleValidSpec)

/-- 'restantelaw03.PeopleWrites', WHERE WHAT IT READS IS OF BULK AT MOST 1048576: true; the input reads as it did. -/
def peopleWritesUptoRow : OpenClaim := { program := "ytfalajomfcfliaagreatdoor", sum := "23c63b492ae8afd9f7d740677628cd85dc46eaa58cedc3c701021bcbbfc1f893", func := "restante/restantelaw03.PeopleWrites", spec := "peopleWrites", inPlace := ["internal/bytealg.IndexByteString", "internal/bytealg.IndexString"], unfollowed := true, recurses := true, named := ["internal/strconv.uint64pow10", "math/bits.deBruijn32tab", "math/bits.deBruijn64tab", "internal/bytealg.MaxLen", "strconv.ErrSyntax", "strconv.ErrRange"], plainKeys := false, apart := false, laid := [("math/bits.deBruijn32tab", laid_math_bits_deBruijn32tab), ("math/bits.deBruijn64tab", laid_math_bits_deBruijn64tab), ("internal/strconv.uint64pow10", laid_internal_strconv_uint64pow10), ("strconv.ErrRange", laid_strconv_ErrRange), ("strconv.ErrSyntax", laid_strconv_ErrSyntax)], narrowed := true }
def PeopleWritesUptoSaid : Prop := peopleWritesUptoRow.holds Tryz.pinned (OpenSpec.upto peopleWritesSpec)

/-- 'restantelaw03.PeopleLines', WHERE WHAT IT READS IS OF BULK AT MOST 1048576: true; the input reads as it did. -/
def peopleLinesUptoRow : OpenClaim := { program := "ytfalajomfcfliaagreatdoor", sum := "23c63b492ae8afd9f7d740677628cd85dc46eaa58cedc3c701021bcbbfc1f893", func := "restante/restantelaw03.PeopleLines", spec := "peopleLines", inPlace := ["internal/bytealg.IndexByteString", "internal/bytealg.IndexString"], unfollowed := true, recurses := true, named := ["internal/strconv.uint64pow10", "math/bits.deBruijn32tab", "math/bits.deBruijn64tab", "internal/bytealg.MaxLen", "strconv.ErrSyntax", "strconv.ErrRange"], plainKeys := false, apart := false, laid := [("math/bits.deBruijn32tab", laid_math_bits_deBruijn32tab), ("math/bits.deBruijn64tab", laid_math_bits_deBruijn64tab), ("internal/strconv.uint64pow10", laid_internal_strconv_uint64pow10), ("strconv.ErrRange", laid_strconv_ErrRange), ("strconv.ErrSyntax", laid_strconv_ErrSyntax)], narrowed := true }
def PeopleLinesUptoSaid : Prop := peopleLinesUptoRow.holds Tryz.pinned (OpenSpec.upto peopleLinesSpec)

/-- 'restantelaw03.PeopleOrders', WHERE WHAT IT READS IS OF BULK AT MOST 1048576: true; the input reads as it did. -/
def peopleOrdersUptoRow : OpenClaim := { program := "ytfalajomfcfliaagreatdoor", sum := "23c63b492ae8afd9f7d740677628cd85dc46eaa58cedc3c701021bcbbfc1f893", func := "restante/restantelaw03.PeopleOrders", spec := "peopleOrders", inPlace := ["internal/bytealg.IndexByteString", "internal/bytealg.IndexString"], unfollowed := true, recurses := true, named := ["internal/bytealg.MaxLen", "strconv.ErrSyntax", "strconv.ErrRange", "internal/strconv.uint64pow10", "math/bits.deBruijn32tab", "math/bits.deBruijn64tab"], plainKeys := false, apart := false, laid := [("math/bits.deBruijn32tab", laid_math_bits_deBruijn32tab), ("math/bits.deBruijn64tab", laid_math_bits_deBruijn64tab), ("internal/strconv.uint64pow10", laid_internal_strconv_uint64pow10), ("strconv.ErrRange", laid_strconv_ErrRange), ("strconv.ErrSyntax", laid_strconv_ErrSyntax)], narrowed := true }
def PeopleOrdersUptoSaid : Prop := peopleOrdersUptoRow.holds Tryz.pinned (OpenSpec.upto peopleOrdersSpec)

/-- 'restantelaw03.PeopleSupersedes', WHERE WHAT IT READS IS OF BULK AT MOST 1048576: true; the input reads as it did. -/
def peopleSupersedesUptoRow : OpenClaim := { program := "ytfalajomfcfliaagreatdoor", sum := "23c63b492ae8afd9f7d740677628cd85dc46eaa58cedc3c701021bcbbfc1f893", func := "restante/restantelaw03.PeopleSupersedes", spec := "peopleSupersedes", inPlace := ["internal/bytealg.IndexByteString", "internal/bytealg.IndexString"], unfollowed := true, recurses := true, named := ["internal/bytealg.MaxLen", "strconv.ErrSyntax", "strconv.ErrRange", "internal/strconv.uint64pow10", "math/bits.deBruijn32tab", "math/bits.deBruijn64tab"], plainKeys := false, apart := false, laid := [("math/bits.deBruijn32tab", laid_math_bits_deBruijn32tab), ("math/bits.deBruijn64tab", laid_math_bits_deBruijn64tab), ("internal/strconv.uint64pow10", laid_internal_strconv_uint64pow10), ("strconv.ErrRange", laid_strconv_ErrRange), ("strconv.ErrSyntax", laid_strconv_ErrSyntax)], narrowed := true }
def PeopleSupersedesUptoSaid : Prop := peopleSupersedesUptoRow.holds Tryz.pinned (OpenSpec.upto peopleSupersedesSpec)

/-- 'restantelaw03.PeopleFollows', WHERE WHAT IT READS IS OF BULK AT MOST 1048576: true; the input reads as it did. -/
def peopleFollowsUptoRow : OpenClaim := { program := "ytfalajomfcfliaagreatdoor", sum := "23c63b492ae8afd9f7d740677628cd85dc46eaa58cedc3c701021bcbbfc1f893", func := "restante/restantelaw03.PeopleFollows", spec := "peopleFollows", inPlace := ["internal/bytealg.IndexByteString", "internal/bytealg.IndexString"], unfollowed := true, recurses := true, named := ["internal/bytealg.MaxLen", "strconv.ErrSyntax", "strconv.ErrRange", "internal/strconv.uint64pow10", "math/bits.deBruijn32tab", "math/bits.deBruijn64tab"], plainKeys := false, apart := false, laid := [("math/bits.deBruijn32tab", laid_math_bits_deBruijn32tab), ("math/bits.deBruijn64tab", laid_math_bits_deBruijn64tab), ("internal/strconv.uint64pow10", laid_internal_strconv_uint64pow10), ("strconv.ErrRange", laid_strconv_ErrRange), ("strconv.ErrSyntax", laid_strconv_ErrSyntax)], narrowed := true }
def PeopleFollowsUptoSaid : Prop := peopleFollowsUptoRow.holds Tryz.pinned (OpenSpec.upto peopleFollowsSpec)

/-- 'restantelaw03.PeopleEnds', WHERE WHAT IT READS IS OF BULK AT MOST 1048576: true; the input reads as it did. -/
def peopleEndsUptoRow : OpenClaim := { program := "ytfalajomfcfliaagreatdoor", sum := "23c63b492ae8afd9f7d740677628cd85dc46eaa58cedc3c701021bcbbfc1f893", func := "restante/restantelaw03.PeopleEnds", spec := "peopleEnds", inPlace := ["internal/bytealg.IndexByteString", "internal/bytealg.IndexString"], unfollowed := true, recurses := true, named := ["internal/bytealg.MaxLen", "strconv.ErrSyntax", "strconv.ErrRange", "internal/strconv.uint64pow10", "math/bits.deBruijn32tab", "math/bits.deBruijn64tab"], plainKeys := false, apart := false, laid := [("math/bits.deBruijn32tab", laid_math_bits_deBruijn32tab), ("math/bits.deBruijn64tab", laid_math_bits_deBruijn64tab), ("internal/strconv.uint64pow10", laid_internal_strconv_uint64pow10), ("strconv.ErrRange", laid_strconv_ErrRange), ("strconv.ErrSyntax", laid_strconv_ErrSyntax)], narrowed := true }
def PeopleEndsUptoSaid : Prop := peopleEndsUptoRow.holds Tryz.pinned (OpenSpec.upto peopleEndsSpec)

/-- 'restantelaw03.PeopleHouses', WHERE WHAT IT READS IS OF BULK AT MOST 1048576: true; the input reads as it did. -/
def peopleHousesUptoRow : OpenClaim := { program := "ytfalajomfcfliaagreatdoor", sum := "23c63b492ae8afd9f7d740677628cd85dc46eaa58cedc3c701021bcbbfc1f893", func := "restante/restantelaw03.PeopleHouses", spec := "peopleHouses", inPlace := ["internal/bytealg.IndexByteString", "internal/bytealg.IndexString"], unfollowed := true, recurses := true, named := ["internal/bytealg.MaxLen", "strconv.ErrSyntax", "strconv.ErrRange", "internal/strconv.uint64pow10", "math/bits.deBruijn32tab", "math/bits.deBruijn64tab"], plainKeys := false, apart := false, laid := [("math/bits.deBruijn32tab", laid_math_bits_deBruijn32tab), ("math/bits.deBruijn64tab", laid_math_bits_deBruijn64tab), ("internal/strconv.uint64pow10", laid_internal_strconv_uint64pow10), ("strconv.ErrRange", laid_strconv_ErrRange), ("strconv.ErrSyntax", laid_strconv_ErrSyntax)], narrowed := true }
def PeopleHousesUptoSaid : Prop := peopleHousesUptoRow.holds Tryz.pinned (OpenSpec.upto peopleHousesSpec)

end Rows
end Go.Proofs.YtfalajomfcfliaaGreatDoor
