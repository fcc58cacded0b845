/-
  No cell of these rows narrows 'for every input' (looked for: loops, veiled, ifaces, maps, wideKeys, modest, calm, conditions, laid).
  DERIVED. THE GIVEN ROWS OF THIS SEAT. 32 by the template 'for every input the law returns true; each argument reads behind the call as it read before'; 0 by the template 'total and deterministic' (their statements: YtlhlljjchggnjaaTotals.lean).
  GIVEN WITH THE SEED: the statements are not yours to turn. If you find one false, say at which input.
  Laid BY PROGRAM, IN A SANDBOX (cutbox-rows.mjs): the forced cells as the released guide's own fill.sh prints them over the translation 29ffabe093fad07d… (all of the seat's roots in one cut). By AI agents, Wed Nov 11 2026. No macro, syntax, notation, axiom, sorry.
-/
import Derived.Test.YtlhlljjchggnjaaChecked
import GoSem.Claim
import GoSem.ClaimJoined
import GoSem.ClaimMapViews
import Derived.JoinedTies
import Derived.KernelRfl
namespace Go.Proofs.Ytlhlljjchggnjaa
/- THE CELL 'sum', in the pinned program and in every row, IS THE sha256 OF THE DUMP (.gsa) THAT YtlhlljjchggnjaaProg.lean LOADS. Nothing in Lean hashes anything: it is a label: what it is worth is what the hold of that sum in a sandbox is worth. -/
noncomputable def Try.pinned : Pinned := { name := "ytlhlljjchggnjaa", sum := "29ffabe093fad07d4cb50c97cecd086d27bedd4af5f61208a672f5c0cc8f3f16", checked := Try.checked }
namespace Rows
def none {H : Type} : Left H := { results := [], args := [] }

/-- 'deadeyelaw05.PackPuts': WHATEVER THE INPUT: true; the input reads as it did. -/
def packPutsSpec : ChangeSpec := { name := "packPuts", fn := fun _ => fun
  | [d1, d2, d3] => { results := [.lit (.bool true)], args := [d1, d2, d3] }
  | _ => none }
def packPutsRow : OpenClaim := { program := "ytlhlljjchggnjaa", sum := "29ffabe093fad07d4cb50c97cecd086d27bedd4af5f61208a672f5c0cc8f3f16", func := "deadeye/deadeyelaw05.PackPuts", spec := "packPuts", plainKeys := false, apart := false }
def PackPutsSaid : Prop := packPutsRow.holds Try.pinned (OpenSpec.ofChange packPutsSpec)

/-- ITS FALSE NEIGHBOUR: 'it returns false'. Refute it at one input. -/
def packPutsWrong : ChangeSpec := { name := "packPuts", fn := fun _ => fun
  | [d1, d2, d3] => { results := [.lit (.bool false)], args := [d1, d2, d3] }
  | _ => none }
def PackPutsWrongFalsely : Prop := packPutsRow.holds Try.pinned (OpenSpec.ofChange packPutsWrong)

/-- 'deadeyelaw05.PackBack': WHATEVER THE INPUT: true; the input reads as it did. -/
def packBackSpec : ChangeSpec := { name := "packBack", fn := fun _ => fun
  | [d1, d2] => { results := [.lit (.bool true)], args := [d1, d2] }
  | _ => none }
def packBackRow : OpenClaim := { program := "ytlhlljjchggnjaa", sum := "29ffabe093fad07d4cb50c97cecd086d27bedd4af5f61208a672f5c0cc8f3f16", func := "deadeye/deadeyelaw05.PackBack", spec := "packBack", plainKeys := false, apart := false }
def PackBackSaid : Prop := packBackRow.holds Try.pinned (OpenSpec.ofChange packBackSpec)

/-- ITS FALSE NEIGHBOUR: 'it returns false'. Refute it at one input. -/
def packBackWrong : ChangeSpec := { name := "packBack", fn := fun _ => fun
  | [d1, d2] => { results := [.lit (.bool false)], args := [d1, d2] }
  | _ => none }
def PackBackWrongFalsely : Prop := packBackRow.holds Try.pinned (OpenSpec.ofChange packBackWrong)

/-- 'deadeyelaw05.PackNone': WHATEVER THE INPUT: true; the input reads as it did. -/
def packNoneSpec : ChangeSpec := { name := "packNone", fn := fun _ => fun
  | [d] => { results := [.lit (.bool true)], args := [d] }
  | _ => none }
def packNoneRow : OpenClaim := { program := "ytlhlljjchggnjaa", sum := "29ffabe093fad07d4cb50c97cecd086d27bedd4af5f61208a672f5c0cc8f3f16", func := "deadeye/deadeyelaw05.PackNone", spec := "packNone", plainKeys := false, apart := false }
def PackNoneSaid : Prop := packNoneRow.holds Try.pinned (OpenSpec.ofChange packNoneSpec)

/-- ITS FALSE NEIGHBOUR: 'it returns false'. Refute it at one input. -/
def packNoneWrong : ChangeSpec := { name := "packNone", fn := fun _ => fun
  | [d] => { results := [.lit (.bool false)], args := [d] }
  | _ => none }
def PackNoneWrongFalsely : Prop := packNoneRow.holds Try.pinned (OpenSpec.ofChange packNoneWrong)

/-- 'deadeyelaw05.PackUnlike': WHATEVER THE INPUT: true; the input reads as it did. -/
def packUnlikeSpec : ChangeSpec := { name := "packUnlike", fn := fun _ => fun
  | [d1, d2, d3, d4] => { results := [.lit (.bool true)], args := [d1, d2, d3, d4] }
  | _ => none }
def packUnlikeRow : OpenClaim := { program := "ytlhlljjchggnjaa", sum := "29ffabe093fad07d4cb50c97cecd086d27bedd4af5f61208a672f5c0cc8f3f16", func := "deadeye/deadeyelaw05.PackUnlike", spec := "packUnlike", plainKeys := false, apart := false }
def PackUnlikeSaid : Prop := packUnlikeRow.holds Try.pinned (OpenSpec.ofChange packUnlikeSpec)

/-- ITS FALSE NEIGHBOUR: 'it returns false'. Refute it at one input. -/
def packUnlikeWrong : ChangeSpec := { name := "packUnlike", fn := fun _ => fun
  | [d1, d2, d3, d4] => { results := [.lit (.bool false)], args := [d1, d2, d3, d4] }
  | _ => none }
def PackUnlikeWrongFalsely : Prop := packUnlikeRow.holds Try.pinned (OpenSpec.ofChange packUnlikeWrong)

/-- 'deadeyelaw05.PackReads': WHATEVER THE INPUT: true; the input reads as it did. -/
def packReadsSpec : ChangeSpec := { name := "packReads", fn := fun _ => fun
  | [d1, d2] => { results := [.lit (.bool true)], args := [d1, d2] }
  | _ => none }
def packReadsRow : OpenClaim := { program := "ytlhlljjchggnjaa", sum := "29ffabe093fad07d4cb50c97cecd086d27bedd4af5f61208a672f5c0cc8f3f16", func := "deadeye/deadeyelaw05.PackReads", spec := "packReads", plainKeys := false, apart := false }
def PackReadsSaid : Prop := packReadsRow.holds Try.pinned (OpenSpec.ofChange packReadsSpec)

/-- ITS FALSE NEIGHBOUR: 'it returns false'. Refute it at one input. -/
def packReadsWrong : ChangeSpec := { name := "packReads", fn := fun _ => fun
  | [d1, d2] => { results := [.lit (.bool false)], args := [d1, d2] }
  | _ => none }
def PackReadsWrongFalsely : Prop := packReadsRow.holds Try.pinned (OpenSpec.ofChange packReadsWrong)

/-- 'deadeyelaw08.DiskRoom': WHATEVER THE INPUT: true; the input reads as it did. -/
def diskRoomSpec : ChangeSpec := { name := "diskRoom", fn := fun _ => fun
  | [d1, d2] => { results := [.lit (.bool true)], args := [d1, d2] }
  | _ => none }
def diskRoomRow : OpenClaim := { program := "ytlhlljjchggnjaa", sum := "29ffabe093fad07d4cb50c97cecd086d27bedd4af5f61208a672f5c0cc8f3f16", func := "deadeye/deadeyelaw08.DiskRoom", spec := "diskRoom", plainKeys := false, apart := false }
def DiskRoomSaid : Prop := diskRoomRow.holds Try.pinned (OpenSpec.ofChange diskRoomSpec)

/-- ITS FALSE NEIGHBOUR: 'it returns false'. Refute it at one input. -/
def diskRoomWrong : ChangeSpec := { name := "diskRoom", fn := fun _ => fun
  | [d1, d2] => { results := [.lit (.bool false)], args := [d1, d2] }
  | _ => none }
def DiskRoomWrongFalsely : Prop := diskRoomRow.holds Try.pinned (OpenSpec.ofChange diskRoomWrong)

/-- 'deadeyelaw08.DiskBegins': WHATEVER THE INPUT: true; the input reads as it did. -/
def diskBeginsSpec : ChangeSpec := { name := "diskBegins", fn := fun _ => fun
  | [d1, d2, d3] => { results := [.lit (.bool true)], args := [d1, d2, d3] }
  | _ => none }
def diskBeginsRow : OpenClaim := { program := "ytlhlljjchggnjaa", sum := "29ffabe093fad07d4cb50c97cecd086d27bedd4af5f61208a672f5c0cc8f3f16", func := "deadeye/deadeyelaw08.DiskBegins", spec := "diskBegins", plainKeys := false, apart := false }
def DiskBeginsSaid : Prop := diskBeginsRow.holds Try.pinned (OpenSpec.ofChange diskBeginsSpec)

/-- ITS FALSE NEIGHBOUR: 'it returns false'. Refute it at one input. -/
def diskBeginsWrong : ChangeSpec := { name := "diskBegins", fn := fun _ => fun
  | [d1, d2, d3] => { results := [.lit (.bool false)], args := [d1, d2, d3] }
  | _ => none }
def DiskBeginsWrongFalsely : Prop := diskBeginsRow.holds Try.pinned (OpenSpec.ofChange diskBeginsWrong)

/-- 'deadeyelaw08.DiskTears': WHATEVER THE INPUT: true; the input reads as it did. -/
def diskTearsSpec : ChangeSpec := { name := "diskTears", fn := fun _ => fun
  | [d1, d2, d3, d4] => { results := [.lit (.bool true)], args := [d1, d2, d3, d4] }
  | _ => none }
def diskTearsRow : OpenClaim := { program := "ytlhlljjchggnjaa", sum := "29ffabe093fad07d4cb50c97cecd086d27bedd4af5f61208a672f5c0cc8f3f16", func := "deadeye/deadeyelaw08.DiskTears", spec := "diskTears", plainKeys := false, apart := false }
def DiskTearsSaid : Prop := diskTearsRow.holds Try.pinned (OpenSpec.ofChange diskTearsSpec)

/-- ITS FALSE NEIGHBOUR: 'it returns false'. Refute it at one input. -/
def diskTearsWrong : ChangeSpec := { name := "diskTears", fn := fun _ => fun
  | [d1, d2, d3, d4] => { results := [.lit (.bool false)], args := [d1, d2, d3, d4] }
  | _ => none }
def DiskTearsWrongFalsely : Prop := diskTearsRow.holds Try.pinned (OpenSpec.ofChange diskTearsWrong)

/-- 'deadeyelaw08.DiskPlays': WHATEVER THE INPUT: true; the input reads as it did. -/
def diskPlaysSpec : ChangeSpec := { name := "diskPlays", fn := fun _ => fun
  | [d1, d2] => { results := [.lit (.bool true)], args := [d1, d2] }
  | _ => none }
def diskPlaysRow : OpenClaim := { program := "ytlhlljjchggnjaa", sum := "29ffabe093fad07d4cb50c97cecd086d27bedd4af5f61208a672f5c0cc8f3f16", func := "deadeye/deadeyelaw08.DiskPlays", spec := "diskPlays", plainKeys := false, apart := false }
def DiskPlaysSaid : Prop := diskPlaysRow.holds Try.pinned (OpenSpec.ofChange diskPlaysSpec)

/-- ITS FALSE NEIGHBOUR: 'it returns false'. Refute it at one input. -/
def diskPlaysWrong : ChangeSpec := { name := "diskPlays", fn := fun _ => fun
  | [d1, d2] => { results := [.lit (.bool false)], args := [d1, d2] }
  | _ => none }
def DiskPlaysWrongFalsely : Prop := diskPlaysRow.holds Try.pinned (OpenSpec.ofChange diskPlaysWrong)

/-- 'deadeyelaw08.DiskNone': WHATEVER THE INPUT: true; the input reads as it did. -/
def diskNoneSpec : ChangeSpec := { name := "diskNone", fn := fun _ => fun
  | [d1, d2] => { results := [.lit (.bool true)], args := [d1, d2] }
  | _ => none }
def diskNoneRow : OpenClaim := { program := "ytlhlljjchggnjaa", sum := "29ffabe093fad07d4cb50c97cecd086d27bedd4af5f61208a672f5c0cc8f3f16", func := "deadeye/deadeyelaw08.DiskNone", spec := "diskNone", plainKeys := false, apart := false }
def DiskNoneSaid : Prop := diskNoneRow.holds Try.pinned (OpenSpec.ofChange diskNoneSpec)

/-- ITS FALSE NEIGHBOUR: 'it returns false'. Refute it at one input. -/
def diskNoneWrong : ChangeSpec := { name := "diskNone", fn := fun _ => fun
  | [d1, d2] => { results := [.lit (.bool false)], args := [d1, d2] }
  | _ => none }
def DiskNoneWrongFalsely : Prop := diskNoneRow.holds Try.pinned (OpenSpec.ofChange diskNoneWrong)

/-- 'deadeyelaw07.EntryEncodes': WHATEVER THE INPUT: true; the input reads as it did. -/
def entryEncodesSpec : ChangeSpec := { name := "entryEncodes", fn := fun _ => fun
  | [d] => { results := [.lit (.bool true)], args := [d] }
  | _ => none }
def entryEncodesRow : OpenClaim := { program := "ytlhlljjchggnjaa", sum := "29ffabe093fad07d4cb50c97cecd086d27bedd4af5f61208a672f5c0cc8f3f16", func := "deadeye/deadeyelaw07.EntryEncodes", spec := "entryEncodes", unfollowed := true, recurses := true, plainKeys := false, apart := false }
def EntryEncodesSaid : Prop := entryEncodesRow.holds Try.pinned (OpenSpec.ofChange entryEncodesSpec)

/-- ITS FALSE NEIGHBOUR: 'it returns false'. Refute it at one input. -/
def entryEncodesWrong : ChangeSpec := { name := "entryEncodes", fn := fun _ => fun
  | [d] => { results := [.lit (.bool false)], args := [d] }
  | _ => none }
def EntryEncodesWrongFalsely : Prop := entryEncodesRow.holds Try.pinned (OpenSpec.ofChange entryEncodesWrong)

/-- 'deadeyelaw07.EntryDecodes': WHATEVER THE INPUT: true; the input reads as it did. -/
def entryDecodesSpec : ChangeSpec := { name := "entryDecodes", fn := fun _ => fun
  | [d] => { results := [.lit (.bool true)], args := [d] }
  | _ => none }
def entryDecodesRow : OpenClaim := { program := "ytlhlljjchggnjaa", sum := "29ffabe093fad07d4cb50c97cecd086d27bedd4af5f61208a672f5c0cc8f3f16", func := "deadeye/deadeyelaw07.EntryDecodes", spec := "entryDecodes", unfollowed := true, recurses := true, plainKeys := false, apart := false }
def EntryDecodesSaid : Prop := entryDecodesRow.holds Try.pinned (OpenSpec.ofChange entryDecodesSpec)

/-- ITS FALSE NEIGHBOUR: 'it returns false'. Refute it at one input. -/
def entryDecodesWrong : ChangeSpec := { name := "entryDecodes", fn := fun _ => fun
  | [d] => { results := [.lit (.bool false)], args := [d] }
  | _ => none }
def EntryDecodesWrongFalsely : Prop := entryDecodesRow.holds Try.pinned (OpenSpec.ofChange entryDecodesWrong)

/-- 'deadeyelaw07.EntryCut': WHATEVER THE INPUT: true; the input reads as it did. -/
def entryCutSpec : ChangeSpec := { name := "entryCut", fn := fun _ => fun
  | [d1, d2] => { results := [.lit (.bool true)], args := [d1, d2] }
  | _ => none }
def entryCutRow : OpenClaim := { program := "ytlhlljjchggnjaa", sum := "29ffabe093fad07d4cb50c97cecd086d27bedd4af5f61208a672f5c0cc8f3f16", func := "deadeye/deadeyelaw07.EntryCut", spec := "entryCut", unfollowed := true, recurses := true, plainKeys := false, apart := false }
def EntryCutSaid : Prop := entryCutRow.holds Try.pinned (OpenSpec.ofChange entryCutSpec)

/-- ITS FALSE NEIGHBOUR: 'it returns false'. Refute it at one input. -/
def entryCutWrong : ChangeSpec := { name := "entryCut", fn := fun _ => fun
  | [d1, d2] => { results := [.lit (.bool false)], args := [d1, d2] }
  | _ => none }
def EntryCutWrongFalsely : Prop := entryCutRow.holds Try.pinned (OpenSpec.ofChange entryCutWrong)

/-- 'deadeyelaw07.EntryUnlike': WHATEVER THE INPUT: true; the input reads as it did. -/
def entryUnlikeSpec : ChangeSpec := { name := "entryUnlike", fn := fun _ => fun
  | [d1, d2] => { results := [.lit (.bool true)], args := [d1, d2] }
  | _ => none }
def entryUnlikeRow : OpenClaim := { program := "ytlhlljjchggnjaa", sum := "29ffabe093fad07d4cb50c97cecd086d27bedd4af5f61208a672f5c0cc8f3f16", func := "deadeye/deadeyelaw07.EntryUnlike", spec := "entryUnlike", unfollowed := true, recurses := true, plainKeys := false, apart := false }
def EntryUnlikeSaid : Prop := entryUnlikeRow.holds Try.pinned (OpenSpec.ofChange entryUnlikeSpec)

/-- ITS FALSE NEIGHBOUR: 'it returns false'. Refute it at one input. -/
def entryUnlikeWrong : ChangeSpec := { name := "entryUnlike", fn := fun _ => fun
  | [d1, d2] => { results := [.lit (.bool false)], args := [d1, d2] }
  | _ => none }
def EntryUnlikeWrongFalsely : Prop := entryUnlikeRow.holds Try.pinned (OpenSpec.ofChange entryUnlikeWrong)

/-- 'deadeyelaw07.EntrySounds': WHATEVER THE INPUT: true; the input reads as it did. -/
def entrySoundsSpec : ChangeSpec := { name := "entrySounds", fn := fun _ => fun
  | [d1, d2] => { results := [.lit (.bool true)], args := [d1, d2] }
  | _ => none }
def entrySoundsRow : OpenClaim := { program := "ytlhlljjchggnjaa", sum := "29ffabe093fad07d4cb50c97cecd086d27bedd4af5f61208a672f5c0cc8f3f16", func := "deadeye/deadeyelaw07.EntrySounds", spec := "entrySounds", unfollowed := true, recurses := true, plainKeys := false, apart := false }
def EntrySoundsSaid : Prop := entrySoundsRow.holds Try.pinned (OpenSpec.ofChange entrySoundsSpec)

/-- ITS FALSE NEIGHBOUR: 'it returns false'. Refute it at one input. -/
def entrySoundsWrong : ChangeSpec := { name := "entrySounds", fn := fun _ => fun
  | [d1, d2] => { results := [.lit (.bool false)], args := [d1, d2] }
  | _ => none }
def EntrySoundsWrongFalsely : Prop := entrySoundsRow.holds Try.pinned (OpenSpec.ofChange entrySoundsWrong)

/-- 'deadeyelaw12.MsgEncodes': WHATEVER THE INPUT: true; the input reads as it did. -/
def msgEncodesSpec : ChangeSpec := { name := "msgEncodes", fn := fun _ => fun
  | [d] => { results := [.lit (.bool true)], args := [d] }
  | _ => none }
def msgEncodesRow : OpenClaim := { program := "ytlhlljjchggnjaa", sum := "29ffabe093fad07d4cb50c97cecd086d27bedd4af5f61208a672f5c0cc8f3f16", func := "deadeye/deadeyelaw12.MsgEncodes", spec := "msgEncodes", unfollowed := true, recurses := true, plainKeys := false, apart := false }
def MsgEncodesSaid : Prop := msgEncodesRow.holds Try.pinned (OpenSpec.ofChange msgEncodesSpec)

/-- ITS FALSE NEIGHBOUR: 'it returns false'. Refute it at one input. -/
def msgEncodesWrong : ChangeSpec := { name := "msgEncodes", fn := fun _ => fun
  | [d] => { results := [.lit (.bool false)], args := [d] }
  | _ => none }
def MsgEncodesWrongFalsely : Prop := msgEncodesRow.holds Try.pinned (OpenSpec.ofChange msgEncodesWrong)

/-- 'deadeyelaw12.MsgDecodes': WHATEVER THE INPUT: true; the input reads as it did. -/
def msgDecodesSpec : ChangeSpec := { name := "msgDecodes", fn := fun _ => fun
  | [d] => { results := [.lit (.bool true)], args := [d] }
  | _ => none }
def msgDecodesRow : OpenClaim := { program := "ytlhlljjchggnjaa", sum := "29ffabe093fad07d4cb50c97cecd086d27bedd4af5f61208a672f5c0cc8f3f16", func := "deadeye/deadeyelaw12.MsgDecodes", spec := "msgDecodes", unfollowed := true, recurses := true, plainKeys := false, apart := false }
def MsgDecodesSaid : Prop := msgDecodesRow.holds Try.pinned (OpenSpec.ofChange msgDecodesSpec)

/-- ITS FALSE NEIGHBOUR: 'it returns false'. Refute it at one input. -/
def msgDecodesWrong : ChangeSpec := { name := "msgDecodes", fn := fun _ => fun
  | [d] => { results := [.lit (.bool false)], args := [d] }
  | _ => none }
def MsgDecodesWrongFalsely : Prop := msgDecodesRow.holds Try.pinned (OpenSpec.ofChange msgDecodesWrong)

/-- 'deadeyelaw12.MsgTurned': WHATEVER THE INPUT: true; the input reads as it did. -/
def msgTurnedSpec : ChangeSpec := { name := "msgTurned", fn := fun _ => fun
  | [d1, d2, d3] => { results := [.lit (.bool true)], args := [d1, d2, d3] }
  | _ => none }
def msgTurnedRow : OpenClaim := { program := "ytlhlljjchggnjaa", sum := "29ffabe093fad07d4cb50c97cecd086d27bedd4af5f61208a672f5c0cc8f3f16", func := "deadeye/deadeyelaw12.MsgTurned", spec := "msgTurned", unfollowed := true, recurses := true, plainKeys := false, apart := false }
def MsgTurnedSaid : Prop := msgTurnedRow.holds Try.pinned (OpenSpec.ofChange msgTurnedSpec)

/-- ITS FALSE NEIGHBOUR: 'it returns false'. Refute it at one input. -/
def msgTurnedWrong : ChangeSpec := { name := "msgTurned", fn := fun _ => fun
  | [d1, d2, d3] => { results := [.lit (.bool false)], args := [d1, d2, d3] }
  | _ => none }
def MsgTurnedWrongFalsely : Prop := msgTurnedRow.holds Try.pinned (OpenSpec.ofChange msgTurnedWrong)

/-- 'deadeyelaw12.MsgSames': WHATEVER THE INPUT: true; the input reads as it did. -/
def msgSamesSpec : ChangeSpec := { name := "msgSames", fn := fun _ => fun
  | [d1, d2] => { results := [.lit (.bool true)], args := [d1, d2] }
  | _ => none }
def msgSamesRow : OpenClaim := { program := "ytlhlljjchggnjaa", sum := "29ffabe093fad07d4cb50c97cecd086d27bedd4af5f61208a672f5c0cc8f3f16", func := "deadeye/deadeyelaw12.MsgSames", spec := "msgSames", unfollowed := true, recurses := true, plainKeys := false, apart := false }
def MsgSamesSaid : Prop := msgSamesRow.holds Try.pinned (OpenSpec.ofChange msgSamesSpec)

/-- ITS FALSE NEIGHBOUR: 'it returns false'. Refute it at one input. -/
def msgSamesWrong : ChangeSpec := { name := "msgSames", fn := fun _ => fun
  | [d1, d2] => { results := [.lit (.bool false)], args := [d1, d2] }
  | _ => none }
def MsgSamesWrongFalsely : Prop := msgSamesRow.holds Try.pinned (OpenSpec.ofChange msgSamesWrong)

/-- 'deadeyelaw12.MsgUnlike': WHATEVER THE INPUT: true; the input reads as it did. -/
def msgUnlikeSpec : ChangeSpec := { name := "msgUnlike", fn := fun _ => fun
  | [d1, d2] => { results := [.lit (.bool true)], args := [d1, d2] }
  | _ => none }
def msgUnlikeRow : OpenClaim := { program := "ytlhlljjchggnjaa", sum := "29ffabe093fad07d4cb50c97cecd086d27bedd4af5f61208a672f5c0cc8f3f16", func := "deadeye/deadeyelaw12.MsgUnlike", spec := "msgUnlike", unfollowed := true, recurses := true, plainKeys := false, apart := false }
def MsgUnlikeSaid : Prop := msgUnlikeRow.holds Try.pinned (OpenSpec.ofChange msgUnlikeSpec)

/-- ITS FALSE NEIGHBOUR: 'it returns false'. Refute it at one input. -/
def msgUnlikeWrong : ChangeSpec := { name := "msgUnlike", fn := fun _ => fun
  | [d1, d2] => { results := [.lit (.bool false)], args := [d1, d2] }
  | _ => none }
def MsgUnlikeWrongFalsely : Prop := msgUnlikeRow.holds Try.pinned (OpenSpec.ofChange msgUnlikeWrong)

/-- 'deadeyelaw13.NetOrder': WHATEVER THE INPUT: true; the input reads as it did. -/
def netOrderSpec : ChangeSpec := { name := "netOrder", fn := fun _ => fun
  | [d] => { results := [.lit (.bool true)], args := [d] }
  | _ => none }
def netOrderRow : OpenClaim := { program := "ytlhlljjchggnjaa", sum := "29ffabe093fad07d4cb50c97cecd086d27bedd4af5f61208a672f5c0cc8f3f16", func := "deadeye/deadeyelaw13.NetOrder", spec := "netOrder", unfollowed := true, recurses := true, plainKeys := false, apart := false }
def NetOrderSaid : Prop := netOrderRow.holds Try.pinned (OpenSpec.ofChange netOrderSpec)

/-- ITS FALSE NEIGHBOUR: 'it returns false'. Refute it at one input. -/
def netOrderWrong : ChangeSpec := { name := "netOrder", fn := fun _ => fun
  | [d] => { results := [.lit (.bool false)], args := [d] }
  | _ => none }
def NetOrderWrongFalsely : Prop := netOrderRow.holds Try.pinned (OpenSpec.ofChange netOrderWrong)

/-- 'deadeyelaw13.NetPlays': WHATEVER THE INPUT: true; the input reads as it did. -/
def netPlaysSpec : ChangeSpec := { name := "netPlays", fn := fun _ => fun
  | [d] => { results := [.lit (.bool true)], args := [d] }
  | _ => none }
def netPlaysRow : OpenClaim := { program := "ytlhlljjchggnjaa", sum := "29ffabe093fad07d4cb50c97cecd086d27bedd4af5f61208a672f5c0cc8f3f16", func := "deadeye/deadeyelaw13.NetPlays", spec := "netPlays", unfollowed := true, recurses := true, plainKeys := false, apart := false }
def NetPlaysSaid : Prop := netPlaysRow.holds Try.pinned (OpenSpec.ofChange netPlaysSpec)

/-- ITS FALSE NEIGHBOUR: 'it returns false'. Refute it at one input. -/
def netPlaysWrong : ChangeSpec := { name := "netPlays", fn := fun _ => fun
  | [d] => { results := [.lit (.bool false)], args := [d] }
  | _ => none }
def NetPlaysWrongFalsely : Prop := netPlaysRow.holds Try.pinned (OpenSpec.ofChange netPlaysWrong)

/-- 'deadeyelaw13.NetFull': WHATEVER THE INPUT: true; the input reads as it did. -/
def netFullSpec : ChangeSpec := { name := "netFull", fn := fun _ => fun
  | [d1, d2] => { results := [.lit (.bool true)], args := [d1, d2] }
  | _ => none }
def netFullRow : OpenClaim := { program := "ytlhlljjchggnjaa", sum := "29ffabe093fad07d4cb50c97cecd086d27bedd4af5f61208a672f5c0cc8f3f16", func := "deadeye/deadeyelaw13.NetFull", spec := "netFull", unfollowed := true, recurses := true, plainKeys := false, apart := false }
def NetFullSaid : Prop := netFullRow.holds Try.pinned (OpenSpec.ofChange netFullSpec)

/-- ITS FALSE NEIGHBOUR: 'it returns false'. Refute it at one input. -/
def netFullWrong : ChangeSpec := { name := "netFull", fn := fun _ => fun
  | [d1, d2] => { results := [.lit (.bool false)], args := [d1, d2] }
  | _ => none }
def NetFullWrongFalsely : Prop := netFullRow.holds Try.pinned (OpenSpec.ofChange netFullWrong)

/-- 'deadeyelaw13.NetNone': WHATEVER THE INPUT: true; the input reads as it did. -/
def netNoneSpec : ChangeSpec := { name := "netNone", fn := fun _ => fun
  | [d1, d2] => { results := [.lit (.bool true)], args := [d1, d2] }
  | _ => none }
def netNoneRow : OpenClaim := { program := "ytlhlljjchggnjaa", sum := "29ffabe093fad07d4cb50c97cecd086d27bedd4af5f61208a672f5c0cc8f3f16", func := "deadeye/deadeyelaw13.NetNone", spec := "netNone", unfollowed := true, recurses := true, plainKeys := false, apart := false }
def NetNoneSaid : Prop := netNoneRow.holds Try.pinned (OpenSpec.ofChange netNoneSpec)

/-- ITS FALSE NEIGHBOUR: 'it returns false'. Refute it at one input. -/
def netNoneWrong : ChangeSpec := { name := "netNone", fn := fun _ => fun
  | [d1, d2] => { results := [.lit (.bool false)], args := [d1, d2] }
  | _ => none }
def NetNoneWrongFalsely : Prop := netNoneRow.holds Try.pinned (OpenSpec.ofChange netNoneWrong)

/-- 'deadeyelaw09.BookOpens': WHATEVER THE INPUT: true; the input reads as it did. -/
def bookOpensSpec : ChangeSpec := { name := "bookOpens", fn := fun _ => fun
  | [d1, d2] => { results := [.lit (.bool true)], args := [d1, d2] }
  | _ => none }
def bookOpensRow : OpenClaim := { program := "ytlhlljjchggnjaa", sum := "29ffabe093fad07d4cb50c97cecd086d27bedd4af5f61208a672f5c0cc8f3f16", func := "deadeye/deadeyelaw09.BookOpens", spec := "bookOpens", unfollowed := true, recurses := true, plainKeys := false, apart := false }
def BookOpensSaid : Prop := bookOpensRow.holds Try.pinned (OpenSpec.ofChange bookOpensSpec)

/-- ITS FALSE NEIGHBOUR: 'it returns false'. Refute it at one input. -/
def bookOpensWrong : ChangeSpec := { name := "bookOpens", fn := fun _ => fun
  | [d1, d2] => { results := [.lit (.bool false)], args := [d1, d2] }
  | _ => none }
def BookOpensWrongFalsely : Prop := bookOpensRow.holds Try.pinned (OpenSpec.ofChange bookOpensWrong)

/-- 'deadeyelaw09.BookTears': WHATEVER THE INPUT: true; the input reads as it did. -/
def bookTearsSpec : ChangeSpec := { name := "bookTears", fn := fun _ => fun
  | [d1, d2, d3, d4] => { results := [.lit (.bool true)], args := [d1, d2, d3, d4] }
  | _ => none }
def bookTearsRow : OpenClaim := { program := "ytlhlljjchggnjaa", sum := "29ffabe093fad07d4cb50c97cecd086d27bedd4af5f61208a672f5c0cc8f3f16", func := "deadeye/deadeyelaw09.BookTears", spec := "bookTears", unfollowed := true, recurses := true, plainKeys := false, apart := false }
def BookTearsSaid : Prop := bookTearsRow.holds Try.pinned (OpenSpec.ofChange bookTearsSpec)

/-- ITS FALSE NEIGHBOUR: 'it returns false'. Refute it at one input. -/
def bookTearsWrong : ChangeSpec := { name := "bookTears", fn := fun _ => fun
  | [d1, d2, d3, d4] => { results := [.lit (.bool false)], args := [d1, d2, d3, d4] }
  | _ => none }
def BookTearsWrongFalsely : Prop := bookTearsRow.holds Try.pinned (OpenSpec.ofChange bookTearsWrong)

/-- 'deadeyelaw09.BookNone': WHATEVER THE INPUT: true; the input reads as it did. -/
def bookNoneSpec : ChangeSpec := { name := "bookNone", fn := fun _ => fun
  | [d] => { results := [.lit (.bool true)], args := [d] }
  | _ => none }
def bookNoneRow : OpenClaim := { program := "ytlhlljjchggnjaa", sum := "29ffabe093fad07d4cb50c97cecd086d27bedd4af5f61208a672f5c0cc8f3f16", func := "deadeye/deadeyelaw09.BookNone", spec := "bookNone", unfollowed := true, recurses := true, plainKeys := false, apart := false }
def BookNoneSaid : Prop := bookNoneRow.holds Try.pinned (OpenSpec.ofChange bookNoneSpec)

/-- ITS FALSE NEIGHBOUR: 'it returns false'. Refute it at one input. -/
def bookNoneWrong : ChangeSpec := { name := "bookNone", fn := fun _ => fun
  | [d] => { results := [.lit (.bool false)], args := [d] }
  | _ => none }
def BookNoneWrongFalsely : Prop := bookNoneRow.holds Try.pinned (OpenSpec.ofChange bookNoneWrong)

/-- 'deadeyelaw09.BookPlays': WHATEVER THE INPUT: true; the input reads as it did. -/
def bookPlaysSpec : ChangeSpec := { name := "bookPlays", fn := fun _ => fun
  | [d1, d2] => { results := [.lit (.bool true)], args := [d1, d2] }
  | _ => none }
def bookPlaysRow : OpenClaim := { program := "ytlhlljjchggnjaa", sum := "29ffabe093fad07d4cb50c97cecd086d27bedd4af5f61208a672f5c0cc8f3f16", func := "deadeye/deadeyelaw09.BookPlays", spec := "bookPlays", unfollowed := true, recurses := true, plainKeys := false, apart := false }
def BookPlaysSaid : Prop := bookPlaysRow.holds Try.pinned (OpenSpec.ofChange bookPlaysSpec)

/-- ITS FALSE NEIGHBOUR: 'it returns false'. Refute it at one input. -/
def bookPlaysWrong : ChangeSpec := { name := "bookPlays", fn := fun _ => fun
  | [d1, d2] => { results := [.lit (.bool false)], args := [d1, d2] }
  | _ => none }
def BookPlaysWrongFalsely : Prop := bookPlaysRow.holds Try.pinned (OpenSpec.ofChange bookPlaysWrong)

/-- 'deadeyelaw14.StoreRises': WHATEVER THE INPUT: true; the input reads as it did. -/
def storeRisesSpec : ChangeSpec := { name := "storeRises", fn := fun _ => fun
  | [d] => { results := [.lit (.bool true)], args := [d] }
  | _ => none }
def storeRisesRow : OpenClaim := { program := "ytlhlljjchggnjaa", sum := "29ffabe093fad07d4cb50c97cecd086d27bedd4af5f61208a672f5c0cc8f3f16", func := "deadeye/deadeyelaw14.StoreRises", spec := "storeRises", unfollowed := true, recurses := true, plainKeys := false, apart := false }
def StoreRisesSaid : Prop := storeRisesRow.holds Try.pinned (OpenSpec.ofChange storeRisesSpec)

/-- ITS FALSE NEIGHBOUR: 'it returns false'. Refute it at one input. -/
def storeRisesWrong : ChangeSpec := { name := "storeRises", fn := fun _ => fun
  | [d] => { results := [.lit (.bool false)], args := [d] }
  | _ => none }
def StoreRisesWrongFalsely : Prop := storeRisesRow.holds Try.pinned (OpenSpec.ofChange storeRisesWrong)

/-- 'deadeyelaw14.StoreOpens': WHATEVER THE INPUT: true; the input reads as it did. -/
def storeOpensSpec : ChangeSpec := { name := "storeOpens", fn := fun _ => fun
  | [d] => { results := [.lit (.bool true)], args := [d] }
  | _ => none }
def storeOpensRow : OpenClaim := { program := "ytlhlljjchggnjaa", sum := "29ffabe093fad07d4cb50c97cecd086d27bedd4af5f61208a672f5c0cc8f3f16", func := "deadeye/deadeyelaw14.StoreOpens", spec := "storeOpens", unfollowed := true, recurses := true, plainKeys := false, apart := false }
def StoreOpensSaid : Prop := storeOpensRow.holds Try.pinned (OpenSpec.ofChange storeOpensSpec)

/-- ITS FALSE NEIGHBOUR: 'it returns false'. Refute it at one input. -/
def storeOpensWrong : ChangeSpec := { name := "storeOpens", fn := fun _ => fun
  | [d] => { results := [.lit (.bool false)], args := [d] }
  | _ => none }
def StoreOpensWrongFalsely : Prop := storeOpensRow.holds Try.pinned (OpenSpec.ofChange storeOpensWrong)

/-- 'deadeyelaw14.StoreNone': WHATEVER THE INPUT: true; the input reads as it did. -/
def storeNoneSpec : ChangeSpec := { name := "storeNone", fn := fun _ => fun
  | [d1, d2, d3] => { results := [.lit (.bool true)], args := [d1, d2, d3] }
  | _ => none }
def storeNoneRow : OpenClaim := { program := "ytlhlljjchggnjaa", sum := "29ffabe093fad07d4cb50c97cecd086d27bedd4af5f61208a672f5c0cc8f3f16", func := "deadeye/deadeyelaw14.StoreNone", spec := "storeNone", unfollowed := true, recurses := true, plainKeys := false, apart := false }
def StoreNoneSaid : Prop := storeNoneRow.holds Try.pinned (OpenSpec.ofChange storeNoneSpec)

/-- ITS FALSE NEIGHBOUR: 'it returns false'. Refute it at one input. -/
def storeNoneWrong : ChangeSpec := { name := "storeNone", fn := fun _ => fun
  | [d1, d2, d3] => { results := [.lit (.bool false)], args := [d1, d2, d3] }
  | _ => none }
def StoreNoneWrongFalsely : Prop := storeNoneRow.holds Try.pinned (OpenSpec.ofChange storeNoneWrong)

/-- 'deadeyelaw14.StorePlays': WHATEVER THE INPUT: true; the input reads as it did. -/
def storePlaysSpec : ChangeSpec := { name := "storePlays", fn := fun _ => fun
  | [d] => { results := [.lit (.bool true)], args := [d] }
  | _ => none }
def storePlaysRow : OpenClaim := { program := "ytlhlljjchggnjaa", sum := "29ffabe093fad07d4cb50c97cecd086d27bedd4af5f61208a672f5c0cc8f3f16", func := "deadeye/deadeyelaw14.StorePlays", spec := "storePlays", unfollowed := true, recurses := true, plainKeys := false, apart := false }
def StorePlaysSaid : Prop := storePlaysRow.holds Try.pinned (OpenSpec.ofChange storePlaysSpec)

/-- ITS FALSE NEIGHBOUR: 'it returns false'. Refute it at one input. -/
def storePlaysWrong : ChangeSpec := { name := "storePlays", fn := fun _ => fun
  | [d] => { results := [.lit (.bool false)], args := [d] }
  | _ => none }
def StorePlaysWrongFalsely : Prop := storePlaysRow.holds Try.pinned (OpenSpec.ofChange storePlaysWrong)

/- THE SECOND FORM. 'bulk': how many values and letters a reading holds, each counted each time it is reached (what is shared counts as often as it is met; a slice's spare places count too). A statement '..UptoSaid' is the law's where the arguments, and the package variables that the reading takes, are together of bulk at most 1048576: NARROWER than '..Said'. Prove '..Said' where nothing that the law and all that it calls make is longer than what came in: it says more and counts as full. Else prove '..UptoSaid'. A law counts once. -/
mutual
def uptoBulk {H : Type} : DataW H → Nat
  | .lit (.string bytes) => bytes.length + 1
  | .lit _ => 1
  | .nil => 1
  | .ptr d => uptoBulk d + 1
  | .slice elems spare => uptoBulkAll elems + uptoBulkAll spare + 1
  | .agg parts => uptoBulkAll parts + 1
  | .iface _ d => uptoBulk d + 1
  | .map entries => uptoBulkEntries entries + 1
  | .held _ => 1
def uptoBulkAll {H : Type} : List (DataW H) → Nat
  | [] => 0
  | d :: r => uptoBulk d + uptoBulkAll r
def uptoBulkEntries {H : Type} : List (Lit × DataW H) → Nat
  | [] => 0
  | x :: r => uptoBulkEntry x + uptoBulkEntries r
def uptoBulkEntry {H : Type} : Lit × DataW H → Nat
  | (.string bytes, d) => bytes.length + uptoBulk d + 1
  | (_, d) => uptoBulk d + 1
 end
def uptoSmall : (H : Type) → List (DataW H) → Bool := fun _ ds => decide (uptoBulkAll ds ≤ 1048576)
def OpenSpec.upto (s : _root_.Go.ChangeSpec) : _root_.Go.OpenSpec := { _root_.Go.OpenSpec.ofChange s with cond := some uptoSmall }

/-- 'deadeyelaw05.PackPuts', WHERE WHAT IT READS IS OF BULK AT MOST 1048576: true; the input reads as it did. -/
def packPutsUptoRow : OpenClaim := { program := "ytlhlljjchggnjaa", sum := "29ffabe093fad07d4cb50c97cecd086d27bedd4af5f61208a672f5c0cc8f3f16", func := "deadeye/deadeyelaw05.PackPuts", spec := "packPuts", plainKeys := false, apart := false, narrowed := true }
def PackPutsUptoSaid : Prop := packPutsUptoRow.holds Try.pinned (OpenSpec.upto packPutsSpec)

/-- 'deadeyelaw05.PackBack', WHERE WHAT IT READS IS OF BULK AT MOST 1048576: true; the input reads as it did. -/
def packBackUptoRow : OpenClaim := { program := "ytlhlljjchggnjaa", sum := "29ffabe093fad07d4cb50c97cecd086d27bedd4af5f61208a672f5c0cc8f3f16", func := "deadeye/deadeyelaw05.PackBack", spec := "packBack", plainKeys := false, apart := false, narrowed := true }
def PackBackUptoSaid : Prop := packBackUptoRow.holds Try.pinned (OpenSpec.upto packBackSpec)

/-- 'deadeyelaw05.PackNone', WHERE WHAT IT READS IS OF BULK AT MOST 1048576: true; the input reads as it did. -/
def packNoneUptoRow : OpenClaim := { program := "ytlhlljjchggnjaa", sum := "29ffabe093fad07d4cb50c97cecd086d27bedd4af5f61208a672f5c0cc8f3f16", func := "deadeye/deadeyelaw05.PackNone", spec := "packNone", plainKeys := false, apart := false, narrowed := true }
def PackNoneUptoSaid : Prop := packNoneUptoRow.holds Try.pinned (OpenSpec.upto packNoneSpec)

/-- 'deadeyelaw05.PackUnlike', WHERE WHAT IT READS IS OF BULK AT MOST 1048576: true; the input reads as it did. -/
def packUnlikeUptoRow : OpenClaim := { program := "ytlhlljjchggnjaa", sum := "29ffabe093fad07d4cb50c97cecd086d27bedd4af5f61208a672f5c0cc8f3f16", func := "deadeye/deadeyelaw05.PackUnlike", spec := "packUnlike", plainKeys := false, apart := false, narrowed := true }
def PackUnlikeUptoSaid : Prop := packUnlikeUptoRow.holds Try.pinned (OpenSpec.upto packUnlikeSpec)

/-- 'deadeyelaw05.PackReads', WHERE WHAT IT READS IS OF BULK AT MOST 1048576: true; the input reads as it did. -/
def packReadsUptoRow : OpenClaim := { program := "ytlhlljjchggnjaa", sum := "29ffabe093fad07d4cb50c97cecd086d27bedd4af5f61208a672f5c0cc8f3f16", func := "deadeye/deadeyelaw05.PackReads", spec := "packReads", plainKeys := false, apart := false, narrowed := true }
def PackReadsUptoSaid : Prop := packReadsUptoRow.holds Try.pinned (OpenSpec.upto packReadsSpec)

/-- 'deadeyelaw08.DiskRoom', WHERE WHAT IT READS IS OF BULK AT MOST 1048576: true; the input reads as it did. -/
def diskRoomUptoRow : OpenClaim := { program := "ytlhlljjchggnjaa", sum := "29ffabe093fad07d4cb50c97cecd086d27bedd4af5f61208a672f5c0cc8f3f16", func := "deadeye/deadeyelaw08.DiskRoom", spec := "diskRoom", plainKeys := false, apart := false, narrowed := true }
def DiskRoomUptoSaid : Prop := diskRoomUptoRow.holds Try.pinned (OpenSpec.upto diskRoomSpec)

/-- 'deadeyelaw08.DiskBegins', WHERE WHAT IT READS IS OF BULK AT MOST 1048576: true; the input reads as it did. -/
def diskBeginsUptoRow : OpenClaim := { program := "ytlhlljjchggnjaa", sum := "29ffabe093fad07d4cb50c97cecd086d27bedd4af5f61208a672f5c0cc8f3f16", func := "deadeye/deadeyelaw08.DiskBegins", spec := "diskBegins", plainKeys := false, apart := false, narrowed := true }
def DiskBeginsUptoSaid : Prop := diskBeginsUptoRow.holds Try.pinned (OpenSpec.upto diskBeginsSpec)

/-- 'deadeyelaw08.DiskTears', WHERE WHAT IT READS IS OF BULK AT MOST 1048576: true; the input reads as it did. -/
def diskTearsUptoRow : OpenClaim := { program := "ytlhlljjchggnjaa", sum := "29ffabe093fad07d4cb50c97cecd086d27bedd4af5f61208a672f5c0cc8f3f16", func := "deadeye/deadeyelaw08.DiskTears", spec := "diskTears", plainKeys := false, apart := false, narrowed := true }
def DiskTearsUptoSaid : Prop := diskTearsUptoRow.holds Try.pinned (OpenSpec.upto diskTearsSpec)

/-- 'deadeyelaw08.DiskPlays', WHERE WHAT IT READS IS OF BULK AT MOST 1048576: true; the input reads as it did. -/
def diskPlaysUptoRow : OpenClaim := { program := "ytlhlljjchggnjaa", sum := "29ffabe093fad07d4cb50c97cecd086d27bedd4af5f61208a672f5c0cc8f3f16", func := "deadeye/deadeyelaw08.DiskPlays", spec := "diskPlays", plainKeys := false, apart := false, narrowed := true }
def DiskPlaysUptoSaid : Prop := diskPlaysUptoRow.holds Try.pinned (OpenSpec.upto diskPlaysSpec)

/-- 'deadeyelaw08.DiskNone', WHERE WHAT IT READS IS OF BULK AT MOST 1048576: true; the input reads as it did. -/
def diskNoneUptoRow : OpenClaim := { program := "ytlhlljjchggnjaa", sum := "29ffabe093fad07d4cb50c97cecd086d27bedd4af5f61208a672f5c0cc8f3f16", func := "deadeye/deadeyelaw08.DiskNone", spec := "diskNone", plainKeys := false, apart := false, narrowed := true }
def DiskNoneUptoSaid : Prop := diskNoneUptoRow.holds Try.pinned (OpenSpec.upto diskNoneSpec)

/-- 'deadeyelaw07.EntryEncodes', WHERE WHAT IT READS IS OF BULK AT MOST 1048576: true; the input reads as it did. -/
def entryEncodesUptoRow : OpenClaim := { program := "ytlhlljjchggnjaa", sum := "29ffabe093fad07d4cb50c97cecd086d27bedd4af5f61208a672f5c0cc8f3f16", func := "deadeye/deadeyelaw07.EntryEncodes", spec := "entryEncodes", unfollowed := true, recurses := true, plainKeys := false, apart := false, narrowed := true }
def EntryEncodesUptoSaid : Prop := entryEncodesUptoRow.holds Try.pinned (OpenSpec.upto entryEncodesSpec)

/-- 'deadeyelaw07.EntryDecodes', WHERE WHAT IT READS IS OF BULK AT MOST 1048576: true; the input reads as it did. -/
def entryDecodesUptoRow : OpenClaim := { program := "ytlhlljjchggnjaa", sum := "29ffabe093fad07d4cb50c97cecd086d27bedd4af5f61208a672f5c0cc8f3f16", func := "deadeye/deadeyelaw07.EntryDecodes", spec := "entryDecodes", unfollowed := true, recurses := true, plainKeys := false, apart := false, narrowed := true }
def EntryDecodesUptoSaid : Prop := entryDecodesUptoRow.holds Try.pinned (OpenSpec.upto entryDecodesSpec)

/-- 'deadeyelaw07.EntryCut', WHERE WHAT IT READS IS OF BULK AT MOST 1048576: true; the input reads as it did. -/
def entryCutUptoRow : OpenClaim := { program := "ytlhlljjchggnjaa", sum := "29ffabe093fad07d4cb50c97cecd086d27bedd4af5f61208a672f5c0cc8f3f16", func := "deadeye/deadeyelaw07.EntryCut", spec := "entryCut", unfollowed := true, recurses := true, plainKeys := false, apart := false, narrowed := true }
def EntryCutUptoSaid : Prop := entryCutUptoRow.holds Try.pinned (OpenSpec.upto entryCutSpec)

/-- 'deadeyelaw07.EntryUnlike', WHERE WHAT IT READS IS OF BULK AT MOST 1048576: true; the input reads as it did. -/
def entryUnlikeUptoRow : OpenClaim := { program := "ytlhlljjchggnjaa", sum := "29ffabe093fad07d4cb50c97cecd086d27bedd4af5f61208a672f5c0cc8f3f16", func := "deadeye/deadeyelaw07.EntryUnlike", spec := "entryUnlike", unfollowed := true, recurses := true, plainKeys := false, apart := false, narrowed := true }
def EntryUnlikeUptoSaid : Prop := entryUnlikeUptoRow.holds Try.pinned (OpenSpec.upto entryUnlikeSpec)

/-- 'deadeyelaw07.EntrySounds', WHERE WHAT IT READS IS OF BULK AT MOST 1048576: true; the input reads as it did. -/
def entrySoundsUptoRow : OpenClaim := { program := "ytlhlljjchggnjaa", sum := "29ffabe093fad07d4cb50c97cecd086d27bedd4af5f61208a672f5c0cc8f3f16", func := "deadeye/deadeyelaw07.EntrySounds", spec := "entrySounds", unfollowed := true, recurses := true, plainKeys := false, apart := false, narrowed := true }
def EntrySoundsUptoSaid : Prop := entrySoundsUptoRow.holds Try.pinned (OpenSpec.upto entrySoundsSpec)

/-- 'deadeyelaw12.MsgEncodes', WHERE WHAT IT READS IS OF BULK AT MOST 1048576: true; the input reads as it did. -/
def msgEncodesUptoRow : OpenClaim := { program := "ytlhlljjchggnjaa", sum := "29ffabe093fad07d4cb50c97cecd086d27bedd4af5f61208a672f5c0cc8f3f16", func := "deadeye/deadeyelaw12.MsgEncodes", spec := "msgEncodes", unfollowed := true, recurses := true, plainKeys := false, apart := false, narrowed := true }
def MsgEncodesUptoSaid : Prop := msgEncodesUptoRow.holds Try.pinned (OpenSpec.upto msgEncodesSpec)

/-- 'deadeyelaw12.MsgDecodes', WHERE WHAT IT READS IS OF BULK AT MOST 1048576: true; the input reads as it did. -/
def msgDecodesUptoRow : OpenClaim := { program := "ytlhlljjchggnjaa", sum := "29ffabe093fad07d4cb50c97cecd086d27bedd4af5f61208a672f5c0cc8f3f16", func := "deadeye/deadeyelaw12.MsgDecodes", spec := "msgDecodes", unfollowed := true, recurses := true, plainKeys := false, apart := false, narrowed := true }
def MsgDecodesUptoSaid : Prop := msgDecodesUptoRow.holds Try.pinned (OpenSpec.upto msgDecodesSpec)

/-- 'deadeyelaw12.MsgTurned', WHERE WHAT IT READS IS OF BULK AT MOST 1048576: true; the input reads as it did. -/
def msgTurnedUptoRow : OpenClaim := { program := "ytlhlljjchggnjaa", sum := "29ffabe093fad07d4cb50c97cecd086d27bedd4af5f61208a672f5c0cc8f3f16", func := "deadeye/deadeyelaw12.MsgTurned", spec := "msgTurned", unfollowed := true, recurses := true, plainKeys := false, apart := false, narrowed := true }
def MsgTurnedUptoSaid : Prop := msgTurnedUptoRow.holds Try.pinned (OpenSpec.upto msgTurnedSpec)

/-- 'deadeyelaw12.MsgSames', WHERE WHAT IT READS IS OF BULK AT MOST 1048576: true; the input reads as it did. -/
def msgSamesUptoRow : OpenClaim := { program := "ytlhlljjchggnjaa", sum := "29ffabe093fad07d4cb50c97cecd086d27bedd4af5f61208a672f5c0cc8f3f16", func := "deadeye/deadeyelaw12.MsgSames", spec := "msgSames", unfollowed := true, recurses := true, plainKeys := false, apart := false, narrowed := true }
def MsgSamesUptoSaid : Prop := msgSamesUptoRow.holds Try.pinned (OpenSpec.upto msgSamesSpec)

/-- 'deadeyelaw12.MsgUnlike', WHERE WHAT IT READS IS OF BULK AT MOST 1048576: true; the input reads as it did. -/
def msgUnlikeUptoRow : OpenClaim := { program := "ytlhlljjchggnjaa", sum := "29ffabe093fad07d4cb50c97cecd086d27bedd4af5f61208a672f5c0cc8f3f16", func := "deadeye/deadeyelaw12.MsgUnlike", spec := "msgUnlike", unfollowed := true, recurses := true, plainKeys := false, apart := false, narrowed := true }
def MsgUnlikeUptoSaid : Prop := msgUnlikeUptoRow.holds Try.pinned (OpenSpec.upto msgUnlikeSpec)

/-- 'deadeyelaw13.NetOrder', WHERE WHAT IT READS IS OF BULK AT MOST 1048576: true; the input reads as it did. -/
def netOrderUptoRow : OpenClaim := { program := "ytlhlljjchggnjaa", sum := "29ffabe093fad07d4cb50c97cecd086d27bedd4af5f61208a672f5c0cc8f3f16", func := "deadeye/deadeyelaw13.NetOrder", spec := "netOrder", unfollowed := true, recurses := true, plainKeys := false, apart := false, narrowed := true }
def NetOrderUptoSaid : Prop := netOrderUptoRow.holds Try.pinned (OpenSpec.upto netOrderSpec)

/-- 'deadeyelaw13.NetPlays', WHERE WHAT IT READS IS OF BULK AT MOST 1048576: true; the input reads as it did. -/
def netPlaysUptoRow : OpenClaim := { program := "ytlhlljjchggnjaa", sum := "29ffabe093fad07d4cb50c97cecd086d27bedd4af5f61208a672f5c0cc8f3f16", func := "deadeye/deadeyelaw13.NetPlays", spec := "netPlays", unfollowed := true, recurses := true, plainKeys := false, apart := false, narrowed := true }
def NetPlaysUptoSaid : Prop := netPlaysUptoRow.holds Try.pinned (OpenSpec.upto netPlaysSpec)

/-- 'deadeyelaw13.NetFull', WHERE WHAT IT READS IS OF BULK AT MOST 1048576: true; the input reads as it did. -/
def netFullUptoRow : OpenClaim := { program := "ytlhlljjchggnjaa", sum := "29ffabe093fad07d4cb50c97cecd086d27bedd4af5f61208a672f5c0cc8f3f16", func := "deadeye/deadeyelaw13.NetFull", spec := "netFull", unfollowed := true, recurses := true, plainKeys := false, apart := false, narrowed := true }
def NetFullUptoSaid : Prop := netFullUptoRow.holds Try.pinned (OpenSpec.upto netFullSpec)

/-- 'deadeyelaw13.NetNone', WHERE WHAT IT READS IS OF BULK AT MOST 1048576: true; the input reads as it did. -/
def netNoneUptoRow : OpenClaim := { program := "ytlhlljjchggnjaa", sum := "29ffabe093fad07d4cb50c97cecd086d27bedd4af5f61208a672f5c0cc8f3f16", func := "deadeye/deadeyelaw13.NetNone", spec := "netNone", unfollowed := true, recurses := true, plainKeys := false, apart := false, narrowed := true }
def NetNoneUptoSaid : Prop := netNoneUptoRow.holds Try.pinned (OpenSpec.upto netNoneSpec)

/-- 'deadeyelaw09.BookOpens', WHERE WHAT IT READS IS OF BULK AT MOST 1048576: true; the input reads as it did. -/
def bookOpensUptoRow : OpenClaim := { program := "ytlhlljjchggnjaa", sum := "29ffabe093fad07d4cb50c97cecd086d27bedd4af5f61208a672f5c0cc8f3f16", func := "deadeye/deadeyelaw09.BookOpens", spec := "bookOpens", unfollowed := true, recurses := true, plainKeys := false, apart := false, narrowed := true }
def BookOpensUptoSaid : Prop := bookOpensUptoRow.holds Try.pinned (OpenSpec.upto bookOpensSpec)

/-- 'deadeyelaw09.BookTears', WHERE WHAT IT READS IS OF BULK AT MOST 1048576: true; the input reads as it did. -/
def bookTearsUptoRow : OpenClaim := { program := "ytlhlljjchggnjaa", sum := "29ffabe093fad07d4cb50c97cecd086d27bedd4af5f61208a672f5c0cc8f3f16", func := "deadeye/deadeyelaw09.BookTears", spec := "bookTears", unfollowed := true, recurses := true, plainKeys := false, apart := false, narrowed := true }
def BookTearsUptoSaid : Prop := bookTearsUptoRow.holds Try.pinned (OpenSpec.upto bookTearsSpec)

/-- 'deadeyelaw09.BookNone', WHERE WHAT IT READS IS OF BULK AT MOST 1048576: true; the input reads as it did. -/
def bookNoneUptoRow : OpenClaim := { program := "ytlhlljjchggnjaa", sum := "29ffabe093fad07d4cb50c97cecd086d27bedd4af5f61208a672f5c0cc8f3f16", func := "deadeye/deadeyelaw09.BookNone", spec := "bookNone", unfollowed := true, recurses := true, plainKeys := false, apart := false, narrowed := true }
def BookNoneUptoSaid : Prop := bookNoneUptoRow.holds Try.pinned (OpenSpec.upto bookNoneSpec)

/-- 'deadeyelaw09.BookPlays', WHERE WHAT IT READS IS OF BULK AT MOST 1048576: true; the input reads as it did. -/
def bookPlaysUptoRow : OpenClaim := { program := "ytlhlljjchggnjaa", sum := "29ffabe093fad07d4cb50c97cecd086d27bedd4af5f61208a672f5c0cc8f3f16", func := "deadeye/deadeyelaw09.BookPlays", spec := "bookPlays", unfollowed := true, recurses := true, plainKeys := false, apart := false, narrowed := true }
def BookPlaysUptoSaid : Prop := bookPlaysUptoRow.holds Try.pinned (OpenSpec.upto bookPlaysSpec)

/-- 'deadeyelaw14.StoreRises', WHERE WHAT IT READS IS OF BULK AT MOST 1048576: true; the input reads as it did. -/
def storeRisesUptoRow : OpenClaim := { program := "ytlhlljjchggnjaa", sum := "29ffabe093fad07d4cb50c97cecd086d27bedd4af5f61208a672f5c0cc8f3f16", func := "deadeye/deadeyelaw14.StoreRises", spec := "storeRises", unfollowed := true, recurses := true, plainKeys := false, apart := false, narrowed := true }
def StoreRisesUptoSaid : Prop := storeRisesUptoRow.holds Try.pinned (OpenSpec.upto storeRisesSpec)

/-- 'deadeyelaw14.StoreOpens', WHERE WHAT IT READS IS OF BULK AT MOST 1048576: true; the input reads as it did. -/
def storeOpensUptoRow : OpenClaim := { program := "ytlhlljjchggnjaa", sum := "29ffabe093fad07d4cb50c97cecd086d27bedd4af5f61208a672f5c0cc8f3f16", func := "deadeye/deadeyelaw14.StoreOpens", spec := "storeOpens", unfollowed := true, recurses := true, plainKeys := false, apart := false, narrowed := true }
def StoreOpensUptoSaid : Prop := storeOpensUptoRow.holds Try.pinned (OpenSpec.upto storeOpensSpec)

/-- 'deadeyelaw14.StoreNone', WHERE WHAT IT READS IS OF BULK AT MOST 1048576: true; the input reads as it did. -/
def storeNoneUptoRow : OpenClaim := { program := "ytlhlljjchggnjaa", sum := "29ffabe093fad07d4cb50c97cecd086d27bedd4af5f61208a672f5c0cc8f3f16", func := "deadeye/deadeyelaw14.StoreNone", spec := "storeNone", unfollowed := true, recurses := true, plainKeys := false, apart := false, narrowed := true }
def StoreNoneUptoSaid : Prop := storeNoneUptoRow.holds Try.pinned (OpenSpec.upto storeNoneSpec)

/-- 'deadeyelaw14.StorePlays', WHERE WHAT IT READS IS OF BULK AT MOST 1048576: true; the input reads as it did. -/
def storePlaysUptoRow : OpenClaim := { program := "ytlhlljjchggnjaa", sum := "29ffabe093fad07d4cb50c97cecd086d27bedd4af5f61208a672f5c0cc8f3f16", func := "deadeye/deadeyelaw14.StorePlays", spec := "storePlays", unfollowed := true, recurses := true, plainKeys := false, apart := false, narrowed := true }
def StorePlaysUptoSaid : Prop := storePlaysUptoRow.holds Try.pinned (OpenSpec.upto storePlaysSpec)

end Rows
end Go.Proofs.Ytlhlljjchggnjaa
