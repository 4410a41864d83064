/-
  NARROWER THAN 'FOR EVERY INPUT', by the rows' own cells (each row's printed sentence says how): HashAll: laid · HashParts: laid · HashHMAC: laid · HashChunks: laid · HashEdges: laid · HashMGF1: laid · HashPBKDF2: laid · HashBig: laid · AuditAppend: laid · AuditTaken: laid · AuditLong: laid · PinCode: laid · PinAll: laid · PinNone: laid · PadInfo: laid · PadOAEP: laid · PadPSS: laid · PadSpoilt: laid · PadDec1: laid · PadEnc1: laid.
  DERIVED. THE GIVEN ROWS OF THIS SEAT. 20 by the template 'for every input the law returns true; each argument reads behind the call as it read before'; 0 by the template 'total and deterministic' (their statements: YtladijfaeieidaaDoorTotals.lean).
  GIVEN WITH THE SEED: the statements are not yours to turn. If you find one false, say at which input.
  Laid BY PROGRAM, IN A SANDBOX (cutbox-rows.mjs): the forced cells as the released guide's own fill.sh prints them over the translation b6fcebae63d73c6b… (all of the seat's roots in one cut). By AI agents, Wed Nov 11 2026. No macro, syntax, notation, axiom, sorry.
-/
import Derived.Test.YtladijfaeieidaaDoorChecked
import GoSem.PinnedTables
import GoSem.Claim
import GoSem.ClaimJoined
import GoSem.ClaimMapViews
import Derived.JoinedTies
import Derived.KernelRfl
namespace Go.Proofs.YtladijfaeieidaaDoor
/- THE CELL 'sum', in the pinned program and in every row, IS THE sha256 OF THE DUMP (.gsa) THAT YtladijfaeieidaaDoorProg.lean LOADS. Nothing in Lean hashes anything: it is a label: what it is worth is what the hold of that sum in a sandbox is worth. -/
noncomputable def Tryd.pinned : Pinned := { name := "ytladijfaeieidaadoor", sum := "b6fcebae63d73c6b904867ef77c8529402e6338825d3568dbbc38d40cf2abf7b", checked := Tryd.checked }
namespace Rows
def none {H : Type} : Left H := { results := [], args := [] }

/- WHAT THE LISTED PACKAGE-LEVEL VARIABLES READ AS WHEN THE CALL BEGINS. Each datum BY PROGRAM (the guide's laid-datum.mjs) off the statement by which the dump's own 'gosem.cut.vars' lays the variable. In a bare row this is a premise. The card (YtladijfaeieidaaDoorCards.lean) ties it to the program's text. -/
def laid_bailey_hashes_k {H : Type} : DataW H := .agg [.lit (.int .u64 4794697086780616226), .lit (.int .u64 8158064640168781261), .lit (.int .u64 13096744586834688815), .lit (.int .u64 16840607885511220156), .lit (.int .u64 4131703408338449720), .lit (.int .u64 6480981068601479193), .lit (.int .u64 10538285296894168987), .lit (.int .u64 12329834152419229976), .lit (.int .u64 15566598209576043074), .lit (.int .u64 1334009975649890238), .lit (.int .u64 2608012711638119052), .lit (.int .u64 6128411473006802146), .lit (.int .u64 8268148722764581231), .lit (.int .u64 9286055187155687089), .lit (.int .u64 11230858885718282805), .lit (.int .u64 13951009754708518548), .lit (.int .u64 16472876342353939154), .lit (.int .u64 17275323862435702243), .lit (.int .u64 1135362057144423861), .lit (.int .u64 2597628984639134821), .lit (.int .u64 3308224258029322869), .lit (.int .u64 5365058923640841347), .lit (.int .u64 6679025012923562964), .lit (.int .u64 8573033837759648693), .lit (.int .u64 10970295158949994411), .lit (.int .u64 12119686244451234320), .lit (.int .u64 12683024718118986047), .lit (.int .u64 13788192230050041572), .lit (.int .u64 14330467153632333762), .lit (.int .u64 15395433587784984357), .lit (.int .u64 489312712824947311), .lit (.int .u64 1452737877330783856), .lit (.int .u64 2861767655752347644), .lit (.int .u64 3322285676063803686), .lit (.int .u64 5560940570517711597), .lit (.int .u64 5996557281743188959), .lit (.int .u64 7280758554555802590), .lit (.int .u64 8532644243296465576), .lit (.int .u64 9350256976987008742), .lit (.int .u64 10552545826968843579), .lit (.int .u64 11727347734174303076), .lit (.int .u64 12113106623233404929), .lit (.int .u64 14000437183269869457), .lit (.int .u64 14369950271660146224), .lit (.int .u64 15101387698204529176), .lit (.int .u64 15463397548674623760), .lit (.int .u64 17586052441742319658), .lit (.int .u64 1182934255886127544), .lit (.int .u64 1847814050463011016), .lit (.int .u64 2177327727835720531), .lit (.int .u64 2830643537854262169), .lit (.int .u64 3796741975233480872), .lit (.int .u64 4115178125766777443), .lit (.int .u64 5681478168544905931), .lit (.int .u64 6601373596472566643), .lit (.int .u64 7507060721942968483), .lit (.int .u64 8399075790359081724), .lit (.int .u64 8693463985226723168), .lit (.int .u64 9568029438360202098), .lit (.int .u64 10144078919501101548), .lit (.int .u64 10430055236837252648), .lit (.int .u64 11840083180663258601), .lit (.int .u64 13761210420658862357), .lit (.int .u64 14299343276471374635), .lit (.int .u64 14566680578165727644), .lit (.int .u64 15097957966210449927), .lit (.int .u64 16922976911328602910), .lit (.int .u64 17689382322260857208), .lit (.int .u64 500013540394364858), .lit (.int .u64 748580250866718886), .lit (.int .u64 1242879168328830382), .lit (.int .u64 1977374033974150939), .lit (.int .u64 2944078676154940804), .lit (.int .u64 3659926193048069267), .lit (.int .u64 4368137639120453308), .lit (.int .u64 4836135668995329356), .lit (.int .u64 5532061633213252278), .lit (.int .u64 6448918945643986474), .lit (.int .u64 6902733635092675308), .lit (.int .u64 7801388544844847127)]
def laid_unicode_utf8_acceptRanges {H : Type} : DataW H := .agg [.agg [.lit (.int .u8 128), .lit (.int .u8 191)], .agg [.lit (.int .u8 160), .lit (.int .u8 191)], .agg [.lit (.int .u8 128), .lit (.int .u8 159)], .agg [.lit (.int .u8 144), .lit (.int .u8 191)], .agg [.lit (.int .u8 128), .lit (.int .u8 143)], .agg [.lit (.int .u8 0), .lit (.int .u8 0)], .agg [.lit (.int .u8 0), .lit (.int .u8 0)], .agg [.lit (.int .u8 0), .lit (.int .u8 0)], .agg [.lit (.int .u8 0), .lit (.int .u8 0)], .agg [.lit (.int .u8 0), .lit (.int .u8 0)], .agg [.lit (.int .u8 0), .lit (.int .u8 0)], .agg [.lit (.int .u8 0), .lit (.int .u8 0)], .agg [.lit (.int .u8 0), .lit (.int .u8 0)], .agg [.lit (.int .u8 0), .lit (.int .u8 0)], .agg [.lit (.int .u8 0), .lit (.int .u8 0)], .agg [.lit (.int .u8 0), .lit (.int .u8 0)]]
/-- One of Go's own tables, pinned by name: the form's constant. -/
def laid_unicode_utf8_first : DataW Unit := Go.Pinned.utf8First

/-- 'baileylaw3.HashAll': WHATEVER THE INPUT: true; the input reads as it did. -/
def hashAllSpec : ChangeSpec := { name := "hashAll", fn := fun _ => fun
  | [d1, d2, d3] => { results := [.lit (.bool true)], args := [d1, d2, d3] }
  | _ => none }
def hashAllRow : OpenClaim := { program := "ytladijfaeieidaadoor", sum := "b6fcebae63d73c6b904867ef77c8529402e6338825d3568dbbc38d40cf2abf7b", func := "bailey/baileylaw3.HashAll", spec := "hashAll", unfollowed := true, recurses := true, named := ["bailey/hashes.k"], apart := false, laid := [("bailey/hashes.k", laid_bailey_hashes_k)] }
def HashAllSaid : Prop := hashAllRow.holds Tryd.pinned (OpenSpec.ofChange hashAllSpec)

/-- ITS FALSE NEIGHBOUR: 'it returns false'. Refute it at one input. -/
def hashAllWrong : ChangeSpec := { name := "hashAll", fn := fun _ => fun
  | [d1, d2, d3] => { results := [.lit (.bool false)], args := [d1, d2, d3] }
  | _ => none }
def HashAllWrongFalsely : Prop := hashAllRow.holds Tryd.pinned (OpenSpec.ofChange hashAllWrong)

/-- 'baileylaw3.HashParts': WHATEVER THE INPUT: true; the input reads as it did. -/
def hashPartsSpec : ChangeSpec := { name := "hashParts", fn := fun _ => fun
  | [d1, d2, d3] => { results := [.lit (.bool true)], args := [d1, d2, d3] }
  | _ => none }
def hashPartsRow : OpenClaim := { program := "ytladijfaeieidaadoor", sum := "b6fcebae63d73c6b904867ef77c8529402e6338825d3568dbbc38d40cf2abf7b", func := "bailey/baileylaw3.HashParts", spec := "hashParts", unfollowed := true, recurses := true, named := ["bailey/hashes.k"], apart := false, laid := [("bailey/hashes.k", laid_bailey_hashes_k)] }
def HashPartsSaid : Prop := hashPartsRow.holds Tryd.pinned (OpenSpec.ofChange hashPartsSpec)

/-- ITS FALSE NEIGHBOUR: 'it returns false'. Refute it at one input. -/
def hashPartsWrong : ChangeSpec := { name := "hashParts", fn := fun _ => fun
  | [d1, d2, d3] => { results := [.lit (.bool false)], args := [d1, d2, d3] }
  | _ => none }
def HashPartsWrongFalsely : Prop := hashPartsRow.holds Tryd.pinned (OpenSpec.ofChange hashPartsWrong)

/-- 'baileylaw3.HashHMAC': WHATEVER THE INPUT: true; the input reads as it did. -/
def hashHMACSpec : ChangeSpec := { name := "hashHMAC", fn := fun _ => fun
  | [d1, d2, d3] => { results := [.lit (.bool true)], args := [d1, d2, d3] }
  | _ => none }
def hashHMACRow : OpenClaim := { program := "ytladijfaeieidaadoor", sum := "b6fcebae63d73c6b904867ef77c8529402e6338825d3568dbbc38d40cf2abf7b", func := "bailey/baileylaw3.HashHMAC", spec := "hashHMAC", unfollowed := true, recurses := true, named := ["bailey/hashes.k"], apart := false, laid := [("bailey/hashes.k", laid_bailey_hashes_k)] }
def HashHMACSaid : Prop := hashHMACRow.holds Tryd.pinned (OpenSpec.ofChange hashHMACSpec)

/-- ITS FALSE NEIGHBOUR: 'it returns false'. Refute it at one input. -/
def hashHMACWrong : ChangeSpec := { name := "hashHMAC", fn := fun _ => fun
  | [d1, d2, d3] => { results := [.lit (.bool false)], args := [d1, d2, d3] }
  | _ => none }
def HashHMACWrongFalsely : Prop := hashHMACRow.holds Tryd.pinned (OpenSpec.ofChange hashHMACWrong)

/-- 'baileylaw3.HashChunks': WHATEVER THE INPUT: true; the input reads as it did. -/
def hashChunksSpec : ChangeSpec := { name := "hashChunks", fn := fun _ => fun
  | [d1, d2, d3] => { results := [.lit (.bool true)], args := [d1, d2, d3] }
  | _ => none }
def hashChunksRow : OpenClaim := { program := "ytladijfaeieidaadoor", sum := "b6fcebae63d73c6b904867ef77c8529402e6338825d3568dbbc38d40cf2abf7b", func := "bailey/baileylaw3.HashChunks", spec := "hashChunks", unfollowed := true, recurses := true, named := ["bailey/hashes.k"], apart := false, laid := [("bailey/hashes.k", laid_bailey_hashes_k)] }
def HashChunksSaid : Prop := hashChunksRow.holds Tryd.pinned (OpenSpec.ofChange hashChunksSpec)

/-- ITS FALSE NEIGHBOUR: 'it returns false'. Refute it at one input. -/
def hashChunksWrong : ChangeSpec := { name := "hashChunks", fn := fun _ => fun
  | [d1, d2, d3] => { results := [.lit (.bool false)], args := [d1, d2, d3] }
  | _ => none }
def HashChunksWrongFalsely : Prop := hashChunksRow.holds Tryd.pinned (OpenSpec.ofChange hashChunksWrong)

/-- 'baileylaw3.HashEdges': WHATEVER THE INPUT: true; the input reads as it did. -/
def hashEdgesSpec : ChangeSpec := { name := "hashEdges", fn := fun _ => fun
  | [d1, d2, d3] => { results := [.lit (.bool true)], args := [d1, d2, d3] }
  | _ => none }
def hashEdgesRow : OpenClaim := { program := "ytladijfaeieidaadoor", sum := "b6fcebae63d73c6b904867ef77c8529402e6338825d3568dbbc38d40cf2abf7b", func := "bailey/baileylaw3.HashEdges", spec := "hashEdges", unfollowed := true, recurses := true, named := ["bailey/hashes.k"], apart := false, laid := [("bailey/hashes.k", laid_bailey_hashes_k)] }
def HashEdgesSaid : Prop := hashEdgesRow.holds Tryd.pinned (OpenSpec.ofChange hashEdgesSpec)

/-- ITS FALSE NEIGHBOUR: 'it returns false'. Refute it at one input. -/
def hashEdgesWrong : ChangeSpec := { name := "hashEdges", fn := fun _ => fun
  | [d1, d2, d3] => { results := [.lit (.bool false)], args := [d1, d2, d3] }
  | _ => none }
def HashEdgesWrongFalsely : Prop := hashEdgesRow.holds Tryd.pinned (OpenSpec.ofChange hashEdgesWrong)

/-- 'baileylaw3.HashMGF1': WHATEVER THE INPUT: true; the input reads as it did. -/
def hashMGF1Spec : ChangeSpec := { name := "hashMGF1", fn := fun _ => fun
  | [d1, d2, d3] => { results := [.lit (.bool true)], args := [d1, d2, d3] }
  | _ => none }
def hashMGF1Row : OpenClaim := { program := "ytladijfaeieidaadoor", sum := "b6fcebae63d73c6b904867ef77c8529402e6338825d3568dbbc38d40cf2abf7b", func := "bailey/baileylaw3.HashMGF1", spec := "hashMGF1", unfollowed := true, recurses := true, named := ["bailey/hashes.k"], apart := false, laid := [("bailey/hashes.k", laid_bailey_hashes_k)] }
def HashMGF1Said : Prop := hashMGF1Row.holds Tryd.pinned (OpenSpec.ofChange hashMGF1Spec)

/-- ITS FALSE NEIGHBOUR: 'it returns false'. Refute it at one input. -/
def hashMGF1Wrong : ChangeSpec := { name := "hashMGF1", fn := fun _ => fun
  | [d1, d2, d3] => { results := [.lit (.bool false)], args := [d1, d2, d3] }
  | _ => none }
def HashMGF1WrongFalsely : Prop := hashMGF1Row.holds Tryd.pinned (OpenSpec.ofChange hashMGF1Wrong)

/-- 'baileylaw3.HashPBKDF2': WHATEVER THE INPUT: true; the input reads as it did. -/
def hashPBKDF2Spec : ChangeSpec := { name := "hashPBKDF2", fn := fun _ => fun
  | [d1, d2, d3, d4, d5] => { results := [.lit (.bool true)], args := [d1, d2, d3, d4, d5] }
  | _ => none }
def hashPBKDF2Row : OpenClaim := { program := "ytladijfaeieidaadoor", sum := "b6fcebae63d73c6b904867ef77c8529402e6338825d3568dbbc38d40cf2abf7b", func := "bailey/baileylaw3.HashPBKDF2", spec := "hashPBKDF2", unfollowed := true, recurses := true, named := ["bailey/hashes.k"], apart := false, laid := [("bailey/hashes.k", laid_bailey_hashes_k)] }
def HashPBKDF2Said : Prop := hashPBKDF2Row.holds Tryd.pinned (OpenSpec.ofChange hashPBKDF2Spec)

/-- ITS FALSE NEIGHBOUR: 'it returns false'. Refute it at one input. -/
def hashPBKDF2Wrong : ChangeSpec := { name := "hashPBKDF2", fn := fun _ => fun
  | [d1, d2, d3, d4, d5] => { results := [.lit (.bool false)], args := [d1, d2, d3, d4, d5] }
  | _ => none }
def HashPBKDF2WrongFalsely : Prop := hashPBKDF2Row.holds Tryd.pinned (OpenSpec.ofChange hashPBKDF2Wrong)

/-- 'baileylaw3.HashBig': WHATEVER THE INPUT: true; the input reads as it did. -/
def hashBigSpec : ChangeSpec := { name := "hashBig", fn := fun _ => fun
  | [] => { results := [.lit (.bool true)], args := [] }
  | _ => none }
def hashBigRow : OpenClaim := { program := "ytladijfaeieidaadoor", sum := "b6fcebae63d73c6b904867ef77c8529402e6338825d3568dbbc38d40cf2abf7b", func := "bailey/baileylaw3.HashBig", spec := "hashBig", unfollowed := true, recurses := true, named := ["bailey/hashes.k"], apart := false, laid := [("bailey/hashes.k", laid_bailey_hashes_k)] }
def HashBigSaid : Prop := hashBigRow.holds Tryd.pinned (OpenSpec.ofChange hashBigSpec)

/-- ITS FALSE NEIGHBOUR: 'it returns false'. Refute it at one input. -/
def hashBigWrong : ChangeSpec := { name := "hashBig", fn := fun _ => fun
  | [] => { results := [.lit (.bool false)], args := [] }
  | _ => none }
def HashBigWrongFalsely : Prop := hashBigRow.holds Tryd.pinned (OpenSpec.ofChange hashBigWrong)

/-- 'baileylaw16.AuditAppend': WHATEVER THE INPUT: true; the input reads as it did. -/
def auditAppendSpec : ChangeSpec := { name := "auditAppend", fn := fun _ => fun
  | [d] => { results := [.lit (.bool true)], args := [d] }
  | _ => none }
def auditAppendRow : OpenClaim := { program := "ytladijfaeieidaadoor", sum := "b6fcebae63d73c6b904867ef77c8529402e6338825d3568dbbc38d40cf2abf7b", func := "bailey/baileylaw16.AuditAppend", spec := "auditAppend", unfollowed := true, recurses := true, named := ["bailey/hashes.k"], apart := false, laid := [("bailey/hashes.k", laid_bailey_hashes_k)] }
def AuditAppendSaid : Prop := auditAppendRow.holds Tryd.pinned (OpenSpec.ofChange auditAppendSpec)

/-- ITS FALSE NEIGHBOUR: 'it returns false'. Refute it at one input. -/
def auditAppendWrong : ChangeSpec := { name := "auditAppend", fn := fun _ => fun
  | [d] => { results := [.lit (.bool false)], args := [d] }
  | _ => none }
def AuditAppendWrongFalsely : Prop := auditAppendRow.holds Tryd.pinned (OpenSpec.ofChange auditAppendWrong)

/-- 'baileylaw16.AuditTaken': WHATEVER THE INPUT: true; the input reads as it did. -/
def auditTakenSpec : ChangeSpec := { name := "auditTaken", fn := fun _ => fun
  | [d1, d2, d3] => { results := [.lit (.bool true)], args := [d1, d2, d3] }
  | _ => none }
def auditTakenRow : OpenClaim := { program := "ytladijfaeieidaadoor", sum := "b6fcebae63d73c6b904867ef77c8529402e6338825d3568dbbc38d40cf2abf7b", func := "bailey/baileylaw16.AuditTaken", spec := "auditTaken", unfollowed := true, recurses := true, named := ["bailey/hashes.k"], apart := false, laid := [("bailey/hashes.k", laid_bailey_hashes_k)] }
def AuditTakenSaid : Prop := auditTakenRow.holds Tryd.pinned (OpenSpec.ofChange auditTakenSpec)

/-- ITS FALSE NEIGHBOUR: 'it returns false'. Refute it at one input. -/
def auditTakenWrong : ChangeSpec := { name := "auditTaken", fn := fun _ => fun
  | [d1, d2, d3] => { results := [.lit (.bool false)], args := [d1, d2, d3] }
  | _ => none }
def AuditTakenWrongFalsely : Prop := auditTakenRow.holds Tryd.pinned (OpenSpec.ofChange auditTakenWrong)

/-- 'baileylaw16.AuditLong': WHATEVER THE INPUT: true; the input reads as it did. -/
def auditLongSpec : ChangeSpec := { name := "auditLong", fn := fun _ => fun
  | [d1, d2, d3] => { results := [.lit (.bool true)], args := [d1, d2, d3] }
  | _ => none }
def auditLongRow : OpenClaim := { program := "ytladijfaeieidaadoor", sum := "b6fcebae63d73c6b904867ef77c8529402e6338825d3568dbbc38d40cf2abf7b", func := "bailey/baileylaw16.AuditLong", spec := "auditLong", unfollowed := true, recurses := true, named := ["bailey/hashes.k"], apart := false, laid := [("bailey/hashes.k", laid_bailey_hashes_k)] }
def AuditLongSaid : Prop := auditLongRow.holds Tryd.pinned (OpenSpec.ofChange auditLongSpec)

/-- ITS FALSE NEIGHBOUR: 'it returns false'. Refute it at one input. -/
def auditLongWrong : ChangeSpec := { name := "auditLong", fn := fun _ => fun
  | [d1, d2, d3] => { results := [.lit (.bool false)], args := [d1, d2, d3] }
  | _ => none }
def AuditLongWrongFalsely : Prop := auditLongRow.holds Tryd.pinned (OpenSpec.ofChange auditLongWrong)

/-- 'baileylaw21.PinCode': WHATEVER THE INPUT: true; the input reads as it did. -/
def pinCodeSpec : ChangeSpec := { name := "pinCode", fn := fun _ => fun
  | [d] => { results := [.lit (.bool true)], args := [d] }
  | _ => none }
def pinCodeRow : OpenClaim := { program := "ytladijfaeieidaadoor", sum := "b6fcebae63d73c6b904867ef77c8529402e6338825d3568dbbc38d40cf2abf7b", func := "bailey/baileylaw21.PinCode", spec := "pinCode", inPlace := ["internal/bytealg.MakeNoZero"], unfollowed := true, recurses := true, named := ["bailey/hashes.k"], apart := false, laid := [("bailey/hashes.k", laid_bailey_hashes_k)] }
def PinCodeSaid : Prop := pinCodeRow.holds Tryd.pinned (OpenSpec.ofChange pinCodeSpec)

/-- ITS FALSE NEIGHBOUR: 'it returns false'. Refute it at one input. -/
def pinCodeWrong : ChangeSpec := { name := "pinCode", fn := fun _ => fun
  | [d] => { results := [.lit (.bool false)], args := [d] }
  | _ => none }
def PinCodeWrongFalsely : Prop := pinCodeRow.holds Tryd.pinned (OpenSpec.ofChange pinCodeWrong)

/-- 'baileylaw21.PinAll': WHATEVER THE INPUT: true; the input reads as it did. -/
def pinAllSpec : ChangeSpec := { name := "pinAll", fn := fun _ => fun
  | [d1, d2] => { results := [.lit (.bool true)], args := [d1, d2] }
  | _ => none }
def pinAllRow : OpenClaim := { program := "ytladijfaeieidaadoor", sum := "b6fcebae63d73c6b904867ef77c8529402e6338825d3568dbbc38d40cf2abf7b", func := "bailey/baileylaw21.PinAll", spec := "pinAll", inPlace := ["internal/bytealg.MakeNoZero"], unfollowed := true, recurses := true, named := ["bailey/hashes.k"], apart := false, laid := [("bailey/hashes.k", laid_bailey_hashes_k)] }
def PinAllSaid : Prop := pinAllRow.holds Tryd.pinned (OpenSpec.ofChange pinAllSpec)

/-- ITS FALSE NEIGHBOUR: 'it returns false'. Refute it at one input. -/
def pinAllWrong : ChangeSpec := { name := "pinAll", fn := fun _ => fun
  | [d1, d2] => { results := [.lit (.bool false)], args := [d1, d2] }
  | _ => none }
def PinAllWrongFalsely : Prop := pinAllRow.holds Tryd.pinned (OpenSpec.ofChange pinAllWrong)

/-- 'baileylaw21.PinNone': WHATEVER THE INPUT: true; the input reads as it did. -/
def pinNoneSpec : ChangeSpec := { name := "pinNone", fn := fun _ => fun
  | [] => { results := [.lit (.bool true)], args := [] }
  | _ => none }
def pinNoneRow : OpenClaim := { program := "ytladijfaeieidaadoor", sum := "b6fcebae63d73c6b904867ef77c8529402e6338825d3568dbbc38d40cf2abf7b", func := "bailey/baileylaw21.PinNone", spec := "pinNone", inPlace := ["internal/bytealg.MakeNoZero"], unfollowed := true, recurses := true, named := ["bailey/hashes.k"], apart := false, laid := [("bailey/hashes.k", laid_bailey_hashes_k)] }
def PinNoneSaid : Prop := pinNoneRow.holds Tryd.pinned (OpenSpec.ofChange pinNoneSpec)

/-- ITS FALSE NEIGHBOUR: 'it returns false'. Refute it at one input. -/
def pinNoneWrong : ChangeSpec := { name := "pinNone", fn := fun _ => fun
  | [] => { results := [.lit (.bool false)], args := [] }
  | _ => none }
def PinNoneWrongFalsely : Prop := pinNoneRow.holds Tryd.pinned (OpenSpec.ofChange pinNoneWrong)

/-- 'baileylaw8.PadInfo': WHATEVER THE INPUT: true; the input reads as it did. -/
def padInfoSpec : ChangeSpec := { name := "padInfo", fn := fun _ => fun
  | [d1, d2, d3] => { results := [.lit (.bool true)], args := [d1, d2, d3] }
  | _ => none }
def padInfoRow : OpenClaim := { program := "ytladijfaeieidaadoor", sum := "b6fcebae63d73c6b904867ef77c8529402e6338825d3568dbbc38d40cf2abf7b", func := "bailey/baileylaw8.PadInfo", spec := "padInfo", inPlace := ["internal/bytealg.MakeNoZero"], unfollowed := true, recurses := true, named := ["bailey/hashes.k", "unicode/utf8.first", "unicode/utf8.acceptRanges"], apart := false, laid := [("unicode/utf8.acceptRanges", laid_unicode_utf8_acceptRanges), ("bailey/hashes.k", laid_bailey_hashes_k), ("unicode/utf8.first", laid_unicode_utf8_first)] }
def PadInfoSaid : Prop := padInfoRow.holds Tryd.pinned (OpenSpec.ofChange padInfoSpec)

/-- ITS FALSE NEIGHBOUR: 'it returns false'. Refute it at one input. -/
def padInfoWrong : ChangeSpec := { name := "padInfo", fn := fun _ => fun
  | [d1, d2, d3] => { results := [.lit (.bool false)], args := [d1, d2, d3] }
  | _ => none }
def PadInfoWrongFalsely : Prop := padInfoRow.holds Tryd.pinned (OpenSpec.ofChange padInfoWrong)

/-- 'baileylaw8.PadOAEP': WHATEVER THE INPUT: true; the input reads as it did. -/
def padOAEPSpec : ChangeSpec := { name := "padOAEP", fn := fun _ => fun
  | [d1, d2, d3, d4, d5, d6] => { results := [.lit (.bool true)], args := [d1, d2, d3, d4, d5, d6] }
  | _ => none }
def padOAEPRow : OpenClaim := { program := "ytladijfaeieidaadoor", sum := "b6fcebae63d73c6b904867ef77c8529402e6338825d3568dbbc38d40cf2abf7b", func := "bailey/baileylaw8.PadOAEP", spec := "padOAEP", inPlace := ["internal/bytealg.MakeNoZero"], unfollowed := true, recurses := true, named := ["bailey/hashes.k", "unicode/utf8.first", "unicode/utf8.acceptRanges"], apart := false, laid := [("unicode/utf8.acceptRanges", laid_unicode_utf8_acceptRanges), ("bailey/hashes.k", laid_bailey_hashes_k), ("unicode/utf8.first", laid_unicode_utf8_first)] }
def PadOAEPSaid : Prop := padOAEPRow.holds Tryd.pinned (OpenSpec.ofChange padOAEPSpec)

/-- ITS FALSE NEIGHBOUR: 'it returns false'. Refute it at one input. -/
def padOAEPWrong : ChangeSpec := { name := "padOAEP", fn := fun _ => fun
  | [d1, d2, d3, d4, d5, d6] => { results := [.lit (.bool false)], args := [d1, d2, d3, d4, d5, d6] }
  | _ => none }
def PadOAEPWrongFalsely : Prop := padOAEPRow.holds Tryd.pinned (OpenSpec.ofChange padOAEPWrong)

/-- 'baileylaw8.PadPSS': WHATEVER THE INPUT: true; the input reads as it did. -/
def padPSSSpec : ChangeSpec := { name := "padPSS", fn := fun _ => fun
  | [d1, d2, d3, d4, d5, d6] => { results := [.lit (.bool true)], args := [d1, d2, d3, d4, d5, d6] }
  | _ => none }
def padPSSRow : OpenClaim := { program := "ytladijfaeieidaadoor", sum := "b6fcebae63d73c6b904867ef77c8529402e6338825d3568dbbc38d40cf2abf7b", func := "bailey/baileylaw8.PadPSS", spec := "padPSS", inPlace := ["internal/bytealg.MakeNoZero"], unfollowed := true, recurses := true, named := ["bailey/hashes.k", "unicode/utf8.first", "unicode/utf8.acceptRanges"], apart := false, laid := [("unicode/utf8.acceptRanges", laid_unicode_utf8_acceptRanges), ("bailey/hashes.k", laid_bailey_hashes_k), ("unicode/utf8.first", laid_unicode_utf8_first)] }
def PadPSSSaid : Prop := padPSSRow.holds Tryd.pinned (OpenSpec.ofChange padPSSSpec)

/-- ITS FALSE NEIGHBOUR: 'it returns false'. Refute it at one input. -/
def padPSSWrong : ChangeSpec := { name := "padPSS", fn := fun _ => fun
  | [d1, d2, d3, d4, d5, d6] => { results := [.lit (.bool false)], args := [d1, d2, d3, d4, d5, d6] }
  | _ => none }
def PadPSSWrongFalsely : Prop := padPSSRow.holds Tryd.pinned (OpenSpec.ofChange padPSSWrong)

/-- 'baileylaw8.PadSpoilt': WHATEVER THE INPUT: true; the input reads as it did. -/
def padSpoiltSpec : ChangeSpec := { name := "padSpoilt", fn := fun _ => fun
  | [d1, d2, d3, d4, d5] => { results := [.lit (.bool true)], args := [d1, d2, d3, d4, d5] }
  | _ => none }
def padSpoiltRow : OpenClaim := { program := "ytladijfaeieidaadoor", sum := "b6fcebae63d73c6b904867ef77c8529402e6338825d3568dbbc38d40cf2abf7b", func := "bailey/baileylaw8.PadSpoilt", spec := "padSpoilt", inPlace := ["internal/bytealg.MakeNoZero"], unfollowed := true, recurses := true, named := ["bailey/hashes.k", "unicode/utf8.first", "unicode/utf8.acceptRanges"], apart := false, laid := [("unicode/utf8.acceptRanges", laid_unicode_utf8_acceptRanges), ("bailey/hashes.k", laid_bailey_hashes_k), ("unicode/utf8.first", laid_unicode_utf8_first)] }
def PadSpoiltSaid : Prop := padSpoiltRow.holds Tryd.pinned (OpenSpec.ofChange padSpoiltSpec)

/-- ITS FALSE NEIGHBOUR: 'it returns false'. Refute it at one input. -/
def padSpoiltWrong : ChangeSpec := { name := "padSpoilt", fn := fun _ => fun
  | [d1, d2, d3, d4, d5] => { results := [.lit (.bool false)], args := [d1, d2, d3, d4, d5] }
  | _ => none }
def PadSpoiltWrongFalsely : Prop := padSpoiltRow.holds Tryd.pinned (OpenSpec.ofChange padSpoiltWrong)

/-- 'baileylaw8.PadDec1': WHATEVER THE INPUT: true; the input reads as it did. -/
def padDec1Spec : ChangeSpec := { name := "padDec1", fn := fun _ => fun
  | [d] => { results := [.lit (.bool true)], args := [d] }
  | _ => none }
def padDec1Row : OpenClaim := { program := "ytladijfaeieidaadoor", sum := "b6fcebae63d73c6b904867ef77c8529402e6338825d3568dbbc38d40cf2abf7b", func := "bailey/baileylaw8.PadDec1", spec := "padDec1", inPlace := ["internal/bytealg.MakeNoZero", "internal/bytealg.IndexByte"], unfollowed := true, recurses := true, named := ["bailey/hashes.k", "unicode/utf8.first", "unicode/utf8.acceptRanges"], apart := false, laid := [("unicode/utf8.acceptRanges", laid_unicode_utf8_acceptRanges), ("bailey/hashes.k", laid_bailey_hashes_k), ("unicode/utf8.first", laid_unicode_utf8_first)] }
def PadDec1Said : Prop := padDec1Row.holds Tryd.pinned (OpenSpec.ofChange padDec1Spec)

/-- ITS FALSE NEIGHBOUR: 'it returns false'. Refute it at one input. -/
def padDec1Wrong : ChangeSpec := { name := "padDec1", fn := fun _ => fun
  | [d] => { results := [.lit (.bool false)], args := [d] }
  | _ => none }
def PadDec1WrongFalsely : Prop := padDec1Row.holds Tryd.pinned (OpenSpec.ofChange padDec1Wrong)

/-- 'baileylaw8.PadEnc1': WHATEVER THE INPUT: true; the input reads as it did. -/
def padEnc1Spec : ChangeSpec := { name := "padEnc1", fn := fun _ => fun
  | [d1, d2, d3] => { results := [.lit (.bool true)], args := [d1, d2, d3] }
  | _ => none }
def padEnc1Row : OpenClaim := { program := "ytladijfaeieidaadoor", sum := "b6fcebae63d73c6b904867ef77c8529402e6338825d3568dbbc38d40cf2abf7b", func := "bailey/baileylaw8.PadEnc1", spec := "padEnc1", inPlace := ["internal/bytealg.MakeNoZero", "internal/bytealg.IndexByte"], unfollowed := true, recurses := true, named := ["bailey/hashes.k", "unicode/utf8.first", "unicode/utf8.acceptRanges"], apart := false, laid := [("unicode/utf8.acceptRanges", laid_unicode_utf8_acceptRanges), ("bailey/hashes.k", laid_bailey_hashes_k), ("unicode/utf8.first", laid_unicode_utf8_first)] }
def PadEnc1Said : Prop := padEnc1Row.holds Tryd.pinned (OpenSpec.ofChange padEnc1Spec)

/-- ITS FALSE NEIGHBOUR: 'it returns false'. Refute it at one input. -/
def padEnc1Wrong : ChangeSpec := { name := "padEnc1", fn := fun _ => fun
  | [d1, d2, d3] => { results := [.lit (.bool false)], args := [d1, d2, d3] }
  | _ => none }
def PadEnc1WrongFalsely : Prop := padEnc1Row.holds Tryd.pinned (OpenSpec.ofChange padEnc1Wrong)

/- THE SECOND FORM. 'bulk': how many values and letters a reading holds, each counted each time it is reached (what is shared counts as often as it is met; a slice's spare places count too). A statement '..UptoSaid' is the law's where the arguments, and the package variables that the reading takes, are together of bulk at most 1048576: NARROWER than '..Said'. Prove '..Said' where nothing that the law and all that it calls make is longer than what came in: it says more and counts as full. Else prove '..UptoSaid'. A law counts once. -/
mutual
def uptoBulk {H : Type} : DataW H → Nat
  | .lit (.string bytes) => bytes.length + 1
  | .lit _ => 1
  | .nil => 1
  | .ptr d => uptoBulk d + 1
  | .slice elems spare => uptoBulkAll elems + uptoBulkAll spare + 1
  | .agg parts => uptoBulkAll parts + 1
  | .iface _ d => uptoBulk d + 1
  | .map entries => uptoBulkEntries entries + 1
  | .held _ => 1
def uptoBulkAll {H : Type} : List (DataW H) → Nat
  | [] => 0
  | d :: r => uptoBulk d + uptoBulkAll r
def uptoBulkEntries {H : Type} : List (Lit × DataW H) → Nat
  | [] => 0
  | x :: r => uptoBulkEntry x + uptoBulkEntries r
def uptoBulkEntry {H : Type} : Lit × DataW H → Nat
  | (.string bytes, d) => bytes.length + uptoBulk d + 1
  | (_, d) => uptoBulk d + 1
 end
def uptoSmall : (H : Type) → List (DataW H) → Bool := fun _ ds => decide (uptoBulkAll ds ≤ 1048576)
def OpenSpec.upto (s : _root_.Go.ChangeSpec) : _root_.Go.OpenSpec := { _root_.Go.OpenSpec.ofChange s with cond := some uptoSmall }

/-- 'baileylaw3.HashAll', WHERE WHAT IT READS IS OF BULK AT MOST 1048576: true; the input reads as it did. -/
def hashAllUptoRow : OpenClaim := { program := "ytladijfaeieidaadoor", sum := "b6fcebae63d73c6b904867ef77c8529402e6338825d3568dbbc38d40cf2abf7b", func := "bailey/baileylaw3.HashAll", spec := "hashAll", unfollowed := true, recurses := true, named := ["bailey/hashes.k"], apart := false, laid := [("bailey/hashes.k", laid_bailey_hashes_k)], narrowed := true }
def HashAllUptoSaid : Prop := hashAllUptoRow.holds Tryd.pinned (OpenSpec.upto hashAllSpec)

/-- 'baileylaw3.HashParts', WHERE WHAT IT READS IS OF BULK AT MOST 1048576: true; the input reads as it did. -/
def hashPartsUptoRow : OpenClaim := { program := "ytladijfaeieidaadoor", sum := "b6fcebae63d73c6b904867ef77c8529402e6338825d3568dbbc38d40cf2abf7b", func := "bailey/baileylaw3.HashParts", spec := "hashParts", unfollowed := true, recurses := true, named := ["bailey/hashes.k"], apart := false, laid := [("bailey/hashes.k", laid_bailey_hashes_k)], narrowed := true }
def HashPartsUptoSaid : Prop := hashPartsUptoRow.holds Tryd.pinned (OpenSpec.upto hashPartsSpec)

/-- 'baileylaw3.HashHMAC', WHERE WHAT IT READS IS OF BULK AT MOST 1048576: true; the input reads as it did. -/
def hashHMACUptoRow : OpenClaim := { program := "ytladijfaeieidaadoor", sum := "b6fcebae63d73c6b904867ef77c8529402e6338825d3568dbbc38d40cf2abf7b", func := "bailey/baileylaw3.HashHMAC", spec := "hashHMAC", unfollowed := true, recurses := true, named := ["bailey/hashes.k"], apart := false, laid := [("bailey/hashes.k", laid_bailey_hashes_k)], narrowed := true }
def HashHMACUptoSaid : Prop := hashHMACUptoRow.holds Tryd.pinned (OpenSpec.upto hashHMACSpec)

/-- 'baileylaw3.HashChunks', WHERE WHAT IT READS IS OF BULK AT MOST 1048576: true; the input reads as it did. -/
def hashChunksUptoRow : OpenClaim := { program := "ytladijfaeieidaadoor", sum := "b6fcebae63d73c6b904867ef77c8529402e6338825d3568dbbc38d40cf2abf7b", func := "bailey/baileylaw3.HashChunks", spec := "hashChunks", unfollowed := true, recurses := true, named := ["bailey/hashes.k"], apart := false, laid := [("bailey/hashes.k", laid_bailey_hashes_k)], narrowed := true }
def HashChunksUptoSaid : Prop := hashChunksUptoRow.holds Tryd.pinned (OpenSpec.upto hashChunksSpec)

/-- 'baileylaw3.HashEdges', WHERE WHAT IT READS IS OF BULK AT MOST 1048576: true; the input reads as it did. -/
def hashEdgesUptoRow : OpenClaim := { program := "ytladijfaeieidaadoor", sum := "b6fcebae63d73c6b904867ef77c8529402e6338825d3568dbbc38d40cf2abf7b", func := "bailey/baileylaw3.HashEdges", spec := "hashEdges", unfollowed := true, recurses := true, named := ["bailey/hashes.k"], apart := false, laid := [("bailey/hashes.k", laid_bailey_hashes_k)], narrowed := true }
def HashEdgesUptoSaid : Prop := hashEdgesUptoRow.holds Tryd.pinned (OpenSpec.upto hashEdgesSpec)

/-- 'baileylaw3.HashMGF1', WHERE WHAT IT READS IS OF BULK AT MOST 1048576: true; the input reads as it did. -/
def hashMGF1UptoRow : OpenClaim := { program := "ytladijfaeieidaadoor", sum := "b6fcebae63d73c6b904867ef77c8529402e6338825d3568dbbc38d40cf2abf7b", func := "bailey/baileylaw3.HashMGF1", spec := "hashMGF1", unfollowed := true, recurses := true, named := ["bailey/hashes.k"], apart := false, laid := [("bailey/hashes.k", laid_bailey_hashes_k)], narrowed := true }
def HashMGF1UptoSaid : Prop := hashMGF1UptoRow.holds Tryd.pinned (OpenSpec.upto hashMGF1Spec)

/-- 'baileylaw3.HashPBKDF2', WHERE WHAT IT READS IS OF BULK AT MOST 1048576: true; the input reads as it did. -/
def hashPBKDF2UptoRow : OpenClaim := { program := "ytladijfaeieidaadoor", sum := "b6fcebae63d73c6b904867ef77c8529402e6338825d3568dbbc38d40cf2abf7b", func := "bailey/baileylaw3.HashPBKDF2", spec := "hashPBKDF2", unfollowed := true, recurses := true, named := ["bailey/hashes.k"], apart := false, laid := [("bailey/hashes.k", laid_bailey_hashes_k)], narrowed := true }
def HashPBKDF2UptoSaid : Prop := hashPBKDF2UptoRow.holds Tryd.pinned (OpenSpec.upto hashPBKDF2Spec)

/-- 'baileylaw3.HashBig', WHERE WHAT IT READS IS OF BULK AT MOST 1048576: true; the input reads as it did. -/
def hashBigUptoRow : OpenClaim := { program := "ytladijfaeieidaadoor", sum := "b6fcebae63d73c6b904867ef77c8529402e6338825d3568dbbc38d40cf2abf7b", func := "bailey/baileylaw3.HashBig", spec := "hashBig", unfollowed := true, recurses := true, named := ["bailey/hashes.k"], apart := false, laid := [("bailey/hashes.k", laid_bailey_hashes_k)], narrowed := true }
def HashBigUptoSaid : Prop := hashBigUptoRow.holds Tryd.pinned (OpenSpec.upto hashBigSpec)

/-- 'baileylaw16.AuditAppend', WHERE WHAT IT READS IS OF BULK AT MOST 1048576: true; the input reads as it did. -/
def auditAppendUptoRow : OpenClaim := { program := "ytladijfaeieidaadoor", sum := "b6fcebae63d73c6b904867ef77c8529402e6338825d3568dbbc38d40cf2abf7b", func := "bailey/baileylaw16.AuditAppend", spec := "auditAppend", unfollowed := true, recurses := true, named := ["bailey/hashes.k"], apart := false, laid := [("bailey/hashes.k", laid_bailey_hashes_k)], narrowed := true }
def AuditAppendUptoSaid : Prop := auditAppendUptoRow.holds Tryd.pinned (OpenSpec.upto auditAppendSpec)

/-- 'baileylaw16.AuditTaken', WHERE WHAT IT READS IS OF BULK AT MOST 1048576: true; the input reads as it did. -/
def auditTakenUptoRow : OpenClaim := { program := "ytladijfaeieidaadoor", sum := "b6fcebae63d73c6b904867ef77c8529402e6338825d3568dbbc38d40cf2abf7b", func := "bailey/baileylaw16.AuditTaken", spec := "auditTaken", unfollowed := true, recurses := true, named := ["bailey/hashes.k"], apart := false, laid := [("bailey/hashes.k", laid_bailey_hashes_k)], narrowed := true }
def AuditTakenUptoSaid : Prop := auditTakenUptoRow.holds Tryd.pinned (OpenSpec.upto auditTakenSpec)

/-- 'baileylaw16.AuditLong', WHERE WHAT IT READS IS OF BULK AT MOST 1048576: true; the input reads as it did. -/
def auditLongUptoRow : OpenClaim := { program := "ytladijfaeieidaadoor", sum := "b6fcebae63d73c6b904867ef77c8529402e6338825d3568dbbc38d40cf2abf7b", func := "bailey/baileylaw16.AuditLong", spec := "auditLong", unfollowed := true, recurses := true, named := ["bailey/hashes.k"], apart := false, laid := [("bailey/hashes.k", laid_bailey_hashes_k)], narrowed := true }
def AuditLongUptoSaid : Prop := auditLongUptoRow.holds Tryd.pinned (OpenSpec.upto auditLongSpec)

/-- 'baileylaw21.PinCode', WHERE WHAT IT READS IS OF BULK AT MOST 1048576: true; the input reads as it did. -/
def pinCodeUptoRow : OpenClaim := { program := "ytladijfaeieidaadoor", sum := "b6fcebae63d73c6b904867ef77c8529402e6338825d3568dbbc38d40cf2abf7b", func := "bailey/baileylaw21.PinCode", spec := "pinCode", inPlace := ["internal/bytealg.MakeNoZero"], unfollowed := true, recurses := true, named := ["bailey/hashes.k"], apart := false, laid := [("bailey/hashes.k", laid_bailey_hashes_k)], narrowed := true }
def PinCodeUptoSaid : Prop := pinCodeUptoRow.holds Tryd.pinned (OpenSpec.upto pinCodeSpec)

/-- 'baileylaw21.PinAll', WHERE WHAT IT READS IS OF BULK AT MOST 1048576: true; the input reads as it did. -/
def pinAllUptoRow : OpenClaim := { program := "ytladijfaeieidaadoor", sum := "b6fcebae63d73c6b904867ef77c8529402e6338825d3568dbbc38d40cf2abf7b", func := "bailey/baileylaw21.PinAll", spec := "pinAll", inPlace := ["internal/bytealg.MakeNoZero"], unfollowed := true, recurses := true, named := ["bailey/hashes.k"], apart := false, laid := [("bailey/hashes.k", laid_bailey_hashes_k)], narrowed := true }
def PinAllUptoSaid : Prop := pinAllUptoRow.holds Tryd.pinned (OpenSpec.upto pinAllSpec)

/-- 'baileylaw21.PinNone', WHERE WHAT IT READS IS OF BULK AT MOST 1048576: true; the input reads as it did. -/
def pinNoneUptoRow : OpenClaim := { program := "ytladijfaeieidaadoor", sum := "b6fcebae63d73c6b904867ef77c8529402e6338825d3568dbbc38d40cf2abf7b", func := "bailey/baileylaw21.PinNone", spec := "pinNone", inPlace := ["internal/bytealg.MakeNoZero"], unfollowed := true, recurses := true, named := ["bailey/hashes.k"], apart := false, laid := [("bailey/hashes.k", laid_bailey_hashes_k)], narrowed := true }
def PinNoneUptoSaid : Prop := pinNoneUptoRow.holds Tryd.pinned (OpenSpec.upto pinNoneSpec)

/-- 'baileylaw8.PadInfo', WHERE WHAT IT READS IS OF BULK AT MOST 1048576: true; the input reads as it did. -/
def padInfoUptoRow : OpenClaim := { program := "ytladijfaeieidaadoor", sum := "b6fcebae63d73c6b904867ef77c8529402e6338825d3568dbbc38d40cf2abf7b", func := "bailey/baileylaw8.PadInfo", spec := "padInfo", inPlace := ["internal/bytealg.MakeNoZero"], unfollowed := true, recurses := true, named := ["bailey/hashes.k", "unicode/utf8.first", "unicode/utf8.acceptRanges"], apart := false, laid := [("unicode/utf8.acceptRanges", laid_unicode_utf8_acceptRanges), ("bailey/hashes.k", laid_bailey_hashes_k), ("unicode/utf8.first", laid_unicode_utf8_first)], narrowed := true }
def PadInfoUptoSaid : Prop := padInfoUptoRow.holds Tryd.pinned (OpenSpec.upto padInfoSpec)

/-- 'baileylaw8.PadOAEP', WHERE WHAT IT READS IS OF BULK AT MOST 1048576: true; the input reads as it did. -/
def padOAEPUptoRow : OpenClaim := { program := "ytladijfaeieidaadoor", sum := "b6fcebae63d73c6b904867ef77c8529402e6338825d3568dbbc38d40cf2abf7b", func := "bailey/baileylaw8.PadOAEP", spec := "padOAEP", inPlace := ["internal/bytealg.MakeNoZero"], unfollowed := true, recurses := true, named := ["bailey/hashes.k", "unicode/utf8.first", "unicode/utf8.acceptRanges"], apart := false, laid := [("unicode/utf8.acceptRanges", laid_unicode_utf8_acceptRanges), ("bailey/hashes.k", laid_bailey_hashes_k), ("unicode/utf8.first", laid_unicode_utf8_first)], narrowed := true }
def PadOAEPUptoSaid : Prop := padOAEPUptoRow.holds Tryd.pinned (OpenSpec.upto padOAEPSpec)

/-- 'baileylaw8.PadPSS', WHERE WHAT IT READS IS OF BULK AT MOST 1048576: true; the input reads as it did. -/
def padPSSUptoRow : OpenClaim := { program := "ytladijfaeieidaadoor", sum := "b6fcebae63d73c6b904867ef77c8529402e6338825d3568dbbc38d40cf2abf7b", func := "bailey/baileylaw8.PadPSS", spec := "padPSS", inPlace := ["internal/bytealg.MakeNoZero"], unfollowed := true, recurses := true, named := ["bailey/hashes.k", "unicode/utf8.first", "unicode/utf8.acceptRanges"], apart := false, laid := [("unicode/utf8.acceptRanges", laid_unicode_utf8_acceptRanges), ("bailey/hashes.k", laid_bailey_hashes_k), ("unicode/utf8.first", laid_unicode_utf8_first)], narrowed := true }
def PadPSSUptoSaid : Prop := padPSSUptoRow.holds Tryd.pinned (OpenSpec.upto padPSSSpec)

/-- 'baileylaw8.PadSpoilt', WHERE WHAT IT READS IS OF BULK AT MOST 1048576: true; the input reads as it did. -/
def padSpoiltUptoRow : OpenClaim := { program := "ytladijfaeieidaadoor", sum := "b6fcebae63d73c6b904867ef77c8529402e6338825d3568dbbc38d40cf2abf7b", func := "bailey/baileylaw8.PadSpoilt", spec := "padSpoilt", inPlace := ["internal/bytealg.MakeNoZero"], unfollowed := true, recurses := true, named := ["bailey/hashes.k", "unicode/utf8.first", "unicode/utf8.acceptRanges"], apart := false, laid := [("unicode/utf8.acceptRanges", laid_unicode_utf8_acceptRanges), ("bailey/hashes.k", laid_bailey_hashes_k), ("unicode/utf8.first", laid_unicode_utf8_first)], narrowed := true }
def PadSpoiltUptoSaid : Prop := padSpoiltUptoRow.holds Tryd.pinned (OpenSpec.upto padSpoiltSpec)

/-- 'baileylaw8.PadDec1', WHERE WHAT IT READS IS OF BULK AT MOST 1048576: true; the input reads as it did. -/
def padDec1UptoRow : OpenClaim := { program := "ytladijfaeieidaadoor", sum := "b6fcebae63d73c6b904867ef77c8529402e6338825d3568dbbc38d40cf2abf7b", func := "bailey/baileylaw8.PadDec1", spec := "padDec1", inPlace := ["internal/bytealg.MakeNoZero", "internal/bytealg.IndexByte"], unfollowed := true, recurses := true, named := ["bailey/hashes.k", "unicode/utf8.first", "unicode/utf8.acceptRanges"], apart := false, laid := [("unicode/utf8.acceptRanges", laid_unicode_utf8_acceptRanges), ("bailey/hashes.k", laid_bailey_hashes_k), ("unicode/utf8.first", laid_unicode_utf8_first)], narrowed := true }
def PadDec1UptoSaid : Prop := padDec1UptoRow.holds Tryd.pinned (OpenSpec.upto padDec1Spec)

/-- 'baileylaw8.PadEnc1', WHERE WHAT IT READS IS OF BULK AT MOST 1048576: true; the input reads as it did. -/
def padEnc1UptoRow : OpenClaim := { program := "ytladijfaeieidaadoor", sum := "b6fcebae63d73c6b904867ef77c8529402e6338825d3568dbbc38d40cf2abf7b", func := "bailey/baileylaw8.PadEnc1", spec := "padEnc1", inPlace := ["internal/bytealg.MakeNoZero", "internal/bytealg.IndexByte"], unfollowed := true, recurses := true, named := ["bailey/hashes.k", "unicode/utf8.first", "unicode/utf8.acceptRanges"], apart := false, laid := [("unicode/utf8.acceptRanges", laid_unicode_utf8_acceptRanges), ("bailey/hashes.k", laid_bailey_hashes_k), ("unicode/utf8.first", laid_unicode_utf8_first)], narrowed := true }
def PadEnc1UptoSaid : Prop := padEnc1UptoRow.holds Tryd.pinned (OpenSpec.upto padEnc1Spec)

end Rows
end Go.Proofs.YtladijfaeieidaaDoor
