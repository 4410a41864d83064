/-
  DERIVED. GIVEN WITH THE SEED: THE CARDS: each row of YtladijfaeieidaaDoorRows.lean that lists a variable, with what it lists TIED to the program's text (the seventh form; the later family's looks); each row that meets fmt, with fmt's text TOLD by the authors' own Lean function (tested against real Go, not proved from fmt's source: count such statements apart). THE CARD IS WHAT COUNTS. Prove the row's statement (the work); the ties are given (YtladijfaeieidaaDoorTie.lean); close each card by the builder's one call (the guide's Derived/Test/ToyasCard.lean, 'card_holds'). Laid BY PROGRAM, IN A SANDBOX (cutbox-door.mjs). By AI agents, Wed Nov 11 2026. No macro, syntax, notation, axiom, sorry.
-/
import Derived.Test.YtladijfaeieidaaDoorRows
import GoSem.ClaimSeven
namespace Go.Proofs.YtladijfaeieidaaDoor
namespace Rows

/-- THE TIED CARD OF 'baileylaw3.HashAll'. -/
def hashAllCard : Claim7 := { stood := { row := hashAllRow, standIns := [], harness := (true, "47ce097f48140f9ee814e6726e76af8474758ebe20717ff15c8c1723c293bbf0"), looks := false }, kinds := [], alts := [], laidByText := true, laidKinds := [.data], laidTests := true, laidLooks := .later }
def HashAllCardSaid : Prop := Claim7.holds Tryd.pinned (.plain (OpenSpec.ofChange hashAllSpec)) hashAllCard

/-- THE TIED CARD OF 'baileylaw3.HashParts'. -/
def hashPartsCard : Claim7 := { stood := { row := hashPartsRow, standIns := [], harness := (true, "47ce097f48140f9ee814e6726e76af8474758ebe20717ff15c8c1723c293bbf0"), looks := false }, kinds := [], alts := [], laidByText := true, laidKinds := [.data], laidTests := true, laidLooks := .later }
def HashPartsCardSaid : Prop := Claim7.holds Tryd.pinned (.plain (OpenSpec.ofChange hashPartsSpec)) hashPartsCard

/-- THE TIED CARD OF 'baileylaw3.HashHMAC'. -/
def hashHMACCard : Claim7 := { stood := { row := hashHMACRow, standIns := [], harness := (true, "47ce097f48140f9ee814e6726e76af8474758ebe20717ff15c8c1723c293bbf0"), looks := false }, kinds := [], alts := [], laidByText := true, laidKinds := [.data], laidTests := true, laidLooks := .later }
def HashHMACCardSaid : Prop := Claim7.holds Tryd.pinned (.plain (OpenSpec.ofChange hashHMACSpec)) hashHMACCard

/-- THE TIED CARD OF 'baileylaw3.HashChunks'. -/
def hashChunksCard : Claim7 := { stood := { row := hashChunksRow, standIns := [], harness := (true, "47ce097f48140f9ee814e6726e76af8474758ebe20717ff15c8c1723c293bbf0"), looks := false }, kinds := [], alts := [], laidByText := true, laidKinds := [.data], laidTests := true, laidLooks := .later }
def HashChunksCardSaid : Prop := Claim7.holds Tryd.pinned (.plain (OpenSpec.ofChange hashChunksSpec)) hashChunksCard

/-- THE TIED CARD OF 'baileylaw3.HashEdges'. -/
def hashEdgesCard : Claim7 := { stood := { row := hashEdgesRow, standIns := [], harness := (true, "47ce097f48140f9ee814e6726e76af8474758ebe20717ff15c8c1723c293bbf0"), looks := false }, kinds := [], alts := [], laidByText := true, laidKinds := [.data], laidTests := true, laidLooks := .later }
def HashEdgesCardSaid : Prop := Claim7.holds Tryd.pinned (.plain (OpenSpec.ofChange hashEdgesSpec)) hashEdgesCard

/-- THE TIED CARD OF 'baileylaw3.HashMGF1'. -/
def hashMGF1Card : Claim7 := { stood := { row := hashMGF1Row, standIns := [], harness := (true, "47ce097f48140f9ee814e6726e76af8474758ebe20717ff15c8c1723c293bbf0"), looks := false }, kinds := [], alts := [], laidByText := true, laidKinds := [.data], laidTests := true, laidLooks := .later }
def HashMGF1CardSaid : Prop := Claim7.holds Tryd.pinned (.plain (OpenSpec.ofChange hashMGF1Spec)) hashMGF1Card

/-- THE TIED CARD OF 'baileylaw3.HashPBKDF2'. -/
def hashPBKDF2Card : Claim7 := { stood := { row := hashPBKDF2Row, standIns := [], harness := (true, "47ce097f48140f9ee814e6726e76af8474758ebe20717ff15c8c1723c293bbf0"), looks := false }, kinds := [], alts := [], laidByText := true, laidKinds := [.data], laidTests := true, laidLooks := .later }
def HashPBKDF2CardSaid : Prop := Claim7.holds Tryd.pinned (.plain (OpenSpec.ofChange hashPBKDF2Spec)) hashPBKDF2Card

/-- THE TIED CARD OF 'baileylaw3.HashBig'. -/
def hashBigCard : Claim7 := { stood := { row := hashBigRow, standIns := [], harness := (true, "47ce097f48140f9ee814e6726e76af8474758ebe20717ff15c8c1723c293bbf0"), looks := false }, kinds := [], alts := [], laidByText := true, laidKinds := [.data], laidTests := true, laidLooks := .later }
def HashBigCardSaid : Prop := Claim7.holds Tryd.pinned (.plain (OpenSpec.ofChange hashBigSpec)) hashBigCard

/-- THE TIED CARD OF 'baileylaw16.AuditAppend'. -/
def auditAppendCard : Claim7 := { stood := { row := auditAppendRow, standIns := [], harness := (true, "47ce097f48140f9ee814e6726e76af8474758ebe20717ff15c8c1723c293bbf0"), looks := false }, kinds := [], alts := [], laidByText := true, laidKinds := [.data], laidTests := true, laidLooks := .later }
def AuditAppendCardSaid : Prop := Claim7.holds Tryd.pinned (.plain (OpenSpec.ofChange auditAppendSpec)) auditAppendCard

/-- THE TIED CARD OF 'baileylaw16.AuditTaken'. -/
def auditTakenCard : Claim7 := { stood := { row := auditTakenRow, standIns := [], harness := (true, "47ce097f48140f9ee814e6726e76af8474758ebe20717ff15c8c1723c293bbf0"), looks := false }, kinds := [], alts := [], laidByText := true, laidKinds := [.data], laidTests := true, laidLooks := .later }
def AuditTakenCardSaid : Prop := Claim7.holds Tryd.pinned (.plain (OpenSpec.ofChange auditTakenSpec)) auditTakenCard

/-- THE TIED CARD OF 'baileylaw16.AuditLong'. -/
def auditLongCard : Claim7 := { stood := { row := auditLongRow, standIns := [], harness := (true, "47ce097f48140f9ee814e6726e76af8474758ebe20717ff15c8c1723c293bbf0"), looks := false }, kinds := [], alts := [], laidByText := true, laidKinds := [.data], laidTests := true, laidLooks := .later }
def AuditLongCardSaid : Prop := Claim7.holds Tryd.pinned (.plain (OpenSpec.ofChange auditLongSpec)) auditLongCard

/-- THE TIED CARD OF 'baileylaw21.PinCode'. -/
def pinCodeCard : Claim7 := { stood := { row := pinCodeRow, standIns := [], harness := (true, "47ce097f48140f9ee814e6726e76af8474758ebe20717ff15c8c1723c293bbf0"), looks := false }, kinds := [], alts := [], laidByText := true, laidKinds := [.data], laidTests := true, laidLooks := .later }
def PinCodeCardSaid : Prop := Claim7.holds Tryd.pinned (.plain (OpenSpec.ofChange pinCodeSpec)) pinCodeCard

/-- THE TIED CARD OF 'baileylaw21.PinAll'. -/
def pinAllCard : Claim7 := { stood := { row := pinAllRow, standIns := [], harness := (true, "47ce097f48140f9ee814e6726e76af8474758ebe20717ff15c8c1723c293bbf0"), looks := false }, kinds := [], alts := [], laidByText := true, laidKinds := [.data], laidTests := true, laidLooks := .later }
def PinAllCardSaid : Prop := Claim7.holds Tryd.pinned (.plain (OpenSpec.ofChange pinAllSpec)) pinAllCard

/-- THE TIED CARD OF 'baileylaw21.PinNone'. -/
def pinNoneCard : Claim7 := { stood := { row := pinNoneRow, standIns := [], harness := (true, "47ce097f48140f9ee814e6726e76af8474758ebe20717ff15c8c1723c293bbf0"), looks := false }, kinds := [], alts := [], laidByText := true, laidKinds := [.data], laidTests := true, laidLooks := .later }
def PinNoneCardSaid : Prop := Claim7.holds Tryd.pinned (.plain (OpenSpec.ofChange pinNoneSpec)) pinNoneCard

/-- THE TIED CARD OF 'baileylaw8.PadInfo'. -/
def padInfoCard : Claim7 := { stood := { row := padInfoRow, standIns := [], harness := (true, "47ce097f48140f9ee814e6726e76af8474758ebe20717ff15c8c1723c293bbf0"), looks := false }, kinds := [], alts := [], laidByText := true, laidKinds := [.data, .data, .pinned], laidTests := true, laidLooks := .later }
def PadInfoCardSaid : Prop := Claim7.holds Tryd.pinned (.plain (OpenSpec.ofChange padInfoSpec)) padInfoCard

/-- THE TIED CARD OF 'baileylaw8.PadOAEP'. -/
def padOAEPCard : Claim7 := { stood := { row := padOAEPRow, standIns := [], harness := (true, "47ce097f48140f9ee814e6726e76af8474758ebe20717ff15c8c1723c293bbf0"), looks := false }, kinds := [], alts := [], laidByText := true, laidKinds := [.data, .data, .pinned], laidTests := true, laidLooks := .later }
def PadOAEPCardSaid : Prop := Claim7.holds Tryd.pinned (.plain (OpenSpec.ofChange padOAEPSpec)) padOAEPCard

/-- THE TIED CARD OF 'baileylaw8.PadPSS'. -/
def padPSSCard : Claim7 := { stood := { row := padPSSRow, standIns := [], harness := (true, "47ce097f48140f9ee814e6726e76af8474758ebe20717ff15c8c1723c293bbf0"), looks := false }, kinds := [], alts := [], laidByText := true, laidKinds := [.data, .data, .pinned], laidTests := true, laidLooks := .later }
def PadPSSCardSaid : Prop := Claim7.holds Tryd.pinned (.plain (OpenSpec.ofChange padPSSSpec)) padPSSCard

/-- THE TIED CARD OF 'baileylaw8.PadSpoilt'. -/
def padSpoiltCard : Claim7 := { stood := { row := padSpoiltRow, standIns := [], harness := (true, "47ce097f48140f9ee814e6726e76af8474758ebe20717ff15c8c1723c293bbf0"), looks := false }, kinds := [], alts := [], laidByText := true, laidKinds := [.data, .data, .pinned], laidTests := true, laidLooks := .later }
def PadSpoiltCardSaid : Prop := Claim7.holds Tryd.pinned (.plain (OpenSpec.ofChange padSpoiltSpec)) padSpoiltCard

/-- THE TIED CARD OF 'baileylaw8.PadDec1'. -/
def padDec1Card : Claim7 := { stood := { row := padDec1Row, standIns := [], harness := (true, "47ce097f48140f9ee814e6726e76af8474758ebe20717ff15c8c1723c293bbf0"), looks := false }, kinds := [], alts := [], laidByText := true, laidKinds := [.data, .data, .pinned], laidTests := true, laidLooks := .later }
def PadDec1CardSaid : Prop := Claim7.holds Tryd.pinned (.plain (OpenSpec.ofChange padDec1Spec)) padDec1Card

/-- THE TIED CARD OF 'baileylaw8.PadEnc1'. -/
def padEnc1Card : Claim7 := { stood := { row := padEnc1Row, standIns := [], harness := (true, "47ce097f48140f9ee814e6726e76af8474758ebe20717ff15c8c1723c293bbf0"), looks := false }, kinds := [], alts := [], laidByText := true, laidKinds := [.data, .data, .pinned], laidTests := true, laidLooks := .later }
def PadEnc1CardSaid : Prop := Claim7.holds Tryd.pinned (.plain (OpenSpec.ofChange padEnc1Spec)) padEnc1Card

/-- THE SECOND FORM's CARD OF 'baileylaw3.HashAll'. -/
def hashAllUptoCard : Claim7 := { stood := { row := hashAllUptoRow, standIns := [], harness := (true, "47ce097f48140f9ee814e6726e76af8474758ebe20717ff15c8c1723c293bbf0"), looks := false }, kinds := [], alts := [], laidByText := true, laidKinds := [.data], laidTests := true, laidLooks := .later }
def HashAllUptoCardSaid : Prop := Claim7.holds Tryd.pinned (.plain (OpenSpec.upto hashAllSpec)) hashAllUptoCard

/-- THE SECOND FORM's CARD OF 'baileylaw3.HashParts'. -/
def hashPartsUptoCard : Claim7 := { stood := { row := hashPartsUptoRow, standIns := [], harness := (true, "47ce097f48140f9ee814e6726e76af8474758ebe20717ff15c8c1723c293bbf0"), looks := false }, kinds := [], alts := [], laidByText := true, laidKinds := [.data], laidTests := true, laidLooks := .later }
def HashPartsUptoCardSaid : Prop := Claim7.holds Tryd.pinned (.plain (OpenSpec.upto hashPartsSpec)) hashPartsUptoCard

/-- THE SECOND FORM's CARD OF 'baileylaw3.HashHMAC'. -/
def hashHMACUptoCard : Claim7 := { stood := { row := hashHMACUptoRow, standIns := [], harness := (true, "47ce097f48140f9ee814e6726e76af8474758ebe20717ff15c8c1723c293bbf0"), looks := false }, kinds := [], alts := [], laidByText := true, laidKinds := [.data], laidTests := true, laidLooks := .later }
def HashHMACUptoCardSaid : Prop := Claim7.holds Tryd.pinned (.plain (OpenSpec.upto hashHMACSpec)) hashHMACUptoCard

/-- THE SECOND FORM's CARD OF 'baileylaw3.HashChunks'. -/
def hashChunksUptoCard : Claim7 := { stood := { row := hashChunksUptoRow, standIns := [], harness := (true, "47ce097f48140f9ee814e6726e76af8474758ebe20717ff15c8c1723c293bbf0"), looks := false }, kinds := [], alts := [], laidByText := true, laidKinds := [.data], laidTests := true, laidLooks := .later }
def HashChunksUptoCardSaid : Prop := Claim7.holds Tryd.pinned (.plain (OpenSpec.upto hashChunksSpec)) hashChunksUptoCard

/-- THE SECOND FORM's CARD OF 'baileylaw3.HashEdges'. -/
def hashEdgesUptoCard : Claim7 := { stood := { row := hashEdgesUptoRow, standIns := [], harness := (true, "47ce097f48140f9ee814e6726e76af8474758ebe20717ff15c8c1723c293bbf0"), looks := false }, kinds := [], alts := [], laidByText := true, laidKinds := [.data], laidTests := true, laidLooks := .later }
def HashEdgesUptoCardSaid : Prop := Claim7.holds Tryd.pinned (.plain (OpenSpec.upto hashEdgesSpec)) hashEdgesUptoCard

/-- THE SECOND FORM's CARD OF 'baileylaw3.HashMGF1'. -/
def hashMGF1UptoCard : Claim7 := { stood := { row := hashMGF1UptoRow, standIns := [], harness := (true, "47ce097f48140f9ee814e6726e76af8474758ebe20717ff15c8c1723c293bbf0"), looks := false }, kinds := [], alts := [], laidByText := true, laidKinds := [.data], laidTests := true, laidLooks := .later }
def HashMGF1UptoCardSaid : Prop := Claim7.holds Tryd.pinned (.plain (OpenSpec.upto hashMGF1Spec)) hashMGF1UptoCard

/-- THE SECOND FORM's CARD OF 'baileylaw3.HashPBKDF2'. -/
def hashPBKDF2UptoCard : Claim7 := { stood := { row := hashPBKDF2UptoRow, standIns := [], harness := (true, "47ce097f48140f9ee814e6726e76af8474758ebe20717ff15c8c1723c293bbf0"), looks := false }, kinds := [], alts := [], laidByText := true, laidKinds := [.data], laidTests := true, laidLooks := .later }
def HashPBKDF2UptoCardSaid : Prop := Claim7.holds Tryd.pinned (.plain (OpenSpec.upto hashPBKDF2Spec)) hashPBKDF2UptoCard

/-- THE SECOND FORM's CARD OF 'baileylaw3.HashBig'. -/
def hashBigUptoCard : Claim7 := { stood := { row := hashBigUptoRow, standIns := [], harness := (true, "47ce097f48140f9ee814e6726e76af8474758ebe20717ff15c8c1723c293bbf0"), looks := false }, kinds := [], alts := [], laidByText := true, laidKinds := [.data], laidTests := true, laidLooks := .later }
def HashBigUptoCardSaid : Prop := Claim7.holds Tryd.pinned (.plain (OpenSpec.upto hashBigSpec)) hashBigUptoCard

/-- THE SECOND FORM's CARD OF 'baileylaw16.AuditAppend'. -/
def auditAppendUptoCard : Claim7 := { stood := { row := auditAppendUptoRow, standIns := [], harness := (true, "47ce097f48140f9ee814e6726e76af8474758ebe20717ff15c8c1723c293bbf0"), looks := false }, kinds := [], alts := [], laidByText := true, laidKinds := [.data], laidTests := true, laidLooks := .later }
def AuditAppendUptoCardSaid : Prop := Claim7.holds Tryd.pinned (.plain (OpenSpec.upto auditAppendSpec)) auditAppendUptoCard

/-- THE SECOND FORM's CARD OF 'baileylaw16.AuditTaken'. -/
def auditTakenUptoCard : Claim7 := { stood := { row := auditTakenUptoRow, standIns := [], harness := (true, "47ce097f48140f9ee814e6726e76af8474758ebe20717ff15c8c1723c293bbf0"), looks := false }, kinds := [], alts := [], laidByText := true, laidKinds := [.data], laidTests := true, laidLooks := .later }
def AuditTakenUptoCardSaid : Prop := Claim7.holds Tryd.pinned (.plain (OpenSpec.upto auditTakenSpec)) auditTakenUptoCard

/-- THE SECOND FORM's CARD OF 'baileylaw16.AuditLong'. -/
def auditLongUptoCard : Claim7 := { stood := { row := auditLongUptoRow, standIns := [], harness := (true, "47ce097f48140f9ee814e6726e76af8474758ebe20717ff15c8c1723c293bbf0"), looks := false }, kinds := [], alts := [], laidByText := true, laidKinds := [.data], laidTests := true, laidLooks := .later }
def AuditLongUptoCardSaid : Prop := Claim7.holds Tryd.pinned (.plain (OpenSpec.upto auditLongSpec)) auditLongUptoCard

/-- THE SECOND FORM's CARD OF 'baileylaw21.PinCode'. -/
def pinCodeUptoCard : Claim7 := { stood := { row := pinCodeUptoRow, standIns := [], harness := (true, "47ce097f48140f9ee814e6726e76af8474758ebe20717ff15c8c1723c293bbf0"), looks := false }, kinds := [], alts := [], laidByText := true, laidKinds := [.data], laidTests := true, laidLooks := .later }
def PinCodeUptoCardSaid : Prop := Claim7.holds Tryd.pinned (.plain (OpenSpec.upto pinCodeSpec)) pinCodeUptoCard

/-- THE SECOND FORM's CARD OF 'baileylaw21.PinAll'. -/
def pinAllUptoCard : Claim7 := { stood := { row := pinAllUptoRow, standIns := [], harness := (true, "47ce097f48140f9ee814e6726e76af8474758ebe20717ff15c8c1723c293bbf0"), looks := false }, kinds := [], alts := [], laidByText := true, laidKinds := [.data], laidTests := true, laidLooks := .later }
def PinAllUptoCardSaid : Prop := Claim7.holds Tryd.pinned (.plain (OpenSpec.upto pinAllSpec)) pinAllUptoCard

/-- THE SECOND FORM's CARD OF 'baileylaw21.PinNone'. -/
def pinNoneUptoCard : Claim7 := { stood := { row := pinNoneUptoRow, standIns := [], harness := (true, "47ce097f48140f9ee814e6726e76af8474758ebe20717ff15c8c1723c293bbf0"), looks := false }, kinds := [], alts := [], laidByText := true, laidKinds := [.data], laidTests := true, laidLooks := .later }
def PinNoneUptoCardSaid : Prop := Claim7.holds Tryd.pinned (.plain (OpenSpec.upto pinNoneSpec)) pinNoneUptoCard

/-- THE SECOND FORM's CARD OF 'baileylaw8.PadInfo'. -/
def padInfoUptoCard : Claim7 := { stood := { row := padInfoUptoRow, standIns := [], harness := (true, "47ce097f48140f9ee814e6726e76af8474758ebe20717ff15c8c1723c293bbf0"), looks := false }, kinds := [], alts := [], laidByText := true, laidKinds := [.data, .data, .pinned], laidTests := true, laidLooks := .later }
def PadInfoUptoCardSaid : Prop := Claim7.holds Tryd.pinned (.plain (OpenSpec.upto padInfoSpec)) padInfoUptoCard

/-- THE SECOND FORM's CARD OF 'baileylaw8.PadOAEP'. -/
def padOAEPUptoCard : Claim7 := { stood := { row := padOAEPUptoRow, standIns := [], harness := (true, "47ce097f48140f9ee814e6726e76af8474758ebe20717ff15c8c1723c293bbf0"), looks := false }, kinds := [], alts := [], laidByText := true, laidKinds := [.data, .data, .pinned], laidTests := true, laidLooks := .later }
def PadOAEPUptoCardSaid : Prop := Claim7.holds Tryd.pinned (.plain (OpenSpec.upto padOAEPSpec)) padOAEPUptoCard

/-- THE SECOND FORM's CARD OF 'baileylaw8.PadPSS'. -/
def padPSSUptoCard : Claim7 := { stood := { row := padPSSUptoRow, standIns := [], harness := (true, "47ce097f48140f9ee814e6726e76af8474758ebe20717ff15c8c1723c293bbf0"), looks := false }, kinds := [], alts := [], laidByText := true, laidKinds := [.data, .data, .pinned], laidTests := true, laidLooks := .later }
def PadPSSUptoCardSaid : Prop := Claim7.holds Tryd.pinned (.plain (OpenSpec.upto padPSSSpec)) padPSSUptoCard

/-- THE SECOND FORM's CARD OF 'baileylaw8.PadSpoilt'. -/
def padSpoiltUptoCard : Claim7 := { stood := { row := padSpoiltUptoRow, standIns := [], harness := (true, "47ce097f48140f9ee814e6726e76af8474758ebe20717ff15c8c1723c293bbf0"), looks := false }, kinds := [], alts := [], laidByText := true, laidKinds := [.data, .data, .pinned], laidTests := true, laidLooks := .later }
def PadSpoiltUptoCardSaid : Prop := Claim7.holds Tryd.pinned (.plain (OpenSpec.upto padSpoiltSpec)) padSpoiltUptoCard

/-- THE SECOND FORM's CARD OF 'baileylaw8.PadDec1'. -/
def padDec1UptoCard : Claim7 := { stood := { row := padDec1UptoRow, standIns := [], harness := (true, "47ce097f48140f9ee814e6726e76af8474758ebe20717ff15c8c1723c293bbf0"), looks := false }, kinds := [], alts := [], laidByText := true, laidKinds := [.data, .data, .pinned], laidTests := true, laidLooks := .later }
def PadDec1UptoCardSaid : Prop := Claim7.holds Tryd.pinned (.plain (OpenSpec.upto padDec1Spec)) padDec1UptoCard

/-- THE SECOND FORM's CARD OF 'baileylaw8.PadEnc1'. -/
def padEnc1UptoCard : Claim7 := { stood := { row := padEnc1UptoRow, standIns := [], harness := (true, "47ce097f48140f9ee814e6726e76af8474758ebe20717ff15c8c1723c293bbf0"), looks := false }, kinds := [], alts := [], laidByText := true, laidKinds := [.data, .data, .pinned], laidTests := true, laidLooks := .later }
def PadEnc1UptoCardSaid : Prop := Claim7.holds Tryd.pinned (.plain (OpenSpec.upto padEnc1Spec)) padEnc1UptoCard
end Rows
end Go.Proofs.YtladijfaeieidaaDoor
