/-
  DERIVED. GIVEN WITH THE SEED: THE CARDS: each row of YtoddldamekamoaaDoorRows.lean that lists a variable, with what it lists TIED to the program's text (the seventh form; the later family's looks); each row that meets fmt, with fmt's text TOLD by the authors' own Lean function (tested against real Go, not proved from fmt's source: count such statements apart). THE CARD IS WHAT COUNTS. Prove the row's statement (the work); the ties are given (YtoddldamekamoaaDoorTie.lean); close each card by the builder's one call (the guide's Derived/Test/ToyasCard.lean, 'card_holds'). Laid BY PROGRAM, IN A SANDBOX (cutbox-door.mjs). By AI agents, Wed Nov 11 2026. No macro, syntax, notation, axiom, sorry.
-/
import Derived.Test.YtoddldamekamoaaDoorRows
import GoSem.ClaimSeven
namespace Go.Proofs.YtoddldamekamoaaDoor
namespace Rows

/-- THE TIED CARD OF 'stratumlaw21.FrameAll'. -/
def frameAllCard : Claim7 := { stood := { row := frameAllRow, standIns := [], harness := (true, "453273db80e5d6d78b05911143303b10765b26a33a14381a0dfb9d0eb7ad3906"), looks := false }, kinds := [], alts := [], laidByText := true, laidKinds := [.data], laidTests := true, laidLooks := .later }
def FrameAllCardSaid : Prop := Claim7.holds Tryd.pinned (.plain (OpenSpec.ofChange frameAllSpec)) frameAllCard

/-- THE TIED CARD OF 'stratumlaw21.FrameChain'. -/
def frameChainCard : Claim7 := { stood := { row := frameChainRow, standIns := [], harness := (true, "453273db80e5d6d78b05911143303b10765b26a33a14381a0dfb9d0eb7ad3906"), looks := false }, kinds := [], alts := [], laidByText := true, laidKinds := [.data], laidTests := true, laidLooks := .later }
def FrameChainCardSaid : Prop := Claim7.holds Tryd.pinned (.plain (OpenSpec.ofChange frameChainSpec)) frameChainCard

/-- THE TIED CARD OF 'stratumlaw21.FrameForth'. -/
def frameForthCard : Claim7 := { stood := { row := frameForthRow, standIns := [], harness := (true, "453273db80e5d6d78b05911143303b10765b26a33a14381a0dfb9d0eb7ad3906"), looks := false }, kinds := [], alts := [], laidByText := true, laidKinds := [.data], laidTests := true, laidLooks := .later }
def FrameForthCardSaid : Prop := Claim7.holds Tryd.pinned (.plain (OpenSpec.ofChange frameForthSpec)) frameForthCard

/-- THE TIED CARD OF 'stratumlaw21.FrameCut'. -/
def frameCutCard : Claim7 := { stood := { row := frameCutRow, standIns := [], harness := (true, "453273db80e5d6d78b05911143303b10765b26a33a14381a0dfb9d0eb7ad3906"), looks := false }, kinds := [], alts := [], laidByText := true, laidKinds := [.data], laidTests := true, laidLooks := .later }
def FrameCutCardSaid : Prop := Claim7.holds Tryd.pinned (.plain (OpenSpec.ofChange frameCutSpec)) frameCutCard

/-- THE TIED CARD OF 'stratumlaw21.FrameTurned'. -/
def frameTurnedCard : Claim7 := { stood := { row := frameTurnedRow, standIns := [], harness := (true, "453273db80e5d6d78b05911143303b10765b26a33a14381a0dfb9d0eb7ad3906"), looks := false }, kinds := [], alts := [], laidByText := true, laidKinds := [.data], laidTests := true, laidLooks := .later }
def FrameTurnedCardSaid : Prop := Claim7.holds Tryd.pinned (.plain (OpenSpec.ofChange frameTurnedSpec)) frameTurnedCard

/-- THE TIED CARD OF 'stratumlaw21.FrameKeeps'. -/
def frameKeepsCard : Claim7 := { stood := { row := frameKeepsRow, standIns := [], harness := (true, "453273db80e5d6d78b05911143303b10765b26a33a14381a0dfb9d0eb7ad3906"), looks := false }, kinds := [], alts := [], laidByText := true, laidKinds := [.data], laidTests := true, laidLooks := .later }
def FrameKeepsCardSaid : Prop := Claim7.holds Tryd.pinned (.plain (OpenSpec.ofChange frameKeepsSpec)) frameKeepsCard

/-- THE SECOND FORM's CARD OF 'stratumlaw21.FrameAll'. -/
def frameAllUptoCard : Claim7 := { stood := { row := frameAllUptoRow, standIns := [], harness := (true, "453273db80e5d6d78b05911143303b10765b26a33a14381a0dfb9d0eb7ad3906"), looks := false }, kinds := [], alts := [], laidByText := true, laidKinds := [.data], laidTests := true, laidLooks := .later }
def FrameAllUptoCardSaid : Prop := Claim7.holds Tryd.pinned (.plain (OpenSpec.upto frameAllSpec)) frameAllUptoCard

/-- THE SECOND FORM's CARD OF 'stratumlaw21.FrameChain'. -/
def frameChainUptoCard : Claim7 := { stood := { row := frameChainUptoRow, standIns := [], harness := (true, "453273db80e5d6d78b05911143303b10765b26a33a14381a0dfb9d0eb7ad3906"), looks := false }, kinds := [], alts := [], laidByText := true, laidKinds := [.data], laidTests := true, laidLooks := .later }
def FrameChainUptoCardSaid : Prop := Claim7.holds Tryd.pinned (.plain (OpenSpec.upto frameChainSpec)) frameChainUptoCard

/-- THE SECOND FORM's CARD OF 'stratumlaw21.FrameForth'. -/
def frameForthUptoCard : Claim7 := { stood := { row := frameForthUptoRow, standIns := [], harness := (true, "453273db80e5d6d78b05911143303b10765b26a33a14381a0dfb9d0eb7ad3906"), looks := false }, kinds := [], alts := [], laidByText := true, laidKinds := [.data], laidTests := true, laidLooks := .later }
def FrameForthUptoCardSaid : Prop := Claim7.holds Tryd.pinned (.plain (OpenSpec.upto frameForthSpec)) frameForthUptoCard

/-- THE SECOND FORM's CARD OF 'stratumlaw21.FrameCut'. -/
def frameCutUptoCard : Claim7 := { stood := { row := frameCutUptoRow, standIns := [], harness := (true, "453273db80e5d6d78b05911143303b10765b26a33a14381a0dfb9d0eb7ad3906"), looks := false }, kinds := [], alts := [], laidByText := true, laidKinds := [.data], laidTests := true, laidLooks := .later }
def FrameCutUptoCardSaid : Prop := Claim7.holds Tryd.pinned (.plain (OpenSpec.upto frameCutSpec)) frameCutUptoCard

/-- THE SECOND FORM's CARD OF 'stratumlaw21.FrameTurned'. -/
def frameTurnedUptoCard : Claim7 := { stood := { row := frameTurnedUptoRow, standIns := [], harness := (true, "453273db80e5d6d78b05911143303b10765b26a33a14381a0dfb9d0eb7ad3906"), looks := false }, kinds := [], alts := [], laidByText := true, laidKinds := [.data], laidTests := true, laidLooks := .later }
def FrameTurnedUptoCardSaid : Prop := Claim7.holds Tryd.pinned (.plain (OpenSpec.upto frameTurnedSpec)) frameTurnedUptoCard

/-- THE SECOND FORM's CARD OF 'stratumlaw21.FrameKeeps'. -/
def frameKeepsUptoCard : Claim7 := { stood := { row := frameKeepsUptoRow, standIns := [], harness := (true, "453273db80e5d6d78b05911143303b10765b26a33a14381a0dfb9d0eb7ad3906"), looks := false }, kinds := [], alts := [], laidByText := true, laidKinds := [.data], laidTests := true, laidLooks := .later }
def FrameKeepsUptoCardSaid : Prop := Claim7.holds Tryd.pinned (.plain (OpenSpec.upto frameKeepsSpec)) frameKeepsUptoCard
end Rows
end Go.Proofs.YtoddldamekamoaaDoor
