/-
  DERIVED. GIVEN WITH THE SEED: THE CARDS: each row of YthagpdhnblmokaaGreatDoorRows.lean that lists a variable, with what it lists TIED to the program's text (the seventh form; the later family's looks); each row that meets fmt, with fmt's text TOLD by the authors' own Lean function (tested against real Go, not proved from fmt's source: count such statements apart). THE CARD IS WHAT COUNTS. Prove the row's statement (the work); the ties are given (YthagpdhnblmokaaGreatDoorTie.lean); close each card by the builder's one call (the guide's Derived/Test/ToyasCard.lean, 'card_holds'). Laid BY PROGRAM, IN A SANDBOX (cutbox-door.mjs). By AI agents, Wed Nov 11 2026. No macro, syntax, notation, axiom, sorry.
-/
import Derived.Test.YthagpdhnblmokaaGreatDoorRows
import GoSem.ClaimSeven
namespace Go.Proofs.YthagpdhnblmokaaGreatDoor
namespace Rows

/-- THE TIED CARD OF 'arrearslaw14.LedgerLoans'. -/
def ledgerLoansCard : Claim7 := { stood := { row := ledgerLoansRow, standIns := [], harness := (true, "36652fbe91fa577bb4212c670ec6985c1a0b14c6d70725a68baa638f00faf7d6"), looks := true }, kinds := [], alts := [], laidByText := true, laidKinds := [.handle], laidTests := true, laidLooks := .later }
def LedgerLoansCardSaid : Prop := Claim7.holds Tryz.pinned (.plain (OpenSpec.ofChange ledgerLoansSpec)) ledgerLoansCard

/-- THE TIED CARD OF 'arrearslaw14.LedgerKeeps'. -/
def ledgerKeepsCard : Claim7 := { stood := { row := ledgerKeepsRow, standIns := [], harness := (true, "36652fbe91fa577bb4212c670ec6985c1a0b14c6d70725a68baa638f00faf7d6"), looks := true }, kinds := [], alts := [], laidByText := true, laidKinds := [.handle], laidTests := true, laidLooks := .later }
def LedgerKeepsCardSaid : Prop := Claim7.holds Tryz.pinned (.plain (OpenSpec.ofChange ledgerKeepsSpec)) ledgerKeepsCard

/-- THE TIED CARD OF 'arrearslaw14.LedgerNil'. -/
def ledgerNilCard : Claim7 := { stood := { row := ledgerNilRow, standIns := [], harness := (true, "36652fbe91fa577bb4212c670ec6985c1a0b14c6d70725a68baa638f00faf7d6"), looks := true }, kinds := [], alts := [], laidByText := true, laidKinds := [.handle], laidTests := true, laidLooks := .later }
def LedgerNilCardSaid : Prop := Claim7.holds Tryz.pinned (.plain (OpenSpec.ofChange ledgerNilSpec)) ledgerNilCard

/-- THE TIED CARD OF 'arrearslaw20.OrderApart'. -/
def orderApartCard : Claim7 := { stood := { row := orderApartRow, standIns := [], harness := (true, "36652fbe91fa577bb4212c670ec6985c1a0b14c6d70725a68baa638f00faf7d6"), looks := true }, kinds := [], alts := [], laidByText := true, laidKinds := [.data, .data, .data, .data, .sentinel, .sentinel, .pinned], laidTests := true, laidLooks := .later }
def OrderApartCardSaid : Prop := Claim7.holds Tryz.pinned (.plain (OpenSpec.ofChange orderApartSpec)) orderApartCard

/-- THE TIED CARD OF 'arrearslaw20.OrderKinds'. -/
def orderKindsCard : Claim7 := { stood := { row := orderKindsRow, standIns := [], harness := (true, "36652fbe91fa577bb4212c670ec6985c1a0b14c6d70725a68baa638f00faf7d6"), looks := true }, kinds := [], alts := [], laidByText := true, laidKinds := [.data, .data, .data, .data, .sentinel, .sentinel, .pinned], laidTests := true, laidLooks := .later }
def OrderKindsCardSaid : Prop := Claim7.holds Tryz.pinned (.plain (OpenSpec.ofChange orderKindsSpec)) orderKindsCard

/-- THE TIED CARD OF 'arrearslaw20.OrderReads'. -/
def orderReadsCard : Claim7 := { stood := { row := orderReadsRow, standIns := [], harness := (true, "36652fbe91fa577bb4212c670ec6985c1a0b14c6d70725a68baa638f00faf7d6"), looks := true }, kinds := [], alts := [], laidByText := true, laidKinds := [.data, .data, .data, .data, .handle, .sentinel, .sentinel, .pinned], laidTests := true, laidLooks := .later }
def OrderReadsCardSaid : Prop := Claim7.holds Tryz.pinned (.plain (OpenSpec.ofChange orderReadsSpec)) orderReadsCard

/-- THE TIED CARD OF 'arrearslaw16.TermsRise'. -/
def termsRiseCard : Claim7 := { stood := { row := termsRiseRow, standIns := [], harness := (true, "36652fbe91fa577bb4212c670ec6985c1a0b14c6d70725a68baa638f00faf7d6"), looks := true }, kinds := [], alts := [], laidByText := true, laidKinds := [.data, .data, .data, .data, .sentinel, .sentinel, .pinned], laidTests := true, laidLooks := .later }
def TermsRiseCardSaid : Prop := Claim7.holds Tryz.pinned (.plain (OpenSpec.ofChange termsRiseSpec)) termsRiseCard

/-- THE TIED CARD OF 'arrearslaw16.TermsApart'. -/
def termsApartCard : Claim7 := { stood := { row := termsApartRow, standIns := [], harness := (true, "36652fbe91fa577bb4212c670ec6985c1a0b14c6d70725a68baa638f00faf7d6"), looks := true }, kinds := [], alts := [], laidByText := true, laidKinds := [.data, .data, .data, .data, .sentinel, .sentinel, .pinned], laidTests := true, laidLooks := .later }
def TermsApartCardSaid : Prop := Claim7.holds Tryz.pinned (.plain (OpenSpec.ofChange termsApartSpec)) termsApartCard

/-- THE TIED CARD OF 'arrearslaw20.OrderForms'. -/
def orderFormsCard : Claim7 := { stood := { row := orderFormsRow, standIns := [], harness := (true, "36652fbe91fa577bb4212c670ec6985c1a0b14c6d70725a68baa638f00faf7d6"), looks := true }, kinds := [], alts := [], laidByText := true, laidKinds := [.data, .data, .data, .data, .handle, .sentinel, .sentinel, .pinned], laidTests := true, laidLooks := .later }
def OrderFormsCardSaid : Prop := Claim7.holds Tryz.pinned (.plain (OpenSpec.ofChange orderFormsSpec)) orderFormsCard

/-- THE TIED CARD OF 'arrearslaw16.TermsDues'. -/
def termsDuesCard : Claim7 := { stood := { row := termsDuesRow, standIns := [], harness := (true, "36652fbe91fa577bb4212c670ec6985c1a0b14c6d70725a68baa638f00faf7d6"), looks := true }, kinds := [], alts := [], laidByText := true, laidKinds := [.data, .data, .data, .data, .handle, .sentinel, .sentinel, .pinned], laidTests := true, laidLooks := .later }
def TermsDuesCardSaid : Prop := Claim7.holds Tryz.pinned (.plain (OpenSpec.ofChange termsDuesSpec)) termsDuesCard

/-- THE TIED CARD OF 'arrearslaw16.TermsReads'. -/
def termsReadsCard : Claim7 := { stood := { row := termsReadsRow, standIns := [], harness := (true, "36652fbe91fa577bb4212c670ec6985c1a0b14c6d70725a68baa638f00faf7d6"), looks := true }, kinds := [], alts := [], laidByText := true, laidKinds := [.data, .data, .data, .data, .handle, .sentinel, .sentinel, .pinned], laidTests := true, laidLooks := .later }
def TermsReadsCardSaid : Prop := Claim7.holds Tryz.pinned (.plain (OpenSpec.ofChange termsReadsSpec)) termsReadsCard

/-- THE TIED CARD OF 'arrearslaw16.TermsForms'. -/
def termsFormsCard : Claim7 := { stood := { row := termsFormsRow, standIns := [], harness := (true, "36652fbe91fa577bb4212c670ec6985c1a0b14c6d70725a68baa638f00faf7d6"), looks := true }, kinds := [], alts := [], laidByText := true, laidKinds := [.data, .data, .data, .data, .handle, .sentinel, .sentinel, .pinned], laidTests := true, laidLooks := .later }
def TermsFormsCardSaid : Prop := Claim7.holds Tryz.pinned (.plain (OpenSpec.ofChange termsFormsSpec)) termsFormsCard

/-- THE SECOND FORM's CARD OF 'arrearslaw14.LedgerLoans'. -/
def ledgerLoansUptoCard : Claim7 := { stood := { row := ledgerLoansUptoRow, standIns := [], harness := (true, "36652fbe91fa577bb4212c670ec6985c1a0b14c6d70725a68baa638f00faf7d6"), looks := true }, kinds := [], alts := [], laidByText := true, laidKinds := [.handle], laidTests := true, laidLooks := .later }
def LedgerLoansUptoCardSaid : Prop := Claim7.holds Tryz.pinned (.plain (OpenSpec.upto ledgerLoansSpec)) ledgerLoansUptoCard

/-- THE SECOND FORM's CARD OF 'arrearslaw14.LedgerKeeps'. -/
def ledgerKeepsUptoCard : Claim7 := { stood := { row := ledgerKeepsUptoRow, standIns := [], harness := (true, "36652fbe91fa577bb4212c670ec6985c1a0b14c6d70725a68baa638f00faf7d6"), looks := true }, kinds := [], alts := [], laidByText := true, laidKinds := [.handle], laidTests := true, laidLooks := .later }
def LedgerKeepsUptoCardSaid : Prop := Claim7.holds Tryz.pinned (.plain (OpenSpec.upto ledgerKeepsSpec)) ledgerKeepsUptoCard

/-- THE SECOND FORM's CARD OF 'arrearslaw14.LedgerNil'. -/
def ledgerNilUptoCard : Claim7 := { stood := { row := ledgerNilUptoRow, standIns := [], harness := (true, "36652fbe91fa577bb4212c670ec6985c1a0b14c6d70725a68baa638f00faf7d6"), looks := true }, kinds := [], alts := [], laidByText := true, laidKinds := [.handle], laidTests := true, laidLooks := .later }
def LedgerNilUptoCardSaid : Prop := Claim7.holds Tryz.pinned (.plain (OpenSpec.upto ledgerNilSpec)) ledgerNilUptoCard

/-- THE SECOND FORM's CARD OF 'arrearslaw20.OrderApart'. -/
def orderApartUptoCard : Claim7 := { stood := { row := orderApartUptoRow, standIns := [], harness := (true, "36652fbe91fa577bb4212c670ec6985c1a0b14c6d70725a68baa638f00faf7d6"), looks := true }, kinds := [], alts := [], laidByText := true, laidKinds := [.data, .data, .data, .data, .sentinel, .sentinel, .pinned], laidTests := true, laidLooks := .later }
def OrderApartUptoCardSaid : Prop := Claim7.holds Tryz.pinned (.plain (OpenSpec.upto orderApartSpec)) orderApartUptoCard

/-- THE SECOND FORM's CARD OF 'arrearslaw20.OrderKinds'. -/
def orderKindsUptoCard : Claim7 := { stood := { row := orderKindsUptoRow, standIns := [], harness := (true, "36652fbe91fa577bb4212c670ec6985c1a0b14c6d70725a68baa638f00faf7d6"), looks := true }, kinds := [], alts := [], laidByText := true, laidKinds := [.data, .data, .data, .data, .sentinel, .sentinel, .pinned], laidTests := true, laidLooks := .later }
def OrderKindsUptoCardSaid : Prop := Claim7.holds Tryz.pinned (.plain (OpenSpec.upto orderKindsSpec)) orderKindsUptoCard

/-- THE SECOND FORM's CARD OF 'arrearslaw20.OrderReads'. -/
def orderReadsUptoCard : Claim7 := { stood := { row := orderReadsUptoRow, standIns := [], harness := (true, "36652fbe91fa577bb4212c670ec6985c1a0b14c6d70725a68baa638f00faf7d6"), looks := true }, kinds := [], alts := [], laidByText := true, laidKinds := [.data, .data, .data, .data, .handle, .sentinel, .sentinel, .pinned], laidTests := true, laidLooks := .later }
def OrderReadsUptoCardSaid : Prop := Claim7.holds Tryz.pinned (.plain (OpenSpec.upto orderReadsSpec)) orderReadsUptoCard

/-- THE SECOND FORM's CARD OF 'arrearslaw16.TermsRise'. -/
def termsRiseUptoCard : Claim7 := { stood := { row := termsRiseUptoRow, standIns := [], harness := (true, "36652fbe91fa577bb4212c670ec6985c1a0b14c6d70725a68baa638f00faf7d6"), looks := true }, kinds := [], alts := [], laidByText := true, laidKinds := [.data, .data, .data, .data, .sentinel, .sentinel, .pinned], laidTests := true, laidLooks := .later }
def TermsRiseUptoCardSaid : Prop := Claim7.holds Tryz.pinned (.plain (OpenSpec.upto termsRiseSpec)) termsRiseUptoCard

/-- THE SECOND FORM's CARD OF 'arrearslaw16.TermsApart'. -/
def termsApartUptoCard : Claim7 := { stood := { row := termsApartUptoRow, standIns := [], harness := (true, "36652fbe91fa577bb4212c670ec6985c1a0b14c6d70725a68baa638f00faf7d6"), looks := true }, kinds := [], alts := [], laidByText := true, laidKinds := [.data, .data, .data, .data, .sentinel, .sentinel, .pinned], laidTests := true, laidLooks := .later }
def TermsApartUptoCardSaid : Prop := Claim7.holds Tryz.pinned (.plain (OpenSpec.upto termsApartSpec)) termsApartUptoCard

/-- THE SECOND FORM's CARD OF 'arrearslaw20.OrderForms'. -/
def orderFormsUptoCard : Claim7 := { stood := { row := orderFormsUptoRow, standIns := [], harness := (true, "36652fbe91fa577bb4212c670ec6985c1a0b14c6d70725a68baa638f00faf7d6"), looks := true }, kinds := [], alts := [], laidByText := true, laidKinds := [.data, .data, .data, .data, .handle, .sentinel, .sentinel, .pinned], laidTests := true, laidLooks := .later }
def OrderFormsUptoCardSaid : Prop := Claim7.holds Tryz.pinned (.plain (OpenSpec.upto orderFormsSpec)) orderFormsUptoCard

/-- THE SECOND FORM's CARD OF 'arrearslaw16.TermsDues'. -/
def termsDuesUptoCard : Claim7 := { stood := { row := termsDuesUptoRow, standIns := [], harness := (true, "36652fbe91fa577bb4212c670ec6985c1a0b14c6d70725a68baa638f00faf7d6"), looks := true }, kinds := [], alts := [], laidByText := true, laidKinds := [.data, .data, .data, .data, .handle, .sentinel, .sentinel, .pinned], laidTests := true, laidLooks := .later }
def TermsDuesUptoCardSaid : Prop := Claim7.holds Tryz.pinned (.plain (OpenSpec.upto termsDuesSpec)) termsDuesUptoCard

/-- THE SECOND FORM's CARD OF 'arrearslaw16.TermsReads'. -/
def termsReadsUptoCard : Claim7 := { stood := { row := termsReadsUptoRow, standIns := [], harness := (true, "36652fbe91fa577bb4212c670ec6985c1a0b14c6d70725a68baa638f00faf7d6"), looks := true }, kinds := [], alts := [], laidByText := true, laidKinds := [.data, .data, .data, .data, .handle, .sentinel, .sentinel, .pinned], laidTests := true, laidLooks := .later }
def TermsReadsUptoCardSaid : Prop := Claim7.holds Tryz.pinned (.plain (OpenSpec.upto termsReadsSpec)) termsReadsUptoCard

/-- THE SECOND FORM's CARD OF 'arrearslaw16.TermsForms'. -/
def termsFormsUptoCard : Claim7 := { stood := { row := termsFormsUptoRow, standIns := [], harness := (true, "36652fbe91fa577bb4212c670ec6985c1a0b14c6d70725a68baa638f00faf7d6"), looks := true }, kinds := [], alts := [], laidByText := true, laidKinds := [.data, .data, .data, .data, .handle, .sentinel, .sentinel, .pinned], laidTests := true, laidLooks := .later }
def TermsFormsUptoCardSaid : Prop := Claim7.holds Tryz.pinned (.plain (OpenSpec.upto termsFormsSpec)) termsFormsUptoCard
end Rows
end Go.Proofs.YthagpdhnblmokaaGreatDoor
