/- The closed facts of ledgerNil's row, one by one. -/
import Derived.Test.YthagpdhnblmokaaGreatDoorSeatFacts
namespace Go.Proofs.YthagpdhnblmokaaGreatDoor.ledgerNil
theorem fact0 : Rows.ledgerNilRow.wf (OpenSpec.ofChange (OpenSpec.ofChange Rows.ledgerNilSpec).bare) = true := by kernel_rfl
theorem fact3 : Tryz.f5.params.all (Tryz.prog.readableRec ·) = true := by kernel_rfl
theorem fact4 : namedTie Tryz.prog Rows.ledgerNilRow.named (OpenSpec.ofChange Rows.ledgerNilSpec).bare.vars = true := by kernel_rfl
theorem fact5 : (Rows.ledgerNilRow.stops == []) = true := by kernel_rfl
theorem fact7 : (Rows.ledgerNilRow.knobs == []) = true := by kernel_rfl
theorem fact9 : (Rows.ledgerNilRow.inPlace == Tryz.prog.inPlace 5) = true := by kernel_rfl
theorem fact10 : (Rows.ledgerNilRow.unfollowed == Tryz.prog.unfollowed 5) = true := by kernel_rfl
theorem fact11 : (Rows.ledgerNilRow.recurses == Tryz.prog.recurses 5) = true := by kernel_rfl
theorem fact12 : (Rows.ledgerNilRow.named == Tryz.prog.varsNamed 5) = true := by kernel_rfl
theorem fact13 : (Rows.ledgerNilRow.maps == (Tryz.f5.params.toList ++ (OpenSpec.ofChange Rows.ledgerNilSpec).bare.plain.varTypes Tryz.prog).any (Tryz.prog.mapsRec ·)) = true := by kernel_rfl
theorem fact14 : (Rows.ledgerNilRow.ifaces == (Tryz.f5.params.toList ++ (OpenSpec.ofChange Rows.ledgerNilSpec).bare.plain.varTypes Tryz.prog).any (Tryz.prog.ifacesRec ·)) = true := by kernel_rfl
theorem fact15 : (Rows.ledgerNilRow.mapsOut == Tryz.prog.mapsAmong Tryz.f5.resultTypes.toList) = true := by kernel_rfl
theorem fact16 : (Rows.ledgerNilRow.loops == (Tryz.f5.params.toList ++ (OpenSpec.ofChange Rows.ledgerNilSpec).bare.plain.varTypes Tryz.prog).any (Tryz.prog.loopsFrom ·)) = true := by kernel_rfl
theorem fact17 : (Rows.ledgerNilRow.wideKeys == (Tryz.f5.params.toList ++ (OpenSpec.ofChange Rows.ledgerNilSpec).bare.plain.varTypes Tryz.prog ++ Tryz.f5.resultTypes.toList).any (Tryz.prog.wideKeysFrom ·)) = true := by kernel_rfl
theorem fact18 : (OpenSpec.ofChange Rows.ledgerNilSpec).bare.vars.all (Tryz.prog.varReadable ·) = true := by kernel_rfl
theorem fact19 : Tryz.f5.resultTypes.all (fun t => Tryz.prog.readableRec t && decide (t < Tryz.prog.types.size)) = true := by kernel_rfl
theorem fact20 : (Rows.ledgerNilRow.ifacesOut == Tryz.f5.resultTypes.toList.any (Tryz.prog.ifacesRec ·)) = true := by kernel_rfl
theorem fact21 : (Rows.ledgerNilRow.loopsOut == Tryz.f5.resultTypes.toList.any (Tryz.prog.loopsFrom ·)) = true := by kernel_rfl
theorem fact22 : (Rows.ledgerNilRow.plainKeys == Tryz.prog.plainKeys) = true := by rw [keysPlain]; rfl
theorem fact23 : Rows.ledgerNilRow.shortTexts.isNone = true := by kernel_rfl
theorem fact26 : (Rows.ledgerNilRow.lifted == Tryz.prog.liftsFinal) = true := by kernel_rfl
theorem fact27 : (Tryz.prog.make == some Rows.ledgerNilRow.make) = true := by kernel_rfl
theorem fact28 : (Rows.ledgerNilRow.kinds == (if Rows.ledgerNilRow.domain.isEmpty then [] else Tryz.f5.params.toList.map fun t => match Tryz.prog.underlying t with | some (.int k) => some k | _ => none)) = true := by kernel_rfl
theorem fact29 : (Rows.ledgerNilRow.pinned == Rows.ledgerNilRow.pinnedBy) = true := by kernel_rfl
theorem fact30 : (Rows.ledgerNilRow.veiled == (Tryz.f5.params.toList ++ (OpenSpec.ofChange Rows.ledgerNilSpec).bare.plain.varTypes Tryz.prog ++ Tryz.f5.resultTypes.toList).any (Tryz.prog.veiledRec ·)) = true := by kernel_rfl
theorem fact31 : Rows.ledgerNilRow.veiledFits Tryz.prog Tryz.f5.params.toList (Tryz.f5.params.toList ++ (OpenSpec.ofChange Rows.ledgerNilSpec).bare.plain.varTypes Tryz.prog ++ Tryz.f5.resultTypes.toList) = true := by kernel_rfl
set_option maxRecDepth 100000 in
theorem joined : joinedFacts Tryz.prog 5 Tryz.f5 (OpenSpec.ofChange Rows.ledgerNilSpec).bare Rows.ledgerNilRow = true := by
  simp only [joinedFacts, Bool.and_eq_true]
  refine ⟨⟨⟨⟨⟨⟨⟨⟨⟨⟨⟨⟨⟨⟨⟨⟨⟨⟨⟨⟨⟨⟨⟨⟨⟨⟨⟨⟨⟨⟨⟨fact0, laidOut⟩, mapsRowedAll⟩, fact3⟩, fact4⟩, fact5⟩, noStops⟩, fact7⟩, noKnobs⟩, fact9⟩, fact10⟩, fact11⟩, fact12⟩, fact13⟩, fact14⟩, fact15⟩, fact16⟩, fact17⟩, fact18⟩, fact19⟩, fact20⟩, fact21⟩, fact22⟩, fact23⟩, heardAll⟩, enterAll⟩, fact26⟩, fact27⟩, fact28⟩, fact29⟩, fact30⟩, fact31⟩
end Go.Proofs.YthagpdhnblmokaaGreatDoor.ledgerNil
