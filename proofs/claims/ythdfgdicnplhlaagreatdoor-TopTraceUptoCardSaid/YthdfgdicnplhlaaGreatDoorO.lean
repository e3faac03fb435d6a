import Derived.JoinedCond
import Derived.ProofKit
import Derived.Test.YthdfgdicnplhlaaGreatDoorCards
set_option maxHeartbeats 16000000
set_option maxRecDepth 100000
set_option linter.all false
namespace Go.Proofs.YthdfgdicnplhlaaGreatDoor
namespace Hd
end Hd
open Go.RowKit Hd _root_.Go.Proofs.Tryz
namespace topTrace
section
open Go.ChangeShapes Go.WideShapes Go.ChangeAt
theorem fact0:Rows.topTraceUptoRow.wf (OpenSpec.ofChange (Rows.OpenSpec.upto Rows.topTraceSpec).bare)=true:=by kernel_rfl
theorem fact1:laidOutB Tryz.pinned.checked.prog=true:=by kernel_rfl
theorem fact2:mapsRowed Tryz.pinned.checked.prog=true:=by kernel_rfl
theorem fact3:Tryz.f3.params.all (Tryz.pinned.checked.prog.readableRec ·)=true:=by kernel_rfl
theorem fact4:namedTie Tryz.pinned.checked.prog Rows.topTraceUptoRow.named (Rows.OpenSpec.upto Rows.topTraceSpec).bare.vars=true:=by kernel_rfl
theorem fact5:(Rows.topTraceUptoRow.stops==[])=true:=by kernel_rfl
theorem fact6:(Tryz.pinned.checked.prog.stops==[])=true:=by kernel_rfl
theorem fact7:(Rows.topTraceUptoRow.knobs==[])=true:=by kernel_rfl
theorem fact8:(Tryz.pinned.checked.prog.stopKnobs==[])=true:=by kernel_rfl
theorem fact13:(Rows.topTraceUptoRow.maps==(Tryz.f3.params.toList++(Rows.OpenSpec.upto Rows.topTraceSpec).bare.plain.varTypes Tryz.pinned.checked.prog).any (Tryz.pinned.checked.prog.mapsRec ·))=true:=by kernel_rfl
theorem fact14:(Rows.topTraceUptoRow.ifaces==(Tryz.f3.params.toList++(Rows.OpenSpec.upto Rows.topTraceSpec).bare.plain.varTypes Tryz.pinned.checked.prog).any (Tryz.pinned.checked.prog.ifacesRec ·))=true:=by kernel_rfl
theorem fact15:(Rows.topTraceUptoRow.mapsOut==Tryz.pinned.checked.prog.mapsAmong Tryz.f3.resultTypes.toList)=true:=by kernel_rfl
theorem fact16:(Rows.topTraceUptoRow.loops==(Tryz.f3.params.toList++(Rows.OpenSpec.upto Rows.topTraceSpec).bare.plain.varTypes Tryz.pinned.checked.prog).any (Tryz.pinned.checked.prog.loopsFrom ·))=true:=by kernel_rfl
theorem fact17:(Rows.topTraceUptoRow.wideKeys==(Tryz.f3.params.toList++(Rows.OpenSpec.upto Rows.topTraceSpec).bare.plain.varTypes Tryz.pinned.checked.prog++Tryz.f3.resultTypes.toList).any (Tryz.pinned.checked.prog.wideKeysFrom ·))=true:=by kernel_rfl
theorem fact18:(Rows.OpenSpec.upto Rows.topTraceSpec).bare.vars.all (Tryz.pinned.checked.prog.varReadable ·)=true:=by kernel_rfl
theorem fact19:Tryz.f3.resultTypes.all (fun t=>Tryz.pinned.checked.prog.readableRec t&&decide (t < Tryz.pinned.checked.prog.types.size))=true:=by kernel_rfl
theorem fact20:(Rows.topTraceUptoRow.ifacesOut==Tryz.f3.resultTypes.toList.any (Tryz.pinned.checked.prog.ifacesRec ·))=true:=by kernel_rfl
theorem fact21:(Rows.topTraceUptoRow.loopsOut==Tryz.f3.resultTypes.toList.any (Tryz.pinned.checked.prog.loopsFrom ·))=true:=by kernel_rfl
theorem fact22:(Rows.topTraceUptoRow.plainKeys==Tryz.pinned.checked.prog.plainKeys)=true:=by kernel_rfl
theorem fact23:Rows.topTraceUptoRow.shortTexts.isNone=true:=by kernel_rfl
theorem fact24:Tryz.pinned.checked.prog.stopsHeard=true:=by kernel_rfl
theorem fact25:Tryz.pinned.checked.prog.mayEnter=true:=by kernel_rfl
theorem fact26:(Rows.topTraceUptoRow.lifted==Tryz.pinned.checked.prog.liftsFinal)=true:=by kernel_rfl
theorem fact27:(Tryz.pinned.checked.prog.make==some Rows.topTraceUptoRow.make)=true:=by kernel_rfl
theorem fact28:(Rows.topTraceUptoRow.kinds==(if Rows.topTraceUptoRow.domain.isEmpty then []else Tryz.f3.params.toList.map fun t=>match Tryz.pinned.checked.prog.underlying t with|some (.int k)=>some k|_=>none))=true:=by kernel_rfl
theorem fact29:(Rows.topTraceUptoRow.pinned==Rows.topTraceUptoRow.pinnedBy)=true:=by kernel_rfl
theorem fact30:(Rows.topTraceUptoRow.veiled==(Tryz.f3.params.toList++(Rows.OpenSpec.upto Rows.topTraceSpec).bare.plain.varTypes Tryz.pinned.checked.prog++Tryz.f3.resultTypes.toList).any (Tryz.pinned.checked.prog.veiledRec ·))=true:=by kernel_rfl
theorem fact31:Rows.topTraceUptoRow.veiledFits Tryz.pinned.checked.prog Tryz.f3.params.toList (Tryz.f3.params.toList++(Rows.OpenSpec.upto Rows.topTraceSpec).bare.plain.varTypes Tryz.pinned.checked.prog++Tryz.f3.resultTypes.toList)=true:=by kernel_rfl
theorem noGoes:Tryz.pinned.checked.prog.funcs.any Func.goes=false:=by kernel_rfl
end
end topTrace
end Go.Proofs.YthdfgdicnplhlaaGreatDoor
