import Derived.JoinedCond
import Derived.ProofKit
import Derived.Test.YthdfgdicnplhlaaGreatDoorCards
set_option maxHeartbeats 16000000
set_option maxRecDepth 100000
set_option linter.all false
namespace Go.Proofs.YthdfgdicnplhlaaGreatDoor
namespace Hd
end Hd
open Go.RowKit Hd _root_.Go.Proofs.Tryz
namespace topTrace
section
open Go.ChangeShapes Go.WideShapes Go.ChangeAt
theorem fact9:(Rows.topTraceUptoRow.inPlace==Tryz.pinned.checked.prog.inPlace 3)=true:=by kernel_rfl
theorem fact10:(Rows.topTraceUptoRow.unfollowed==Tryz.pinned.checked.prog.unfollowed 3)=true:=by kernel_rfl
theorem fact11:(Rows.topTraceUptoRow.recurses==Tryz.pinned.checked.prog.recurses 3)=true:=by kernel_rfl
theorem fact12:(Rows.topTraceUptoRow.named==Tryz.pinned.checked.prog.varsNamed 3)=true:=by kernel_rfl
end
end topTrace
end Go.Proofs.YthdfgdicnplhlaaGreatDoor
