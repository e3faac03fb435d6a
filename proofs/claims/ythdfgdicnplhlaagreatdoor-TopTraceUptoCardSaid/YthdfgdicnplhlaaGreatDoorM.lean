import Derived.Test.YthdfgdicnplhlaaGreatDoorB
set_option maxHeartbeats 16000000
set_option maxRecDepth 100000
set_option linter.all false
namespace Go.Proofs.YthdfgdicnplhlaaGreatDoor
namespace Hd
end Hd
open Go.RowKit Hd _root_.Go.Proofs.Tryz
noncomputable def lT(n:Nat):Code->Option (List Oper)
 | .region i ops _=>if i==n then some ops.toList else none
 | .seq a b=>(lT n a).or (lT n b)
 | .cond _ a b=>(lT n a).or (lT n b)
 | .block _ c=>lT n c
 | .loop c=>lT n c
 | .scope c=>lT n c
 |_=>none
noncomputable def Gi:List Oper:=(lT 19 (Tryz.f3.body.getD .skip)).getD []
theorem Gj:Region.lexB .any Gi.toArray=true:=by kernel_rfl
end Go.Proofs.YthdfgdicnplhlaaGreatDoor
