/-
  THEOREM 1 of the queue on a ring (the card TopTraceUptoCardSaid, for arguments within the given bounds of size): at any plan and any script of moves, losses, doublings, delays, partings and crashes, each delivery has the name, queue and bytes of a Put called ahead of it at the node of its name, each reply is of one call and one in all, and a Put that was told OK has a name of its own. Conditions: those of the given statement, none beside.
-/
import Derived.Test.YthdfgdicnplhlaaGreatDoorN
import Derived.Test.YthdfgdicnplhlaaGreatDoorO
import Derived.Test.YthdfgdicnplhlaaGreatDoorP
import Derived.ChangeMaps5
import Derived.Deep.DeepHandedRow
import Derived.Lib.LaidTab
import Derived.Test.YthdfgdicnplhlaaGreatDoorTie
set_option maxHeartbeats 16000000
set_option maxRecDepth 100000
set_option linter.all false
namespace Go.Proofs.YthdfgdicnplhlaaGreatDoor
open Go.RowKit Hd _root_.Go.Proofs.Tryz
namespace topTrace
section
open Go.ChangeShapes Go.WideShapes Go.ChangeAt
theorem and2{a b:Bool}(h:a=true)(k:b=true):(a&&b)=true:=by rw[h,k];rfl
theorem own:ownKnob prog.godebug=none:=by kernel_rfl
noncomputable def laidWorld(os:Os):World:=
 {World.holding prog os ⟨#[],#[],[]⟩with heap:=(World.holding prog os ⟨#[],#[],[]⟩).heap.modify 1 fun
   | .cells _ t frozen=>.cells #[.int .u16 0,.int .u16 4129,.int .u16 8258,.int .u16 12387,.int .u16 16516,.int .u16 20645,.int .u16 24774,.int .u16 28903,.int .u16 33032,.int .u16 37161,.int .u16 41290,.int .u16 45419,.int .u16 49548,.int .u16 53677,.int .u16 57806,.int .u16 61935] t frozen
   |o=>o}
theorem laid_met(os:Os):laidMet prog Rows.topTraceRow.laid ((laidWorld os).forCall (fun _ _=>0) ⟨#[],#[.agg #[I6 0,I6 0,I6 0],aS],[]⟩).memory:=
 laidMet_of_run' 8 (by kernel_rfl) (by kernel_rfl)
theorem reads(os:Os){H:Type}(enc:TypeId×Value->H):∃places,DataW.whole enc Tryz.prog ((laidWorld os).forCall (fun _ _=>0) ⟨#[],#[.agg #[.int .i64 0,.int .i64 0,.int .i64 0],.slice none 0 0],[]⟩).memory Tryz.f3.params.toList Rows.topTraceSpec.vars false #[Value.agg #[.int .i64 0,.int .i64 0,.int .i64 0],.slice none 0 0].toList 8=some ([.agg [.lit (.int .i64 0),.lit (.int .i64 0),.lit (.int .i64 0)],.nil],[],places):=
 ⟨[],by kernel_rfl⟩
theorem gTab:prog.globalNamed "caravan/fold.table"=some 1:=by kernel_rfl
theorem gTabType:(prog.globals[1]?).map (·.type)=some 426:=by kernel_rfl
theorem cellsTab:prog.cellsOf 426=16:=by kernel_rfl
theorem cellsU16:prog.cellsOf 425=1:=by kernel_rfl
theorem table{W}(h:laidMetH prog Rows.topTraceRow.laid W):Lib.TabIs prog W "caravan/fold.table" .u16 [0,4129,8258,12387,16516,20645,24774,28903,33032,37161,41290,45419,49548,53677,57806,61935]:=
 Lib.tabIs_of_head (rest:=[]) gTab gTabType underlying426 underlying425 cellsU16 cellsTab h
theorem laidOut:laidOutB prog=true:=fact1
theorem contract(H:Type)(enc:TypeId×Value->H) W(base:Nat)(args:Array Value)(ds gs:List (DataW H))(before:List MemPlace)
  (hval:∀(j:Nat) t v,Tryz.f3.params[j]?=some t->args[j]?=some v->Value.okWide prog W .any base t v)
  (hW:DataW.Whole enc prog Tryz.f3.params.toList Rows.topTraceSpec.vars false W args.toList ds gs before) (hL:laidMetH prog Rows.topTraceRow.laid W) (hk:Rows.uptoSmall H (ds++gs)=true):
  Cs 3 args W fun e W'=>∃v,Rt e v/\Rows.topTraceSpec.post enc prog Tryz.f3 false true false false W args v W':=by
 have y:=hW;obtain⟨p,q,z,V,rfl,hc,hd⟩:=hW;have B:DataW.TrodAll enc prog W 0 (fun _=>true) true Tryz.f3.params.toList args.toList ds p:=z;rw[params3]at B hval;obtain⟨C,hg,d0,hh,X,q0,U,rfl,rfl,D,Y⟩:=trodAll_cons B;obtain⟨v1,hj,d1,hl,Z,q1,rfl,rfl,rfl,F,r1⟩:=trodAll_cons Y;obtain⟨rfl,rfl,rfl⟩:=trodAll_nil r1;obtain rfl:args=#[C,v1]:=by cases args;simp_all
 obtain⟨rfl,rfl⟩:=trodVars_none V;have G:=D;have I:∀x∈X,x.block < W.heap.size:=by obtain⟨m,s⟩:=G;exact DataW.trod_lt m _ _ _ s
 have J:=F;have L:∀x∈Z,x.block < W.heap.size:=by obtain⟨m,s⟩:=J;exact DataW.trod_lt m _ _ _ s
 obtain⟨cs,rfl,hcs⟩:=okWide_struct underlying23 (hval 0 23 C rfl rfl);obtain⟨f,g,i,rfl⟩:∃f g i:Int,cs=#[I6 f,I6 g,I6 i]:=by
  have M:prog.cellsOf 23=3:=by kernel_rfl
  rw[M]at hcs;match cs,hcs with
  |⟨[a,b,c]⟩,_=>
   obtain⟨ha,hf⟩:=D;obtain⟨y0,y1,y2,n,hx,_,N,O,R⟩:=Go.Deep.trod_struct3 underlying23 hf;have c3:prog.cellsOf 3=1:=by kernel_rfl
   simp[c3,Value.cells]at N O R;obtain⟨f,rfl⟩:=fo N;obtain⟨g,rfl⟩:=fo O;obtain⟨i,rfl⟩:=fo R;exact⟨f,g,i,rfl⟩
 obtain⟨A,len,cap,rfl⟩:=okWide_slice underlying24 (hval 1 24 v1 rfl rfl);have hb:=of_decide_eq_true hk;simp only[qU,Rows.uptoBulkAll]at hb;obtain⟨ms,rfl,u,S,T⟩:=xn F (by omega);have ht:eN (fun k=>([0,4129,8258,12387,16516,20645,24774,28903,33032,37161,41290,45419,49548,53677,57806,61935]:List Int).getD k 0) W:=fun k hk=>(table hL).cell gTab k (by simpa using hk);refine(Da (A:=A) (cp:=cap) f g i ht T S u).mono fun e W' ⟨he,bel⟩=>?_;subst he;exact⟨_,rfl,_,_,_,[],_,[],y,trodAll_mk1 (shut_bool underlying4 _),(trodAll_cons_mk (Below.trod laidOut (by kernel_rfl) (of_decide_eq_true (by kernel_rfl)) G bel I) (trodAll_cons_mk (Below.trod laidOut (by kernel_rfl) (of_decide_eq_true (by kernel_rfl)) J bel L) trodAll_mk0)),rfl,bel.frame _,fun h=>by cases h⟩
set_option maxRecDepth 100000 in
theorem liftedUpto(os:Os)(a:os.Started)(H:Type)(enc:TypeId×Value->H)(F:Stop.Interp):
  ReturnsInHanded {} Tryz.checked os 3 .any ((Rows.OpenSpec.upto Rows.topTraceSpec).preRow enc prog Tryz.f3 Rows.topTraceUptoRow.domain false Rows.topTraceUptoRow.laid) (((Rows.OpenSpec.upto Rows.topTraceSpec).at F).post enc prog Tryz.f3 false true false false):=by
 obtain⟨g,h⟩:=reads os enc;refine returnsInHanded_of_row (C:=Tryz.checked) (s:=Rows.OpenSpec.upto Rows.topTraceSpec) own a (by kernel_rfl) func3
  (witness_row_at (enc:=enc) (C:=Tryz.checked) false (laidWorld os) #[.agg #[I6 0,I6 0,I6 0],aS] rfl (by kernel_rfl) (by kernel_rfl) (by kernel_rfl)
   (OpenSpec.preRow_of_cond 8 h (by kernel_rfl) (fun k hk=>by cases hk;kernel_rfl) (by kernel_rfl) (laid_met os))) ?_
 intro W base args i j b f m _ c _ n _ _;exact contract H enc W base args i j b f m n (c _ rfl)
theorem closed:joinedFacts Tryz.pinned.checked.prog 3 Tryz.f3 (Rows.OpenSpec.upto Rows.topTraceSpec).bare Rows.topTraceUptoRow=true:=
 (and2 (and2 (and2 (and2 (and2 (and2 (and2 (and2 (and2 (and2 (and2 (and2 (and2 (and2 (and2 (and2 (and2 (and2 (and2 (and2 (and2 (and2 (and2 (and2 (and2 (and2 (and2 (and2 (and2 (and2 (and2 fact0 fact1) fact2) fact3) fact4) fact5) fact6) fact7) fact8) fact9) fact10) fact11) fact12) fact13) fact14) fact15) fact16) fact17) fact18) fact19) fact20) fact21) fact22) fact23) fact24) fact25) fact26) fact27) fact28) fact29) fact30) fact31)
theorem saidUpto:Rows.TopTraceUptoSaid:=
 OpenClaim.holds_of_cond 3 Tryz.f3 rfl rfl rfl rfl rfl rfl rfl ⟨rfl,rfl,rfl,rfl,rfl⟩ rfl rfl rfl rfl rfl (by kernel_rfl) func3 closed
  (of_decide_eq_true (by kernel_rfl)) (by unfold Func.isWrapper;first|(rw[if_pos (by decide+kernel)];kernel_rfl)|(rw[if_neg (by decide+kernel)];exact⟨rfl,rfl⟩))
  (fun os started H enc _ F=>by rw[OpenClaim.pre_eq_preRow];exact liftedUpto os started H enc F)
theorem plain(f:FuncId)(a:Func)(hf:Tryz.pinned.checked.prog.funcNamed "caravan/caravantop.TopTrace"=some f)(b:Tryz.pinned.checked.prog.funcs[f]?=some a):
  false=Tryz.pinned.checked.prog.looks []/\∀(j:Nat) t,a.params[j]?=some t->Tryz.pinned.checked.prog.wantsStandIn t=false:=by
 obtain rfl:f=3:=jI ((show prog.funcNamed "caravan/caravantop.TopTrace"=some 3 by kernel_rfl).symm.trans hf) |>.symm;obtain rfl:a=Tryz.f3:=(jI (func3.symm.trans b)).symm;refine⟨by kernel_rfl,fun j t ht=>?_⟩;rw[params3]at ht;rcases j with _|_|j
 ·cases ht;kernel_rfl
 ·cases ht;kernel_rfl
 ·simp at ht
theorem goes_no:false=Rows.topTraceUptoRow.goesBy Tryz.pinned.checked.prog:=by
 have h:∀g:Nat,(Tryz.pinned.checked.prog.funcs[g]?).any Func.goes=false:=by
  intro g;cases hg:Tryz.pinned.checked.prog.funcs[g]? with
  |none=>rfl
  |some fn=>
   have a:=noGoes;rw[Array.any_eq_false]at a;obtain⟨b,rfl⟩:=Array.getElem?_eq_some_iff.1 hg;exact Bool.eq_false_iff.2 (a g b)
 have c:∀f,Tryz.pinned.checked.prog.goes f=false:=by
  intro f;unfold Program.goes;rw[noGoes,Bool.and_false,Bool.or_false,List.any_eq_false];intro g _;rw[h g];exact Bool.false_ne_true
 have i:Rows.topTraceUptoRow.start=.entering:=rfl;unfold OpenClaim.goesBy Program.goesAt Program.goesFrom;rw[i];generalize Tryz.pinned.checked.prog.funcNamed Rows.topTraceUptoRow.func=x;generalize hP:Tryz.pinned.checked.prog=P at c;cases x with
 |none=>rfl
 |some f=>simp[c]
theorem cardUpto:Rows.TopTraceUptoCardSaid:=
 Claim7.holds_tied_plain_at .later [] _ _ _ _ saidUpto (fun _ h=>by cases h) (by kernel_rfl) (fun _ h=>by cases h) topTraceUpto_row_tie rfl ⟨rfl,rfl⟩ (by kernel_rfl) rfl plain goes_no
end
end topTrace
end Go.Proofs.YthdfgdicnplhlaaGreatDoor
