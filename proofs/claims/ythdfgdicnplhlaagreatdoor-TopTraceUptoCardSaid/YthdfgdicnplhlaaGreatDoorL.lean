import Derived.Test.YthdfgdicnplhlaaGreatDoorK
import Derived.ChangeOld
import Derived.Deep.SlicePairs
import Derived.Deep.Strs
import Derived.Laws.IdiomArrays
import Derived.Lib.SmallJoins
import Derived.OpenShut
import Derived.ProofKit
set_option maxHeartbeats 16000000
set_option maxRecDepth 100000
set_option linter.all false
namespace Go.Proofs.YthdfgdicnplhlaaGreatDoor
open Go.RowKit Hd _root_.Go.Proofs.Tryz
variable{b:Int}{n t c5:Nat}{les:List Rp}{m:Mv}{E:bX}{tv:Nat → Int}{M:Nat}{a:Int}{o:Ow}{w:World}{g:Nat}{W:World}{k:Nat}{c:Cl}{i:Nat}{dl:List Rp}{r:Rp}{E' E1:bX}{M' nc j:Nat}{o' o1:Ow}{w' w6:World}{v v1 v2 v3 v4 v5 v6 v7:Value}{e:Ending}{ps:List Pl}{H:Type}{d:DataW H}
section
variable{aM:Nat}
theorem kc{w0:Nat}{w W}{b:Nat}(h:Below w0 w W)(a:w0<=b):∀(vs:List Value) (i:Nat),Below w0 w (bB W b i vs)
 |vs,i=>by
  induction vs generalizing W i with
  |nil=>exact h
  |cons v vs ih=>exact ih (h.setCell (p:=⟨b,i,none⟩) a v) (i+1)
theorem FB(z:Int)(a:2<=n)(b:n<=8):∃j:Nat,j < n/\IntKind.i64.wrap (1+(IntKind.i64.wrap (z.tmod (n:Int)+(n:Int))).tmod (n:Int))=(j:Int)+1:=by
 have c:z.tmod (n:Int) < n:=Int.tmod_lt_of_pos _ (by omega);have f:-(n:Int) < z.tmod (n:Int):=Int.lt_tmod_of_pos _ (by omega);rw[zZ (z.tmod (n:Int)+(n:Int)) (by omega),Int.tmod_eq_emod_of_nonneg (by omega)];have g:=Int.emod_lt_of_pos (z.tmod (n:Int)+(n:Int)) (show(0:Int) < n by omega);have h:=Int.emod_nonneg (z.tmod (n:Int)+(n:Int)) (show(n:Int)≠0 by omega);rw[zZ _ (by omega)];exact⟨((z.tmod (n:Int)+(n:Int)) % (n:Int)).toNat,by omega,by omega⟩
theorem xm{aM:Nat}{A5}(hm:2<=aM/\aM<=8)(y1:Ce w t 1 (I6 (aM:Nat)))(hk:Ce w t 12 (.slice A5 les.length c5))(hr:Rw cW w (.slice A5 les.length c5) les)(hl:les.length<=1000)(hq:m.q.length<=4611686018427387904)(hb:m.b.length<=4611686018427387904):
  Cs 10 #[Pt t,.agg (tq m)] w fun e w'=>G2 aM e/\Below w.heap.size w w':=by
 obtain⟨kd,nd,at_,nn,op,q,bd,rc⟩:=m;dsimp only at hq hb;have hC:=aH (fun s hs W=>xl s 20 hs (by omega) W);obtain⟨j,hj,hL⟩:=FB nd hm.1 hm.2;have n3:¬aM=0:=by omega
 apply cI;go_in;go_upto_region 2 with(fail);generalize wrap64 (1+(wrap64 (kd.tmod 9+9)).tmod 9)=z;obtain⟨U,T,k1⟩:=tK w #[I6 z,I6 nd,I6 at_,I6 nn,I6 op,.string (aF q),.string (aF bd),I6 rc] #[I6 0,I6 0,I6 0,I6 0,I6 0,Se,Se,I6 0] 53 53;obtain⟨W1,hn⟩:=nM ((w.alloc (.cells #[I6 z,I6 nd,I6 at_,I6 nn,I6 op,.string (aF q),.string (aF bd),I6 rc] 53)).alloc (.cells #[I6 0,I6 0,I6 0,I6 0,I6 0,Se,Se,I6 0] 53));simp only[hn.out];rw[hn]at U T k1;have hD:=fun i=>am.frozen T i;have c0:=ce T;have c1:=dt T;have c2:=ed T;have c3:=ef T;have c4:=eV T;have hE:=e9 T;have c6:=fa T;have c7:=fb T;have b1:=aD U y1;have ho:=aD U hk;refine aN 19 (by kernel_rfl) (by kernel_rfl) ?_;simp only[zF,zN,zG,zO];repeat still_step
 refine wpStill_nil ?_;go_upto_region 5 with(fail);generalize bits BinOp.and IntKind.i64 nn 31=n31;obtain⟨W2,ha⟩:=nM (((W1.setCell ⟨w.heap.size,1,none⟩ (I6 ((j:Int)+1))).setCell ⟨w.heap.size,3,none⟩ (I6 n31)).drew);have k2:am W2 w.heap.size 53 #[I6 z,I6 ((j:Int)+1),I6 at_,I6 n31,I6 op,.string (aF q),.string (aF bd),I6 rc]:=by rw[<-ha];exact am.I (am.I T 1 _) 3 _
 have hd:Bw w W2:=by rw[<-ha];exact((U.setCell (p:=⟨w.heap.size,1,none⟩) nR _).setCell (p:=⟨w.heap.size,3,none⟩) nR _).drew
 have x2:am W2 (w.heap.size+1) 53 #[I6 0,I6 0,I6 0,I6 0,I6 0,Se,Se,I6 0]:=by
  rw[<-ha];have:=(k1.only (aB W1 w.heap.size 1 (I6 ((j:Int)+1))) (show w.heap.size+1≠w.heap.size by omega)).only (aB _ w.heap.size 3 (I6 n31)) (show w.heap.size+1≠w.heap.size by omega);exact this
 simp only[ha.out];clear c0 c1 c2 c3 c4 hE c6 c7 b1 ho T hD k1 U;have n:=eV k2;have x:=e9 k2;have y:=fa k2;have df:=fun i=>am.frozen k2 i;have ht:=aH (hC bd hb);obtain⟨bq,hF⟩:=nx ((q.length:Int) % 4==3);obtain⟨u,he,hf⟩:∃u:List UInt8,(if bq=true then(⟨#[98]⟩:ByteArray)else⟨#[97]⟩)=aF u/\u.length<=100:=by
  cases bq
  ·exact⟨[97],rfl,by simp⟩
  ·exact⟨[98],rfl,by simp⟩
 cases bq;all_goals
  simp only[jG,if_false,if_true]at he;go_wp2_with fail;refine(ht _).mono ?_;rintro _e _w ⟨⟨A,rfl,hM⟩,rfl⟩;go_upto_region 9 with(fail);try simp only[he]
  obtain⟨W3,hc⟩:=nM ((W2.setCell ⟨w.heap.size,5,none⟩ (.string (aF u))).setCell ⟨w.heap.size,6,none⟩ (.string (aF A)));have k3:am W3 w.heap.size 53 #[I6 z,I6 ((j:Int)+1),I6 at_,I6 n31,I6 op,.string (aF u),.string (aF A),I6 rc]:=by rw[<-hc];exact am.I (am.I k2 5 _) 6 _
  have hg:Bw w W3:=by rw[<-hc];exact(hd.setCell (p:=⟨w.heap.size,5,none⟩) nR _).setCell (p:=⟨w.heap.size,6,none⟩) nR _
  have x3:am W3 (w.heap.size+1) 53 #[I6 0,I6 0,I6 0,I6 0,I6 0,Se,Se,I6 0]:=by rw[<-hc];exact(x2.only (aB W2 w.heap.size 5 _) (by omega)).only (aB _ w.heap.size 6 _) (show w.heap.size+1≠w.heap.size by omega)
  simp only[hc.out];clear n x y df k2 hd x2 he ht hF;have n:=eV k3;have df:=fun i=>am.frozen k3 i;obtain⟨b2,hd⟩:=nx (op==2);obtain⟨k,W4,hu,f,hw,c⟩:∃k W4,(if b2=true then W3.setCell ⟨w.heap.size,4,none⟩ (I6 7)else W3)=W4/\am W4 w.heap.size 53 #[I6 z,I6 ((j:Int)+1),I6 at_,I6 n31,I6 k,.string (aF u),.string (aF A),I6 rc]/\Bw w W4/\
    am W4 (w.heap.size+1) 53 #[I6 0,I6 0,I6 0,I6 0,I6 0,Se,Se,I6 0]:=by
   cases b2
   ·exact⟨op,W3,rfl,k3,hg,x3⟩
   ·exact⟨7,_,rfl,am.I k3 4 _,hg.setCell (p:=⟨w.heap.size,4,none⟩) nR _,x3.only (aB W3 w.heap.size 4 _) (by omega)⟩
  obtain⟨K4,V,X4⟩:=gC f hw c;clear f hw c k3 hg x3;have hB:(les.length=0/\decide ((0:Int) < (les.length:Int))=false)\/(0 < les.length/\decide ((0:Int) < (les.length:Int))=true):=by
   rcases qK les.length with h|h
   ·exact .inl ⟨h,by simp[h]⟩
   ·exact .inr ⟨h,by simp;omega⟩
  have ho:=aD V hk;cases b2;all_goals
   simp only[jG,if_false,if_true]at hu;subst hu;go_upto_region 11 with(fail);clear n df;rcases hB with⟨_,hG⟩|⟨hK,hG⟩
   ·go_upto_region 16 with(fail);have f:=K4.out;have c:=X4.out;have g:=am.az c [I6 z,I6 ((j:Int)+1),I6 at_,I6 n31,I6 k,.string (aF u),.string (aF A),I6 rc] rfl;have S:=V.out;have e0:=ce f;have e1:=dt f;have e2:=ed f;have e3:=ef f;have e4:=eV f;have e5:=e9 f;have e6:=fa f;have e7:=fb f;have xf:=fun i=>am.frozen c i;have x0:=ce c;have x1:=dt c;have x2:=ed c;have x3:=ef c;have x5:=eV c;have x6:=e9 c;have x7:=fa c;have x8:=fb c;have B:=ce g;have C:=dt g;have D:=ed g;have F:=ef g;have G:=eV g;have H:=e9 g;have I:=fa g;have J:=fb g;have a:=g;have L:=ce a;have M:=dt a;have N:=ed a;have O:=ef a;have n:=eV a;have x:=e9 a;have y:=fa a;have R:=fb a;obtain⟨X,Y,Z⟩:=gC (zB L (zB M (zB N (zB O (zB n (zB x (zB y R))))))) (zB B (zB C (zB D (zB F (zB G (zB H (zB I J))))))) (kc (b:=w.heap.size+1) S (xD _) [I6 z,I6 ((j:Int)+1),I6 at_,I6 n31,I6 k,.string (aF u),.string (aF A),I6 rc] 0);clear f c g S B C D F G H I J a L M N O n x y R;go_wp2_with fail;obtain⟨B,C,D,F,G,H,I,J⟩:=Y.out;obtain⟨L,M,N,O,n,x,y,R⟩:=X.out;simp only[bB,zR,Nat.reduceAdd]at B C D F G H I J L M N O n x y R;refine bodyPost_ret (v:=.agg #[I6 z,I6 ((j:Int)+1),I6 at_,I6 n31,I6 k,.string (aF u),.string (aF A),I6 rc]) (by simp[results,results10,go_sem,B,C,D,F,G,H,I,J,L,M,N,O,n,x,y,R]) rfl ?_
    exact⟨⟨⟨z,(j:Int)+1,at_,n31,k,u,A,rc⟩,j,rfl,hj,rfl,hf,by simp only;omega⟩,Z⟩
   ·have hN:¬les.length=0:=by omega
    have t1:rc.tmod (les.length:Int) < les.length:=Int.tmod_lt_of_pos _ (by omega);have t2:-(les.length:Int) < rc.tmod (les.length:Int):=Int.lt_tmod_of_pos _ (by omega);obtain⟨kx,bz,hH,hz,hx,hh⟩:∃(kx:Nat) (bz:Bool),kx < les.length/\rc.tmod (les.length:Int)=(if bz=true then -(kx:Int)else(kx:Int))/\decide ((if bz=true then -(kx:Int)else(kx:Int)) < 0)=bz/\(bz=true->0 < kx):=by
     by_cases h:rc.tmod (les.length:Int) < 0
     ·exact⟨(-(rc.tmod (les.length:Int))).toNat,true,by omega,by simp only[if_true];omega,by simp only[if_true];exact decide_eq_true (by omega),fun _=>by omega⟩
     ·exact⟨(rc.tmod (les.length:Int)).toNat,false,by omega,by simp only[jG,if_false];omega,by simp only[jG,if_false];exact decide_eq_false (by omega),fun h=>by cases h⟩
    obtain⟨r,hI⟩:∃r,les[kx]?=some r:=⟨_,zA hH⟩;obtain⟨ga,oa,rfl,hy⟩:=hr.at_ hI;have b8:=aD V (show Ce w ga (oa+kx*9+8) (I6 r.rc)from hy 8 _ rfl);have q7:=fb K4;have qf:=fun i=>am.frozen K4 i;have hO:(0:Int)<=(kx:Int):=by omega
    have hP:(kx:Int) < (les.length:Int):=by omega
    have kw:IntKind.i64.wrap (kx:Int)=(kx:Int):=zZ _ (by omega);clear t1 t2 hy;obtain⟨bk,hA⟩:=nx (decide (0 < kx));cases bz
    ·simp only[jG,if_false]at hz hx;clear hh hA;go_wp2_with fail;refine aN 9 (by kernel_rfl) (by kernel_rfl) ?_;simp only[zF,zN,zG,zO];repeat still_step
     refine wpStill_nil ?_;go_upto_region 16 with(fail);have k9:am _ w.heap.size 53 #[I6 z,I6 ((j:Int)+1),I6 at_,I6 n31,I6 k,.string (aF u),.string (aF A),I6 r.rc]:=am.I K4 7 (I6 r.rc);have x9:=X4.only (aB _ w.heap.size 7 (I6 r.rc)) (show w.heap.size+1≠w.heap.size by omega);have b9:=V.setCell (p:=⟨w.heap.size,7,none⟩) nR (I6 r.rc);have f:=k9;have c:=x9;have g:=am.az c [I6 z,I6 ((j:Int)+1),I6 at_,I6 n31,I6 k,.string (aF u),.string (aF A),I6 r.rc] rfl;have S:=b9;have e0:=ce f;have e1:=dt f;have e2:=ed f;have e3:=ef f;have e4:=eV f;have e5:=e9 f;have e6:=fa f;have e7:=fb f;have xf:=fun i=>am.frozen c i;have x0:=ce c;have x1:=dt c;have x2:=ed c;have x3:=ef c;have x5:=eV c;have x6:=e9 c;have x7:=fa c;have x8:=fb c;have B:=ce g;have C:=dt g;have D:=ed g;have F:=ef g;have G:=eV g;have H:=e9 g;have I:=fa g;have J:=fb g;have a:=g.below (bD _);have L:=ce a;have M:=dt a;have N:=ed a;have O:=ef a;have n:=eV a;have x:=e9 a;have y:=fa a;have R:=fb a;obtain⟨X,Y,Z⟩:=gC (zB L (zB M (zB N (zB O (zB n (zB x (zB y R))))))) (zB B (zB C (zB D (zB F (zB G (zB H (zB I J))))))) (kc (b:=w.heap.size+1) S (xD _) [I6 z,I6 ((j:Int)+1),I6 at_,I6 n31,I6 k,.string (aF u),.string (aF A),I6 r.rc] 0);clear f c g S B C D F G H I J a L M N O n x y R;go_wp2_with fail;obtain⟨B,C,D,F,G,H,I,J⟩:=Y.out
     obtain⟨L,M,N,O,n,x,y,R⟩:=X.out;simp only[bB,zR,Nat.reduceAdd]at B C D F G H I J L M N O n x y R;refine bodyPost_ret (v:=.agg #[I6 z,I6 ((j:Int)+1),I6 at_,I6 n31,I6 k,.string (aF u),.string (aF A),I6 r.rc]) (by simp[results,results10,go_sem,B,C,D,F,G,H,I,J,L,M,N,O,n,x,y,R]) rfl ?_;exact⟨⟨⟨z,(j:Int)+1,at_,n31,k,u,A,r.rc⟩,j,rfl,hj,rfl,hf,by simp only;omega⟩,Z.drew⟩
    ·simp only[if_true]at hz hx;have hJ:0 < kx:=hh rfl;have hQ:(0:Int) < (kx:Int):=by omega
     have hR:decide (0 < kx)=true:=decide_eq_true hJ;clear hh hA;go_wp2_with fail;refine aN 9 (by kernel_rfl) (by kernel_rfl) ?_;simp only[zF,zN,zG,zO];repeat still_step
     refine wpStill_nil ?_;go_upto_region 16 with(fail);have k9:am _ w.heap.size 53 #[I6 z,I6 ((j:Int)+1),I6 at_,I6 n31,I6 k,.string (aF u),.string (aF A),I6 r.rc]:=am.I K4 7 (I6 r.rc);have x9:=X4.only (aB _ w.heap.size 7 (I6 r.rc)) (show w.heap.size+1≠w.heap.size by omega);have b9:=V.setCell (p:=⟨w.heap.size,7,none⟩) nR (I6 r.rc);have f:=k9;have c:=x9;have g:=am.az c [I6 z,I6 ((j:Int)+1),I6 at_,I6 n31,I6 k,.string (aF u),.string (aF A),I6 r.rc] rfl;have S:=b9;have e0:=ce f;have e1:=dt f;have e2:=ed f;have e3:=ef f;have e4:=eV f;have e5:=e9 f;have e6:=fa f;have e7:=fb f;have xf:=fun i=>am.frozen c i;have x0:=ce c;have x1:=dt c;have x2:=ed c;have x3:=ef c;have x5:=eV c;have x6:=e9 c;have x7:=fa c;have x8:=fb c;have B:=ce g;have C:=dt g;have D:=ed g;have F:=ef g;have G:=eV g;have H:=e9 g;have I:=fa g;have J:=fb g;have a:=g.below (bD _);have L:=ce a;have M:=dt a;have N:=ed a;have O:=ef a;have n:=eV a;have x:=e9 a;have y:=fa a;have R:=fb a;obtain⟨X,Y,Z⟩:=gC (zB L (zB M (zB N (zB O (zB n (zB x (zB y R))))))) (zB B (zB C (zB D (zB F (zB G (zB H (zB I J))))))) (kc (b:=w.heap.size+1) S (xD _) [I6 z,I6 ((j:Int)+1),I6 at_,I6 n31,I6 k,.string (aF u),.string (aF A),I6 r.rc] 0);clear f c g S B C D F G H I J a L M N O n x y R;go_wp2_with fail;obtain⟨B,C,D,F,G,H,I,J⟩:=Y.out
     obtain⟨L,M,N,O,n,x,y,R⟩:=X.out;simp only[bB,zR,Nat.reduceAdd]at B C D F G H I J L M N O n x y R;refine bodyPost_ret (v:=.agg #[I6 z,I6 ((j:Int)+1),I6 at_,I6 n31,I6 k,.string (aF u),.string (aF A),I6 r.rc]) (by simp[results,results10,go_sem,B,C,D,F,G,H,I,J,L,M,N,O,n,x,y,R]) rfl ?_;exact⟨⟨⟨z,(j:Int)+1,at_,n31,k,u,A,r.rc⟩,j,rfl,hj,rfl,hf,by simp only;omega⟩,Z.drew⟩
theorem A1(h:oZ E tv M t g aM a b o w)(i:2<=aM/\aM<=8)(bI:E.cs.length<=1000)(j:m.q.length<=4611686018427387904)(k:m.b.length<=4611686018427387904):
  Cs 10 #[Pt t,.agg (tq m)] w fun e w'=>G2 aM e/\Below w.heap.size w w':=by
 obtain⟨ca,tld,came,nm,dl,v1,v2,v3,v4,v5,v6,v7,c,hf,p⟩:=h.parts;obtain⟨q,c5,rfl,_⟩:=c.r5.rw.slice;obtain⟨_,n,_,_,_,_,_,f,_⟩:=c.cells;exact xm i n f c.r5.rw (by omega) j k
theorem i7{T:TypeId}{a0 a1 a2 a3 a4 a5 a6 a7}(h:am W k T #[a0,a1,a2,a3,a4,a5,a6,a7]):Ce W k 0 a0/\Ce W k 1 a1/\Ce W k 2 a2/\Ce W k 3 a3/\Ce W k 4 a4/\Ce W k 5 a5/\Ce W k 6 a6/\Ce W k 7 a7:=
 ⟨ce h,dt h,ed h,ef h,eV h,e9 h,fa h,fb h⟩
theorem Eg{o}{aM:Nat}{c:Nat}{v1 v2 v3 v4 v6 v7}(j:am W t 38 (xY g aM a b v1 v2 v3 v4 (.slice (some ⟨c,0,none⟩) dl.length c5) v6 v7))(f:cZ cW o (10,5) W (.slice (some ⟨c,0,none⟩) dl.length c5) dl)(h:dl[i]?=some r):
  Ce W t 12 (.slice (some ⟨c,0,none⟩) dl.length c5)/\Ce W c (i*9+3) (I6 r.m.d.nd)/\Ce W c (i*9+3+1) (I6 r.m.d.n):=
 ⟨am.cell j 12,f.cell h 3 rfl,f.cell h 4 rfl⟩
def Dz(t g aM:Nat)(a b:Int)(ca:List Ca)(nds:List Int)(tld:List Rp)(came:List Bool)(les:List Rp)(nm:List bC)(dl:List Rp)(o:Ow)(w:World)(B:Nat)(cs:Array Value)(W:World):Prop:=
 ∃o' v1 v2 v3 v4 v5 v6 v7,c9 t g aM a b ca nds tld came les nm dl o' W v1 v2 v3 v4 v5 v6 v7/\St (fun y=>y.1=10) o w o' W/\am W B 53 cs/\o' B=(0,0)
theorem pY(h:oZ E tv M t g aM a b o w)(hm:2<=aM/\aM<=8)(hj:j < aM)(hJ:m.nd=(j:Int)+1)(hq:m.q.length<=100)(hb:m.b.length<=1000)(bI:E.cs.length < 1000)(hM:M<=999999):
  Cs 9 #[Pt t,.agg (tq m)] w (lR E tv (M+1) t g aM a b o w):=by
 obtain⟨tld,came,dl,cl,ps,hT,hx,hC⟩:=h;obtain⟨ca,nm,v1,v2,v3,v4,v5,v6,v7,hD,hp,hy⟩:=hT.d;have hf:=hC.1.fin;have hK:=hT.law.lc;have he:=hT.law.lt;have hA:=hT.cnt;obtain⟨kd,nd,at_,V,F,q,p,rc⟩:=m;dsimp only at hJ hq hb;subst hJ;obtain⟨A1,c1,rfl,_⟩:=hD.r1.rw.slice;obtain⟨A2,c2,rfl,_⟩:=hD.r2.rw.slice;obtain⟨A3,c3,rfl,_⟩:=hD.r3.rw.slice;obtain⟨A4,c4,rfl,_⟩:=hD.r4.rw.slice;obtain⟨A5,c5,rfl,_⟩:=hD.r5.rw.slice;obtain⟨A6,c6,rfl,_⟩:=hD.r6.rw.slice;obtain⟨W0,HW,HB,x0⟩:=dW w #[I6 kd,I6 ((j:Int)+1),I6 at_,I6 V,I6 F,.string (aF q),.string (aF p),I6 rc] 53;have D0:=hD.below HB hf;have C0:=hC.below HB;have T0:=hT.below HB hf;have S0:St (fun y=>y.1=10) o w o W0:=.J HB hf;have hL:o w.heap.size=(0,0):=hf _ nR;have a0:=ce x0;have a1:=dt x0;have a2:=ed x0;have a3:=ef x0;have a4:=eV x0;have a5:=e9 x0;have a6:=fa x0;have a7:=fb x0;by_cases hk:kd=1
 case neg=>
  have e1:(kd==1)=false:=by simpa using hk
  have hd:Bw W0 W0.drew:=bD _;have hh:=aH (A0 (m:=⟨kd,(j:Int)+1,at_,V,F,q,p,rc⟩) (C0.below hd) hx (T0.below hd (hf.below HB.size)) ((S0.below hd).mono fun y e=>.inl e) hj rfl hk hM);obtain⟨y0,_⟩:=D0.cells;clear hT hC hD D0 C0 T0 S0 x0 hp hy hd;apply cI;go_in;go_upto_region 1 with(fail);simp only[HW.out];go_wp2_with fail;refine aN 5 (by kernel_rfl) (by kernel_rfl) ?_;simp only[zF,zN,zG,zO];repeat still_step
  refine wpStill_nil ?_;go_wp2_with fail;refine hh.mono ?_;rintro _e w2 G;obtain⟨E2,v,o2,rfl,hR⟩:=id G;have HR:=aH G;clear G hR;go_wp2_with fail;go_ret;exact HR
 subst hk;have hN:=aH hC;have xj:dl.length<=1000:=by
  have e3:came.count true<=came.length:=List.count_le_length;omega
 have xk:ca.length<=1000:=by have:=hp.1;omega
 have xl:tld.length<=1000:=by omega
 have xm:came.length<=1000:=by omega
 obtain⟨nds,hg⟩:=nM (E.cs.map Cl.nd);have xn:nds.length<=1000:=by rw[<-hg,jD];omega
 have xo:nm.length<=1000000:=by omega
 have hO:=aH (zB hK he);rw[hg]at D0;have Y:=aH (zB hp (zB hy (zB hT.law hA)));have hP:Dz t g aM a b ca nds tld came dl nm dl o w w.heap.size #[I6 1,I6 ((j:Int)+1),I6 at_,I6 V,I6 F,.string (aF q),.string (aF p),I6 rc] W0:=⟨o,_,_,_,_,_,_,_,D0,S0,x0,hL⟩;have hQ:=aH hP;clear hT hC hD D0 C0 T0 S0 x0 hp hy hL hP a1 a2 a3 a4 a5 a6 a7 hA hK he;apply cI;go_in;go_upto_region 1 with(fail);simp only[HW.out];go_upto_region 2 with(fail);go_cut [9]from 10 to 19 (fun v W=>v=Pt t/\Dz t g aM a b (ca++[⟨F,q,p,rc⟩]) nds tld came dl nm dl o w w.heap.size #[I6 1,I6 ((j:Int)+1),I6 at_,I6 V,I6 F,.string (aF q),.string (aF p),I6 rc] W)
 case first=>
  obtain⟨o5,v1,v2,v3,v4,v5,v6,v7,s,S5,x5,Z⟩:=hQ.out;obtain⟨xp,xq,rfl,_⟩:=s.r1.rw.slice;have yz:=s.cells.2.2.2.1;have z:Bw W0 (W0.drew.alloc (.cells (q6.f ⟨F,q,p,rc⟩).toArray q6.ty)):=(bD _).alloc nR _;obtain⟨A,f,B,hl⟩:=gD (s.below z S5.far) (x5.below z) (S5.below z) (dL q6 W0.drew ⟨F,q,p,rc⟩);have hn:Hid ((ca.length+1)*q6.bytes<=140737488355328):=aH (by show(ca.length+1)*48<=_;omega);obtain⟨KA,KB⟩:=gB (i7 (x5.below (bD _))) (i7 f);have yy:(W0.drew).cell? ⟨t,8,none⟩=_:=yz;have hB:t < W0.heap.size:=ap s.blk;have hE:w.heap.size < W0.heap.size:=ap x5;have N:=aH Z;clear s S5 x5 z Z;show(Code.region _ (_::_::_::_::Ll _::_).toArray _).wp _ _ _ _;go_region_held3 (fun U=>Ce U w.heap.size 0 (I6 1)/\Ce U w.heap.size 1 (I6 ((j:Int)+1))/\Ce U w.heap.size 2 (I6 at_)/\Ce U w.heap.size 3 (I6 V)/\Ce U w.heap.size 4 (I6 F)/\Ce U w.heap.size 5 (.string (aF q))/\Ce U w.heap.size 6 (.string (aF p))/\Ce U w.heap.size 7 (I6 rc))
   (first|exact KA|exact KB|exact KC|exact KD)
   (first
    |(refine dQ q6 rfl (.tmp 13) (.tmp 16) rfl A.r1.1 (zS _) rfl rfl hl hn (by simp only[jR];omega) ?_;intro u6 w6 C O D;obtain⟨A6,c6,H,_⟩:=(aK.rw (E:=q6) C).slice;simp only[zC,zQ,qI,zR]at H;subst H;obtain⟨R,ha,o6,x,X⟩:=A.cj B.far C O (D.imp _root_.id fun e=>⟨_,e,nR⟩);have f6:=am.frozen R 8;have m6:=am.cell R 8;have KC:=aH (i7 (ha _ _ _ f (by rw[N];simp)));have KD:=aH (i7 (f.st x (by rw[N];simp)))))
  all_goals
   go_wp2_with fail;go_meet;exact⟨rfl,o6,_,_,_,_,_,_,_,X,B.trans x,f.st x (by rw[N];simp),by rw[x.old _ (ap f)];exact N⟩
 case rest=>
 obtain⟨rfl,hS⟩:=hcut;obtain⟨V1,rfl⟩:∃V1,V1=wc:=⟨_,rfl⟩;have hU:=aH hS;clear hS hQ;go_upto_region 3 with(fail);go_cut [20]from 21 to 30 (fun v W=>v=Pt t/\Dz t g aM a b (ca++[⟨F,q,p,rc⟩]) (nds++[(j:Int)+1]) tld came dl nm dl o w w.heap.size #[I6 1,I6 ((j:Int)+1),I6 at_,I6 V,I6 F,.string (aF q),.string (aF p),I6 rc] W)
 case first=>
  obtain⟨o5,v1,v2,v3,v4,v5,v6,v7,s,S5,x5,Z⟩:=hU.out;obtain⟨xr,xs,rfl,_⟩:=s.r2.rw.slice;have yz:=s.cells.2.2.2.2.1;have z:Bw V1 (V1.drew.alloc (.cells (aC.f ((j:Int)+1)).toArray aC.ty)):=(bD _).alloc nR _;obtain⟨A,f,B,hl⟩:=gD (s.below z S5.far) (x5.below z) (S5.below z) (dL aC V1.drew ((j:Int)+1));have hn:Hid ((nds.length+1)*aC.bytes<=140737488355328):=aH (by show(nds.length+1)*8<=_;omega);obtain⟨KA,KB⟩:=gB (i7 (x5.below (bD _))) (i7 f);have yy:(V1.drew).cell? ⟨t,9,none⟩=_:=yz;have hB:t < V1.heap.size:=ap s.blk;have hE:w.heap.size < V1.heap.size:=ap x5;have N:=aH Z;clear s S5 x5 z Z;show(Code.region _ (_::_::_::_::Ll _::_).toArray _).wp _ _ _ _;go_region_held3 (fun U=>Ce U w.heap.size 0 (I6 1)/\Ce U w.heap.size 1 (I6 ((j:Int)+1))/\Ce U w.heap.size 2 (I6 at_)/\Ce U w.heap.size 3 (I6 V)/\Ce U w.heap.size 4 (I6 F)/\Ce U w.heap.size 5 (.string (aF q))/\Ce U w.heap.size 6 (.string (aF p))/\Ce U w.heap.size 7 (I6 rc))
   (first|exact KA|exact KB|exact KC|exact KD)
   (first
    |(refine dQ aC rfl (.tmp 24) (.tmp 27) rfl A.r2.1 (zS _) rfl rfl hl hn (by simp only[jR];omega) ?_;intro u6 w6 C O D;obtain⟨A6,c6,H,_⟩:=(aK.rw (E:=aC) C).slice;simp only[zC,zQ,qI,zR]at H;subst H;obtain⟨R,ha,o6,x,X⟩:=A.push2 B.far C O (D.imp _root_.id fun e=>⟨_,e,nR⟩);have f6:=am.frozen R 9;have m6:=am.cell R 9;have KC:=aH (i7 (ha _ _ _ f (by rw[N];simp)));have KD:=aH (i7 (f.st x (by rw[N];simp)))))
  all_goals
   go_wp2_with fail;go_meet;exact⟨rfl,o6,_,_,_,_,_,_,_,X,B.trans x,f.st x (by rw[N];simp),by rw[x.old _ (ap f)];exact N⟩
 case rest=>
 obtain⟨rfl,h6⟩:=hcut;obtain⟨V2,rfl⟩:∃V2,V2=wc:=⟨_,rfl⟩;obtain⟨o5,v1,v2,v3,v4,v5,v6,v7,s,S5,x5,Z⟩:=h6;obtain⟨xt,xu,rfl,_⟩:=s.r3.rw.slice;obtain⟨xv,xw,rfl,_⟩:=s.r4.rw.slice;have h7:=s.cells.2.2.2.2.2.1;obtain⟨A,B,f,hs⟩:=gD s S5 x5 Z;have h8:Hid ((tld.length+1)*cW.bytes<=140737488355328):=aH (by show(tld.length+1)*88<=_;omega);have xa:Hid ((came.length+1)*fc.bytes<=140737488355328):=aH (by show(came.length+1)*1<=_;omega);clear s S5 x5 Z hU;go_upto_region 6 with(at_builtin;first
  |(refine gY cW rfl (.tmp 35) (.tmp 37) rfl A.r3.1 (zS _) ⟨0,0,0,⟨⟨0,0⟩,[],[],0⟩,0⟩ rfl rfl h8 (by omega) ?_;intro u6 w6 C O D;obtain⟨xc,xd,H,_⟩:=(aK.rw (E:=cW) C).slice;simp only[zC,zQ,qI,zR]at H;subst H;obtain⟨R,ha,o6,x,X⟩:=A.push3 B.far C O (D.imp _root_.id fun e=>⟨_,e,xD _⟩);have f6:=am.frozen R 10;have m6:=am.cell R 10;have xb:=X.cells.2.2.2.2.2.2.1;have hF:Hid (∀v,(w6.setCell ⟨t,10,none⟩ v).heap.size=w6.heap.size):=aH (fun v=>by simp))
  |(refine gY fc rfl (.tmp 45) (.tmp 46) rfl X.r4.1 (zS _) false rfl (by rw[hF];rfl) xa (by omega) ?_;intro u8 w8 hG hV hH;obtain⟨xe,xf,hW,_⟩:=(aK.rw (E:=fc) hG).slice;simp only[zC,zQ,qI,zR]at hW;subst hW;obtain⟨b8,xg,o8,s8,D8⟩:=X.push4 x.far hG hV (hH.imp _root_.id fun e=>⟨_,e,xD _⟩);have f8:=am.frozen b8 11;have m8:=am.cell b8 11))
 obtain⟨V3,hX⟩:=nM (w8.setCell ⟨t,11,none⟩ (.slice xe (came.length+1) xf));have I:=D8;have L:=(B.trans x).trans s8;have n:=(f.st x (by rw[hs];simp)).st s8 (by rw[x.old _ (ap f),hs];simp);have hc:o8 w.heap.size=(0,0):=by rw[s8.old _ (zT (ap f) x.size),x.old _ (ap f)];exact hs
 rw[hX]at I L n;simp only[hX.out];clear f6 m6 R ha C O D f8 m8 b8 xg hG hV hH D8 X x s8 h7 xb A B f hs hF;have e4:=eV n;have h5:(F=5/\(F==5)=true)\/(F≠5/\(F==5)=false):=by
  by_cases h:F=5
  ·exact .inl ⟨h,by simpa using h⟩
  ·exact .inr ⟨h,by simpa using h⟩
 rcases h5 with⟨rfl,_⟩|⟨_,e5⟩
 case inr=>
  have S:Bw V3 V3.drew:=bD _;have h9:=I.below S L.far;rw[<-hg]at h9;have hh:=aH ((pX (m:=⟨1,(j:Int)+1,at_,V,F,q,p,rc⟩) ((hN.cq L).below S) hx hO.1 (fd.called (c:=⟨F,q,p,(j:Int)+1⟩) Y.2.2.1 Y.2.2.2 Y.1 (show nm.length<=1000*E.cs.length+1000 from by have:=Y.2.1;omega) rc _ h9) ((L.below S).mono fun y e=>.inl e) hj rfl rfl hq hb bI).mono fun e w' h=>h.le (M':=M+1) (xD _));have y0:=I.cells.1;have e0:=ce n;have e1:=dt n;have e2:=ed n;have e3:=ef n;have e4:=eV n;have e6:=e9 n;have e7:=fa n;have e8:=fb n;clear h9 S;go_wp2_with fail;refine aN 5 (by kernel_rfl) (by kernel_rfl) ?_;simp only[zF,zN,zG,zO];repeat still_step
  refine wpStill_nil ?_;go_wp2_with fail;refine hh.mono ?_;rintro _e w2 G;obtain⟨E2,v,o2,rfl,hR⟩:=id G;have HR:=aH G;clear G hR;go_wp2_with fail;go_ret;exact HR
 have hY:Dz t g aM a b (ca++[⟨5,q,p,rc⟩]) (nds++[(j:Int)+1]) (tld++[⟨0,0,0,⟨⟨0,0⟩,[],[],0⟩,0⟩]) (came++[false]) dl nm dl o w w.heap.size #[I6 1,I6 ((j:Int)+1),I6 at_,I6 V,I6 5,.string (aF q),.string (aF p),I6 rc] V3:=⟨o8,_,_,_,_,_,_,_,I,L,n,hc⟩;have xh:=aH hY;clear I L n hc hY;go_wp2_with fail;go_loopw[5] (fun u W=>∃(i:Nat) (J:List bC),i<=dl.length/\u=I6 i/\J.length<=nm.length+i/\Dz t g aM a b (ca++[⟨5,q,p,rc⟩]) (nds++[(j:Int)+1]) (tld++[⟨0,0,0,⟨⟨0,0⟩,[],[],0⟩,0⟩]) (came++[false]) dl J dl o w w.heap.size #[I6 1,I6 ((j:Int)+1),I6 at_,I6 V,I6 5,.string (aF q),.string (aF p),I6 rc] W) (fun u _=>dl.length - (intOf u).toNat)
 case atStart=>exact⟨0,nm,zS _,rfl,nR,xh⟩
 case round=>
  obtain⟨i,J,hi,rfl,xx,hz⟩:=hrel;have HZ:=aH hz;obtain⟨o9,v1,v2,v3,v4,v5,v6,v7,I,L,n,hc⟩:=hz;by_cases he:i < dl.length
  case neg=>
   obtain rfl:i=dl.length:=by omega
   obtain⟨xy,hZ,rfl,_⟩:=I.r5.rw.slice;have ht:=I.cells.2.2.2.2.2.2.2.1;have S:Bw wr wr.drew:=bD _;have h9:=I.below S L.far;rw[<-hg]at h9;have hh:=aH ((pX (m:=⟨1,(j:Int)+1,at_,V,5,q,p,rc⟩) ((hN.cq L).below S) hx hO.1 (fd.called (c:=⟨5,q,p,(j:Int)+1⟩) Y.2.2.1 Y.2.2.2 Y.1 (show J.length<=1000*E.cs.length+1000 from by have:=Y.2.1;omega) rc _ h9) ((L.below S).mono fun y e=>.inl e) hj rfl rfl hq hb bI).mono fun e w' h=>h.le (M':=M+1) (xD _));have y0:=I.cells.1;have e0:=ce n;have e1:=dt n;have e2:=ed n;have e3:=ef n;have e4:=eV n;have e6:=e9 n;have e7:=fa n;have e8:=fb n;clear h9 S;go_wp2_with fail;refine aN 5 (by kernel_rfl) (by kernel_rfl) ?_;simp only[zF,zN,zG,zO];repeat still_step
   refine wpStill_nil ?_;go_wp2_with fail;refine hh.mono ?_;rintro _e w2 G;obtain⟨E2,v,o2,rfl,hR⟩:=id G;have HR:=aH G;clear G hR;go_wp2_with fail;go_ret;exact HR
  obtain⟨r,hr⟩:∃r,dl[i]?=some r:=⟨_,zA he⟩;obtain⟨g5,hZ,rfl,_⟩:=I.r5.aq rfl (by omega);have ht:=I.cells.2.2.2.2.2.2.2.1;have l8:Ce wr g5 (i*9+8) (I6 r.rc):=I.r5.cell hr 8 rfl;have e8:=fb n;have i0:(0:Int)<=(i:Int):=by omega
  have i1:(i:Int) < (dl.length:Int):=by omega
  obtain⟨bq,xz⟩:=nx (r.rc==rc);cases bq
  case false=>
   have HF:=aH (fun nq=>show Dz t g aM a b (ca++[⟨5,q,p,rc⟩]) (nds++[(j:Int)+1]) (tld++[⟨0,0,0,⟨⟨0,0⟩,[],[],0⟩,0⟩]) (came++[false]) dl J dl o w w.heap.size #[I6 1,I6 ((j:Int)+1),I6 at_,I6 V,I6 5,.string (aF q),.string (aF p),I6 rc] (wr.drewN nq)from⟨o9,_,_,_,_,_,_,_,I.below (below_drewN (bR _) nq) L.far,L.below (below_drewN (bR _) nq),n.below (below_drewN (bR _) nq),hc⟩);clear I L n hc;go_wp2_with fail;go_quiet (fail);go_wp2_with fail;go_roundw
   case rel=>exact⟨i+1,J,he,by go_num,by omega,HF _⟩
   case measure=>simp[intOf];omega
  obtain⟨h0,hu,h1,h2⟩:=gD I L n hc;clear I L n hc;go_wp2_with fail;go_quiet (fail);go_wp2_with fail;obtain⟨V4,h3⟩:=nM (wr.drewN nq);have ho:Bw wr V4:=h3▸below_drewN (bR _) nq;have D4:=h0.below ho hu.far;simp only[h3.out];obtain⟨xc,xd,rfl,_⟩:=D4.r6.rw.slice;clear ht l8 e8;have ht:=D4.cells.2.2.2.2.2.2.2.1;have h4:=D4.cells.2.2.2.2.2.2.2.2.1;have l3:Ce V4 g5 (i*9+3) (I6 r.m.d.nd):=D4.r5.cell hr 3 rfl;have l4:Ce V4 g5 (i*9+4) (I6 r.m.d.n):=D4.r5.cell hr 4 rfl;have z:Bw V4 (V4.drew.alloc (.cells (aJ.f r.m.d).toArray aJ.ty)):=(bD _).alloc nR _;have hw:=hu.far.below ho.size;have s:=D4.below z hw;obtain⟨A,B,f,hl⟩:=gD s ((hu.below ho).below z) ((h1.below ho).below z) (dL aJ V4.drew r.m.d);have hn:Hid ((J.length+1)*aJ.bytes<=140737488355328):=aH (by show(J.length+1)*16<=_;omega);have xi:Hid (J.length+1 < 1000000000000000000):=aH (by omega);obtain⟨KA,KB⟩:=gB (Eg (D4.below (bD _) hw).blk (D4.below (bD _) hw).r5 hr) (Eg s.blk s.r5 hr);have hB:t < V4.heap.size:=ap D4.blk;have hE:g5 < V4.heap.size:=D4.r5.lt g5 rfl;have yy:V4.drew.cell? ⟨t,13,none⟩=_:=h4;clear D4 s z ho hw h0 hu h1 l3 l4 ht;show(Code.region _ (_::_::_::_::Ll _::_).toArray _).wp _ _ _ _;go_region_held3 (fun U=>Ce U t 12 (.slice (some ⟨g5,0,none⟩) dl.length hZ)/\Ce U g5 (i*9+3) (I6 r.m.d.nd)/\Ce U g5 (i*9+3+1) (I6 r.m.d.n))
   (first|exact KA|exact KB|exact KC|exact KD)
   (first
    |(refine dQ aJ rfl (.tmp 79) (.tmp 89) rfl A.r6.1 (zS _) rfl rfl hl hn xi ?_;intro u6 w6 C O D;obtain⟨A6,c6,H,_⟩:=(aK.rw (E:=aJ) C).slice;simp only[zC,zQ,qI,zR]at H;subst H;obtain⟨R,ha,o6,x,X⟩:=A.push6 B.far C O (D.imp _root_.id fun e=>⟨_,e,nR⟩);have f6:=am.frozen R 13;have m6:=am.cell R 13;have KC:=aH (Eg R (A.r5.kept (fun k T cs hb e=>ha k T cs hb (by rw[e];simp))) hr);have KD:=aH (Eg X.blk X.r5 hr)))
  all_goals
   have hI:Dz t g aM a b (ca++[⟨5,q,p,rc⟩]) (nds++[(j:Int)+1]) (tld++[⟨0,0,0,⟨⟨0,0⟩,[],[],0⟩,0⟩]) (came++[false]) dl (J++[r.m.d]) dl o w w.heap.size #[I6 1,I6 ((j:Int)+1),I6 at_,I6 V,I6 5,.string (aF q),.string (aF p),I6 rc] _:=⟨o6,_,_,_,_,_,_,_,X,B.trans x,f.st x (by rw[h2];simp),by rw[x.old _ (ap f)];exact h2⟩;have HF:=aH hI;clear hI R f6 m6 ha C O D X x yy h4 KC KD f B A;go_wp2_with fail;go_roundw
   case rel=>exact⟨i+1,J++[r.m.d],he,by go_num,by simp;omega,HF⟩
   case measure=>simp[intOf];omega
end
def Gp(m:Mv):List Value:=[I6 m.kd,I6 m.nd,I6 m.at_,I6 m.n,I6 m.op,.string (aF m.q),.string (aF m.b),I6 m.rc]
def A2(o:Ow)(w:World)(A:Option Addr)(a:List Mv):Prop:=∀i m,a[i]?=some m->∃sa so,A=some ⟨sa,so,none⟩/\o sa=(0,0)/\sa < w.heap.size/\∀j u,(Gp m)[j]?=some u->w.cell? ⟨sa,so+i*8+j,none⟩=some u
theorem A2.st{p}{o o'}{w w'}{A}{ms:List Mv}(h:A2 o w A ms)(a:St p o w o' w')(k:¬p (0,0)):A2 o' w' A ms:=fun i m hm=>by
 obtain⟨c,n,rfl,f,b,q⟩:=h i m hm
 refine⟨c,n,rfl,by rw[a.old _ b];exact f,zT b a.size,fun j u hu=>?_⟩
 have g:=q j u hu
 unfold World.cell? at g ⊢
 rw[a.block c b (by rw[f];exact k)]
 exact g
section
variable{cm cm' cl cl':Nat → Prop}{aM:Nat}{tl tld:List Rp}{came came1:List Bool}{nm:List bC}{ca:List Ca}{nds:List Int}{p:Nat × Nat → Prop}{x:Nat × Nat}
theorem oZ.le(h:oZ E tv M t g aM a b o w)(c:M<=M'):oZ E tv M' t g aM a b o w:=by
 obtain⟨tld,came,dl,cl,ps,f,i,j⟩:=h;exact⟨tld,came,dl,cl,ps,f,i,j.le c⟩
theorem oZ.below(h:oZ E tv M t g aM a b o w)(c:Below w.heap.size w w'):oZ E tv M t g aM a b o w':=by
 obtain⟨tld,came,dl,cl,ps,i,j,f⟩:=h;exact⟨tld,came,dl,cl,ps,i.below c f.1.fin,j,f.below c⟩
theorem oZ.fin(h:oZ E tv M t g aM a b o w):aX o w:=by
 obtain⟨tld,came,dl,cl,ps,f,i,c⟩:=h;exact c.1.fin
def Gq(E:bX)(tv:Nat->Int)(M t g aM:Nat)(a b:Int)(o:Ow)(w:World)(i:Nat)(W:World):Prop:=∃E' o',E.Le E'/\E'.cs.length<=E.cs.length+i/\oZ E' tv (M+i) t g aM a b o' W/\St (tt w.heap.size) o w o' W
theorem yk{A}{cp:Nat}{c:List Mv}(X:oZ E tv M t g aM a b o w)(Y:2<=aM/\aM<=8)(hS:A2 o w A c)(Z:∀m∈c,m.q.length<=4611686018427387904/\m.b.length<=4611686018427387904)(hl:c.length<=4611686018427387904)(hM:M<=900000)(bI:E.cs.length<=100):
  Cs 5 #[Pt t,.slice A c.length cp] w fun e w'=>Rt e (.bool true)/\Gq E tv M t g aM a b o w 50 w':=by
 have hf:=X.fin;obtain⟨HI,HS,HM⟩:=gC X hS Z;apply cI;go_in;go_wp2;go_loopw[5] (fun u W=>∃i:Nat,i<=c.length/\i<=50/\u=I6 i/\Gq E tv M t g aM a b o w i W) (fun u _=>50 - (intOf u).toNat)
 case atStart=>exact⟨0,zS _,zS _,rfl,E,o,bX.Le.refl E,nR,HI,.refl hf⟩
 case round=>
  obtain⟨i,hi,hh,rfl,E1,o1,e1,e2,p,O⟩:=hrel;by_cases hgo:i < c.length/\i < 50
  case neg=>
   have s:Hid (Gq E tv M t g aM a b o w 50 wr):=aH ⟨E1,o1,e1,by omega,p.le (by omega),O⟩;by_cases R:i < c.length
   ·have h2:¬i < 50:=fun h=>hgo ⟨R,h⟩;have d1:decide ((i:Int) < (c.length:Int))=true:=by simp;omega
    have d2:decide ((i:Int) < 50)=false:=by simp;omega
    go_wp2;go_ret;exact⟨rfl,s⟩
   ·have d1:decide ((i:Int) < (c.length:Int))=false:=by simp;omega
    go_wp2;go_ret;exact⟨rfl,s⟩
  obtain⟨R,h2⟩:=hgo;have d1:decide ((i:Int) < (c.length:Int))=true:=by simp;omega
  have d2:decide ((i:Int) < 50)=true:=by simp;omega
  have i0:(0:Int)<=(i:Int):=by omega
  have i1:(i:Int) < (c.length:Int):=by omega
  obtain⟨m,x⟩:∃m,c[i]?=some m:=⟨_,zA R⟩;obtain⟨q1,q2⟩:=HM m (qC x);obtain⟨f,k,rfl,_,_,n⟩:=(HS.st O FA) i m x;obtain⟨kd,nd,at_,nn,op,q,bd,rc⟩:=m;have c0:Ce wr f (k+i*8) (I6 kd):=n 0 _ rfl;have c1:Ce wr f (k+i*8+1) (I6 nd):=n 1 _ rfl;have c2:Ce wr f (k+i*8+2) (I6 at_):=n 2 _ rfl;have c3:Ce wr f (k+i*8+3) (I6 nn):=n 3 _ rfl;have c4:Ce wr f (k+i*8+4) (I6 op):=n 4 _ rfl;have c5:Ce wr f (k+i*8+5) (.string (aF q)):=n 5 _ rfl;have c6:Ce wr f (k+i*8+6) (.string (aF bd)):=n 6 _ rfl;have c7:Ce wr f (k+i*8+7) (I6 rc):=n 7 _ rfl;obtain⟨ha,hd,HR⟩:=gC (A1 (m:=⟨kd,nd,at_,nn,op,q,bd,rc⟩) p Y (by omega) q1 q2) (fun W (hb:Bw wr W) m' j S hn hq hbd=>pY (m:=m') (j:=j) (p.below hb) Y S hn hq hbd (by omega) (by omega)) (zB e1 (zB e2 (zB p.fin O)));go_wp2_with fail;refine ha.mono ?_;rintro _e w1 ⟨⟨⟨z,hk,B,C,D,q',F,G⟩,j,rfl,S,H,I,J⟩,L⟩;dsimp only at H I J;subst H;have N:=L.trans ((ba w1 (.cells #[I6 z,I6 ((j:Int)+1),I6 B,I6 C,I6 D,.string (aF q'),.string (aF F),I6 G] 53)).mono L.size);obtain⟨T,he⟩:=gB (hd _ N ⟨z,(j:Int)+1,B,C,D,q',F,G⟩ j S rfl I J) N;go_wp2_with fail;refine T.mono ?_;rintro _e w3 ⟨E3,v3,o3,rfl,U,f2,f3,V⟩;obtain⟨hg,s⟩:=gB (il f3 (by obtain⟨_,k2,_⟩:=HR;omega)) (zB U (zB f2 V));go_wp2_with fail;refine hg.mono ?_;rintro _e w4 ⟨rfl,o4,t1,t2⟩;have hP:Gq E tv M t g aM a b o w (i+1) w4:=by
   obtain⟨g1,g2,g3,g4⟩:=HR;obtain⟨U,f2,V⟩:=s;have s1:=g4.below he;exact⟨E3,o4,g1.trans U,by omega,t1,(s1.trans (V.mono fun y hy=>hy.le s1.size)).trans (t2.mono fun y hy=>.inl hy)⟩
  have HP:=aH hP;go_wp2;go_roundw
  case rel=>exact⟨i+1,by omega,by omega,by go_num,HP⟩
  case measure=>simp[intOf];omega
end
section
variable{aM:Nat}
def E0:bX:=⟨[],fun _=>none⟩
theorem GS:pB E0:=⟨(fun d k h=>by cases h),(fun d d' k h=>by cases h),(fun d k h=>by cases h)⟩
theorem Gh:fF E0 [] [] []:=⟨rfl,rfl,(fun k c r h=>by simp at h),(fun r h=>by cases h)⟩
theorem oZ.new(i:eA E0 (fun _=>False) (fun _=>False) tv M 0 a b o' w' g ps [])(m:St (tt w.heap.size) o w o' w'):
  ∃o2,oZ E0 tv M w'.heap.size g ps.length a b o2 (w'.alloc (.cells (xY g ps.length a b (aS) (aS) (aS) (aS) (aS) (aS) (aS)) 38))/\St (tt w.heap.size) o w o2 (w'.alloc (.cells (xY g ps.length a b (aS) (aS) (aS) (aS) (aS) (aS) (aS)) 38)):=by
 obtain⟨W,f⟩:=nx (w'.alloc (.cells (xY g ps.length a b (aS) (aS) (aS) (aS) (aS) (aS) (aS)) 38));have n:Bw w' W:=f▸ba w' _;have p:am W w'.heap.size 38 (xY g ps.length a b (aS) (aS) (aS) (aS) (aS) (aS) (aS)):=f▸am.new w' _ _;have s:W.heap.size=w'.heap.size+1:=by rw[<-f];simp
 rw[f];have j:St (fun y=>y.1=10) o' w' (b7 o' w'.heap.size (10,0)) W:=(St.J n i.1.fin).tag nR (by omega) (.inr rfl);have q:=i.cq j;refine⟨b7 o' w'.heap.size (10,0),⟨[],[],[],fun _=>False,ps,⟨a8 _ _ _,⟨_,_,_,_,_,_,_,p,⟨[],cZ.nil _ _ _,rfl,(fun k c h=>by simp[E0]at h)⟩,cZ.nil _ _ _,cZ.nil _ _ _,cZ.nil _ _ _,cZ.nil _ _ _,⟨[],cZ.nil _ _ _,by simp⟩,cZ.nil _ _ _⟩,Gh,by simp⟩,rfl,?_⟩,m.trans (j.mono fun y e=>.inl e)⟩;exact q.cm_ fun k hk=>by simp at hk
theorem yl(h c f:Int)(I:eN tv w):Cs 4 #[.agg #[I6 h,I6 c,I6 f]] w fun e w'=>∃E t g aM a b o',Rt e (Pt t)/\(2<=aM/\aM<=8)/\E.cs.length<=2/\oZ E tv 1000 t g aM a b o' w'/\St (tt w.heap.size) (fun _=>(0,0)) w o' w':=by
 have f0:aX (fun _=>(0,0)) w:=fun _ _=>rfl;have n:=ba w (.cells #[I6 h,I6 c,I6 f] 23);have J:=am.new w 23 #[I6 h,I6 c,I6 f];obtain⟨W0,u⟩:=nM (w.alloc (.cells #[I6 h,I6 c,I6 f] 23));rw[u]at n J;obtain⟨L,y1,y2⟩:=am.three J;have p1:h.tmod 4 < 4:=Int.tmod_lt_of_pos _ (by omega);have p2:-4 < h.tmod 4:=Int.lt_tmod_of_pos _ (by omega);obtain⟨mn,x,hf,hg⟩:∃mn:Nat,2<=mn/\mn<=5/\2+h.tmod 4 % 4=(mn:Int):=⟨(2+h.tmod 4 % 4).toNat,by omega,by omega,by omega⟩;have n0:((mn:Int)==0)=false:=by simp;omega
 have n1:(1:Int)<=(mn:Int):=by omega
 have n2:(mn:Int)<=5:=by omega
 have a1:c.tmod (mn:Int) < mn:=Int.tmod_lt_of_pos _ (by omega);have a2:-(mn:Int) < c.tmod (mn:Int):=Int.lt_tmod_of_pos _ (by omega);obtain⟨ow,hh,hj,hk⟩:∃ow:Nat,1<=ow/\ow<=mn/\1+c.tmod (mn:Int) % (mn:Int)=(ow:Int):=by
  have h1:=Int.emod_lt_of_pos (c.tmod (mn:Int)) (show(0:Int) < mn by omega);have F:=Int.emod_nonneg (c.tmod (mn:Int)) (show(mn:Int)≠0 by omega);exact⟨(1+c.tmod (mn:Int) % (mn:Int)).toNat,by omega,by omega,by omega⟩
 have o0:((ow:Int)==0)=false:=by simp;omega
 have o1:(1:Int)<=(ow:Int):=by omega
 have o2:(ow:Int)<=5:=by omega
 have b1:f.tmod (ow:Int) < ow:=Int.tmod_lt_of_pos _ (by omega);have b2:-(ow:Int) < f.tmod (ow:Int):=Int.lt_tmod_of_pos _ (by omega);obtain⟨i,hl,z,hm⟩:∃i:Nat,1<=i/\i<=ow/\1+f.tmod (ow:Int) % (ow:Int)=(i:Int):=by
  have h1:=Int.emod_lt_of_pos (f.tmod (ow:Int)) (show(0:Int) < ow by omega);have F:=Int.emod_nonneg (f.tmod (ow:Int)) (show(ow:Int)≠0 by omega);exact⟨(1+f.tmod (ow:Int) % (ow:Int)).toNat,by omega,by omega,by omega⟩
 obtain⟨A,B⟩:=gB n (I.kept (n.block 1 I.lt));apply cI;go_in;go_upto_region 1 with(fail);simp only[u.out];go_wp2_with fail;obtain⟨W1,C⟩:=nM (W0.alloc (.cells #[I6 (ow:Nat),I6 (i:Nat),I6 30,I6 3,I6 12,I6 5] 32));have q:=ba W0 (.cells #[I6 (ow:Nat),I6 (i:Nat),I6 30,I6 3,I6 12,I6 5] 32);have M:=am.new W0 32 #[I6 (ow:Nat),I6 (i:Nat),I6 30,I6 3,I6 12,I6 5];rw[C]at q M;simp only[C.out];have D:=A.trans (q.mono A.size);have f1:aX (fun _=>(0,0)) W1:=fun _ _=>rfl;refine(AY (E:=E0) (o:=fun _=>(0,0)) (tv:=tv) (a:=(ow:Nat)) (b:=(i:Nat)) mn ⟨by omega,by omega⟩ ⟨by omega,by omega,by omega,by omega⟩ f1 ⟨B.kept (q.block 1 B.lt),rfl⟩ GS rfl (fun _=>rfl)).mono ?_;rintro s w2 ⟨g,ps,hn,rfl,N,hC,O⟩;subst N;have k:=M.st O D4;obtain⟨o3,R,S⟩:=oZ.new (w:=w) (o:=fun _=>(0,0)) hC ((St.J (p:=tt w.heap.size) D f0).trans (O.mono fun y hy=>.inr (hy.le D.size)));have c0:=ce k;have c1:=dt k;have c2:=ed k;have c3:=ef k;have c4:=eV k;have c5:=e9 k;have L:=R.parts;obtain⟨_,_,_,_,_,_,_,_,_,_,_,_,hD,_⟩:=L;have z0:=hD.cells.1;obtain⟨T,U⟩:=gB (pY (m:=⟨1,1,0,0,1,[97],[],0⟩) (j:=0) R ⟨x,by omega⟩ (by omega) rfl (by simp) (by simp) (by simp[E0]) (by omega)) S;go_wp2_with fail;refine T.mono ?_;rintro s w4 ⟨E1,v,o4,rfl,e1,V,e3,e4⟩;obtain⟨X,Y⟩:=gB (il e3 (by simp[E0]at V;omega)) (zB e1 (zB V e4))
 go_wp2_with fail;refine X.mono ?_;rintro s w5 ⟨rfl,o5,Z,s5⟩;obtain⟨ha,hb⟩:=gB (lS 2 (by omega) Z (by omega)) s5;go_wp2_with fail;refine ha.mono ?_;rintro s w6 ⟨E2,v6,o6,rfl,ho,f2,f3,f4⟩;have z:E2.cs.length<=2:=by
  obtain⟨_,F,_⟩:=Y.out;simp[E0]at F;omega
 obtain⟨G,hc,hd⟩:=gC (il f3 (by omega)) f4 z;go_wp2_with fail;refine G.mono ?_;rintro s w7 ⟨rfl,o7,he,s7⟩;have H:St (tt w.heap.size) (fun _=>(0,0)) w o7 w7:=by
  have a3:=U.out;have a4:=a3.trans (Y.2.2.mono fun y hy=>hy.le a3.size);have a5:=a4.trans (hb.mono fun y hy=>.inl hy);have a6:=a5.trans (hc.mono fun y hy=>hy.le a5.size);exact a6.trans (s7.mono fun y hy=>.inl hy)
 have HF:=aH (zB (he.le (M':=1000) (by omega)) H);go_wp2_with fail;go_ret;exact⟨E2,_,g,ps.length,_,_,o7,rfl,⟨x,by omega⟩,hd,HF.1,HF.2⟩
end
section
open Go.ChangeShapes Go.WideShapes Go.ChangeAt Go.Deep Go.Joins
theorem Db{l:List (DataW H)}(h:d∈l):Rows.uptoBulk d<=Rows.uptoBulkAll l:=by
 induction l with
 |nil=>cases h
 |cons x r ih=>
  simp only[Rows.uptoBulkAll];rcases jV.1 h with rfl|h
  ·omega
  ·have:=ih h;omega
end
section
open Go.ChangeShapes Go.WideShapes Go.ChangeAt Go.Deep Go.Joins
variable{enc:TypeId × Value → H}{base:Nat}{spare:Nat → Bool}{held:Bool}{y:DataW H × List MemPlace}
theorem fo{v}(h:DataW.trod enc prog W base spare held n 3 [v]=some y):∃k,v=I6 k:=by
 obtain⟨k,a,_,_⟩:=DataW.trod_int underlying3 h;injection a with a;exact⟨k,a⟩
theorem ya{v}(h:DataW.trod enc prog W base spare held n 9 [v]=some y):∃l,v=.string (aF l)/\Rows.uptoBulk y.1=l.length+1:=by
 obtain⟨s,a,b,_⟩:=DataW.trod_string underlying9 h;injection a with a;refine⟨s.data.toList,by rw[a];simp[aF],?_⟩;rw[b];simp[Rows.uptoBulk]
theorem A3{P:Program}{t:TypeId}{a b c f g:Field}{cs:List Value}{x:DataW H×List MemPlace}(k:P.underlying t=some (.struct #[a,b,c,f,g]))(h:DataW.trod enc P W base spare held i t cs=some x):
  ∃y0 y1 y2 y3 y4 n,x.1=.agg [y0.1,y1.1,y2.1,y3.1,y4.1]/\DataW.trod enc P W base spare held n a.type ((cs.drop a.offset).take (P.cellsOf a.type))=some y0/\DataW.trod enc P W base spare held n b.type ((cs.drop b.offset).take (P.cellsOf b.type))=some y1/\
   DataW.trod enc P W base spare held n c.type ((cs.drop c.offset).take (P.cellsOf c.type))=some y2/\DataW.trod enc P W base spare held n f.type ((cs.drop f.offset).take (P.cellsOf f.type))=some y3/\DataW.trod enc P W base spare held n g.type ((cs.drop g.offset).take (P.cellsOf g.type))=some y4:=by
 obtain⟨xs,n,_,rfl,m,j,hf⟩:=DataW.trod_struct k h;match xs,j with
 |[y0,y1,y2,y3,y4],_=>exact⟨y0,y1,y2,y3,y4,n,by simp,by simpa using hf 0 a rfl,by simpa using hf 1 b rfl,by simpa using hf 2 c rfl,by simpa using hf 3 f rfl,by simpa using hf 4 g rfl⟩
theorem Eh{a b c d}(h:DataW.trod enc prog W base spare held n 48 [a,b,c,d]=some y):∃op q f rc,a=I6 op/\b=.string (aF q)/\c=.string (aF f)/\d=I6 rc/\q.length+f.length<=Rows.uptoBulk y.1:=by
 obtain⟨z,A,B,C,n,m,_,g,i,j,k⟩:=trod_struct4 underlying48 h;have c3:prog.cellsOf 3=1:=by kernel_rfl
 have p:prog.cellsOf 9=1:=by kernel_rfl
 simp[c3,p]at g i j k;obtain⟨s,rfl⟩:=fo g;obtain⟨q,rfl,t⟩:=ya i;obtain⟨f,rfl,u⟩:=ya j;obtain⟨x,rfl⟩:=fo k;refine⟨s,q,f,x,rfl,rfl,rfl,rfl,?_⟩;rw[m];simp only[Rows.uptoBulk,Rows.uptoBulkAll,t,u];omega
theorem Ei{v0 v1 v2 v3 v4 v5 v6 v7}(h:DataW.trod enc prog W base spare held n 53 [v0,v1,v2,v3,v4,v5,v6,v7]=some y):∃m:Mv,[v0,v1,v2,v3,v4,v5,v6,v7]=Gp m/\m.q.length+m.b.length<=Rows.uptoBulk y.1:=by
 obtain⟨z,A,B,C,D,n,j,a,b,c,f,g⟩:=A3 underlying53 h;have c3:prog.cellsOf 3=1:=by kernel_rfl
 have i:prog.cellsOf 48=4:=by kernel_rfl
 simp[c3,i]at a b c f g;obtain⟨k,rfl⟩:=fo a;obtain⟨p,rfl⟩:=fo b;obtain⟨s,rfl⟩:=fo c;obtain⟨t,rfl⟩:=fo f;obtain⟨u,q,x,rc,rfl,rfl,rfl,rfl,e⟩:=Eh g;refine⟨⟨k,p,s,t,u,q,x,rc⟩,rfl,?_⟩;rw[j];simp only[Rows.uptoBulk,Rows.uptoBulkAll];omega
theorem xn{A}{len cap:Nat}{p:List MemPlace}(f:DataW.Trod enc prog W base spare held 24 (.slice A len cap) d p)(s:Rows.uptoBulk d<=1048576):
  ∃ms:List Mv,ms.length=len/\len<=1048576/\(∀m∈ms,m.q.length<=1048576/\m.b.length<=1048576)/\A2 (fun _=>(0,0)) W A ms:=by
 obtain⟨M,hf⟩:=f;have N:prog.cellsOf 53=8:=by kernel_rfl
 rcases open_slice underlying24 hf with⟨hcs,_⟩|⟨a,l,c,m,n,D,Pl,hcs,_,Y,Z,G,O,hi⟩
 ·simp[Value.cells]at hcs;obtain⟨rfl,rfl,rfl⟩:=hcs;exact⟨[],rfl,by omega,(fun _ h=>by cases h),(fun i m h=>by simp at h)⟩
 ·simp[Value.cells]at hcs;obtain⟨rfl,rfl,rfl⟩:=hcs;have V:len<=m:=by rw[G];split<;>omega
  have hd:=(Prod.mk.inj O).1;have I:∀i,i < len->Rows.uptoBulk (D i)<=1048576:=fun i h=>by
   have k:=Db (d:=D i) (l:=(List.range len).map D) (zV.2 ⟨i,List.mem_range.2 h,rfl⟩);rw[hd]at s;simp only[Rows.uptoBulk]at s;omega
  have q:∀i,∃t:Mv,i < len->(∀j u,(Gp t)[j]?=some u->W.cell? (a.add (i*8+j))=some u)/\t.q.length<=1048576/\t.b.length<=1048576:=fun i=>by
   by_cases h:i < len
   ·obtain⟨J,k,C⟩:=hi i (by omega);rw[N]at k;obtain⟨_,g,y⟩:=World.cells?_some k;match J,g with
    |[v0,v1,v2,v3,v4,v5,v6,v7],_=>
     obtain⟨t,f,R⟩:=Ei C;have X:=I i h;simp only at R;refine⟨t,fun _=>⟨fun j u hu=>?_,by omega,by omega⟩⟩;rw[<-f]at hu;have S:=(zE.1 hu).1;have:=y j S;rw[Go.Deep.add_add]at this;rw[this];exact hu
   ·exact⟨⟨0,0,0,0,0,[],[],0⟩,fun h'=>absurd h' h⟩
  obtain⟨T,F⟩:∃T:Nat->Mv,∀i,i < len->(∀j u,(Gp (T i))[j]?=some u->W.cell? (a.add (i*8+j))=some u)/\(T i).q.length<=1048576/\(T i).b.length<=1048576:=⟨fun i=>Classical.choose (q i),fun i=>Classical.choose_spec (q i)⟩;have g:len<=1048576:=by
   have k:∀l:List (DataW H),l.length<=Rows.uptoBulkAll l:=fun l=>by
    induction l with
    |nil=>simp[Rows.uptoBulkAll]
    |cons x r ih=>
     have k:1<=Rows.uptoBulk x:=by
      cases x with
      |lit l=>cases l<;>simp[Rows.uptoBulk]
      |_=>simp[Rows.uptoBulk]
     simp only[Rows.uptoBulkAll,zQ];omega
   have C:=k ((List.range len).map D);rw[hd]at s;simp only[Rows.uptoBulk]at s;simp at C;omega
  refine⟨(List.range len).map T,by simp,g,fun t f=>?_,fun i t f=>?_⟩
  ·obtain⟨i,hi,rfl⟩:=zV.1 f;exact(F i (List.mem_range.1 hi)).2
  ·have z:i < len:=by simpa using(zE.1 f).1
   have L:t=T i:=by simp[qS,List.getElem?_range,z]at f;exact f.symm
   subst L;obtain⟨b,o,sp⟩:=a;have B:=(F 0 (by omega)).1 0 _ rfl;have U:sp=none:=by simpa[Addr.add]using World.cell?_spot B
   subst U;refine⟨b,o,rfl,rfl,?_,fun j u hu=>?_⟩
   ·have:=qX W _ B;simpa[Addr.add_lit]using this
   ·have:=(F i z).1 j u hu;rw[Addr.add_lit]at this;rw[<-this,Nat.add_assoc]
end
end Go.Proofs.YthdfgdicnplhlaaGreatDoor
