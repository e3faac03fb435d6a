import Derived.Test.YthdfgdicnplhlaaGreatDoorL
import Derived.Test.YthdfgdicnplhlaaGreatDoorM
set_option maxHeartbeats 16000000
set_option maxRecDepth 100000
set_option linter.all false
namespace Go.Proofs.YthdfgdicnplhlaaGreatDoor
open Go.RowKit Hd _root_.Go.Proofs.Tryz
variable{E:bX}{i:Nat}
section
variable{E' E1:bX}{tv:Nat → Int}{M M' nc n k j:Nat}{a b:Int}{o o' o1:Ow}{w w' w6 W:World}{g t aM:Nat}{v v1 v2 v3 v4 v5 v6 v7:Value}{r:Rp}{c:Cl}{m:Mv}{e:Ending}
theorem St.all_(h:St (tt w.heap.size) (fun _=>(0,0)) w o' w'):Below w.heap.size w w':=
 ⟨h.os,h.tape,h.output,h.size,fun b hb=>h.block b hb FA⟩
def C9(E:bX)(came:List Bool)(tld:List Rp)(a:List bC)(i:Nat):Prop:=∀x∈a,∃(k:Nat) (c:Cl) (r:Rp),k < i/\E.cs[k]?=some c/\c.op=3/\came[k]?=some true/\tld[k]?=some r/\r.err=0/\x=⟨c.nd,r.n⟩
theorem C9.mono{came:List Bool}{tld:List Rp}{nl}(h:C9 E came tld nl i):C9 E came tld nl (i+1):=fun x hx=>by
 obtain⟨k,c,r,b,a⟩:=h x hx
 exact⟨k,c,r,by omega,a⟩
theorem Da{A}{cp:Nat}{ms:List Mv}(pm po pc:Int)(ht:eN tv w)(hS:A2 (fun _=>(0,0)) w A ms)(xa:∀m∈ms,m.q.length<=1048576/\m.b.length<=1048576)(hl:ms.length<=1048576):
  Cs 3 #[.agg #[I6 pm,I6 po,I6 pc],.slice A ms.length cp] w fun e w'=>Rt e (.bool true)/\Below w.heap.size w w':=by
 have f0:aX (fun _=>(0,0)) w:=fun _ _=>rfl;have ho:=ba w (.cells #[I6 pm,I6 po,I6 pc] 23);have x0:=am.new w 23 #[I6 pm,I6 po,I6 pc];obtain⟨W0,xb⟩:=nM (w.alloc (.cells #[I6 pm,I6 po,I6 pc] 23));rw[xb]at ho x0;obtain⟨a0,a1,a2⟩:=am.three x0;obtain⟨xc,HS,HM⟩:=gC (yl (w:=W0) pm po pc (ht.kept (ho.block 1 ht.lt))) hS xa;have S0:Hid (St (tt w.heap.size) (fun _=>(0,0)) w (fun _=>(0,0)) W0):=aH (.J ho f0);clear ht hS xa ho x0;apply cI;go_in;go_upto_region 1 with(fail);simp only[xb.out];go_wp2_with fail;refine xc.mono ?_;rintro _e w1 ⟨E1,t,g,aM,a,b,o1,rfl,hm,bI,xd,xe⟩;have S1:=aH (S0.trans (xe.mono fun y hy=>hy.le S0.size));have HP:=aH (yk (cp:=cp) xd hm (HS.st S1 FA) (fun m hm=>⟨by have:=HM m hm;omega,by have:=HM m hm;omega⟩) (by omega) (by omega) (by omega));clear xd xe S0 xc;go_wp2_with fail;refine HP.mono ?_;rintro _e w2 ⟨rfl,E2,o2,I,e2,hE,xf⟩;have S2:=aH (S1.trans (xf.mono fun y hy=>hy.le S1.size));have y0:Ce w2 t 0 (Pt g):=by
  obtain⟨_,_,_,_,_,_,_,_,_,_,_,_,hD,_⟩:=hE.parts;exact hD.cells.1
 have xg:=aH (lS 4 (by omega) hE (by omega));clear hE xf HP S1;go_wp2_with fail;refine xg.mono ?_;rintro _e w3 ⟨E3,v,o3,rfl,f1,f2,xh,xi⟩;obtain⟨S3,xj⟩:=gB (S2.trans (xi.mono fun y hy=>hy.le S2.size)) (il xh (by omega));clear xh xi xg S2 y0;go_wp2_with fail;refine xj.mono ?_;rintro _e w4 ⟨rfl,o4,xA,xk⟩;have S4:St (tt w.heap.size) (fun _=>(0,0)) w o4 w4:=S3.trans (xk.mono fun y hy=>.inl hy);have hF:=aH S4.all_;have xB:E3.cs.length<=1000:=by omega
 clear xk S3 xj S4 I e2 f1 f2;obtain⟨tld,came,dl,cl,ps,hT,xC,hC⟩:=xA;obtain⟨ca,nm,v1,v2,v3,v4,v5,v6,v7,hD,hG,hn⟩:=hT.d;have xl:=hC.1.fin;have hj:=aH (zB hT.law hC.1.kok);have hf:=hT.law.lc;have L:=hT.law.lt;have xy:=hT.cnt;have hH:came.count true<=came.length:=List.count_le_length;have xY:dl.length<=1000:=by omega
 obtain⟨A1,c1,rfl,_⟩:=hD.r1.rw.slice;obtain⟨A7,c7,rfl,_⟩:=hD.r7.rw.slice;rw[hG.1]at hD;obtain⟨N,hN⟩:=nM E3.cs.length;rw[hN]at hD xB hf L;obtain⟨HD,hg,hp⟩:=gC hD hG xl;clear hT hC hD xC hn xy hH;clear hG xl;go_wp2_with fail;go_loopw[7] (fun u W=>∃i:Nat,i<=dl.length/\u=I6 i/\Bw w4 W) (fun u _=>dl.length - (intOf u).toNat)
 case atStart=>exact⟨0,zS _,rfl,bR _⟩
 case round=>
  obtain⟨i,hi,rfl,hb⟩:=hrel;have hq:=aH hb;have D:=HD.below hb hp;have xm:=hp.below hb.size;obtain⟨y0,y1,y7,y8,y9,R,U,V,X,Y⟩:=D.cells;by_cases hlt:i < dl.length
  case neg=>
   have xF:=aH D;obtain⟨w5,rfl⟩:∃u,u=wr:=⟨_,rfl⟩;obtain⟨xG,Z⟩:=gB xm (zB hf L);clear D hb xm hf L;go_wp2_with fail;go_loopw[12,13] (fun s u W=>∃(p:Nat) (M:List bC),p<=N/\u=I6 p/\aK aJ w5.heap.size W s M/\M.length<=p/\Bw w5 W/\C9 E3 came tld M p) (fun _ u _=>N - (intOf u).toNat)
   case atStart=>exact⟨0,[],zS _,rfl,aK.nil _ _,nR,bR _,fun x hx=>by cases hx⟩
   case round=>
    obtain⟨p,M,xZ,rfl,hk,x7,F,hn⟩:=hrel;obtain⟨O,rfl⟩:∃u,u=wr:=⟨_,rfl⟩;obtain⟨A9,c9,rfl,_⟩:=(aK.rw (E:=aJ) hk).slice;have z:=xF.below F xG;clear y0 y1 y7 y8 y9 R U V X Y;by_cases hl3:p < N
    case neg=>
     obtain⟨_,_,_,y8,_⟩:=z.cells;have HF:Hid (Bw w O):=aH ((hF.trans (hq.mono hF.size)).trans (F.mono (zD hF.size hq.size)));clear z hk F hn;go_wp2_with fail;go_ret;exact⟨rfl,HF⟩
    obtain⟨g1,xH,I,_⟩:=z.r1.aq (n:=N) (by rw[hg.1];exact hN) (by omega);injection I with I _ e1';subst I;subst e1';obtain⟨g2,c2,rfl,_⟩:=z.r2.aq (n:=N) (by rw[jD];exact hN) (by omega);obtain⟨g3,c3,rfl,_⟩:=z.r3.aq (n:=N) Z.2 (by omega);obtain⟨g4,c4,rfl,_⟩:=z.r4.aq (n:=N) Z.1 (by omega);obtain⟨y0,y1,y7,y8,y9,R,U,V,X,Y⟩:=z.cells;obtain⟨dd,q⟩:∃dd,E3.cs[p]?=some dd:=⟨_,zA (by rw[hN];exact hl3)⟩;obtain⟨hI,G⟩:=hg.2 p dd q;obtain⟨cb,C⟩:∃cb,came[p]?=some cb:=⟨_,zA (by rw[Z.1];exact hl3)⟩;obtain⟨tr,B⟩:∃tr,tld[p]?=some tr:=⟨_,zA (by rw[Z.2];exact hl3)⟩;have ha:(E3.cs.map Cl.nd)[p]?=some dd.nd:=by rw[qS,q];rfl
    have c0:Ce O g1 (p*4) (I6 dd.op):=z.r1.cell G 0 rfl;have n0:Ce O g2 p (I6 dd.nd):=by have:=z.r2.cell ha 0 rfl;rwa[show p*aC.s+0=p by show p*1+0=p;omega]at this
    have n1:Ce O g4 p (.bool cb):=by have:=z.r4.cell C 0 rfl;rwa[show p*fc.s+0=p by show p*1+0=p;omega]at this
    have n2:Ce O g3 (p*9+1) (I6 tr.err):=z.r3.cell B 1 rfl;have n3:Ce O g3 (p*9+2) (I6 tr.n):=z.r3.cell B 2 rfl;have i0:(0:Int)<=(p:Int):=by omega
    have i1:(p:Int) < (N:Int):=by omega
    obtain⟨b1,I⟩:=nx (dd.op==3);obtain⟨b6,e6⟩:=nx (tr.err==0);obtain⟨hJ,hK,hL,xn⟩:=gD hk F hn (zB q (zB C B));have S:b1=false\/(b1=true/\cb=false)\/(b1=true/\cb=true/\b6=false)\/(b1=true/\cb=true/\b6=true):=by
     cases b1<;>cases cb<;>cases b6<;>simp
    have xo:(dd.op != 3)=!b1:=by rw[<-I];rfl
    have hs:(tr.err != 0)=!b6:=by rw[<-e6];rfl
    clear z hk F hn q G C B ha;rcases S with rfl|⟨rfl,rfl⟩|⟨rfl,rfl,rfl⟩|⟨rfl,rfl,rfl⟩
    case inr.inr.inr=>
     simp only[Bool.not_true,Bool.not_false]at xo hs;have KS:=aH (fun W (hb:Bw O W)=>show Ce W t 9 (.slice (some ⟨g2,0,none⟩) N c2)/\Ce W t 10 (.slice (some ⟨g3,0,none⟩) N c3)/\Ce W g2 p (I6 dd.nd)/\Ce W g3 (p*9+2) (I6 tr.n)from⟨aD hb y9,aD hb R,aD hb n0,aD hb n3⟩);go_wp2_with fail;go_region_held3 (fun W=>Ce W t 9 (.slice (some ⟨g2,0,none⟩) N c2)/\Ce W t 10 (.slice (some ⟨g3,0,none⟩) N c3)/\Ce W g2 p (I6 dd.nd)/\Ce W g3 (p*9+2) (I6 tr.n))
      ((refine KS _ ?_;repeat(first|exact bR _|refine Below.drew ?_|refine Below.alloc ?_ (by simp;try omega) _|refine Below.setCell ?_ (by simp;try omega) _)))
      ((fail))
     all_goals
      obtain⟨db,xp⟩:=nM O.heap.size;obtain⟨W5,hM⟩:=nM ((O.alloc (.cells #[I6 dd.nd,I6 tr.n] 42)).drew);have hO:Bw O W5:=hM▸(ba O (.cells #[I6 dd.nd,I6 tr.n] 42)).drew;have x5:am W5 O.heap.size 42 #[I6 dd.nd,I6 tr.n]:=hM▸(am.new O 42 #[I6 dd.nd,I6 tr.n]).below (bD _);rw[xp]at x5;simp only[hM.out,xp.out];obtain⟨xI,xq,xJ⟩:=gC x5 hO (aI hJ hO);clear x5 hO y0 y1 y7 y8 y9 R U V X Y c0 n0 n1 n2 n3;go_wp2_with fail;go_loopw[15] (fun u W=>∃i4:Nat,i4<=M.length/\u=I6 i4/\Bw W5 W) (fun u _=>M.length - (intOf u).toNat)
      case atStart=>exact⟨0,zS _,rfl,bR _⟩
      case round=>
       obtain⟨i4,x8,rfl,hw⟩:=hrel;have hP:=aH hw;have x6:=xI.below hw;have T:=aI xJ hw;have xr:=aH T;have q0:=ce x6;have q1:=dt x6;clear hw;by_cases hl4:i4 < M.length
       case neg=>
        have xK:Hid ((M.length+1)*aJ.bytes<=140737488355328):=aH (by show(M.length+1)*16<=_;omega);have hQ:=aH (hK.trans ((xq.trans (hP.mono xq.size)).mono hK.size));clear x6 T;go_upto_region 25 with(at_builtin;refine b5 aJ rfl (.tmp 236) (.tmp 238) rfl xr (hQ.size) ⟨dd.nd,tr.n⟩ rfl rfl xK (by omega) ?_;intro v6 w6 xs xt);obtain⟨xL,xM⟩:=gB xs (hQ.grown xt hQ.size (fun k e=>(xr.lt k e).1));obtain⟨q,C,B⟩:=xn.out;have hR:C9 E3 came tld (M++[⟨dd.nd,tr.n⟩]) (p+1):=by
         intro x hx;rcases zK.1 hx with hx|hx
         ·exact hL.mono x hx
         ·rw[qR]at hx;exact⟨p,dd,tr,Nat.lt_succ_self _,q,by simpa using I,C,B,by simpa using e6,hx⟩
        have xN:=aH hR;clear xs xt q C B hR;go_wp2_with fail;exact⟨⟨p+1,_,hl3,by go_num,xL,by simp;omega,xM,xN⟩,by simp[intOf];omega⟩
       obtain⟨x,hx⟩:∃x,M[i4]?=some x:=⟨_,zA hl4⟩;obtain⟨g9,o9,rfl,hU⟩:=(aK.rw (E:=aJ) T).at_ hx;have p0:Ce wr g9 (o9+i4*2) (I6 x.nd):=hU 0 _ rfl;have p1:Ce wr g9 (o9+i4*2+1) (I6 x.n):=hU 1 _ rfl;have xO:bU x ⟨dd.nd,tr.n⟩=false:=by
        have xP:x≠⟨dd.nd,tr.n⟩:=by
         intro xQ;obtain⟨k,ck,rk,k1,k2,k3,k4,k5,k6,k7⟩:=hL x (qC hx);obtain⟨q,C,B⟩:=xn.out;have:=hj.1.names hj.2 k2 q k3 (by simpa using I) k4 C k5 B k6 (by simpa using e6) (by rw[<-k7,xQ]);omega
        unfold bU lW;revert xP;cases x;simp
       have x9:∀W,(binOp .eql 42 (.agg #[I6 x.nd,I6 x.n]) (.agg #[I6 dd.nd,I6 tr.n])).run prog W=.ok (.bool false) W:=fun W=>by
        have:=kr x ⟨dd.nd,tr.n⟩ W;rwa[xO]at this
       have j0:(0:Int)<=(i4:Int):=by omega
       have j1:(i4:Int) < (M.length:Int):=by omega
       clear x6 T hU;go_wp2_with fail;go_quiet (fail);go_wp2_with fail;go_roundw
       case rel=>exact⟨i4+1,hl4,by go_num,hP.trans ((below_drewN (bR wr) _).mono hP.size)⟩
       case measure=>simp[intOf];omega
    all_goals
     simp only[Bool.not_true,Bool.not_false]at xo hs;go_wp2_with fail;go_roundw
     case rel=>exact⟨p+1,M,hl3,by go_num,hJ,by omega,hK,hL.mono⟩
     case measure=>simp[intOf];omega
  obtain⟨r,hr⟩:∃r,dl[i]?=some r:=⟨_,zA hlt⟩;obtain⟨k,c,j,d,q1,q2,q3,q4,q5,q6,q7,q8,q9,hV,hW,hX⟩:=hj.1.deliver hj.2 (qC hr);have ya:k < N:=by rw[<-hN];exact(zE.1 q2).1
  obtain⟨g1,xH,I,_⟩:=D.r1.aq (n:=N) (by rw[hg.1];exact hN) (by omega);injection I with I _ e1';subst I;subst e1';obtain⟨g2,c2,rfl,_⟩:=D.r2.aq (n:=N) (by rw[jD];exact hN) (by omega);obtain⟨g3,c3,rfl,_⟩:=D.r3.aq (n:=N) L (by omega);obtain⟨g4,c4,rfl,_⟩:=D.r4.aq (n:=N) hf (by omega);obtain⟨g7,yb,e7,_⟩:=D.r7.aq rfl (by omega);injection e7 with e7 _ e7';subst e7;subst e7';have H:=fun(jj:Nat) u (hu:(oM r)[jj]?=some u)=>D.r7.cell hr jj hu;obtain⟨xR,hc⟩:=hg.2 k c q2;have xu:Ce wr g1 (k*4+1) (.string (aF c.q)):=D.r1.cell hc 1 rfl;obtain⟨rf,er,rn,⟨⟨d1,d2⟩,rq,rb,hh⟩,hz⟩:=r;dsimp only at q1 q6 q7 q8 q9 hV hW hX;subst q1;have l0:Ce wr g7 (i*9) (I6 (k:Int)):=H 0 _ rfl;have l1:Ce wr g7 (i*9+1) (I6 er):=H 1 _ rfl;have l2:Ce wr g7 (i*9+2) (I6 rn):=H 2 _ rfl;have l3:Ce wr g7 (i*9+3) (I6 d1):=H 3 _ rfl;have l4:Ce wr g7 (i*9+4) (I6 d2):=H 4 _ rfl;have l5:Ce wr g7 (i*9+5) (.string (aF rq)):=H 5 _ rfl;have l6:Ce wr g7 (i*9+6) (.string (aF rb)):=H 6 _ rfl;have l7:Ce wr g7 (i*9+7) (I6 hh):=H 7 _ rfl;have l8:Ce wr g7 (i*9+8) (I6 hz):=H 8 _ rfl;have i0:(0:Int)<=(i:Int):=by omega
  have i1:(i:Int) < (dl.length:Int):=by omega
  have hY:=ba wr (.cells #[I6 (k:Int),I6 er,I6 rn,I6 d1,I6 d2,.string (aF rq),.string (aF rb),I6 hh,I6 hz] 46);have x1:=am.new wr 46 #[I6 (k:Int),I6 er,I6 rn,I6 d1,I6 d2,.string (aF rq),.string (aF rb),I6 hh,I6 hz];obtain⟨R0,xv⟩:=nM wr.heap.size;obtain⟨W1,xw⟩:=nM (wr.alloc (.cells #[I6 (k:Int),I6 er,I6 rn,I6 d1,I6 d2,.string (aF rq),.string (aF rb),I6 hh,I6 hz] 46));rw[xw]at hY x1;have xx:=hq.trans (hY.mono hq.size);rw[xv]at x1;obtain⟨HX,hd,HQ,xS,hZ,Z⟩:=gF x1 xx (zB q4 (zB q5 (zB q6 (zB q7 (zB q8 hX))))) q2 (zB q9 (zB hV hW)) (zB hf L);clear D hb H hc hY x1 xx q4 q5 q6 q7 q8 q9 hV hW hX q2 hf L;go_wp2_with fail;simp only[xw.out,xv.out];go_loopw[9,10] (fun s u W=>∃(f:Nat) (J:Bool),f<=k/\u=I6 f/\s=.bool J/\(j < f->J=true)/\Bw W1 W) (fun _ u _=>k - (intOf u).toNat)
  case atStart=>exact⟨0,false,zS _,rfl,rfl,fun h=>absurd h (Nat.not_lt_zero _),bR _⟩
  case round=>
   obtain⟨f,J,yc,rfl,rfl,h0,he⟩:=hrel;have D2:=HD.below (hd.trans (he.mono hd.size)) hp;have x2:=HX.below he;have hA:=aH he;clear y0 y1 y7 y8 y9 R U V X Y xu l0 l1 l2 l3 l4 l5 l6 l7 l8;obtain⟨y0,y1,y7,y8,y9,R,U,V,X,Y⟩:=D2.cells;have z0:=ce x2;by_cases hl2:f < k
   case neg=>
    obtain rfl:f=k:=by omega
    obtain rfl:J=true:=h0 q3;have z5:=e9 x2;have z7:=fb x2;obtain⟨xR,hc⟩:=hg.2 f c xS;have xu:Ce wr g1 (f*4+1) (.string (aF c.q)):=D2.r1.cell hc 1 rfl;have yd:decide (hh < 1)=false:=by have:=hZ.1;simp;omega
    have ye:decide (5 < hh)=false:=by have:=hZ.2.1;simp;omega
    have yf:(rq==c.q)=true:=by rw[hZ.2.2];simp
    have k0:(0:Int)<=(f:Int):=by omega
    have k1:(f:Int) < (N:Int):=by omega
    have h8:=aH (fun nq=>(hd.trans (he.mono hd.size)).trans ((below_drewN (bR wr) nq).mono (zD hd.size he.size)));clear D2 x2 he hc;go_wp2_with fail;go_quiet (fail);go_wp2_with fail;exact⟨⟨i+1,hlt,by go_num,h8 _⟩,by simp[intOf];omega⟩
   have h9:f < N:=by omega
   obtain⟨dd,q⟩:∃dd,E3.cs[f]?=some dd:=⟨_,zA (by rw[hN];exact h9)⟩;obtain⟨hI,G⟩:=hg.2 f dd q;obtain⟨cb,C⟩:∃cb,came[f]?=some cb:=⟨_,zA (by rw[Z.1];exact h9)⟩;obtain⟨tr,B⟩:∃tr,tld[f]?=some tr:=⟨_,zA (by rw[Z.2];exact h9)⟩;have ha:(E3.cs.map Cl.nd)[f]?=some dd.nd:=by rw[qS,q];rfl
   have c0:Ce wr g1 (f*4) (I6 dd.op):=D2.r1.cell G 0 rfl;have c1:Ce wr g1 (f*4+1) (.string (aF dd.q)):=D2.r1.cell G 1 rfl;have c2:Ce wr g1 (f*4+2) (.string (aF dd.b)):=D2.r1.cell G 2 rfl;have c3:Ce wr g1 (f*4+3) (I6 hI):=D2.r1.cell G 3 rfl;have HJ:Hid (f=j->(dd.op==3)=true/\(dd.q==rq)=true/\(dd.b==rb)=true/\(dd.nd==d1)=true/\(cb=true->tr.err=0->(tr.n==d2)=true)):=aH (by
    rintro rfl;obtain⟨w1,w2,w3,w4,w5,w6⟩:=HQ.out;rw[q]at w1;injection w1 with w1;subst w1;refine⟨by simpa using w2,by simpa using w3,by simpa using w4,by simpa using w5,fun h1 h2=>?_⟩;subst h1;simpa using w6 C tr B h2)
   obtain⟨hB,xT,xU⟩:=gC (zB ha (zB C B)) D2 x2;have yg:(0:Int)<=(f:Int):=by omega
   have yh:(f:Int) < (N:Int):=by omega
   clear D2 x2 he q G C B ha;obtain⟨b1,I⟩:=nx (dd.op==3);obtain⟨b2,e2⟩:=nx (dd.q==rq);obtain⟨b3,e3⟩:=nx (dd.b==rb);obtain⟨b4,e4⟩:=nx (dd.nd==d1);obtain⟨b6,e6⟩:=nx (tr.err==0);obtain⟨b7,e7⟩:=nx (tr.n==d2);rw[I,e2,e3,e4,e7]at HJ;have xV:Hid (f=j->b1=true/\b2=true/\b3=true/\b4=true/\(cb=true->b6=true->b7=true)):=aH fun h=>by
    obtain⟨h1,h2,h3,h4,h5⟩:=HJ h;exact⟨h1,h2,h3,h4,fun h6 h7=>h5 h6 (by rw[h7]at e6;simpa using e6)⟩
   have S:(J=true)\/(J=false/\b1=false)\/(J=false/\b1=true/\b2=false)\/(J=false/\b1=true/\b2=true/\b3=false)\/(J=false/\b1=true/\b2=true/\b3=true/\b4=false)\/(J=false/\b1=true/\b2=true/\b3=true/\b4=true/\cb=false)\/(J=false/\b1=true/\b2=true/\b3=true/\b4=true/\cb=true/\b6=false)\/(J=false/\b1=true/\b2=true/\b3=true/\b4=true/\cb=true/\b6=true/\b7=false)\/(J=false/\b1=true/\b2=true/\b3=true/\b4=true/\cb=true/\b6=true/\b7=true):=by
    cases J<;>cases b1<;>cases b2<;>cases b3<;>cases b4<;>cases cb<;>cases b6<;>cases b7<;>simp
   have hs:(tr.err != 0)=!b6:=by rw[<-e6];rfl
   obtain⟨xz,xW⟩:=gB h0 S;clear HJ S h0;go_wp2_with fail;obtain⟨W3,xX,F,x3⟩:=dW wr #[I6 dd.op,.string (aF dd.q),.string (aF dd.b),I6 hI] 48;simp only[xX.out];have z:=xT.below F (hp.below ((hd.trans (hA.mono hd.size)).size));have x4:=xU.below F;clear y0 y1 y7 y8 y9 R U V X Y z0 c0 c1 c2 c3;obtain⟨y0,y1,y7,y8,y9,R,U,V,X,Y⟩:=z.cells;have v0:=ce x3;have yi:=dt x3;have yj:=ed x3;have t3:=ef x4;have t4:=eV x4;have t5:=e9 x4;have t6:=fa x4;have n0:Ce W3 g2 f (I6 dd.nd):=by have:=z.r2.cell hB.1 0 rfl;rwa[show f*aC.s+0=f by show f*1+0=f;omega]at this
   have n1:Ce W3 g4 f (.bool cb):=by have:=z.r4.cell hB.2.1 0 rfl;rwa[show f*fc.s+0=f by show f*1+0=f;omega]at this
   have n2:Ce W3 g3 (f*9+1) (I6 tr.err):=z.r3.cell hB.2.2 1 rfl;have n3:Ce W3 g3 (f*9+2) (I6 tr.n):=z.r3.cell hB.2.2 2 rfl;have h8:=aH (fun nq=>(hA.trans (F.mono hA.size)).trans ((below_drewN (bR W3) nq).mono (zD hA.size F.size)));clear z x3 x4 F;refine wp_region_quiet_lit (by kernel_rfl) Gj ?_;rcases xW.out with rfl|⟨rfl,rfl⟩|⟨rfl,rfl,rfl⟩|⟨rfl,rfl,rfl,rfl⟩|⟨rfl,rfl,rfl,rfl,rfl⟩|⟨rfl,rfl,rfl,rfl,rfl,rfl⟩|⟨rfl,rfl,rfl,rfl,rfl,rfl,rfl⟩|⟨rfl,rfl,rfl,rfl,rfl,rfl,rfl,rfl⟩|⟨rfl,rfl,rfl,rfl,rfl,rfl,rfl,rfl⟩;all_goals
    try simp only[Bool.not_true,Bool.not_false]at hs
    repeat(go_big_quiet_step (fail))
    refine wpQuiet_nil ?_;rintro _ ⟨nq,rfl⟩;go_wp2_with fail;go_roundw
    case rel=>
     refine⟨f+1,_,hl2,by go_num,rfl,fun h=>?_,h8 _⟩;first
      |rfl
      |(have h1:=xV.out;have h2:=xz.out;by_cases h3:f=j
        ·have h4:=h1 h3;simp at h4
        ·exact absurd (h2 (by omega)) (by simp))
    case measure=>simp[intOf];omega
end
end Go.Proofs.YthdfgdicnplhlaaGreatDoor
