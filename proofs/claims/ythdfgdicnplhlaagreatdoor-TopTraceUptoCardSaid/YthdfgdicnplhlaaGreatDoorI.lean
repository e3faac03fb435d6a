import Derived.Test.YthdfgdicnplhlaaGreatDoorH
set_option maxHeartbeats 16000000
set_option maxRecDepth 100000
set_option linter.all false
namespace Go.Proofs.YthdfgdicnplhlaaGreatDoor
open Go.RowKit Hd _root_.Go.Proofs.Tryz
variable{α:Type}{El_:El α}{base:Nat}{g:Qg}{l:List Int}{b i:Nat}{w:World}{t:List UInt8}{a c:Nat}{E:bX}{s:List UInt8}{r k:Nat}{W:World}{o:Ow}{x:Wi}{Rf:Nat → Prop}{N:Nb}{T B B':Nat}{hand:Option Nat}{rsv:List Int}{o':Ow}{w':World}{seq:Int}{d:bC}{rc:Int}{part:Nat}{v vl:Value}{reps:List Rp}{T':Nat}{hand':Option Nat}{rsv':List Int}{o0:Ow}{w0:World}{tl:List Tg}{a1 a2 a3 a4 dn dm lg:Int}
theorem j7{g:Nat}{w w'}{v}{l:List α}(h:aK El_ base w v l)(a:aW g w w')(b:g < base):aK El_ base w' v l:=aK.keep h a fun k e eq=>by injection eq with eq;have:=(h.lt k e).1;omega
theorem b3{v u}{l:List α}{t:TypeId}{cs}(h:aK El_ base w v l)(c:am w b t cs)(a:El_.ty≠t):aK El_ base (w.setCell ⟨b,i,none⟩ u) v l:=aK.keep h (aB w b i u) fun k e eq=>aK.ne h c a (eq.trans e.symm)
def kQ:List Value:=[I6 0,I6 0,I6 0,I6 0,I6 0,Se,aS,aS,aS,aS,aS,I6 0,I6 0,I6 0,I6 0]
def GZ(vl vb vc vt vv:Value):Prop:=∃(A1 A2 A3 A4 A5:Option Addr) (n1 c1 n2 c2 n3 c3 n4 c4 n5 c5:Nat),vl=.slice A1 n1 c1/\vb=.slice A2 n2 c2/\vc=.slice A3 n3 c3/\vt=.slice A4 n4 c4/\vv=.slice A5 n5 c5
theorem F8{A1 A2 A3 A4 A5}{c1 n2 c2 c3 c4 f c5:Nat}:GZ (.slice A1 a c1) (.slice A2 n2 c2) (.slice A3 b c3) (.slice A4 c c4) (.slice A5 f c5):=⟨_,_,_,_,_,_,_,_,_,_,_,_,_,_,_,rfl,rfl,rfl,rfl,rfl⟩
def GK(E:bX)(s:List UInt8)(w:World)(e:Ending)(w':World):Prop:=Below w.heap.size w w'/\∃(c:Int) (x:Wi) (vl vb vc vt vv:Value),Rt e (.tuple #[s9 x vl vb vc vt vv,I6 c])/\GZ vl vb vc vt vv/\
 (c=0->∃ls b cl tl pl,AC w' x vl vb vc vt vv ls b cl tl pl/\aK aU w.heap.size w' vl ls/\aK aJ w.heap.size w' vb b/\aK aJ w.heap.size w' vc cl/\aK a7 w.heap.size w' vt tl/\aK aL w.heap.size w' vv pl/\(∀m∈ls,fR E m)/\(1<=x.fr/\x.fr<=64)/\(0<=x.pt/\x.pt<=15)/\(c6 ls b cl).length<=8000/\∀z∈ij x,bN z)
theorem CU{r g:List UInt8}{ns:List Nat}{k:Option (List UInt8)}{c:Pr (List Mg×List bC×List bC)}{ls}{lb lc}(C:el E s)(i:sI s=some (ns,r))(J:s.length<=8000)
  (p:(((some r).bind (du 8000)).map Prod.fst).getD []=g) (q:((some r).bind (du 8000)).map Prod.snd=k) (b:(c.map Prod.fst).getD ([],[],[])=(ls,lb,lc)) (a:c=none\/c=k.bind kn):
  fC ls lb lc/\(∀m∈ls,fR E m)/\(c6 ls lb lc).length<=8000/\g.length<=8000/\(∀f,ns[1]?=some f->1<=f/\f<=64)/\∀n∈ns,n<=MD:=by
 obtain⟨hf,D⟩:=C.2 _ _ i;have I:r.length<=s.length:=by
  have:=q0 (E9 MD) 9 s ns r i;have:=congrArg List.length this;rw[zC]at this;omega
 have z:∀n∈ns,n<=MD:=re (P:=fun n=>n<=MD) (fun l x r h=>(cO h).1) i;have t:g.length<=8000/\∀r2,k=some r2->r2.length<=r.length/\du 8000 r=some (g,r2):=by
  cases hp:du 8000 r with
  |none=>
   simp[hp]at p q;subst p;subst q;exact⟨by simp,fun r2 e=>by cases e⟩
  |some x=>
   simp[hp]at p q;subst p;subst q;have A:=congrArg List.length (qz 8000 r x.1 x.2 hp);unfold cB at A;simp only[zC]at A;exact⟨by omega,fun r2 e=>by injection e with e;subst e;exact⟨by omega,rfl⟩⟩
 have B:fC ([]:List Mg) [] []:=⟨by simp,by simp,by simp,by simp,by simp⟩;have u:c=none->fC ls lb lc/\(∀m∈ls,fR E m)/\(c6 ls lb lc).length<=8000:=fun e=>by
  subst e;simp at b;obtain⟨rfl,rfl,rfl⟩:=b;have F:=kI B;simp at F;exact⟨B,by simp,by omega⟩
 have j:fC ls lb lc/\(∀m∈ls,fR E m)/\(c6 ls lb lc).length<=8000:=by
  rcases a with a|a
  ·exact u a
  ·cases k with
   |none=>exact u a
   |some r2=>
    obtain⟨L,G⟩:=t.2 r2 rfl;simp only[zI]at a;cases hb:kn r2 with
    |none=>exact u (a.trans hb)
    |some y=>
     rw[hb]at a;subst a;simp at b;obtain⟨⟨M,N,O⟩,H⟩:=y;simp at b;obtain⟨rfl,rfl,rfl⟩:=b;have c1:=CO hb;have c2:=congrArg List.length (Co hb);have c3:=EA _ _ _ hb;have c4:=D g r2 _ H G hb;rw[zC]at c2;simp only at c1 c2 c3 c4;exact⟨⟨by omega,by omega,fun m hm=>(c4 m hm).lt,c3.1,c3.2⟩,c4,by omega⟩
 exact⟨j.1,j.2.1,j.2.2,t.1,hf,z⟩
theorem AH(s:List UInt8) w(hs:el E s)(hl:s.length<=100000):Cs 79 #[Sg s] w (GK E s w):=by
 obtain⟨W0,hj⟩:=nM (w.alloc (.cells #[I6 0,I6 0,I6 0,I6 0,I6 0,Se,aS,aS,aS,aS,aS,I6 0,I6 0,I6 0,I6 0] 153));have e0:=ba w (.cells #[I6 0,I6 0,I6 0,I6 0,I6 0,Se,aS,aS,aS,aS,aS,I6 0,I6 0,I6 0,I6 0] 153);have m:=am.new w 153 kQ.toArray;have hz:(kQ.toArray:Array Value)=#[I6 0,I6 0,I6 0,I6 0,I6 0,Se,aS,aS,aS,aS,aS,I6 0,I6 0,I6 0,I6 0]:=rfl;rw[hj]at e0;rw[hz,hj,<-hz]at m;obtain⟨E0,N0,HS,xk⟩:=gD e0 m hs (mg s W0);clear hs e0 m hz;by_cases h8:(8000:Int) < (s.length:Int)
 ·have d8:decide ((8000:Int) < (s.length:Int))=true:=by simpa using h8
  apply cI;go_in;go_upto_region 1 with(fail);simp only[hj.out];go_wp2_with (refine dV (vs:=kQ) rfl 153 2 11 rfl rfl rfl rfl (fun w=>by kernel_rfl) N0 (by simp[kQ,Value.oneCell']) (by simp[kQ]) ?_);have c:=am.az N0 kQ (by simp[kQ]);have s0:=ce c;have s1:=dt c;have s2:=ed c;have s3:=ef c;have s4:=eV c;have s5:=e9 c;have s6:=fa c;have s7:=fb c;have s8:=ma c;have s9:=rz c;have J:=iz c;have L:=iA c;have M:=iB c;have N:=jp c;have O:=ke c;try simp only[Exit.inBlock,Exit.then]
  refine bodyPost_ret (v:=.tuple #[.agg #[I6 0,I6 0,I6 0,I6 0,I6 0,Se,aS,aS,aS,aS,aS,I6 0,I6 0,I6 0,I6 0],I6 10]) (by simp[results,results79,go_sem,s0,s1,s2,s3,s4,s5,s6,s7,s8,s9,J,L,M,N,O]) rfl ?_;exact⟨E0.trans (((eb kQ W0 0).below nR E0.size).mono nR),10,⟨0,0,0,0,0,[],0,0,0,0⟩,_,_,_,_,_,rfl,F8,fun e=>by omega⟩
 ·have d8:decide ((8000:Int) < (s.length:Int))=false:=by simpa using h8
  apply cI;go_in;go_upto_region 1 with(fail);simp only[hj.out];go_wp2_with fail;refine xk.mono ?_;rintro _e w1 ⟨rfl,hN,hw⟩;have hr:RS w1 W0.heap.size (some s):=⟨by unfold yj;omega,hN⟩;obtain⟨xl,B1,N1⟩:=gC (AG W0.heap.size (some s) w1 hr) (E0.trans (hw.mono E0.size)) (N0.below hw);clear hN hr hw;go_wp2_with fail;refine xl.mono ?_;rintro _e w2 ⟨v,l,o2,rfl,hm,xB,ho,hp,hg⟩;obtain⟨A2,k2,rfl,_⟩:=(aK.rw (E:=aC) hm).slice;have hf:w.heap.size≠W0.heap.size:=by rw[<-hj];simp
  obtain⟨N2,B2⟩:=gB (N1.only hg hf) (show Bw w w2 from B1.grown hg B1.size (fun k e=>by injection e with e;subst e;exact E0.size));by_cases h9:l.length=9
  case neg=>
   have d9:((l.length:Int)==9)=false:=by simp;omega
   have xm:((l.length:Int) != 9)=true:=by simp;omega
   clear hm ho hp hg;go_wp2_with (refine dV (vs:=kQ) rfl 153 2 19 rfl rfl rfl rfl (fun w=>by kernel_rfl) N2 (by simp[kQ,Value.oneCell']) (by simp[kQ]) ?_);have c:=am.az N2 kQ (by simp[kQ]);have s0:=ce c;have s1:=dt c;have s2:=ed c;have s3:=ef c;have s4:=eV c;have s5:=e9 c;have s6:=fa c;have s7:=fb c;have s8:=ma c;have s9:=rz c;have J:=iz c;have L:=iA c;have M:=iB c;have N:=jp c;have O:=ke c;try simp only[Exit.inBlock,Exit.then]
   refine bodyPost_ret (v:=.tuple #[.agg #[I6 0,I6 0,I6 0,I6 0,I6 0,Se,aS,aS,aS,aS,aS,I6 0,I6 0,I6 0,I6 0],I6 10]) (by simp[results,results79,go_sem,s0,s1,s2,s3,s4,s5,s6,s7,s8,s9,J,L,M,N,O]) rfl ?_;exact⟨B2.trans (((eb kQ w2 0).below nR B2.size).mono nR),10,⟨0,0,0,0,0,[],0,0,0,0⟩,_,_,_,_,_,rfl,F8,fun e=>by omega⟩
  rcases ho with⟨_,rfl⟩|⟨s',r,e1,rfl,hO⟩
  ·simp at h9
  injection e1 with e1;subst e1;obtain⟨m,t,n2,R,S,T,U,V,X,rfl⟩:∃m t n2 R S T U V X,l=[m,t,n2,R,S,T,U,V,X]:=by
   rcases l with _|⟨m,l⟩;(·simp at h9);rcases l with _|⟨t,l⟩;(·simp at h9);rcases l with _|⟨n2,l⟩;(·simp at h9);rcases l with _|⟨R,l⟩;(·simp at h9);rcases l with _|⟨S,l⟩;(·simp at h9);rcases l with _|⟨T,l⟩;(·simp at h9);rcases l with _|⟨U,l⟩;(·simp at h9);rcases l with _|⟨V,l⟩;(·simp at h9);rcases l with _|⟨X,l⟩;(·simp at h9);rcases l with _|⟨n9,l⟩
   ·exact⟨m,t,n2,R,S,T,U,V,X,rfl⟩
   ·simp at h9
  obtain⟨g2,xh,xC,xn,_,f,_⟩:=aK.af (E:=aC) hm (by simp);injection xn with hA2 _ _;subst hA2;have c0:=ce f;have c1:=dt f;have c2:=ed f;have c3:=ef f;have c4:=eV f;have c5:=e9 f;have c6:=fa f;have c7:=fb f;have c8:=ma f;obtain⟨W3,hP,e3,D⟩:=dW w2 #[I6 (m:Nat),I6 (t:Nat),I6 (n2:Nat),I6 (R:Nat),I6 (S:Nat),I6 (T:Nat),I6 (U:Nat),I6 (V:Nat),I6 (X:Nat)] 241;obtain⟨W4,xo,e4,hQ⟩:=dW W3 #[I6 (m:Nat),I6 (t:Nat),I6 (n2:Nat),I6 (R:Nat),I6 (S:Nat),Se,aS,aS,aS,aS,aS,I6 (T:Nat),I6 (U:Nat),I6 (V:Nat),I6 (X:Nat)] 153;have e5:=e3.trans (e4.mono e3.size);obtain⟨xp,B4,N4,X4⟩:=gD (hp.below e5) (B2.trans (e5.mono B2.size)) (N2.below e5) hQ;have xA:W0.heap.size < W3.heap.size/\w.heap.size < W3.heap.size:=by
   have h1:=e3.size;have h2:=hp.lt;have h3:=ap N2;have h4:W3.heap.size=w2.heap.size+1:=by rw[<-hP];simp
   omega
  have xq:=aH hO;have z0:=ce D;have z1:=dt D;have z2:=ed D;have z3:=ef D;have z4:=eV D;have z5:=e9 D;have z6:=fa D;have z7:=fb D;have z8:=ma D;have xF:∀W,(Instr.arrayAt 241 (.slice (some ⟨g2,0,none⟩) 9 xh)).run prog W=.ok (Pt g2) W:=fun W=>by kernel_rfl
  have xr:=aH (l4 W0.heap.size 8000 (some r) W4 xp (by decide));clear hm hp hg hO f e3 e4 e5 D hQ;go_upto_region 8 with(fail);simp only[hP.out];clear c0 c1 c2 c3 c4 c5 c6 c7 c8;go_upto_region 9 with(fail);simp only[xo.out];clear z0 z1 z2 z3 z4 z5 z6 z7 z8;go_wp2_with fail;refine xr.mono ?_;rintro _e w5 ⟨hR,hx,hq⟩;obtain⟨G,hy⟩:=nx ((((some r).bind (du 8000)).map Prod.fst).getD []);obtain⟨o3,hA⟩:=nx (((some r).bind (du 8000)).map Prod.snd);rw[hy]at hR;rw[hA]at hx;subst hR;have hS:=aH (zB hy hA);have F:W0.heap.size≠W3.heap.size:=by omega
  have hh:w.heap.size≠W3.heap.size:=by omega
  have x5:=X4.only hq F.symm;have y5:=e9 x5;have f5:=am.frozen x5 5;obtain⟨W5,ht⟩:=nM (w5.setCell ⟨W3.heap.size,5,none⟩ (Sg G));have x6:=am.I x5 5 (Sg G);have r5:RS (w5.setCell ⟨W3.heap.size,5,none⟩ (Sg G)) W0.heap.size o3:=hx.put F;have hc:=aB w5 W3.heap.size 5 (Sg G);obtain⟨N5,B5⟩:=gB (by have:=(N4.only hq hf).only hc hh;rw[ht]at this;exact this) (by have:=(B4.grown hq B4.size (fun k e=>by injection e with e;subst e;exact E0.size)).setCell (p:=⟨W3.heap.size,5,none⟩) (by show w.heap.size<=W3.heap.size;omega) (Sg G);rw[ht]at this;exact this);rw[ht]at x6 r5;have X5:=aH x6;have xG:W3.heap.size < W5.heap.size:=ap x6;have xs:=aH (pf W0.heap.size o3 W5 r5);clear hx hq x5 x6 r5 hc hy hA;go_upto_region 10 with(fail);simp only[ht.out];clear y5 f5;go_wp2_with fail;refine xs.mono ?_;rintro _e w6 ⟨hT,hB,vl,vb,vc,rfl,p1,p2,p3,hC,hc⟩;obtain⟨⟨ls,lb,lc⟩,hD⟩:∃x,(hT.map Prod.fst).getD ([],[],[])=x:=⟨_,rfl⟩;obtain⟨o4,hE⟩:=nx (hT.map Prod.snd);rw[hD]at p1 p2 p3;rw[hE]at hC;dsimp only at p1 p2 p3;have hU:=aH (zB hD (zB hE hB));obtain⟨Al,g,rfl,_⟩:=p1.rw.slice;obtain⟨Ab,Y,rfl,_⟩:=p2.rw.slice;obtain⟨Ac,Z,rfl,_⟩:=p3.rw.slice;have H:=X5.only hc F.symm;have y6:=fa H;have y7:=fb H;have y8:=ma H;have ff:=fun j=>am.frozen H j;obtain⟨W6,hV⟩:=nM (((w6.setCell ⟨W3.heap.size,6,none⟩ (.slice Al ls.length g)).setCell ⟨W3.heap.size,7,none⟩ (.slice Ab lb.length Y)).setCell ⟨W3.heap.size,8,none⟩ (.slice Ac lc.length Z))
  have x8:=am.I (am.I (am.I H 6 (.slice Al ls.length g)) 7 (.slice Ab lb.length Y)) 8 (.slice Ac lc.length Z);have q1:=b3 (i:=8) (u:=.slice Ac lc.length Z) (b3 (i:=7) (u:=.slice Ab lb.length Y) (b3 (i:=6) (u:=.slice Al ls.length g) (p1.mono (base':=W3.heap.size) (by omega)) H (by decide)) (am.I H 6 _) (by decide)) (am.I (am.I H 6 _) 7 _) (by decide);have q2:=b3 (i:=8) (u:=.slice Ac lc.length Z) (b3 (i:=7) (u:=.slice Ab lb.length Y) (b3 (i:=6) (u:=.slice Al ls.length g) (p2.mono (base':=W3.heap.size) (by omega)) H (by decide)) (am.I H 6 _) (by decide)) (am.I (am.I H 6 _) 7 _) (by decide);have q3:=b3 (i:=8) (u:=.slice Ac lc.length Z) (b3 (i:=7) (u:=.slice Ab lb.length Y) (b3 (i:=6) (u:=.slice Al ls.length g) (p3.mono (base':=W3.heap.size) (by omega)) H (by decide)) (am.I H 6 _) (by decide)) (am.I (am.I H 6 _) 7 _) (by decide);have r6:=((hC.put (u:=.slice Al ls.length g) (i:=6) F).put (u:=.slice Ab lb.length Y) (i:=7) F).put (u:=.slice Ac lc.length Z) (i:=8) F;have hF:=aA (aA (aB w6 W3.heap.size 6 (.slice Al ls.length g)) (aB _ W3.heap.size 7 (.slice Ab lb.length Y))) (aB _ W3.heap.size 8 (.slice Ac lc.length Z));have hG:=(N5.only hc hf).only hF hh;have hH:=((B5.grown hc B5.size (fun k e=>by injection e with e;subst e;exact E0.size)).grown hF (zD B5.size hc.size) (fun k e=>by injection e with e;omega))
  rw[hV]at x8 q1 q2 q3 r6 hG hH;obtain⟨Q1,Q2,Q3,N6,B6,X6⟩:=gF q1 q2 q3 hG hH x8;have xH:W3.heap.size < W6.heap.size:=ap x8;have xt:=aH (px W0.heap.size o4 W6 r6);clear p1 p2 p3 hC hc H x8 q1 q2 q3 r6 hF hG hH hD hE hB;go_upto_region 11 with(fail);simp only[hV.out];clear y6 y7 y8 ff;go_wp2_with fail;refine xt.mono ?_;rintro _e w7 ⟨v7,tl,o5,rfl,p1,hW,hX,hY,hd⟩;obtain⟨At,B,rfl,_⟩:=p1.rw.slice;have q:=X6.only hd F.symm;have y9:=rz q;have f9:=am.frozen q 9;obtain⟨W7,hZ⟩:=nM (w7.setCell ⟨W3.heap.size,9,none⟩ (.slice At tl.length B));have he:=am.I q 9 (.slice At tl.length B);have q1:=b3 (i:=9) (u:=.slice At tl.length B) (j7 Q1 hd (by omega)) q (by decide);have q2:=b3 (i:=9) (u:=.slice At tl.length B) (j7 Q2 hd (by omega)) q (by decide);have q3:=b3 (i:=9) (u:=.slice At tl.length B) (j7 Q3 hd (by omega)) q (by decide);have q4:=b3 (i:=9) (u:=.slice At tl.length B) (p1.mono (base':=W3.heap.size) (by omega)) q (by decide);have r7:=hY.put (u:=.slice At tl.length B) (i:=9) F;have hI:=(N6.only hd hf).only (aB w7 W3.heap.size 9 (.slice At tl.length B)) hh;have hJ:=((B6.grown hd B6.size (fun k e=>by injection e with e;subst e;exact E0.size)).grown (aB w7 W3.heap.size 9 (.slice At tl.length B)) (zD B6.size hd.size) (fun k e=>by injection e with e;omega));rw[hZ]at he q1 q2 q3 q4 r7 hI hJ;clear Q1 Q2 Q3;obtain⟨Q1,Q2,Q3,Q4,N7,B7,X7,TK⟩:=gH q1 q2 q3 q4 hI hJ he (zB hW hX)
  have xI:W3.heap.size < W7.heap.size:=ap he;have xu:=aH (py W0.heap.size o5 W7 r7);clear p1 hY hd q he q1 q2 q3 q4 r7 hI hJ hW hX;go_upto_region 12 with(fail);simp only[hZ.out];clear y9 f9;go_wp2_with fail;refine xu.mono ?_;rintro _e w8 ⟨v8,pl,o6,rfl,p1,h0,h5,h6,hb⟩;obtain⟨y,A,rfl,_⟩:=p1.rw.slice;have q:=X7.only hb F.symm;have hu:=iz q;have xv:=am.frozen q 10;obtain⟨W8,h7⟩:=nM (w8.setCell ⟨W3.heap.size,10,none⟩ (.slice y pl.length A));have he:=am.I q 10 (.slice y pl.length A);have q1:=b3 (i:=10) (u:=.slice y pl.length A) (j7 Q1 hb (by omega)) q (by decide);have q2:=b3 (i:=10) (u:=.slice y pl.length A) (j7 Q2 hb (by omega)) q (by decide);have q3:=b3 (i:=10) (u:=.slice y pl.length A) (j7 Q3 hb (by omega)) q (by decide);have q4:=b3 (i:=10) (u:=.slice y pl.length A) (j7 Q4 hb (by omega)) q (by decide);have q5:=b3 (i:=10) (u:=.slice y pl.length A) (p1.mono (base':=W3.heap.size) (by omega)) q (by decide);have r8:=h6.put (u:=.slice y pl.length A) (i:=10) F;have hK:=(N7.only hb hf).only (aB w8 W3.heap.size 10 (.slice y pl.length A)) hh;have hL:=((B7.grown hb B7.size (fun k e=>by injection e with e;subst e;exact E0.size)).grown (aB w8 W3.heap.size 10 (.slice y pl.length A)) (zD B7.size hb.size) (fun k e=>by injection e with e;omega));rw[h7]at he q1 q2 q3 q4 q5 r8 hK hL;clear Q1 Q2 Q3 Q4;obtain⟨Q1,Q2,Q3,Q4,Q5,N8,B8,C⟩:=gH q1 q2 q3 q4 q5 hK hL (show am W8 W3.heap.size 153 #[I6 (m:Nat),I6 (t:Nat),I6 (n2:Nat),I6 (R:Nat),I6 (S:Nat),Sg G,.slice Al ls.length g,.slice Ab lb.length Y,.slice Ac lc.length Z,.slice At tl.length B,.slice y pl.length A,I6 (T:Nat),I6 (U:Nat),I6 (V:Nat),I6 (X:Nat)]from he)
  obtain⟨PK,xw⟩:=gB (zB h0 h5) (Ez W0.heap.size o6 W8 r8);clear p1 h6 hb q he q1 q2 q3 q4 q5 r8 hK hL h0 h5;go_upto_region 13 with(fail);simp only[h7.out];clear hu xv;go_wp2_with fail;refine xw.mono ?_;rintro _e _w ⟨ho,rfl⟩;rcases ho with⟨rfl,_⟩|⟨rfl,_⟩
  ·go_wp2_with (refine dV (vs:=kQ) rfl 153 2 63 rfl rfl rfl rfl (fun w=>by kernel_rfl) N8 (by simp[kQ,Value.oneCell']) (by simp[kQ]) ?_);have c:=am.az N8 kQ (by simp[kQ]);have s0:=ce c;have s1:=dt c;have s2:=ed c;have s3:=ef c;have s4:=eV c;have s5:=e9 c;have s6:=fa c;have s7:=fb c;have s8:=ma c;have s9:=rz c;have J:=iz c;have L:=iA c;have M:=iB c;have N:=jp c;have O:=ke c;try simp only[Exit.inBlock,Exit.then]
   refine bodyPost_ret (v:=.tuple #[.agg #[I6 0,I6 0,I6 0,I6 0,I6 0,Se,aS,aS,aS,aS,aS,I6 0,I6 0,I6 0,I6 0],I6 10]) (by simp[results,results79,go_sem,s0,s1,s2,s3,s4,s5,s6,s7,s8,s9,J,L,M,N,O]) rfl ?_;exact⟨B8.trans (((eb kQ W8 0).below nR B8.size).mono nR),10,⟨0,0,0,0,0,[],0,0,0,0⟩,_,_,_,_,_,rfl,F8,fun e=>by omega⟩
  have hM:=aH (CU HS xq (by omega) hS.1 hS.2 hU.1 hU.2.2);have xx:Hid (AC W8 ⟨(m:Nat),(t:Nat),(n2:Nat),(R:Nat),(S:Nat),G,(T:Nat),(U:Nat),(V:Nat),(X:Nat)⟩ (.slice Al ls.length g) (.slice Ab lb.length Y) (.slice Ac lc.length Z) (.slice At tl.length B) (.slice y pl.length A) ls lb lc tl pl):=aH ⟨⟨Q1.rw,Q2.rw,Q3.rw⟩,hM.1,Q4.rw,TK.1,fun a ha=>vm (TK.2 a ha),Q5.rw,PK.1,fun a ha=>ra (PK.2 a ha),by have:=hM.2.2.2.1;show G.length<=_;omega⟩;have xy:=aH (oF W8 xx);have y0:=ce C;have y1:=dt C;have y2:=ed C;have y3:=ef C;have y4:=eV C;have y5:=e9 C;have y6:=fa C;have y7:=fb C;have y8:=ma C;have y9:=rz C;have hu:=iz C;have xa:=iA C;have xb:=iB C;have xc:=jp C;have xd:=ke C;go_wp2_with fail;refine xy.mono ?_;rintro _e w9 ⟨c9,rfl,xe,hk⟩;obtain⟨N9,B9,I,xf,xz⟩:=gE (N8.below hk) (B8.trans (hk.mono B8.size)) (C.below hk) hk xe;clear hk xe y0 y1 y2 y3 y4 y5 y6 y7 y8 y9 hu xa xb xc xd;by_cases hc9:c9=0
  case neg=>
   have d9:(c9==0)=false:=by simpa using hc9
   have xm:(c9 != 0)=true:=by simpa using hc9
   go_wp2_with (refine dV (vs:=kQ) rfl 153 2 63 rfl rfl rfl rfl (fun w=>by kernel_rfl) N9 (by simp[kQ,Value.oneCell']) (by simp[kQ]) ?_);have c:=am.az N9 kQ (by simp[kQ]);have s0:=ce c;have s1:=dt c;have s2:=ed c;have s3:=ef c;have s4:=eV c;have s5:=e9 c;have s6:=fa c;have s7:=fb c;have s8:=ma c;have s9:=rz c;have J:=iz c;have L:=iA c;have M:=iB c;have N:=jp c;have O:=ke c;try simp only[Exit.inBlock,Exit.then]
   refine bodyPost_ret (v:=.tuple #[.agg #[I6 0,I6 0,I6 0,I6 0,I6 0,Se,aS,aS,aS,aS,aS,I6 0,I6 0,I6 0,I6 0],I6 10]) (by simp[results,results79,go_sem,s0,s1,s2,s3,s4,s5,s6,s7,s8,s9,J,L,M,N,O]) rfl ?_;exact⟨B9.trans (((eb kQ w9 0).below nR B9.size).mono nR),10,⟨0,0,0,0,0,[],0,0,0,0⟩,_,_,_,_,_,rfl,F8,fun e=>by omega⟩
  subst hc9;have xi:=aH (xz rfl);have y0:=ce I;have y1:=dt I;have y2:=ed I;have y3:=ef I;have y4:=eV I;have y5:=e9 I;have y6:=fa I;have y7:=fb I;have y8:=ma I;have y9:=rz I;have hu:=iz I;have xa:=iA I;have xb:=iB I;have xc:=jp I;have xd:=ke I;go_wp2_with (refine dV (vs:=[I6 (m:Nat),I6 (t:Nat),I6 (n2:Nat),I6 (R:Nat),I6 (S:Nat),Sg G,.slice Al ls.length g,.slice Ab lb.length Y,.slice Ac lc.length Z,.slice At tl.length B,.slice y pl.length A,I6 (T:Nat),I6 (U:Nat),I6 (V:Nat),I6 (X:Nat)]) rfl 153 2 64 rfl rfl rfl rfl (fun w=>by kernel_rfl) N9 (by simp[Value.oneCell']) (by simp[kQ]) ?_);have c:=am.az N9 [I6 (m:Nat),I6 (t:Nat),I6 (n2:Nat),I6 (R:Nat),I6 (S:Nat),Sg G,.slice Al ls.length g,.slice Ab lb.length Y,.slice Ac lc.length Z,.slice At tl.length B,.slice y pl.length A,I6 (T:Nat),I6 (U:Nat),I6 (V:Nat),I6 (X:Nat)] (by simp[kQ]);have s0:=ce c;have s1:=dt c;have s2:=ed c;have s3:=ef c;have s4:=eV c;have s5:=e9 c;have s6:=fa c;have s7:=fb c;have s8:=ma c;have s9:=rz c;have J:=iz c;have L:=iA c;have M:=iB c;have N:=jp c;have O:=ke c;refine bodyPost_ret (v:=.tuple #[.agg #[I6 (m:Nat),I6 (t:Nat),I6 (n2:Nat),I6 (R:Nat),I6 (S:Nat),Sg G,.slice Al ls.length g,.slice Ab lb.length Y,.slice Ac lc.length Z,.slice At tl.length B,.slice y pl.length A,I6 (T:Nat),I6 (U:Nat),I6 (V:Nat),I6 (X:Nat)],I6 0]) (by simp[results,results79,go_sem,s0,s1,s2,s3,s4,s5,s6,s7,s8,s9,J,L,M,N,O]) rfl ?_
  have xg:=eb [I6 (m:Nat),I6 (t:Nat),I6 (n2:Nat),I6 (R:Nat),I6 (S:Nat),Sg G,.slice Al ls.length g,.slice Ab lb.length Y,.slice Ac lc.length Z,.slice At tl.length B,.slice y pl.length A,I6 (T:Nat),I6 (U:Nat),I6 (V:Nat),I6 (X:Nat)] w9 (b:=w.heap.size) 0;have kp:∀{α:Type} (E_:El α) {v:Value} {l:List α},E_.ty≠153->aK E_ W3.heap.size W8 v l->aK E_ w.heap.size (bB w9 w.heap.size 0 [I6 (m:Nat),I6 (t:Nat),I6 (n2:Nat),I6 (R:Nat),I6 (S:Nat),Sg G,.slice Al ls.length g,.slice Ab lb.length Y,.slice Ac lc.length Z,.slice At tl.length B,.slice y pl.length A,I6 (T:Nat),I6 (U:Nat),I6 (V:Nat),I6 (X:Nat)]) v l:=@fun _ E_ v l hne h=>(aK.keep (aI h xf) xg (fun k e eq=>aK.ne (aI h xf) N9 hne (eq.trans e.symm))).mono (by omega);have t1:=kp aU (by decide) Q1;have t2:=kp aJ (by decide) Q2;have t3:=kp aJ (by decide) Q3;have t4:=kp a7 (by decide) Q4;have t5:=kp aL (by decide) Q5;obtain⟨z1,z2,z3,z4,z5,z6⟩:=hM.out;have z7:=z5 t rfl;refine⟨B9.trans ((xg.below nR B9.size).mono nR),0,⟨(m:Nat),(t:Nat),(n2:Nat),(R:Nat),(S:Nat),G,(T:Nat),(U:Nat),(V:Nat),(X:Nat)⟩,_,_,_,_,_,rfl,F8,fun _=>⟨ls,lb,lc,tl,pl,⟨⟨t1.rw,t2.rw,t3.rw⟩,z1,t4.rw,TK.1,fun a ha=>vm (TK.2 a ha),t5.rw,PK.1,fun a ha=>ra (PK.2 a ha),by show G.length<=_;omega⟩,t1,t2,t3,t4,t5,z2,by show 1<=((t:Nat):Int)/\((t:Nat):Int)<=64;omega,xi,z3,fun z hz=>?_⟩⟩
  have xJ:MD=1099511627776:=rfl;have xj:∃n:Nat,n<=MD/\z=(n:Int):=by
   simp[ij]at hz;rcases hz with rfl|rfl|rfl|rfl|rfl|rfl|rfl|rfl|rfl<;>exact⟨_,z6 _ (by simp),rfl⟩
  obtain⟨n,hn,rfl⟩:=xj;unfold bN;omega
theorem eJ{o:Obj}(h:Below w.heap.size w W):Below w.heap.size w (W.alloc o):=h.alloc h.size o
theorem ir{v}(h:Below w.heap.size w W)(a:w.heap.size<=k):Below w.heap.size w (W.setCell ⟨k,i,none⟩ v):=h.setCell (p:=⟨k,i,none⟩) a v
theorem oJ{vl vb vc vt vv}(hC:Int)(h:aE E Rf N T B hand rsv o w)(hp:part < 16)(hx:x.pt=(part:Nat)):
  Cs 84 #[Pt N.nb,s9 x vl vb vc vt vv,I6 hC] w (F4 E Rf N T B hand rsv o w):=by
 obtain⟨W0,HW,HB,x0⟩:=dW w #[I6 x.k,I6 x.fr,I6 x.sq,I6 x.pt,I6 x.fl,.string (aF x.mr),vl,vb,vc,vt,vv,I6 x.dn,I6 x.dm,I6 x.rc,I6 x.lg] 153;obtain⟨g,HF⟩:=gB (h.below HB) h.fin;have a3:Ce W0 w.heap.size 3 (I6 (part:Nat)):=by rw[<-hx];exact am.cell x0 3
 have y1:=g.cells.st;obtain⟨A,KS⟩:=gB x0 (fun W (hb:Bw W0 W)=>show Ce W N.nb 1 (Pt N.st)/\Ce W w.heap.size 3 (I6 (part:Nat))from⟨aD hb y1,aD hb a3⟩);obtain⟨n0,h3,h4,hR⟩:=g.state;have HC:=aH (fun W (hb:Bw W0 W)=>eH (hR.below hb g.fin) part hp (by omega));clear h x0 hR hx;apply cI;go_in;go_upto_region 1 with(fail);simp only[HW.out];go_region_held3 (fun w'=>Ce w' N.nb 1 (Pt N.st)/\Ce w' w.heap.size 3 (I6 (part:Nat)))
  (exact KS _ (by repeat(first|exact bR _|exact z|refine eJ ?_|(refine ir ?_ (by first|exact nR|exact z.size))|refine jY ?_)))
  (first
   |(go_at_call 54;(with_reducible refine(HC.out _ (by repeat(first|exact bR _|refine eJ ?_|refine jY ?_))).mono ?_);rintro C w1 ⟨h5,h6,h7,n,c,f,rfl,o1,o2,o3,_,h8,h2,hS,hT,hU,Y⟩
     have z:Bw W0 w1:=(by(first|exact(eJ ((bP W0))).trans (Y.mono (by simp))|exact((bP W0)).trans (Y.mono (by simp))))
     (try(have xA:am w1 W0.heap.size 131 #[aS,aS,aS]:=am.below (am.new W0.drew 131 #[aS,aS,aS]) Y;obtain⟨hW,hX,hY⟩:=am.three xA;have hV:=fun j=>am.frozen xA j))
     obtain⟨S,U,rfl,_⟩:=o1.rw.slice;obtain⟨D,F,rfl,_⟩:=o2.rw.slice;obtain⟨G,H,rfl,_⟩:=o3.rw.slice))
 ·have e1:=ba w1 (.cells #[.slice S n.length U,.slice D c.length F,.slice G f.length H] 131);obtain⟨W2,hD⟩:=nM (w1.alloc (.cells #[.slice S n.length U,.slice D c.length F,.slice G f.length H] 131));have n2:=am.new w1 131 #[.slice S n.length U,.slice D c.length F,.slice G f.length H];simp only[hD.out]at e1 n2 ⊢;have hE:=z.trans (e1.mono z.size);obtain⟨R1,R2,R3,N2,hF⟩:=gE (o1.rw.below e1) (o2.rw.below e1) (o3.rw.below e1) n2 hE;clear o1 o2 o3 hS hT hU Y z e1 n2 hE;have p:=hF.out;have Z:=aH p;obtain⟨b0,b1,b2⟩:=am.three N2;have ha:=iA (A.below p);have hc:=iB (A.below p);obtain⟨HG,hd,RB⟩:=gC (mI _ (.slice D c.length F) (.slice G f.length H) n ⟨x.dn,x.dm⟩ W2 R1 rfl rfl (by omega)) N2 (zB R2 R3);obtain⟨m,hm⟩:=nx (k4 n ⟨x.dn,x.dm⟩);obtain⟨V,he⟩:=nx (tz n ⟨x.dn,x.dm⟩);rw[hm,he]at HG;clear hm he p;go_wp2_with fail;refine HG.mono ?_;rintro C w3 ⟨rfl,I⟩;obtain⟨W4,hf⟩:=nM (w3.alloc (.cells #[I6 m.d.nd,I6 m.d.n,.string (aF m.q),.string (aF m.b),I6 m.c] 44));have e4:=ba w3 (.cells #[I6 m.d.nd,I6 m.d.n,.string (aF m.q),.string (aF m.b),I6 m.c] 44);rw[hf]at e4;have a:=I.trans (e4.mono I.size);have hg:=aH (Z.trans (a.mono Z.size));have z1:=dt (hd.below a);have z2:=ed (hd.below a);have hG:=aD a ha;have hH:=aD a hc;have hh:=aH (iI W4 _ _ c f ⟨x.dn,x.dm⟩ (RB.1.below a) (RB.2.below a) (by omega) (by omega));obtain⟨X,hj⟩:=nx (my c f ⟨x.dn,x.dm⟩)
  rw[hj]at hh;clear hj I e4 a ha hc b0 b1 b2;go_upto_region 3 with(fail);simp only[hf.out];go_wp2_with fail;refine hh.mono ?_;rintro C w5 ⟨rfl,hk⟩;have q:=aH (hg.trans (hk.mono hg.size));clear hk z1 z2 hG hH;by_cases hcut:X=true/\V=false
  case pos=>
   obtain⟨rfl,rfl⟩:=hcut;go_wp2_with fail;go_ret;exact⟨false,rfl,o,g.below q,(Sk.J (N:=N) HB HF).trans (.J q g.fin)⟩
  have hI:(X&&!V)=false:=by cases X<;>cases V<;>simp at hcut ⊢
  have hl:Bw w5 w5.drew:=bD _;have b:=aH (q.trans (hl.mono q.size));have v1:Ce w5.drew N.nb 1 (Pt N.st):=(g.below b).cells.st;have hn:=iA (A.below b);have ho:=iB (A.below b);have hq:=jp (A.below b);have hr:=ke (A.below b);have KV:=aH (fun W (hb:Below w5.drew.heap.size w5.drew W)=>show Ce W N.nb 1 (Pt N.st)/\Ce W w.heap.size 11 (I6 x.dn)/\Ce W w.heap.size 12 (I6 x.dm)/\Ce W w.heap.size 13 (I6 x.rc)/\Ce W w.heap.size 14 (I6 x.lg)from⟨aD hb v1,aD hb hn,aD hb ho,aD hb hq,aD hb hr⟩);obtain⟨n5,hZ,h0,J⟩:=(g.below b).state;have hJ:=aH (eS J);clear hl J;cases X<;>cases V<;>(try(exact absurd ⟨rfl,rfl⟩ hcut));all_goals
   clear hcut hI;go_wp2_with fail;go_region_held3 (fun w'=>Ce w' N.nb 1 (Pt N.st)/\Ce w' w.heap.size 11 (I6 x.dn)/\Ce w' w.heap.size 12 (I6 x.dm)/\Ce w' w.heap.size 13 (I6 x.rc)/\Ce w' w.heap.size 14 (I6 x.lg))
    (first|exact KV _ (bR _)|exact KV _ s|exact KV _ L)
    (first
     |(go_at_call 61;(with_reducible refine(hJ.out).mono ?_);rintro C w7 ⟨l7,⟨v7,rfl,hs,s⟩,hK,ht⟩)
     |(go_at_call 168;(with_reducible refine(oE hC ⟨x.dn,x.dm⟩ x.rc _ w7 hs.rw hK ht).mono ?_);rintro C w8 ⟨v8,c8,l8,rfl,M,hL,hu,O⟩;have L:=s.trans (O.mono s.size);obtain⟨A8,k8,rfl,_⟩:=M.rw.slice))
   obtain⟨k,O8,Z8⟩:=gC (b.trans (L.mono b.size)) M.rw hu;obtain⟨S8,hw⟩:=gB ((Sk.J (N:=N) HB HF).trans (.J k g.fin)) (k9 w8 _ l8 O8 (by omega) Z8);obtain⟨sb,hy⟩:=nx (bZ eM l8);rw[hy]at hw;clear hs M ht hu s O L hy v1 hn ho hq hr;by_cases hc8:c8=0
   case neg=>
    have d8:(c8==0)=false:=by simpa using hc8
    go_wp2_with fail;go_ret;exact⟨false,rfl,o,g.below k,S8⟩
   subst hc8;go_wp2_with fail;refine hw.mono ?_;rintro C w9 ⟨rfl,y⟩;obtain⟨hz,S9⟩:=gB (k.trans (y.mono k.size)) (S8.trans (.J y (g.below k).fin));have hM:=aH (fG (g.below hz) (O8.below y) hL Z8);clear y;by_cases hsl:(sb.length:Int)<=6000
   case neg=>
    have d9:decide ((sb.length:Int)<=6000)=false:=by simpa using hsl
    go_wp2_with fail;go_ret;exact⟨false,rfl,o,g.below hz,S9⟩
   have d9:decide ((sb.length:Int)<=6000)=true:=by simpa using hsl
   go_wp2_with fail;refine hM.mono ?_;rintro C h1 ⟨t,rfl,hN,hA,hB⟩;obtain⟨hO,hP⟩:=gB hA (S9.trans hB);clear hA hB;go_wp2_with fail;go_ret;exact⟨t,rfl,hN,hO,hP⟩
 ·have R:am w1 W0.heap.size 131 #[aS,aS,aS]:=xA;have h9:W0.heap.size<=w1.heap.size:=z.size;obtain⟨W2,hD⟩:=nM (((w1.setCell ⟨W0.heap.size,0,none⟩ (.slice S n.length U)).setCell ⟨W0.heap.size,1,none⟩ (.slice D c.length F)).setCell ⟨W0.heap.size,2,none⟩ (.slice G f.length H));have n2:=am.ai R (.slice S n.length U) (.slice D c.length F) (.slice G f.length H);have hQ:=ir (i:=2) (v:=.slice G f.length H) (ir (i:=1) (v:=.slice D c.length F) (ir (i:=0) (v:=.slice S n.length U) z nR) nR) nR;have q1:=b3 (i:=2) (u:=.slice G f.length H) (b3 (i:=1) (u:=.slice D c.length F) (b3 (i:=0) (u:=.slice S n.length U) o1 R (by decide)) (am.I R 0 _) (by decide)) (am.I (am.I R 0 _) 1 _) (by decide);have q2:=b3 (i:=2) (u:=.slice G f.length H) (b3 (i:=1) (u:=.slice D c.length F) (b3 (i:=0) (u:=.slice S n.length U) o2 R (by decide)) (am.I R 0 _) (by decide)) (am.I (am.I R 0 _) 1 _) (by decide);have q3:=b3 (i:=2) (u:=.slice G f.length H) (b3 (i:=1) (u:=.slice D c.length F) (b3 (i:=0) (u:=.slice S n.length U) o3 R (by decide)) (am.I R 0 _) (by decide)) (am.I (am.I R 0 _) 1 _) (by decide);simp only[hD.out]at n2 hQ q1 q2 q3 ⊢;obtain⟨R1,R2,R3,N2,hF⟩:=gE q1.rw q2.rw q3.rw n2 hQ;clear o1 o2 o3 hS hT hU Y z n2 hQ q1 q2 q3 R xA hW hX hY hV;have p:=hF.out;have Z:=aH p;obtain⟨b0,b1,b2⟩:=am.three N2;have ha:=iA (A.below p)
  have hc:=iB (A.below p);obtain⟨HG,hd,RB⟩:=gC (mI _ (.slice D c.length F) (.slice G f.length H) n ⟨x.dn,x.dm⟩ W2 R1 rfl rfl (by omega)) N2 (zB R2 R3);obtain⟨m,hm⟩:=nx (k4 n ⟨x.dn,x.dm⟩);obtain⟨V,he⟩:=nx (tz n ⟨x.dn,x.dm⟩);rw[hm,he]at HG;clear hm he p;go_wp2_with fail;refine HG.mono ?_;rintro C w3 ⟨rfl,I⟩;obtain⟨W4,hf⟩:=nM (w3.alloc (.cells #[I6 m.d.nd,I6 m.d.n,.string (aF m.q),.string (aF m.b),I6 m.c] 44));have e4:=ba w3 (.cells #[I6 m.d.nd,I6 m.d.n,.string (aF m.q),.string (aF m.b),I6 m.c] 44);rw[hf]at e4;have a:=I.trans (e4.mono I.size);have hg:=aH (Z.trans (a.mono Z.size));have z1:=dt (hd.below a);have z2:=ed (hd.below a);have hG:=aD a ha;have hH:=aD a hc;have hh:=aH (iI W4 _ _ c f ⟨x.dn,x.dm⟩ (RB.1.below a) (RB.2.below a) (by omega) (by omega));obtain⟨X,hj⟩:=nx (my c f ⟨x.dn,x.dm⟩);rw[hj]at hh;clear hj I e4 a ha hc b0 b1 b2;go_upto_region 3 with(fail);simp only[hf.out];go_wp2_with fail;refine hh.mono ?_;rintro C w5 ⟨rfl,hk⟩;have q:=aH (hg.trans (hk.mono hg.size));clear hk z1 z2 hG hH;by_cases hcut:X=true/\V=false
  case pos=>
   obtain⟨rfl,rfl⟩:=hcut;go_wp2_with fail;go_ret;exact⟨false,rfl,o,g.below q,(Sk.J (N:=N) HB HF).trans (.J q g.fin)⟩
  have hI:(X&&!V)=false:=by cases X<;>cases V<;>simp at hcut ⊢
  have hl:Bw w5 w5.drew:=bD _;have b:=aH (q.trans (hl.mono q.size));have v1:Ce w5.drew N.nb 1 (Pt N.st):=(g.below b).cells.st;have hn:=iA (A.below b);have ho:=iB (A.below b);have hq:=jp (A.below b);have hr:=ke (A.below b);have KV:=aH (fun W (hb:Below w5.drew.heap.size w5.drew W)=>show Ce W N.nb 1 (Pt N.st)/\Ce W w.heap.size 11 (I6 x.dn)/\Ce W w.heap.size 12 (I6 x.dm)/\Ce W w.heap.size 13 (I6 x.rc)/\Ce W w.heap.size 14 (I6 x.lg)from⟨aD hb v1,aD hb hn,aD hb ho,aD hb hq,aD hb hr⟩);obtain⟨n5,hZ,h0,J⟩:=(g.below b).state;have hJ:=aH (eS J);clear hl J;cases X<;>cases V<;>(try(exact absurd ⟨rfl,rfl⟩ hcut));all_goals
   clear hcut hI;go_wp2_with fail;go_region_held3 (fun w'=>Ce w' N.nb 1 (Pt N.st)/\Ce w' w.heap.size 11 (I6 x.dn)/\Ce w' w.heap.size 12 (I6 x.dm)/\Ce w' w.heap.size 13 (I6 x.rc)/\Ce w' w.heap.size 14 (I6 x.lg))
    (first|exact KV _ (bR _)|exact KV _ s|exact KV _ L)
    (first
     |(go_at_call 61;(with_reducible refine(hJ.out).mono ?_);rintro C w7 ⟨l7,⟨v7,rfl,hs,s⟩,hK,ht⟩)
     |(go_at_call 168;(with_reducible refine(oE hC ⟨x.dn,x.dm⟩ x.rc _ w7 hs.rw hK ht).mono ?_);rintro C w8 ⟨v8,c8,l8,rfl,M,hL,hu,O⟩;have L:=s.trans (O.mono s.size);obtain⟨A8,k8,rfl,_⟩:=M.rw.slice))
   obtain⟨k,O8,Z8⟩:=gC (b.trans (L.mono b.size)) M.rw hu;obtain⟨S8,hw⟩:=gB ((Sk.J (N:=N) HB HF).trans (.J k g.fin)) (k9 w8 _ l8 O8 (by omega) Z8);obtain⟨sb,hy⟩:=nx (bZ eM l8);rw[hy]at hw;clear hs M ht hu s O L hy v1 hn ho hq hr;by_cases hc8:c8=0
   case neg=>
    have d8:(c8==0)=false:=by simpa using hc8
    go_wp2_with fail;go_ret;exact⟨false,rfl,o,g.below k,S8⟩
   subst hc8;go_wp2_with fail;refine hw.mono ?_;rintro C w9 ⟨rfl,y⟩;obtain⟨hz,S9⟩:=gB (k.trans (y.mono k.size)) (S8.trans (.J y (g.below k).fin));have hM:=aH (fG (g.below hz) (O8.below y) hL Z8);clear y;by_cases hsl:(sb.length:Int)<=6000
   case neg=>
    have d9:decide ((sb.length:Int)<=6000)=false:=by simpa using hsl
    go_wp2_with fail;go_ret;exact⟨false,rfl,o,g.below hz,S9⟩
   have d9:decide ((sb.length:Int)<=6000)=true:=by simpa using hsl
   go_wp2_with fail;refine hM.mono ?_;rintro C h1 ⟨t,rfl,hN,hA,hB⟩;obtain⟨hO,hP⟩:=gB hA (S9.trans hB);clear hA hB;go_wp2_with fail;go_ret;exact⟨t,rfl,hN,hO,hP⟩
theorem rm{q bd}(b a c:Int)(h:aE E Rf N T B (some k) rsv o w):
  Cs 177 #[Pt N.nb,I6 (k:Nat),.agg #[I6 b,.string (aF q),.string (aF bd),I6 a],I6 c] w (Nd E Rf N T B none rsv o w (.tuple #[])):=by
 obtain⟨W0,i,f,x⟩:=dW w #[I6 b,.string (aF q),.string (aF bd),I6 a] 48;obtain⟨j,m⟩:=gB (h.below f) (Sk.J (N:=N) f h.fin);have g:=aH (bY j 1 (by decide));apply cI;go_in;go_upto_region 1 with(fail);simp only[i.out];go_wp2_with fail;refine g.mono ?_;rintro y w3 ⟨rfl,n,p,s⟩;obtain⟨t,u⟩:=gB p (m.trans s);go_wp2;go_end0;exact⟨rfl,n,t,u⟩
theorem te(nb b:Nat)(z:Int)(t:Mg)(w:World)(c:Ce w b 0 (Pt nb)/\Ce w nb 7 (I6 z)):
  Cs 285 #[yq t,Pt b] w fun e w'=>Rt e (.bool (decide (t.c < z)))/\Below w.heap.size w w':=by
 have f:=qX w _ c.1;have g:=qX w _ c.2;obtain⟨W0,i,a,j⟩:=dW w #[I6 t.d.nd,I6 t.d.n,.string (aF t.q),.string (aF t.b),I6 t.c] 44;have c1:=(Below.cell a (p:=⟨b,0,none⟩) f).trans c.1;have c2:=(Below.cell a (p:=⟨nb,7,none⟩) g).trans c.2;have m:=fun n=>show Ce (W0.drewN n) b 0 (Pt nb)from c1;have q:=fun n=>show Ce (W0.drewN n) nb 7 (I6 z)from c2;have k:=(am.ab j).2.2.2.2;have s:=fun n=>show Ce (W0.drewN n) w.heap.size 4 (I6 t.c)from k;have h:=aH (fun n=>show Bw w (W0.drewN n)from⟨a.os,a.tape,a.output,a.size,a.block⟩);apply cI;go_in;go_upto_region 1 with(fail);simp only[i.out];go_quiet (fail);go_wp2;go_ret;exact⟨rfl,h _⟩
theorem vZ{q O:List UInt8}{cl:Cl}(f i X:Int)(h:aE E Rf N T B (some k) rsv o w)(Y:E.cs[k]?=some cl)(Z:cl.op≠3)(h4:cl.op≠4)(hq:q.length<=1000000000):
  Calls Tryz.prog 183 #[.pointer (some ⟨N.nb,0,none⟩),.int .i64 (k:Nat),.agg #[.int .i64 f,.string (aF q),.string (aF O),.int .i64 i],.int .i64 X] w (Nd E Rf N T B none rsv o w (.tuple #[])):=by
 obtain⟨W0,HW⟩:∃W,Hid (((w.alloc (.cells #[.pointer (some ⟨N.nb,0,none⟩)] 65)).alloc (.cells #[.int .i64 f,.string (aF q),.string (aF O),.int .i64 i] 48))=W):=⟨_,aH rfl⟩;have hl:=tK w #[.pointer (some ⟨N.nb,0,none⟩)] #[.int .i64 f,.string (aF q),.string (aF O),.int .i64 i] 65 48;rw[HW]at hl;obtain⟨HB,x0,x1⟩:=hl;obtain⟨b,S0,G⟩:=gC (h.below HB) (Sk.J (N:=N) HB h.fin) Y;have j:Below W0.heap.size W0 W0.drew:=(Below.refl _ _).drew;have a0:=am.cell x0 0;have a1:=am.cell x1 1;have y1:=b.cells.st;obtain⟨R,X1,C⟩:=gC x0 x1 (fun W (hb:Below W0.heap.size W0 W)=>show W.cell? ⟨w.heap.size,0,none⟩=some (.pointer (some ⟨N.nb,0,none⟩))/\W.cell? ⟨N.nb,1,none⟩=some (.pointer (some ⟨N.st,0,none⟩))/\W.cell? ⟨w.heap.size+1,1,none⟩=some (.string (aF q))from⟨aD hb a0,aD hb y1,aD hb a1⟩);obtain⟨n0,hn,ho,ha⟩:=b.state;obtain⟨HC,HP,m⟩:=gC (fun k hk=>eH (ha.below j b.fin) k hk (by omega)) (ll N.tv q W0.drew (b.tab.1.below j) hq) j;go_enter Tryz.func183,Tryz.ntmps183;go_upto_region 1 with(fail);simp only[HW.out];go_region_held3 (fun w'=>w'.cell? ⟨w.heap.size,0,none⟩=some (.pointer (some ⟨N.nb,0,none⟩))/\w'.cell? ⟨N.nb,1,none⟩=some (.pointer (some ⟨N.st,0,none⟩))/\w'.cell? ⟨w.heap.size+1,1,none⟩=some (.string (aF q)))
  (first|exact C _ (Below.refl _ _)|exact C _ m|exact C _ c|exact C _ a)
  (first
   |(go_at_call 270;(with_reducible refine(HP.out).mono ?_);rintro n _w ⟨⟨pt,hc,rfl⟩,rfl⟩)
   |(go_at_call 54;(with_reducible refine(HC.out pt hc).mono ?_);rintro n w1 ⟨hp,hr,hs,l2,ht,hu,rfl,o1,o2,o3,_,hw,hm,hx,hy,hz,H⟩;have c:=aH (m.trans (H.mono m.size));clear H)
   |(go_at_call 274;(with_reducible refine(mU q w1 o1.rw (by omega)).mono ?_);rintro n w2 ⟨v2,rfl,p,I⟩;have a:=aH (c.trans (I.mono c.size));clear I))
 all_goals
  obtain⟨D,J⟩:∃l,l2.filter (fun t=>!(!(t.q==q)))=l:=⟨_,rfl⟩;rw[J]at p;have hA:D.length<=10000000:=by rw[<-J];exact Nat.le_trans (List.length_filter_le _ _) (by omega)
  have e0:=am.cell (X1.below a) 0;have e1:=am.cell (R.below a) 0;obtain⟨S,S2,F⟩:=gC (b.below a) (S0.trans (.J a b.fin)) p;obtain⟨A2,k2,rfl,_⟩:=p.rw.slice;by_cases hop:f=8
  ·have d8:(f==8)=true:=by simpa using hop
   have L:∀(W:World),w2.heap.size<=W.heap.size->W.heap[w.heap.size]?=w2.heap[w.heap.size]?->W.heap[N.nb]?=w2.heap[N.nb]?->W.cell? ⟨w.heap.size,0,none⟩=some (.pointer (some ⟨N.nb,0,none⟩))/\W.cell? ⟨N.nb,7,none⟩=some (.int .i64 5):=fun W _ h1 h2=>⟨by have:=e1;unfold World.cell? at this ⊢;rw[h1];exact this,by have:=S.cells.most;unfold World.cell? at this ⊢;rw[h2];exact this⟩;have hB:=a.size;have hd:=c.size;have hC:=ap R;have hD:=b.cells.lt;have he:=aH (mL 285 #[.pointer (some ⟨w.heap.size,0,none⟩)] (fun t=>decide (t.c < 5)) _ _ D w2 F (by omega) (aQ Tryz.func285 (by kernel_rfl) (by kernel_rfl))
    (fun t W hW=>te N.nb _ 5 t W (L W hW.size (hW.block _ (by omega)) (hW.block _ (by omega))))
    (fun g hg t W hW=>te N.nb _ 5 t W (L W hW.size (hW.block _ (by omega) (fun e=>by have:=(F.lt g hg).1;injection e with e;omega)) (hW.block _ (by omega) (fun e=>by have:=(F.lt g hg).1;injection e with e;omega)))))
   go_wp2_with fail;refine he.mono ?_;rintro n w3 ⟨v3,rfl,M,hf⟩;have s:=aH (a.grown hf a.size (fun k hk=>Nat.le_trans hd (F.lt k hk).1));obtain⟨H3,S3⟩:=gB (b.below s) (S0.trans (.J s b.fin));have f1:=am.cell (R.below s) 0;obtain⟨l4,hh⟩:∃l,D.filter (fun t=>!(decide (t.c < 5)))=l:=⟨_,rfl⟩;rw[hh]at M;obtain⟨A3,k3,rfl,_⟩:=M.rw.slice;obtain⟨U,V⟩:=gB (dH H3 ⟨0,0,(l4.length:Nat),⟨⟨0,0⟩,[],[],0⟩,0⟩ (H3.other G Z h4)) (S3);go_wp2_with fail;refine U.mono ?_;rintro n hj ⟨rfl,u,x,y⟩;obtain⟨z,A⟩:=gB x (V.trans y);go_wp2;go_end0;exact⟨rfl,u,z,A⟩
  ·have d8:(f==8)=false:=by simpa using hop
   obtain⟨HX,U,V⟩:=gC e1 (dH S ⟨0,0,(D.length:Nat),⟨⟨0,0⟩,[],[],0⟩,0⟩ (S.other G Z h4)) (S2);go_wp2_with fail;refine U.mono ?_;rintro n hj ⟨rfl,u,x,y⟩;obtain⟨z,A⟩:=gB x (V.trans y);go_wp2;go_end0;exact⟨rfl,u,z,A⟩
section
variable{next:Int}{dead:Bool}{vr:Value}{lets:List Lt}{ws:List (Int × Qg)}{qc:IM}
def CV(Rf:Nat->Prop)(reps:List Rp)(k:Nat):Prop:=Rf k/\∀r∈reps,r.ref≠(k:Nat)
def lZ(E:bX)(Rf:Nat->Prop)(N:Nb)(T B:Nat)(o:Ow)(w:World)(e:Ending)(w':World):Prop:=
 ∃(v1 v2:Value) (reps:List Rp) (lets:List Lt) (o':Ow),Rt e (.tuple #[v1,v2])/\Rw cW w' v1 reps/\Rw cY w' v2 lets/\lets.length<=B/\(∀r∈reps,fE E N.i r)/\(∀l∈lets,el E l.b)/\(reps.map Rp.ref).Nodup/\(∀r∈reps,∃k:Nat,r.ref=k/\Rf k)/\
  aE E (CV Rf reps) N T 0 none [] o' w'/\St (fun y=>y.1=N.i) o w o' w'
theorem aE.outed(h:aE E Rf N T B none [] o w)(x:gx E N next [] o w)(a:e7 E Rf N B none next [] o w)(hv:xX E Rf N B none next o w dead vr vl reps lets ws qc){reps':List Rp}(b:reps'=reps\/reps'=[]):
  aE E (CV Rf reps') N T 0 none [] o ((w.setCell ⟨N.nb,15,none⟩ (aS)).setCell ⟨N.nb,16,none⟩ (aS))/\St (·=(N.i,N.nb)) o w o ((w.setCell ⟨N.nb,15,none⟩ (aS)).setCell ⟨N.nb,16,none⟩ (aS))/\
  ((w.setCell ⟨N.nb,15,none⟩ (aS)).setCell ⟨N.nb,16,none⟩ (aS)).cell? ⟨N.nb,9,none⟩=some (.bool dead):=by
 have j:=aA (aB w N.nb 15 (aS)) (aB _ N.nb 16 (aS));have q:=am.I (am.I hv.blk 15 (aS)) 16 (aS);have f:St (·=(N.i,N.nb)) o w o _:=.U j a.onb h.fin;have i:=ci (r:=N.nb) h.i0;have g:cN N.i o w o _:=cN.an f h.roots.nb (by decide) (by decide) (by decide);have m:∀r∈reps',r∈reps:=fun r hx=>by
  rcases b with rfl|rfl
  ·exact hx
  ·cases hx
 have s:∀p∈ws,CV Rf reps' p.2.ref:=fun p hp=>⟨(hv.wok p hp).2.rf,fun r hx=>hv.refs.wr p hp r (m r hx)⟩;refine⟨?_,f,am.cell q 9⟩;have y:e7 E (CV Rf reps') N 0 none next [] o _:=⟨a.onb,a.owm,a.ocm,a.ne,a.num,a.rsv1,a.rsvN,a.pos,dead,aS,aS,[],[],ws,qc,q,cZ.nil _ _ _,cZ.nil _ _ _,nR,(fun r b=>by cases b),(fun r b=>by cases b),
  ⟨hv.refs.one,List.nodup_nil,(fun p hp r b=>by cases b),(fun r b=>by cases b),(fun k g=>by cases g)⟩,hv.wm.only j (dG hv.wm hv.blk),fun p hp=>⟨(hv.wok p hp).1,((hv.wok p hp).2.st f i g).a' (s p hp)⟩,hv.cm.only j (dG hv.cm hv.blk),fun p hp=>by
   obtain⟨c,part,d,rc,z,A,C⟩:=hv.cok p hp;exact⟨c,part,d,rc,z,A,g.cla d rc c C⟩⟩
 have R:=h.roots;obtain⟨n,t,u⟩:=h.due;exact⟨f.far,h.i0,h.i9,eN.st h.tab f i,h.kok,⟨h.cs.1,fun k g=>h.cs.2 k g.1⟩,⟨n,t,u.st f (aV (R.due.ne R.nb (by decide)))⟩,h.hd.st f (aV (R.hd.ne R.nb (by decide))),⟨h.wt.1,h.wt.2.st f (aV (R.wt.ne R.nb (by decide))) i⟩,h.cfg,next,
  x.st f i (aV (R.lg.ne R.nb (by decide))) (aV (R.dk.ne R.nb (by decide))) (aV (R.st.ne R.nb (by decide))),y⟩
theorem aK.cv{l:List α}(h:aK El_ base w v l)(f:∀j,v.ownBlock=some j->w'.heap[j]?=w.heap[j]?):aK El_ base w' v l:=by
 rcases h.2 with⟨a,b⟩|⟨g,cap,c,a,b,i,k⟩
 ·exact⟨h.1,.inl ⟨a,b⟩⟩
 ·exact⟨h.1,.inr ⟨g,cap,c,a,b,(f g (by rw[a];rfl)).trans i,k⟩⟩
theorem tf(h:aE E Rf N T B none [] o w):Cs 75 #[Pt N.nb] w (lZ E Rf N T B o w):=by
 obtain⟨next,A,c⟩:=h.rest;obtain⟨dead,vr,vl,reps,lets,ws,qc,hv⟩:=c.v;obtain⟨m,c1,rfl,_⟩:=hv.rep.rw.slice;obtain⟨q,c2,rfl,_⟩:=hv.let_.rw.slice;have s:=am.cell hv.blk 15;have t:=am.cell hv.blk 16;have C:∀n,Ce (w.drewN n) N.nb 15 (.slice m reps.length c1):=fun n=>s;have D:∀n,Ce (w.drewN n) N.nb 16 (.slice q lets.length c2):=fun n=>t;have a:=fun n=>below_drewN (bQ w) n;have S:∀n,(w.drewN n).frozen? ⟨N.nb,15,none⟩=false:=fun n=>am.frozen (hv.blk.below (a n)) 15;have U:∀n,(w.drewN n).frozen? ⟨N.nb,16,none⟩=false:=fun n=>am.frozen (hv.blk.below (a n)) 16;have u:=aH (fun n {reps':List Rp} (hr:reps'=reps\/reps'=[])=>(h.below (a n)).outed (A.below h.fin (a n)) (c.below h.fin (a n)) (xX.only (next':=next) (dead':=dead) h c hv (aG (a n)) (hv.blk.below (a n))).1 hr);have f:∀j,(Value.slice m reps.length c1).ownBlock=some j->N.nb≠j:=fun j e=>by
  obtain⟨cs,i⟩:=hv.rep.1.ty e;exact aT hv.blk i (by decide)
 have k:∀j,(Value.slice q lets.length c2).ownBlock=some j->N.nb≠j:=fun j e=>by
  obtain⟨cs,i⟩:=hv.let_.1.ty e;exact aT hv.blk i (by decide)
 have x:=aH (fun n=>aA (aA (aG (g:=N.nb) (a n)) (aB (w.drewN n) N.nb 15 (aS))) (aB _ N.nb 16 (aS)));obtain⟨F,G,b,H,I⟩:=gE (fun n=>aK.rw (aK.cv hv.rep.1 (fun j e=>(x n).block j ((hv.rep.1.lt j e).2) (fun e2=>f j e (by first|exact(jI e2).symm|exact jI e2))))) (fun n=>aK.rw (aK.cv hv.let_.1 (fun j e=>(x n).block j ((hv.let_.1.lt j e).2) (fun e2=>k j e (by first|exact(jI e2).symm|exact jI e2))))) hv h a;apply cI;go_in;go_wp2;go_quiet (fail);obtain⟨J,L,V⟩:=u nq (reps':=reps) (.inl rfl);obtain⟨M,_,_⟩:=u nq (reps':=[]) (.inr rfl);obtain⟨O,z,R⟩:=gC J ((St.J (p:=fun y=>y.1=N.i) (I nq) H.fin).trans (gz L)) M;cases dead
 ·go_wp2;go_ret2;exact⟨_,_,reps,lets,o,rfl,F nq,G nq,b.len,b.rok,b.lok,b.refs.rn,b.refs.rr,O,z⟩
 ·go_wp2;go_ret2;exact⟨_,_,[],[],o,rfl,(RI.nil o _).rw,(RI.nil o _).rw,by simp,by simp,by simp,by simp,by simp,R,z⟩
end
structure cF where
 F:Ow->World->Prop
 st:∀{p:Nat×Nat->Prop} {o o':Ow} {w w':World},F o w->St p o w o' w'->¬p (0,0)->F o' w'
def cF.no:cF:=⟨fun _ _=>True,fun _ _ _=>trivial⟩
def cF.box(b:Nat)(t:TypeId)(cs:Array Value):cF:=⟨fun o w=>o b=(0,0)/\am w b t cs,fun h hs h0=>⟨by rw[hs.old _ (ap h.2)];exact h.1,h.2.st hs (by rw[h.1];exact h0)⟩⟩
def cF.ri(El_:El α)(v:Value)(l:List α):cF:=⟨fun o w=>RI El_ o w v l,fun h hs h0=>h.st hs h0⟩
def cF.and(a b:cF):cF:=⟨fun o w=>a.F o w/\b.F o w,fun h hs h0=>⟨a.st h.1 hs h0,b.st h.2 hs h0⟩⟩
section
variable{S S':cF}{K:FuncId}{args:Array Value}
def At(E:bX)(Rf:Nat->Prop)(N:Nb)(S:cF)(T B:Nat)(hand:Option Nat)(rsv:List Int)(o0:Ow)(w0 w:World):Prop:=∃o,aE E Rf N T B hand rsv o w/\S.F o w/\St (fun y=>y.1=N.i) o0 w0 o w
theorem At.new(h:aE E Rf N T B hand rsv o w):At E Rf N .no T B hand rsv o w w:=⟨o,h,trivial,.refl h.fin⟩
theorem At.below(h:At E Rf N S T B hand rsv o0 w0 w)(a:Below w.heap.size w w'):At E Rf N S T B hand rsv o0 w0 w':=by
 obtain⟨o,b,c,f⟩:=h;exact⟨o,b.below a,S.st (p:=fun _=>False) c (.J a b.fin) _root_.id,f.below a⟩
theorem At.cells(h:At E Rf N S T B hand rsv o0 w0 w):CE N w:=by obtain⟨o,a,_⟩:=h;exact a.cells
theorem At.ah(h:At E Rf N S T B hand rsv o0 w0 w):Ex N w:=by obtain⟨o,a,_⟩:=h;exact a.ah
theorem At.facts(h:At E Rf N S T B hand rsv o0 w0 w):∃o,S.F o w:=by obtain⟨o,_,a,_⟩:=h;exact⟨o,a⟩
theorem At.more(h:At E Rf N S T B hand rsv o0 w0 w)(a:B<=B'):At E Rf N S T B' hand rsv o0 w0 w:=by obtain⟨o,b,c,f⟩:=h;exact⟨o,b.more (T':=0) a,c,f⟩
theorem At.add(h:At E Rf N S T B hand rsv o0 w0 w)(a:Below w.heap.size w w')(S':cF)(hf:∀o,(∀b,w.heap.size<=b->o b=(0,0))->S'.F o w'):At E Rf N (S.and S') T B hand rsv o0 w0 w':=by
 obtain⟨o,c,f,g⟩:=h;exact⟨o,c.below a,⟨S.st (p:=fun _=>False) f (.J a c.fin) _root_.id,hf o c.fin⟩,g.below a⟩
theorem At.ao(h:At E Rf N (S.and S') T B hand rsv o0 w0 w):At E Rf N S T B hand rsv o0 w0 w:=by obtain⟨o,a,b,c⟩:=h;exact⟨o,a,b.1,c⟩
theorem At.ns(h:At E Rf N S T B hand rsv o0 w0 w)(f:∀o,aE E Rf N T B hand rsv o w->S.F o w->Cs K args w (Ns E Rf N T' B' hand' rsv' o w v)):Cs K args w fun e w'=>Rt e v/\At E Rf N S T' B' hand' rsv' o0 w0 w':=by
 obtain⟨o,a,b,g⟩:=h;refine(f o a b).mono ?_;rintro e w' ⟨i,o',j,c⟩;exact⟨i,o',j,S.st b c (fun e=>a.i0 e.symm),g.trans c⟩
theorem At.nd(h:At E Rf N S T B hand rsv o0 w0 w)(a:∀o,aE E Rf N T B hand rsv o w->S.F o w->Cs K args w (Nd E Rf N T' B' hand' rsv' o w v)):Cs K args w fun e w'=>Rt e v/\At E Rf N S T' B' hand' rsv' o0 w0 w':=
 h.ns fun o h1 h2=>(a o h1 h2).mono fun _ _ h=>h.ns
theorem At.ba(h:At E Rf N S T B hand rsv o0 w0 w)(f:∀o,aE E Rf N T B hand rsv o w->S.F o w->Cs K args w (F4 E Rf N T' B' hand' rsv' o w)):Cs K args w fun e w'=>∃t,Rt e (.bool t)/\At E Rf N S T' B' hand' rsv' o0 w0 w':=by
 obtain⟨o,a,b,g⟩:=h;refine(f o a b).mono ?_;rintro e w' ⟨t,i,o',j,c⟩;exact⟨t,i,o',j,S.st b c.s (fun e=>a.i0 e.symm),g.trans c.s⟩
theorem At.one(h:At E Rf N S T B hand rsv o0 w0 w){R:Ending->World->Prop}(f:∀o,aE E Rf N T B hand rsv o w->S.F o w->Cs K args w fun e w'=>R e w'/\∃o',aE E Rf N T' B' hand' rsv' o' w'/\St (fun y=>y.1=N.i) o w o' w'):
  Cs K args w fun e w'=>R e w'/\At E Rf N S T' B' hand' rsv' o0 w0 w':=by
 obtain⟨o,a,b,g⟩:=h;refine(f o a b).mono ?_;rintro e w' ⟨i,o',j,c⟩;exact⟨i,o',j,S.st b c (fun e=>a.i0 e.symm),g.trans c⟩
theorem At.cp(h:At E Rf N S T B hand rsv o w w'):Ns E Rf N T B hand rsv o w v (.returned v) w':=by obtain⟨o',a,_,b⟩:=h;exact⟨rfl,o',a,b⟩
theorem se.le{n n':Nat}{M:Mg->Prop}{e}(h:se w n k M e w')(m:n<=n')(p:k<=a):se w n' a M e w':=by
 obtain⟨vl,vb,vc,l,lb,lc,b,c,f,g,i,q,s,j⟩:=h;exact⟨vl,vb,vc,l,lb,lc,b,c,f,g,i,by omega,by omega,j⟩
theorem At.tags(h:At E Rf N S T B hand rsv o0 w0 w):Cs 69 #[Pt N.st] w (b6 a7 w 100 iw):=by
 obtain⟨o,b,_⟩:=h;obtain⟨n,up,_,a⟩:=b.state;exact lh a
theorem At.view(h:At E Rf N S T B hand rsv o0 w0 w):Cs 66 #[Pt N.st] w (b6 aL w 64 cA):=by
 obtain⟨o,b,_⟩:=h;obtain⟨n,up,_,a⟩:=b.state;exact lj a
theorem At.holds(h:At E Rf N S T B hand rsv o0 w0 w):Cs 61 #[Pt N.st] w (b6 bF w 1000 fA):=by
 obtain⟨o,b,_⟩:=h;obtain⟨n,up,_,a⟩:=b.state;exact eS a
theorem At.bag(h:At E Rf N S T B hand rsv o0 w0 w)(p:Nat)(c:p < 16):Cs 54 #[Pt N.st,I6 (p:Nat)] w (se w 4194304 4194304 (fR E)):=by
 obtain⟨o,f,_⟩:=h;obtain⟨n,up,a,b⟩:=f.state;exact(eH b p c (by omega)).mono fun _ _ h=>h.le a a
theorem aE.rest0(h:aE E Rf N T B none rsv o w):aE E (CV Rf []) N T B none rsv o w:=h.a' (fun k hk=>⟨hk,fun r hr=>by cases hr⟩) (fun k hk=>h.cs.2 k hk.1)
theorem At.bz(h:At E Rf N S T 0 none [] o0 w0 w):lZ E Rf N T B o0 w0 (.returned (.tuple #[aS,aS])) w:=by
 obtain⟨o,a,_,b⟩:=h;exact⟨_,_,[],[],o,rfl,(RI.nil o w).rw,(RI.nil o w).rw,by simp,by simp,by simp,by simp,by simp,a.rest0,b⟩
theorem At.out(h:At E Rf N S T B none [] o0 w0 w):Cs 75 #[Pt N.nb] w (lZ E Rf N T B o0 w0):=by
 obtain⟨o,a,_,b⟩:=h;refine(tf a).mono ?_;rintro e w' ⟨v1,v2,reps,lets,o',a1,a2,a3,a4,a5,a6,a7,a8,a9,a10⟩;exact⟨v1,v2,reps,lets,o',a1,a2,a3,a4,a5,a6,a7,a8,a9,b.trans a10⟩
end
section
variable{S S':cF}
theorem fI{c:UInt8}(a:c≠73)(b:c≠82)(f:c≠66)(h:t.length<=999999):gJ E N.i (c::t):=by
 have g:ix (c::t)=0/\fh (c::t)=0:=en a b;exact⟨gw f,.inl g.1,by omega,by simp;omega⟩
theorem EB{c:UInt8}(h:c≠73/\c≠82/\c≠66)(a:t.length<=999999):∀q∈[]++[c::t],gJ E N.i q:=fun q hq=>by
 simp at hq;subst hq;exact fI h.1 h.2.1 h.2.2 a
theorem F9{u:List UInt8}(b:t.length<=999999)(a:u.length<=999999):∀q∈[]++[78::t]++[86::u],gJ E N.i q:=fun q hq=>by
 simp at hq
 rcases hq with rfl|rfl
 ·exact fI (by decide) (by decide) (by decide) b
 ·exact fI (by decide) (by decide) (by decide) a
theorem AI{vl vb vc vt vv}{ls}{b cl}{pl}(h:aE E Rf N T B hand rsv o w)(hx:AC w x vl vb vc vt vv ls b cl tl pl):
  Cs 87 #[Pt N.nb,s9 x vl vb vc vt vv] w (Ns E Rf N T B hand rsv o w (.tuple #[])):=by
 obtain⟨Z,c7,rfl,_⟩:=hx.t.slice;obtain⟨A8,c8,rfl,_⟩:=hx.v.slice;obtain⟨W0,HW,HB,x0⟩:=dW w #[I6 x.k,I6 x.fr,I6 x.sq,I6 x.pt,I6 x.fl,.string (aF x.mr),vl,vb,vc,.slice Z tl.length c7,.slice A8 pl.length c8,I6 x.dn,I6 x.dm,I6 x.rc,I6 x.lg] 153;obtain⟨V,n⟩:=gB ((At.new h).below HB) (hx.below HB);have y1:=V.out.cells.st;have a7:=rz x0;have a8:=iz x0;obtain⟨p,HT,HV⟩:=gC (fun W (hb:Bw W0 W)=>show Ce W N.nb 1 (Pt N.st)/\Ce W w.heap.size 9 (.slice Z tl.length c7)/\Ce W w.heap.size 10 (.slice A8 pl.length c8)from⟨aD hb y1,aD hb a7,aD hb a8⟩) (fun W (hb:Bw W0 W)=>(V.out.below hb).tags) (fun W (hb:Bw W0 W)=>(V.out.below hb).view);have j:Hid (Bw W0 W0.drew):=aH (bD _);apply cI;go_in;go_upto_region 2 with(fail);simp only[HW.out];have s:Hid (Bw W0 W0):=aH (bR _);go_region_held3 (fun w'=>Ce w' N.nb 1 (Pt N.st)/\Ce w' w.heap.size 9 (.slice Z tl.length c7)/\Ce w' w.heap.size 10 (.slice A8 pl.length c8))
  (first|exact p.out _ (s.out.trans (D.out.mono s.out.size))|exact p.out _ (s.out.trans (A.out.mono s.out.size))|exact p.out _ (s.out.trans (y.out.mono s.out.size))|exact p.out _ (s.out.trans (u.out.mono s.out.size))|exact p.out _ (s.out.trans (j.out.mono s.out.size)))
  (first
   |(go_at_call 69;(with_reducible refine(HT.out _ (s.out.trans (y.out.mono s.out.size))).mono ?_);rintro m w3 ⟨l3,⟨v3,rfl,o3,z⟩,he,hf⟩;have A:=aH (y.out.trans (z.mono y.out.size)))
   |(go_at_call 69;(with_reducible refine(HT.out _ (s.out.trans (j.out.mono s.out.size))).mono ?_);rintro m w1 ⟨l1,⟨v1,rfl,o1,F⟩,G,H⟩;have u:=aH (j.out.trans (F.mono j.out.size));have BX:=aH (s.out.trans (u.out.mono s.out.size)))
   |(go_at_call 175;(with_reducible refine(pv w1 o1.rw (n.out.t.below BX.out) G n.out.tn H n.out.tb).mono ?_);rintro m w2 ⟨l2,⟨v2,rfl,o2,I⟩,hg,hh⟩;have y:=aH (u.out.trans (I.mono u.out.size)))
   |(go_at_call 174;(with_reducible refine(qd w3 (o2.rw.below z) o3.rw (by omega) (by omega)).mono ?_);rintro m w4 ⟨J,L⟩;obtain⟨t4,rfl⟩:∃t,m=.returned (.bool t):=⟨_,J⟩;have D:=aH (A.out.trans (L.mono A.out.size))))
 all_goals
  have a:=aH D.out;cases t4
 ·have hm:=aH (j0 w4 (n.out.t.below a.out) (by have:=n.out.tn;omega) n.out.tb);have k7:=(p.out _ a.out).2.1;go_wp2_with fail;refine hm.out.mono ?_;rintro m w5 ⟨t5,rfl,M,C⟩;obtain⟨O,hj⟩:=gB (a.out.trans (C.mono a.out.size)) M;have q:W0.heap.size<=w5.heap.size:=O.out.size;go_wp2_with (at_builtin;refine b5 bM rfl (.tmp 20) (.tmp 24) rfl (aK.nil (E:=bM) W0.heap.size w5) q (78::t5) rfl rfl (by first|decide|(show(1+1)*16<=140737488355328;decide)) (by first|decide|(show 1 < 1000000000000000000;decide)) ?_;intro v6 w6 c g;obtain⟨g6,ha,hl,S,_⟩:=aK.af (E:=bM) c (by simp);subst S;have R:=aH (zB c g);clear c g);obtain⟨X,i⟩:=gB R.out.1 (O.out.grown R.out.2 q (fun k hk=>by cases hk));have j:Hid (Bw w6 w6.drew):=aH (bD _);go_region_held3 (fun w'=>Ce w' N.nb 1 (Pt N.st)/\Ce w' w.heap.size 9 (.slice Z tl.length c7)/\Ce w' w.heap.size 10 (.slice A8 pl.length c8))
   (first|exact p.out _ (i.out.trans (D.out.mono i.out.size))|exact p.out _ (i.out.trans (A.out.mono i.out.size))|exact p.out _ (i.out.trans (y.out.mono i.out.size))|exact p.out _ (i.out.trans (u.out.mono i.out.size))|exact p.out _ (i.out.trans (j.out.mono i.out.size)))
   (first
    |(go_at_call 66;(with_reducible refine(HV.out _ (i.out.trans (y.out.mono i.out.size))).mono ?_);rintro m w3 ⟨l3,⟨v3,rfl,o3,z⟩,he,hf⟩;have A:=aH (y.out.trans (z.mono y.out.size)))
    |(go_at_call 66;(with_reducible refine(HV.out _ (i.out.trans (j.out.mono i.out.size))).mono ?_);rintro m w1 ⟨l1,⟨v1,rfl,o1,F⟩,G,H⟩;have u:=aH (j.out.trans (F.mono j.out.size));have BX:=aH (i.out.trans (u.out.mono i.out.size)))
    |(go_at_call 103;(with_reducible refine(lp w1 o1.rw (n.out.v.below BX.out) (zD G (by decide)) (zD n.out.vn (by decide)) H n.out.vb).mono ?_);rintro m w2 ⟨l2,⟨v2,rfl,o2,I⟩,hg,hh⟩;have y:=aH (u.out.trans (I.mono u.out.size)))
    |(go_at_call 67;(with_reducible refine(fY w3 (o2.rw.below z) o3.rw (by omega) (by omega)).mono ?_);rintro m w4 ⟨J,L⟩;obtain⟨t4,rfl⟩:∃t,m=.returned (.bool t):=⟨_,J⟩;have D:=aH (A.out.trans (L.mono A.out.size))))
  all_goals
   obtain⟨a,OO⟩:=gB (i.out.trans (D.out.mono i.out.size)) (aI X.out D.out);cases t4
  ·have hc:=aH (oj w4 (n.out.v.below a.out) (by have:=n.out.vn;omega) n.out.vb);have k8:=(p.out _ a.out).2.2;go_wp2_with fail;refine hc.out.mono ?_;rintro m w5 ⟨t5,rfl,M,C⟩;obtain⟨O,O5,hd⟩:=gC (a.out.trans (C.mono a.out.size)) (aI OO.out C) M;have q:W0.heap.size<=w5.heap.size:=O.out.size;go_wp2_with (at_builtin;refine b5 bM rfl (.tmp 41) (.tmp 45) rfl (O5.out) q (86::t5) rfl rfl (by first|decide|(show(1+1)*16<=140737488355328;decide)) (by first|decide|(show 1 < 1000000000000000000;decide)) ?_;intro v6 w6 c g;obtain⟨g6,ha,hl,S,_⟩:=aK.af (E:=bM) c (by simp);subst S;have R:=aH (zB c g);clear c g);obtain⟨X,i⟩:=gB R.out.1 (O.out.grown R.out.2 q (fun k hk=>(O5.out.lt k hk).1));have HA:=aH (V.out.add i.out (.ri bM _ _) (fun o ho=>RI.aa X.out ho));have U:=aH (HA.out.ba (fun o h f=>dU h f.2 (by simp) (by exact F9 hj.out hd.out)));go_wp2_with fail;refine U.out.mono ?_;rintro m w9 ⟨t9,rfl,h9⟩;have Y:=aH h9;go_wp2_with fail;go_end0;exact Y.out.cp
  ·have HA:=aH (V.out.add a.out (.ri bM _ _) (fun o ho=>RI.aa OO.out ho));have U:=aH (HA.out.ba (fun o h f=>dU h f.2 (by simp) (EB (by decide) hj.out)));go_wp2_with fail;refine U.out.mono ?_;rintro m w9 ⟨t9,rfl,h9⟩;have Y:=aH h9;go_wp2_with fail;go_end0;exact Y.out.cp
 ·go_wp2_with fail;have X:Hid (aK bM W0.heap.size w4 (aS) []):=aH (aK.nil (E:=bM) _ _);have j:Hid (Bw w4 w4.drew):=aH (bD _);go_region_held3 (fun w'=>Ce w' N.nb 1 (Pt N.st)/\Ce w' w.heap.size 9 (.slice Z tl.length c7)/\Ce w' w.heap.size 10 (.slice A8 pl.length c8))
   (first|exact p.out _ (a.out.trans (D.out.mono a.out.size))|exact p.out _ (a.out.trans (A.out.mono a.out.size))|exact p.out _ (a.out.trans (y.out.mono a.out.size))|exact p.out _ (a.out.trans (u.out.mono a.out.size))|exact p.out _ (a.out.trans (j.out.mono a.out.size)))
   (first
    |(go_at_call 66;(with_reducible refine(HV.out _ (a.out.trans (y.out.mono a.out.size))).mono ?_);rintro m w3 ⟨l3,⟨v3,rfl,o3,z⟩,he,hf⟩;have A:=aH (y.out.trans (z.mono y.out.size)))
    |(go_at_call 66;(with_reducible refine(HV.out _ (a.out.trans (j.out.mono a.out.size))).mono ?_);rintro m w1 ⟨l1,⟨v1,rfl,o1,F⟩,G,H⟩;have u:=aH (j.out.trans (F.mono j.out.size));have BX:=aH (a.out.trans (u.out.mono a.out.size)))
    |(go_at_call 103;(with_reducible refine(lp w1 o1.rw (n.out.v.below BX.out) (zD G (by decide)) (zD n.out.vn (by decide)) H n.out.vb).mono ?_);rintro m w2 ⟨l2,⟨v2,rfl,o2,I⟩,hg,hh⟩;have y:=aH (u.out.trans (I.mono u.out.size)))
    |(go_at_call 67;(with_reducible refine(fY w3 (o2.rw.below z) o3.rw (by omega) (by omega)).mono ?_);rintro m w4 ⟨J,L⟩;obtain⟨t4,rfl⟩:∃t,m=.returned (.bool t):=⟨_,J⟩;have D:=aH (A.out.trans (L.mono A.out.size))))
  all_goals
   obtain⟨a,OO⟩:=gB (a.out.trans (D.out.mono a.out.size)) (aI X.out D.out);cases t4
  ·have hc:=aH (oj w4 (n.out.v.below a.out) (by have:=n.out.vn;omega) n.out.vb);have k8:=(p.out _ a.out).2.2;go_wp2_with fail;refine hc.out.mono ?_;rintro m w5 ⟨t5,rfl,M,C⟩;obtain⟨O,O5,hd⟩:=gC (a.out.trans (C.mono a.out.size)) (aI OO.out C) M;have q:W0.heap.size<=w5.heap.size:=O.out.size;go_wp2_with (at_builtin;refine b5 bM rfl (.tmp 41) (.tmp 45) rfl (O5.out) q (86::t5) rfl rfl (by first|decide|(show(1+1)*16<=140737488355328;decide)) (by first|decide|(show 1 < 1000000000000000000;decide)) ?_;intro v6 w6 c g;obtain⟨g6,ha,hl,S,_⟩:=aK.af (E:=bM) c (by simp);subst S;have R:=aH (zB c g);clear c g);obtain⟨X,i⟩:=gB R.out.1 (O.out.grown R.out.2 q (fun k hk=>(O5.out.lt k hk).1));have HA:=aH (V.out.add i.out (.ri bM _ _) (fun o ho=>RI.aa X.out ho));have U:=aH (HA.out.ba (fun o h f=>dU h f.2 (by simp) (by exact EB (by decide) hd.out)));go_wp2_with fail;refine U.out.mono ?_;rintro m w9 ⟨t9,rfl,h9⟩;have Y:=aH h9;go_wp2_with fail;go_end0;exact Y.out.cp
  ·have Y:=aH (V.out.below a.out);go_wp2_with fail;go_end0;exact Y.out.cp
end
theorem v8 w:Cs 109 #[aS] w fun e w'=>Rt e (aS)/\w=w':=by
 have a:=fun W=>yA (P:=prog) W 127 44 none 0 0 0 0 underlying127;apply cI;go_in;go_wp2;go_ret;exact⟨rfl,rfl⟩
theorem Ga(w:World)(m:Mg):aR (w.alloc (.cells #[I6 m.d.nd,I6 m.d.n,.string (aF m.q),.string (aF m.b),I6 m.c] 44)).drew w.heap.size 44 (aU.f m):=am.new w 44 #[I6 m.d.nd,I6 m.d.n,.string (aF m.q),.string (aF m.b),I6 m.c]
theorem Fg(w:World)(m:Mg)(o:Obj):aR ((w.alloc (.cells #[I6 m.d.nd,I6 m.d.n,.string (aF m.q),.string (aF m.b),I6 m.c] 44)).alloc o).drew w.heap.size 44 (aU.f m):=am.alloc (am.new w 44 #[I6 m.d.nd,I6 m.d.n,.string (aF m.q),.string (aF m.b),I6 m.c]) o
theorem GL(w:World)(m:Mg)(o:Obj):am ((w.alloc o).alloc (.cells #[I6 m.d.nd,I6 m.d.n] 42)).drew (w.heap.size+1) 42 #[I6 m.d.nd,I6 m.d.n]:=am.dr (w.alloc o) 42 _ (by simp)
theorem Fh(w:World)(m:Mg)(o:Obj):aR ((w.alloc o).alloc (.cells #[I6 m.d.nd,I6 m.d.n,.string (aF m.q),.string (aF m.b),I6 m.c] 44)).drew (w.heap.size+1) 44 (aU.f m):=am.dr (w.alloc o) 44 #[I6 m.d.nd,I6 m.d.n,.string (aF m.q),.string (aF m.b),I6 m.c] (by simp)
theorem GM(w:World)(m:Mg)(o:Obj):am ((w.alloc (.cells #[I6 m.d.nd,I6 m.d.n] 42)).alloc o).drew w.heap.size 42 #[I6 m.d.nd,I6 m.d.n]:=am.alloc (am.new w 42 #[I6 m.d.nd,I6 m.d.n]) o
def DY(base:Nat)(m:Mg)(W:World)(e:Ending)(w':World):Prop:=∃v,Rt e v/\aK aU base w' v [m]/\W.grownBy w' none
theorem Fi(base k:Nat) m(W:World)(h:aR W k 44 (aU.f m))(hb:base<=W.heap.size):
  Cs 346 #[aS,I6 0,.slice (some ⟨k,0,none⟩) 1 1] W (DY base m W):=by
 refine Calls.mono (Ms.va base 0 0 (aS) [] (aU.f m) k W (aK.nil (E:=aU) _ _) h rfl hb (fun k e=>by cases e) (by simp) (aU.one m) nR (by omega)) ?_;rintro f g ⟨v7,rfl,a,b⟩;refine⟨v7,rfl,?_,b⟩;have c:=a;simp only[yG,List.take_nil,List.drop_nil,qY,qU,zR]at c;unfold aK;rw[El.aw];exact c
theorem Fj(w:World)(m:Mg):Cs 346 #[aS,I6 0,.slice (some ⟨w.heap.size,0,none⟩) 1 1] ((w.alloc (.cells #[I6 m.d.nd,I6 m.d.n,.string (aF m.q),.string (aF m.b),I6 m.c] 44)).drew) (DY w.heap.size m ((w.alloc (.cells #[I6 m.d.nd,I6 m.d.n,.string (aF m.q),.string (aF m.b),I6 m.c] 44)).drew)):=Fi _ _ m _ (Ga w m) (by simp)
theorem Fk(w:World)(m:Mg)(o:Obj):Cs 346 #[aS,I6 0,.slice (some ⟨w.heap.size,0,none⟩) 1 1] (((w.alloc (.cells #[I6 m.d.nd,I6 m.d.n,.string (aF m.q),.string (aF m.b),I6 m.c] 44)).alloc o).drew) (DY w.heap.size m (((w.alloc (.cells #[I6 m.d.nd,I6 m.d.n,.string (aF m.q),.string (aF m.b),I6 m.c] 44)).alloc o).drew)):=Fi _ _ m _ (Fg w m o) (by simp;try omega)
theorem Fl(w:World)(m:Mg)(o:Obj):Cs 346 #[aS,I6 0,.slice (some ⟨w.heap.size+1,0,none⟩) 1 1] (((w.alloc o).alloc (.cells #[I6 m.d.nd,I6 m.d.n,.string (aF m.q),.string (aF m.b),I6 m.c] 44)).drew) (DY w.heap.size m (((w.alloc o).alloc (.cells #[I6 m.d.nd,I6 m.d.n,.string (aF m.q),.string (aF m.b),I6 m.c] 44)).drew)):=Fi _ _ m _ (Fh w m o) (by simp;try omega)
abbrev Ha(m:Mg):Value:=.agg #[I6 m.d.nd,I6 m.d.n,.string (aF m.q),.string (aF m.b),I6 m.c]
theorem th m w:Cs 263 #[.agg #[aS,aS,aS],Ha m] w (E4 w 1 1 (fun x=>x=m)):=by
 obtain⟨W0,HW,HB,x1,x2,x3⟩:=Ej w #[aS,aS,aS] #[I6 m.d.nd,I6 m.d.n,.string (aF m.q),.string (aF m.b),I6 m.c] #[aS,aS,aS] 131 44 131;have he:W0.heap.size=w.heap.size+1+1+1:=by rw[<-HW];simp
 obtain⟨a0,a1,a2⟩:=am.three x1;obtain⟨b0,b1,b2,b3,b4⟩:=am.ab x2;have HM:=aH (rK m W0);obtain⟨t,J⟩:=nx (Dt m);rw[J]at HM;have X:=aH (zB x1 (zB x2 x3));apply cI;go_in;go_upto_region 1 with(fail);simp only[HW.out];go_wp2_with fail;refine HM.out.mono ?_;rintro L w1 ⟨rfl,D⟩;obtain⟨B1,z⟩:=gB (HB.trans (D.mono HB.size)) (zB (X.out.1.below D) (zB (X.out.2.1.below D) (X.out.2.2.below D)));cases t
 ·obtain⟨c0,c1,c2⟩:=am.three z.out.2.2;have cf:=fun j=>am.frozen z.out.2.2 j;have z1:=am.ai z.out.2.2 (aS) (aS) (aS);obtain⟨g,h,s⟩:=am.three z1;have HZ:=aH (zB g (zB h s));go_wp2_with fail;obtain⟨g,h,s⟩:=HZ.out;try simp only[Exit.inBlock,Exit.then]
  refine bodyPost_ret (v:=.tuple #[.agg #[aS,aS,aS],I6 1]) (by simp[results,results263,go_sem,g,h,s]) rfl ?_;exact⟨1,_,rfl,_,_,_,[],[],[],rfl,aK.nil _ _,aK.nil _ _,aK.nil _ _,(fun k e=>by cases e),by simp,by simp,by simp,by simp,by simp,ir (ir (ir B1.out (by omega)) (by omega)) (by omega)⟩
 obtain⟨a0,a1,a2⟩:=am.three z.out.1;obtain⟨b0,b1,b2,b3,b4⟩:=am.ab z.out.2.1;have HH:=aH (iI w1 (aS) (aS) [] [] m.d (RI.nil (fun _=>(0,0)) _).rw (RI.nil (fun _=>(0,0)) _).rw (by simp) (by simp));obtain⟨t,J⟩:=nx (my [] [] m.d);rw[J]at HH;go_wp2_with fail;refine HH.out.mono ?_;rintro L w2 ⟨rfl,F⟩;obtain⟨B2,A⟩:=gB (B1.out.trans (F.mono B1.out.size)) (zB (z.out.1.below F) (zB (z.out.2.1.below F) (z.out.2.2.below F)));cases t
 case true=>
  obtain⟨c0,c1,c2⟩:=am.three A.out.2.2;have cf:=fun j=>am.frozen A.out.2.2 j;have z1:=am.ai A.out.2.2 (aS) (aS) (aS);obtain⟨g,h,s⟩:=am.three z1;have HZ:=aH (zB g (zB h s));go_wp2_with fail;obtain⟨g,h,s⟩:=HZ.out;try simp only[Exit.inBlock,Exit.then]
  refine bodyPost_ret (v:=.tuple #[.agg #[aS,aS,aS],I6 13]) (by simp[results,results263,go_sem,g,h,s]) rfl ?_;exact⟨13,_,rfl,_,_,_,[],[],[],rfl,aK.nil _ _,aK.nil _ _,aK.nil _ _,(fun k e=>by cases e),by simp,by simp,by simp,by simp,by simp,ir (ir (ir B2.out (by omega)) (by omega)) (by omega)⟩
 obtain⟨a0,a1,a2⟩:=am.three A.out.1;obtain⟨b0,b1,b2,b3,b4⟩:=am.ab A.out.2.1;have Y:=aH (pg none 0 [] m.d w2 (RI.nil (fun _=>(0,0)) _).rw (by simp));obtain⟨p,hp⟩:=nx (gr [] m.d);obtain⟨t,J⟩:=nx (tz [] m.d);have hf:p<=0:=by rw[<-hp];exact xB _ []
 obtain rfl:p=0:=by omega
 rw[hp,J]at Y;go_wp2_with fail;refine Y.out.mono ?_;rintro L w3 ⟨rfl,G⟩;obtain⟨B3,I⟩:=gB (B2.out.trans (G.mono B2.out.size)) (zB (A.out.1.below G) (zB (A.out.2.1.below G) (A.out.2.2.below G)));have hg:w.heap.size+1+1 < w3.heap.size:=ap I.out.2.2;obtain⟨y,HC⟩:=gB (fun W (hb:Bw w3 W)=>show(Ce W w.heap.size 0 (aS)/\Ce W w.heap.size 1 (aS)/\Ce W w.heap.size 2 (aS))/\Ce W (w.heap.size+1) 0 (I6 m.d.nd)/\Ce W (w.heap.size+1) 1 (I6 m.d.n)/\Ce W (w.heap.size+1) 2 (.string (aF m.q))/\Ce W (w.heap.size+1) 3 (.string (aF m.b))/\Ce W (w.heap.size+1) 4 (I6 m.c)from⟨am.three (I.out.1.below hb),am.ab (I.out.2.1.below hb)⟩) (fun W=>v8 W);go_wp2_with fail;go_region_held3 (fun w'=>(Ce w' w.heap.size 0 (aS)/\Ce w' w.heap.size 1 (aS)/\Ce w' w.heap.size 2 (aS))/\Ce w' (w.heap.size+1) 0 (I6 m.d.nd)/\Ce w' (w.heap.size+1) 1 (I6 m.d.n)/\Ce w' (w.heap.size+1) 2 (.string (aF m.q))/\Ce w' (w.heap.size+1) 3 (.string (aF m.b))/\Ce w' (w.heap.size+1) 4 (I6 m.c))
  (with_reducible first|exact K9.out|exact y.out _ hd.out|exact y.out _ f|exact y.out _ (bR _)|exact y.out _ (bD _)|exact y.out _ (f.alloc f.size _)|exact y.out _ (ba _ _)|exact y.out _ (ba _ _).drew|exact y.out _ (eJ (eJ (bQ w3))).drew|exact y.out _ (eJ (bP w3)))
  (first
   |(go_at_call 109;(with_reducible refine(HC.out _).mono ?_);rintro L _w ⟨rfl,rfl⟩)
   |(go_at_call 346
     with_reducible first
      |refine(Fj w3 m).mono ?_
      |refine(Fk w3 m _).mono ?_
      |refine(Fl w3 m _).mono ?_
     rintro L w7 ⟨v7,rfl,N,H⟩;have f:Bw w3 w7:=Below.grown (by with_reducible repeat(first|exact bR _|refine eJ ?_|refine jY ?_)) H (by simp;try omega) (fun k e=>by cases e);try with_reducible first|have O:=am.grown (GL w3 m _) H (by simp[Value.ownBlock])|have O:=am.grown (GM w3 m _) H (by simp[Value.ownBlock]))
   |(go_at_call 347
     refine Calls.mono (sd (b:=[]) (c:=[]) (l:=[m.d]) _ (RI.nil (fun _=>(0,0)) _).rw (RI.nil (fun _=>(0,0)) _).rw (aR.bl (E:=aJ) (q:=[m.d]) (sp:=[]) (by
      first
       |exact O
       |exact am.new w7 42 #[I6 m.d.nd,I6 m.d.n]) nR) (by simp) (by simp) (by simp)) ?_
     rintro L w9 ⟨vb,vc,lb,lc,rfl,R,S,ha,Z,o1,o2,T⟩;have C:Bw w7 w9:=by
      with_reducible first
       |exact T
       |exact(eJ (bQ w7)).trans (T.mono (by simp))
     have hc:w3.heap.size<=w7.heap.size:=f.size;have a:Bw w3 w9:=f.trans (C.mono f.size);have B:aK aU w3.heap.size w9 v7 [m]:=aK.cv N (fun j hj=>C.block j (N.lt j hj).2);obtain⟨U,V,rfl,_⟩:=B.rw.slice;obtain⟨A8,c8,rfl,_⟩:=R.rw.slice;obtain⟨A9,c9,rfl,_⟩:=S.rw.slice;have B:aK aU w3.heap.size w9 (.slice U 1 V) [m]:=B;have hh:w3.heap.size<=w9.heap.size:=a.size;obtain⟨HX,K9⟩:=gB (I.out.2.2.below a) (zB (am.three ((((I.out.1.below a).ad (k:=w.heap.size+1+1) (i:=0) (u:=.slice U 1 V) (by omega)).ad (k:=w.heap.size+1+1) (i:=1) (u:=.slice A8 lb.length c8) (by omega)).ad (k:=w.heap.size+1+1) (i:=2) (u:=.slice A9 lc.length c9) (by omega))) (am.ab ((((I.out.2.1.below a).ad (k:=w.heap.size+1+1) (i:=0) (u:=.slice U 1 V) (by omega)).ad (k:=w.heap.size+1+1) (i:=1) (u:=.slice A8 lb.length c8) (by omega)).ad (k:=w.heap.size+1+1) (i:=2) (u:=.slice A9 lc.length c9) (by omega))));have HE:=aH (iP (w:=w) (n:=1) (k:=1) (M:=fun x=>x=m) HX.out (by omega) (B3.out.trans (a.mono (by omega))) (by omega) (by first|omega|(simp;omega)) B R S ha (by simp) (by simpa using Z) (by simp) o1 o2);obtain⟨c0,c1,c2⟩:=am.three HX.out;have cf:=fun j=>am.frozen HX.out j;have hd:=aH a;try clear O
     clear Z R S B T C a N H hc))
 all_goals
  go_wp2_with fail;obtain⟨g,h,s⟩:=am.three HE.out.1;try simp only[Exit.inBlock,Exit.then]
  refine bodyPost_ret (v:=.tuple #[.agg #[.slice U 1 V,.slice A8 lb.length c8,.slice A9 lc.length c9],I6 0]) (by simp[results,results263,go_sem,g,h,s]) rfl ?_;exact⟨_,_,rfl,HE.out.2⟩
theorem Fm{a b}(h:lW a b=true):a=b:=by
 obtain⟨a1,a2⟩:=a;obtain⟨c,f⟩:=b;unfold lW at h;simp at h;simp[h]
theorem x7{l}{d}(h:tz l d=true):k4 l d∈l/\(k4 l d).d=d:=by
 have a:=h;unfold tz at a;unfold k4;rw[if_pos h];cases hl:l[gr l d]? with
 |none=>rw[hl]at a;cases a
 |some t=>
  rw[hl]at a;exact⟨by simpa using qC hl,by simpa using Fm a⟩
theorem Fo{m:Mg}{ref:Nat}(p:Eu E ref d rc)(q:fR E m)(hd:m.d=d)(B:m.c < 5)(hi:∃cl,E.cs[ref]?=some cl/\cl.nd=N.i):fE E N.i ⟨(ref:Nat),0,0,{m with c:=m.c+1},rc⟩:=by
 obtain⟨_,k,s,t,a,u,b,f,C,x⟩:=p;obtain⟨_,_,_,A,_,D,F,g,i,j,y⟩:=q;obtain⟨cl,n,z⟩:=hi;rw[f]at n;obtain rfl:=jI n;rw[hd,a]at g;obtain rfl:=jI g;rw[b]at i;obtain rfl:=jI i;exact⟨⟨ref,t,rfl,f,z,fun _=>⟨fun h=>by omega,fun _=>⟨by show 1<=m.c+1;omega,by show m.c+1<=5;omega,by rw[<-x,j],k,s,by rw[<-a];show E.K m.d=_;rw[hd],u,b,j,y⟩⟩⟩⟩
theorem CW(hJ:Int)(h:aE E Rf N T B none rsv o w)(hB:B<=900000000)(hq:eT E Rf N.i o w g)(hw:eX N seq g.blk w)(R:g.cl=some (c,d,rc)):
  Cs 172 #[Pt N.nb,I6 seq,Pt g.blk,I6 hJ] w (Nd E Rf N T (B+1000) none rsv o w (.tuple #[])):=by
 obtain⟨r,h7,a,xe,xg⟩:=hq.cells;obtain⟨hc,hK⟩:=hq.cla _ _ _ R;have y1:=h.cells.st;have q1:=dt a;have q2:=ed a;have q4:Ce w g.blk 4 (Pt c):=by
  have:Ce w g.blk 4 (dS (g.cl.map (·.1))):=am.cell a 4;rw[R]at this;exact this
 have KS:=aH (fun W (a:Bw w W)=>show Ce W N.nb 1 (Pt N.st)/\Ce W g.blk 2 (I6 (g.part:Nat))/\Ce W g.blk 4 (Pt c)from⟨aD a y1,aD a q2,aD a q4⟩);obtain⟨n0,xP,xQ,hL⟩:=h.state;have hp:=hq.part;obtain⟨HC,HD,H,HQ,hM,xh,xi,hN⟩:=gH (fun W (a:Bw w W)=>eH (hL.below a h.fin) g.part hp (by omega)) (fun W (a:Bw w W)=>iQ (hc.below a)) h hq hw a hK hc;clear h hq hw a xe xg hc hK hL;apply cI;go_in;go_wp2_with fail;go_region_held3 (fun w'=>Ce w' N.nb 1 (Pt N.st)/\Ce w' g.blk 2 (I6 (g.part:Nat))/\Ce w' g.blk 4 (Pt c))
  (exact KS _ (by with_reducible repeat(first|exact bR _|exact F|exact s|exact y|refine eJ ?_|refine ir ?_ p|refine jY ?_)))
  (first
   |(go_at_call 54;(with_reducible refine(HC.out _ (by repeat(first|exact bR _|refine eJ ?_|refine jY ?_))).mono ?_);rintro C w1 ⟨xR,xS,xT,V,xj,xk,rfl,o1,o2,o3,_,xU,xN,hO,xl,xm,he⟩
     have y:Bw w w1:=(by(first|exact(eJ ((bP w))).trans (he.mono (by simp))|exact((bP w)).trans (he.mono (by simp))))
     (try(have xA:am w1 w.heap.size 44 #[I6 0,I6 0,Se,Se,I6 0]:=am.below (am.new w.drew 44 #[I6 0,I6 0,Se,Se,I6 0]) he)))
   |(go_at_call 261;(with_reducible refine(HD.out _ (by with_reducible repeat(first|exact y|refine eJ ?_))).mono ?_);rintro C w2 ⟨rfl,D⟩
     have s:Bw w w2:=(by(first|exact y.trans (D.mono y.size)|exact(eJ y).trans (D.mono (eJ y).size)));have X:Bw w1 w2:=(by(first|exact D|exact(eJ (bQ w1)).trans (D.mono (by simp))))
     (try first|have xn:=xA.below D|(have xB:am w2 w1.heap.size 44 #[I6 0,I6 0,Se,Se,I6 0]:=am.below (am.new w1 44 #[I6 0,I6 0,Se,Se,I6 0]) D;have xo:w.heap.size<=w1.heap.size:=y.size))
     obtain⟨A1,k1,rfl,_⟩:=o1.rw.slice;obtain⟨A2,k2,rfl,_⟩:=o2.rw.slice;obtain⟨A3,k3,rfl,_⟩:=o3.rw.slice)
   |(go_at_call 166
     have HG:=aH (fun W hr=>mI (.slice A1 V.length k1) (.slice A2 xj.length k2) (.slice A3 xk.length k3) V d W hr rfl rfl (by omega));have hl:tz V d=true->fR E (k4 V d)/\(k4 V d).d=d:=fun h=>⟨hO _ (x7 h).1,(x7 h).2⟩;obtain⟨m,hm⟩:=nx (k4 V d);obtain⟨is,hP⟩:=nx (tz V d);rw[hm,hP]at HG hl;clear hm hP;refine Calls.mono (HG _ (by with_reducible first|exact o1.rw.below X|exact(o1.rw.below X).below (eJ (bQ w2)))) ?_;rintro C w3 ⟨rfl,L⟩;have F:Bw w w3:=(by(first|exact s.trans (L.mono s.size)|exact(eJ s).trans (L.mono (eJ s).size)))
     (try first
      |(have M:=xn.below L;obtain⟨bb,hn⟩:=nx w.heap.size;rw[hn]at M ⊢;have p:w.heap.size<=bb:=Nat.le_of_eq hn;clear hn)
      |(have M:=xB.below L;have p:=xo;generalize w1.heap.size=bb at M p ⊢)
      |(have M:am w3 w2.heap.size 44 #[I6 0,I6 0,Se,Se,I6 0]:=am.below (am.new w2 44 #[I6 0,I6 0,Se,Se,I6 0]) L;have p:w.heap.size<=w2.heap.size:=s.size;generalize w2.heap.size=bb at M p ⊢))
     (try(obtain⟨z0,z1,z2,z3,z4⟩:=am.ab M;have zf:=fun j=>am.frozen M j))))
 all_goals
  first
   |(have Y:=am.ay M (I6 m.d.nd) (I6 m.d.n) (.string (aF m.q)) (.string (aF m.b)) (I6 m.c)
     have J:=cU F p (I6 m.d.nd) (I6 m.d.n) (.string (aF m.q)) (.string (aF m.b)) (I6 m.c);clear z0 z1 z2 z3 z4 zf M;generalize(((((w3.setCell ⟨bb,0,none⟩ (I6 m.d.nd)).setCell ⟨bb,1,none⟩ (I6 m.d.n)).setCell ⟨bb,2,none⟩ (.string (aF m.q))).setCell ⟨bb,3,none⟩ (.string (aF m.b))).setCell ⟨bb,4,none⟩ (I6 m.c))=W4 at Y J ⊢)
   |(have Y:=am.new w3 44 #[I6 m.d.nd,I6 m.d.n,.string (aF m.q),.string (aF m.b),I6 m.c]
     have J:=eJ (o:=.cells #[I6 m.d.nd,I6 m.d.n,.string (aF m.q),.string (aF m.b),I6 m.c] 44) F;have p:=F.size;generalize(w3.alloc (.cells #[I6 m.d.nd,I6 m.d.n,.string (aF m.q),.string (aF m.b),I6 m.c] 44))=W4 at Y J ⊢;generalize w3.heap.size=bb at Y p ⊢)
  obtain⟨B4,N4,xp,H4,Q4,xq,S4⟩:=gG J Y hl (H.below J) (HQ.below H.fin J) (hM.below J) (Sk.J (N:=N) J H.fin);have ho:Hid (∀b,w.heap.size<=b->o b=(0,0)):=aH H.fin;have f4:=eV Y;have f6:=H4.cells.most;have fq:Ce W4 g.blk 4 (Pt c):=aD J q4;clear he D L y s F X o1 o2 o3 hO xl xm hl Y J q1 q2 q4 y1 HG;have HL:=aH (fun W (a:Bw W4 W)=>lu 16 (by decide) (H4.below a) hB (Q4.below H4.fin a) (xq.below a) R);have S:=fun n=>show Bw W4 (W4.drewN n)from⟨rfl,rfl,rfl,nR,fun _ _=>rfl⟩;cases is
  ·have g4:=fun n=>show Ce (W4.drewN n) bb 4 (I6 m.c)from f4;go_upto_region 1 with(fail);go_quiet (fail);go_wp2_with fail;refine(HL _ (S _)).mono ?_;rintro C w9 ⟨rfl,O,t,f⟩;obtain⟨Z,S9⟩:=gB t (S4.trans ((Sk.J (N:=N) (S _) H4.fin).trans f));clear t f;go_wp2_with fail;go_end0;exact⟨rfl,O,Z,S9⟩
  by_cases h5:m.c < 5
  case neg=>
   have d5:decide ((5:Int)<=m.c)=true:=by simpa using h5
   have g4:=fun n=>show Ce (W4.drewN n) bb 4 (I6 m.c)from f4;have g6:=fun n=>show Ce (W4.drewN n) N.nb 7 (I6 5)from f6;go_upto_region 1 with(fail);go_quiet (fail);go_wp2_with fail;refine(HL _ (S _)).mono ?_;rintro C w9 ⟨rfl,O,t,f⟩;obtain⟨Z,S9⟩:=gB t (S4.trans ((Sk.J (N:=N) (S _) H4.fin).trans f));clear t f;go_wp2_with fail;go_end0;exact⟨rfl,O,Z,S9⟩
  have d5:decide ((5:Int)<=m.c)=false:=by simpa using h5
  have hD:Bw W4 W4.drew:=bD _;obtain⟨hV,MO⟩:=gB (jy hJ ((hN.below B4).below hD)) (xp rfl);have g4:Ce W4.drew bb 4 (I6 m.c):=f4;have g6:Ce W4.drew N.nb 7 (I6 5):=f6;have gq:Ce W4.drew g.blk 4 (Pt c):=fq;obtain⟨KV,hQ⟩:=gB (fun W (a:Below W4.drew.heap.size W4.drew W)=>show Ce W bb 4 (I6 m.c)/\Ce W N.nb 7 (I6 5)/\Ce W g.blk 4 (Pt c)from⟨aD a g4,aD a g6,aD a gq⟩) hD;clear S f4 f6 fq hD;go_upto_region 1 with(fail);go_region_held3 (fun W=>Ce W bb 4 (I6 m.c)/\Ce W N.nb 7 (I6 5)/\Ce W g.blk 4 (Pt c))
   (first|exact KV _ (bR _)|exact KV _ hs)
   (first
    |(go_at_call 262;(with_reducible refine(hV.out).mono ?_);rintro C w5 ⟨⟨t5,rfl⟩,hs⟩))
  have ht:=hQ.trans (hs.mono hQ.size);have hf:=aH ht;clear hs ht g4 g6 gq;cases t5
  ·go_wp2_with fail;refine(HL _ hf).mono ?_;rintro C w9 ⟨rfl,O,t,f⟩;obtain⟨Z,S9⟩:=gB t (S4.trans ((Sk.J (N:=N) hf H4.fin).trans f));clear t f;go_wp2_with fail;go_end0;exact⟨rfl,O,Z,S9⟩
  have n5:=N4.below hf;have xV:0<=m.c:=MO.1.2.2.2.1;have xr:IntKind.i64.wrap (m.c+1)=m.c+1:=zZ _ (by omega);obtain⟨u,hu⟩:∃x:Mg,{m with c:=m.c+1}=x:=⟨_,rfl⟩;have N6:Hid (am (w5.setCell ⟨bb,4,none⟩ (I6 (m.c+1))) bb 44 #[I6 u.d.nd,I6 u.d.n,.string (aF u.q),.string (aF u.b),I6 u.c]):=aH (by rw[<-hu];exact am.I n5 4 (I6 (m.c+1)));have hR:=aH hu;clear hu;obtain⟨x0,x1,x2,x3,x4⟩:=am.ab n5;have xf:=fun j=>am.frozen n5 j;have hg:=aH (ir (v:=I6 (m.c+1)) (i:=4) (B4.trans (hf.mono B4.size)) p);clear n5;obtain⟨W6,hS⟩:=nM (w5.setCell ⟨bb,4,none⟩ (I6 (m.c+1)));rw[hS]at N6 hg;go_upto_region 4 with(fail);simp only[hS.out];obtain⟨y0,y1,y2,y3,y4⟩:=am.ab N6;have HP:=aH (th u W6);have hT:Hid (fR E u):=aH (by rw[<-hR];obtain⟨a1,a2,a3,a4,a5,a6⟩:=MO.1;exact⟨a1,a2,a3,by show 0<=m.c+1;omega,by show m.c+1<=1048576;omega,a6⟩);have xs:=aH h5;have z:¬((0,0):Nat×Nat).1=N.i:=fun e=>H.i0 e.symm;clear x0 x1 x2 x3 x4 xf xr h5 d5;go_wp2_with fail;refine HP.mono ?_;rintro C w7 ⟨c7,v7,rfl,vl,vb,vc,l7,hh,lc7,hy,p1,p2,p3,_,xW,xO,hz,hU,hW,G⟩;injection hy with hy;subst hy;obtain⟨Aa,ca,rfl,_⟩:=p1.rw.slice;obtain⟨Ab,cb,rfl,_⟩:=p2.rw.slice;obtain⟨Ac,cc,rfl,_⟩:=p3.rw.slice;obtain⟨W8,xt,e8,n8⟩:=dW w7 #[.slice Aa l7.length ca,.slice Ab hh.length cb,.slice Ac lc7.length cc] 131;have ha:=G.trans (e8.mono G.size)
  have I:=hg.trans (ha.mono hg.size);have U:∀b,W6.heap.size<=b->o b=(0,0):=fun b a=>ho b (zD hg.size a);have R8:=aH (zB ((RI.aa (o:=o) p1 U).below e8 (fun b a=>U b (zD G.size a))) (zB ((RI.aa (o:=o) p2 U).below e8 (fun b a=>U b (zD G.size a))) ((RI.aa (o:=o) p3 U).below e8 (fun b a=>U b (zD G.size a)))));have hA:fC l7 hh lc7:=⟨by omega,by omega,fun x hx=>by rw[hz x hx];exact hT.lt,hU,hW⟩;have xu:=aH hA;have xv:Hid (∀x∈l7,fR E x):=aH fun x hx=>by rw[hz x hx];exact hT
  have h8:Hid ((c6 l7 hh lc7).length<=900000):=aH (by have:=kI hA;omega);obtain⟨xw,N8,S8,hX⟩:=gD (gK (H.below I) (HQ.below H.fin I) (hM.below I)) (zB (N6.below ha) (zB n8 (zB (xh.below I) (hN.below I)))) (Sk.J (N:=N) I H.fin) (U _ G.size);clear p1 p2 p3 G e8 n8 ha I U hA hz hU hW y0 y1 y2 y3 y4;go_upto_region 5 with(fail);simp only[xt.out];go_wp2_with fail;refine xw.mono ?_;rintro C w9 ⟨rfl,O,t,f,k9⟩;have q:Bw w9 w9.drew:=bD _;obtain⟨Z,xx,hY,Q9,C9,M9,X9⟩:=gG (t.below q) t.fin ((k9.que _ _ HQ.own N8.2.2.1).1) (((k9.que _ _ HQ.own N8.2.2.1).2).below q) ((k9.cla _ _ _ N8.2.2.2).below q) ((N8.1.st f (by rw[ho bb p];exact z)).below q) ((N8.2.1.st f (by rw[hX];exact z)).below q);have hC:Hid (O bb=(0,0)/\O w7.heap.size=(0,0)):=aH ⟨by rw[f.old _ (ap N8.1)];exact ho bb p,by rw[f.old _ (ap N8.2.1)];exact hX⟩;obtain⟨R9,S9⟩:=gB (zB ((R8.1.st f z).rw.below q) (zB ((R8.2.1.st f z).rw.below q) ((R8.2.2.st f z).rw.below q))) (S8.trans (Sk.trans ⟨f,k9⟩ (.J q t.fin)));have hd:=fun n=>show Bw w9 (w9.drewN n)from⟨rfl,rfl,rfl,nR,fun _ _=>rfl⟩;obtain⟨xy,xz⟩:=gB t (S8.trans ⟨f,k9⟩);have a2:=ed Q9;obtain⟨b0,b1,b2⟩:=am.three X9;have HJ:=aH (ii Z hp ⟨R9.1,R9.2.1,R9.2.2⟩ xu xv h8);clear t f k9 q;by_cases hc7:c7=0
  case neg=>
   have d7:(c7==0)=false:=by simpa using hc7
   go_upto_region 6 with(fail);go_quiet (fail);go_wp2_with fail;go_end0;exact⟨rfl,O,((xy.below (hd _)).bf).more (T':=0) (by omega),xz.trans (.J (hd _) xx)⟩
  subst hc7;clear hd;go_upto_region 6 with(fail);go_region_held3 (fun W=>Ce W g.blk 2 (I6 (g.part:Nat))/\Ce W w7.heap.size 0 (.slice Aa l7.length ca)/\Ce W w7.heap.size 1 (.slice Ab hh.length cb)/\Ce W w7.heap.size 2 (.slice Ac lc7.length cc))
   (first|exact⟨a2,b0,b1,b2⟩|exact⟨am.cell hE 2,am.three hZ⟩)
   (first
    |(go_at_call 80;(with_reducible refine(HJ.out).mono ?_);rintro C w10 ⟨xF,rfl,hF,h0,A⟩;have hE:=(A.k.que _ _ hY Q9).2;have hZ:=X9.st A.s (by rw[hC.2];exact z)))
  obtain⟨hj,h1,hG,xa,xG,h2⟩:=gF h0 (S9.trans A) hE ((A.k.que _ _ hY Q9).1) (A.k.cla _ _ _ C9) (M9.st A.s (by rw[hC.1];exact z));have hI:Hid (hF bb=(0,0)):=aH (by rw[A.s.old _ (ap M9)];exact hC.1);clear h0 A hE hZ a2 b0 b1 b2;cases xF
  ·go_wp2_with fail;go_end0;exact⟨rfl,hF,(hj.bf).more (T':=0) (by omega),h1⟩
  have k:Bw w10 w10.drew:=bD _;obtain⟨xb,xc⟩:=gB (hG.below k) (h2.below k);have xd:Hid (hF bb=(0,0)):=aH hI;obtain⟨xH,xI,xJ⟩:=gC (ie (xG.below k)) (dH (hj.below k) ⟨0,0,0,u,rc⟩ (by rw[<-hR];exact Fo xi MO.1 MO.2 xs hj.cg)) (h1.trans (.J k hj.fin));have a1:=dt (hG.below k);have a4:Ce w10.drew g.blk 4 (Pt c):=by
   have:Ce w10.drew g.blk 4 (dS (g.cl.map (·.1))):=am.cell (hG.below k) 4;rw[R]at this;exact this
  obtain⟨y0,y1,y2,y3,y4⟩:=am.ab (h2.below k);have h3:∀{W:World},am W g.blk 207 ([I6 g.op,I6 (g.ref:Nat),I6 (g.part:Nat),dS g.tl,dS (g.cl.map (·.1))]++oM r++h7).toArray->Ce W g.blk 4 (Pt c):=fun h=>by
   have:=am.cell h 4;rw[R]at this;exact this
  clear k;go_wp2_with fail;go_region_held3 (fun W=>Ce W g.blk 1 (I6 (g.ref:Nat))/\Ce W g.blk 4 (Pt c)/\Ce W bb 0 (I6 u.d.nd)/\Ce W bb 1 (I6 u.d.n)/\Ce W bb 2 (.string (aF u.q))/\Ce W bb 3 (.string (aF u.b))/\Ce W bb 4 (I6 u.c))
   (first|exact⟨a1,a4,y0,y1,y2,y3,y4⟩|exact⟨am.cell hH 1,h3 hH,am.ab h4⟩)
   (first
    |(go_at_call 264;(with_reducible refine(xH.out).mono ?_);rintro C _w ⟨rfl,rfl⟩)
    |(go_at_call 165;(refine(xI).mono ?_);rintro C xX ⟨rfl,xK,h6,hk⟩;have hH:=(hk.k.que _ _ xa xb).2;have h4:=xc.st hk.s (by rw[xd];exact z)))
  obtain⟨xL,xM⟩:=gB h6 (xJ.trans hk);clear h6 hk hH h4 h3;go_wp2_with fail;go_end0;exact⟨rfl,xK,xL.more (T':=0) (by omega),xM⟩
theorem pT(k s:Int)(t:Bool)(h:aE E Rf N T B none rsv o w)(O:B<=900000000):
  Cs 85 #[Pt N.nb,I6 seq,I6 k,.bool t,I6 s] w (Nd E Rf N T (B+1000) none rsv o w (.tuple #[])):=by
 have hf:Ce w N.nb 10 (.map (some N.wm)):=h.cells.wm;rcases h.find seq with hlk|⟨g,hlk,hq,hw,hi⟩
 ·have H:=aH h;clear h;apply cI;go_in;go_wp2_with fail;go_end0;exact⟨rfl,o,H.more (T':=0) (by omega),.refl H.fin⟩
 obtain⟨r,he,q,u,x⟩:=hq.cells;have j:=eV q;have H:=aH h;cases hcl:g.cl with
 |none=>
  rw[hcl]at j;have m:Ce w g.blk 4 (.pointer none):=j;clear h hq hw q u x j;apply cI;go_in;go_wp2_with fail;go_end0;exact⟨rfl,o,H.more (T':=0) (by omega),.refl H.fin⟩
 |some z=>
  obtain⟨c,d,rc⟩:=z;rw[hcl]at j;have m:Ce w g.blk 4 (Pt c):=j;have C:=(hq.cla _ _ _ hcl).1;obtain⟨R,D,S,U,y⟩:=gE (so k t C h.fin) C hq hw q;clear h hq hw q u x j C;apply cI;go_in;go_wp2_with fail;refine R.mono ?_;rintro F w1 ⟨⟨t1,rfl⟩,b,a⟩;have i:cN N.i o w o w1:=cN.cn a D b;obtain⟨G,V,X,I⟩:=gD (H.cx D a b) (S.st a (ci H.i0) i) (U.st a H.owm (aV (H.roots.nb.ne D.ty (by decide)))) (show Sk N o w o w1 from⟨gz a,i⟩);have Y:=(i.que _ _ S.own y).2;have d4:Ce w1 g.blk 4 (Pt c):=ea m (Y.trans y.symm);obtain⟨_,_,_,_,_,f,_,_,_,_,_,_,_,_,_,_,_,A,_⟩:=b.cells;have Z:=aH (fB b f A);clear b a i Y m A;go_wp2_with fail;refine Z.mono ?_;rintro F _w ⟨rfl,rfl⟩;by_cases h1:f=1
  ·have d1:(f==1)=true:=by simpa using h1
   have ha:=aH (CW s G O V X hcl);clear h1;go_wp2_with fail;refine ha.mono ?_;rintro F w3 ⟨rfl,J,n,p⟩;obtain⟨L,M⟩:=gB n (I.trans p);clear n p;go_wp2_with fail;go_end0;exact⟨rfl,J,L,M⟩
  ·have d1:(f==1)=false:=by simpa using h1
   by_cases h2:f=2
   ·have d2:(f==2)=true:=by simpa using h2
    have hd:=aH (lu 16 (by decide) G O V X hcl);clear h1 h2;go_wp2_with fail;refine hd.mono ?_;rintro F w3 ⟨rfl,J,n,p⟩;obtain⟨L,M⟩:=gB n (I.trans p);clear n p;go_wp2_with fail;go_end0;exact⟨rfl,J,L,M⟩
   ·have d2:(f==2)=false:=by simpa using h2
    go_wp2_with fail;go_end0;exact⟨rfl,o,G.more (T':=0) (by omega),I⟩
abbrev Go(x:Wi)(vl vb vc vt vv:Value):Array Value:=#[I6 x.k,I6 x.fr,I6 x.sq,I6 x.pt,I6 x.fl,.string (aF x.mr),vl,vb,vc,vt,vv,I6 x.dn,I6 x.dm,I6 x.rc,I6 x.lg]
def FH(bk:Nat)(x:Wi)(vl vb vc vt vv:Value)(ls:List Mg)(b cl:List bC)(tl:List Tg)(pl:List Pe):cF:=(cF.box bk 153 (Go x vl vb vc vt vv)).and ((cF.ri aU vl ls).and ((cF.ri aJ vb b).and ((cF.ri aJ vc cl).and ((cF.ri a7 vt tl).and (cF.ri aL vv pl)))))
section
variable{w1:World}{vb vc vt vv:Value}{ls:List Mg}{b cl:List bC}{pl:List Pe}{bk:Nat}
theorem FH.wi(h:(FH bk x vl vb vc vt vv ls b cl tl pl).F o w)(a:AC w1 x vl vb vc vt vv ls b cl tl pl):AC w x vl vb vc vt vv ls b cl tl pl:=⟨⟨h.2.1.rw,h.2.2.1.rw,h.2.2.2.1.rw⟩,a.sz,h.2.2.2.2.1.rw,a.tn,a.tb,h.2.2.2.2.2.rw,a.vn,a.vb,a.ml⟩
theorem At.bw{S:cF}{o0}(h:At E Rf N S T B hand rsv o0 w0 W)(f:B<=1000000000)(x:Wi)(a:Int)(hi:∀z∈ij x,bN z)(c:x.mr.length<=10000000):
  Cs 68 #[Pt N.nb,s9 x (aS) (aS) (aS) (aS) (aS),.slice (some ⟨W.heap.size,0,none⟩) 1 1] (W.alloc (.cells #[I6 a] 3)) fun e w'=>Rt e (.tuple #[])/\At E Rf N S T (B+1000) hand rsv o0 w0 w':=by
 have e:=(bQ W).alloc nR (.cells #[I6 a] 3);refine((h.add e (cF.ri aC (.slice (some ⟨W.heap.size,0,none⟩) 1 1) [a]) (fun o ho=>j6 aC a ho nR)).nd fun o h' hS=>fH (ls:=[]) (b:=[]) (cl:=[]) (tl:=[]) (pl:=[]) (l:=[a]) h' f ⟨⟨(RI.nil o _).rw,(RI.nil o _).rw,(RI.nil o _).rw⟩,⟨by simp,by simp,by simp,by simp,by simp⟩,(RI.nil o _).rw,by simp,(fun a ha=>absurd ha (by simp)),(RI.nil o _).rw,by simp,(fun a ha=>absurd ha (by simp)),c⟩ (fun m hm=>absurd hm (by simp)) hi hS.2 (by simp)).mono fun e w' hh=>⟨hh.1,hh.2.ao⟩
theorem At.di{S:cF}{c:World}{o0}(h:At E Rf N S T B hand rsv o0 w0 W)(i:B<=1000000000)(x:Wi)(a:Int)(hi:∀z∈ij x,bN z)(f:x.mr.length<=10000000)(g:Below (W.alloc (.cells #[I6 a] 3)).heap.size (W.alloc (.cells #[I6 a] 3)) c):
  Cs 68 #[Pt N.nb,s9 x (aS) (aS) (aS) (aS) (aS),.slice (some ⟨W.heap.size,0,none⟩) 1 1] c fun e w'=>Rt e (.tuple #[])/\At E Rf N S T (B+1000) hand rsv o0 w0 w':=by
 have e:=(bQ W).alloc nR (.cells #[I6 a] 3);refine((h.add (e.trans (g.mono e.size)) (cF.ri aC (.slice (some ⟨W.heap.size,0,none⟩) 1 1) [a]) (fun o ho=>RI.below (E:=aC) (j6 aC a ho nR) g (fun b hb'=>ho b (zD e.size hb')))).nd fun o h' hS=>fH (ls:=[]) (b:=[]) (cl:=[]) (tl:=[]) (pl:=[]) (l:=[a]) h' i ⟨⟨(RI.nil o _).rw,(RI.nil o _).rw,(RI.nil o _).rw⟩,⟨by simp,by simp,by simp,by simp,by simp⟩,(RI.nil o _).rw,by simp,(fun a ha=>absurd ha (by simp)),(RI.nil o _).rw,by simp,(fun a ha=>absurd ha (by simp)),f⟩ (fun m hm=>absurd hm (by simp)) hi hS.2 (by simp)).mono fun e w' hh=>⟨hh.1,hh.2.ao⟩
theorem AJ(hm:Int)(h:aE E Rf N T 0 none [] o w)(hs:el E s)(hl:s.length<=100000):
  Cs 34 #[Pt N.nb,.string (aF s),I6 hm] w (lZ E Rf N T 2000 o w):=by
 obtain⟨hX,H,hY⟩:=gC (jf h) (At.new h) (AH (E:=E) s w hs hl);clear h hs;apply cI;go_in;go_wp2_with fail;refine hX.mono ?_;rintro j _w ⟨⟨t,rfl⟩,rfl⟩;cases t
 case true=>
  go_wp2_with fail;go_ret2;exact H.bz
 go_wp2_with fail;refine hY.mono ?_;rintro j w1 ⟨ha,c,x,vl,vb,vc,vt,vv,rfl,h5,hw⟩;obtain⟨A1,A2,A3,A4,A5,n1,c1,n2,c2,n3,c3,n4,c4,n5,c5,rfl,rfl,rfl,rfl,rfl⟩:=h5;have hZ:=aH hw;obtain⟨W2,h0,e2,hz⟩:=dW w1 (Go x (.slice A1 n1 c1) (.slice A2 n2 c2) (.slice A3 n3 c3) (.slice A4 n4 c4) (.slice A5 n5 c5)) 153;have hn:=ha.trans (e2.mono ha.size);obtain⟨xa,E2,N2,H2⟩:=gD hn e2 hz (H.below hn);have xb:=aH (fun n=>eI (H2.ah.below (show Bw W2 (W2.drewN n)from⟨rfl,rfl,rfl,nR,fun _ _=>rfl⟩)));clear hw hn e2 hz;go_upto_region 4 with(fail);simp only[h0.out];by_cases hc:c=0
 case neg=>
  have d0:((c:Int) != 0)=true:=by simpa using hc
  have hp:=aH (fun n=>(H2.below (show Bw W2 (W2.drewN n)from⟨rfl,rfl,rfl,nR,fun _ _=>rfl⟩)).bz (B:=2000));go_quiet (fail);go_wp2_with fail;go_ret2;exact hp _
 subst hc;obtain⟨ls,b,cl,tl,pl,hA,t1,t2,t3,t4,t5,hB,hC,M,hD,hF⟩:=hZ rfl;obtain⟨G,D⟩:=gB hA (zB hB (zB hC (zB M (zB hD hF))));have S:=E2.drew;have he:=N2.below (bP W2);have U:=aH (H.add (ha.trans (S.mono ha.size)) (FH w1.heap.size x (.slice A1 n1 c1) (.slice A2 n2 c2) (.slice A3 n3 c3) (.slice A4 n4 c4) (.slice A5 n5 c5) ls b cl tl pl) (fun o ho=>⟨⟨ho _ ha.size,he⟩,RI.aa (aI t1 S) ho,RI.aa (aI t2 S) ho,RI.aa (aI t3 S) ho,RI.aa (aI t4 S) ho,RI.aa (aI t5 S) ho⟩));have h1:=aH (eI U.ah);have f0:=ce he;have f1:=dt he;have a:=aH he;clear hA t1 t2 t3 t4 t5 hB hC M hD hF S he;go_region_held3 (fun W=>Ce W w1.heap.size 1 (I6 x.fr))
  (exact f1)
  (first
   |(go_at_call 52;(with_reducible refine(h1.out).mono ?_);rintro j _w ⟨rfl,rfl⟩))
 by_cases hf:x.fr=((N.i:Nat):Int)
 ·have df:((x.fr:Int)==((N.i:Nat):Int))=true:=by simpa using hf
  have hp:=aH (U.bz (B:=2000));go_wp2_with fail;go_ret2;exact hp
 have df:((x.fr:Int)==((N.i:Nat):Int))=false:=by simpa using hf
 clear hf;by_cases k1:x.k=1
 ·have e1:((x.k:Int)==1)=true:=by simpa using k1
  obtain⟨pt,M⟩:∃pt:Nat,x.pt=(pt:Nat):=⟨x.pt.toNat,by have:=D.2.2.1;omega⟩;have f3:Ce W2.drew w1.heap.size 3 (I6 (pt:Nat)):=by rw[<-M];exact am.cell a 3
  have f6:=fa a;have f7:=fb a;have f8:=ma a;have A:=aH (U.ba fun o h hS=>ii h (by have:=D.2.2.1;omega:pt < 16) (FH.wi hS.2 G).bg G.sz D.1 (by have:=D.2.2.2.1;omega));have hg:bN x.sq:=D.2.2.2.2 x.sq (by simp[ij]);have hG:bN x.pt:=D.2.2.2.2 x.pt (by simp[ij]);have V:bN 0:=by unfold bN;omega
  have hH:bN 2:=by unfold bN;omega
  clear M k1;go_wp2_with fail;with_reducible refine A.out.mono ?_
  rintro j C ⟨t,rfl,F⟩;have X:=aH F;clear F f3 f6 f7 f8 f1 f0;cases t
  ·have m:=aH ((X).more (B':=2000) (by omega)).out;go_wp2_with fail;refine m.mono ?_;rintro j wE ⟨v1,v2,reps,lets,p,rfl,f⟩;have g:=aH f;clear f;go_wp2_with fail;go_ret2;exact⟨v1,v2,reps,lets,p,rfl,g⟩
  have k:=bP C;have O:=aH (X.below k);obtain⟨o7,hq⟩:=O.facts;have q:=hq.2.1.2;have hr:=aH (FH.wi hq.2 G);obtain⟨hI,hk,KS⟩:=gC (fun W (hb:Below C.drew.heap.size C.drew W)=>fx W _ _ _ ls b cl (hr.below hb).bg.l (hr.below hb).bg.b (hr.below hb).bg.c G.sz.l (by have:=G.sz.bc;omega) (by have:=G.sz.bc;omega) G.sz.m (fun d hd=>b0 (G.sz.b d hd)) (fun d hd=>b0 (G.sz.c d hd))) (show Below C.drew.heap.size C.drew (C.alloc (.cells #[I6 x.fr] 3)).drew from(Below.refl C.drew.heap.size C.drew).alloc nR (.cells #[I6 x.fr] 3)) (fun W (hb:Below C.drew.heap.size C.drew W)=>show Ce W w1.heap.size 1 (I6 x.fr)/\Ce W w1.heap.size 2 (I6 x.sq)/\Ce W w1.heap.size 3 (I6 x.pt)/\Ce W w1.heap.size 6 (.slice A1 n1 c1)/\Ce W w1.heap.size 7 (.slice A2 n2 c2)/\Ce W w1.heap.size 8 (.slice A3 n3 c3)from⟨aD hb (am.cell q 1),aD hb (am.cell q 2),aD hb (am.cell q 3),aD hb (am.cell q 6),aD hb (am.cell q 7),aD hb (am.cell q 8)⟩);have hJ:(c6 ls b cl).length<=10000000:=by have:=D.2.2.2.1;omega
  have ht:=aH hJ;have hu:Hid (∀z∈ij ⟨2,0,x.sq,x.pt,0,c6 ls b cl,0,0,0,0⟩,bN z):=aH (by simp[ij,V,hH,hg,hG]);clear hq q k hJ V hH hg hG;go_wp2_with fail;go_region_held3 (fun W=>Ce W w1.heap.size 1 (I6 x.fr)/\Ce W w1.heap.size 2 (I6 x.sq)/\Ce W w1.heap.size 3 (I6 x.pt)/\Ce W w1.heap.size 6 (.slice A1 n1 c1)/\Ce W w1.heap.size 7 (.slice A2 n2 c2)/\Ce W w1.heap.size 8 (.slice A3 n3 c3))
   (first|with_reducible exact KS.out _ (bR _)|with_reducible exact KS.out _ hk.out|with_reducible exact KS.out _ u|with_reducible exact KS.out _ (hk.out.trans (u.mono hk.out.size))|with_reducible exact KS.out _ (u.alloc u.size _)|exact⟨am.cell Y 1,am.cell Y 2,am.cell Y 3,am.cell Y 6,am.cell Y 7,am.cell Y 8⟩)
   (first
    |(go_at_call 81;(first|with_reducible refine(hI.out _ (bR _)).mono ?_|with_reducible refine(hI.out _ hk.out).mono ?_);rintro j w6 ⟨rfl,u⟩)
    |(go_at_call 68;(first|with_reducible refine((O.out.below u).bw (by omega) ⟨2,0,x.sq,x.pt,0,c6 ls b cl,0,0,0,0⟩ x.fr hu.out ht.out).mono ?_|with_reducible refine(O.out.di (by omega) ⟨2,0,x.sq,x.pt,0,c6 ls b cl,0,0,0,0⟩ x.fr hu.out ht.out u).mono ?_|refine(O.di (by omega) ⟨2,0,x.sq,x.pt,0,c6 ls b cl,0,0,0,0⟩ x.fr hu ht u).mono ?_);rintro j w8 ⟨rfl,h8⟩;have Y:am w8 w1.heap.size 153 (Go x (.slice A1 n1 c1) (.slice A2 n2 c2) (.slice A3 n3 c3) (.slice A4 n4 c4) (.slice A5 n5 c5)):=(h8.facts).elim (fun _ h=>h.2.1.2)))
  all_goals
   have H8:=aH h8;clear h8 Y u;have m:=aH ((H8).more (B':=2000) (by omega)).out;go_wp2_with fail;refine m.mono ?_;rintro j wE ⟨v1,v2,reps,lets,p,rfl,f⟩;have g:=aH f;clear f;go_wp2_with fail;go_ret2;exact⟨v1,v2,reps,lets,p,rfl,g⟩
 have e1:((x.k:Int)==1)=false:=by simpa using k1
 by_cases k2:x.k=2
 ·have e2:((x.k:Int)==2)=true:=by simpa using k2
  have k:=(Below.refl W2.drew.heap.size W2.drew).drew;have J:=aH (U.below k);have y8:=J.cells.hd;have I:=a.below k;have g1:=dt I;have g3:=ef I;have g5:=e9 I;have A:=aH (At.one (R:=fun e _=>∃t,Rt e (.bool t)) J fun o h hS=>(su x.pt x.fr x.mr h.hd h.fin).mono (fun e w' hh=>⟨hh.1,o,h.hd_ hh.2.2 hh.2.1,hh.2.2.mono (fun y hy=>by rw[hy])⟩));clear k f1 k2 I;go_wp2_with fail;refine aN 10 (by kernel_rfl) (by kernel_rfl) ?_;simp only[zF,zN,zG,zO];repeat still_step
  refine wpStill_nil ?_;go_wp2_with fail;with_reducible refine A.out.mono ?_
  rintro j C ⟨⟨t,rfl⟩,F⟩;have X:=aH F;obtain⟨o6,Z⟩:=F.facts;have g1:=dt Z.2.1.2;have g2:=ed Z.2.1.2;have h2:=aH (X.nd fun o h hS=>kJ (seq:=x.sq) x.fr h (by have:=D.2.1;unfold BU;omega));clear F Z;go_wp2_with fail;with_reducible refine h2.out.mono ?_
  rintro j w6 ⟨rfl,L⟩;have O:=aH L;clear L;have m:=aH ((O).more (B':=2000) (by omega)).out;go_wp2_with fail;refine m.mono ?_;rintro j wE ⟨v1,v2,reps,lets,p,rfl,f⟩;have g:=aH f;clear f;go_wp2_with fail;go_ret2;exact⟨v1,v2,reps,lets,p,rfl,g⟩
 have e2:((x.k:Int)==2)=false:=by simpa using k2
 by_cases k3:x.k=3
 ·have e3:((x.k:Int)==3)=true:=by simpa using k3
  have f2:=ed a;have f3:=ef a;have f4:=eV a;have f5:=e9 a;have f6:=fa a;have f7:=fb a;have f8:=ma a;have f9:=rz a;have hK:=iz a;have hL:=iA a;have hM:=iB a;have hN:=jp a;have hO:=ke a;obtain⟨pt,M⟩:∃pt:Nat,x.pt=(pt:Nat):=⟨x.pt.toNat,by have:=D.2.2.1;omega⟩;have i:=(U.ba fun o h hS=>oJ hm h (by have:=D.2.2.1;omega:pt < 16) M (vl:=.slice A1 n1 c1) (vb:=.slice A2 n2 c2) (vc:=.slice A3 n3 c3) (vt:=.slice A4 n4 c4) (vv:=.slice A5 n5 c5));have hg:bN x.sq:=D.2.2.2.2 x.sq (by simp[ij]);have V:bN 0:=by unfold bN;omega
  have hP:bN 1:=by unfold bN;omega
  have hQ:bN 4:=by unfold bN;omega
  clear M;simp only[s9,k3]at i;have A:=aH i;clear i;go_wp2_with fail;with_reducible refine A.out.mono ?_
  rintro j C ⟨t,rfl,F⟩;have X:=aH F;obtain⟨o6,Z⟩:=F.facts;have g1:=dt Z.2.1.2;have g2:=ed Z.2.1.2;clear F Z f1 f2 f3 f4 f5 f6 f7 f8 f9 hK hL hM hN hO k3 A;cases t
  ·have i:=X.bw (by omega) ⟨4,0,x.sq,0,0,[],0,0,0,0⟩ x.fr (by simp[ij,V,hP,hQ,hg]) (by simp);have hx:s9 ⟨4,0,x.sq,0,0,[],0,0,0,0⟩ (aS) (aS) (aS) (aS) (aS)=.agg #[I6 4,I6 0,I6 x.sq,I6 0,I6 0,Se,aS,aS,aS,aS,aS,I6 0,I6 0,I6 0,I6 0]:=rfl;rw[hx]at i;have A:=aH i;clear i hx;go_wp2_with fail;with_reducible refine A.out.mono ?_
   rintro j w6 ⟨rfl,L⟩;have O:=aH L;clear L;have m:=aH ((O).more (B':=2000) (by omega)).out;go_wp2_with fail;refine m.mono ?_;rintro j wE ⟨v1,v2,reps,lets,p,rfl,f⟩;have g:=aH f;clear f;go_wp2_with fail;go_ret2;exact⟨v1,v2,reps,lets,p,rfl,g⟩
  ·have i:=X.bw (by omega) ⟨4,0,x.sq,0,1,[],0,0,0,0⟩ x.fr (by simp[ij,V,hP,hQ,hg]) (by simp);have hx:s9 ⟨4,0,x.sq,0,1,[],0,0,0,0⟩ (aS) (aS) (aS) (aS) (aS)=.agg #[I6 4,I6 0,I6 x.sq,I6 0,I6 1,Se,aS,aS,aS,aS,aS,I6 0,I6 0,I6 0,I6 0]:=rfl;rw[hx]at i;have A:=aH i;clear i hx;go_wp2_with fail;with_reducible refine A.out.mono ?_
   rintro j w6 ⟨rfl,L⟩;have O:=aH L;clear L;have m:=aH ((O).more (B':=2000) (by omega)).out;go_wp2_with fail;refine m.mono ?_;rintro j wE ⟨v1,v2,reps,lets,p,rfl,f⟩;have g:=aH f;clear f;go_wp2_with fail;go_ret2;exact⟨v1,v2,reps,lets,p,rfl,g⟩
 have e3:((x.k:Int)==3)=false:=by simpa using k3
 by_cases k4:x.k=4
 ·have e4:((x.k:Int)==4)=true:=by simpa using k4
  have f2:=ed a;have f4:=eV a;have A:=aH (U.nd fun o h hS=>pT (seq:=x.sq) x.fr hm (x.fl==1) h (by omega));go_wp2_with fail;refine A.mono ?_;rintro j C ⟨rfl,h5⟩;have J:=aH h5;clear h5;have m:=aH ((J).more (B':=2000) (by omega)).out;go_wp2_with fail;refine m.mono ?_;rintro j wE ⟨v1,v2,reps,lets,p,rfl,f⟩;have g:=aH f;clear f;go_wp2_with fail;go_ret2;exact⟨v1,v2,reps,lets,p,rfl,g⟩
 have e4:((x.k:Int)==4)=false:=by simpa using k4
 by_cases k5:x.k=5
 ·have e5:((x.k:Int)==5)=true:=by simpa using k5
  have k:=(Below.refl W2.drew.heap.size W2.drew).drew;have J:=aH (U.below k);have I:=a.below k;have y1:=J.cells.st;obtain⟨HH,KS⟩:=gB J.holds (fun W (hb:Below W2.drew.drew.heap.size W2.drew.drew W)=>show Ce W N.nb 1 (Pt N.st)/\Ce W w1.heap.size 11 (I6 x.dn)/\Ce W w1.heap.size 12 (I6 x.dm)/\Ce W w1.heap.size 13 (I6 x.rc)from⟨aD hb y1,aD hb (am.cell I 11),aD hb (am.cell I 12),aD hb (am.cell I 13)⟩);clear k f1 k5 I y1;go_wp2_with fail;go_region_held3 (fun W=>Ce W N.nb 1 (Pt N.st)/\Ce W w1.heap.size 11 (I6 x.dn)/\Ce W w1.heap.size 12 (I6 x.dm)/\Ce W w1.heap.size 13 (I6 x.rc))
   (first|exact KS _ (bR _)|exact KS _ hj|exact KS _ (hj.trans (u.mono hj.size))|exact⟨L.cells.st,am.cell q 11,am.cell q 12,am.cell q 13⟩)
   (first
    |(go_at_call 61;(with_reducible refine(HH.out).mono ?_);rintro j C ⟨l5,⟨v5,rfl,hR,hj⟩,h3,hT⟩)
    |(go_at_call 86;(with_reducible refine(pO ⟨x.dn,x.dm⟩ x.rc C hR.rw h3 hT).mono ?_);rintro j w6 ⟨l6,⟨v6,rfl,hU,u⟩,h4,hV⟩)
    |(go_at_call 59;(with_reducible refine(((J.out.below hj).below u).ba fun o h hS=>fG h hU.rw h4 hV).mono ?_);rintro j w7 ⟨t7,rfl,L⟩;have q:am w7 w1.heap.size 153 (Go x (.slice A1 n1 c1) (.slice A2 n2 c2) (.slice A3 n3 c3) (.slice A4 n4 c4) (.slice A5 n5 c5)):=(L.facts).elim (fun _ h=>h.2.1.2)))
  have O:=aH L;clear L q hj u hR hU hT hV;have m:=aH ((O).more (B':=2000) (by omega)).out;go_wp2_with fail;refine m.mono ?_;rintro j wE ⟨v1,v2,reps,lets,p,rfl,f⟩;have g:=aH f;clear f;go_wp2_with fail;go_ret2;exact⟨v1,v2,reps,lets,p,rfl,g⟩
 have e5:((x.k:Int)==5)=false:=by simpa using k5
 by_cases k6:x.k=6
 ·have e6:((x.k:Int)==6)=true:=by simpa using k6
  have f2:=ed a;have f3:=ef a;have f4:=eV a;have f5:=e9 a;have f6:=fa a;have f7:=fb a;have f8:=ma a;have f9:=rz a;have hK:=iz a;have hL:=iA a;have hM:=iB a;have hN:=jp a;have hO:=ke a;have i:=(U.ns fun o h hS=>AI h (FH.wi hS.2 G));simp only[s9,k6]at i;have A:=aH i;clear i;go_wp2_with fail;with_reducible refine A.out.mono ?_
  rintro j C ⟨rfl,h5⟩;have J:=aH h5;clear h5;have m:=aH ((J).more (B':=2000) (by omega)).out;go_wp2_with fail;refine m.mono ?_;rintro j wE ⟨v1,v2,reps,lets,p,rfl,f⟩;have g:=aH f;clear f;go_wp2_with fail;go_ret2;exact⟨v1,v2,reps,lets,p,rfl,g⟩
 have e6:((x.k:Int)==6)=false:=by simpa using k6
 by_cases k7:x.k=7
 ·have e7:((x.k:Int)==7)=true:=by simpa using k7
  have V:bN 0:=by unfold bN;omega
  have h9:bN 8:=by unfold bN;omega
  have i:=U.bw (by omega) ⟨8,0,0,0,0,[],0,0,0,0⟩ x.fr (by simp[ij,V,h9]) (by simp);have hx:s9 ⟨8,0,0,0,0,[],0,0,0,0⟩ (aS) (aS) (aS) (aS) (aS)=.agg #[I6 8,I6 0,I6 0,I6 0,I6 0,Se,aS,aS,aS,aS,aS,I6 0,I6 0,I6 0,I6 0]:=rfl;rw[hx]at i;have hW:Cs 68 #[Pt N.nb,.agg #[I6 8,I6 0,I6 0,I6 0,I6 0,Se,aS,aS,aS,aS,aS,I6 0,I6 0,I6 0,I6 0],.slice (some ⟨W2.heap.size,0,none⟩) 1 1] (W2.alloc (.cells #[I6 x.fr] 3)).drew (fun e w'=>Rt e (.tuple #[])/\At E Rf N _ T (0+1000) none [] _ _ w'):=i;have A:=aH hW;clear i hW hx k7;go_wp2_with fail;with_reducible refine A.out.mono ?_
  rintro j C ⟨rfl,F⟩;have X:=aH F;clear F;have m:=aH ((X).more (B':=2000) (by omega)).out;go_wp2_with fail;refine m.mono ?_;rintro j wE ⟨v1,v2,reps,lets,p,rfl,f⟩;have g:=aH f;clear f;go_wp2_with fail;go_ret2;exact⟨v1,v2,reps,lets,p,rfl,g⟩
 have e7:((x.k:Int)==7)=false:=by simpa using k7
 by_cases k8:x.k=8
 ·have e8:((x.k:Int)==8)=true:=by simpa using k8
  have k:=(Below.refl W2.drew.heap.size W2.drew).drew;have J:=aH (U.below k);have y9:=J.cells.wt;have g1:=dt (a.below k);have A:=aH (At.one (R:=fun e _=>∃t,Rt e (.bool t)) J fun o h hS=>(sG x.fr h.wt.2 h.fin).mono (fun e w' hh=>⟨hh.1,o,h.ds hh.2.2 h.wt.1 hh.2.1,hh.2.2.mono (fun y hy=>by rw[hy])⟩));clear k f1 k8;go_wp2_with fail;refine aN 6 (by kernel_rfl) (by kernel_rfl) ?_;simp only[zF,zN,zG,zO];repeat still_step
  refine wpStill_nil ?_;go_wp2_with fail;with_reducible refine A.out.mono ?_
  rintro j C ⟨⟨t,rfl⟩,F⟩;have X:=aH F;clear F;have m:=aH ((X).more (B':=2000) (by omega)).out;go_wp2_with fail;refine m.mono ?_;rintro j wE ⟨v1,v2,reps,lets,p,rfl,f⟩;have g:=aH f;clear f;go_wp2_with fail;go_ret2;exact⟨v1,v2,reps,lets,p,rfl,g⟩
 have e8:((x.k:Int)==8)=false:=by simpa using k8
 have m:=aH ((U).more (B':=2000) (by omega)).out;go_wp2_with fail;refine m.mono ?_;rintro j wE ⟨v1,v2,reps,lets,p,rfl,f⟩;have g:=aH f;clear f;go_wp2_with fail;go_ret2;exact⟨v1,v2,reps,lets,p,rfl,g⟩
end
def e4(base:Nat)(w:World)(v:Value)(l:List Pe):Prop:=aK aL base w v l/\l.length<=64/\∀p∈l,cA p
theorem e4.keep{w w'}{l}(h:e4 base w v l)(a:aW b w w')(c:some b≠v.ownBlock):e4 base w' v l:=⟨aK.keep h.1 a (fun k hk e=>c (by rw[hk];exact e)),h.2⟩
theorem e4.below{v}{l}(h:e4 base w v l)(a:Below w.heap.size w w'):e4 base w' v l:=⟨aI h.1 a,h.2⟩
theorem xa{o}{x}{v}{l}(h:ee T o w r x)(hT:T<=1000000)(hf:aX o w)(ha:x≠(0,0))(hv:e4 base w v l)(s:base<=w.heap.size):
  Cs 133 #[Pt r,v] w fun e w'=>(∃v' l',Rt e v'/\e4 base w' v' l')/\ee T o w' r x/\St (·=x) o w o w'/\w'.heap[r]?=w.heap[r]?:=by
 have Z:=h.lt;have hb:=aH (oU h hT);obtain⟨A,c,rfl,_⟩:=hv.1.rw.slice;obtain⟨hr,a1,a2,a3,a4,a5,b,vr,q,lr,h1,h2,h3,h4,h5,h6,h7,h8⟩:=h;obtain⟨i,HX,HM,HV,I⟩:=gE (zB hr (zB h2 (zB h6 (zB h7 (zB h8 hf))))) h1 (zB h3 (zB h4 h5)) hv (show b≠r from h3.ne h1);apply cI;go_in;go_wp2_with fail;go_step3;go_wp2_with fail;go_step3;go_wp2_with fail;refine hb.mono ?_;rintro _e w1 ⟨L,⟨v1,rfl,J,hc⟩,hL,hd⟩;obtain⟨A1,c1,rfl,_⟩:=J.rw.slice;obtain⟨O1,B1,ZL⟩:=gC J hc hd;go_wp2_with fail;go_loopw[1,10] (fun vl vi wr=>∃(k:Nat) (y:List Pe) (D:Option Addr) (c2:Nat) (u:IM),k<=L.length/\vi=I6 k/\vl=.slice D y.length c2/\e4 base wr (.slice D y.length c2) y/\aK aC w.heap.size wr (.slice A1 L.length c1) L/\b4 wr b u/\(∀p∈u,Ci p)/\u.length<=T/\aW b w wr) (fun _ vi _=>L.length - (intOf vi).toNat)
 case atStart=>exact⟨0,l,A,c,q,by omega,rfl,rfl,HV.below B1,O1,HM.1.below B1,HM.2.1,HM.2.2,aG B1⟩
 case round=>
  obtain⟨k,y,D,c2,u,hk,rfl,rfl,F,ho,G,hq,N,B⟩:=hrel;obtain⟨P,O,M,m⟩:=gD F ho (zB G (zB hq N)) B;have X:=HX.only B I.symm;have XX:=aH X;by_cases hlt:k < L.length
  ·obtain⟨g,og,rfl,H⟩:=ho.rw.at_ (zA hlt);have c0:Ce wr g (og+k) (I6 L[k]):=by have:=H 0 _ rfl;simpa[aC]using this
   obtain⟨z,t,he,_⟩:=oo G hq L[k];have R:=fun ty=>G.delete (P:=prog) underlying179 underlying3 L[k] ty;generalize L[k]=id at c0 he R;have f2:=ed X;have f3:=ef X;have f5:=e9 X;have e2:=fun n=>show Ce (wr.drewN n) r 2 (I6 a3)from f2;have e3:=fun n=>show Ce (wr.drewN n) r 3 (I6 a4)from f3;have e5:=fun n=>show Ce (wr.drewN n) r 5 (.map (some b))from f5;have ht:=aH R;go_wp2_with fail;go_quiet (fail);have S:=fun n=>show Bw wr (wr.drewN n)from⟨rfl,rfl,rfl,nR,fun _ _=>rfl⟩;have hg:=fun n=>aH (qx id (wr.drewN n) (P.1.rw.below (S n)) P.2.1 P.2.2);have f:=aH S;go_wp2_with fail
   ·exact⟨⟨k+1,y,D,c2,u,hlt,by go_num,rfl,P.below (f _),aI O (f _),M.1.below (f _),M.2.1,M.2.2,aA m (aG (f _))⟩,by simp[intOf];omega⟩
   ·refine(hg _).out.mono ?_;rintro _e w3 ⟨l3,⟨v3,rfl,U,hh⟩,hj,hl⟩;have a:=(f _).trans (hh.mono (f _).size);have X3:=XX.below a;have hu:=e9 X3;obtain⟨w4,hs,hn,C⟩:=(M.1.below a).delete (P:=prog) (t:=179) (kt:=3) (et:=3) (by kernel_rfl) (by kernel_rfl) id 0;obtain⟨A3,c3,rfl,_⟩:=U.rw.slice;have hw:base<=w3.heap.size:=zD s (zD m.size a.size);have V:e4 base w3 (.slice A3 l3.length c3) l3:=⟨U.mono (zD s m.size),hj,hl⟩;have P4:=aH (V.keep C (aK.ak V.1 (M.1.below a)));have Y:=aI O a;obtain⟨O4,M4⟩:=gB (aK.keep Y C (fun j e e2=>aK.ak Y (M.1.below a) (by rw[e];exact e2))) (zB hn (aA m (aA (aG a) C)));go_wp2_with fail;go_roundw
    case rel=>exact⟨k+1,l3,A3,c3,eg u id,hlt,by go_num,rfl,P4,O4,M4.1,fun p F=>M.2.1 p (o5 F).1,zD (o7 _ _) M.2.2,M4.2⟩
    case measure=>simp[intOf];omega
  ·clear F ho G hq N B X;go_wp2_with fail;rw[qJ];go_ret;exact⟨⟨_,_,rfl,P⟩,⟨i.1,a1,a2,a3,a4,a5,b,vr,_,lr,XX,i.2.1,M.1,M.2.1,M.2.2,i.2.2.1.st (St.U (p:=(·=x)) m i.2.1 i.2.2.2.2.2) ha.symm,i.2.2.2.1,i.2.2.2.2.1⟩,St.U (p:=(·=x)) m i.2.1 i.2.2.2.2.2,m.block _ Z (fun e=>I (by(injection e with e)<;>(first|exact e|exact e.symm)))⟩
theorem ti{o}{w}{x}{v}{l:List Pe}(f:Int)(h:ee T o w r x)(hv:Rw aL w v l)(hl:l.length<=64)(hc:∀p∈l,cA p):
  Cs 134 #[Pt r,v,I6 f] w (b6 aC w 64 bN):=by
 obtain⟨A,c,rfl,_⟩:=hv.slice;obtain⟨hr,a1,a2,a3,a4,a5,b,vr,q,lr,h1,O,h3,h4,h5,h6,h7,h8⟩:=h;obtain⟨Ar,cr,rfl,_⟩:=h6.rw.slice;obtain⟨W0,HW,HB,x0⟩:=dW w #[Pt r] 90;have x1:=h1.below HB;obtain⟨ho,X0,X1,R0,H8,a⟩:=gF (ig W0 (hv.below HB) hl hc) x0 x1 (h6.rw.below HB) h8 HB;obtain⟨i0,hi,_,D,_⟩:=info_parts aC.info;clear hr h1 O h3 h4 h5 h6 h8 hv hc x0 x1;apply cI;go_in;go_upto_region 1 with(fail);simp only[HW.out];go_wp2_with fail;refine ho.mono ?_;rintro _e w1 ⟨l1,⟨v1,rfl,F,G⟩,hp,D⟩;have hm:l1.length<=64:=hp;have HD:=aH (ks 227 #[Pt w.heap.size] (fun k=>k==a1) _ v1 l1 w1 F (by omega) (aQ func227 (by kernel_rfl) (by kernel_rfl)) (fun k W hW=>by
  have R:∀b',b' < W0.heap.size->W.heap[b']?=W0.heap[b']?:=fun b' hb'=>(hW b' (zT hb' G.size) (fun e=>by have:=(F.lt b' e).1;omega)).trans (G.block b' hb');exact vD (T:=T) (o:=o) (x:=x) k a1 w.heap.size (ea (am.cell X0 0) (R _ (ap X0))) (ea (am.cell X1 0) (R _ (ap X1)))))
 obtain⟨O1,B1,Z1⟩:=gC F G D;clear F G D;go_wp2_with fail;refine HD.mono ?_;rintro _e w2 ⟨v2,rfl,s,hd⟩;have B2:=aH (B1.grown hd B1.size (fun k e=>(O1.lt k e).1));obtain⟨l2,H⟩:=nx (l1.filter (fun k=>!(k==a1)));rw[H]at s;have S:Hid (l2.length<=64/\∀z∈l2,bN z):=aH ⟨by rw[<-H];exact zD (qO _ _) hm,fun z hz=>by rw[<-H]at hz;exact Z1 z (qV.1 hz).1⟩;obtain⟨t,c2,rfl,hq⟩:=s.rw.slice;obtain⟨M,hs,N,n3⟩:=dW w2 #[.slice t l2.length c2] 34;obtain⟨u,O3,ht,N3⟩:=gD (B2.trans (N.mono B2.size)) (s.rw.below N) (aI s N) n3;have hu:=ce (X0.below u);have hw:=fa (X1.below u);have hx:=aH (fy M (R0.below u) (by omega));clear s hd H N n3;go_upto_region 2 with(fail);simp only[hs.out];go_wp2_with fail;refine hx.mono ?_;rintro _e w4 ⟨v4,rfl,I,n⟩;have hy:=aH (ks 228 #[Pt w2.heap.size] (fun k=>!l2.contains k) _ v4 lr w4 I (by omega) (aQ func228 (by kernel_rfl) (by kernel_rfl)) (fun k W hW=>by
  have R:∀b',b' < M.heap.size->W.heap[b']?=M.heap[b']?:=fun b' hb'=>(hW b' (zT hb' n.size) (fun e=>by have:=(I.lt b' e).1;omega)).trans (n.block b' hb');exact vE k w2.heap.size (ea (am.cell N3 0) (R _ (ap N3))) (by obtain⟨A',c',e',he,U⟩:=O3.out;exact⟨A',c',e',he,U.keep fun g hg _=>R g hg⟩) (by have:=S.1;omega)))
 obtain⟨O4,B4⟩:=gB I (u.trans (n.mono u.size));have hC:M.heap.size<=w4.heap.size:=n.size;have hf:=aH n;clear I n;go_wp2_with fail;refine hy.mono ?_;rintro _e w5 ⟨v5,rfl,J,V⟩;obtain⟨X,y⟩:=gB (B4.grown V B4.size (fun k e=>zD u.size (O4.lt k e).1)) (hf.grown V hf.size (fun k e=>(O4.lt k e).1));obtain⟨C,L⟩:=nx (lr.filter (fun k=>!(!l2.contains k)));rw[L]at J;have L5:Hid (C.length<=64/\∀z∈C,bN z):=aH ⟨by rw[<-L];exact zD (qO _ _) h7,fun z hz=>by rw[<-L]at hz;exact H8 z (qV.1 hz).1⟩;obtain⟨A5,c5,rfl,_⟩:=J.rw.slice;have O5:=aH J;have Y:=ce (N3.below y);clear J V L hu hw;by_cases h5:0 < C.length
 ·have d5:decide ((C.length:Int) > 0)=true:=by simpa using h5
  go_wp2_with fail;go_ret;exact⟨C,⟨_,rfl,O5.mono (zD a.size u.size),a.trans (X.mono a.size)⟩,L5.1,L5.2⟩
 have d5:decide ((C.length:Int) > 0)=false:=by simpa using h5
 by_cases O:l2.length=0
 ·have d2:((l2.length:Int)==0)=true:=by simpa using O
  go_wp2_with fail;go_ret;exact⟨C,⟨_,rfl,O5.mono (zD a.size u.size),a.trans (X.mono a.size)⟩,L5.1,L5.2⟩
 ·have d2:((l2.length:Int)==0)=false:=by simpa using O
  obtain⟨j,hn,hj⟩:∃j:Nat,max f 0 % (l2.length:Int)=(j:Int)/\j < l2.length:=⟨((max f 0) % (l2.length:Int)).toNat,by have:=Int.emod_nonneg (max f 0) (b:=(l2.length:Int)) (by omega);omega,by have:=Int.emod_lt_of_pos (max f 0) (b:=(l2.length:Int)) (by omega);have:=Int.emod_nonneg (max f 0) (b:=(l2.length:Int)) (by omega);omega⟩;obtain⟨Z,hE,_,ha⟩:=l8 (P:=prog) 34 3 i0 underlying34 hi 1 D .i64 t l2.length c2 (j:Int) j rfl (by omega) hq;have hF:=eo (P:=prog) 34 3 i0 underlying34 hi .i64 t l2.length c2 j (by omega);have R9:Hid (Rw aC M (.slice Z (l2.length - j) (c2 - j)) (l2.drop j)):=aH (by
   obtain⟨A',c',e',he,U⟩:=O3.out;injection e' with e1 _ N;subst e1;subst N;refine⟨Z,c2 - j,by simp,by simp;omega,?_⟩;have:=ha _ _ _ U;rw[dP]at this ⊢;rw[List.map_drop,qB];rw[wC]at this;exact this)
  have R8:Hid (Rw aC M (.slice t j c2) (l2.take j)):=aH (by have:=(aK.ch (E:=aC) ht (Nat.le_of_lt hj)).rw;exact this);have hD:=aH hn;have L9:Hid ((l2.drop j++l2.take j).length<=64/\∀z∈l2.drop j++l2.take j,bN z):=aH ⟨by have:=S.1;simp;omega,fun z hz=>by
   rcases zK.1 hz with h|h
   ·exact S.2 z (jK h)
   ·exact S.2 z (qZ h)⟩
  have hh:((l2.drop j).length+(l2.take j).length)*8<=140737488355328:=by have:=S.1;simp;omega
  have hA:=aH hh;clear ha hh;go_wp2_with fail;go_region_held3 (fun w'=>Ce w' w2.heap.size 0 (.slice t l2.length c2))
   (first|exact Y|exact aD B (aD i.drew Y)|exact aD B (aD i Y)|exact aD (bD _) Y|exact aD (ba _ _) Y)
   (first
    |(go_at_call 45
      have i:=ba w5 (.cells #[.slice Z (l2.length - j) (c2 - j),.slice t j c2] 34);refine Calls.mono (rQ w5.heap.size _ (am.new w5 34 #[.slice Z (l2.length - j) (c2 - j),.slice t j c2]) (by first|exact(R9.below y).below i|exact(R9.below y).below i.drew) (by first|exact(R8.below y).below i|exact(R8.below y).below i.drew) hA) ?_;rintro _e w7 ⟨v7,rfl,hb,B⟩))
  all_goals
   have O7:=aH hb;have m:=ba w5 (.cells #[.slice Z (l2.length - j) (c2 - j),.slice t j c2] 34);have B7:=aH (by first|exact m.trans (B.mono m.size)|exact m.drew.trans (B.mono m.size));obtain⟨A7,c7,hB,_⟩:=hb.rw.slice;clear hb B i m;subst hB;go_wp2_with fail;go_ret;exact⟨_,⟨_,rfl,O7.mono (by have h1:=a.size;have O:=X.size;simp;omega),a.trans ((X.trans (B7.mono X.size)).mono a.size)⟩,L9.1,L9.2⟩
theorem tj(k:Int)(b:Nat){v}(f:Ce w b 0 v)(hv:Rw aC w v l)(g:l.length<=1000):Cs 129 #[I6 k,Pt b] w fun e w'=>Rt e (.bool (!l.contains k))/\w=w':=by
 have a:=aH (cS k w hv (by omega));obtain⟨A,c,rfl,_⟩:=hv.slice;generalize l.contains k=bb at a;apply cI;go_in;go_wp2_with fail;refine a.mono ?_;rintro h i ⟨rfl,rfl⟩;go_wp2;go_ret;exact⟨rfl,rfl⟩
theorem xb:∃a,prog.info? 3=some a/\a.size=1:=by
 obtain⟨a,hi,_,b,_⟩:=info_parts aC.info;exact⟨a,hi,b⟩
theorem Gb{A}(j:Nat)(k:j<=l.length)(m:l.length<=c):∃a,(∀w,(Instr.slice 34 (.slice A l.length c) (some (I6 (j:Int))) none none).run prog w=.ok (.slice a (l.length - j) (c - j)) w)/\∀w,Rw aC w (.slice A l.length c) l->Rw aC w (.slice a (l.length - j) (c - j)) (l.drop j):=by
 obtain⟨n,hi,f⟩:=xb;obtain⟨a,g,_,b⟩:=l8 (P:=prog) 34 3 n underlying34 hi 1 f .i64 A l.length c (j:Int) j rfl k m;refine⟨a,g,fun w h=>?_⟩;obtain⟨s,t,p,q,i⟩:=h;injection p with e1 _ e3;subst e1;subst e3;refine⟨a,c - j,by simp,by simp;omega,?_⟩;have:=b _ _ _ i;rw[dP]at this ⊢;rw[List.map_drop,qB];rw[wC]at this;exact this
theorem Gc{g o:Nat}(i:Nat)(s:i < l.length)(F:l.length<=c):(∀w,(Instr.slice 34 (.slice (some ⟨g,o,none⟩) l.length c) (some (I6 (i:Int))) (some (I6 ((i:Int)+1))) (some (I6 ((i:Int)+1)))).run prog w=.ok (.slice (some ⟨g,o+i,none⟩) 1 1) w)/\∀w,Rw aC w (.slice (some ⟨g,o,none⟩) l.length c) l->Rw aC w (.slice (some ⟨g,o+i,none⟩) 1 1) [l[i]]:=by
 obtain⟨G,hi,m⟩:=xb;refine⟨fun w=>?_,fun w h=>?_⟩
 ·have t:(0:Int)<=(i:Int):=by omega
  have x:(i:Int)+1<=(c:Int):=by omega
  have y:(i:Int)<=(i:Int)+1:=by omega
  have z:(0:Int)<=(i:Int)+1:=by omega
  have A:((i:Int)+1).toNat=i+1:=by omega
  have B:¬(i+1 - i=0):=by omega
  simp[Instr.slice,run_underlying underlying34,Instr.sliceBounds,run_sliceBound,sizeOf,typeInfo,hi,m,t,x,y,z,A,B,Addr.add_lit]
 ·obtain⟨H,I,C,D,n⟩:=h;injection C with e1 _ e3;subst e1;subst e3;obtain⟨J,f⟩:=n;obtain⟨g',o',p,a,k,b⟩:=f (by omega);injection a with a;injection a with a e4;subst a;subst e4;refine⟨_,1,rfl,nR,by rw[dP];rfl,fun _=>⟨g,o+i,p,rfl,k,fun j u hu=>?_⟩⟩;rw[dP]at hu b;have q:j=0:=by
   rcases j with _|j
   ·rfl
   ·simp at hu
  subst q;have:=b i u (by simp[s]at hu ⊢;exact hu);simpa using this
def EC(b:Nat)(a1 a2 a3 a4:Int)(vl vb vc:Value)(dn dm rc lg:Int)(W:World):Prop:=W.cell? ⟨b,14,none⟩=some (I6 a1)/\W.cell? ⟨b,15,none⟩=some (I6 a2)/\W.cell? ⟨b,16,none⟩=some (I6 a3)/\W.cell? ⟨b,17,none⟩=some (I6 a4)/\W.cell? ⟨b,18,none⟩=some (I6 0)/\W.cell? ⟨b,19,none⟩=some (.string (aF []))/\W.cell? ⟨b,20,none⟩=some vl/\W.cell? ⟨b,21,none⟩=some vb/\W.cell? ⟨b,22,none⟩=some vc/\W.cell? ⟨b,23,none⟩=some (aS)/\W.cell? ⟨b,24,none⟩=some (aS)/\W.cell? ⟨b,25,none⟩=some (I6 dn)/\W.cell? ⟨b,26,none⟩=some (I6 dm)/\W.cell? ⟨b,27,none⟩=some (I6 rc)/\W.cell? ⟨b,28,none⟩=some (I6 lg)
theorem ED{cs0:List Value}{vl vb vc}{r:Rp}{x0 x1 x2 x3 x4}(a:am w g.blk 207 ([x0,x1,x2,x3,x4]++oM r++[I6 a1,I6 a2,I6 a3,I6 a4,I6 0,.string (aF []),vl,vb,vc,aS,aS,I6 dn,I6 dm,I6 rc,I6 lg]).toArray):EC g.blk a1 a2 a3 a4 vl vb vc dn dm rc lg w:=
 ⟨am.cell a 14,am.cell a 15,am.cell a 16,am.cell a 17,am.cell a 18,am.cell a 19,am.cell a 20,am.cell a 21,am.cell a 22,am.cell a 23,am.cell a 24,am.cell a 25,am.cell a 26,am.cell a 27,am.cell a 28⟩
theorem DZ{Aa Ab Ac}{r:Rp}{t:Nat}(a:g.tl=some t)(W:World)(b:am W g.blk 207 ([I6 g.op,I6 (g.ref:Nat),I6 (g.part:Nat),dS g.tl,dS (g.cl.map (·.1))]++oM r++[I6 a1,I6 a2,I6 a3,I6 a4,I6 0,.string (aF []),Aa,Ab,Ac,aS,aS,I6 dn,I6 dm,I6 rc,I6 lg]).toArray):
  EC g.blk a1 a2 a3 a4 Aa Ab Ac dn dm rc lg W/\Ce W g.blk 3 (Pt t):=⟨ED (cs0:=[]) b,by have:=am.cell b 3;rw[a]at this;exact this⟩
theorem EE(h:∀z∈[a1,a2,a3,a4,dn,dm,rc,lg],bN z):∀z∈ij ⟨a1,a2,a3,a4,0,[],dn,dm,rc,lg⟩,bN z:=fun z hz=>by
 simp[ij]at hz
 rcases hz with rfl|rfl|rfl|rfl|rfl|rfl|rfl|rfl|rfl
 all_goals first|(unfold bN;omega)|(exact h _ (by simp))
theorem xk(h:aE E Rf N T B none rsv o w)(hB:B<=900000000)(i:eT E Rf N.i o w g):
  Cs 64 #[Pt N.nb,Pt g.blk] w (GY E Rf N T (B+2000) none rsv o w):=by
 have V:N.wm < w.heap.size:=by obtain⟨next,hL,hN⟩:=h.rest;obtain⟨dead,vr,vl,reps,lets,ws,qc,hv⟩:=hN.v;exact hv.wm.lt
 obtain⟨r,h8,z,⟨a1,a2,a3,a4,vl,vb,vc,dn,dm,rc,lg,rfl,⟨ls,lb,lc,r1,r2,r3,xa,xb,hM,X,Y⟩,hI⟩,hs⟩:=i.cells;obtain⟨Aa,ca,rfl,_⟩:=r1.rw.slice;obtain⟨Ab,cb,rfl,_⟩:=r2.rw.slice;obtain⟨Ac,cc,rfl,_⟩:=r3.rw.slice;have M:=ef z;have H:=aH h;cases htl:g.tl with
 |none=>
  rw[htl]at M;have hO:Ce w g.blk 3 (.pointer none):=M;clear h i z hs M r1 r2 r3 hM X Y hI;apply cI;go_in;go_wp2_with fail;go_end0;exact⟨⟨rfl,o,H.more (T':=0) (by omega),.refl H.fin⟩,rfl⟩
 |some t=>
  rw[htl]at M;have hO:Ce w g.blk 3 (Pt t):=M;have hD:Bw w w.drew:=bD _;obtain⟨HD,HT⟩:=gB hD ((i.tal t htl).below hD);have hP:=i.tal t htl;have Z:¬((0,0):Nat×Nat).1=N.i:=fun e=>h.i0 e.symm;obtain⟨hQ,ht⟩:=gB (kx o t (N.i,t) w.drew HT) i.own;have FI:Hid (∀b,w.heap.size<=b->o b=(0,0)):=aH h.fin;have I:=aH z;have SZ:Hid (fC ls lb lc):=aH ⟨by omega,by omega,fun m hm=>(hM m hm).lt,X,Y⟩;obtain⟨HM,HI,R⟩:=gC hM (EE hI) (zB r1 (zB r2 r3));have hK:=ED (cs0:=[]) z;have q:=aH (DZ (Aa:=.slice Aa ls.length ca) (Ab:=.slice Ab lb.length cb) (Ac:=.slice Ac lc.length cc) (a1:=a1) (a2:=a2) (a3:=a3) (a4:=a4) (dn:=dn) (dm:=dm) (rc:=rc) (lg:=lg) (r:=r) htl);clear h i z hs M r1 r2 r3 hM X Y hI hK hD;apply cI;go_in;go_wp2_with fail;go_region_held3
   (fun W=>(Ce W g.blk 14 (I6 a1)/\Ce W g.blk 15 (I6 a2)/\Ce W g.blk 16 (I6 a3)/\Ce W g.blk 17 (I6 a4)/\Ce W g.blk 18 (I6 0)/\Ce W g.blk 19 (.string (aF []))/\Ce W g.blk 20 (.slice Aa ls.length ca)/\Ce W g.blk 21 (.slice Ab lb.length cb)/\Ce W g.blk 22 (.slice Ac lc.length cc)/\Ce W g.blk 23 (aS)/\Ce W g.blk 24 (aS)/\Ce W g.blk 25 (I6 dn)/\Ce W g.blk 26 (I6 dm)/\Ce W g.blk 27 (I6 rc)/\Ce W g.blk 28 (I6 lg))/\Ce W g.blk 3 (Pt t))
   (first|exact q _ I|exact q _ (I.below HD)|exact q _ b7|exact q _ C|exact q _ b9)
   (first
    |(go_at_call 124;(with_reducible refine(hQ.out).mono ?_);rintro u w7 ⟨l7,⟨v7,rfl,hu,hc⟩,hR,_⟩;have s:=HD.trans (hc.mono HD.size);have b7:=I.below s)
    |(go_at_call 70;(with_reducible refine(dT (H.out.below s).ah hu.rw hR).mono ?_);rintro u w8 ⟨l8,⟨v8,rfl,D,n⟩,hd,_⟩;have f:=s.trans (n.mono s.size);have C:=I.below f)
    |(go_at_call 68;(with_reducible refine(lr (x:=⟨a1,a2,a3,a4,0,[],dn,dm,rc,lg⟩) (H.out.below f) (by omega) (tl:=[]) (pl:=[]) ⟨⟨R.out.1.rw.below f,R.out.2.1.rw.below f,R.out.2.2.rw.below f⟩,SZ.out,(RI.nil o _).rw,by simp,(fun a ha=>absurd ha (by simp)),(RI.nil o _).rw,by simp,(fun a ha=>absurd ha (by simp)),by simp⟩ HM.out HI.out (RI.aa D (fun bb hbb=>FI.out bb (zD s.size hbb))) hd).mono ?_);rintro u w9 ⟨⟨rfl,o9,h9,s9⟩,m9⟩;have b9:=(s9.k.que _ _ ht C).2))
  all_goals
   obtain⟨p,y⟩:=gB h9 ((Sk.J (N:=N) f H.fin).trans s9);have M9:Hid (w9.heap[N.wm]?=w.heap[N.wm]?):=aH (m9.trans (f.block _ V));obtain⟨O,T9,R9,hS⟩:=gD b9 (y.k.tal t (hP)) (zB (R.1.st y.s Z) (zB (R.2.1.st y.s Z) (R.2.2.st y.s Z))) ((s9.k.que _ _ ht C).1);have e0:=ce O;clear h9 s9 m9 b9 C b7 f s hc n hu D;by_cases hop:g.op=3
   case neg=>
    have d3:(g.op != 3)=true:=by simpa using hop
    go_wp2_with fail;go_end0;exact⟨⟨rfl,o9,p.more (T':=0) (by omega),y⟩,M9⟩
   have d3:(g.op != 3)=false:=by simpa using hop
   have he:Bw w9 w9.drew:=bD _;have hf:=aH he;have y1:=p.cells.st;have e2:=ed O;have KR:=aH (fun W (z:Bw w9 W)=>show Ce W N.nb 1 (Pt N.st)/\Ce W g.blk 2 (I6 (g.part:Nat))from⟨aD z y1,aD z e2⟩);obtain⟨n9,xc,xd,hg⟩:=(p.below he).state;have hT:=aH (lj hg);clear hg he;go_upto_region 3 with(fail);clear e0;go_region_held3 (fun W=>Ce W N.nb 1 (Pt N.st)/\Ce W g.blk 2 (I6 (g.part:Nat)))
    (first|exact KR _ hf|exact KR _ C1|exact KR _ C2|exact KR _ S)
    (first
     |(go_at_call 66;(with_reducible refine(hT.out).mono ?_);rintro u x1 ⟨m1,⟨u1,rfl,p1,hw⟩,hU,hx⟩;have C1:=aH (hf.trans (hw.mono hf.size)))
     |(go_at_call 126;(with_reducible refine(pE x1 p1.rw hU hx).mono ?_);rintro u x2 ⟨m2,⟨u2,rfl,p2,hy⟩,hV,_⟩;have C2:=aH (C1.trans (hy.mono C1.size)))
     |(go_at_call 125;(with_reducible refine(oA (g.part:Nat) x2 p2.rw (zD hV (by decide))).mono ?_);rintro u x3 ⟨m3,⟨u3,rfl,p3,hz⟩,xe,_⟩;have S:=aH (C2.trans (hz.mono C2.size))))
   obtain⟨A3,k3,rfl,hX⟩:=p3.rw.slice;have xf:=p.cfg.2.1;obtain⟨j,hj,hY⟩:∃j:Nat,min N.c1 (m3.length:Int)=(j:Int)/\j<=m3.length:=⟨(min N.c1 (m3.length:Int)).toNat,by omega,by omega⟩;obtain⟨A9,hh,hA⟩:=Gb (A:=A3) (c:=k3) j hY hX;have v3:=hA _ p3.rw;have J:m3.length - j<=k3 - j:=by omega
   obtain⟨L,hL⟩:=nx (m3.drop j);have hk:m3.length - j=L.length:=by rw[<-hL];simp
   have xg:L.length<=1000:=by omega
   rw[hL,hk]at v3;rw[hk]at hh J;obtain⟨kk,hC⟩:=nx (k3 - j);rw[hC]at v3 hh J;have V3:=aH v3;have f2:=(p.below S).cells.c1;have e3:Ce x3 g.blk 3 (Pt t):=(q _ (O.below S)).2;obtain⟨hZ,HJ⟩:=gB (BW o9 t (N.i,t) x3 (T9.below S)) hj;clear p1 p2 p3 hw hy hz hx hA y1 e2 C1 C2 v3 hL hk hC;go_wp2_with fail;refine hZ.mono ?_;rintro u x4 ⟨m4,⟨u4,rfl,p4,hl⟩,xh,_⟩;obtain⟨A4,k4,rfl,xi⟩:=p4.rw.slice;obtain⟨W5,h0,q5,n5⟩:=dW x4 #[.slice A4 m4.length k4] 34;have hn:=hl.trans (q5.mono hl.size);obtain⟨C5,V5⟩:=gB (S.trans (hn.mono S.size)) (V3.below hn);have hE:=aH (tX 129 #[Pt x4.heap.size] (fun k=>!m4.contains k) A9 kk L W5 V5 (by omega) (aQ func129 (by kernel_rfl) (by kernel_rfl)) (fun k W hW=>(tj k x4.heap.size (am.cell (n5.below hW) 0) ((p4.rw.below q5).below hW) (by omega)).mono (fun e w' h=>⟨h.1,by rw[<-h.2];exact bR _⟩)));obtain⟨F,hF⟩:=nx (bO (fun k=>!m4.contains k) L);rw[hF]at hE;clear p4 hl q5 n5 hn hF f2 e3 hh hj;go_upto_region 6 with(fail);simp only[h0.out];go_wp2_with fail;refine hE.mono ?_;rintro u x6 ⟨rfl,ho⟩;obtain⟨U,V6⟩:=gB (C5.trans (ho.mono C5.size)) (V5.below ho);have SF:=aH (y.trans (.J U p.fin));have MF:Hid (x6.heap[N.wm]?=w.heap[N.wm]?):=aH ((U.block _ (zT V y.s.size)).trans M9);clear ho;by_cases i:F < L.length
   case neg=>
    have G:ey F L.length= -1:=by unfold ey;rw[if_neg i]
    rw[G];clear G;go_wp2_with fail;go_end0;exact⟨⟨rfl,o9,(p.below U).more (T':=0) (by omega),SF⟩,MF⟩
   have G:ey F L.length=(F:Nat):=by unfold ey;rw[if_pos i]
   rw[G];clear G;have xj:IntKind.i64.wrap ((F:Int)+1)=(F:Int)+1:=zZ _ (by omega);obtain⟨gg,og,rfl,_⟩:=V6.at_ (zA i);have hcut:=(Gc (g:=gg) (o:=og) F i J).1;have hp:Bw x6 x6.drew:=bD _;obtain⟨C7,V7⟩:=gB (U.trans (hp.mono U.size)) ((Gc (g:=gg) (o:=og) F i J).2 _ (V6.below hp));have M7:Hid (x6.drew.heap[N.wm]?=w.heap[N.wm]?):=aH MF;have h1:Hid (∀b,w9.heap.size<=b->o9 b=(0,0)):=aH p.fin;have h2:=aH (dT (p.below C7).ah V7 (by simp));clear hp;go_wp2_with fail;go_region_held3
    (fun W=>(Ce W g.blk 14 (I6 a1)/\Ce W g.blk 15 (I6 a2)/\Ce W g.blk 16 (I6 a3)/\Ce W g.blk 17 (I6 a4)/\Ce W g.blk 18 (I6 0)/\Ce W g.blk 19 (.string (aF []))/\Ce W g.blk 20 (.slice Aa ls.length ca)/\Ce W g.blk 21 (.slice Ab lb.length cb)/\Ce W g.blk 22 (.slice Ac lc.length cc)/\Ce W g.blk 23 (aS)/\Ce W g.blk 24 (aS)/\Ce W g.blk 25 (I6 dn)/\Ce W g.blk 26 (I6 dm)/\Ce W g.blk 27 (I6 rc)/\Ce W g.blk 28 (I6 lg))/\Ce W g.blk 3 (Pt t))
    (first|exact q _ (O.below C7)|exact q _ (O.below U)|exact q _ C|exact q _ hG)
    (first
     |(go_at_call 70;(with_reducible refine(h2.out).mono ?_);rintro u w8 ⟨l8,⟨v8,rfl,D,n⟩,hd,_⟩;have f:=C7.trans (n.mono C7.size);have C:=O.below f)
     |(go_at_call 68;(with_reducible refine(lr (x:=⟨a1,a2,a3,a4,0,[],dn,dm,rc,lg⟩) (p.out.below f) (by omega) (tl:=[]) (pl:=[]) ⟨⟨R9.out.1.rw.below f,R9.out.2.1.rw.below f,R9.out.2.2.rw.below f⟩,SZ.out,(RI.nil o _).rw,by simp,(fun a ha=>absurd ha (by simp)),(RI.nil o _).rw,by simp,(fun a ha=>absurd ha (by simp)),by simp⟩ HM.out HI.out (RI.aa D (fun bb hbb=>h1.out bb (zD C7.out.size hbb))) hd).mono ?_);rintro u h3 ⟨⟨rfl,h4,hH,hr⟩,hJ⟩;have hG:=(hr.k.que _ _ hS C).2))
   all_goals
    obtain⟨h5,h6⟩:=gB hH (y.trans ((Sk.J (N:=N) f p.fin).trans hr));have h7:Hid (h3.heap[N.wm]?=w.heap[N.wm]?):=aH (hJ.trans ((f.block _ (zT V y.s.size)).trans M9));clear hH hr hJ hG C f n D;go_wp2_with fail;go_end0;exact⟨⟨rfl,h4,h5,h6⟩,h7⟩
theorem Fp{A}(j:Nat)(m:j<=l.length)(p:l.length<=c):∃b,(∀w,(Instr.slice 34 (.slice A l.length c) (some (I6 (j:Int))) none none).run prog w=.ok (.slice b (l.length - j) (c - j)) w)/\∀o w,RI aC o w (.slice A l.length c) l->RI aC o w (.slice b (l.length - j) (c - j)) (l.drop j):=by
 obtain⟨q,hi,g⟩:=xb;obtain⟨b,i,f,s⟩:=xI (P:=prog) 34 3 q underlying34 hi 1 g .i64 A l.length c (j:Int) j rfl m p;refine⟨b,i,fun o w h=>⟨?_,fun a n t e hn=>?_⟩⟩
 ·obtain⟨C,t,u,B,k⟩:=h.1;injection u with e1 _ e3;subst e1;subst e3;refine⟨b,c - j,by simp,by simp;omega,?_⟩;have:=f _ _ _ k;rw[dP]at this ⊢;rw[List.map_drop,qB];rw[wC]at this;exact this
 ·injection e with e1 e2 e3;obtain⟨x,y,z⟩:=s a e1;rw[z];exact h.2 x l.length c (by rw[y]) (by omega)
def Hb(T base:Nat)(o:Ow)(r:Nat)(x:Nat×Nat)(w:World)(e:Ending)(w':World):Prop:=∃(ask:Int) (t:Bool) (v:Value) (l:List Pe),Rt e (.tuple #[I6 ask,.bool t,v])/\e4 base w' v l/\ee T o w' r x/\St (·=x) o w o w'
structure rx(T:Nat)(o:Ow)(w:World)(r b:Nat)(x:Nat×Nat)(a1 a2 a3 a4 a5:Int)(A:Option Addr)(c:Nat)(q:IM)(l:List Int):Prop where
 or_:o r=x
 blk:am w r 195 #[I6 a1,I6 a2,I6 a3,I6 a4,I6 a5,.map (some b),.slice A l.length c]
 ob:o b=x
 map:b4 w b q
 iv:∀p∈q,Ci p
 qn:q.length<=T
 row:RI aC o w (.slice A l.length c) l
 ln:l.length<=64
 li:∀z∈l,bN z
section
variable{x:Nat × Nat}{a5:Int}{A:Option Addr}{q:IM}
theorem rx.at_(h:rx T o w r b x a1 a2 a3 a4 a5 A c q l):ee T o w r x:=⟨h.or_,a1,a2,a3,a4,a5,b,_,q,l,h.blk,h.ob,h.map,h.iv,h.qn,h.row,h.ln,h.li⟩
theorem ee.ex(h:ee T o w r x):∃b a1 a2 a3 a4 a5 A c q l,rx T o w r b x a1 a2 a3 a4 a5 A c q l:=by
 obtain⟨f,a1,a2,a3,a4,a5,b,v,q,l,g,i,j,k,m,a,n,p⟩:=h;obtain⟨A,c,rfl,_⟩:=a.rw.slice;exact⟨b,a1,a2,a3,a4,a5,A,c,q,l,f,g,i,j,k,m,a,n,p⟩
theorem rx.below(h:rx T o w r b x a1 a2 a3 a4 a5 A c q l)(a:Below w.heap.size w w')(hf:aX o w):rx T o w' r b x a1 a2 a3 a4 a5 A c q l:=⟨h.or_,h.blk.below a,h.ob,h.map.below a,h.iv,h.qn,h.row.below a hf,h.ln,h.li⟩
theorem rx.due(h:rx T o w r b x a1 a2 a3 a4 a5 A c q l)(hf:aX o w)(f:x≠(0,0))(z:Int):rx T o (w.setCell ⟨r,4,none⟩ (I6 z)) r b x a1 a2 a3 a4 z A c q l:=by
 have a:=aB w r 4 (I6 z);have g:St (·=x) o w o (w.setCell ⟨r,4,none⟩ (I6 z)):=.U a h.or_ hf;exact⟨h.or_,am.I h.blk 4 _,h.ob,h.map.only a (h.map.ne h.blk),h.iv,h.qn,h.row.st g f.symm,h.ln,h.li⟩
theorem rx.round{A'}{l':List Int}(h:rx T o w r b x a1 a2 a3 a4 a5 A c q l)(hf:aX o w)(g:x≠(0,0))(i:RI aC o w (.slice A' l'.length a) l')(j:l'.length<=64)(hi:∀z∈l',bN z):rx T o (w.setCell ⟨r,6,none⟩ (.slice A' l'.length a)) r b x a1 a2 a3 a4 a5 A' a q l':=by
 have f:=aB w r 6 (.slice A' l'.length a);have k:St (·=x) o w o (w.setCell ⟨r,6,none⟩ (.slice A' l'.length a)):=.U f h.or_ hf;exact⟨h.or_,am.I h.blk 6 _,h.ob,h.map.only f (h.map.ne h.blk),h.iv,h.qn,i.st k g.symm,j,hi⟩
theorem rx.mono(h:rx T o w r b x a1 a2 a3 a4 a5 A c q l)(a:T<=T'):rx T' o w r b x a1 a2 a3 a4 a5 A c q l:=⟨h.or_,h.blk,h.ob,h.map,h.iv,zD h.qn a,h.row,h.ln,h.li⟩
theorem e4.set{v}{pl}{cs}{j:Nat}{u}(h:e4 base w v pl)(a:am w r 195 cs):e4 base (w.setCell ⟨r,j,none⟩ u) v pl:=h.keep (aB w r j u) (aK.ne (E:=aL) h.1 a (by decide))
theorem rx.set(h:rx T o w r b x a1 a2 a3 a4 a5 A c q l)(hf:aX o w)(g:x≠(0,0))(j:Nat) v:b4 (w.setCell ⟨r,j,none⟩ v) b q/\RI aC o (w.setCell ⟨r,j,none⟩ v) (.slice A l.length c) l/\St (·=x) o w o (w.setCell ⟨r,j,none⟩ v):=by
 have a:=aB w r j v;have f:St (·=x) o w o (w.setCell ⟨r,j,none⟩ v):=.U a h.or_ hf;exact⟨h.map.only a (h.map.ne h.blk),h.row.st f g.symm,f⟩
end
theorem xc{o}{x}{v}{l}(n hb:Int)(h:ee T o w r x)(hT:T<=999999)(hf:aX o w)(k:x≠(0,0))(hv:e4 base w v l)(J:base<=w.heap.size):
  Cs 65 #[Pt r,v,I6 n,I6 hb] w (Hb (T+1) base o r x w):=by
 have HM:=aH (oq h);obtain⟨A0,c0,rfl,_⟩:=hv.1.rw.slice;obtain⟨b,a1,a2,a3,a4,a5,A,c,q,lr,f⟩:=h.ex;obtain⟨X,HV,HF⟩:=gC f hv hf;have y3:=ef f.blk;have yf:=fun j=>am.frozen f.blk j;obtain⟨m1,r1,s1⟩:=f.set hf k 3 (I6 (max a4 n));have b1:=am.I f.blk 3 (I6 (max a4 n));have hm:=aB w r 3 (I6 (max a4 n));have M:e4 base (w.setCell ⟨r,3,none⟩ (I6 (max a4 n))) (.slice A0 l.length c0) l:=hv.keep hm (aK.ne (E:=aL) hv.1 f.blk (by decide));obtain⟨W1,hn⟩:=nM (w.setCell ⟨r,3,none⟩ (I6 (max a4 n)));rw[hn]at m1 r1 s1 b1 M;have X1:Hid (rx T o W1 r b x a1 a2 a3 (max a4 n) a5 A c q lr):=aH ⟨f.or_,b1,f.ob,m1,f.iv,f.qn,r1,f.ln,f.li⟩;obtain⟨S1,P1⟩:=gB s1 M;have s:Bw W1 W1.drew:=bD _;have hc:ee T o W1.drew r x:=X1.at_.st (St.J (p:=fun _=>False) s s1.far) _root_.id _root_.id;have ho:=aH (xa hc (by omega) (s1.far) k (M.below s) (zD J (zD s1.size s.size)));have y0:=ce (b1.below s);have hq:=aH s;have hH:r < W1.drew.heap.size:=ap (b1.below s);clear h hv hf f m1 r1 s1 b1 hm M s hc;apply cI;go_in;go_wp2_with fail;refine HM.mono ?_;rintro _e _w ⟨rfl,rfl⟩;go_upto_region 4 with(fail);simp only[hn.out];clear y3 yf;go_region_held3 (fun W=>Ce W r 0 (I6 a1))
  (first|exact y0|exact y2|exact aD O y2)
  (first
   |(go_at_call 133;(refine(ho).mono ?_);rintro _e w2 ⟨⟨v2,l2,rfl,N⟩,hd,C,hr⟩;have y2:Ce w2 r 0 (I6 a1):=ea y0 hr)
   |(go_at_call 132;(refine(sF a1 w2 N.1.rw N.2.1 N.2.2).mono ?_);rintro _e w3 ⟨m,⟨v3,rfl,he,O⟩,hI,hs⟩))
 have hg:=(hd.st (St.J (p:=fun _=>False) O C.far) _root_.id _root_.id);have S3:=aH ((S1.trans (St.J hq S1.far)).trans (C.trans (St.J O C.far)));obtain⟨b,a1,a2,a3,a4,a5,A,c,q,lr,ht⟩:=hg.ex;have P3:Hid (e4 base w3 v3 m):=aH ⟨he.mono (zD J (zD S1.size (zD hq.size C.size))),hI,hs⟩;obtain⟨D,c3,rfl,_⟩:=he.rw.slice;have R:Bw w3 w3.drew:=bD _;obtain⟨X4,S4,P4⟩:=gC (ht.below R S3.far) (S3.below R) (P3.below R);have S:Below w3.drew.heap.size w3.drew w3.drew.drew:=bD _;obtain⟨F,S5,P5⟩:=gC (X4.below S S4.far) (S4.below S) (P4.below S);have y3:=ef X4.blk;have y4:=eV X4.blk;clear hd hg C hr N he O hs ht y0 y2 hH ho R S;go_wp2_with fail;refine aN 8 (by kernel_rfl) (by kernel_rfl) ?_;simp only[zF,zN,zG,zO];repeat still_step
 refine wpStill_nil ?_;by_cases hlt:a4 < a5
 ·have d1:decide (a4 < a5)=true:=by simpa using hlt
  go_wp2_with fail;refine bodyPost_ret (v:=.tuple #[I6 0,.bool false,(.slice D m.length c3)]) (by simp[results,results65,go_sem]) rfl ?_;exact⟨0,false,(.slice D m.length c3),m,rfl,P4,(X4).at_.mono (by omega),S4⟩
 have d1:decide (a4 < a5)=false:=by simpa using hlt
 have z1:=dt F.blk;have z3:=ef F.blk;have z4:=eV F.blk;have zf:=fun j=>am.frozen F.blk j;obtain⟨hu,U,hh⟩:=gC (fun z=>F.due S5.far k z) (fun z=>P5.set (j:=4) (u:=I6 z) F.blk) (fun z=>S5.trans (F.set S5.far k 4 (I6 z)).2.2);have hJ:=aH (fun z=>ti hb (hu z).at_ (U z).1.rw (U z).2.1 (U z).2.2);clear y3 y4;go_wp2_with fail;refine aN 12 (by kernel_rfl) (by kernel_rfl) ?_;simp only[zF,zN,zG,zO];repeat still_step
 refine wpStill_nil ?_;go_wp2_with fail;refine(hJ _).mono ?_;rintro _e w7 ⟨i,⟨v7,rfl,hj,V⟩,hw,Y⟩;obtain⟨X7,P7,S7⟩:=gC ((hu _).below V (hh _).far) ((U _).below V) ((hh _).below V);obtain⟨A7,G,rfl,hx⟩:=hj.rw.slice;have R7:=aH (RI.aa (o:=o) hj (hh _).far);obtain⟨y,P8,S8⟩:=gC (X7.round S7.far k R7 hw Y) (P7.set (j:=6) (u:=.slice A7 i.length G) X7.blk) (S7.trans (X7.set S7.far k 6 (.slice A7 i.length G)).2.2);have y6:=fa X7.blk;have yf:=fun j=>am.frozen X7.blk j;obtain⟨W8,hy⟩:=nM (w7.setCell ⟨r,6,none⟩ (.slice A7 i.length G));rw[hy]at y P8 S8;have x6:=fa y.blk;clear z1 z3 z4 zf hj V;go_upto_region 9 with(fail);simp only[hy.out];clear y6 yf;by_cases h0:i.length=0
 ·have d0:((i.length:Int)==0)=true:=by simpa using h0
  go_wp2_with fail;refine bodyPost_ret (v:=.tuple #[I6 0,.bool false,(.slice D m.length c3)]) (by simp[results,results65,go_sem]) rfl ?_;exact⟨0,false,(.slice D m.length c3),m,rfl,P8,(y).at_.mono (by omega),S8⟩
 have d0:((i.length:Int)==0)=false:=by simpa using h0
 obtain⟨L,hL⟩:=nx (i.drop 1);have hk:i.length - 1=L.length:=by rw[<-hL];simp
 have hA:∀z∈L,bN z:=fun z hz=>Y z (by rw[<-hL]at hz;exact jK hz);obtain⟨A9,H,hB⟩:=Fp (A:=A7) (c:=G) 1 (by omega:1<=i.length) hx;have r9:=hB o W8 y.row;rw[hL,hk]at r9;rw[hk]at H;have hC:∀w,(Instr.slice 34 (.slice A7 i.length G) (some (I6 1)) none none).run prog w=.ok (.slice A9 L.length (G - 1)) w:=H;have hK:L.length<=64:=by omega
 generalize G - 1=c9 at hC r9;obtain⟨g,og,rfl,Z⟩:=y.row.rw.at_ (zA (by omega:0 < i.length));have hD:Ce W8 g og (I6 i[0]):=by have:=Z 0 _ rfl;simpa[aC]using this
 have I:=Y i[0] (zY _);generalize i[0]=ask at hD I;have HL:=aH hA;have yf:=fun j=>am.frozen y.blk j;obtain⟨X9,P9,S9⟩:=gC (y.round S8.far k r9 hK HL) (P8.set (j:=6) (u:=.slice A9 L.length c9) y.blk) (S8.trans (y.set S8.far k 6 (.slice A9 L.length c9)).2.2);obtain⟨W9,hE⟩:=nM (W8.setCell ⟨r,6,none⟩ (.slice A9 L.length c9));rw[hE]at X9 P9 S9;obtain⟨z,t,_,hP⟩:=oo X9.map X9.iv ask;have y5:=e9 X9.blk;have ha:Bw W9 W9.drew:=bD _;obtain⟨a,hF,hG⟩:=gC (X9.below ha S9.far) (P9.below ha) (S9.below ha);have u5:=e9 a.blk;have u3:=ef a.blk;obtain⟨hQ,hO,hl,B⟩:=a.map.update (P:=prog) (t:=179) (kt:=3) (et:=3) (by kernel_rfl) (by kernel_rfl) ask (I6 a4);have HT:=aH (ee.aj (T':=T+1) a.or_ a.blk a.ob a.map a.row a.ln a.li B hl (fun p hp=>by
  rcases c7 hp with rfl|⟨hp,_⟩
  ·exact⟨I,_,rfl⟩
  ·exact a.iv p hp) (zD (kX _ _ _) (by have:=a.qn;omega)))
 obtain⟨hM,hN⟩:=gB (hF.keep B (aK.ak (E:=aL) hF.1 a.map)) (hG.trans (St.U (p:=(·=x)) B a.ob hG.far));clear hA hL hk H r9 hB Z Y hw hl B hx ha I;go_upto_region 13 with(fail);simp only[hE.out];clear yf x6 hD hC;cases t
 ·go_wp2_with fail;refine aN 9 (by kernel_rfl) (by kernel_rfl) ?_;simp only[zF,zN,zG,zO];repeat still_step
  refine wpStill_nil ?_;go_wp2_with fail;refine bodyPost_ret (v:=.tuple #[I6 ask,.bool true,.slice D m.length c3]) (by simp[results,results65,go_sem]) rfl ?_;exact⟨ask,true,_,m,rfl,hM,HT,hN⟩
 ·go_wp2_with fail;refine bodyPost_ret (v:=.tuple #[I6 ask,.bool true,(.slice D m.length c3)]) (by simp[results,results65,go_sem]) rfl ?_;exact⟨ask,true,(.slice D m.length c3),m,rfl,P9,(X9).at_.mono (by omega),S9⟩
section
variable{S S':cF}{w8:World}
theorem At.due(h:At E Rf N S T B hand rsv o0 w0 w)(b:Int):Cs 57 #[Pt N.due,I6 b] w fun e w'=>∃v l,Rt e v/\l.length<=4096/\At E Rf N (S.and (cF.ri dM v l)) T B hand rsv o0 w0 w':=by
 obtain⟨o,a,g,i⟩:=h;obtain⟨n,j,k⟩:=a.due;refine(BP n o N.due (N.i,N.due) b w k a.fin (by intro e;injection e with e;exact a.i0 e) j).mono ?_;rintro e w' ⟨v,l,n',m,p,s,q,f,c⟩;exact⟨v,l,m,by omega,o,a.due_ c (by omega) f,⟨S.st g c (ci a.i0),RI.aa p a.fin⟩,i.trans (gz c)⟩
theorem At.late(h:At E Rf N S T B none rsv o0 w0 w)(a:B<=900000000)(seq:Int):Cs 58 #[Pt N.nb,I6 seq] w fun e w'=>Rt e (.tuple #[])/\At E Rf N S T (B+1000) none rsv o0 w0 w':=h.nd fun o h1 _=>AE h1 a
theorem gy.waits{ws:List (Int×Qg)}(h:gy Rf ws reps hand)(f:((lY ws).map Prod.fst).Nodup)(g:∀p∈ws,Rf p.2.ref){m:Nat}(i:∀k,Rf k->k < m):ws.length<=m:=by
 have j:(ws.map fun p=>p.2.ref).Nodup:=by
  have c:(ws.map Prod.fst).Nodup:=by simpa[lY,List.map_map,Function.comp_def]using f
  rw[List.nodup_iff_pairwise_ne,jE]at c ⊢;exact c.imp_of_mem fun{a b} ha hb hne e=>hne (h.one a ha b hb e)
 have:=dY m _ j (fun x hx=>by obtain⟨p,n,rfl⟩:=zV.1 hx;exact i _ (g p n));simpa using this
theorem At.sorted(h:At E Rf N S T B none rsv o0 w0 w)(x:am w b 86 #[.map (some N.wm)]):
  Cs 62 #[.func (.func 123) #[] #[Pt b]] w fun e w'=>∃v l m,Rt e v/\l.length<=100000/\b4 w' N.wm m/\(∀z∈l,∃u,bE m z=some u)/\At E Rf N (S.and (cF.ri aC v l)) T B none rsv o0 w0 w':=by
 obtain⟨o,f,y,A⟩:=h;obtain⟨next,I,C⟩:=f.rest;obtain⟨dead,vr,vl,reps,lets,ws,qc,hv⟩:=C.v;have n:∀k,Rf k->k < E.cs.length:=fun k hk=>by obtain⟨c,D,_⟩:=f.cs.2 k hk;exact(zE.1 D).1
 have H:=hv.refs.waits hv.wm.nodup (fun p g=>(hv.wok p g).2.rf) n;have bI:=f.cs.1;refine(qo b N.wm (lY ws) w x hv.wm (fun p g=>?_) (by simp[lY];omega)).mono ?_
 ·obtain⟨q,i,rfl⟩:=zV.1 g;exact(hv.wok q i).1
 ·rintro e w' ⟨l,g,v,F,G,a⟩;have j:=g.length_eq;simp[lY]at j;refine⟨v,l,lY ws,F,by omega,hv.wm.below a,fun z hz=>?_,o,f.below a,⟨S.st (p:=fun _=>False) y (.J a f.fin) _root_.id,RI.aa G f.fin⟩,A.below a⟩;have s:=g.subset hz;obtain⟨q,i,t⟩:=zV.1 s;unfold bE;cases hf:(lY ws).find? (fun p=>p.1==z)with
  |none=>
   rw[List.find?_eq_none]at hf;exact absurd (by simpa using t) (hf q i)
  |some u=>exact⟨_,rfl⟩
theorem At.again_(h:At E Rf N S T B none rsv o0 w0 w)(f:B<=900000000){m}(i:b4 w N.wm m){z:Int}{u}(j:bE m z=some u):∃b,u=Pt b/\
  Cs 64 #[Pt N.nb,Pt b] w fun e w'=>Rt e (.tuple #[])/\At E Rf N S T (B+2000) none rsv o0 w0 w'/\w'.heap[N.wm]?=w.heap[N.wm]?:=by
 obtain⟨o,a,k,n⟩:=h;obtain⟨next,y,p⟩:=a.rest;obtain⟨dead,vr,vl,reps,lets,ws,qc,hv⟩:=p.v;obtain rfl:=x6 i hv.wm;obtain⟨g,q,rfl⟩:=rl j;refine⟨g.blk,rfl,(xk a f (hv.wok _ q).2).mono ?_⟩;rintro e w' ⟨⟨s,o',t,c⟩,x⟩;exact⟨s,⟨o',t,S.st k c.s (fun e=>a.i0 e.symm),n.trans c.s⟩,x⟩
theorem At.watch{v}{l:List Pe}(h:At E Rf N S T B hand rsv o0 w0 w)(f:Below w.heap.size w w8)(hv:aK aL w.heap.size w8 v l)(m:l.length<=64)(k:∀p∈l,cA p)(n:T<=999999)(g b:Int):
  Cs 65 #[Pt N.wt,v,I6 g,I6 b] w8 fun e w'=>∃(c:Int) (t:Bool) (v':Value) (l':List Pe),Rt e (.tuple #[I6 c,.bool t,v'])/\l'.length<=64/\(∀p∈l',cA p)/\At E Rf N (S.and (cF.ri aL v' l')) (T+1) B hand rsv o0 w0 w':=by
 obtain⟨o,a,q,s⟩:=h;have i:=a.below f;have u:St (fun y=>y.1=N.i) o w o w8:=.J f a.fin;refine(xc (base:=w.heap.size) g b i.wt.2 n i.fin (by intro e;injection e with e;exact a.i0 e) ⟨hv,m,k⟩ f.size).mono ?_;rintro e w' ⟨c,t,v',l',x,⟨z,A,C⟩,D,j⟩;exact⟨c,t,v',l',x,A,C,o,i.ds j (by omega) D,⟨S.st (S.st q u (fun e=>a.i0 e.symm)) j (ci a.i0),RI.aa z a.fin⟩,(s.below f).trans (gz j)⟩
end
end Go.Proofs.YthdfgdicnplhlaaGreatDoor
