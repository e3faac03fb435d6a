import Derived.Test.YthdfgdicnplhlaaGreatDoorJ
set_option maxHeartbeats 16000000
set_option maxRecDepth 100000
set_option linter.all false
namespace Go.Proofs.YthdfgdicnplhlaaGreatDoor
open Go.RowKit Hd _root_.Go.Proofs.Tryz
variable{α:Type}{El_:El α}{base g:Nat}{l:List α}{t:Nat}{w W:World}{i s j:Nat}{r:Rp}{a b:Int}{E:bX}{Rf:Nat → Prop}{N:Nb}{tv:Nat → Int}{n:Nat}{cm:Nat → Prop}{d':Dk}{rs rs1 rs2:List (List UInt8)}{o o':Ow}{w':World}{p:Nat × Nat → Prop}{c:Cl}{R:Ending->World->Prop}{E':bX}{cl cl':Nat → Prop}{M M' nc:Nat}{w1:World}{ps:List Pl}{tl tl':List Rp}{q:Nat × Nat → Prop}{x:Option Nat}{e:Ending}{m:Mv}{T:TypeId}{B:Nat}{w6:World}{z y:Int}{v1 v2 v6:Value}{o1 o2:Ow}{W2:World}{ps':List Pl}{Ds:List Nat}{t4 t5:Nat}{ca:List Ca}{w2:World}{k cap:Nat}{cm':Nat → Prop}{tld:List Rp}{came:List Bool}{dl les:List Rp}{nm:List bC}{nds:List Int}{v v3 v4 v5 v7:Value}{came1:List Bool}
structure Bn(i nb due hd wm cm:Nat)(cs:Array Value)(o:Ow)(w:World):Prop where
 onb:o nb=(i,nb)
 owm:o wm=(i,nb)
 ocm:o cm=(i,nb)
 ne:wm≠cm
 blk:am w nb 92 cs
 wm_:b4 w wm []
 cm_:b4 w cm []
 due_:ek 0 o w due (i,due)
 hd_:eR o w hd (i,hd)
def EH(lg s nb due hd wm cm:Nat)(a b next:Int)(c:Value):Array Value:=#[Pt lg,Pt s,I6 a,I6 b,I6 30,I6 3,I6 12,I6 5,I6 next,.bool false,.map (some wm),Pt due,.map (some cm),Pt hd,c,aS,aS]
abbrev A5(i nb lg c s due hd wm cm f:Nat)(a b:Int)(tv:Nat->Int):Nb:=⟨i,nb,lg,c,s,due,hd,f,wm,cm,a,b,30,3,12,tv⟩
section
variable{N':Nb}{nb due hd wm cm:Nat}{d:Dk}{up u0 id:Int}{br:Bool}{cs:Array Value}
theorem Bn.st(h:Bn i nb due hd wm cm cs o w)(a:St p o w o' w')(b:¬p (i,nb))(c:¬p (i,due))(f:¬p (i,hd)):Bn i nb due hd wm cm cs o' w':=
 ⟨by rw[a.old _ (ap h.blk)];exact h.onb,by rw[a.old _ h.wm_.lt];exact h.owm,by rw[a.old _ h.cm_.lt];exact h.ocm,h.ne,h.blk.st a (by rw[h.onb];exact b),h.wm_.st a (by rw[h.owm];exact b),h.cm_.st a (by rw[h.ocm];exact b),h.due_.st a c,h.hd_.st a f⟩
theorem Bn.below(h:Bn i nb due hd wm cm cs o w)(a:Below w.heap.size w w')(hf:aX o w):Bn i nb due hd wm cm cs o w':=h.st (p:=fun _=>False) (.J a hf) _root_.id _root_.id _root_.id
theorem Bn.set(h:Bn i nb due hd wm cm cs o w)(hf:aX o w)(j:Nat) v:Bn i nb due hd wm cm (cs.setIfInBounds j v) o (w.setCell ⟨nb,j,none⟩ v)/\St (·=(i,nb)) o w o (w.setCell ⟨nb,j,none⟩ v):=by
 have a:=aB w nb j v;have b:St (·=(i,nb)) o w o (w.setCell ⟨nb,j,none⟩ v):=.U a h.onb hf;have t1:=h.due_.ty.ne ⟨_,h.blk⟩ (by decide);have t2:=h.hd_.ty.ne ⟨_,h.blk⟩ (by decide);exact⟨⟨h.onb,h.owm,h.ocm,h.ne,am.I h.blk j v,h.wm_.only a (dG h.wm_ h.blk),h.cm_.only a (dG h.cm_ h.blk),h.due_.st b (aV t1),h.hd_.st b (aV t2)⟩,b⟩
theorem pK.cb(h:pK E N id up br d rs1 rs2 n o w)(a:St p o w o' w')(b:¬p (0,0))(c:¬p (N.i,N.lg))(f:¬p (N.i,N.dk))(g:¬p (N.i,N.st)):pK E N id up br d rs1 rs2 n o' w':=by
 obtain⟨a1,a2,a3⟩:=h.lg;exact⟨a.far,eN.st h.tab a b,by rw[a.old _ (ap a3)];exact h.olg,by rw[a.old _ (ap h.dk)];exact h.odk,⟨a1,a2,a3.st a (by rw[h.olg];exact c)⟩,am.st h.dk a (by rw[h.odk];exact f),h.ok,h.st.st a g b,h.uple,h.up0,h.upm,h.nle,h.idi⟩
structure Mk(E:bX)(i nb lg dk s due hd wm cm:Nat)(a b:Int)(tv:Nat->Int)(up:Int)(cs:Array Value)(o:Ow)(w:World):Prop where
 ws:∃br d rs1 rs2 n,pK E (A5 i nb lg dk s due hd wm cm 0 a b tv) i up br d rs1 rs2 n o w
 bn:Bn i nb due hd wm cm cs o w
def Fv(E:bX)(Rf:Nat->Prop)(tv:Nat->Int)(i a:Nat)(rs:List (List UInt8))(o:Ow)(w:World)(e:Ending)(w':World):Prop:=
 ∃(p:Option Nat) (c:Int) (o':Ow),Rt e (.tuple #[dS p,I6 c])/\(rs=[]->c=0)/\St (fun y=>y.1=i) o w o' w'/\
  ((c=0/\∃N:Nb,p=some N.nb/\N.i=i/\N.dk=a/\N.tv=tv/\aE E Rf N 0 0 none [] o' w')\/(c≠0/\p=none/\o' a=(i,a)/\∃d' rs1 rs2,bS w' a d'/\gd E tv i d' rs1 rs2))
theorem D9{v}{x}(h:aK El_ base w v l)(hf:∀b,base<=b->o b=(0,0)){t:TypeId}{cs}(i:am w g t cs)(f:El_.ty≠t):RI El_ (b7 o g x) w v l:=by
 refine⟨h.rw,fun a n c e hn=>?_⟩;have j:=(RI.aa h hf).2 a n c e hn;obtain⟨p,m⟩:=h.ty (k:=a.block) (by rw[e];rfl);rw[bT (aT m i f)];exact j
theorem Fw{o} a b(hf:aX o w)(hb:w.heap.size<=W.heap.size):RI bM o (W.alloc (.cells #[.string (aF a),.string (aF b)] 9)) (.slice (some ⟨W.heap.size,0,none⟩) 2 2) [a,b]:=
 ⟨⟨_,2,rfl,nR,by simp[El.cells,bM],fun _=>⟨W.heap.size,0,_,rfl,am.new W _ _,fun j u hu=>by simpa[El.cells,bM]using hu⟩⟩,fun x n c e _=>by injection e with e;injection e with e;subst e;exact hf _ hb⟩
theorem Ea(h:1<=i/\i<=8):ix (73::cT (i:Nat))=i/\fh (73::cT (i:Nat))=0/\(73::cT (i:Nat)).length<=12:=by
 have a:=Cp (c:=73) (z:=(i:Nat)) (by omega) (by unfold MD;omega);have b:=(bi (n:=(i:Nat)) (by omega)).2;refine⟨?_,?_,?_⟩
 ·unfold ix;rw[if_pos (by simp),a];omega
 ·unfold fh;rw[if_neg (by simp)]
 ·unfold cT;rw[zQ];simp at b ⊢;omega
theorem Fx(w:World):Cs 42 #[] w fun e w'=>∃g,Rt e (Pt g)/\w.heap.size<=g/\am w' g 181 #[aS,.map none,I6 0]/\Below w.heap.size w w':=(BN w).mono fun _ _ h=>⟨_,h.1,nR,h.2⟩
def Ge(i lg s:Nat)(a b:Int)(o:Ow)(w:World)(v:Value)(w':World):Prop:=∃nb due hd wm cm o',v=Pt nb/\w.heap.size<=nb/\w.heap.size<=due/\w.heap.size<=hd/\Bn i nb due hd wm cm (EH lg s nb due hd wm cm a b 0 (.pointer none)) o' w'/\St (fun y=>y=(i,nb)\/y=(i,due)\/y=(i,hd)) o w o' w'
theorem GO{lg h r bm bh:Nat}(hi:i≠0)(hf:aX o w)(D:Below w.heap.size w W)(u:b4 W g [])(x:b4 W h [])(G:g≠h)(n:am W j 181 #[aS,.map none,I6 0])(q:am W r 185 #[.map (some bm),.map (some bh)])(z:b4 W bm [])(A:b4 W bh [])(H:bm≠bh)
  (U:w.heap.size<=g) (V:w.heap.size<=h) (I:w.heap.size<=j) (J:w.heap.size<=r) (nm:w.heap.size<=bm) (X:w.heap.size<=bh) (k1:bm≠g) (k2:bm≠h) (k3:bh≠g) (k4:bh≠h):
  Ge i lg s a b o w (Pt W.heap.size) (W.alloc (.cells (EH lg s W.heap.size j r g h a b 0 (.pointer none)) 92)):=by
 have t:=am.new W 92 (EH lg s W.heap.size j r g h a b 0 (.pointer none));have f:=ba W (.cells (EH lg s W.heap.size j r g h a b 0 (.pointer none)) 92);have B:=D.trans (f.mono D.size);have Y:=u.lt;have Z:=x.lt;have l4:=ap n;have lr:=ap q;have lm:=z.lt;have lh:=A.lt;have e1:=u.ne n;have e2:=u.ne q;have e3:=x.ne n;have e4:=x.ne q;have e5:=z.ne n;have e6:=z.ne q;have e7:=A.ne n;have e8:=A.ne q;have e9:=aT n q (by decide);obtain⟨nb,c⟩:=nx W.heap.size;obtain⟨W',C⟩:=nx (W.alloc (.cells (EH lg s W.heap.size j r g h a b 0 (.pointer none)) 92));rw[C]at t f B ⊢;have ha:W'.heap.size=nb+1:=by rw[<-C,<-c];simp
 rw[c]at t f Y Z l4 lr lm lh ⊢;have hc:=D.size;obtain⟨o',m⟩:∃o':Ow,o'=b7 (b7 (b7 (b7 (b7 (b7 (b7 o nb (i,nb)) g (i,nb)) h (i,nb)) j (i,j)) r (i,r)) bm (i,r)) bh (i,r):=⟨_,rfl⟩;have F:o' nb=(i,nb):=by rw[m];simp only[b7];repeat(first|rw[if_pos trivial]|rw[if_pos rfl]|rw[if_neg (by omega)])
 have L:o' g=(i,nb):=by rw[m];simp only[b7];repeat(first|rw[if_pos trivial]|rw[if_pos rfl]|rw[if_neg (by omega)])
 have M:o' h=(i,nb):=by rw[m];simp only[b7];repeat(first|rw[if_pos trivial]|rw[if_pos rfl]|rw[if_neg (by omega)])
 have N:o' j=(i,j):=by rw[m];simp only[b7];repeat(first|rw[if_pos trivial]|rw[if_pos rfl]|rw[if_neg (by omega)])
 have O:o' r=(i,r):=by rw[m];simp only[b7];repeat(first|rw[if_pos trivial]|rw[if_pos rfl]|rw[if_neg (by omega)])
 have R:o' bm=(i,r):=by rw[m];simp only[b7];repeat(first|rw[if_pos trivial]|rw[if_pos rfl]|rw[if_neg (by omega)])
 have S:o' bh=(i,r):=by rw[m];simp only[b7];first|rw[if_pos trivial]|rw[if_pos rfl]
 have T:St (fun y=>y=(i,nb)\/y=(i,j)\/y=(i,r)) o w o' W':=by
  rw[m];exact((((((((St.J B hf).tag (b:=nb) (by omega) (by omega) (.inr (.inl rfl))).tag (b:=g) U (by omega) (.inr (.inl rfl))).tag (b:=h) V (by omega) (.inr (.inl rfl))).tag (b:=j) I (by omega) (.inr (.inr (.inl rfl)))).tag (b:=r) J (by omega) (.inr (.inr (.inr rfl)))).tag (b:=bm) nm (by omega) (.inr (.inr (.inr rfl)))).tag (b:=bh) X (by omega) (.inr (.inr (.inr rfl))))
 refine⟨nb,j,r,g,h,o',rfl,by omega,I,J,⟨F,L,M,G,t,u.below (by rw[c];exact f),x.below (by rw[c];exact f),ek.new (n.below (by rw[c];exact f)) N,O,bm,bh,[],[],q.below (by rw[c];exact f),R,S,H,z.below (by rw[c];exact f),A.below (by rw[c];exact f),(fun p hp=>by cases hp),(fun p hp=>by cases hp),fun k hk=>by simp[bE]at hk⟩,T⟩
theorem Ad{v}{l:List Int}{dk:Nat}(hi:1<=i/\i<=8)(xX:o dk=(i,dk))(hD:bS w dk d)(hc:oY E tv i d rs)(hf:aX o w)(ht:eN tv w/\o 1=(0,0))(hk:pB E)(bI:E.cs.length<=100000)(xY:∀k,Rf k->∃c,E.cs[k]?=some c/\c.nd=(i:Nat))(hv:RI aC o w v l)(hl:l.length<=8)(hz:∀z∈l,bN z)(xG:1<=a/\a<=64/\1<=b/\b<=a):
  Cs 29 #[Pt dk,I6 (i:Nat),v,.agg #[I6 a,I6 b,I6 30,I6 3,I6 12,I6 5]] w (Fv E Rf tv i dk rs o w):=by
 obtain⟨W0,HW,HB,x0⟩:=dW w #[I6 a,I6 b,I6 30,I6 3,I6 12,I6 5] 32;have xZ:=aH (fun W=>pV a b 30 3 12 5 W (by simp[cD];omega) (by simp[cD];omega) (by simp[cD]) (by simp[cD]) (by simp[cD]) (by simp[cD]) (by decide) (by decide));have a0:=ce x0;have a1:=dt x0;have a2:=ed x0;have a3:=ef x0;have a4:=eV x0;have a5:=e9 x0;have d1:decide ((i:Int) < 1)=false:=by simp;omega
 have d2:decide ((65536:Int) < (i:Int))=false:=by simp;omega
 have zl:=hc.size;have xe:∀y:Nat×Nat,y.1=i->y≠(0,0):=fun y e e2=>by rw[e2]at e;simp at e;omega
 have f:=aH (zB xX (zB hD (zB hc (zB hf (zB ht (zB hk (zB bI (zB xY (zB hv (zB hz (zB xG x0)))))))))));apply cI;go_in;go_upto_region 1 with(fail);simp only[HW.out];go_wp2_with fail;refine(xZ.out _).mono ?_;rintro G w1 ⟨rfl,xf⟩;obtain⟨B1,X1⟩:=gB (HB.trans (xf.mono HB.size)) (f.out.2.2.2.2.2.2.2.2.2.2.2.below xf);have x1:=aH (CA tv dk d w1 (f.out.2.2.2.2.1.1.kept (B1.out.block 1 f.out.2.2.2.2.1.1.lt)) (am.below f.out.2.1 B1.out) f.out.2.2.1.on f.out.2.2.1.armed (by rw[f.2.2.1.tl,f.2.2.1.room];simp;omega) (by rw[f.2.2.1.tl];simp;omega) (fun e=>by have:=f.out.1;rw[e,f.2.2.2.2.1.2]at this;injection this with h _;omega));go_wp2_with fail;refine x1.out.mono ?_;rintro G w2 ⟨lg,v2,Y,rfl,x2,xg,hM,xh,hh,hN,x3,x4,x5,xi⟩;rw[f.2.2.1.all]at hM hh;dsimp only at hM hh;have xj:aX o w1:=f.out.2.2.2.1.below B1.out.size;have hO:St (fun y=>y.1=i) o w1 (b7 o lg (i,lg)) w2:=(St.U xi (by rw[f.1]) xj).tag x2 xg.lt (.inr rfl);obtain⟨ln,lz,hx⟩:=xg;have U:=f.out.2.2.1.opened hh hN x5;have x6:=aH (CP (M:=fR E) (i:=i) (D9 (x:=(i,lg)) hM xj hx (by decide)) (by omega) hO.far pL (fun r A=>⟨(f.out.2.2.1.ok r A).m,(f.out.2.2.1.ok r A).id⟩) (by have:=i2 (tv:=tv) rs;have:=U.size;rw[U.sf]at this;omega) (by have:=oz (tv:=tv) rs;have:=U.size;rw[U.sf]at this;omega));have h5:dk≠lg:=fun e=>by have h1:=ap f.out.2.1;have:=B1.out.size;omega
 have x7:b7 o lg (i,lg) dk=(i,dk):=by rw[bT h5];exact f.out.1
 have x8:b7 o lg (i,lg) lg=(i,lg):=a8 _ _ _;have t2:eN tv w2/\b7 o lg (i,lg) 1=(0,0):=eN.st ⟨f.out.2.2.2.2.1.1.kept (B1.out.block 1 f.out.2.2.2.2.1.1.lt),f.out.2.2.2.2.1.2⟩ hO (fun e=>xe _ e rfl);have S2:Hid (St (fun y=>y.1=i) o w (b7 o lg (i,lg)) w2):=aH ((St.J B1.out f.out.2.2.2.1).trans hO);have xa:w.heap.size≠dk:=Nat.ne_of_gt (ap f.out.2.1);have X2:=aH (X1.out.only xi xa);have x9:b7 o lg (i,lg) w.heap.size=(0,0):=by rw[bT (fun e=>aT (X2) hx (by decide) e)];exact f.out.2.2.2.1 _ nR
 obtain⟨L2,D2,T⟩:=gC (show ez w2 lg dk false from⟨ln,lz,hx⟩) xh (zB U (zB x7 (zB x8 (zB t2 (zB x9 (zB x3 x4))))));have hP:lg < w2.heap.size:=ap hx;have hp:dk < w2.heap.size:=ap xh;have zm:w.heap.size < w2.heap.size:=ap X2.out;go_wp2_with fail;refine x6.out.mono ?_;rintro G w3 ⟨p3,c3,rfl,xH,H⟩;have ya:=aH xH;by_cases hc3:c3=0
 case neg=>
  have d3:(c3 != 0)=true:=by simpa using hc3
  obtain⟨_,s,o3,hs,B⟩:=H.resolve_right (fun h=>hc3 h.1);have hg:Hid (St (fun y=>y.1=i) o w o3 w3/\o3 dk=(i,dk)/\∃d' rs1 rs2,bS w3 dk d'/\gd E tv i d' rs1 rs2):=aH ⟨S2.out.trans (B.mono fun y e=>by rw[e]),by rw[B.old _ hp];exact T.out.2.1,Y,rs,[],am.st D2.out B (by rw[T.2.1];exact aV (by omega)),T.out.1⟩;go_wp2;go_ret2;exact⟨none,c3,o3,rfl,ya.out,hg.out.1,.inr ⟨hc3,rfl,hg.out.2⟩⟩
 subst hc3;obtain⟨_,s,o3,id,rfl,hs,yb,hQ,B⟩:=H.resolve_left (fun h=>h.1 rfl);have yc:dS (some s)=Pt s:=rfl;have xk:¬((0,0):Nat×Nat)=(i,s):=fun e=>by injection e;omega
 have X3:=aH (X2.out.st B (by rw[T.2.2.2.2.1];exact xk));have W3:Hid (pK E (A5 i 0 lg dk s 0 0 0 0 0 a b tv) id (dZ rs) false Y rs [] rs.flatten.length o3 w3):=aH ⟨B.far,eN.st T.out.2.2.2.1 B xk,by show o3 lg=(i,lg);rw[B.old _ hP];exact T.out.2.2.1,by show o3 dk=(i,dk);rw[B.old _ hp];exact T.out.2.1,by
   obtain⟨n1,z1,h1⟩:=L2;exact⟨n1,z1,h1.st B (by rw[T.2.2.1];exact aV (by omega))⟩,am.st D2.out B (show ¬b7 o lg (i,lg) dk=(i,s) by rw[T.2.1];exact aV (by omega)),T.out.1,hQ,jL _,Af rs,C4 f.out.2.2.1.ok,by have:=i2 (tv:=tv) rs;rw[T.1.sf];omega,yb⟩
 have S3:Hid (St (fun y=>y.1=i) o w o3 w3):=aH (S2.out.trans (B.mono fun y e=>by rw[e]));have xI:lg < w3.heap.size:=zT hP B.size;have xJ:dk < w3.heap.size:=zT hp B.size;have xK:s < w3.heap.size:=ap hQ.2.choose_spec.1;have zn:Hid (s≠lg/\s≠dk):=aH ⟨by omega,by omega⟩;have xl:=aH (Ae hQ);have f0:=ce X3.out;rw[yc];go_upto_region 9 with(fail);go_cut [14]from 47 to 55 (fun s14 W=>Ge i lg s a b o3 w3 s14 W)
 case first=>
  refine wp_region_held_drew (S:=fun W=>Bw w3 W) (by kernel_rfl) ((bD _)) (fun hS=>?_);refine wpAnyH_take (i:=0) (v:=Pt lg) rfl (by kernel_rfl) (by kernel_rfl) (by kernel_rfl) (fun _ _ _ h=>h) (Or.inl ⟨by rfl,?_⟩) hS ?_
  ·intro W hW;go_simp
  try simp only[Act.put,zW,qL,qM]
  refine wpAnyH_take (i:=1) (v:=Pt s) rfl (by kernel_rfl) (by kernel_rfl) (by kernel_rfl) (fun _ _ _ h=>h) (Or.inl ⟨by rfl,?_⟩) hS ?_
  ·intro W hW;go_simp
  try simp only[Act.put,zW,qL,qM]
  refine wpAnyH_take (i:=2) (v:=.agg #[I6 a,I6 b,I6 30,I6 3,I6 12,I6 5]) rfl (by kernel_rfl) (by kernel_rfl) (by kernel_rfl) (fun _ _ _ h=>h) (Or.inl ⟨by rfl,?_⟩) hS ?_
  ·intro W hW;have xw:=X3.out.below hW;have c0:=am.cell xw 0;have c1:=am.cell xw 1;have c2:=am.cell xw 2;have c3:=am.cell xw 3;have c4:=am.cell xw 4;have c5:=am.cell xw 5;simp only[zL,zM,zP]at c0 c1 c2 c3 c4 c5;go_simp
  try simp only[Act.put,zW,qL,qM]
  iterate 4
   all_goals(first
    |(refine wpAnyH_ready (rs:=[3]) (by decide+kernel) (by decide) (zJ (by rfl) (fun K hK=>?_) (qG)))
    |(refine wpAnyH_ready (rs:=[3,4]) (by decide+kernel) (by decide) (zJ (by rfl) (fun K hK=>?_) (zJ (by rfl) (fun K hK=>?_) (qG))))
    |(refine wpAnyH_ready (rs:=[3,4,5]) (by decide+kernel) (by decide) (zJ (by rfl) (fun K hK=>?_) (zJ (by rfl) (fun K hK=>?_) (zJ (by rfl) (fun K hK=>?_) (qG)))))
    |(refine wpAnyH_ready (rs:=[3,5]) (by decide+kernel) (by decide) (zJ (by rfl) (fun K hK=>?_) (zJ (by rfl) (fun K hK=>?_) (qG))))
    |(refine wpAnyH_ready (rs:=[3,5,6]) (by decide+kernel) (by decide) (zJ (by rfl) (fun K hK=>?_) (zJ (by rfl) (fun K hK=>?_) (zJ (by rfl) (fun K hK=>?_) (qG)))))
    |(refine wpAnyH_ready (rs:=[3,6]) (by decide+kernel) (by decide) (zJ (by rfl) (fun K hK=>?_) (zJ (by rfl) (fun K hK=>?_) (qG))))
    |(refine wpAnyH_ready (rs:=[4]) (by decide+kernel) (by decide) (zJ (by rfl) (fun K hK=>?_) (qG)))
    |(refine wpAnyH_ready (rs:=[4,5]) (by decide+kernel) (by decide) (zJ (by rfl) (fun K hK=>?_) (zJ (by rfl) (fun K hK=>?_) (qG))))
    |(refine wpAnyH_ready (rs:=[5]) (by decide+kernel) (by decide) (zJ (by rfl) (fun K hK=>?_) (qG)))
    |(refine wpAnyH_ready (rs:=[5,6]) (by decide+kernel) (by decide) (zJ (by rfl) (fun K hK=>?_) (zJ (by rfl) (fun K hK=>?_) (qG))))
    |(refine wpAnyH_ready (rs:=[6]) (by decide+kernel) (by decide) (zJ (by rfl) (fun K hK=>?_) (qG)))
    |(refine wpAnyH_ready (rs:=[7]) (by decide+kernel) (by decide) (zJ (by rfl) (fun K hK=>?_) (qG)))
    |(refine wpAnyH_ready (rs:=[8]) (by decide+kernel) (by decide) (zJ (by rfl) (fun K hK=>?_) (qG)))
    |refine wpAnyH_ready (rs:=[9]) (by decide+kernel) (by decide) (zJ (by rfl) (fun K hK=>?_) (qG)))
   all_goals(try simp only[List.getElem_toArray,yT,yU])
   all_goals(first
    |(go_simp;go_at_call 42;with_reducible refine(Fx _).mono ?_;rintro G w4 ⟨g4,rfl,n4,h4,j⟩;replace n4:=zD hS.size n4;refine hK.out _ _ (hS.trans (j.mono hS.size)) (fun hS=>?_);clear hK K;(try replace V:=V.below j);(try replace X:=X.below j);(try replace A:=A.below j);(try replace mm:=mm.below j);(try replace mh:=mh.below j);try simp only[Act.put,zW,qL,qM])
    |(go_simp;go_at_call 43;with_reducible refine(Ag _).mono ?_;rintro G w6 ⟨r,bm,bh,rfl,nr,nm,nh,yd,A,mm,mh,j⟩;(try(have k1:bm≠g3:=Nat.ne_of_gt (zT V.lt nm)));(try(have k3:bh≠g3:=Nat.ne_of_gt (zT V.lt nh)));(try(have k2:bm≠g5:=Nat.ne_of_gt (zT X.lt nm)));(try(have k4:bh≠g5:=Nat.ne_of_gt (zT X.lt nh)));replace nr:=zD hS.size nr;replace nm:=zD hS.size nm;replace nh:=zD hS.size nh;refine hK.out _ _ (hS.trans (j.mono hS.size)) (fun hS=>?_);clear hK K;(try replace V:=V.below j);(try replace X:=X.below j);(try replace h4:=h4.below j);try simp only[Act.put,zW,qL,qM])
    |(with_reducible refine sV 86 50 rfl (by with_unfolding_all rfl) (by with_unfolding_all rfl) ?_;intro g3 W5 n3 V j hn;replace n3:=zD hS.size n3;(try(have xm:=(hn _ _ X).symm));(try(have k1:=hn _ _ mm));(try(have k3:=hn _ _ mh));clear hn;refine hK.out _ _ (hS.trans (j.mono hS.size)) (fun hS=>?_);clear hK K;(try replace X:=X.below j);(try replace h4:=h4.below j);(try replace A:=A.below j);(try replace mm:=mm.below j);(try replace mh:=mh.below j);try simp only[Act.put,zW,qL,qM])
    |(with_reducible refine sV 88 52 rfl (by with_unfolding_all rfl) (by with_unfolding_all rfl) ?_;intro g5 W6 n5 X j hn;replace n5:=zD hS.size n5;(try(have xm:=hn _ _ V));(try(have k2:=hn _ _ mm));(try(have k4:=hn _ _ mh));clear hn;refine hK.out _ _ (hS.trans (j.mono hS.size)) (fun hS=>?_);clear hK K;(try replace V:=V.below j);(try replace h4:=h4.below j);(try replace A:=A.below j);(try replace mm:=mm.below j);(try replace mh:=mh.below j);try simp only[Act.put,zW,qL,qM]))
  all_goals(refine wpAnyH_ready (rs:=[7]) (by decide+kernel) (by decide) (zJ (by rfl) (fun K hK=>?_) (qG)))
  all_goals(try simp only[List.getElem_toArray,yT,yU])
  all_goals(with_reducible refine Ak (v:=.agg (EH lg s 0 g4 r g3 g5 a b 0 (.pointer none))) rfl (fun w=>by kernel_rfl) ?_;refine hK.out _ _ (hS) (fun hS=>?_);clear hK K;try simp only[Act.put,zW,qL,qM])
  all_goals(refine wpAnyH_ready (rs:=[8]) (by decide+kernel) (by decide) (zJ (by rfl) (fun K hK=>?_) (qG)))
  all_goals(try simp only[List.getElem_toArray,yT,yU])
  all_goals(with_reducible refine CK 92 (EH lg s 0 g4 r g3 g5 a b 0 (.pointer none)) rfl (fun w=>by kernel_rfl) ?_;have ye:=hS;refine hK.out _ _ (hS.alloc hS.size _) (fun hS=>?_);clear hK K;try simp only[Act.put,zW,qL,qM])
  all_goals(refine wpAnyH_ready (rs:=[9]) (by decide+kernel) (by decide) (zJ (by rfl) (fun K hK=>?_) (qG)))
  all_goals(try simp only[List.getElem_toArray,yT,yU])
  all_goals(go_simp;refine hK.out _ _ (hS) (fun hS=>?_);clear hK K;try simp only[Act.put,zW,qL,qM])
  all_goals(refine wpAnyH_done (by decide+kernel) ?_ _)
  all_goals go_wp2_with fail
  all_goals go_meet
  all_goals exact GO (by omega) W3.out.fin ye V X xm h4 A mm mh yd n3 n5 n4 nr nm nh k1 k2 k3 k4
 case rest=>
  obtain⟨nb,due,hd,wm,cm,o4,rfl,zo,zg,zp,hA,xn⟩:=hcut;have h0:¬((0,0)=(i,nb)\/(0,0)=(i,due)\/(0,0)=(i,hd)):=by simp;omega
  have hq:∀r,r < w3.heap.size->¬((i,r)=(i,nb)\/(i,r)=(i,due)\/(i,r)=(i,hd)):=fun r A=>by simp;omega
  have C:=W3.out.cb xn h0 (hq lg xI) (hq dk xJ) (hq s xK);have I:Hid (pK E (A5 i nb lg dk s due hd wm cm 0 a b tv) id (dZ rs) false Y rs [] rs.flatten.length o4 wc):=aH ⟨C.fin,C.tab,C.olg,C.odk,C.lg,C.dk,C.ok,C.st,C.uple,C.up0,C.upm,C.nle,C.idi⟩;have hB:=aH hA;have S4:Hid (St (fun y=>y.1=i) o w o4 wc):=aH (S3.out.trans (xn.mono fun y e=>by rcases e with e|e|e<;>rw[e]));have yf:=aH (Ae C.st);have LN:Hid (lg < nb/\dk < nb/\s < nb/\lg < due/\dk < due/\s < due/\lg < hd/\dk < hd/\s < hd):=aH ⟨by omega,by omega,by omega,by omega,by omega,by omega,by omega,by omega,by omega⟩;have LW:Hid (nb < wc.heap.size/\due < wc.heap.size/\hd < wc.heap.size):=aH ⟨ap hA.blk,hA.due_.lt,hA.hd_.lt⟩;have xL:id=0\/id=i:=I.out.idi;have xM:=aH xL;have G4:Hid (Y.on=true/\Y.armed=false):=aH T.out.2.2.2.2.2;go_wp2_with fail;refine yf.out.mono ?_;rintro G _w ⟨rfl,rfl⟩;go_upto_if 58 with(fail);go_cut []from 57 to 81 (fun W=>∃o5 O,Mk E i nb lg dk s due hd wm cm a b tv O (EH lg s nb due hd wm cm a b 0 (.pointer none)) o5 W/\dZ rs<=O/\St (fun y=>y.1=i) o w o5 W)
  case first=>
   by_cases hid0:id=0
   case neg=>
    have d0:(id==0)=false:=by simpa using hid0
    have yg:id=i:=xM.out.resolve_left hid0;subst yg;go_wp2;go_meet;exact⟨o4,dZ rs,⟨⟨_,_,_,_,_,I.out⟩,hB.out⟩,jL _,S4.out⟩
   subst hid0;obtain⟨Av,cv,rfl,_⟩:=f.out.2.2.2.2.2.2.2.2.1.rw.slice;have yh:¬(((0,0):Nat×Nat).1=i):=fun e=>xe _ e rfl;have yi:=(f.out.2.2.2.2.2.2.2.2.1.st S4.out yh).rw;obtain⟨L,hL⟩:∃L:List Int,[((i:Nat):Int)]++l=L:=⟨_,rfl⟩;have yj:L.length<=9:=by rw[<-hL];simp;omega
   have yk:∀z∈L,bN z:=fun z hz=>by
    rw[<-hL]at hz;rcases zK.1 hz with hz|hz
    ·rw[qR]at hz;subst hz;unfold bN;omega
    ·exact f.out.2.2.2.2.2.2.2.2.2.1 z hz
   have eA:=ba wc (.cells #[I6 (i:Nat)] 3);have eB:=eA.alloc eA.size (.cells #[.slice (some ⟨wc.heap.size,0,none⟩) 1 1,.slice Av l.length cv] 34);have yl:(wc.alloc (.cells #[I6 (i:Nat)] 3)).heap.size=wc.heap.size+1:=by simp
   have nB:=am.new (wc.alloc (.cells #[I6 (i:Nat)] 3)) 34 #[.slice (some ⟨wc.heap.size,0,none⟩) 1 1,.slice Av l.length cv];rw[yl]at nB;have rA:Rw aC (wc.alloc (.cells #[I6 (i:Nat)] 3)) (.slice (some ⟨wc.heap.size,0,none⟩) 1 1) [((i:Nat):Int)]:=dL aC wc ((i:Nat):Int);have hR:=rQ (wc.heap.size+1) _ nB (rA.below (ba _ _)) (yi.below eB) (by simp;omega);rw[hL]at hR;obtain⟨ym,EB,yn⟩:=gC hR eB (zB yj yk);go_wp2_with fail;refine ym.out.mono ?_;rintro G w6 ⟨v6,rfl,J,hC⟩;obtain⟨A6,c6,rfl,_⟩:=J.rw.slice;obtain⟨B6,V6⟩:=gB (EB.out.trans (hC.mono EB.out.size)) J.rw;go_wp2;go_loopw[15,65] (fun va vi wr=>∃(k:Nat) (lp:List Pe),k<=L.length/\vi=I6 k/\aK aL wc.heap.size wr va lp/\lp.length<=k/\(∀p∈lp,cA p)/\Bw wc wr/\Rw aC wr (.slice A6 L.length c6) L) (fun _ vi _=>L.length - (intOf vi).toNat)
   case atStart=>exact⟨0,[],by omega,rfl,aK.nil _ _,by simp,by simp,B6.out,V6.out⟩
   case round=>
    obtain⟨k,lp,hk,rfl,xo,zq,xp,yo,xq⟩:=hrel;obtain⟨A1,A2,A3,A4⟩:=gD xo xp yo xq;by_cases hlt:k < L.length
    ·obtain⟨g,og,rfl,xb⟩:=xq.at_ (zA hlt);have c0:Ce wr g (og+k) (I6 L[k]):=by have:=xb 0 _ rfl;simpa[aC]using this
     have xr:=yn.out.2 _ (zY hlt);generalize L[k]=z at c0 xr;have yp:=aH (An ⟨z,0,0⟩ wr (aK.rw (E:=aL) xo) (by omega) xp ⟨xr,by show bN 0;unfold bN;omega,by show bN 0;unfold bN;omega⟩);go_wp2_with fail;refine yp.out.mono ?_;rintro G w7 ⟨yq,⟨v7,rfl,yr,xs⟩,zr,ys⟩;obtain⟨O7,Z7,B7,V7⟩:=gD (aK.mono (E:=aL) yr A3.out.size) ys (A3.out.trans (xs.mono A3.out.size)) (A4.out.below xs);go_wp2;go_roundw
     case rel=>exact⟨k+1,yq,hlt,by go_num,O7.out,by omega,Z7.out,B7.out,V7.out⟩
     case measure=>simp[intOf];omega
    have yt:=aH (sC (i:Nat) wr (by omega));go_wp2_with fail;refine yt.out.mono ?_;rintro G w8 ⟨rfl,xt⟩;obtain⟨yu,B8⟩:=gB (oi w8 (Rw.below (aK.rw (E:=aL) A1.out) xt) (by omega) A2.out) (A3.out.trans (xt.mono A3.out.size));go_wp2_with fail;refine yu.out.mono ?_;rintro G w9 ⟨t9,rfl,zs,yv⟩;have Z:=Ea hi;have B9:=aH (B8.out.trans (yv.mono B8.out.size));have hT:=B9.out.alloc B9.out.size (.cells #[.string (aF (73::cT (i:Nat))),.string (aF (86::t9))] 9);have xN:=I.out.cb (St.J (p:=fun _=>False) hT I.out.fin) _root_.id _root_.id _root_.id _root_.id;have xO:∀r∈[73::cT (i:Nat),86::t9],gJ E i r:=fun r A=>by
     simp at A;rcases A with rfl|rfl
     ·exact⟨gw (by decide),.inr Z.1,by rw[Z.2.1];omega,by have:=Z.2.2;simp at this ⊢;omega⟩
     ·exact fI (N:=A5 i nb lg dk s due hd wm cm 0 a b tv) (by decide) (by decide) (by decide) (by omega)
    have yw:=aH (pM (N:=A5 i nb lg dk s due hd wm cm 0 a b tv) (u:=dZ rs) (R:=dZ rs) xN (jL _) (jL _) (by show i≠0/\i<=8;omega) (dead:=false) (hB.out.blk.below hT) rfl rfl rfl hB.out.onb (Fw (73::cT (i:Nat)) (86::t9) I.out.fin B9.out.size) (by simp) xO);have GW:Hid (rs=[]->ta tv false false Y [73::cT (i:Nat),86::t9]):=aH fun hrs=>by
     have hf:=iU tv [73::cT (i:Nat),86::t9] (fun r A=>by
      simp at A;rcases A with rfl|rfl
      ·have:=Z.2.2;omega
      ·simp;omega)
     have hh:=I.out.ok.sf;have hN:=I.out.ok.tl;refine⟨rfl,rfl,G4.out.1,G4.out.2,fun r A=>?_,?_⟩
     ·simp at A;rcases A with rfl|rfl
      ·have:=Z.2.2;omega
      ·simp;omega
     ·rw[I.ok.room,hh,hN,hrs];simp[aP]at hf ⊢;omega
    obtain⟨BW,yx⟩:=gB hT Z;go_wp2_with fail;refine yw.out.mono ?_;rintro G xu ⟨⟨t,ha,w11,zt,u',rfl,hE,hX,yy,_,H⟩,xc⟩;have yz:Hid (t=false->rs≠[]):=aH fun ht hrs=>by
     have:=xc (GW.out hrs);rw[ht]at this;injection this with this;injection this with this;cases this
    have hu:St (fun y=>y.1=i) o w ha w11:=(S4.out.below BW.out).trans (hE.mono fun y hy=>by rcases hy with e|e|e<;>rw[e]);obtain⟨hF,hG,hH,xv,xx,xy,xz,xA,xB⟩:=LN;have hU:∀r,lg < r->dk < r->s < r->¬A9 (A5 i nb lg dk s due hd wm cm 0 a b tv) (i,r):=fun r h1 h2 h3 e=>by
     rcases e with e|e|e<;>(injection e with _ e;simp only[A5]at e;omega)
    have hI:=(hB.out.below BW.out I.out.fin).st hE (hU nb hF hG hH) (hU due xv xx xy) (hU hd xz xA xB);obtain⟨hV,xP,y0,xQ⟩:=gD hX hI hu yy;cases t
    ·have y1:Hid (rs≠[]):=aH (yz.out rfl);have hg:Hid (∃o',St (fun y=>y.1=i) o w o' xu/\o' dk=(i,dk)/\∃d' rs1 rs2,bS xu dk d'/\gd E tv i d' rs1 rs2):=aH (by
      obtain⟨br,d6,r1,r2,xC,n6,F,_⟩:=hV;rcases H with⟨h,_⟩|⟨_,⟨rfl,_⟩|rfl⟩
      ·cases h
      ·exact⟨ha,hu,F.odk,d6,r1,r2,F.dk,F.ok⟩
      ·have h9:=hI.set F.fin 9 (.bool true);exact⟨ha,hu.trans (h9.2.mono fun y e=>by rw[e]),F.odk,d6,r1,r2,am.st F.dk h9.2 (show ¬ha dk=(i,nb) by rw[show ha dk=(i,dk)from F.odk];exact aV (by omega)),F.ok⟩)
     go_wp2;go_ret2;obtain⟨o',f1,f2,f3⟩:=hg;exact⟨none,14,o',rfl,fun e=>absurd e y1.out,f1,.inr ⟨by omega,rfl,f2,f3⟩⟩
    ·obtain⟨_,rfl,_,zu,xR⟩:=H.resolve_right (fun h=>by cases h.1);have xd:=xR ⟨73::cT (i:Nat),by simp,by rw[yx.1];omega⟩;go_wp2;go_meet;obtain⟨br,d6,r1,r2,xC,n6,F,zv,hJ⟩:=hV;rw[xd]at F;exact⟨ha,xC,⟨⟨br,d6,r1,r2,n6,F⟩,xP.out⟩,by have:=xQ.out;omega,y0.out⟩
  case rest=>
   obtain⟨o5,O,hj,xS,y2⟩:=hcut;obtain⟨zw,S5⟩:=gB hj y2;obtain⟨y3,d5,y4,y5,n5,he⟩:=hj.ws;obtain⟨zx,y6⟩:=gB he (lf he.st);have zy:=he.up0;have zz:=he.upm;have kw:IntKind.i64.wrap (O+1)=O+1:=zZ _ (by omega);have y8:=ma hj.bn.blk;have f8:=am.frozen hj.bn.blk 8;have y7:=hj.bn.set he.fin 8 (I6 (O+1));obtain⟨hF,hG,hH,xv,xx,xy,xz,xA,xB⟩:=LN;obtain⟨b8,s8⟩:=y7;have n0:¬((0,0):Nat×Nat)=(i,nb):=fun e=>by injection e;omega
   have ho:∀r,r < nb->¬(i,r)=(i,nb):=fun r A=>aV (by omega);have hJ:=he.cb s8 n0 (ho lg hF) (ho dk hG) (ho s hH);obtain⟨xl,y9,B8,W8,S8⟩:=gE (eI (N:=A5 i nb lg dk s due hd wm cm 0 a b tv) ⟨am.cell b8.blk 1,by obtain⟨_,cs,k1,k2⟩:=hJ.st;exact(am.cell k1 0).trans k2.id⟩) (Ah (i:Nat) (wc.setCell ⟨nb,8,none⟩ (I6 (O+1))) o5 hJ.fin i (by omega)) b8 hJ (S5.out.trans (s8.mono fun y e=>by rw[e]));go_wp2_with fail;refine y6.out.mono ?_;rintro G _w ⟨rfl,rfl⟩;go_wp2_with fail;refine xl.out.mono ?_;rintro G _w ⟨rfl,rfl⟩;go_wp2_with fail;refine y9.out.mono ?_;rintro G w6 ⟨wt,o6,rfl,hw,xT,hY⟩;have e1:nb < wt:=zT (by simpa using ap B8.out.blk) hw;have e2:due < wt:=zT (by simpa using B8.out.due_.lt) hw;have e3:hd < wt:=zT (by simpa using B8.out.hd_.lt) hw;have n6:¬((0,0):Nat×Nat)=(i,wt):=fun e=>by injection e;omega
   have J:∀r,r < wt->¬(i,r)=(i,wt):=fun r A=>aV (by omega);have b6:=B8.out.st hY (J nb e1) (J due e2) (J hd e3);have xF:=W8.out.cb hY n6 (J lg (by omega)) (J dk (by omega)) (J s (by omega));have z2:=am.cell b6.blk 14;have z3:=am.frozen b6.blk 14;have xU:=b6.set xF.fin 14 (Pt wt);obtain⟨b9,s9⟩:=xU;have D:=xF.cb s9 n0 (ho lg hF) (ho dk hG) (ho s hH);have a9:=xT.st s9 (aV (show wt≠nb by omega)) n0;have z4:=f.out.2.2.2.2.2.2.2.2.2.2.1;have H9:Hid (aE E Rf (A5 i nb lg dk s due hd wm cm wt a b tv) 0 0 none [] o6 (w6.setCell ⟨nb,14,none⟩ (Pt wt))):=aH (aE.start (next:=O+1) (N:=A5 i nb lg dk s due hd wm cm wt a b tv) (br:=y3) (rs1:=y4) (rs2:=y5) (n:=n5) (up:=O) (u0:=dZ rs)
    ⟨D.fin,D.tab,D.olg,D.odk,D.lg,D.dk,D.ok,D.st,D.uple,D.up0,D.upm,D.nle,D.idi⟩ (by show i≠0/\i<=8;omega) f.out.2.2.2.2.2.1 f.out.2.2.2.2.2.2.1 f.out.2.2.2.2.2.2.2.1 rfl f.out.2.2.1.num xS
    b9.due_ b9.hd_ a9 (by show(0:Int)<=b/\(0:Int)<=a/\bN 30;unfold bN;omega) b9.onb b9.owm b9.ocm b9.ne b9.blk b9.wm_ b9.cm_)
   have S9:=aH ((S8.out.trans (hY.mono (q:=fun y=>y.1=i) fun y e=>by rw[e])).trans (s9.mono fun y e=>by rw[e]));go_wp2;go_loopw[94] (fun v W=>∃k:Nat,k<=16/\v=I6 k/\∃o',aE E Rf (A5 i nb lg dk s due hd wm cm wt a b tv) 0 0 none [] o' W/\St (fun y=>y.1=i) o w o' W) (fun v _=>16 - (intOf v).toNat)
   case atStart=>exact⟨0,by omega,rfl,o6,H9.out,S9.out⟩
   case round=>
    obtain⟨k,zh,rfl,o7,h7,s7⟩:=hrel;obtain⟨H7,S7⟩:=gB h7 s7;by_cases hlt:k < 16
    ·have hZ:Bw wr wr.drew:=bD _;have z1:=H7.out.cells.st;have za:=H7.out.cells.hd;obtain⟨z5,zi,zj,xV⟩:=(H7.out.below hZ).state;have zb:=aH (eH xV k hlt (by omega));go_wp2;go_region_held3 (fun w'=>Ce w' nb 13 (Pt hd))
      (first|exact za|exact h6.cells.hd|exact h8.cells.hd)
      (first
       |(go_at_call 54;(with_reducible refine(zb.out).mono ?_);rintro G w6 ⟨z6,z7,z8,l6,z9,aa,rfl,p1,p2,p3,_,ab,zk,zc,zd,ze,xW⟩;have hC:=hZ.trans (xW.mono hZ.size);have h6:=H7.out.below hC)
       |(go_at_call 53;(with_reducible refine(mY (k:Int) h6.hd h6.fin ⟨by omega,by omega⟩ ⟨p1.rw,p2.rw,p3.rw⟩ ⟨by omega,by omega,fun m hm=>(zc m hm).lt,zd,ze⟩).mono ?_);rintro G w8 ⟨⟨t8,rfl⟩,o8,zf,s8⟩;have h8:=h6.hd_ s8 zf))
     all_goals
      obtain⟨H8,S8⟩:=gB h8 (S7.out.trans ((St.J hC H7.out.fin).trans (s8.mono fun y e=>by rw[e])));go_wp2;go_roundw
      case rel=>exact⟨k+1,hlt,by go_num,o8,H8.out,S8.out⟩
      case measure=>simp[intOf];omega
    go_wp2;go_ret2;exact⟨some nb,0,o7,rfl,fun _=>rfl,S7.out,.inl ⟨rfl,A5 i nb lg dk s due hd wm cm wt a b tv,rfl,rfl,rfl,rfl,H7.out⟩⟩
end
section
open Go.Shelf
attribute [local go_sem] Oper.semAt_some
variable{p:Pl}{d:Dk}
def rq(n:Nat):List Int:=(List.range n).map fun k:Nat=>(k:Int)+1
theorem AT(i:Nat):rq (i+1)=rq i++[(i:Int)+1]:=by unfold rq;rw[List.range_succ,yC];rfl
theorem oK(i:Nat):(rq i).length=i:=by simp[rq]
theorem Eb(h:i<=8):∀z∈rq i,bN z:=fun z hz=>by
 obtain⟨k,a,rfl⟩:=zV.1 hz
 have:=List.mem_range.1 a
 unfold bN;omega
theorem kO(w:World):Cs 12 #[Pt g] w fun e w'=>Rt e (.func (.func 27) #[] #[Pt w.heap.size])/\w'=w.alloc (.cells #[Pt g] 30):=by
 apply cI;go_in;go_wp2;go_ret;exact⟨rfl,rfl⟩
theorem fT{f:FuncId}{a:Func}{c:Go.Code}{args:Array Value}(hf:prog.funcs[f]?=some a)(b:a.body=some c)
  (h:c.wp prog (bodyPostM Fence.wide 3 prog a R) {tmps:=args++Array.replicate (a.ntmps - args.size) undef,defers:=[]} w):Cs f args w R:=
 (callsIn_wide (n:=3)).1 (callsIn_of_wp_marks hf b trivial (wpIn_wide.2 h) rfl)
def Ec(w:World)(B:Nat)(i:Nat)(W:World):Prop:=∃v,Below w.heap.size w W/\am W w.heap.size 34 #[v]/\aK aC w.heap.size W v (rq i)/\∀b,v.ownBlock=some b->b≠B/\b≠B+1
theorem Ec.spare(w:World)(B:Nat)(m:w.heap.size+1 < B)(i:Nat):x8 B (Ec w B i):=by
 rintro W n row ⟨v,c,g,h,f⟩ b a;refine⟨v,c.grown b c.size (fun k e=>?_),am.grown g b (fun e=>?_),aK.keep (E:=aC) h b (fun k e e2=>?_),f⟩
 ·rcases a k e with rfl|rfl<;>omega
 ·rcases a _ e.symm with e|e<;>omega
 ·obtain⟨j,n2⟩:=f k e;rcases a k e2 with e|e
  ·exact j e
  ·exact n2 e
theorem j9(hB:e6 E cm cl tv nc a b o w g ps tl)(hP:lK E cl tv M (some j) o w ps)(X:ps[j]?=some p)(hp:o p.dk=(j+1,p.dk))(hD:bS w p.dk d)(hc:oY E tv (j+1) d rs):
  Cs 16 #[Pt g,I6 ((j:Int)+1)] w fun e w'=>∃t o' nd,Rt e (.bool t)/\(rs=[]->t=true)/\eA E cm cl tv M nc a b o' w' g (ps.set j {p with nd:=nd}) tl/\St (fun y=>y.1=j+1\/y=(9,0)\/(y.1=13/\w.heap.size<=y.2)) o w o' w':=by
 have hH:=(zE.1 X).1;have HI:=aH (fun W=>kO (g:=g) W);obtain⟨A,ca,pp,At,ct,hv⟩:=hB.v;have hE:=hB.len;have y6:=fa hv.blk;obtain⟨hq,HP,HD⟩:=gC hB hP hD;clear hB hP hv hD;refine fT func16 rfl ?_;simp only[ntmps16,qT,zQ,qI,Nat.reduceAdd,Nat.reduceSub,jT,jU,yI,jX,qY,jW];go_wp2_with (go_at_call 12;refine(HI _).mono ?_;rintro e w' ⟨rfl,rfl⟩);obtain⟨O,k1,k2⟩:=tK w #[aS] #[Pt g] 34 30;obtain⟨G,ha⟩:=nx ((w.alloc (.cells #[aS] 34)).alloc (.cells #[Pt g] 30));have m:G.heap.size=w.heap.size+2:=by rw[<-ha];simp
 rw[ha]at O k1 k2 ⊢;clear ha;refine(wpIn_wide (n:=3)).1 ?_;refine fK ps.length rfl (by decide) (gf:=27) (lb:=#[.pointer (some ⟨w.heap.size+1,0,none⟩)]) rfl trivial (enters_of func27 (by kernel_rfl) rfl) ?_ (Ec w G.heap.size) (fun i=>Ec.spare w _ (by omega) i)
  ⟨_,O,k1,aK.nil _ _,fun b e=>by cases e⟩ ?a1 ?assign ?body ?done
 ·intro J l W hg hY h0;exact kN Fence.wide 2 trivial rfl (by decide) l (w.heap.size+1) g A ps.length ca (by omega) J hY W (am.cell (am.grown k2 hg (fun e=>by cases e)) 0) (aD (O.grown hg O.size (fun k e=>by cases e)) y6) h0
 case assign=>
  intro l i W K hK;gi_wp2;exact hK
 case body=>
  rintro l i W ⟨v,H,Y,I,Z⟩ hi hI;have b0:=ce Y;gi_wp2_with (gi_at_builtin;refine ik aC rfl (.tmp 13) (.tmp 15) rfl I H.size ((i:Int)+1) rfl rfl (by rw[oK];show(i+1)*8<=_;omega) (by rw[oK];omega) ?_;intro v6 w6 he B hF;obtain⟨A6,hJ,hr,_⟩:=(aK.rw (E:=aC) he).slice;generalize(rq i++[(i:Int)+1]).length=n6 at hr;subst hr;have b6:=am.grown Y B (fun e=>by
   obtain⟨hL,hy⟩:=I.ty e.symm;exact aT Y hy (by decide) rfl);have f6:=am.frozen b6 0;have c6:=am.cell b6 0)
  have hS:=aB w6 w.heap.size 0 (.slice A6 n6 hJ);have hG:=B.size;rw[m]at hI ⊢;refine⟨⟨?_,?_⟩,_,(H.grown B H.size (fun k e=>(I.lt k e).1)).grown hS (zD H.size hG) (fun k e=>by injection e with e;omega),am.I b6 0 _,?_,fun b e=>?_⟩
  ·rw[hS.block _ (by omega) (by simp),B.block _ (by omega) (fun e=>(Z _ e.symm).1 (by rw[m]))]
  ·rw[hS.block _ (by omega) (by simp;omega),B.block _ (by omega) (fun e=>(Z _ e.symm).2 (by rw[m]))]
  ·rw[AT];exact aK.keep (E:=aC) he hS (fun k e L=>by
    injection L with L;subst L;obtain⟨hL,hy⟩:=he.ty e;exact aT b6 hy (by decide) rfl)
  ·rcases hF with h|h
   ·exact m▸Z b (by rw[<-h];exact e)
   ·rw[h]at e;injection e with e;omega
 case done=>
  rintro W ⟨v,H,Y,I,Z⟩ hK;have hs:G.heap.size < W.heap.size:=ap hK;have hf:=hq.fin;obtain⟨o1,C⟩:=nx (b7 o G.heap.size (13,G.heap.size));have s1:St (fun y=>y.1=13/\w.heap.size<=y.2) o w o1 W:=by
   rw[<-C];exact(St.J H hf).tag (by omega) hs (.inr ⟨rfl,by simp only;omega⟩)
  have R:¬(((0,0):Nat×Nat).1=13/\w.heap.size<=((0,0):Nat×Nat).2):=by simp
  obtain⟨f,P1,D1⟩:=gC (hq.st s1 R (by simp)) (HP.st s1 R (fun i hi _ r e=>by have:=e.1;simp at this;omega)) (am.st HD s1 (by rw[hp];simp;omega));have oM:o1 G.heap.size=(13,G.heap.size):=by rw[<-C];exact a8 _ _ _
  have oX:o1 w.heap.size=(0,0):=by rw[<-C,bT (by omega)];exact hf _ nR
  have oD:o1 p.dk=(j+1,p.dk):=by rw[s1.old _ (ap HD)];exact hp
  have rV:RI aC o1 W v (rq ps.length):=by
   rw[<-C];refine⟨aK.rw (E:=aC) I,fun a n c e hn=>?_⟩;rw[bT (Z a.block (by rw[e];rfl)).1];exact(RI.aa (E:=aC) I hf).2 a n c e hn
  obtain⟨X1,V1,S1,K1,hM⟩:=gE Y rV s1 hK (iY f X);clear H Y I Z hK s1 C rV;obtain⟨A',hV,hW,hX,hZ,q⟩:=f.v;obtain⟨_,z1,t1,hh⟩:=f.pl p (qC X);have hd:Bw W W.drew:=bD _;have c0:=ce q.blk;have c1:=dt q.blk;have c2:=ed q.blk;have c3:=ef q.blk;have c4:=eV q.blk;have c5:=e9 q.blk;have p1:=dt hh;have x0:=ce X1;have hl:=Ad (E:=E) (Rf:=Gl E cl (j+1)) (i:=j+1) (w:=W.drew) (by omega) oD (am.below D1 hd) hc (f.fin.below hd.size) (f.below hd).tab f.kok (by have:=f.cs;omega) (fun k hk=>hk.1) (V1.below hd f.fin) (by rw[oK];omega) (Eb hE.2) f.cfg;rw[show((j+1:Nat):Int)=(j:Int)+1 by omega]at hl;obtain⟨HS,ht⟩:=gB hl hh;clear q hl hh;go_wp2_with (go_at_call 13;refine hM.mono ?_;rintro _e _w ⟨rfl,rfl⟩);have S:¬(((0,0):Nat×Nat).1=j+1):=by simp
  have T:¬(((9,0):Nat×Nat).1=j+1):=by simp;omega
  have hu:=(f.pl p (qC X)).1;have SD:Hid (St (fun y=>y.1=j+1) o1 W o1 W.drew):=aH (.J hd f.fin);go_region_held3 (fun U=>Ce U p.pb 1 (Pt p.dk)/\Ce U w.heap.size 0 v/\Ce U g 0 (I6 a)/\Ce U g 1 (I6 b)/\Ce U g 2 (I6 30)/\Ce U g 3 (I6 3)/\Ce U g 4 (I6 12)/\Ce U g 5 (I6 5))
   (first|exact⟨p1,x0,c0,c1,c2,c3,c4,c5⟩|exact hw)
   (first|(go_at_call 29;(with_reducible refine HS.out.mono ?_);rintro _e w3 ⟨u,er,x,rfl,hx,D,V⟩;have hw:Ce w3 p.pb 1 (Pt p.dk)/\Ce w3 w.heap.size 0 v/\Ce w3 g 0 (I6 a)/\Ce w3 g 1 (I6 b)/\Ce w3 g 2 (I6 30)/\Ce w3 g 3 (I6 3)/\Ce w3 g 4 (I6 12)/\Ce w3 g 5 (I6 5):=(by
    have F:=am.st ht (SD.trans D) (by rw[hu];exact T);have q2:=am.st X1 (SD.trans D) (by rw[oX];exact S);obtain⟨A3,h5,h6,h7,h8,s⟩:=(f.st (SD.trans D) S T).v;exact⟨am.cell F 1,am.cell q2 0,am.cell s.blk 0,am.cell s.blk 1,am.cell s.blk 2,am.cell s.blk 3,am.cell s.blk 4,am.cell s.blk 5⟩)))
  all_goals
   have T3:=aH (SD.trans D);obtain⟨B3,P3⟩:=gB (f.st T3 S T) (P1.st T3 S (fun i hi hne r e=>hne (by congr 1;simp at e;omega)));have F:=am.st ht T3 (by rw[hu];exact T);obtain⟨Q1,hz,hA⟩:=gC F hx V;have z0:=ce F;have z3:=ef F;have f0:=am.frozen F 0;have f3:=am.frozen F 3;clear hw D hx V F;have HF:Hid (((w3.setCell ⟨p.pb,0,none⟩ (dS u)).setCell ⟨p.pb,3,none⟩ (.bool false)).heap[w.heap.size+2]?=some (.deferred (some []))/\∃nd,eA E cm cl tv M nc a b x (((w3.setCell ⟨p.pb,0,none⟩ (dS u)).setCell ⟨p.pb,3,none⟩ (.bool false)).putObj (w.heap.size+2) (.deferred none)) g (ps.set j {p with nd:=nd}) tl/\
     St (fun y=>y.1=j+1\/y=(9,0)\/(y.1=13/\w.heap.size<=y.2)) o w x (((w3.setCell ⟨p.pb,0,none⟩ (dS u)).setCell ⟨p.pb,3,none⟩ (.bool false)).putObj (w.heap.size+2) (.deferred none))):=aH (by
    have ho:=aA (aB w3 p.pb 0 (dS u)) (aB (w3.setCell ⟨p.pb,0,none⟩ (dS u)) p.pb 3 (.bool false));have hb:=am.I (am.I Q1 0 (dS u)) 3 (.bool false);obtain⟨w5,hN⟩:=nx ((w3.setCell ⟨p.pb,0,none⟩ (dS u)).setCell ⟨p.pb,3,none⟩ (.bool false));rw[hN]at ho hb ⊢;have hO:=(B3.pl p (qC X)).1;have s5:St (·=(9,0)) x w3 x w5:=.U ho hO B3.fin;have hC:¬((0,0):Nat×Nat)=(9,0):=by simp
    have P5:=P3.st s5 hC (fun i hi _ r e=>by injection e;omega);have oB:x (w.heap.size+2)=(13,w.heap.size+2):=by rw[<-m,T3.old _ hs];exact oM
    have k3:w3.heap[w.heap.size+2]?=some (.deferred (some [])):=(T3.block _ (by omega) (by rw[<-m,oM];simp;omega)).trans (m▸K1);have k5:w5.heap[w.heap.size+2]?=some (.deferred (some [])):=(s5.block _ (ap k3) (by rw[oB];simp)).trans k3;have s6:St (fun y=>y.1=13/\w.heap.size<=y.2) x w5 x (w5.putObj (w.heap.size+2) (.deferred none)):=.U (grownBy_putObj' w5 _ _) (by rw[oB];exact⟨rfl,by simp⟩) s5.far;have bI:∃nd:Option Nb,(nd.map Nb.nb)=u/\gA E cl tv M (j+1) x w3 {p with nd:=nd}:=by
     rcases hA.out with⟨_,N,e1,L,e3,e4,e5⟩|⟨_,e1,L,d',rs1,rs2,e3,e4⟩
     ·exact⟨some N,e1.symm,.inr ⟨N,0,rfl,L,e3,e4,zS _,e5⟩⟩
     ·exact⟨none,e1.symm,.inl ⟨rfl,L,d',rs1,rs2,e3,e4,trivial⟩⟩
    obtain⟨nd,hQ,hR⟩:=bI;obtain⟨B5,_⟩:=B3.place X ho (nd:=nd) (z:=z1) (t:=false) (by rw[<-hQ]at hb;exact hb);have C5:=P5.set hH (p':={p with nd:=nd}) (hR.st s5 hC (fun r e=>by injection e;omega));refine⟨k5,nd,⟨B5.st s6 R (by simp),C5.st s6 R (fun i hi _ r e=>by rw[List.length_set]at hi;have:=e.1;simp at this;omega)⟩,?_⟩;exact(((S1.mono fun y e=>.inr (.inr e)).trans (T3.mono fun y e=>.inl e)).trans (s5.mono fun y e=>.inr (.inl e))).trans (s6.mono fun y e=>.inr (.inr e)))
   have HE:Hid (rs=[]->(er==0)=true):=aH fun e=>by rw[hz e];rfl
   clear hA hz;cases u;all_goals
    simp only[dS]at HF ⊢;go_wp2;obtain⟨hm,nd,hT,hU⟩:=HF.out;refine⟨by simp,.inl ⟨_,_,rfl,run_takeDeferred hm,?_⟩⟩;exact⟨_,results_tmp rfl _ _ _,_,x,nd,rfl,HE,hT,hU⟩
end
theorem C5(n:Int)(w:World)(c:1<=n)(f:n<=67108864):Cs 23 #[I6 n] w fun e w'=>Rt e (Pt w.heap.size)/\bS w' w.heap.size ⟨[],[],n,0,true,false,0⟩/\Below w.heap.size w w':=by
 have g:decide (n < 1)=false:=by simp;omega
 have h:decide (67108864 < n)=false:=by simp;omega
 obtain⟨a,b⟩:=gB (show bS (w.alloc (.cells #[.string (aF []),.string (aF []),I6 n,I6 0,.bool true,.bool false,I6 0] 95)) w.heap.size ⟨[],[],n,0,true,false,0⟩from am.new _ _ _) (ba w (.cells #[.string (aF []),.string (aF []),I6 n,I6 0,.bool true,.bool false,I6 0] 95));apply cI;go_in;go_wp2;go_ret;exact⟨rfl,a,b⟩
theorem AU(g:Nat) s(d:Dk) w(h:bS w g d)(hr:0 < d.room):Cs 28 #[Pt g,.string (aF s)] w fun e w'=>Rt e (.tuple #[])/\bS w' g {d with sf:=s,tl:=[],on:=true,armed:=false}/\aW g w w':=by
 obtain⟨sf,tl,a,b,on,armed,left⟩:=d;obtain⟨c,f,i,k,m,n,p⟩:=h.cells;have u:=fun j=>am.frozen h j;dsimp only at c f i k m n p hr;have x:decide ((0:Int) < a)=true:=by simpa using hr
 obtain⟨q,t⟩:=gB (show bS ((((w.setCell ⟨g,0,none⟩ (.string (aF s))).setCell ⟨g,1,none⟩ (.string (aF []))).setCell ⟨g,4,none⟩ (.bool true)).setCell ⟨g,5,none⟩ (.bool false)) g ⟨s,[],a,b,true,false,left⟩from am.I (am.I (am.I (am.I h 0 _) 1 _) 4 _) 5 _) (show aW g w ((((w.setCell ⟨g,0,none⟩ (.string (aF s))).setCell ⟨g,1,none⟩ (.string (aF []))).setCell ⟨g,4,none⟩ (.bool true)).setCell ⟨g,5,none⟩ (.bool false))from aA (aA (aA (aB _ _ _ _) (aB _ _ _ _)) (aB _ _ _ _)) (aB _ _ _ _));apply cI;go_in;go_wp2;go_end0;exact⟨rfl,q,t⟩
theorem pW(g:Nat)(k:Int)(d:Dk) w(h:bS w g d)(hr:0 < d.room)(hdl:d.sf.length+d.tl.length<=100000000):
  Cs 15 #[Pt g,I6 k] w fun e w'=>Rt e (.tuple #[])/\(∃j:Nat,bS w' g {d with sf:=d.sf++d.tl.take j,tl:=[],on:=true,armed:=false})/\aW g w w':=by
 obtain⟨q,s,-⟩:=h.cells;obtain⟨j,t,n⟩:∃j:Nat,min (max k 0) (d.tl.length:Int)=j/\j<=d.tl.length:=⟨(min (max k 0) (d.tl.length:Int)).toNat,by omega,by omega⟩;have p:=gO d.tl j;have a:(j:Int)<=(d.tl.length:Int):=by omega
 have b:=fun W=>bJ d.sf (d.tl.take j) (by simp;omega) W;obtain⟨c,H⟩:=gB (fun w (h:bS w g d)=>AU g (d.sf++d.tl.take j) d w h hr) h;apply cI;go_in;go_wp2;refine aN 14 (by kernel_rfl) (by kernel_rfl) ?_;simp only[zF,zN,zG,zO];repeat still_step
 refine wpStill_nil ?_;have f:=aH (c w.drew H);go_wp2_with fail;refine f.mono ?_;rintro u w2 ⟨rfl,i,m⟩;obtain⟨A,B⟩:=gB i m;go_wp2;go_end0;exact⟨rfl,⟨j,A⟩,aA b9 B⟩
theorem Ed(g:Nat)(k:Int)(d:Dk) w(h:bS w g d):
  Cs 90 #[Pt g,I6 k] w fun e w'=>Rt e (.tuple #[])/\(∃l,bS w' g {d with armed:=true,left:=l})/\aW g w w':=by
 obtain⟨c,tl,b,a,f,armed,left⟩:=d;obtain⟨p,q,s,t,u,i,m⟩:=h.cells;have x:=fun j=>am.frozen h j;dsimp only at i m;have n:=aH (fun l:Int=>show bS ((w.setCell ⟨g,5,none⟩ (.bool true)).setCell ⟨g,6,none⟩ (I6 l)) g ⟨c,tl,b,a,f,true,l⟩from am.I (am.I h 5 _) 6 _);apply cI;go_in;go_wp2;go_end0;exact⟨rfl,⟨_,n _⟩,aA (aB _ _ _ _) (aB _ _ _ _)⟩
section
variable{p:Pl}{d:Dk}{T:Nat}{hand:Option Nat}{rsv:List Int}
theorem x9{a b}(h:aF a=aF b):a=b:=by rw[<-mc a,h,mc]
theorem gd.as(h:gd E tv i d rs1 rs2)(a:d'.sf=d.sf)(b:d'.tl=d.tl)(c:d'.room=d.room):gd E tv i d' rs1 rs2:=
 ⟨c.trans h.room,a.trans h.sf,b.trans h.tl,by rw[a,b];exact h.size,h.ok,h.num⟩
theorem aE.b'(h:aE E Rf N T B hand rsv o w)(f:aW N.dk w w')(hd:∀d,bS w N.dk d->∃d',bS w' N.dk d'/\d'.sf=d.sf/\d'.tl=d.tl/\d'.room=d.room):aE E Rf N T B hand rsv o w'/\St (fun y=>y.1=N.i) o w o w':=by
 obtain⟨next,p,q⟩:=h.rest;obtain⟨g,a,br,d,rs1,rs2,up,n,a1,a2,a3,a4,a5,a6,a7,a8,a9,a10⟩:=p;have c:St (·=(N.i,N.dk)) o w o w':=.U f a h.fin;obtain⟨d',s,i,j,t⟩:=hd d a2;obtain⟨u,x,b⟩:=a1;have z:N.lg≠N.dk:=aT b a2 (by decide);have k:=a4;obtain⟨_,_,m,_⟩:=k;have n2:N.st≠N.dk:=aT m a2 (by decide);refine⟨(h.wrote q (c.mono fun y e=>.inr (.inl e)) ⟨g,a,br,d',rs1,rs2,up,n,⟨u,x,b.only f z⟩,s,a3.as i j t,a4.st c (by intro e;injection e with _ e;exact n2 e) (by intro e;exact h.i0 (by injection e with e;exact e.symm)),a5,a6,a7,by rw[i,j];exact a8,a9,a10⟩).1,c.mono fun y e=>by rw[e]⟩
theorem gA.b'(h:gA E cl tv M i o w p):∃d,bS w p.dk d/\d.room=4194304/\d.sf.length+d.tl.length<=4194304/\o p.dk=(i,p.dk)/\(∃rs1 rs2,gd E tv i d rs1 rs2):=by
 obtain⟨b,d,rs1,rs2,c,a,_⟩:=h.disk;exact⟨d,c,a.room,a.size,b,rs1,rs2,a⟩
theorem gA.aj(h:gA E cl tv M i o w p)(hf:aX o w)(hd:bS w p.dk d)(c:aW p.dk w w')(a:bS w' p.dk d')(m:d'.sf=d.sf)(n:d'.tl=d.tl)(q:d'.room=d.room):gA E cl tv M i o w' p/\St (fun y=>y.1=i) o w o w':=by
 have f:∀k,bS w p.dk k->k.sf=d.sf/\k.tl=d.tl/\k.room=d.room:=fun k hk=>by
  have u0:=hk.cells.1.symm.trans hd.cells.1;have u1:=hk.cells.2.1.symm.trans hd.cells.2.1;have u2:=hk.cells.2.2.1.symm.trans hd.cells.2.2.1;injection u0 with u0;injection u0 with u0;injection u1 with u1;injection u1 with u1;injection u2 with u2;injection u2 with _ u2;exact⟨x9 u0,x9 u1,u2⟩
 rcases h with⟨g,h⟩|⟨N,T,g,rfl,s,rfl,t,h⟩
 ·obtain⟨b,k,rs1,rs2,j,u,_⟩:=h;obtain⟨u1,u2,u3⟩:=f k j;exact⟨.inl ⟨g,b,d',rs1,rs2,a,u.as (m.trans u1.symm) (n.trans u2.symm) (q.trans u3.symm),trivial⟩,.U c (by rw[b]) hf⟩
 ·rw[<-s]at c a f;obtain⟨b,j⟩:=h.b' c fun k hk=>by
   obtain⟨u1,u2,u3⟩:=f k hk;exact⟨d',a,m.trans u1.symm,n.trans u2.symm,q.trans u3.symm⟩
  exact⟨.inr ⟨N,T,g,rfl,s,rfl,t,b⟩,j⟩
theorem Gf(h:e6 E cm cl tv nc a b o w g ps tl)(c:ps[j]?=some p):∃z t,am w p.pb 68 (FF p z t):=(h.pl p (qC c)).2
theorem C6(s:eA E cm cl tv M nc a b o w g ps tl)(c:ps[j]?=some p):
  Cs 38 #[Pt g,.agg (tq m),Pt p.pb] w fun e w'=>Rt e (.tuple #[])/\kR E cm tv M nc a b o w g ps.length w':=by
 obtain⟨R,nd,at_,n,S,q,T,rc⟩:=m;obtain⟨W0,U,A,D⟩:=dW w #[I6 R,I6 nd,I6 at_,I6 n,I6 S,.string (aF q),.string (aF T),I6 rc] 53;have V:=s.1.len.2;have ha:=(zE.1 c).1;have hd:Bw W0 W0.drew:=bD _;have B:=(s.below A).below hd;have hf:=s.1.fin;have X:Hid (St (fJ w.heap.size) o w o W0.drew):=aH ((St.J A hf).below hd);have a3:=ef D;obtain⟨z1,t1,t⟩:=Gf (s.below A).1 c;have p1:=dt t;have F:=B.2 j p c (by simp);obtain⟨d,G,_,_,hb,_⟩:=F.b';obtain⟨Y,f,Z,H⟩:=gD (Ed p.dk n d W0.drew G) B D (t.below hd);have I:=(B.1.pl p (qC c)).1;have ob:o w.heap.size=(0,0):=hf _ nR;apply cI;go_in;go_upto_region 1 with(fail);simp only[U.out];go_wp2_with fail;show(Code.region _ (_::_::_::Ll _::_).toArray _).wp _ _ _ _;go_region_held3 (fun W=>Ce W w.heap.size 3 (I6 n))
  (first|exact a3|assumption)
  (first
   |(go_at_call 90;(with_reducible refine Y.out.mono ?_);rintro _e w3 ⟨rfl,⟨l,J⟩,L⟩;have h:=(f.2 j p c (by simp)).aj f.1.fin G L J rfl rfl rfl;have hc:Ce w3 w.heap.size 3 (I6 n):=am.cell (am.st (Z.below hd) h.2 (by rw[ob];simp)) 3))
 all_goals
  obtain⟨h,k⟩:=h;have u:¬(((0,0):Nat×Nat).1=j+1):=by simp
  have z:¬(((9,0):Nat×Nat).1=j+1):=by simp;omega
  have N:=f.1.st k u z;have P3:=((f.2.but (x:=some j)).st k u (fun i hi hne r e=>hne (by congr 1;simp at e;omega))).back c h;have C:=am.st H k (by rw[I];exact z);have C3:eA E cm cl tv M nc a b o w3 g ps tl:=⟨N,P3⟩;obtain⟨B4,O⟩:=N.armed c C true;have z3:=ef C;have f3:=am.frozen C 3;have HF:=aH ((C3.nine O B4).r (bX.Le.refl E) rfl rfl ((X.trans (k.mono fun y hy=>yb (by omega) hy)).trans (O.mono fun y hy=>it hy)));go_wp2_with fail;go_end0;exact⟨rfl,HF⟩
theorem xj(h:eA E cm cl tv M nc a b o w g ps tl)(s:ps[j]?=some p)(u:m.nd=(j:Int)+1):
  Cs 37 #[Pt g,.agg (tq m),Pt p.pb] w fun e w'=>Rt e (.tuple #[])/\kR E cm tv M nc a b o w g ps.length w':=by
 obtain⟨Z,nd,at_,n,op,q,bd,rc⟩:=m;dsimp only at u;subst u;obtain⟨W0,HW,B,C⟩:=dW w #[I6 Z,I6 ((j:Int)+1),I6 at_,I6 n,I6 op,.string (aF q),.string (aF bd),I6 rc] 53;have ha:=h.1.len.2;have hb:=(zE.1 s).1;have hd:Bw W0 W0.drew:=bD _;have D:=(h.below B).below hd;have hf:=h.1.fin;have S0:Hid (St (fJ w.heap.size) o w o W0.drew):=aH ((St.J B hf).below hd);have a3:=ef C;obtain⟨z1,t1,F⟩:=Gf (h.below B).1 s;have p1:=dt F;have G:=D.2 j p s (by simp);obtain⟨d,hD,Y,hc,z,rs1,rs2,H⟩:=G.b';obtain⟨HA,f,I⟩:=gC (pW p.dk n d W0.drew hD (by omega) (by omega)) D C;have J:o w.heap.size=(0,0):=hf _ nR;have L:=aH H;apply cI;go_in;go_upto_region 1 with(fail);simp only[HW.out];go_wp2_with fail;show(Code.region _ (_::_::_::Ll _::_).toArray _).wp _ _ _ _;go_region_held3 (fun W=>Ce W w.heap.size 3 (I6 n))
  (first|exact a3|assumption)
  (first
   |(go_at_call 15;(with_reducible refine HA.out.mono ?_);rintro _e w3 ⟨rfl,⟨k,N⟩,O⟩;have c:St (fun y=>y.1=j+1) o W0.drew o w3:=.U O (by rw[z]) f.1.fin;have he:Ce w3 w.heap.size 3 (I6 n):=am.cell (am.st (I.below hd) c (by rw[J];simp)) 3))
 all_goals
  have A:¬(((0,0):Nat×Nat).1=j+1):=by simp
  have R:¬(((9,0):Nat×Nat).1=j+1):=by simp;omega
  have B3:=f.1.st c A R;have P3:=(f.2.but (x:=some j)).st c A (fun i hi hne r e=>hne (by congr 1;simp at e;omega));obtain⟨rs,S⟩:=L.dj k;have T:=aH (j9 B3 P3 s z N S);have y1:Ce w3 w.heap.size 1 (I6 ((j:Int)+1)):=am.cell (am.st (I.below hd) c (by rw[J];simp)) 1;have U:=aH (S0.trans (c.mono fun y hy=>yb (by omega) hy));go_wp2_with fail;refine T.mono ?_;rintro _e w4 ⟨t,o4,nd,rfl,_,V,X⟩;have hF:=eA.r (E:=E) (n:=ps.length) V (bX.Le.refl E) rfl (by simp) (U.trans (X.mono fun y hy=>by
   rcases hy with e|e|e
   ·exact yb (by omega) e
   ·exact it e
   ·exact .inr ⟨e.1,zD U.size e.2⟩))
  have HF:=aH hF;go_wp2_with fail;go_end0;exact⟨rfl,HF⟩
end
section
variable{p:Pl}
theorem eA.self(h:eA E cm cl tv M nc a b o w g ps tl)(c:eA E cm cl tv M nc a b o' w' g ps tl')(f:St (fJ w.heap.size) o w o' w'):kR E cm tv M nc a b o w g ps.length w':=c.r (bX.Le.refl E) rfl rfl f
theorem oL(at_:Int)(u:eA E cm cl tv M nc a b o w g ps tl):
  Cs 19 #[Pt g,I6 at_] w fun e w'=>Rt e (.tuple #[])/\kR E cm tv M nc a b o w g ps.length w':=by
 obtain⟨A,ca,pp,At,ct,hv⟩:=u.1.v;have D:=u.1.len.2;have y7:=fb hv.blk;obtain⟨X,h,Y⟩:=gC (xf at_ hv.post (by simp) (by decide) u.1.fin) u hv;apply cI;go_in;go_wp2_with fail;refine X.mono ?_;rintro m w1 ⟨⟨f,t,s,Z,rfl,I⟩,J,L⟩;obtain⟨N,F⟩:=h.1.post Y.blk L J;have n:=ba w1 (.cells #[I6 f,I6 t,.string (aF s)] 104);have x2:=am.new w1 104 #[I6 f,I6 t,.string (aF s)];have G:=(h.nine F N).below n;have q:=aH ((F.mono fun y hy=>(it hy:fJ w.heap.size y)).below n);have O:o w1.heap.size=(0,0):=F.far _ nR;obtain⟨c,R,k,S⟩:=gD G I x2 n;by_cases hr:1<=t/\t<=(ps.length:Int)
 case neg=>
  have i:=aH (DP G.1 t (by omega));go_wp2_with fail;refine i.mono ?_;rintro m T ⟨rfl,rfl⟩;go_wp2_with fail
  ·go_end0;exact⟨rfl,h.self c q⟩
  ·go_end0;exact⟨rfl,h.self c q⟩
 obtain⟨j,rfl⟩:∃j:Nat,t=(j:Int)+1:=⟨(t - 1).toNat,by omega⟩;have x:j < ps.length:=by omega
 obtain⟨p,H⟩:∃p,ps[j]?=some p:=⟨_,zA x⟩;have i:=aH (iY G.1 H);cases Z
 case false=>
  go_wp2_with fail;refine i.mono ?_;rintro m T ⟨rfl,rfl⟩;go_wp2_with fail;go_end0;exact⟨rfl,h.self c q⟩
 obtain⟨W2,z⟩:=nM (w1.alloc (.cells #[I6 f,I6 ((j:Int)+1),.string (aF s)] 104));rw[z]at c q k S i;have hd:Bw W2 W2.drew:=bD _;obtain⟨zc,tc,B⟩:=Gf c.1 H;have y0:=ce B;have y2:=ed B;have b2:=ed k;obtain⟨HH,SD⟩:=gB (AR zc (c.below hd) H (R rfl)) (q.below hd);go_wp2_with fail;simp only[z.out];refine i.mono ?_;rintro m T ⟨rfl,rfl⟩;go_wp2_with fail;show(Code.region _ (_::_::_::_::Ll _::_::_::_::_::_::Ll _::_).toArray _).wp _ _ _ _;go_region_held3 (fun W=>Ce W w1.heap.size 2 (.string (aF s)))
  (first|exact b2|assumption)
  (first
   |(go_at_call 34;(with_reducible refine HH.out.mono ?_);rintro m w3 U;have ha:Ce w3 w1.heap.size 2 (.string (aF s)):=(am.cell (U.box k O) 2);obtain⟨v1,v2,rfl,V⟩:=jj.cu x D U)
   |(go_at_call 31;(with_reducible refine V.mono ?_);rintro m w4 ⟨rfl,C⟩;have hb:Ce w4 w1.heap.size 2 (.string (aF s)):=(am.cell (C.box k O) 2)))
 all_goals
  go_wp2;go_end0;exact⟨rfl,C.from_ (bX.Le.refl _) rfl SD⟩
theorem e6.calls(h:e6 E cm cl tv nc a b o w g ps tl):Ce w g 8 (I6 (nc:Nat)):=by
 obtain⟨_,_,_,_,h,_⟩:=h.all;exact am.cell h 8
theorem AV(A:eA E cm cl tv M nc a b o w g ps [])(N:ps[j]?=some p)(hk:cl nc)(V:¬cm nc)(X:E.cs[nc]?=some c)(F:c.op=m.op)(Y:c.nd=((j+1:Nat):Int))(G:c.q=m.q)(H:c.b=m.b)(O:E.cs.length=nc+1)(hK:∀x,E.K x≠some nc)(Z:m.q.length<=100)(I:m.b.length<=1000000000):
  Cs 36 #[Pt g,.agg (tq m),Pt p.pb] w fun e w'=>Rt e (.tuple #[])/\kR E cm tv M (nc+1) a b o w g ps.length w':=by
 obtain⟨kd,nd,at_,n,s,q,B,rc⟩:=m;dsimp only at F G H Z I;obtain⟨W0,HW,HB,x0⟩:=dW w #[I6 kd,I6 nd,I6 at_,I6 n,I6 s,.string (aF q),.string (aF B),I6 rc] 53;have C:=A.1.len.2;have bI:=A.1.cs;have ha:=(zE.1 N).1;have hf:=A.1.fin;have R:o w.heap.size=(0,0):=hf _ nR;have D:=A.below HB;have y8:Ce W0 g 8 (I6 (nc:Nat)):=D.1.calls;obtain⟨_,_,_,_,hb,_⟩:=D.1.all;have f8:=am.frozen hb 8;obtain⟨hc,S⟩:=D.1.count;have t:eA E cm cl tv M (nc+1) a b o _ g ps []:=⟨hc,D.2.st S (by simp) (fun i hi _ r e=>by injection e;omega)⟩;have h:=am.st x0 S (by rw[R];simp);have T:Hid (St (fJ w.heap.size) o w o _):=aH ((St.J HB hf).trans (S.mono fun y hy=>it hy));rw[show((nc+1:Nat):Int)=(nc:Int)+1 by omega]at t h T;have kw:IntKind.i64.wrap ((nc:Int)+1)=(nc:Int)+1:=zZ _ (by omega);have hg:IntKind.i64.wrap ((nc:Int)+1 - 1)=(nc:Int):=by rw[show(nc:Int)+1 - 1=(nc:Int) by omega];exact zZ _ (by omega)
 have hh:IntKind.i64.wrap (nc:Int)=(nc:Int):=zZ _ (by omega);obtain⟨W1,J⟩:=nM (W0.setCell ⟨g,8,none⟩ (I6 ((nc:Int)+1)));rw[J]at t h T;have hd:Bw W1 W1.drew:=bD _;obtain⟨zc,tc,L⟩:=Gf t.1 N;have y0:=ce L;have y2:=ed L;have b4:=eV h;have b5:=e9 h;have b6:=fa h;have b7:=fb h;have g8:Ce W1 g 8 (I6 ((nc:Int)+1)):=t.1.calls;obtain⟨HA,SD,X1⟩:=gC (C3 (k:=nc) s rc zc (t.below hd) N hk V X F Y G H O hK Z I) (T.below hd) h;apply cI;go_in;go_upto_region 1 with(fail);simp only[HW.out];go_wp2_with fail;simp only[J.out];show(Code.region _ (_::_::_::_::Ll _::_::_::_::_::_::_::_::_::_::_::Ll _::_).toArray _).wp _ _ _ _;go_region_held3 (fun W=>Ce W g 8 (I6 ((nc:Int)+1))/\Ce W w.heap.size 4 (I6 s)/\Ce W w.heap.size 5 (.string (aF q))/\Ce W w.heap.size 6 (.string (aF B))/\Ce W w.heap.size 7 (I6 rc))
  (first|exact⟨g8,b4,b5,b6,b7⟩|assumption)
  (first
   |(go_at_call 89;(with_reducible refine HA.out.mono ?_);rintro _e w3 U;have hl:Ce w3 g 8 (I6 ((nc:Int)+1))/\Ce w3 w.heap.size 4 (I6 s)/\Ce w3 w.heap.size 5 (.string (aF q))/\Ce w3 w.heap.size 6 (.string (aF B))/\Ce w3 w.heap.size 7 (I6 rc):=(by
     have f:=U.box X1 R;obtain⟨_,_,_,_,_,_,_,_,_,_,_,_,_,_,_,_,u,_⟩:=U;exact⟨u.calls,am.cell f 4,am.cell f 5,am.cell f 6,am.cell f 7⟩);obtain⟨v1,v2,rfl,he⟩:=jj.cu ha C U)
   |(go_at_call 31;(with_reducible refine he.mono ?_);rintro _e w4 ⟨rfl,z⟩;have hm:Ce w4 g 8 (I6 ((nc:Int)+1))/\Ce w4 w.heap.size 4 (I6 s)/\Ce w4 w.heap.size 5 (.string (aF q))/\Ce w4 w.heap.size 6 (.string (aF B))/\Ce w4 w.heap.size 7 (I6 rc):=(by
     have f:=z.box X1 R;obtain⟨_,_,_,_,_,_,_,_,⟨u,_⟩,_⟩:=z;exact⟨u.calls,am.cell f 4,am.cell f 5,am.cell f 6,am.cell f 7⟩)))
 all_goals
  go_wp2;go_end0;exact⟨rfl,z.from_ (bX.Le.refl _) rfl SD⟩
end
section
open Go.Shelf
attribute [local go_sem] Oper.semAt_some
variable{p:Pl}
structure C7(w:World)(B i:Nat)(W:World)(z:Int)(v1 v2:Value)(l1 l2:List Int):Prop where
 below:Below w.heap.size w W
 bits:am W w.heap.size 3 #[I6 z]
 b1:am W (w.heap.size+1) 34 #[v1]
 b2:am W (w.heap.size+2) 34 #[v2]
 o1:aK aC (w.heap.size+1) W v1 l1
 o2:aK aC (w.heap.size+1) W v2 l2
 n1:l1.length<=i
 n2:l2.length<=i
 s1:∀b,v1.ownBlock=some b->b≠B/\b≠B+1/\v2.ownBlock≠some b
 s2:∀b,v2.ownBlock=some b->b≠B/\b≠B+1
def oX(w:World)(B:Nat)(z:Int)(i:Nat)(W:World):Prop:=∃v1 v2 l1 l2,C7 w B i W z v1 v2 l1 l2
theorem oX.spare(w:World)(B:Nat)(z:Int)(m:w.heap.size+3 < B)(i:Nat):x8 B (oX w B z i):=by
 rintro W n row ⟨v1,v2,g,j,h⟩ b a;have c:∀k,k < B->some k≠row:=fun k hk e=>by rcases a k e.symm with e|e<;>omega
 refine⟨v1,v2,g,j,h.below.grown b h.below.size (fun k e=>?_),am.grown h.bits b (c _ (by omega)),am.grown h.b1 b (c _ (by omega)),am.grown h.b2 b (c _ (by omega)),aK.keep (E:=aC) h.o1 b (fun k e e2=>?_),aK.keep (E:=aC) h.o2 b (fun k e e2=>?_),h.n1,h.n2,h.s1,h.s2⟩
 ·rcases a k e with rfl|rfl<;>omega
 ·obtain⟨f,n2,_⟩:=h.s1 k e;rcases a k e2 with e|e
  ·exact f e
  ·exact n2 e
 ·obtain⟨f,n2⟩:=h.s2 k e;rcases a k e2 with e|e
  ·exact f e
  ·exact n2 e
theorem oX.one{l1 l2}(H:B=w.heap.size+4)(G:B+1 < W.heap.size)(h:C7 w B i W z v1 v2 l1 l2)(f:aK aC (w.heap.size+1) w6 v6 (l1++[y]))(a:W.grownBy w6 v1.ownBlock)(q:v6.ownBlock=v1.ownBlock\/v6.ownBlock=some (W.heap.size+1)):
  ∃s n6 c6,v6=.slice s n6 c6/\am w6 (w.heap.size+1) 34 #[v1]/\D6 B W (w6.setCell ⟨w.heap.size+1,0,none⟩ v6)/\oX w B z (i+1) (w6.setCell ⟨w.heap.size+1,0,none⟩ v6):=by
 obtain⟨s,c6,A,_⟩:=(aK.rw (E:=aC) f).slice;have m:∀{t:TypeId} {cs:Array Value} {k:Nat},am W k t cs->3≠t->some k≠v1.ownBlock:=fun{t cs k} hb hne e=>by
  obtain⟨n,g⟩:=aK.ty (El_:=aC) h.o1 e.symm;exact aT hb g (fun e=>hne e.symm) rfl
 have u:=am.grown h.b1 a (m h.b1 (by decide));have c:=aB w6 (w.heap.size+1) 0 v6;have x:=a.size;have p:=aK.lt (E:=aC) h.o1;have C:=aK.lt (E:=aC) h.o2;have D:∀k,v6.ownBlock=some k->k≠w.heap.size+1:=fun k e=>by
  obtain⟨n,g⟩:=aK.ty (El_:=aC) f e;exact aT g u (by decide)
 have F:∀k,v2.ownBlock=some k->k≠w.heap.size+1:=fun k e=>by
  obtain⟨n,g⟩:=aK.ty (El_:=aC) h.o2 e;exact aT g h.b1 (by decide)
 have nb:w.heap.size≠w.heap.size+1:=by omega
 have j:some w.heap.size≠v1.ownBlock:=fun e=>by
  have:=(p _ e.symm).1;omega
 refine⟨s,_,c6,A,u,⟨?_,?_⟩,v6,v2,l1++[y],l2,⟨?_,?_,am.I u 0 _,?_,?_,?_,by simp;exact h.n1,by have:=h.n2;omega,fun b e=>?_,h.s2⟩⟩
 ·rw[c.block _ (by omega) (by simp;omega),a.block _ (by omega) (fun e=>(h.s1 _ e.symm).1 rfl)]
 ·rw[c.block _ (by omega) (by simp;omega),a.block _ (by omega) (fun e=>(h.s1 _ e.symm).2.1 rfl)]
 ·exact(h.below.grown a h.below.size (fun k e=>by have:=(p k e).1;omega)).grown c (zD h.below.size x) (fun k e=>by injection e with e;omega)
 ·exact(am.grown h.bits a j).only c nb
 ·exact(am.grown h.b2 a (m h.b2 (by decide))).only c (by omega)
 ·exact aK.keep (E:=aC) f c (fun k e e2=>by injection e2 with e2;exact D k e e2.symm)
 ·exact aK.keep (E:=aC) (aK.keep (E:=aC) h.o2 a (fun k e e2=>(h.s1 k e2).2.2 e)) c (fun k e e2=>by injection e2 with e2;exact F k e e2.symm)
 ·rcases q with h6|h6
  ·exact h.s1 b (by rw[<-h6];exact e)
  ·rw[h6]at e;injection e with e;subst e;exact⟨by omega,by omega,fun e2=>by have:=(C _ e2).2;omega⟩
theorem oX.two{l1 l2}(L:B=w.heap.size+4)(J:B+1 < W.heap.size)(h:C7 w B i W z v1 v2 l1 l2)(f:aK aC (w.heap.size+1) w6 v6 (l2++[y]))(a:W.grownBy w6 v2.ownBlock)(g:v6.ownBlock=v2.ownBlock\/v6.ownBlock=some (W.heap.size+1)):
  ∃s n6 c6,v6=.slice s n6 c6/\am w6 (w.heap.size+2) 34 #[v2]/\D6 B W (w6.setCell ⟨w.heap.size+2,0,none⟩ v6)/\oX w B z (i+1) (w6.setCell ⟨w.heap.size+2,0,none⟩ v6):=by
 obtain⟨s,c6,A,_⟩:=(aK.rw (E:=aC) f).slice;have n:∀{t:TypeId} {cs:Array Value} {k:Nat},am W k t cs->3≠t->some k≠v2.ownBlock:=fun{t cs k} hb hne e=>by
  obtain⟨p,j⟩:=aK.ty (El_:=aC) h.o2 e.symm;exact aT hb j (fun e=>hne e.symm) rfl
 have u:=am.grown h.b2 a (n h.b2 (by decide));have c:=aB w6 (w.heap.size+2) 0 v6;have x:=a.size;have q:=aK.lt (E:=aC) h.o2;have C:=aK.lt (E:=aC) h.o1;have D:∀k,v6.ownBlock=some k->k≠w.heap.size+2:=fun k e=>by
  obtain⟨p,j⟩:=aK.ty (El_:=aC) f e;exact aT j u (by decide)
 have F:∀k,v1.ownBlock=some k->k≠w.heap.size+2:=fun k e=>by
  obtain⟨p,j⟩:=aK.ty (El_:=aC) h.o1 e;exact aT j h.b2 (by decide)
 have nb:w.heap.size≠w.heap.size+2:=by omega
 have m:some w.heap.size≠v2.ownBlock:=fun e=>by
  have:=(q _ e.symm).1;omega
 refine⟨s,_,c6,A,u,⟨?_,?_⟩,v1,v6,l1,l2++[y],⟨?_,?_,?_,am.I u 0 _,?_,?_,by have:=h.n1;omega,by simp;exact h.n2,fun b e=>?_,fun b e=>?_⟩⟩
 ·rw[c.block _ (by omega) (by simp;omega),a.block _ (by omega) (fun e=>(h.s2 _ e.symm).1 rfl)]
 ·rw[c.block _ (by omega) (by simp;omega),a.block _ (by omega) (fun e=>(h.s2 _ e.symm).2 rfl)]
 ·exact(h.below.grown a h.below.size (fun k e=>by have:=(q k e).1;omega)).grown c (zD h.below.size x) (fun k e=>by injection e with e;omega)
 ·exact(am.grown h.bits a m).only c nb
 ·exact(am.grown h.b1 a (n h.b1 (by decide))).only c (by omega)
 ·exact aK.keep (E:=aC) (aK.keep (E:=aC) h.o1 a (fun k e e2=>(h.s1 k e).2.2 e2)) c (fun k e e2=>by injection e2 with e2;exact F k e e2.symm)
 ·exact aK.keep (E:=aC) f c (fun k e e2=>by injection e2 with e2;exact D k e e2.symm)
 ·obtain⟨G,H,I⟩:=h.s1 b e;refine⟨G,H,fun e2=>?_⟩;rcases g with h6|h6
  ·rw[h6]at e2;exact I e2
  ·rw[h6]at e2;injection e2 with e2;subst e2;have:=(C _ e).2;omega
 ·rcases g with h6|h6
  ·exact h.s2 b (by rw[<-h6];exact e)
  ·rw[h6]at e;injection e with e;omega
theorem Fy{o}{A1 A2}{c1 c2:Nat}{a b:List Int}(hf:aX o W)(g:RI aC o W (.slice A1 a.length c1) a)(h:RI aC o W (.slice A2 b.length c2) b)(i:a.length<=1000)(n2:b.length<=1000):
  tA o (W.alloc (.cells #[.slice A1 a.length c1,.slice A2 b.length c2] 34)) (.slice (some ⟨W.heap.size,0,none⟩) 2 2):=by
 have f:=ba W (.cells #[.slice A1 a.length c1,.slice A2 b.length c2] 34);refine⟨[⟨A1,a.length,c1⟩,⟨A2,b.length,c2⟩],⟨⟨_,2,rfl,nR,by simp[El.cells,j2],fun _=>⟨W.heap.size,0,_,rfl,am.new W _ _,fun j u hu=>by simpa[El.cells,j2]using hu⟩⟩,fun x n c e _=>by injection e with e;injection e with e;subst e;exact hf _ nR⟩,by simp,fun x hx=>?_⟩;simp at hx;rcases hx with rfl|rfl
 ·exact⟨a,g.below f hf,i⟩
 ·exact⟨b,h.below f hf,n2⟩
theorem tr(z:Int)(hC:eA E cm cl tv M nc a b o w g ps tl):
  Cs 93 #[Pt g,I6 z] w fun e w'=>Rt e (.tuple #[])/\kR E cm tv M nc a b o w g ps.length w':=by
 have HI:=aH (fun W=>kO (g:=g) W);obtain⟨A,ca,R,At,ct,hv⟩:=hC.1.v;have hI:=hC.1.len;have y6:=fa hv.blk;have y7:=fb hv.blk;obtain⟨HC,O⟩:=gB hC hv;have hf:=hC.1.fin;obtain⟨S,hl,D,k0⟩:=dW w #[I6 z] 3;have hm:S.heap.size=w.heap.size+1:=by rw[<-hl];simp
 have C1:=HC.below D;have T:=aH (O.blk.below D);have c0:=ce k0;have c6:=fa T;have c7:=fb T;obtain⟨V,ho,hu,hw⟩:=gD C1 D k0 (O.post.below D hf);have S1:Hid (St (fJ w.heap.size) o w o S):=aH (.J D hf);refine fT func93 rfl ?_;simp only[ntmps93,qT,zQ,qI,Nat.reduceAdd,Nat.reduceSub,jT,jU,yI,jX,qY,jW];go_upto_region 1 with(fail);simp only[hl.out];by_cases hz:z=0
 case pos=>
  subst hz;have HP:=aH (j8 hw (by simp) V.1.fin (tA.nil o S));go_wp2_with (go_at_call 11;refine HP.mono ?_;rintro e w' ⟨rfl,I,B⟩);obtain⟨hx,s2⟩:=V.1.post T B I;refine⟨_,results_none rfl _ _ _,rfl,?_⟩;exact(V.nine s2 hx).r (bX.Le.refl E) rfl rfl (S1.trans (s2.mono fun y hy=>it hy))
 have hJ:(z==0)=false:=by simpa using hz
 go_wp2_with (go_at_call 12;refine(HI _).mono ?_;rintro e w' ⟨rfl,rfl⟩);obtain⟨X,k1,k2,k3⟩:=Do S #[aS] #[aS] #[Pt g] 34 34 30;obtain⟨t,Y⟩:=nx (((S.alloc (.cells #[aS] 34)).alloc (.cells #[aS] 34)).alloc (.cells #[Pt g] 30));have L:t.heap.size=w.heap.size+4:=by rw[<-Y];simp;omega
 rw[Y]at X k1 k2 k3;rw[hm]at k1 k2 k3;simp only[Y,hm];have Z:=ho.trans (X.mono ho.size);refine(wpIn_wide (n:=3)).1 ?_;refine fK ps.length rfl (by decide) (gf:=27) (lb:=#[.pointer (some ⟨w.heap.size+1+1+1,0,none⟩)]) rfl trivial (enters_of func27 (by kernel_rfl) rfl) ?_ (oX w t.heap.size z) (fun i=>oX.spare w _ z (by omega) i)
  ⟨_,_,[],[],Z,hu.below X,k1,k2,aK.nil _ _,aK.nil _ _,by simp,by simp,(fun b e=>by cases e),(fun b e=>by cases e)⟩ ?a1 ?assign ?body ?done
 ·intro J l W hg hY h0;exact kN Fence.wide 2 trivial rfl (by decide) l (w.heap.size+1+1+1) g A ps.length ca (by omega) J hY W (am.cell (am.grown k3 hg (fun e=>by cases e)) 0) (aD (Z.grown hg Z.size (fun k e=>by cases e)) y6) h0
 case assign=>
  intro l i W K hK;gi_wp2;exact hK
 case body=>
  rintro l i W ⟨v1,v2,j,m,h⟩ hi hA;have b0:=ce h.bits;have b1:=ce h.b1;have b2:=ce h.b2;have hL:=h.n1;have hM:=h.n2;have kw:IntKind.i64.wrap ((i:Int)+1 - 1)=(i:Int):=by rw[show(i:Int)+1 - 1=(i:Int) by omega];exact zZ _ (by omega)
  have hN:IntKind.i64.wrap (i:Int)=(i:Int):=zZ _ (by omega);have ki:¬(i:Int) < 0:=by omega
  have e1:=h.below.size;have hp:w.heap.size+1<=W.heap.size:=by omega
  have ha:t.heap.size+1 < W.heap.size:=hA;gi_wp2_with (gi_at_builtin;first
   |(refine ik aC rfl (.tmp 23) (.tmp 25) rfl h.o1 hp ((i:Int)+1) rfl rfl (by show(j.length+1)*8<=_;omega) (by omega) ?_;intro v6 w6 hc he F;obtain⟨A6,n6,hB,rfl,b6,G⟩:=oX.one L ha h hc he F;have f6:=am.frozen b6 0;have c6:=am.cell b6 0)
   |(refine ik aC rfl (.tmp 27) (.tmp 29) rfl h.o2 hp ((i:Int)+1) rfl rfl (by show(m.length+1)*8<=_;omega) (by omega) ?_;intro v6 w6 hc he F;obtain⟨A6,n6,hB,rfl,b6,G⟩:=oX.two L ha h hc he F;have f6:=am.frozen b6 0;have c6:=am.cell b6 0))
  all_goals
   rw[L]at G;exact G
 case done=>
  rintro W ⟨v1,v2,j,m,h⟩ hK;have hq:t.heap.size < W.heap.size:=ap hK;obtain⟨o1,hh⟩:=nx (b7 o t.heap.size (13,t.heap.size));have s:St (fun y=>y.1=13/\w.heap.size<=y.2) o w o1 W:=by
   rw[<-hh];exact(St.J h.below hf).tag (by omega) hq (.inr ⟨rfl,by simp only;omega⟩)
  have C:¬(((0,0):Nat×Nat).1=13/\w.heap.size<=((0,0):Nat×Nat).2):=by simp
  have C2:eA E cm cl tv M nc a b o1 W g ps tl:=⟨HC.1.st s C (by simp),HC.2.st s C (fun i hi _ r e=>by have:=e.1;simp at this;omega)⟩;have oM:o1 t.heap.size=(13,t.heap.size):=by rw[<-hh];exact a8 _ _ _
  have N:GF E tv nc a b o1 W g ps tl A ca R At ct:=⟨O.blk.st s (by rw[HC.1.own];simp),O.row.st s C,O.post.st s C (by simp),O.tld.st s (by simp)⟩;have rV:∀(v:Value) (l:List Int),aK aC (w.heap.size+1) W v l->(∀b,v.ownBlock=some b->b≠t.heap.size)->RI aC o1 W v l:=fun v l hv hne=>by
   rw[<-hh];refine⟨aK.rw (E:=aC) hv,fun a n c e hn=>?_⟩;rw[bT (hne a.block (by rw[e];rfl))];exact(RI.aa (E:=aC) hv (fun b hb=>hf b (by omega))).2 a n c e hn
  have r1:=rV v1 j h.o1 (fun b e=>(h.s1 b e).1);have r2:=rV v2 m h.o2 (fun b e=>(h.s2 b e).1);obtain⟨u,c1,rfl,_⟩:=r1.rw.slice;obtain⟨x,c2,rfl,_⟩:=r2.rw.slice;have hd:Bw W W.drew:=bD _;have hj:=ba W (.cells #[.slice u j.length c1,.slice x m.length c2] 34);have f:Bw W (W.alloc (.cells #[.slice u j.length c1,.slice x m.length c2] 34)).drew:=hj.trans (((Below.refl _ (W.alloc (.cells #[.slice u j.length c1,.slice x m.length c2] 34))).drew).mono hj.size);have hg:=(Fy s.far r1 r2 (by have:=h.n1;omega) (by have:=h.n2;omega)).st (p:=fun _=>False) (.J (bD _) (s.far.below hj.size)) _root_.id;have C3:=C2.below f;have hD:=am.below N.blk f;obtain⟨hE,hF⟩:=gB (N.post.below f s.far) (j8 (N.post.below f s.far) (by simp) C3.1.fin hg);have y7:=fb N.blk;have y1:=ce h.b1;have y2:=ce h.b2;obtain⟨S3,hr,hk⟩:=gC (s.below f) C3 hD;have K3:Hid ((W.alloc (.cells #[.slice u j.length c1,.slice x m.length c2] 34)).drew.heap[t.heap.size]?=some (.deferred (some []))):=aH ((f.block _ hq).trans hK);have hG:(W.alloc (.cells #[.slice u j.length c1,.slice x m.length c2] 34)).drew.cell? ⟨g,7,none⟩=some (Pt R)/\(W.alloc (.cells #[.slice u j.length c1,.slice x m.length c2] 34)).drew.cell? ⟨w.heap.size+1,0,none⟩=some (.slice u j.length c1)/\(W.alloc (.cells #[.slice u j.length c1,.slice x m.length c2] 34)).drew.cell? ⟨w.heap.size+1+1,0,none⟩=some (.slice x m.length c2):=⟨aD f y7,aD f y1,aD f y2⟩
  obtain⟨hs,ht⟩:=gB (h.b1.below f) (h.b2.below f);rw[L]at oM K3;go_wp2;go_region_held3 (fun U=>Ce U g 7 (Pt R)/\Ce U (w.heap.size+1) 0 (.slice u j.length c1)/\Ce U (w.heap.size+1+1) 0 (.slice x m.length c2))
   (first|exact⟨y7,y1,y2⟩|exact hG|assumption)
   (first
    |(go_at_call 11;(with_reducible refine hF.out.mono ?_);rintro _e w6 ⟨rfl,I,B⟩;have hO:Ce w6 g 7 (Pt R)/\Ce w6 (w.heap.size+1) 0 (.slice u j.length c1)/\Ce w6 (w.heap.size+1+1) 0 (.slice x m.length c2):=(by
      obtain⟨cs,hP⟩:=I.ty;obtain⟨cs0,H⟩:∃cs,am _ R _ cs:=(dO.ty (E:=E) hE);exact⟨am.cell (hk.only B (aT hk H (by decide))) 7,am.cell (hs.only B (aT hs H (by decide))) 0,am.cell (ht.only B (aT ht H (by decide))) 0⟩)))
  all_goals
   obtain⟨hH,s6⟩:=hr.1.post hk B I;have C6:=hr.nine s6 hH;have k6:w6.heap[w.heap.size+4]?=some (.deferred (some [])):=(s6.block _ (ap K3) (by rw[oM];simp)).trans K3;have s7:St (fun y=>y.1=13/\w.heap.size<=y.2) o1 w6 o1 (w6.putObj (w.heap.size+4) (.deferred none)):=.U (grownBy_putObj' w6 _ _) (by rw[oM];exact⟨rfl,by simp⟩) s6.far;have C7:eA E cm cl tv M nc a b o1 (w6.putObj (w.heap.size+4) (.deferred none)) g ps tl:=⟨C6.1.st s7 C (by simp),C6.2.st s7 C (fun i hi _ r e=>by have:=e.1;simp at this;omega)⟩;have HF:=aH (C7.r (E:=E) (n:=ps.length) (bX.Le.refl E) rfl rfl (((S3.mono (q:=fJ w.heap.size) fun y e=>.inr e).trans (s6.mono fun y hy=>it hy)).trans (s7.mono fun y e=>.inr e)));refine⟨by simp,.inl ⟨_,_,rfl,run_takeDeferred k6,?_⟩⟩;exact⟨_,results_none rfl _ _ _,rfl,HF⟩
end
def Dg(E:bX)(cm:Nat->Prop)(tv:Nat->Int)(M nc:Nat)(a b:Int)(o:Ow)(w:World)(g n:Nat)(e:Ending)(w':World):Prop:=
 ∃(E':bX) (cl':Nat->Prop) (ps':List Pl) (tl':List Rp) (o':Ow) (v:Value),Rt e v/\E.Le E'/\E'.cs=E.cs/\ps'.length=n/\eA E' cm cl' tv M nc a b o' w' g ps' []/\cZ cW o' (9,0) w' v tl'/\q7 E' cm cl' tl'/\(tl'.map Rp.ref).Nodup/\St (fJ w.heap.size) o w o' w'
section
variable{p:Pl}
theorem eA.le(h:eA E cm cl tv M nc a b o w g ps tl)(f:M<=M'):eA E cm cl tv M' nc a b o w g ps tl:=
 ⟨h.1,h.2.env (bX.Le.refl E) h.1.kok (by have:=h.1.cs;omega) (fun d k e=>.inl e) (fun k c _ _ e=>e) f⟩
theorem kR.le(h:kR E cm tv M nc a b o w g n w')(j:M<=M'):kR E cm tv M' nc a b o w g n w':=by
 obtain⟨k,c,f,i,o2,m,p,q,s,t⟩:=h;exact⟨k,c,f,i,o2,m,p,q,s.le j,t⟩
theorem kR.bs(h:kR E cm tv M nc a b o w g n w'):Cs 20 #[Pt g] w' (Dg E cm tv M nc a b o w g n):=by
 obtain⟨k,f,i,j,o2,m,p,q,c,s⟩:=h;refine(vO c.1).mono fun e w3 ⟨v,o3,k1,k2,k3,k4⟩=>?_;exact⟨k,f,i,j,o3,v,k1,m,p,q,c.nine k4 k3,k2,c.1.told,c.1.tn,s.trans (k4.mono fun y hy=>it hy)⟩
theorem Dg.from_{o1}(h:Dg E' cm tv M nc a b o1 w1 g n e w')(k:E.Le E')(m:E'.cs=E.cs)(c:St (fJ w.heap.size) o w o1 w1):Dg E cm tv M nc a b o w g n e w':=by
 obtain⟨p,f,i,j,o2,v,q,s,t,u,x,z,A,B,C⟩:=h;exact⟨p,f,i,j,o2,v,q,k.trans s,t.trans m,u,x,z,A,B,c.trans (C.mono fun y hy=>hy.le c.size)⟩
theorem AW(J:eA E cm cl tv M nc a b o w g ps tl):
  Cs 39 #[Pt g,.agg (tq m)] w fun e w'=>Rt e (.tuple #[])/\kR E cm tv M nc a b o w g ps.length w':=by
 obtain⟨h,nd,at_,n,R,q,S,rc⟩:=m;obtain⟨W0,T,L,D⟩:=dW w #[I6 h,I6 nd,I6 at_,I6 n,I6 R,.string (aF q),.string (aF S),I6 rc] 53;have i:=J.below L;have hf:=J.1.fin;have z:Hid (St (fJ w.heap.size) o w o W0):=aH (.J L hf);have a0:=ce D;have a2:=ed D;have a3:=ef D;obtain⟨A,ca,B,At,ct,hv⟩:=i.1.v;have H:=fb hv.blk;obtain⟨j,C⟩:=gB hv D;have hd:Bw W0 W0.drew:=bD _;obtain⟨N,O⟩:=gB (oL at_ i) (tr n i);apply cI;go_in;go_upto_region 1 with(fail);simp only[T.out];by_cases k2:h=2
 ·have U:(h==2)=true:=by simpa using k2
  go_wp2_with fail;refine N.mono ?_;rintro F w3 ⟨rfl,I⟩;have p:=aH (I.from_ (bX.Le.refl E) rfl z);go_wp2_with fail;go_end0;exact⟨rfl,p⟩
 have U:(h==2)=false:=by simpa using k2
 by_cases k5:h=5
 ·have V:(h==5)=true:=by simpa using k5
  obtain⟨s,u⟩:=gB (xg at_ (j.post.below hd i.1.fin) (by simp) (i.1.fin.below hd.size)) (i.1.below hd);go_wp2_with fail;go_region_held3 (fun W=>Ce W w.heap.size 2 (I6 at_)/\Ce W g 7 (Pt B))
   (first|exact⟨a2,H⟩|assumption)
   (first
    |(go_at_call 77;(with_reducible refine s.out.mono ?_);rintro F w3 ⟨⟨t,rfl⟩,x,f⟩;have c:=u.post (j.blk.below hd) f x;have G:Ce w3 w.heap.size 2 (I6 at_)/\Ce w3 g 7 (Pt B):=(by
      obtain⟨cs,k⟩:=j.post.ty;exact⟨am.cell ((C.below hd).only f (aT C k (by decide))) 2,am.cell ((j.blk.below hd).only f (aT j.blk k (by decide))) 7⟩)))
  all_goals
   have p:=aH (((i.below hd).nine c.2 c.1).r (E:=E) (n:=ps.length) (bX.Le.refl E) rfl rfl ((z.below hd).trans (c.2.mono fun y hy=>it hy)));go_wp2;go_end0;exact⟨rfl,p⟩
 have V:(h==5)=false:=by simpa using k5
 by_cases k6:h=6
 ·have X:(h==6)=true:=by simpa using k6
  obtain⟨s,u⟩:=gB (tm at_ (j.post.below hd i.1.fin) (by simp) (i.1.fin.below hd.size)) (i.1.below hd);go_wp2_with fail;go_region_held3 (fun W=>Ce W w.heap.size 2 (I6 at_)/\Ce W g 7 (Pt B))
   (first|exact⟨a2,H⟩|assumption)
   (first
    |(go_at_call 91;(with_reducible refine s.out.mono ?_);rintro F w3 ⟨⟨t,rfl⟩,x,f⟩;have c:=u.post (j.blk.below hd) f x;have G:Ce w3 w.heap.size 2 (I6 at_)/\Ce w3 g 7 (Pt B):=(by
      obtain⟨cs,k⟩:=j.post.ty;exact⟨am.cell ((C.below hd).only f (aT C k (by decide))) 2,am.cell ((j.blk.below hd).only f (aT j.blk k (by decide))) 7⟩)))
  all_goals
   have p:=aH (((i.below hd).nine c.2 c.1).r (E:=E) (n:=ps.length) (bX.Le.refl E) rfl rfl ((z.below hd).trans (c.2.mono fun y hy=>it hy)));go_wp2;go_end0;exact⟨rfl,p⟩
 have X:(h==6)=false:=by simpa using k6
 by_cases k7:h=7
 ·have Y:(h==7)=true:=by simpa using k7
  obtain⟨s,u⟩:=gB (xh at_ (j.post.below hd i.1.fin) (by simp) (i.1.fin.below hd.size)) (i.1.below hd);go_wp2_with fail;go_region_held3 (fun W=>Ce W w.heap.size 2 (I6 at_)/\Ce W g 7 (Pt B))
   (first|exact⟨a2,H⟩|assumption)
   (first
    |(go_at_call 92;(with_reducible refine s.out.mono ?_);rintro F w3 ⟨⟨t,rfl⟩,x,f⟩;have c:=u.post (j.blk.below hd) f x;have G:Ce w3 w.heap.size 2 (I6 at_)/\Ce w3 g 7 (Pt B):=(by
      obtain⟨cs,k⟩:=j.post.ty;exact⟨am.cell ((C.below hd).only f (aT C k (by decide))) 2,am.cell ((j.blk.below hd).only f (aT j.blk k (by decide))) 7⟩)))
  all_goals
   have p:=aH (((i.below hd).nine c.2 c.1).r (E:=E) (n:=ps.length) (bX.Le.refl E) rfl rfl ((z.below hd).trans (c.2.mono fun y hy=>it hy)));go_wp2;go_end0;exact⟨rfl,p⟩
 have Y:(h==7)=false:=by simpa using k7
 by_cases k8:h=8
 ·have Z:(h==8)=true:=by simpa using k8
  go_wp2_with fail;refine O.mono ?_;rintro F w3 ⟨rfl,I⟩;have p:=aH (I.from_ (bX.Le.refl E) rfl z);go_wp2_with fail;go_end0;exact⟨rfl,p⟩
 have Z:(h==8)=false:=by simpa using k8
 have p:=aH (i.r (E:=E) (n:=ps.length) (bX.Le.refl E) rfl rfl z);go_wp2_with fail;go_end0;exact⟨rfl,p⟩
theorem Ee(H:eA E cm cl tv M nc a b o w g ps tl)(O:M<=999999)(B:ps[j]?=some p)(G:m.nd=(j:Int)+1)(I:m.kd≠1):
  Cs 24 #[Pt g,.agg (tq m)] w (Dg E cm tv (M+1) nc a b o w g ps.length):=by
 obtain⟨f,nd,at_,n,C,q,D,rc⟩:=m;dsimp only at G I;subst G;obtain⟨W0,R,J,u⟩:=dW w #[I6 f,I6 ((j:Int)+1),I6 at_,I6 n,I6 C,.string (aF q),.string (aF D),I6 rc] 53;have i:=H.below J;have hf:=H.1.fin;have F:Hid (St (fJ w.heap.size) o w o W0):=aH (.J J hf);have a0:=ce u;have a1:=dt u;have a2:=ed u;have a3:=ef u;have a4:=eV u;have a5:=e9 u;have a6:=fa u;have a7:=fb u;have V:(f==1)=false:=by simpa using I
 clear u H hf I;apply cI;go_in;go_upto_region 1 with(fail);simp only[R.out];by_cases k3:f=3
 ·have S:(f==3)=true:=by simpa using k3
  clear k3;have x:=aH (iY i.1 B);have y:Hid (Cs 17 #[Pt g,.agg (tq ⟨f,(j:Int)+1,at_,n,C,q,D,rc⟩),Pt p.pb] W0 fun e w'=>Rt e (.tuple #[])/\kR E cm tv (M+1) nc a b o W0 g ps.length w'):=aH (pU i O B);clear i;go_wp2_with fail;refine x.mono ?_;rintro t L ⟨rfl,rfl⟩;go_wp2_with fail;refine y.mono ?_;rintro t w3 ⟨rfl,k⟩;have z:=aH k.bs;clear k;go_wp2_with fail;refine z.mono ?_;rintro t w4 c;have s:=c.from_ (bX.Le.refl E) rfl F;obtain⟨_,_,_,_,_,v,rfl,_⟩:=c;have A:=aH s;clear s;go_wp2_with fail;go_ret;exact A
 have S:(f==3)=false:=by simpa using k3
 by_cases k4:f=4
 ·have T:(f==4)=true:=by simpa using k4
  clear k3 k4;have x:=aH (iY i.1 B);have y:Hid (Cs 37 #[Pt g,.agg (tq ⟨f,(j:Int)+1,at_,n,C,q,D,rc⟩),Pt p.pb] W0 fun e w'=>Rt e (.tuple #[])/\kR E cm tv (M+1) nc a b o W0 g ps.length w'):=aH ((xj i B rfl).mono fun e w' h=>⟨h.1,h.2.le (by omega)⟩);clear i;go_wp2_with fail;refine x.mono ?_;rintro t L ⟨rfl,rfl⟩;go_wp2_with fail;refine y.mono ?_;rintro t w3 ⟨rfl,k⟩;have z:=aH k.bs;clear k;go_wp2_with fail;refine z.mono ?_;rintro t w4 c;have s:=c.from_ (bX.Le.refl E) rfl F;obtain⟨_,_,_,_,_,v,rfl,_⟩:=c;have A:=aH s;clear s;go_wp2_with fail;go_ret;exact A
 have T:(f==4)=false:=by simpa using k4
 by_cases k9:f=9
 ·have U:(f==9)=true:=by simpa using k9
  clear k3 k4 k9;have x:=aH (iY i.1 B);have y:Hid (Cs 38 #[Pt g,.agg (tq ⟨f,(j:Int)+1,at_,n,C,q,D,rc⟩),Pt p.pb] W0 fun e w'=>Rt e (.tuple #[])/\kR E cm tv (M+1) nc a b o W0 g ps.length w'):=aH ((C6 i B).mono fun e w' h=>⟨h.1,h.2.le (by omega)⟩);clear i;go_wp2_with fail;refine x.mono ?_;rintro t L ⟨rfl,rfl⟩;go_wp2_with fail;refine y.mono ?_;rintro t w3 ⟨rfl,k⟩;have z:=aH k.bs;clear k;go_wp2_with fail;refine z.mono ?_;rintro t w4 c;have s:=c.from_ (bX.Le.refl E) rfl F;obtain⟨_,_,_,_,_,v,rfl,_⟩:=c;have A:=aH s;clear s;go_wp2_with fail;go_ret;exact A
 have U:(f==9)=false:=by simpa using k9
 clear k3 k4 k9;have N:=aH (AW (m:=⟨f,(j:Int)+1,at_,n,C,q,D,rc⟩) i);clear i;go_wp2_with fail;refine N.mono ?_;rintro t w3 ⟨rfl,k⟩;have z:=aH (k.le (M':=M+1) (by omega)).bs;clear k;go_wp2_with fail;refine z.mono ?_;rintro t w4 c;have s:=c.from_ (bX.Le.refl E) rfl F;obtain⟨_,_,_,_,_,v,rfl,_⟩:=c;have A:=aH s;clear s;go_wp2_with fail;go_ret;exact A
theorem C8(A:eA E cm cl tv M nc a b o w g ps [])(B:ps[j]?=some p)(h:m.nd=(j:Int)+1)(i:m.kd=1)(S:cl nc)(C:¬cm nc)(D:E.cs[nc]?=some c)(k:c.op=m.op)(F:c.nd=((j+1:Nat):Int))(s:c.q=m.q)(t:c.b=m.b)(z:E.cs.length=nc+1)(hK:∀x,E.K x≠some nc)(G:m.q.length<=100)(u:m.b.length<=1000000000):
  Cs 24 #[Pt g,.agg (tq m)] w (Dg E cm tv M (nc+1) a b o w g ps.length):=by
 obtain⟨kd,nd,at_,n,H,q,I,rc⟩:=m;dsimp only at h i k s t G u;subst h;subst i;obtain⟨W0,T,J,f⟩:=dW w #[I6 1,I6 ((j:Int)+1),I6 at_,I6 n,I6 H,.string (aF q),.string (aF I),I6 rc] 53;have L:=A.below J;have hf:=A.1.fin;have U:Hid (St (fJ w.heap.size) o w o W0):=aH (.J J hf);have a0:=ce f;have a1:=dt f;have a2:=ed f;have a3:=ef f;have a4:=eV f;have a5:=e9 f;have a6:=fa f;have a7:=fb f;apply cI;go_in;go_upto_region 1 with(fail);simp only[T.out];have N:=aH (iY L.1 B);have O:Hid (Cs 36 #[Pt g,.agg (tq ⟨1,(j:Int)+1,at_,n,H,q,I,rc⟩),Pt p.pb] W0 fun e w'=>Rt e (.tuple #[])/\kR E cm tv M (nc+1) a b o W0 g ps.length w'):=aH (AV L B S C D k F s t z hK G u);go_wp2_with fail;refine N.mono ?_;rintro R _w ⟨rfl,rfl⟩;go_wp2_with fail;refine O.mono ?_;rintro R w3 ⟨rfl,V⟩;have X:=aH V.bs;go_wp2_with fail;refine X.mono ?_;rintro R w4 y;have Y:=y.from_ (bX.Le.refl E) rfl U;obtain⟨_,_,_,_,_,v,rfl,_⟩:=y;have Z:=aH Y;go_wp2_with fail;go_ret;exact Z
end
section
open Go.Shelf
attribute [local go_sem] Oper.semAt_some
def gM(E:bX)(cm:Nat->Prop)(tv:Nat->Int)(M nc:Nat)(a b:Int)(o:Ow)(w:World)(g N:Nat)(Ds:List Nat)(o':Ow)(W:World):Prop:=
 ∃(E':bX) (cl':Nat->Prop) (ps':List Pl) (tl':List Rp),E.Le E'/\E'.cs=E.cs/\ps'.length=N/\eA E' cm cl' tv M nc a b o' W g ps' tl'/\St (fJ w.heap.size) o w o' W/\(am W w.heap.size 30 #[Pt g]/\o' w.heap.size=(0,0))/\
  ∀D∈Ds,w.heap.size<=D/\o' D=(13,D)/\W.heap[D]?=some (.deferred (some []))
def G0(D:Nat):Deferred:={target:=.collected D,args:=#[]}
theorem kP{F:Fence}{P:Program}{a:Func}{tmps}{o}:∀(Ds:List Nat) (W:World),(∀D∈Ds,base<=D/\o D=(13,D)/\W.heap[D]?=some (.deferred (some [])))->Ds.Nodup->aX o W->
  (∀W',St (fun y=>y.1=13/\base<=y.2) o W o W'->∃v,(results a tmps).run P W'=.ok v W'/\R (.returned v) W')->LeavesInM F n P a tmps R (Ds.map G0) .returning W
 |[],W,_,_,hf,hR=>hR W (.refl hf)
 |D::Ds,W,h,hn,hf,hR=>by
  obtain⟨c,f,g⟩:=h D (jO ..)
  have b:St (fun y=>y.1=13/\base<=y.2) o W o (W.putObj D (.deferred none)):=.U (grownBy_putObj' W _ _) (by rw[f];exact⟨rfl,c⟩) hf
  rw[List.nodup_cons]at hn
  refine⟨by simp,.inl ⟨D,_,rfl,run_takeDeferred g,kP Ds _ (fun D' hd=>?_) hn.2 b.far (fun W' hs=>hR W' (b.trans hs))⟩⟩
  obtain⟨i,j,k⟩:=h D' (qF _ hd)
  exact⟨i,j,(World.putObj_heap_other (by intro e;apply hn.1;first|(rw[<-e];exact hd)|(rw[e];exact hd))).trans k⟩
end
section
open Go.Shelf
attribute [local go_sem] Oper.semAt_some
variable{N:Nat}{p:Pl}
theorem gM.st(h:gM E cm tv M nc a b o w g N Ds o' W)(c:St q o' W o2 W2)(j:¬q (0,0))(n:∀y:Nat×Nat,1<=y.1->y.1<=9->¬q y)(t:∀D∈Ds,¬q (13,D))(u:∀y,q y->fJ w.heap.size y):gM E cm tv M nc a b o w g N Ds o2 W2:=by
 obtain⟨E',cl',ps',tl',x,z,A,k,B,⟨p,f⟩,C⟩:=h;refine⟨E',cl',ps',tl',x,z,A,⟨k.1.st c j (n _ (by decide) (by decide)),k.2.st c j (fun i hi _ r=>n _ (by simp only;omega) (by have:=k.1.len.2;simp only;omega))⟩,B.trans (c.mono u),⟨p.st c (by rw[f];exact j),by rw[c.old _ (ap p)];exact f⟩,fun D hd=>?_⟩;obtain⟨F,s,m⟩:=C D hd;exact⟨F,by rw[c.old _ (ap m)];exact s,(c.block _ (ap m) (by rw[s];exact t D hd)).trans m⟩
theorem gM.next(q:E.Le E')(s:E'.cs=E.cs)(j:St (fJ w.heap.size) o w o' W)(f:am W w.heap.size 30 #[Pt g]/\o' w.heap.size=(0,0))(t:∀D∈Ds,w.heap.size<=D/\o' D=(13,D)/\W.heap[D]?=some (.deferred (some [])))(h:kR E' cm tv M nc a b o' W g N W2):
  ∃o2,gM E cm tv M nc a b o w g N Ds o2 W2/\St (fJ W.heap.size) o' W o2 W2:=by
 obtain⟨u,k,m,n,o2,x,z,A,B,c⟩:=h;refine⟨o2,⟨u,k,m,n,q.trans x,z.trans s,A,B,j.trans (c.mono fun y hy=>hy.le j.size),⟨rp f.1 f.2 c,by rw[c.old _ (ap f.1)];exact f.2⟩,fun D hd=>?_⟩,c⟩;obtain⟨C,p,i⟩:=t D hd;exact⟨C,by rw[c.old _ (ap i)];exact p,(c.block _ (ap i) (by rw[p];have:=ap i;unfold fJ;simp;omega)).trans i⟩
theorem AX(h:gA E cl tv M i o w p):Cs 14 #[dS (p.nd.map Nb.nb)] w fun e w'=>(∃t,Rt e (.bool t))/\w=w':=by
 rcases h with⟨a,_⟩|⟨N,T,a,c,f,g,j,b⟩
 ·rw[a];exact(je w).mono fun e w' ⟨h,hb⟩=>⟨⟨_,h⟩,hb⟩
 ·rw[a];exact jf b
theorem ts(r:Nat)(hr:r<=20)(hC:eA E cm cl tv M nc a b o w g ps tl)(hM:M<=900000):
  Cs 7 #[Pt g,I6 (r:Nat)] w (Dg E cm tv (M+160) nc a b o w g ps.length):=by
 have HI:=aH (fun W=>kO (g:=g) W);have xQ:=hC.1.len;have hf:=hC.1.fin;obtain⟨W0,xn,hh,k0⟩:=dW w #[Pt g] 30;have C0:=hC.below hh;obtain⟨A,ca,pp,At,ct,hv⟩:=C0.1.v;have c0:=ce k0;have c7:=fb hv.blk;obtain⟨HP,hO,HV,xo,xp⟩:=gE (j8 hv.post (by simp) C0.1.fin (tA.nil o W0)) C0 hv k0 hh;clear hC C0 hv k0 hh;refine fT func7 rfl ?_;simp only[ntmps7,qT,zQ,qI,Nat.reduceAdd,Nat.reduceSub,jT,jU,yI,jX,qY,jW];go_upto_region 1 with(fail);simp only[xn.out];go_wp2_with fail;refine HP.mono ?_;rintro S w1 ⟨rfl,hP,hQ⟩;obtain⟨hp,s1⟩:=hO.1.post HV.blk hQ hP;have hA:gM E cm tv M nc a b o w g ps.length [] o w1:=⟨E,cl,ps,tl,bX.Le.refl E,rfl,rfl,hO.nine s1 hp,(St.J xp hf).trans (s1.mono fun y hy=>it hy),⟨xo.st s1 (by rw[hf _ nR];simp),hf _ nR⟩,fun D hd=>by cases hd⟩;have z0:Ce w1 w.heap.size 0 (Pt g):=by
  obtain⟨_,_,_,_,_,_,_,_,_,⟨h,_⟩,_⟩:=hA;exact am.cell h 0
 obtain⟨A1,xq,xU,xV,xW,hR⟩:=hp.v;have z6:=fa hR.blk;have hU:=hp.fin;have hB:=aH hA;clear hP hQ hp s1 hA hR c0 c7;go_wp2_with fail;refine(HI _).mono ?_;rintro S _w ⟨rfl,rfl⟩;obtain⟨W2,hq⟩:=nx (w1.alloc (.cells #[Pt g] 30));have T:=ba w1 (.cells #[Pt g] 30);have k2:=am.new w1 30 #[Pt g];simp only[hq];rw[hq]at T k2;have xr:=hB.st (q:=fun _=>False) (.J T hU) _root_.id (fun _ _ _=>_root_.id) (fun _ _=>_root_.id) (fun _ h=>h.elim);go_wp2_with fail;refine(wpIn_wide (n:=3)).1 ?_;refine fK ps.length rfl (by decide) (gf:=27) (lb:=#[Pt w1.heap.size]) rfl trivial (enters_of func27 (by kernel_rfl) rfl) ?_ (fun _=>Jm W2.heap.size (gM E cm tv M nc a b o w g ps.length [])) (fun _=>Jm.spare ?_)
  ⟨o,xr,hU.below T.size,fun b hb hl=>by rcases hb with rfl|rfl<;>omega⟩ ?a1 ?assign ?body ?done
 ·intro J l W hg hY h0;exact kN Fence.wide 2 trivial rfl (by decide) l w1.heap.size g A1 ps.length xq (by omega) J hY W (am.cell (am.grown k2 hg (fun e=>by cases e)) 0) (aD (T.grown hg T.size (fun k e=>by cases e)) z6) h0
 ·intro V W3 X W4 h hs;refine h.st hs (by simp) (fun y h1 h2 u=>by have:=u.1;omega) (fun D hd=>by cases hd) (fun y hy=>.inr ⟨hy.1,zD ?_ hy.2⟩);have:=hB.out;obtain⟨_,_,_,_,_,_,_,_,N,_⟩:=this;exact zD N.size T.size
 case assign=>
  intro l i W K hK;gi_wp2;exact hK
 case body=>
  rintro l i W ⟨V,u,Y,I⟩ hi hm;obtain⟨z,O,G,R,B,C,L,j,s,F,f⟩:=id u;obtain⟨p,hj⟩:∃p,G[i]?=some p:=⟨_,zA (by omega)⟩;have y0:=ce F.1;obtain⟨zc,tc,ht⟩:=Gf j.1 hj;have p0:=ce ht;have p1:=dt ht;have p3:=ef ht;have hD:=j.2 i p hj (by simp);obtain⟨d,xs,xP,xX,hV,rs1,rs2,hW⟩:=hD.b';obtain⟨hE,xt,xu⟩:=gC (iY j.1 hj) (AX hD) (pW p.dk 0 d W xs (by omega) (by omega));have hF:D6 W2.heap.size W W/\Jm W2.heap.size (gM E cm tv M nc a b o w g ps.length []) W:=⟨⟨rfl,rfl⟩,V,u,Y,I⟩;obtain⟨xl,H3,hX,xv,xw,xx⟩:=gF hF u j (zB B (zB C (zB L (zB s (zB F f))))) hW I;have hq:w1.heap.size+1=W2.heap.size:=by rw[<-hq];simp
  clear hF u j ht hD F f s B C hW I;gi_wp2_with fail;refine⟨trivial,(CallsIn.inRound l (callsIn_wide.2 hE)).mono ?_⟩;rintro S _w ⟨rfl,rfl⟩;gi_wp2_with fail;refine⟨trivial,(CallsIn.inRound l (callsIn_wide.2 xt)).mono ?_⟩;rintro S _w ⟨⟨td,rfl⟩,rfl⟩;by_cases hdo:td=false/\tc=false
  ·obtain⟨rfl,rfl⟩:=hdo
   gi_wp2_with fail;exact xl
  have xy:td=true\/(td=false/\tc=true):=by cases td<;>cases tc<;>simp at hdo ⊢
  clear hdo
  have xm:Hid (∀w3,(∃k:Nat,bS w3 p.dk {d with sf:=d.sf++d.tl.take k,tl:=[],on:=true,armed:=false})->aW p.dk W w3->(Ce w3 w.heap.size 0 (Pt g))/\Cs 16 #[Pt g,I6 ((i:Int)+1)] w3 fun e w4=>(∃t,Rt e (.bool t))/\D6 W2.heap.size W w4/\Jm W2.heap.size (gM E cm tv M nc a b o w g ps.length []) w4):=aH (by
   rintro w3 ⟨k,hu⟩ hw;have hn:St (fun y=>y.1=i+1) V W V w3:=.U hw (by rw[hV]) Y;have hZ:¬(((0,0):Nat×Nat).1=i+1):=by simp
   have xz:¬(((9,0):Nat×Nat).1=i+1):=by simp;omega
   have B3:=hX.1.st hn hZ xz;have P3:=(hX.2.but (x:=some i)).st hn hZ (fun i' hi' hne r e=>hne (by congr 1;simp at e;omega));obtain⟨rs,xA⟩:=xw.dj k;obtain⟨q1,q2,q3,q4,q5,q6⟩:=xv.out;refine⟨am.cell (am.st q5.1 hn (by rw[q5.2];simp)) 0,(j9 B3 P3 hj hV hu xA).mono ?_⟩;rintro e w4 ⟨t,X,nd,rfl,_,xB,xC⟩;have hx:St (fJ W.heap.size) V W X w4:=(hn.mono fun y hy=>yb (by omega) hy).trans (xC.mono fun y hy=>by
    rcases hy with e|e|e
    ·exact yb (by omega) e
    ·exact it e
    ·exact .inr ⟨e.1,zD hn.size e.2⟩)
   obtain⟨o5,N,s5⟩:=gM.next q1 q2 q4 q5 q6 (eA.r (E:=z) (n:=ps.length) xB (bX.Le.refl z) rfl (by simp;exact q3) hx);exact⟨⟨t,rfl⟩,Jm.out s5 (fun b hb=>by unfold fJ;simp;omega) xx hm N⟩)
  rcases xy with rfl|⟨rfl,rfl⟩;all_goals
   gi_wp2_with fail;refine⟨trivial,(CallsIn.inRound l (callsIn_wide.2 xu)).mono ?_⟩;rintro S w3 ⟨rfl,hu,hw⟩;obtain⟨y3,hx⟩:=xm w3 hu hw;have xF:=aH hx;clear hu hw hx;gi_wp2_with fail;refine⟨trivial,(CallsIn.inRound l (callsIn_wide.2 xF)).mono ?_⟩;rintro S w4 ⟨⟨t,rfl⟩,ha⟩;have he:=aH ha;clear ha;gi_wp2_with fail;exact he
 case done=>
  rintro W ⟨V,u,Y,I⟩ hK;have h4:gM E cm tv M nc a b o w g ps.length [W2.heap.size] V W:=by
   obtain⟨z,O,G,R,B,C,L,j,s,F,f⟩:=u;refine⟨z,O,G,R,B,C,L,j,s,F,fun D hd=>?_⟩;simp at hd;subst hd;refine⟨?_,I _ (.inl rfl) (ap hK),hK⟩;obtain⟨_,_,_,_,_,_,_,_,N,_⟩:=hB.out;exact zD N.size T.size
  have H4:=aH h4;have xR:min (max (r:Int) 0) 20=(r:Int):=by omega
  have xY:max (r:Int) 0=(r:Int):=by omega
  have xZ:min (r:Int) 20=(r:Int):=by omega
  clear u h4 I hK
  go_wp2_with fail;refine wp_loop (fun a' H=>∃(k:Nat) (Ds:List Nat) (o':Ow) (u7 u44 u45 u46 u47 u48 u49 u50 u51 u52 u53 u54 u55 u56 u57 u58 u59 u60 u61 u62 u63 u64 u65:Value),k<=r/\gM E cm tv (M+8*k) nc a b o w g ps.length Ds o' H/\aX o' H/\Ds.Nodup/\a'={tmps:=#[Pt g,I6 (r:Nat),Pt w.heap.size,undef,aS,undef,undef,u7,Pt g,.bool false,Pt g,Pt g,.pointer (some ⟨g,7,none⟩),Pt pp,.tuple #[],Pt g,.func (.func 27) #[] #[Pt w1.heap.size],undef,undef,undef,undef,undef,undef,undef,undef,undef,undef,undef,undef,undef,undef,undef,undef,undef,undef,undef,undef,undef,undef,undef,I6 (r:Nat),I6 (r:Nat),I6 (r:Nat),I6 (k:Nat),u44,u45,u46,u47,u48,u49,u50,u51,u52,u53,u54,u55,u56,u57,u58,u59,u60,u61,u62,u63,u64,u65,undef,undef],defers:=Ds.map G0}) (fun a' _=>r - (intOf (a'.tmps.getD 43 undef)).toNat) ?_ ?_
  ·refine⟨0,[W2.heap.size],V,_,_,_,_,_,_,_,_,_,_,_,_,_,_,_,_,_,_,_,_,_,_,_,zS _,H4,Y,by simp,rfl⟩
  rintro a' H ⟨k,Ds,o',u7,u44,u45,u46,u47,u48,u49,u50,u51,u52,u53,u54,u55,u56,u57,u58,u59,u60,u61,u62,u63,u64,u65,hk,hS,hG,h9,rfl⟩;have HS:=aH hS;have y0:Ce H w.heap.size 0 (Pt g):=by
   obtain⟨_,_,_,_,_,_,_,_,_,⟨h,_⟩,_⟩:=hS;exact am.cell h 0
  by_cases hkr:k < r
  case neg=>
   obtain rfl:k=r:=by omega
   have xG:Hid (∃z,Cs 20 #[Pt g] H (Dg z cm tv (M+160) nc a b o' H g ps.length)/\E.Le z/\z.cs=E.cs/\St (fJ w.heap.size) o w o' H/\∀D∈Ds,w.heap.size<=D/\o' D=(13,D)/\H.heap[D]?=some (.deferred (some []))):=aH (by
    obtain⟨z,O,G,R,B,C,L,j,s,F,f⟩:=hS;exact⟨z,((eA.r (E:=z) (n:=ps.length) (j.le (M':=M+160) (by omega)) (bX.Le.refl z) rfl L (St.refl hG))).bs,B,C,s,f⟩)
   clear hS;go_wp2_with fail;obtain⟨z,hT,B,C,s,xa⟩:=xG.out;refine hT.mono ?_;rintro S w4 ⟨E4,xH,xI,xJ,X,v,rfl,f1,f2,f3,f4,f5,f6,f7,f8⟩;have xb:∀D∈Ds,w.heap.size<=D/\X D=(13,D)/\w4.heap[D]?=some (.deferred (some [])):=fun D hd=>by
    obtain⟨q1,q2,q3⟩:=xa D hd;exact⟨q1,by rw[f8.old _ (ap q3)];exact q2,(f8.block _ (ap q3) (by rw[q2];have:=ap q3;unfold fJ;simp;omega)).trans q3⟩
   obtain⟨he,xK⟩:=gB (zB f1 (zB f2 (zB f3 (zB f4 (zB f5 (zB f6 (zB f7 f8))))))) xb;clear f1 f2 f3 f4 f5 f6 f7 f8 xb xa hT;go_wp2_with fail;refine kP (o:=X) (base:=w.heap.size) Ds w4 xK h9 he.2.2.2.2.2.2.2.far (fun W5 hs5=>?_);obtain⟨f1,f2,f3,f4,f5,f6,f7,f8⟩:=he.out;have xc:¬(((0,0):Nat×Nat).1=13/\w.heap.size<=((0,0):Nat×Nat).2):=by simp
   exact⟨_,results_tmp rfl _ _ _,E4,xH,xI,xJ,X,v,rfl,B.trans f1,f2.trans C,f3,⟨f4.1.st hs5 xc (by simp),f4.2.st hs5 xc (fun i hi _ r e=>by have:=f4.1.len.2;have:=e.1;simp at this;omega)⟩,f5.st hs5 (by simp),f6,f7,(s.trans (f8.mono fun y hy=>hy.le s.size)).trans (hs5.mono fun y hy=>.inr hy)⟩
  have xS:(k:Int) < (r:Int):=by omega
  obtain⟨z,O,G,R,B,C,L,j,s,F,f⟩:=hS;obtain⟨A3,xd,x0,x1,x2,xe⟩:=j.1.v;have y6:Ce H g 6 (.slice A3 ps.length xd):=by rw[<-L];exact am.cell xe.blk 6
  have x3:=s.size;clear B C L j s F f xe;go_wp2_with fail;refine(HI _).mono ?_;rintro S _w ⟨rfl,rfl⟩;obtain⟨W3,hH⟩:=nx (H.alloc (.cells #[Pt g] 30));have Z:=ba H (.cells #[Pt g] 30);have k3:=am.new H 30 #[Pt g];simp only[hH];rw[hH]at Z k3;have xT:H.heap.size+1=W3.heap.size:=by rw[<-hH];simp
  have u:=HS.st (q:=fun _=>False) (.J Z hG) _root_.id (fun _ _ _=>_root_.id) (fun _ _=>_root_.id) (fun _ h=>h.elim);have ho:∀D∈Ds,D < W3.heap.size:=fun D hd=>by
   obtain⟨_,_,_,_,_,_,_,_,_,_,h⟩:=u;exact ap (h D hd).2.2
  have H3:=aH u;clear u;go_wp2_with fail;refine(wpIn_wide (n:=3)).1 ?_;refine fK ps.length rfl (by decide) (gf:=27) (lb:=#[Pt H.heap.size]) rfl trivial (enters_of func27 (by kernel_rfl) rfl) ?_ (fun i=>Jm W3.heap.size (gM E cm tv (M+8*k+i) nc a b o w g ps.length Ds)) (fun i=>Jm.spare ?_)
   ⟨o',H3,hG.below Z.size,fun b hb hl=>by rcases hb with rfl|rfl<;>omega⟩ ?a2 ?assign2 ?body2 ?done2
  ·intro J l U hg hY h0;exact kN Fence.wide 2 trivial rfl (by decide) l H.heap.size g A3 ps.length xd (by omega) J hY U (am.cell (am.grown k3 hg (fun e=>by cases e)) 0) (aD (Z.grown hg Z.size (fun k e=>by cases e)) y6) h0
  ·intro V x4 X W4 h hs;exact h.st hs (by simp) (fun y h1 h2 u=>by have:=u.1;omega) (fun D hd u=>by have:=u.2;have:=ho D hd;omega) (fun y hy=>.inr ⟨hy.1,by have:=hy.2;omega⟩)
  case assign2=>
   intro l i U K hK;gi_wp2;exact hK
  case body2=>
   rintro l i U ⟨V,u,Y,I⟩ hi hm;obtain⟨z,O,G,R,B,C,L,j,s,F,f⟩:=u;obtain⟨p,hj⟩:∃p,G[i]?=some p:=⟨_,zA (by omega)⟩;have y0:=ce F.1;have hd:Bw U U.drew:=bD _;have hE:=aH (iY (j.below hd).1 hj);have xL:Hid (Cs 17 #[Pt g,.agg #[I6 0,I6 0,I6 0,I6 1,I6 0,Se,Se,I6 0],Pt p.pb] U.drew fun e w4=>Rt e (.tuple #[])/\D6 W3.heap.size U w4/\Jm W3.heap.size (gM E cm tv (M+8*k+(i+1)) nc a b o w g ps.length Ds) w4):=aH ((pU (m:=⟨0,0,0,1,0,[],[],0⟩) (j.below hd) (by omega) hj).mono fun e w4 h4=>(show Rt e (.tuple #[])/\D6 W3.heap.size U w4/\Jm W3.heap.size (gM E cm tv (M+8*k+(i+1)) nc a b o w g ps.length Ds) w4 from by
    obtain⟨N,h6⟩:=h4;obtain⟨o5,h7,s7⟩:=gM.next B C s F f ((L▸h6).below_ hd Y);exact⟨N,Jm.out s7 (fun b hb=>by unfold fJ;simp;omega) I hm h7⟩))
   have x5:prog.follows .mixedOrders=true:=by kernel_rfl
   clear B C s F f j I;gi_wp2_with fail;gi_region_with_o (first
    |(refine⟨trivial,?_⟩;with_reducible refine(CallsIn.inRound l (callsIn_wide.2 hE.out)).mono ?_;rintro S _w ⟨rfl,rfl⟩)
    |(refine⟨trivial,?_⟩;with_reducible refine(CallsIn.inRound l (callsIn_wide.2 xL.out)).mono ?_;rintro S w5 ⟨rfl,ha⟩))
   all_goals exact ha
  case done2=>
   rintro W4 ⟨X,h4,xf,xg⟩ hI;have N:gM E cm tv (M+8*(k+1)) nc a b o w g ps.length (W3.heap.size::Ds) X W4:=by
    obtain⟨z,O,G,R,B,C,L,j,s,F,f⟩:=h4;refine⟨z,O,G,R,B,C,L,j.le (by omega),s,F,fun D hd=>?_⟩;rcases jV.1 hd with rfl|hd
    ·exact⟨by omega,xg _ (.inl rfl) (ap hI),hI⟩
    ·exact f D hd
   have hJ:(W3.heap.size::Ds).Nodup:=by
    rw[List.nodup_cons];exact⟨fun e=>by have:=ho _ e;omega,h9⟩
   obtain⟨H5,xh,xM⟩:=gC N hJ xf;clear h4 N xg hI hJ xf ho H3 k3 Z y6 y0 HS;go_wp2_with fail;go_loopw[54] (fun v U=>∃c:Nat,c<=20000/\v=I6 c/\∃o5,gM E cm tv (M+8*(k+1)) nc a b o w g ps.length (W3.heap.size::Ds) o5 U/\aX o5 U) (fun v _=>20000 - (intOf v).toNat)
   case atStart=>exact⟨0,by omega,rfl,X,H5,xM⟩
   case round=>
    obtain⟨c,hc,rfl,o5,N,xi⟩:=hrel;have hz:=aH (zB N xi);obtain⟨z,O,G,R,B,C,L,j,s,F,f⟩:=N;obtain⟨A5,x6,x7,x8,x9,hL⟩:=j.1.v;have q0:=ce F.1;have q7:=fb hL.blk;obtain⟨A6,c6,hN,ya,xj⟩:=hL.post.ex;have xN:=aH (z8 xj);have xO:=aH ((oL 0 j).mono fun e w4 h4=>(show Rt e (.tuple #[])/\∃o6,gM E cm tv (M+8*(k+1)) nc a b o w g ps.length (W3.heap.size::Ds) o6 w4/\aX o6 w4 from by
     obtain⟨h6,h7⟩:=h4;obtain⟨o6,h8,s8⟩:=gM.next B C s F f (L▸h7);exact⟨h6,o6,h8,s8.far⟩))
    have kw:IntKind.i64.wrap ((k:Int)+1)=((k+1:Nat):Int):=by rw[show((k+1:Nat):Int)=(k:Int)+1 by omega];exact zZ _ (by omega)
    clear B C s F f j hL xj xi;by_cases hm:c < 20000
    case neg=>
     obtain rfl:c=20000:=by omega
     go_wp2_with fail;refine⟨⟨k+1,W3.heap.size::Ds,o5,_,_,_,_,_,_,_,_,_,_,_,_,_,_,_,_,_,_,_,_,_,_,_,hkr,hz.1,hz.2,xh,rfl⟩,?_⟩;simp[intOf];omega
    go_wp2_with fail;refine xN.mono ?_;rintro S _w ⟨rfl,rfl⟩;by_cases hl0:hN.length=0
    ·have hh:((hN.length:Int)==0)=true:=by simpa using hl0
     go_wp2_with fail;refine⟨⟨k+1,W3.heap.size::Ds,o5,_,_,_,_,_,_,_,_,_,_,_,_,_,_,_,_,_,_,_,_,_,_,_,hkr,hz.1,hz.2,xh,rfl⟩,?_⟩;simp[intOf];omega
    have hh:((hN.length:Int)==0)=false:=by simpa using hl0
    go_wp2_with fail;refine xO.mono ?_;rintro S w7 ⟨rfl,o7,h7,xk⟩;have H7:=aH (zB h7 xk);clear h7 xk;go_wp2_with fail;go_roundw
    case rel=>exact⟨c+1,hm,by go_num,o7,H7.1,H7.2⟩
    case measure=>simp[intOf];omega
end
section
open Go.Shelf
attribute [local go_sem] Oper.semAt_some
def FJ(a b:Int)(c:Value)(f:Nat):Array Value:=#[I6 a,I6 b,I6 30,I6 3,I6 12,I6 5,c,Pt f,I6 0,aS]
end
section
open Go.Shelf
attribute [local go_sem] Oper.semAt_some
variable{N:Nat}{p:Pl}
def GP(w0:World)(a b:Int)(v5:Value)(W:World):Prop:=∃g pp t5,v5=Pt t5/\w0.heap.size<=g/\w0.heap.size<=pp/\w0.heap.size<=t5/\Below w0.heap.size w0 W/\am W g 58 (FJ a b (aS) pp)/\am W pp 82 #[aS,aS]/\am W t5 30 #[Pt g]
structure EI(o:Ow)(w:World)(a b:Int)(g pp t4 t5:Nat)(o':Ow)(W:World)(ps:List Pl)(A:Option Addr)(ca:Nat):Prop where
 st:St (fJ w.heap.size) o w o' W
 ge:w.heap.size<=g
 og:o' g=(9,0)
 op_:o' pp=(9,0)
 blk:am W g 58 (FJ a b (.slice A ps.length ca) pp)
 post:am W pp 82 #[aS,aS]
 row:aK iq w.heap.size W (.slice A ps.length ca) (ps.map Pl.pb)
 ro:∀k,(Value.slice A ps.length ca).ownBlock=some k->o' k=(0,0)
 pl:∀j p,ps[j]?=some p->p.nd=none/\o' p.pb=(9,0)/\am W p.pb 68 (FF p 0 false)/\o' p.dk=(j+1,p.dk)/\bS W p.dk ⟨[],[],4194304,0,true,false,0⟩
 pn:(ps.map Pl.pb).Nodup
 x4:am W t4 30 #[.pointer none]/\o' t4=(13,t4)/\w.heap.size<=t4
 x5:am W t5 30 #[Pt g]/\o' t5=(0,0)
theorem St.glue{p}(h:St p o w o' W)(a:Below w.heap.size W W2):St p o w o' W2:=
 ⟨a.os.trans h.os,a.tape.trans h.tape,a.output.trans h.output,zD h.size a.size,h.old,h.far.below a.size,h.new,fun b hlt hp=>(a.block b hlt).trans (h.block b hlt hp)⟩
theorem EI.next{A}{ca:Nat}(h:EI o w a b g M t4 t5 o' W ps A ca)(Z:ps.length < 8)(H:Below W.heap.size W w2)(I:bS w2 W.heap.size ⟨[],[],4194304,0,true,false,0⟩)
  (B:aK iq w.heap.size w6 v6 (ps.map Pl.pb++[w2.heap.size])) (u:((w2.alloc (.cells #[.pointer none,Pt W.heap.size,I6 0,.bool false] 68)).alloc (.cells #[Pt w2.heap.size] 63)).grownBy w6 (Value.slice A ps.length ca).ownBlock) (N:v6.ownBlock=(Value.slice A ps.length ca).ownBlock\/v6.ownBlock=some (w2.heap.size+2)):
  ∃F c6,v6=.slice F (ps.length+1) c6/\am w6 g 58 (FJ a b (.slice A ps.length ca) M)/\am w6 t5 30 #[Pt g]/\∃o2,EI o w a b g M t4 t5 o2 (w6.setCell ⟨g,6,none⟩ v6) (ps++[⟨w2.heap.size,W.heap.size,none⟩]) F c6:=by
 obtain⟨F,c6,n,_⟩:=(aK.rw (E:=iq) B).slice;have O:(ps.map Pl.pb++[w2.heap.size]).length=ps.length+1:=by simp
 rw[O]at n;obtain⟨C,R,kx⟩:=tK w2 #[.pointer none,Pt W.heap.size,I6 0,.bool false] #[Pt w2.heap.size] 68 63;obtain⟨W3,J⟩:=nx ((w2.alloc (.cells #[.pointer none,Pt W.heap.size,I6 0,.bool false] 68)).alloc (.cells #[Pt w2.heap.size] 63));have hc:W3.heap.size=w2.heap.size+2:=by rw[<-J];simp
 rw[J]at C R kx u;have D:=h.st.size;have ha:W.heap.size < w2.heap.size:=ap I;have c:Bw W W3:=H.trans (C.mono H.size);have L:=aK.lt (E:=iq) h.row;have m:∀{t:TypeId} {cs:Array Value} {k:Nat},am W3 k t cs->63≠t->am w6 k t cs:=fun{t cs k} hb hne=>am.grown hb u (fun e=>by
  obtain⟨hd,z⟩:=aK.ty (El_:=iq) h.row e.symm;exact aT hb (am.below z c) (fun e=>hne e.symm) rfl)
 have G:=m (h.blk.below c) (by decide);have S:=aB w6 g 6 v6;obtain⟨o2,q⟩:=nx (b7 (b7 o' W.heap.size (ps.length+1,W.heap.size)) w2.heap.size (9,0));have f:∀k,k < W.heap.size->o2 k=o' k:=fun k hk=>by rw[<-q,bT (by omega),bT (by omega)]
 have i:∀{t:TypeId} {cs:Array Value} {k:Nat},am W3 k t cs->63≠t->58≠t->am (w6.setCell ⟨g,6,none⟩ v6) k t cs:=fun{t cs k} hb h1 h2=>(m hb h1).only S (aT (m hb h1) G (fun e=>h2 e.symm));have T:Below w.heap.size W (w6.setCell ⟨g,6,none⟩ v6):=((c.mono D).grown u (zD D c.size) (fun k e=>(L k e).1)).setCell (p:=⟨g,6,none⟩) h.ge _;have h6:=u.size;have he:(w6.setCell ⟨g,6,none⟩ v6).heap.size=w6.heap.size:=by simp
 have U:St (fJ w.heap.size) o w o2 (w6.setCell ⟨g,6,none⟩ v6):=by
  rw[<-q];exact((h.st.glue T).tag (b:=W.heap.size) D (by omega) (.inr (.inl (by simp only;omega)))).tag (b:=w2.heap.size) (by omega) (by omega) (.inr (it rfl))
 refine⟨F,c6,n,G,m (h.x5.1.below c) (by decide),o2,⟨U,h.ge,by rw[f _ (ap h.blk)];exact h.og,by rw[f _ (ap h.post)];exact h.op_,?_,i (h.post.below c) (by decide) (by decide),?_,?_,?_,?_,⟨i (h.x4.1.below c) (by decide) (by decide),by rw[f _ (ap h.x4.1)];exact h.x4.2.1,h.x4.2.2⟩,⟨i (h.x5.1.below c) (by decide) (by decide),by rw[f _ (ap h.x5.1)];exact h.x5.2⟩⟩⟩
 ·rw[zC,jR,<-n];exact am.I G 6 _
 ·rw[zC,jR,<-n,yC];exact aK.keep (E:=iq) B S (fun k e e2=>by
   injection e2 with e2;subst e2;obtain⟨cs,z⟩:=aK.ty (El_:=iq) B e;exact aT z G (by decide) rfl)
 ·intro k e;rw[zC,jR,<-n]at e;rcases N with h7|h7
  ·rw[h7]at e;rw[f _ (L k e).2];exact h.ro k e
  ·rw[h7]at e;injection e with e;rw[<-e,<-q,bT (by omega),bT (by omega)];exact h.st.far _ (by omega)
 ·intro j p s;by_cases hjl:j < ps.length
  ·rw[qQ hjl]at s;obtain⟨q1,q2,V,q4,X⟩:=h.pl j p s;exact⟨q1,by rw[f _ (ap V)];exact q2,i (V.below c) (by decide) (by decide),by rw[f _ (ap X)];exact q4,i (am.below X c) (by decide) (by decide)⟩
  ·rw[jA (by omega)]at s;have Y:j=ps.length:=by
    have:=(zE.1 s).1;simp at this;omega
   subst Y;simp at s;subst s;exact⟨rfl,by rw[<-q];exact a8 _ _ _,i R (by decide) (by decide),by rw[<-q];show b7 (b7 o' W.heap.size (ps.length+1,W.heap.size)) w2.heap.size (9,0) W.heap.size=_;rw[bT (by omega)];exact a8 _ _ _,i (am.below I C) (by decide) (by decide)⟩
 ·rw[yC,List.nodup_append];refine⟨h.pn,by simp,fun x hx y z e=>?_⟩;simp at z;subst z;subst e;obtain⟨p,hp,e⟩:=zV.1 hx;obtain⟨j,s⟩:=List.getElem?_of_mem hp;have:=ap (h.pl j p s).2.2.1;omega
theorem EI.cs{A}{ca:Nat}(h:EI o w a b g s t4 t5 o' W ps A ca)(f:1<=a/\a<=64/\1<=b/\b<=a)(i:1<=ps.length/\ps.length<=8)(t:eN tv w/\o 1=(0,0))(m:pB E)(bI:E.cs=[])(hK:∀x,E.K x=none):eA E (fun _=>False) (fun _=>False) tv M 0 a b o' W g ps []:=by
 refine⟨⟨h.og,h.st.far,eN.st t h.st D4,m,by rw[bI];simp,i,⟨A,ca,s,aS,h.blk,?_,?_,cZ.nil _ _ _⟩,fun p hp=>?_,h.pn,fun k m=>m,(fun r hr=>by cases hr),List.nodup_nil,f⟩,fun j p q _=>?_⟩
 ·exact⟨aK.rw (E:=iq) h.row,fun x n c e hn=>h.ro x.block (by rw[e];rfl)⟩
 ·exact⟨h.op_,_,_,[],h.post,RI.nil _ _,by simp,(fun l hl=>by cases hl),tA.nil _ _⟩
 ·obtain⟨j,q⟩:=List.getElem?_of_mem hp;obtain⟨_,u,y,_⟩:=h.pl j p q;exact⟨u,0,false,y⟩
 ·obtain⟨z,_,_,B,C⟩:=h.pl j p q;refine .inl ⟨z,B,_,[],[],C,⟨rfl,by simp[aP],by simp[aP],by simp,(fun r hr=>by simp at hr),fun x k e _=>by rw[hK x]at e;cases e⟩,trivial⟩
def Ef(E:bX)(tv:Nat->Int)(a b:Int)(o:Ow)(w:World)(g c t4 t5 i:Nat)(o':Ow)(W:World):Prop:=∃ps':List Pl,ps'.length=c/\eA E (fun _=>False) (fun _=>False) tv 0 0 a b o' W g ps' []/\St (fJ w.heap.size) o w o' W/\(am W t4 30 #[.pointer none]/\o' t4=(13,t4)/\w.heap.size<=t4)/\(am W t5 30 #[Pt g]/\o' t5=(0,0))/\
 ∀j p,i<=j->ps'[j]?=some p->o' p.dk=(j+1,p.dk)/\bS W p.dk ⟨[],[],4194304,0,true,false,0⟩
theorem Ef.st(h:Ef E tv a b o w g t t4 t5 i o' W)(c:St q o' W o2 W2)(m:¬q (0,0))(u:¬q (13,t4))(n:∀y:Nat×Nat,1<=y.1->y.1<=9->¬q y)(A:∀y,q y->fJ w.heap.size y):Ef E tv a b o w g t t4 t5 i o2 W2:=by
 obtain⟨ps',B,s,C,f,k,D⟩:=h;have F:=s.1.len.2;refine⟨ps',B,⟨s.1.st c m (n _ (by decide) (by decide)),s.2.st c m (fun i hi _ r=>n _ (by simp only;omega) (by simp only;omega))⟩,C.trans (c.mono A),⟨f.1.st c (by rw[f.2.1];exact u),by rw[c.old _ (ap f.1)];exact f.2.1,f.2.2⟩,⟨k.1.st c (by rw[k.2];exact m),by rw[c.old _ (ap k.1)];exact k.2⟩,fun j p hij hj=>?_⟩;obtain⟨x,z⟩:=D j p hij hj;have:=(zE.1 hj).1;exact⟨by rw[c.old _ (ap z)];exact x,am.st z c (by rw[x];exact n _ (by simp only;omega) (by simp only;omega))⟩
theorem Ef.start{q:Nat}(h:Ef E tv a b o w g q t4 t5 i o' W)(hi:i < q)(hK:∀x,E.K x=none):Cs 16 #[Pt g,I6 ((i:Int)+1)] W fun e w4=>Rt e (.bool true)/\∃k,Ef E tv a b o w g q t4 t5 (i+1) k w4/\St (fJ W.heap.size) o' W k w4:=by
 obtain⟨ps',G,s,u,c,n,z⟩:=h;have J:=s.1.len.2;obtain⟨p,A⟩:∃p,ps'[i]?=some p:=⟨_,zA (by omega)⟩;obtain⟨B,H⟩:=z i p nR A;refine(j9 s.1 s.2.but A B H (oY.new hK)).mono ?_;rintro e w4 ⟨t,k,nd,rfl,I,C,m⟩;have f:St (fJ W.heap.size) o' W k w4:=m.mono fun y hy=>by
  rcases hy with e|e|e
  ·exact yb (by omega) e
  ·exact it e
  ·exact .inr e
 refine⟨by rw[I rfl],k,⟨_,by rw[List.length_set];exact G,C,u.trans (f.mono fun y hy=>hy.le u.size),⟨c.1.st f (by rw[c.2.1];have:=ap c.1;unfold fJ;simp;omega),by rw[f.old _ (ap c.1)];exact c.2.1,c.2.2⟩,⟨rp n.1 n.2 f,by rw[f.old _ (ap n.1)];exact n.2⟩,fun j p' hij hj'=>?_⟩,f⟩;rw[yF (by omega)]at hj';obtain⟨D,F⟩:=z j p' (by omega) hj';have:=(zE.1 hj').1;exact⟨by rw[m.old _ (ap F)];exact D,am.st F m (by rw[D];simp;omega)⟩
theorem GQ{v}{l:List Nat}(h:aK iq base W v l)(a:Below W.heap.size W w2) c1 c2(t1 t2:TypeId):aK iq base ((w2.alloc (.cells c1 t1)).alloc (.cells c2 t2)) v l:=
 aI h (a.trans (((ba w2 _).alloc (by simp) _).mono a.size))
theorem Fz(w2:World) c1(t1:TypeId)(d:Nat):Rw iq ((w2.alloc (.cells c1 t1)).alloc (.cells #[Pt d] 63)) (.slice (some ⟨w2.heap.size+1,0,none⟩) 1 1) [d]:=by
 have:=dL iq (w2.alloc (.cells c1 t1)) d;rwa[qA]at this
theorem GR{U:World}(h:am w k 32 #[I6 a,I6 b,I6 30,I6 3,I6 12,I6 5])(c:Below w.heap.size w U):Ce U k 0 (I6 a)/\Ce U k 1 (I6 b)/\Ce U k 2 (I6 30)/\Ce U k 3 (I6 3)/\Ce U k 4 (I6 12)/\Ce U k 5 (I6 5):=
 have h:=h.below c
 ⟨am.cell h 0,am.cell h 1,am.cell h 2,am.cell h 3,am.cell h 4,am.cell h 5⟩
theorem AY(mn:Nat)(hm:1<=mn/\mn<=8)(hJ:1<=a/\a<=64/\1<=b/\b<=a)(hf:aX o w)(ht:eN tv w/\o 1=(0,0))(hk:pB E)(bI:E.cs=[])(hK:∀x,E.K x=none):
  Cs 8 #[I6 (mn:Nat),.agg #[I6 a,I6 b,I6 30,I6 3,I6 12,I6 5]] w fun e w'=>∃g ps o',Rt e (Pt g)/\ps.length=mn/\eA E (fun _=>False) (fun _=>False) tv 0 0 a b o' w' g ps []/\St (fJ w.heap.size) o w o' w':=by
 obtain⟨HI,hh,hn⟩:=gC (fun g W=>kO (g:=g) W) (fun W=>pV a b 30 3 12 5 W (by simp[cD];omega) (by simp[cD];omega) (by simp[cD]) (by simp[cD]) (by simp[cD]) (by simp[cD]) (by decide) (by decide)) z7;obtain⟨T,s,x1⟩:=tK w #[I6 a,I6 b,I6 30,I6 3,I6 12,I6 5] #[.pointer none] 32 30;obtain⟨W0,V⟩:=nM ((w.alloc (.cells #[I6 a,I6 b,I6 30,I6 3,I6 12,I6 5] 32)).alloc (.cells #[.pointer none] 30));have hZ:W0.heap.size=w.heap.size+2:=by rw[<-V];simp
 rw[V]at T s x1;have a0:=ce s;have a1:=dt s;have a2:=ed s;have a3:=ef s;have a4:=eV s;have a5:=e9 s;have d1:decide ((mn:Int) < 1)=false:=by simp;omega
 have d2:decide ((8:Int) < (mn:Int))=false:=by simp;omega
 obtain⟨X,ho,hp⟩:=gC T s x1;clear T s x1;refine fT func8 rfl ?_;simp only[ntmps8,qT,zQ,qI,Nat.reduceAdd,Nat.reduceSub,jT,jU,yI,jX,qY,jW];go_upto_region 1 with(fail);simp only[V.out];go_wp2_with fail;refine(hh _).mono ?_;rintro _e w1 ⟨rfl,I⟩;have u:=aH (ho.below I);have c0:=ce u;have c1:=dt u;have c2:=ed u;have c3:=ef u;have c4:=eV u;have c5:=e9 u;obtain⟨L,Y⟩:=gB (X.trans (I.mono X.size)) (hp.below I);clear a0 a1 a2 a3 a4 a5 I;go_wp2_with fail;go_cut [5]from 18 to 21 (fun v5 W=>GP w1 a b v5 W)
 case first=>
  go_region_held3 (fun U=>Ce U w.heap.size 0 (I6 a)/\Ce U w.heap.size 1 (I6 b)/\Ce U w.heap.size 2 (I6 30)/\Ce U w.heap.size 3 (I6 3)/\Ce U w.heap.size 4 (I6 12)/\Ce U w.heap.size 5 (I6 5))
   (first|exact⟨c0,c1,c2,c3,c4,c5⟩|assumption|(refine GR u ?_;repeat(first|exact bR _|refine Below.drew ?_|refine Below.alloc ?_ (by simp;try omega) _|refine Below.setCell ?_ (by simp;try omega) _)))
   (first|(go_at_call 22;refine(hn _).mono ?_;rintro _e w2 ⟨rfl,rfl⟩))
  all_goals
   clear HI hh hn X ho hp u c0 c1 c2 c3 c4 c5 L Y ht hk bI hK;go_wp2_with fail;go_meet;first
    |(obtain⟨z,Z,B,k3⟩:=Do w1 #[aS,aS] (FJ a b (aS) w1.heap.size) #[.pointer (some ⟨w1.heap.size+1,0,none⟩)] 82 58 30
      exact⟨_,_,_,rfl,by omega,by omega,by omega,z.drew,B,Z,k3⟩)
    |(obtain⟨z,Z,B,k3⟩:=Do w1 #[aS,aS] #[.pointer (some ⟨w1.heap.size+1+1,0,none⟩)] (FJ a b (aS) w1.heap.size) 82 30 58
      exact⟨_,_,_,rfl,by omega,by omega,by omega,z.drew,k3,Z,B⟩)
    |(obtain⟨z,Z,B,k3⟩:=Do w1 #[.pointer (some ⟨w1.heap.size+1+1,0,none⟩)] #[aS,aS] (FJ a b (aS) (w1.heap.size+1)) 30 82 58
      exact⟨_,_,_,rfl,by omega,by omega,by omega,z.drew,k3,B,Z⟩)
 case rest=>
  obtain⟨g,pp,t5,rfl,h8,h9,xa,C,R,S,kt⟩:=hcut;have hV:=aH (zB C (zB R (zB S kt)));clear c0 c1 c2 c3 c4 c5;have hq:=L.trans (C.mono L.size);have xb:=L.size;have hM:=aH hk;have M:=Y.out;have xc:=ap M;have hr:EI o w a b g pp (w.heap.size+1) t5 (b7 (b7 (b7 o g (9,0)) pp (9,0)) (w.heap.size+1) (13,w.heap.size+1)) wc [] none 0:=by
   have n1:g≠pp:=aT R S (by decide);have n2:t5≠g:=aT kt R (by decide);have n3:t5≠pp:=aT kt S (by decide);have hu:=ap (M.below C);refine⟨(((St.J hq hf).tag (b:=g) (by omega) (ap R) (.inr (it rfl))).tag (b:=pp) (by omega) (ap S) (.inr (it rfl))).tag (b:=w.heap.size+1) (by omega) hu (.inr (.inr ⟨rfl,by simp⟩)),by omega,by rw[bT (by omega),bT n1];exact a8 _ _ _,by rw[bT (by omega)];exact a8 _ _ _,R,S,aK.nil _ _,(fun k e=>by cases e),(fun j p hj=>by simp at hj),by simp,⟨M.below C,a8 _ _ _,by omega⟩,⟨kt,?_⟩⟩;rw[bT (by omega),bT n3,bT n2];exact hf _ (by omega)
  obtain⟨hN,hP⟩:=gB hr (fun W=>C5 4194304 W (by omega) (by omega));clear hr hq M C R S kt;go_wp2_with fail;go_loopw[23] (fun v W=>∃k:Nat,k<=mn/\v=I6 k/\∃o' ps A ca,ps.length=k/\EI o w a b g pp (w.heap.size+1) t5 o' W ps A ca) (fun v _=>mn - (intOf v).toNat)
  case atStart=>exact⟨0,by omega,rfl,_,[],none,0,rfl,hN⟩
  case round=>
   obtain⟨k,hk,rfl,o3,f,A3,hQ,rfl,D⟩:=hrel;have z5:=ce D.x5.1;have z6:=fa D.blk;have m:=aH D;have xd:=ap D.blk;have hW:=D.st.size;clear D;by_cases hlt:f.length < mn
   case neg=>
    have hw:f.length=mn:=by omega
    have p4:decide ((f.length:Int) < (mn:Int))=false:=by simp;omega
    have HS:=aH (show Ef E tv a b o w g mn (w.heap.size+1) t5 0 o3 wr from⟨f,hw,m.cs hJ (by omega) ht hM bI hK,m.st,m.x4,m.x5,fun j p _ hj=>⟨(m.pl j p hj).2.2.2.1,(m.pl j p hj).2.2.2.2⟩⟩);have hz:=m.st.far;go_wp2_with fail;refine(HI g _).mono ?_;rintro _e _w ⟨rfl,rfl⟩;obtain⟨W2,hA⟩:=nx (wr.alloc (.cells #[Pt g] 30));have c:=ba wr (.cells #[Pt g] 30);have B:=am.new wr 30 #[Pt g];simp only[hA];rw[hA]at c B;have hR:=HS.st (q:=fun _=>False) (.J c hz) _root_.id _root_.id (fun _ _ _=>_root_.id) (fun _ h=>h.elim);go_wp2_with fail;refine(wpIn_wide (n:=3)).1 ?_;refine fK mn rfl (by decide) (gf:=27) (lb:=#[Pt wr.heap.size]) rfl trivial (enters_of func27 (by kernel_rfl) rfl) ?_ (fun i=>Jm W2.heap.size (Ef E tv a b o w g mn (w.heap.size+1) t5 i)) (fun i=>Jm.spare ?_)
     ⟨o3,hR,hz.below c.size,fun b z hl=>by rcases z with rfl|rfl<;>omega⟩ ?a5 ?assign5 ?body5 ?done5
    ·intro J l W hg hY h0;exact kN Fence.wide 2 trivial rfl (by decide) l wr.heap.size g A3 mn hQ (by omega) J hY W (am.cell (am.grown B hg (fun e=>by cases e)) 0) (aD (c.grown hg c.size (fun k e=>by cases e)) (by rw[<-hw];exact z6)) h0
    ·intro G W5 o4 W4 h hs;exact h.st hs (by simp) (fun h13=>by have:=h13.2;have:=c.size;have:=ap m.x4.1;simp only at*;omega) (fun y h1 h2 D=>by have:=D.1;omega) (fun y hy=>.inr ⟨hy.1,by have:=hy.2;have:=c.size;omega⟩)
    case assign5=>
     intro l i W K hK;gi_wp2;exact hK
    case body5=>
     rintro l i W ⟨G,h5,hB,N⟩ hi hL;have y5:Ce W t5 0 (Pt g):=by
      obtain⟨_,_,_,_,_,h,_⟩:=h5;exact am.cell h.1 0
     have hS:=aH ((h5.start hi hK).mono fun e w4 H=>(show Rt e (.bool true)/\D6 W2.heap.size W w4/\Jm W2.heap.size (Ef E tv a b o w g mn (w.heap.size+1) t5 (i+1)) w4 from⟨H.1,by
      obtain⟨o6,F,s6⟩:=H.2;exact Jm.out s6 (fun b z=>by unfold fJ;simp;omega) N hL F⟩))
     clear h5 N;gi_wp2_with fail;refine⟨trivial,(CallsIn.inRound l (callsIn_wide.2 hS)).mono ?_⟩;rintro _e w4 ⟨rfl,ha⟩;have t:=aH ha;clear ha;gi_wp2_with fail;exact t
    case done5=>
     rintro W ⟨G,h5,hB,N⟩ hc;obtain⟨ps',h1,H,hC,F,h7,_⟩:=h5;have hu:=ap m.x4.1;have xe:=c.size;have oB:=N _ (.inl rfl) (ap hc);have y5:=ce h7.1;have y4:=ce F.1;have f4:=am.frozen F.1 0;have hO:=aB W (w.heap.size+1) 0 (Pt g);have hD:=am.I F.1 0 (Pt g);have hE:¬(((0,0):Nat×Nat).1=13/\w.heap.size<=((0,0):Nat×Nat).2):=by simp
     have s7:St (fun y=>y.1=13/\w.heap.size<=y.2) G W G (W.setCell ⟨w.heap.size+1,0,none⟩ (Pt g)):=.U hO (by rw[F.2.1];exact⟨rfl,F.2.2⟩) hB;have hm:(W.setCell ⟨w.heap.size+1,0,none⟩ (Pt g)).heap[W2.heap.size]?=some (.deferred (some [])):=(hO.block _ (ap hc) (by simp;omega)).trans hc;have s8:=s7.trans (St.U (p:=fun y=>y.1=13/\w.heap.size<=y.2) (grownBy_putObj' (W.setCell ⟨w.heap.size+1,0,none⟩ (Pt g)) W2.heap.size (.deferred none)) (by rw[oB];exact⟨rfl,by simp only;omega⟩) s7.far);have hF:am ((W.setCell ⟨w.heap.size+1,0,none⟩ (Pt g)).putObj W2.heap.size (.deferred none)) (w.heap.size+1) _ _:=(World.putObj_heap_other (by omega)).trans hD;have hx:=am.cell hF 0;obtain⟨t,HM,HX⟩:=gC (show eA E (fun _=>False) (fun _=>False) tv 0 0 a b G _ g ps' []/\St (fJ w.heap.size) o w G _ from⟨⟨H.1.st s8 hE (by simp),H.2.st s8 hE (fun i hi _ r e=>by have:=H.1.len.2;have:=e.1;simp at this;omega)⟩,hC.trans (s8.mono fun y e=>.inr e)⟩) hm hx;clear H hC F h7 hO hD s7 s8 hF hm hx;go_wp2_with fail;refine⟨by simp,.inl ⟨_,_,rfl,run_takeDeferred HM,?_⟩⟩;refine⟨Pt g,?_,g,rfl,ps',h1,G,t.1,t.2⟩;have hx:=HX.out;simp at hx;simp[results,Tryz.f8,go_sem,hx]
   have hX:(f.length:Int) < (mn:Int):=by omega
   go_wp2_with fail;show(Code.region _ (_::_::_::_::Ll _::_).toArray _).wp _ _ _ _;go_region_held3 (fun U=>Ce U t5 0 (Pt g))
    (first|exact z5|assumption|exact aD (ba _ _) y5|exact aD ((ba w2 _).alloc (by simp) _) y5)
    (first
     |(go_at_call 23;(with_reducible refine(hP.out _).mono ?_);rintro _e w2 ⟨rfl,hG,c⟩;have O:Bw wr w2:=(bD _).trans (c.mono nR);have y5:=aD c z5;have y6:=aD c z6;have hT:=aD (ba w2 (.cells #[.pointer none,Pt wr.heap.size,I6 0,.bool false] 68)) y6;have x6:=aD ((ba w2 (.cells #[.pointer none,Pt wr.heap.size,I6 0,.bool false] 68)).alloc (by simp) (.cells #[Pt w2.heap.size] 63)) y6)
     |(refine dQ iq rfl (.tmp 29) (.tmp 33) rfl (GQ m.row O _ _ _ _) (by have:=O.size;simp;omega) rfl rfl (Fz w2 _ _ w2.heap.size) (by rw[jD];show(f.length+1)*8<=140737488355328;omega) (by rw[jD];show f.length+1 < _;omega) ?_;intro v6 w6 hH hI hd;obtain⟨A6,c6,rfl,b6,b5,o6,he⟩:=EI.next m (by omega) O hG hH hI (hd.imp _root_.id fun e=>by rw[e];simp);have f6:=am.frozen b6 6;have m6:=fa b6;have q5:=ce b5;have q7:=ce he.x5.1))
   all_goals
    have hU:=aH he;clear he hH hI hd b6 b5 f6 m6 q5 q7 hG c y5 y6 x6 hT O;go_wp2_with fail;go_roundw
    case rel=>exact⟨f.length+1,hlt,by go_num,o6,_,A6,c6,by simp,hU⟩
    case measure=>simp[intOf];omega
end
section
variable{aM:Nat}{x:Nat × Nat}{cs:Array Value}{c:α}
theorem fL(b:am w t T cs)(f:o t=(10,0))(n:cZ El_ o x w v l)(g:x≠(10,0))(hf:aX o w)(q:aK El_ 0 w6 v6 (l++[c]))(s:w.grownBy w6 v.ownBlock)
  (u:v6.ownBlock=v.ownBlock\/∃k,v6.ownBlock=some k/\w.heap.size<=k) (A:El_.ty≠T) (i:Nat):
  am w6 t T cs/\(∀k T' cs',am w k T' cs'->o k≠x->am w6 k T' cs')/\∃o',St (fun y=>y=x\/y=(10,0)) o w o' (w6.setCell ⟨t,i,none⟩ v6)/\cZ El_ o' x (w6.setCell ⟨t,i,none⟩ v6) v6 (l++[c])/\am (w6.setCell ⟨t,i,none⟩ v6) t T (cs.setIfInBounds i v6)/\o' t=(10,0):=by
 obtain⟨o',z,a⟩:=cZ.app n hf (p:=(·=x)) rfl q s u;have h:=b.st a (by rw[f];exact fun e=>g e.symm);have j:o' t=(10,0):=by rw[a.old _ (ap b)];exact f
 have m:St (·=(10,0)) o' w6 o' (w6.setCell ⟨t,i,none⟩ v6):=.U (aB w6 t i v6) j a.far;exact⟨h,fun k T' cs' hk ho=>hk.st a ho,o',(a.mono fun y e=>.inl e).trans (m.mono fun y e=>.inr e),z.st m g,am.I h i _,j⟩
structure c9(t g aM:Nat)(a b:Int)(ca:List Ca)(nds:List Int)(tld:List Rp)(came:List Bool)(les:List Rp)(nm:List bC)(dl:List Rp)(o:Ow)(w:World)(v1 v2 v3 v4 v5 v6 v7:Value):Prop where
 own:o t=(10,0)
 blk:am w t 38 (xY g aM a b v1 v2 v3 v4 v5 v6 v7)
 r1:cZ q6 o (10,1) w v1 ca
 r2:cZ aC o (10,2) w v2 nds
 r3:cZ cW o (10,3) w v3 tld
 r4:cZ fc o (10,4) w v4 came
 r5:cZ cW o (10,5) w v5 les
 r6:cZ aJ o (10,6) w v6 nm
 r7:cZ cW o (10,7) w v7 dl
theorem c9.st(h:c9 t g aM a b ca nds tld came les nm dl o w v1 v2 v3 v4 v5 v6 v7)(c:St p o w o' w')(f:∀k,¬p (10,k)):c9 t g aM a b ca nds tld came les nm dl o' w' v1 v2 v3 v4 v5 v6 v7:=
 ⟨by rw[c.old _ (ap h.blk)];exact h.own,h.blk.st c (by rw[h.own];exact f 0),h.r1.st c (f 1),h.r2.st c (f 2),h.r3.st c (f 3),h.r4.st c (f 4),h.r5.st c (f 5),h.r6.st c (f 6),h.r7.st c (f 7)⟩
theorem c9.below(h:c9 t g aM a b ca nds tld came les nm dl o w v1 v2 v3 v4 v5 v6 v7)(c:Below w.heap.size w w')(hf:aX o w):c9 t g aM a b ca nds tld came les nm dl o w' v1 v2 v3 v4 v5 v6 v7:=h.st (p:=fun _=>False) (.J c hf) (fun _=>_root_.id)
theorem c9.cells(h:c9 t g aM a b ca nds tld came les nm dl o w v1 v2 v3 v4 v5 v6 v7):Ce w t 0 (Pt g)/\Ce w t 1 (I6 (aM:Nat))/\Ce w t 7 (I6 5)/\Ce w t 8 v1/\Ce w t 9 v2/\Ce w t 10 v3/\Ce w t 11 v4/\Ce w t 12 v5/\Ce w t 13 v6/\Ce w t 14 v7:=
 have k:=h.blk
 ⟨am.cell k 0,am.cell k 1,am.cell k 7,am.cell k 8,am.cell k 9,am.cell k 10,am.cell k 11,am.cell k 12,am.cell k 13,am.cell k 14⟩
theorem c9.two(h:k≠j)(a:j≠0):¬(fun y:Nat×Nat=>y=(10,k)\/y=(10,0)) (10,j):=fun e=>by simp at e;omega
end
section
variable{aM:Nat}{x:Nat × Nat}{cs:Array Value}{c:α}
variable(h:c9 t g aM a b ca nds tld came les nm dl o w v1 v2 v3 v4 v5 v6 v7)(hf:aX o w){u:Value}
include h hf
theorem c9.cj{c:Ca}(f:aK q6 0 w6 u (ca++[c]))(i:w.grownBy w6 v1.ownBlock)(j:u.ownBlock=v1.ownBlock\/∃k,u.ownBlock=some k/\w.heap.size<=k):
  am w6 t 38 (xY g aM a b v1 v2 v3 v4 v5 v6 v7)/\(∀k T' cs',am w k T' cs'->o k≠(10,1)->am w6 k T' cs')/\∃o',St (fun y=>y.1=10) o w o' (w6.setCell ⟨t,8,none⟩ u)/\c9 t g aM a b (ca++[c]) nds tld came les nm dl o' (w6.setCell ⟨t,8,none⟩ u) u v2 v3 v4 v5 v6 v7:=by
 obtain⟨m,n,o',s,p,q,x⟩:=fL h.blk h.own h.r1 (by simp) hf f i j (by decide) 8;exact⟨m,n,o',s.mono fun y e=>by rcases e with e|e<;>rw[e],x,q,p,h.r2.st s (c9.two (by decide) (by decide)),h.r3.st s (c9.two (by decide) (by decide)),h.r4.st s (c9.two (by decide) (by decide)),h.r5.st s (c9.two (by decide) (by decide)),h.r6.st s (c9.two (by decide) (by decide)),h.r7.st s (c9.two (by decide) (by decide))⟩
theorem c9.push2{c:Int}(f:aK aC 0 w6 u (nds++[c]))(i:w.grownBy w6 v2.ownBlock)(j:u.ownBlock=v2.ownBlock\/∃k,u.ownBlock=some k/\w.heap.size<=k):
  am w6 t 38 (xY g aM a b v1 v2 v3 v4 v5 v6 v7)/\(∀k T' cs',am w k T' cs'->o k≠(10,2)->am w6 k T' cs')/\∃o',St (fun y=>y.1=10) o w o' (w6.setCell ⟨t,9,none⟩ u)/\c9 t g aM a b ca (nds++[c]) tld came les nm dl o' (w6.setCell ⟨t,9,none⟩ u) v1 u v3 v4 v5 v6 v7:=by
 obtain⟨m,n,o',s,p,q,x⟩:=fL h.blk h.own h.r2 (by simp) hf f i j (by decide) 9;exact⟨m,n,o',s.mono fun y e=>by rcases e with e|e<;>rw[e],x,q,h.r1.st s (c9.two (by decide) (by decide)),p,h.r3.st s (c9.two (by decide) (by decide)),h.r4.st s (c9.two (by decide) (by decide)),h.r5.st s (c9.two (by decide) (by decide)),h.r6.st s (c9.two (by decide) (by decide)),h.r7.st s (c9.two (by decide) (by decide))⟩
theorem c9.push3{c:Rp}(f:aK cW 0 w6 u (tld++[c]))(i:w.grownBy w6 v3.ownBlock)(j:u.ownBlock=v3.ownBlock\/∃k,u.ownBlock=some k/\w.heap.size<=k):
  am w6 t 38 (xY g aM a b v1 v2 v3 v4 v5 v6 v7)/\(∀k T' cs',am w k T' cs'->o k≠(10,3)->am w6 k T' cs')/\∃o',St (fun y=>y.1=10) o w o' (w6.setCell ⟨t,10,none⟩ u)/\c9 t g aM a b ca nds (tld++[c]) came les nm dl o' (w6.setCell ⟨t,10,none⟩ u) v1 v2 u v4 v5 v6 v7:=by
 obtain⟨m,n,o',s,p,q,x⟩:=fL h.blk h.own h.r3 (by simp) hf f i j (by decide) 10;exact⟨m,n,o',s.mono fun y e=>by rcases e with e|e<;>rw[e],x,q,h.r1.st s (c9.two (by decide) (by decide)),h.r2.st s (c9.two (by decide) (by decide)),p,h.r4.st s (c9.two (by decide) (by decide)),h.r5.st s (c9.two (by decide) (by decide)),h.r6.st s (c9.two (by decide) (by decide)),h.r7.st s (c9.two (by decide) (by decide))⟩
theorem c9.push4{c:Bool}(f:aK fc 0 w6 u (came++[c]))(i:w.grownBy w6 v4.ownBlock)(j:u.ownBlock=v4.ownBlock\/∃k,u.ownBlock=some k/\w.heap.size<=k):
  am w6 t 38 (xY g aM a b v1 v2 v3 v4 v5 v6 v7)/\(∀k T' cs',am w k T' cs'->o k≠(10,4)->am w6 k T' cs')/\∃o',St (fun y=>y.1=10) o w o' (w6.setCell ⟨t,11,none⟩ u)/\c9 t g aM a b ca nds tld (came++[c]) les nm dl o' (w6.setCell ⟨t,11,none⟩ u) v1 v2 v3 u v5 v6 v7:=by
 obtain⟨m,n,o',s,p,q,x⟩:=fL h.blk h.own h.r4 (by simp) hf f i j (by decide) 11;exact⟨m,n,o',s.mono fun y e=>by rcases e with e|e<;>rw[e],x,q,h.r1.st s (c9.two (by decide) (by decide)),h.r2.st s (c9.two (by decide) (by decide)),h.r3.st s (c9.two (by decide) (by decide)),p,h.r5.st s (c9.two (by decide) (by decide)),h.r6.st s (c9.two (by decide) (by decide)),h.r7.st s (c9.two (by decide) (by decide))⟩
theorem c9.push5{c:Rp}(f:aK cW 0 w6 u (les++[c]))(i:w.grownBy w6 v5.ownBlock)(j:u.ownBlock=v5.ownBlock\/∃k,u.ownBlock=some k/\w.heap.size<=k):
  am w6 t 38 (xY g aM a b v1 v2 v3 v4 v5 v6 v7)/\(∀k T' cs',am w k T' cs'->o k≠(10,5)->am w6 k T' cs')/\∃o',St (fun y=>y.1=10) o w o' (w6.setCell ⟨t,12,none⟩ u)/\c9 t g aM a b ca nds tld came (les++[c]) nm dl o' (w6.setCell ⟨t,12,none⟩ u) v1 v2 v3 v4 u v6 v7:=by
 obtain⟨m,n,o',s,p,q,x⟩:=fL h.blk h.own h.r5 (by simp) hf f i j (by decide) 12;exact⟨m,n,o',s.mono fun y e=>by rcases e with e|e<;>rw[e],x,q,h.r1.st s (c9.two (by decide) (by decide)),h.r2.st s (c9.two (by decide) (by decide)),h.r3.st s (c9.two (by decide) (by decide)),h.r4.st s (c9.two (by decide) (by decide)),p,h.r6.st s (c9.two (by decide) (by decide)),h.r7.st s (c9.two (by decide) (by decide))⟩
theorem c9.push6{c}(f:aK aJ 0 w6 u (nm++[c]))(i:w.grownBy w6 v6.ownBlock)(j:u.ownBlock=v6.ownBlock\/∃k,u.ownBlock=some k/\w.heap.size<=k):
  am w6 t 38 (xY g aM a b v1 v2 v3 v4 v5 v6 v7)/\(∀k T' cs',am w k T' cs'->o k≠(10,6)->am w6 k T' cs')/\∃o',St (fun y=>y.1=10) o w o' (w6.setCell ⟨t,13,none⟩ u)/\c9 t g aM a b ca nds tld came les (nm++[c]) dl o' (w6.setCell ⟨t,13,none⟩ u) v1 v2 v3 v4 v5 u v7:=by
 obtain⟨m,n,o',s,p,q,x⟩:=fL h.blk h.own h.r6 (by simp) hf f i j (by decide) 13;exact⟨m,n,o',s.mono fun y e=>by rcases e with e|e<;>rw[e],x,q,h.r1.st s (c9.two (by decide) (by decide)),h.r2.st s (c9.two (by decide) (by decide)),h.r3.st s (c9.two (by decide) (by decide)),h.r4.st s (c9.two (by decide) (by decide)),h.r5.st s (c9.two (by decide) (by decide)),p,h.r7.st s (c9.two (by decide) (by decide))⟩
theorem c9.push7{c:Rp}(f:aK cW 0 w6 u (dl++[c]))(i:w.grownBy w6 v7.ownBlock)(j:u.ownBlock=v7.ownBlock\/∃k,u.ownBlock=some k/\w.heap.size<=k):
  am w6 t 38 (xY g aM a b v1 v2 v3 v4 v5 v6 v7)/\(∀k T' cs',am w k T' cs'->o k≠(10,7)->am w6 k T' cs')/\∃o',St (fun y=>y.1=10) o w o' (w6.setCell ⟨t,14,none⟩ u)/\c9 t g aM a b ca nds tld came les nm (dl++[c]) o' (w6.setCell ⟨t,14,none⟩ u) v1 v2 v3 v4 v5 v6 u:=by
 obtain⟨m,n,o',s,p,q,x⟩:=fL h.blk h.own h.r7 (by simp) hf f i j (by decide) 14;exact⟨m,n,o',s.mono fun y e=>by rcases e with e|e<;>rw[e],x,q,h.r1.st s (c9.two (by decide) (by decide)),h.r2.st s (c9.two (by decide) (by decide)),h.r3.st s (c9.two (by decide) (by decide)),h.r4.st s (c9.two (by decide) (by decide)),h.r5.st s (c9.two (by decide) (by decide)),h.r6.st s (c9.two (by decide) (by decide)),p⟩
end
section
variable{aM:Nat}{x:Nat × Nat}{cs:Array Value}{c:α}
theorem cZ.kept(h:cZ El_ o x w v l)(b:∀k T cs,am w k T cs->o k=x->am w6 k T cs):cZ El_ o x w6 v l:=by
 refine⟨?_,h.2⟩;rcases h.1 with⟨c,a⟩;refine⟨c,?_⟩;rcases a with a|⟨g,cap,cur,rfl,hb,hl,hr⟩
 ·exact .inl a
 ·exact .inr ⟨g,cap,cur,rfl,hb,b _ _ _ hl (h.2 g rfl),hr⟩
theorem aK.au(h:aK El_ base w v l)(hi:i < l.length)(c:α)(hv:v=.slice (some ⟨g,0,none⟩) n cap):aK El_ base (bB w g (i*El_.s) (El_.f c)) v (l.set i c):=by
 obtain⟨sp,b,f,j,k,m,rfl⟩:=h.ar (by omega) hv;subst hv;rw[show l.length=(l.set i c).length by simp];refine aK.cf (sp:=sp) ?_ f (by simpa using j) k (by rw[zC,El.ae]at*;simpa using m);have p:l=l.take i++l[i]::l.drop (i+1):=by rw[<-wA hi,yB]
 have a:(El_.cells (l.take i)).length=i*El_.s:=by rw[El.ae,zU,Nat.min_eq_left (by omega)]
 have q:El_.cells l++sp=El_.cells (l.take i)++El_.f l[i]++(El_.cells (l.drop (i+1))++sp):=by
  have s:=congrArg El_.cells p;rw[s,El.al,show El_.cells (l[i]::l.drop (i+1))=El_.f l[i]++El_.cells (l.drop (i+1)) by unfold El.cells;rw[zX],zH,zH,zH]
 have hd:El_.cells (l.set i c)++sp=El_.cells (l.take i)++El_.f c++(El_.cells (l.drop (i+1))++sp):=by
  rw[List.set_eq_take_append_cons_drop,if_pos hi,El.al,show El_.cells (c::l.drop (i+1))=El_.f c++El_.cells (l.drop (i+1)) by unfold El.cells;rw[zX],zH,zH,zH]
 rw[q]at b;rw[hd,<-a];exact am.au (El_.f c) (El_.f l[i]) (El_.cells (l.take i)) w (by rw[El.len,El.len]) b
theorem cZ.at1(h:cZ El_ o x w v l)(a:0 < l.length):∃g cap,v=.slice (some ⟨g,0,none⟩) l.length cap/\o g=x:=by
 obtain⟨g,cap,sp,rfl,b,c,_⟩:=h.1.af a;exact⟨g,cap,rfl,h.2 g rfl⟩
theorem cZ.au(h:cZ El_ o x w v l)(hi:i < l.length)(c:α)(hv:v=.slice (some ⟨g,0,none⟩) n cap)(hf:aX o w):
  cZ El_ o x (bB w g (i*El_.s) (El_.f c)) v (l.set i c)/\St (·=x) o w o (bB w g (i*El_.s) (El_.f c)):=
 ⟨⟨h.1.au hi c hv,h.2⟩,.U (eb _ _ _) (h.2 g (by rw[hv];rfl)) hf⟩
end
section
variable{aM:Nat}{x:Nat × Nat}
def tt(n:Nat)(y:Nat×Nat):Prop:=y.1=10\/fJ n y
theorem tt.le{n':Nat}(h:n<=n'){y}(a:tt n' y):tt n y:=a.imp _root_.id fun e=>e.le h
theorem FA:¬tt n (0,0):=fun h=>h.elim (by simp) D4
theorem Gg(k:Nat):¬fJ n (10,k):=fun h=>by unfold fJ at h;simp at h
theorem eA.cq(h:eA E cm cl tv M nc a b o w g ps tl)(c:St (fun y=>y.1=10) o w o' w'):eA E cm cl tv M nc a b o' w' g ps tl:=
 ⟨h.1.st c (by simp) (by simp),h.2.st c (by simp) (fun j hj _ r e=>by have:=h.1.len.2;simp at e;omega)⟩
theorem eA.cm_(h:eA E cm cl tv M nc a b o w g ps [])(c:∀k,cm' k->cl k):eA E cm' cl tv M nc a b o w g ps []:=
 ⟨⟨h.1.own,h.1.fin,h.1.tab,h.1.kok,h.1.cs,h.1.len,h.1.all,h.1.pl,h.1.pn,c,(fun r hr=>by cases hr),h.1.tn,h.1.cfg⟩,h.2⟩
def bX.call(E:bX)(c:Cl):bX:=⟨E.cs++[c],E.K⟩
theorem bX.cd(E:bX)(c:Cl):E.Le (E.call c):=⟨⟨[c],rfl⟩,fun _ _ h=>h⟩
theorem pB.called(h:pB E)(c:Cl):pB (E.call c):=⟨fun d k e=>by obtain⟨a,b,f⟩:=h.call d k e;exact⟨a,(bX.cd E c).at_ b,f⟩,h.one,h.ok⟩
theorem eA.call(h:eA E cm cl tv M nc a b o w g ps [])(c:Cl)(i:E.cs.length < 1000):eA (E.call c) cm (fun k=>cl k\/k=E.cs.length) tv M nc a b o w g ps []:=by
 have f:=bX.cd E c;have j:(E.call c).cs.length=E.cs.length+1:=by simp[bX.call]
 refine⟨h.1.env f (h.1.kok.called c) (by omega) (fun k hk=>.inl (h.1.cmcl k hk)) (fun r hr=>by cases hr),h.2.env f (h.1.kok.called c) (by omega) (fun d k e=>.inl e) (fun k c' hk _ hn e=>?_) nR⟩;rcases e with e|e
 ·exact hn e
 ·have:=(zE.1 hk).1;omega
theorem xl(s:List UInt8)(n:Nat)(c:s.length<=4611686018427387904)(f:n<=1000) w:Cs 25 #[.string (aF s),I6 (n:Nat)] w fun e w'=>(∃t,Rt e (.string (aF t))/\t.length<=n)/\w=w':=by
 by_cases h:n < s.length
 ·have hd:decide ((n:Int) < (s.length:Int))=true:=by simp;omega
  have a:=gO s n;have b:(n:Int)<=(s.length:Int):=by omega
  apply cI;go_in;go_wp2;go_ret;exact⟨⟨_,rfl,by simp;omega⟩,rfl⟩
 ·have hd:decide ((n:Int) < (s.length:Int))=false:=by simp;omega
  apply cI;go_in;go_wp2;go_ret;exact⟨⟨_,rfl,by omega⟩,rfl⟩
def G2(aM:Nat)(e:Ending):Prop:=∃(m:Mv) (j:Nat),Rt e (.agg (tq m))/\j < aM/\m.nd=(j:Int)+1/\m.q.length<=100/\m.b.length<=1000
def Cm(came:List Bool)(tl:List Rp)(i:Nat)(came1:List Bool):Prop:=∀k:Nat,came1[k]?=some true↔(came[k]?=some true\/∃j r,j < i/\tl[j]?=some r/\r.ref=(k:Int))
theorem Cm.fresh(h:Cm came tl i came1)(b:(tl.map Rp.ref).Nodup)(a:tl[i]?=some r)(c:r.ref=(k:Int))(f:¬came[k]?=some true):¬came1[k]?=some true:=fun e=>by
 rcases(h k).1 e with e|⟨j,s,hj,hs,e⟩
 ·exact f e
 ·have g:j < (tl.map Rp.ref).length:=by simpa using(zE.1 hs).1
  have m:i < (tl.map Rp.ref).length:=by simpa using(zE.1 a).1
  have:=kW b g m (by rw[List.getElem_map,List.getElem_map,(zE.1 hs).2,(zE.1 a).2,c,e])
  omega
theorem Cm.next(h:Cm came tl i came1)(a:tl[i]?=some r)(b:r.ref=(k:Int))(c:k < came1.length):Cm came tl (i+1) (came1.set k true):=fun j=>by
 by_cases e:j=k
 ·subst e
  rw[yH c]
  exact⟨fun _=>.inr ⟨i,r,by omega,a,b⟩,fun _=>rfl⟩
 ·rw[yF (fun h=>e h.symm),h j]
  refine or_congr Iff.rfl ⟨fun⟨x,s,h1,h2,h3⟩=>⟨x,s,by omega,h2,h3⟩,fun⟨x,s,h1,h2,h3⟩=>⟨x,s,?_,h2,h3⟩⟩
  by_cases e2:x=i
  ·subst e2
   rw[a]at h2
   injection h2 with h2
   subst h2
   rw[b]at h3
   omega
  ·omega
theorem q7.cy(h:q7 E cm cl tl)(i:(tl.map Rp.ref).Nodup):tl.length<=E.cs.length:=by
 have a:((tl.map Rp.ref).map Int.toNat).Nodup:=by
  refine jE.2 (i.imp_of_mem ?_);intro x y b m p q;obtain⟨r,f,rfl⟩:=zV.1 b;obtain⟨s,n,rfl⟩:=zV.1 m;obtain⟨k,_,a,_⟩:=h r f;obtain⟨j,_,g,_⟩:=h s n;omega
 have:=dY E.cs.length _ a (fun k hk=>by
  obtain⟨x,b,rfl⟩:=zV.1 hk;obtain⟨r,f,rfl⟩:=zV.1 b;obtain⟨k,c,a,g,_⟩:=h r f;have:=(zE.1 g).1;omega)
 simpa using this
theorem fd.d(h:fd E t g aM a b tld came dl o w):∃ca nm v1 v2 v3 v4 v5 v6 v7,c9 t g aM a b ca (E.cs.map Cl.nd) tld came dl nm dl o w v1 v2 v3 v4 v5 v6 v7/\sR E ca/\nm.length<=1000*E.cs.length:=by
 obtain⟨v1,v2,v3,v4,v5,v6,v7,c,⟨ca,f,i⟩,j,k,m,n,⟨nm,p,q⟩,s⟩:=h.all;exact⟨ca,nm,v1,v2,v3,v4,v5,v6,v7,⟨h.own,c,f,j,k,m,n,p,s⟩,i,q⟩
theorem c9.at_(h:c9 t g aM a b ca (E.cs.map Cl.nd) tld came dl nm dl o w v1 v2 v3 v4 v5 v6 v7)(c:sR E ca)(f:nm.length<=1000*E.cs.length)(i:fF E tld came dl)(j:dl.length<=came.count true):fd E t g aM a b tld came dl o w:=
 ⟨h.own,⟨v1,v2,v3,v4,v5,v6,v7,h.blk,⟨ca,h.r1,c⟩,h.r2,h.r3,h.r4,h.r5,⟨nm,h.r6,f⟩,h.r7⟩,i,j⟩
theorem c9.bt{c c4:Nat}(h:c9 t g aM a b ca nds tld came les nm dl o w v1 v2 v3 (.slice (some ⟨c,0,none⟩) i c4) v5 v6 v7)(hf:aX o w)(m:k < came.length):
  c9 t g aM a b ca nds tld (came.set k true) les nm dl o (w.setCell ⟨c,k,none⟩ (.bool true)) v1 v2 v3 (.slice (some ⟨c,0,none⟩) i c4) v5 v6 v7/\St (fun y=>y.1=10) o w o (w.setCell ⟨c,k,none⟩ (.bool true)):=by
 have f:=h.r4.au m true rfl hf;rw[show bB w c (k*fc.s) (fc.f true)=w.setCell ⟨c,k,none⟩ (.bool true) by show w.setCell ⟨c,k*1,none⟩ (.bool true)=_;rw[wC]]at f;obtain⟨f,s⟩:=f;have n:∀j,j≠4->¬((10,j):Nat×Nat)=(10,4):=fun j hj e=>by simp at e;omega
 exact⟨⟨h.own,h.blk.st s (by rw[h.own];exact n 0 (by decide)),h.r1.st s (n 1 (by decide)),h.r2.st s (n 2 (by decide)),h.r3.st s (n 3 (by decide)),f,h.r5.st s (n 5 (by decide)),h.r6.st s (n 6 (by decide)),h.r7.st s (n 7 (by decide))⟩,s.mono fun y e=>by rw[e]⟩
theorem c9.ai{c f c3:Nat}(h:c9 t g aM a b ca nds tld came les nm dl o w v1 v2 (.slice (some ⟨c,0,none⟩) f c3) v4 v5 v6 v7)(hf:aX o w)(i:k < tld.length)(r:Rp):
  c9 t g aM a b ca nds (tld.set k r) came les nm dl o (bB w c (k*9) (oM r)) v1 v2 (.slice (some ⟨c,0,none⟩) f c3) v4 v5 v6 v7/\St (fun y=>y.1=10) o w o (bB w c (k*9) (oM r)):=by
 obtain⟨m,s⟩:=h.r3.au i r rfl hf;have n:∀j,j≠3->¬((10,j):Nat×Nat)=(10,3):=fun j hj e=>by simp at e;omega
 exact⟨⟨h.own,h.blk.st s (by rw[h.own];exact n 0 (by decide)),h.r1.st s (n 1 (by decide)),h.r2.st s (n 2 (by decide)),m,h.r4.st s (n 4 (by decide)),h.r5.st s (n 5 (by decide)),h.r6.st s (n 6 (by decide)),h.r7.st s (n 7 (by decide))⟩,s.mono fun y e=>by rw[e]⟩
def oZ(E:bX)(tv:Nat->Int)(M t g aM:Nat)(a b:Int)(o:Ow)(w:World):Prop:=∃tld came dl cl ps,fd E t g aM a b tld came dl o w/\ps.length=aM/\eA E (fun k=>came[k]?=some true) cl tv M E.cs.length a b o w g ps []
def G3(E:bX)(tv:Nat->Int)(M t g aM:Nat)(a b:Int)(o:Ow)(w:World)(v:Value):Prop:=∃tld came dl cl ps tl,fd E t g aM a b tld came dl o w/\ps.length=aM/\eA E (fun k=>came[k]?=some true) cl tv M E.cs.length a b o w g ps []/\cZ cW o (9,0) w v tl/\q7 E (fun k=>came[k]?=some true) cl tl/\(tl.map Rp.ref).Nodup
theorem Cm.done(h:Cm came tl tl.length came1)(c:eA E (fun k=>came[k]?=some true) cl tv M nc a b o w g ps [])(f:q7 E (fun k=>came[k]?=some true) cl tl):eA E (fun k=>came1[k]?=some true) cl tv M nc a b o w g ps []:=
 c.cm_ fun k hk=>by
  rcases(h k).1 hk with e|⟨j,r,_,hr,e⟩
  ·exact c.1.cmcl k e
  ·obtain⟨i,_,m,_,_,n,_⟩:=f r (qC hr)
   rwa[show k=i by omega]
theorem fd.law_(b:fF E tld came dl)(s:dl.length<=came.count true)(f:E.cs[k]?=some c)(i:r.ref=(k:Int))(j:fE E c.nd r)(g:¬came[k]?=some true):
  k < came.length/\k < tld.length/\came[k]?=some false/\fF E (tld.set k r) (came.set k true) dl/\dl.length<=(came.set k true).count true/\(c.op=4->r.err=0->fF E (tld.set k r) (came.set k true) (dl++[r])/\(dl++[r]).length<=(came.set k true).count true):=by
 have m:=(zE.1 f).1;have a:k < came.length:=by rw[b.lc];exact m
 have n:k < tld.length:=by rw[b.lt];exact m
 have hf:came[k]?=some false:=by
  rw[zA a]at g ⊢;cases h:came[k]
  ·rfl
  ·rw[h]at g;exact absurd rfl g
 have p:=z1 hf;have q:=b.take f i j;exact⟨a,n,hf,q,by omega,fun e4 e0=>⟨q.deliv f i j e4 e0,by rw[zC,jR];omega⟩⟩
theorem cZ.aq(h:cZ El_ o x w v l)(a:l.length=n)(f:0 < n):∃g cap,v=.slice (some ⟨g,0,none⟩) n cap/\o g=x:=by
 obtain⟨g,cap,b,c⟩:=h.at1 (by omega);exact⟨g,cap,by rw[<-a];exact b,c⟩
theorem cZ.cell{m:Nat}(h:cZ El_ o x w (.slice (some ⟨g,0,none⟩) m cap) l){c:α}(a:l[k]?=some c)(j:Nat){u}(b:(El_.f c)[j]?=some u):w.cell? ⟨g,k*El_.s+j,none⟩=some u:=by
 obtain⟨g',o',e,f⟩:=h.rw.at_ a;injection e with e;injection e with e1 e2;subst e1;subst e2;rw[<-f j u b,zR]
theorem cZ.frozen{m:Nat}(h:cZ El_ o x w (.slice (some ⟨g,0,none⟩) m cap) l)(a:0 < l.length)(j:Nat):w.frozen? ⟨g,j,none⟩=false:=h.1.cc a rfl j
theorem oZ.parts(h:oZ E tv M t g aM a b o w):∃ca tld came nm dl v1 v2 v3 v4 v5 v6 v7,c9 t g aM a b ca (E.cs.map Cl.nd) tld came dl nm dl o w v1 v2 v3 v4 v5 v6 v7/\aX o w/\dl.length<=E.cs.length:=by
 obtain⟨tld,came,dl,cl,ps,c,j,f⟩:=h;obtain⟨ca,nm,v1,v2,v3,v4,v5,v6,v7,i,_⟩:=c.d;refine⟨ca,tld,came,nm,dl,v1,v2,v3,v4,v5,v6,v7,i,f.1.fin,?_⟩;have k:=c.law.lc;have m:=c.cnt;have n:came.count true<=came.length:=List.count_le_length;omega
theorem lQ{a0 a1 a2 a3 a4 a5 a6 a7 a8}(h:am W k T #[a0,a1,a2,a3,a4,a5,a6,a7,a8]):Ce W k 0 a0/\Ce W k 1 a1/\Ce W k 2 a2/\Ce W k 3 a3/\Ce W k 4 a4/\Ce W k 5 a5/\Ce W k 6 a6/\Ce W k 7 a7/\Ce W k 8 a8:=
 ⟨ce h,dt h,ed h,ef h,eV h,e9 h,fa h,fb h,ma h⟩
theorem il(h:G3 E tv M t g aM a b o w v)(bI:E.cs.length<=1000):
  Cs 6 #[Pt t,v] w fun e w'=>Rt e (.bool true)/\∃o',oZ E tv M t g aM a b o' w'/\St (fun y=>y.1=10) o w o' w':=by
 obtain⟨tld,came,dl,cl,ps,tl,hT,h8,hC,hl,ht,hn⟩:=h;obtain⟨A,c,rfl,hJ⟩:=hl.rw.slice;have hf:=hC.1.fin;have xe:=ht.cy hn;obtain⟨HT,HC,HL,hK,HN⟩:=gE hT hC hl ht hn;clear hT hC hl ht hn;apply cI;go_in;go_wp2_with fail;go_loopw[5] (fun u W=>∃(i:Nat) (o1:Ow) (B:List Rp) (came1:List Bool) (p:List Rp),i<=tl.length/\u=I6 i/\fd E t g aM a b B came1 p o1 W/\St (fun y=>y.1=10) o w o1 W/\Cm came tl i came1) (fun u _=>tl.length - (intOf u).toNat)
 case atStart=>exact⟨0,o,tld,came,dl,zS _,rfl,HT,.refl hf,fun k=>⟨.inl,fun e=>e.elim _root_.id fun⟨j,_,h,_⟩=>absurd h (Nat.not_lt_zero j)⟩⟩
 case round=>
  obtain⟨i,o1,B,came1,p,hi,rfl,H,L,ha⟩:=hrel;by_cases hlt:i < tl.length
  case neg=>
   obtain rfl:i=tl.length:=by omega
   have HF:Hid (oZ E tv M t g aM a b o1 wr/\St (fun y=>y.1=10) o w o1 wr):=aH ⟨⟨B,came1,p,cl,ps,H,h8,ha.done (HC.cq L) hK⟩,L⟩;clear H L ha;go_wp2_with fail;go_ret;exact⟨rfl,o1,HF⟩
  obtain⟨r,hr⟩:∃r,tl[i]?=some r:=⟨_,zA hlt⟩;obtain⟨k,hc,hk,hx,hL,_,h6⟩:=hK r (qC hr);obtain⟨q1,q2,q3,q4,q5,q6⟩:=fd.law_ H.law H.cnt hx hk hL (ha.fresh HN hr hk h6);have hy:=ha.next hr hk q1;have hJ:=H.law.lc;have hm:=H.law.lt;obtain⟨xd,_⟩:=zB H.cnt trivial;have ho:=L.far;obtain⟨ca,nm,v1,v2,v3,v4,v5,v6,v7,hD,hp,hM⟩:=H.d;obtain⟨xf,hz⟩:=hp.2 k hc hx;have h9:came1.count true<=came1.length:=List.count_le_length;have xg:k < E.cs.length:=(zE.1 hx).1;obtain⟨g1,c1,rfl,_⟩:=hD.r1.aq hp.1 (by omega);obtain⟨g3,c3,rfl,_⟩:=hD.r3.aq hm (by omega);obtain⟨g4,c4,rfl,_⟩:=hD.r4.aq hJ (by omega);obtain⟨A5,c5,rfl,_⟩:=hD.r5.rw.slice;obtain⟨A7,c7,rfl,_⟩:=hD.r7.rw.slice;obtain⟨ga,oa,rfl,f⟩:=(HL.st L (by simp)).rw.at_ hr;obtain⟨rf,er,C,⟨⟨D,F⟩,G,rb,m⟩,n⟩:=r;dsimp only at hk q6;subst hk;have l0:Ce wr ga (oa+i*9) (I6 (k:Int)):=f 0 _ rfl;have l1:Ce wr ga (oa+i*9+1) (I6 er):=f 1 _ rfl;have l2:Ce wr ga (oa+i*9+2) (I6 C):=f 2 _ rfl;have l3:Ce wr ga (oa+i*9+3) (I6 D):=f 3 _ rfl;have l4:Ce wr ga (oa+i*9+4) (I6 F):=f 4 _ rfl;have l5:Ce wr ga (oa+i*9+5) (.string (aF G)):=f 5 _ rfl;have l6:Ce wr ga (oa+i*9+6) (.string (aF rb)):=f 6 _ rfl;have l7:Ce wr ga (oa+i*9+7) (I6 m):=f 7 _ rfl;have l8:Ce wr ga (oa+i*9+8) (I6 n):=f 8 _ rfl;have i0:(0:Int)<=(i:Int):=by omega
  have i1:(i:Int) < (tl.length:Int):=by omega
  have xh:decide ((k:Int) < 0)=false:=by simp
  have xi:decide ((E.cs.length:Int)<=(k:Int))=false:=by simp;omega
  have k0:(0:Int)<=(k:Int):=by omega
  have k1:(k:Int) < (E.cs.length:Int):=by omega
  obtain⟨W1,hN⟩:=nM (wr.alloc (.cells #[I6 (k:Int),I6 er,I6 C,I6 D,I6 F,.string (aF G),.string (aF rb),I6 m,I6 n] 46));have hd:=ba wr (.cells #[I6 (k:Int),I6 er,I6 C,I6 D,I6 F,.string (aF G),.string (aF rb),I6 m,I6 n] 46);have x1:=am.new wr 46 #[I6 (k:Int),I6 er,I6 C,I6 D,I6 F,.string (aF G),.string (aF rb),I6 m,I6 n];rw[hN]at hd x1;have D1:=hD.below hd ho;have hO:=ho.below hd.size;have S1:=aH (L.below hd);obtain⟨y0,y1,y7,y8,y9,he,hA,Y,xa,J⟩:=D1.cells;have z0:=ce x1;have zc:Ce W1 g4 k (.bool false):=by have:=D1.r4.cell q3 0 rfl;rwa[show k*fc.s+0=k by show k*1+0=k;omega]at this
  obtain⟨HX,HD,HQ,N,h7,hP⟩:=gF x1 D1 (zB q4 (zB q5 q6)) (zB hp (zB hM hy)) hz hO;have ox:o1 wr.heap.size=(0,0):=ho _ nR;have Z:=aH ox;clear H L ha hL hD f hd x1 D1 q4 q5 q6 hp hM hy hz hO ho ox;go_wp2_with fail;simp only[hN.out];go_quiet (fail);go_wp2_with fail;obtain⟨W2,hQ⟩:=nM (W1.drewN nq);have hq:Bw W1 W2:=hQ▸below_drewN (bR _) nq;have x2:=HX.below hq;have D2:=HD.below hq hP;obtain⟨S2,hs⟩:=gB (S1.below hq) (D2.bt (hP.below hq.size) q1);simp only[hQ.out];clear y0 y1 y7 y8 y9 he hA Y xa J z0 zc l0 l1 l2 l3 l4 l5 l6 l7 l8;obtain⟨_,_,_,_,_,he,hA,_⟩:=D2.cells;have z0:=ce x2;have zc:Ce W2 g4 k (.bool false):=by have:=D2.r4.cell q3 0 rfl;rwa[show k*fc.s+0=k by show k*1+0=k;omega]at this
  have zf:=fun i=>D2.r4.frozen (by omega) i;have hR:=aH x2;clear x2 D2;refine aN 7 (by kernel_rfl) (by kernel_rfl) ?_;simp only[zF,zN,zG,zO];repeat still_step
  refine wpStill_nil ?_;go_wp2_with fail;obtain⟨W3,hS⟩:=nM ((W2.setCell ⟨g4,k,none⟩ (.bool true)).drew);have z:Below (W2.setCell ⟨g4,k,none⟩ (.bool true)).heap.size (W2.setCell ⟨g4,k,none⟩ (.bool true)) W3:=hS▸(bD _);have S3:=(hs.2).below z;have D3:=hs.1.below z hs.2.far;have O:=hR.st S3 (by rw[Z];simp);simp only[hS.out];clear he hA z0 zc zf z;obtain⟨_,_,_,_,_,he,_⟩:=D3.cells;have z0:=ce O;have z1:=dt O;have z2:=ed O;have z3:=ef O;have z4:=eV O;have z5:=e9 O;have z6:=fa O;have z7:=fb O;have z8:=ma O;have z:Bw W3 W3.drew:=bD _;obtain⟨hu,hU⟩:=gB ((D3.below z S3.far).ai (S3.far.below z.size) q2 ⟨(k:Int),er,C,⟨⟨D,F⟩,G,rb,m⟩,n⟩) (S2.trans (S3.below z));have hV:Hid (∃sp,aR W3.drew g3 46 (cW.cells B++sp)/\k*9+9<=(cW.cells B++sp).toArray.size):=aH (by
   obtain⟨sp,hr,_⟩:=(D3.below z S3.far).r3.1.ar (by omega) rfl;refine⟨sp,hr,?_⟩;rw[qT,zC,El.ae];show k*9+9<=B.length*9+_;omega)
  have hW:=aH (O.below z);clear S3 D3 O z;refine aN 8 (by kernel_rfl) (by kernel_rfl) ?_;simp only[zF,zN,zG,zO];repeat still_step
  refine wpStill_nil ?_;obtain⟨xb,hX,hY⟩:=hV.out;refine dV (vs:=oM ⟨(k:Int),er,C,⟨⟨D,F⟩,G,rb,m⟩,n⟩) rfl 46 54 53 rfl rfl rfl rfl (fun w=>by kernel_rfl) hX (by simp[oM,Value.oneCell']) hY ?_;have S4:=hU.trans hu.2;have D4:=hu.1;have x4:=hW.st hu.2 (by rw[Z];simp);obtain⟨W4,xc⟩:=nM (bB W3.drew g3 (k*9) (oM ⟨(k:Int),er,C,⟨⟨D,F⟩,G,rb,m⟩,n⟩));rw[xc]at S4 D4 x4 ⊢;clear he z0 z1 z2 z3 z4 z5 z6 z7 z8 hu hU hV hW hs hR hX hY xb;obtain⟨_,_,_,y8,_,_,_,Y,_,J⟩:=D4.cells;have z0:=ce x4;have z1:=dt x4;have zc:Ce W4 g1 (k*4) (I6 hc.op):=D4.r1.cell h7 0 rfl;obtain⟨hZ,hB,h1,hE⟩:=gD D4 S4 x4 (fun W (hb:Bw W4 W)=>zB ((c9.at_ D4 N.1 N.2.1 HQ.1 HQ.2.1).below hb S4.far) (S4.below hb));clear S4 D4 x4;go_wp2_with fail;have xj:p.length<=1000:=by omega
  by_cases h4:hc.op=4
  case neg=>
   have e4:(hc.op==4)=false:=by simpa using h4
   go_quiet (fail);go_wp2_with fail;have q:=hE _ (below_drewN (bR W4) nq);go_roundw
   case rel=>exact⟨i+1,o1,_,_,p,hlt,by go_num,q.1,q.2,N.2.2⟩
   case measure=>simp[intOf];omega
  have e4:(hc.op==4)=true:=by simpa using h4
  by_cases h0:er=0
  case neg=>
   have e0:(er==0)=false:=by simpa using h0
   go_quiet (fail);go_wp2_with fail;have q:=hE _ (below_drewN (bR W4) nq);go_roundw
   case rel=>exact⟨i+1,o1,_,_,p,hlt,by go_num,q.1,q.2,N.2.2⟩
   case measure=>simp[intOf];omega
  subst h0;have hF:=aH (HQ.2.2 h4 rfl);go_quiet (fail);go_wp2_with fail;obtain⟨W5,h2⟩:=nM (W4.drewN nq);have hw:Bw W4 W5:=h2▸below_drewN (bR _) nq;have R:=hZ.below hw hB.far;have S5:=hB.below hw;have s:=h1.below hw;simp only[h2.out];clear y8 Y J z0 z1 zc hZ hB h1 hE hw;have Y:=R.cells.2.2.2.2.2.2.2.1;clear hi;have z0:=ce s;have z1:=dt s;have z2:=ed s;have z3:=ef s;have z4:=eV s;have z5:=e9 s;have z6:=fa s;have z7:=fb s;have z8:=ma s;have I:Bw W5 (W5.drew.alloc (.cells (cW.f ⟨(k:Int),0,C,⟨⟨D,F⟩,G,rb,m⟩,n⟩).toArray cW.ty)):=(bD _).alloc nR _;obtain⟨S,x,T,hG⟩:=gD (R.below I S5.far) (s.below I) (S5.below I) (dL cW W5.drew ⟨(k:Int),0,C,⟨⟨D,F⟩,G,rb,m⟩,n⟩);have hH:Hid ((p.length+1)*cW.bytes<=140737488355328):=aH (by show(p.length+1)*88<=_;omega);obtain⟨KA,KB⟩:=gB (lQ (s.below (bD _))) (lQ x);have yy:(W5.drew).cell? ⟨t,12,none⟩=_:=Y;have hm:t < W5.heap.size:=ap R.blk;clear R S5 s I;show(Code.region _ (_::_::_::_::Ll _::_).toArray _).wp _ _ _ _;go_region_held3 (fun U=>Ce U wr.heap.size 0 (I6 (k:Int))/\Ce U wr.heap.size 1 (I6 0)/\Ce U wr.heap.size 2 (I6 C)/\Ce U wr.heap.size 3 (I6 D)/\Ce U wr.heap.size 4 (I6 F)/\Ce U wr.heap.size 5 (.string (aF G))/\Ce U wr.heap.size 6 (.string (aF rb))/\Ce U wr.heap.size 7 (I6 m)/\Ce U wr.heap.size 8 (I6 n))
   (first|exact KA|exact KB|exact KC|exact KD)
   (first
    |(refine dQ cW rfl (.tmp 74) (.tmp 76) rfl S.r5.1 (zS _) rfl rfl hG hH (by simp only[jR];omega) ?_;intro u6 w6 V hg X;obtain⟨A6,c6,hh,_⟩:=(aK.rw (E:=cW) V).slice;simp only[zC,zQ,qI,zR]at hh;subst hh;obtain⟨b6,hj,o6,s6,D6⟩:=S.push5 T.far V hg (X.imp _root_.id fun e=>⟨_,e,nR⟩);have f6:=am.frozen b6 12;have m6:=am.cell b6 12;have KC:=aH (lQ (hj _ _ _ x (by rw[Z];simp)));have KD:=aH (lQ (x.st s6 (by rw[Z];simp)))))
  all_goals
   have R:=D6;have s:=x.st s6 (by rw[Z];simp);have S5:=T.trans s6;have h3:Hid (o6 wr.heap.size=(0,0)):=aH (by rw[s6.old _ (ap x)];exact Z);obtain⟨W6,h5⟩:=nM (w6.setCell ⟨t,12,none⟩ (.slice A6 (p.length+1) c6));rw[h5]at R s S5;clear b6 f6 m6 hj V hg X D6 s6 Y yy KC KD x T S z0 z1 z2 z3 z4 z5 z6 z7 z8;have J:=R.cells.2.2.2.2.2.2.2.2.2;go_wp2_with fail;simp only[h5.out];clear J;have J:=R.cells.2.2.2.2.2.2.2.2.2;have I:Bw W6 (W6.drew.alloc (.cells (cW.f ⟨(k:Int),0,C,⟨⟨D,F⟩,G,rb,m⟩,n⟩).toArray cW.ty)):=(bD _).alloc nR _;obtain⟨S,x,T,hG⟩:=gD (R.below I S5.far) (s.below I) (S5.below I) (dL cW W6.drew ⟨(k:Int),0,C,⟨⟨D,F⟩,G,rb,m⟩,n⟩);have hH:Hid ((p.length+1)*cW.bytes<=140737488355328):=aH (by show(p.length+1)*88<=_;omega);obtain⟨KA,KB⟩:=gB (lQ (s.below (bD _))) (lQ x);have yy:(W6.drew).cell? ⟨t,14,none⟩=_:=J;have hm:t < W6.heap.size:=ap R.blk;clear R S5 s I;show(Code.region _ (_::_::_::_::Ll _::_).toArray _).wp _ _ _ _;go_region_held3 (fun U=>Ce U wr.heap.size 0 (I6 (k:Int))/\Ce U wr.heap.size 1 (I6 0)/\Ce U wr.heap.size 2 (I6 C)/\Ce U wr.heap.size 3 (I6 D)/\Ce U wr.heap.size 4 (I6 F)/\Ce U wr.heap.size 5 (.string (aF G))/\Ce U wr.heap.size 6 (.string (aF rb))/\Ce U wr.heap.size 7 (I6 m)/\Ce U wr.heap.size 8 (I6 n))
    (first|exact KA|exact KB|exact KC|exact KD)
    (first
     |(refine dQ cW rfl (.tmp 84) (.tmp 86) rfl S.r7.1 (zS _) rfl rfl hG hH (by simp only[jR];omega) ?_;intro u6 w8 V hg X;obtain⟨A8,c8,hh,_⟩:=(aK.rw (E:=cW) V).slice;simp only[zC,zQ,qI,zR]at hh;subst hh;obtain⟨b6,hj,o8,s8,D8⟩:=S.push7 T.far V hg (X.imp _root_.id fun e=>⟨_,e,nR⟩);have f6:=am.frozen b6 14;have m6:=am.cell b6 14;have KC:=aH (lQ (hj _ _ _ x (by rw[h3];simp)));have KD:=aH (lQ (x.st s8 (by rw[h3];simp)))))
   all_goals
    have q:fd E t g aM a b (B.set k ⟨(k:Int),0,C,⟨⟨D,F⟩,G,rb,m⟩,n⟩) (came1.set k true) (p++[⟨(k:Int),0,C,⟨⟨D,F⟩,G,rb,m⟩,n⟩]) o8 _/\St (fun y=>y.1=10) o w o8 _:=⟨c9.at_ D8 N.1 N.2.1 hF.1 hF.2,T.trans s8⟩;have hI:=aH q;clear q b6 f6 m6 hj V hg X D8 s8 J yy KC KD x T S;go_wp2_with fail;go_roundw
    case rel=>exact⟨i+1,o8,_,_,_,hlt,by go_num,hI.1,hI.2,N.2.2⟩
    case measure=>simp[intOf];omega
end
section
variable{E1:bX}{aM:Nat}{x:Nat × Nat}
def lR(E:bX)(tv:Nat->Int)(M t g aM:Nat)(a b:Int)(o:Ow)(w:World)(e:Ending)(w':World):Prop:=
 ∃E' v o',Rt e v/\E.Le E'/\E'.cs.length<=E.cs.length+1/\G3 E' tv M t g aM a b o' w' v/\St (tt w.heap.size) o w o' w'
theorem Dg.tw(h:Dg E1 (fun k=>came[k]?=some true) tv M E1.cs.length a b o1 W g aM e w')(m:fd E1 t g aM a b tld came dl o1 W)(f:St (tt w.heap.size) o w o1 W)(n:E.Le E1)(p:E1.cs.length<=E.cs.length+1):lR E tv M t g aM a b o w e w':=by
 obtain⟨q,cl',ps',tl',o2,v,rfl,i,c,s,u,x,z,A,j⟩:=h;refine⟨q,v,o2,rfl,n.trans i,by rw[c];exact p,⟨tld,came,dl,cl',ps',tl',(m.st j (fun k=>Gg k)).env i c,s,by rw[c];exact u,x,z,A⟩,f.trans (j.mono fun y hy=>.inr (hy.le f.size))⟩
theorem lS(r:Nat)(f:r<=20)(h:oZ E tv M t g aM a b o w)(i:M<=900000):Cs 7 #[Pt g,I6 (r:Nat)] w (lR E tv (M+160) t g aM a b o w):=by
 obtain⟨tld,came,dl,cl,ps,j,rfl,c⟩:=h;exact(ts r f c i).mono fun e w' hD=>hD.tw j (.refl c.1.fin) (bX.Le.refl E) (by omega)
theorem fd.called(f:fF E tld came dl)(h:dl.length<=came.count true)(i:sR E ca)(k:nm.length<=1000*E.cs.length+1000)(c:Cl)(rc:Int)(z:Rp)
  (j:c9 t g aM a b (ca++[⟨c.op,c.q,c.b,rc⟩]) (E.cs.map Cl.nd++[c.nd]) (tld++[z]) (came++[false]) dl nm dl o w v1 v2 v3 v4 v5 v6 v7):fd (E.call c) t g aM a b (tld++[z]) (came++[false]) dl o w:=
 c9.at_ (E:=E.call c) (by rw[show(E.call c).cs.map Cl.nd=E.cs.map Cl.nd++[c.nd] by simp[bX.call]];exact j) (i.push rc rfl) (by simp[bX.call];omega) (f.push (bX.cd E c) rfl z) (by simp;exact h)
theorem AZ(h:came.length=n):(fun k:Nat=>(came++[false])[k]?=some true)=fun k:Nat=>came[k]?=some true:=by
 funext k
 by_cases e:k < came.length
 ·rw[qQ e]
 ·rw[jA (by omega),jB (l:=came) (by omega)];rcases qK (k - came.length)with e|e
  ·rw[e];simp
  ·rw[jB (by simp;omega)]
theorem pX(n:eA E (fun k=>came[k]?=some true) cl tv M E.cs.length a b o W g ps [])(q:ps.length=aM)(D:came.length=E.cs.length)(y:fd (E.call ⟨m.op,m.q,m.b,m.nd⟩) t g aM a b tld (came++[false]) dl o W)(z:St (tt w.heap.size) o1 w o W)(A:j < aM)(f:m.nd=(j:Int)+1)(s:m.kd=1)(B:m.q.length<=100)(F:m.b.length<=1000)(i:E.cs.length < 1000):
  Cs 24 #[Pt g,.agg (tq m)] W (lR E tv M t g aM a b o1 w):=by
 subst q;have u:(E.call ⟨m.op,m.q,m.b,m.nd⟩).cs.length=E.cs.length+1:=by simp[bX.call]
 obtain⟨p,C⟩:∃p,ps[j]?=some p:=⟨_,zA A⟩;refine(C8 (c:=⟨m.op,m.q,m.b,m.nd⟩) (n.call ⟨m.op,m.q,m.b,m.nd⟩ i) C f s (.inr rfl) (by rw[jB (by omega)];simp) (by simp[bX.call]) rfl (by show m.nd=_;rw[f];simp) rfl rfl u (fun x e=>?_) B (by omega)).mono fun e w' hD=>?_
 ·obtain⟨c,h,_⟩:=n.1.kok.call x _ e;have:=(zE.1 h).1;omega
 ·rw[<-u,<-AZ rfl]at hD;exact hD.tw y z (bX.cd E _) (by omega)
theorem A0(i:eA E (fun k=>came[k]?=some true) cl tv M E.cs.length a b o W g ps [])(c:ps.length=aM)(n:fd E t g aM a b tld came dl o W)(q:St (tt w.heap.size) o1 w o W)(s:j < aM)(f:m.nd=(j:Int)+1)(h:m.kd≠1)(u:M<=999999):
  Cs 24 #[Pt g,.agg (tq m)] W (lR E tv (M+1) t g aM a b o1 w):=by
 subst c;obtain⟨p,x⟩:∃p,ps[j]?=some p:=⟨_,zA s⟩;exact(Ee i u x f h).mono fun e w' hD=>hD.tw n q (bX.Le.refl E) (by omega)
theorem lR.le(h:lR E tv M t g aM a b o w e w')(c:M<=M'):lR E tv M' t g aM a b o w e w':=by
 obtain⟨E',v,o',f,i,j,⟨tld,came,dl,cl,ps,tl,k,m,n,p⟩,q⟩:=h;exact⟨E',v,o',f,i,j,⟨tld,came,dl,cl,ps,tl,k,m,n.le c,p⟩,q⟩
end
end Go.Proofs.YthdfgdicnplhlaaGreatDoor
