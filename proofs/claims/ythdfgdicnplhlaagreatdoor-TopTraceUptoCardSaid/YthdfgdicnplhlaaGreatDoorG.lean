import Derived.Test.YthdfgdicnplhlaaGreatDoorF
import Derived.Deep.CutRange
import Derived.Shelf.SlIterI.Collect
set_option maxHeartbeats 16000000
set_option maxRecDepth 100000
set_option linter.all false
namespace Go.Proofs.YthdfgdicnplhlaaGreatDoor
open Go.RowKit Hd _root_.Go.Proofs.Tryz
variable{E E':bX}{i k:Nat}{t:TypeId}{b:Nat}{rc:Int}{T n:Nat}{M:Mg → Prop}{id up:Int}{s:Nat}{a:Int}{g:Nat}{tv:Nat → Int}{T' c:Nat}{Rf:Nat → Prop}{B:Nat}{hand:Option Nat}{rsv:List Int}{o o':Ow}{w w':World}{next:Int}{w1:World}{α:Type}{f:Nat}{x:Nat × Nat}{p:Nat × Nat → Prop}{vl vg v2:Value}{base B':Nat}{reps:List Rp}{El_:El α}{ref:Nat}{z:Int}{ca:Nat}{cm cl cl':Nat → Prop}{M':Nat}{q:Nat × Nat → Prop}{nc:Nat}{tl:List Rp}{j:Nat}{came:List Bool}{dl:List Rp}{n':Nat}{l:List α}
structure Lt where
 f:Int
 t:Int
 b:List UInt8
def cY:El Lt where
 ty:=104
 sl:=80
 s:=3
 bytes:=32
 z:=.agg #[I6 0,I6 0,Se]
 f l:=[I6 l.f,I6 l.t,.string (aF l.b)]
 und:=underlying80
 info:=by kernel_rfl
 zs:=rfl
 pos:=by decide
 len _:=rfl
 one d u hu:=by simp at hu;rcases hu with rfl|rfl|rfl<;>rfl
def oM(r:Rp):List Value:=[I6 r.ref,I6 r.err,I6 r.n,I6 r.m.d.nd,I6 r.m.d.n,.string (aF r.m.q),.string (aF r.m.b),I6 r.m.c,I6 r.rc]
def cW:El Rp where
 ty:=46
 sl:=29
 s:=9
 bytes:=88
 z:=.agg #[I6 0,I6 0,I6 0,I6 0,I6 0,Se,Se,I6 0,I6 0]
 f:=oM
 und:=underlying29
 info:=by kernel_rfl
 zs:=rfl
 pos:=by decide
 len _:=rfl
 one d u hu:=by simp[oM]at hu;rcases hu with rfl|rfl|rfl|rfl|rfl|rfl|rfl|rfl|rfl<;>rfl
structure Nb where
 i:Nat
 nb:Nat
 lg:Nat
 dk:Nat
 st:Nat
 due:Nat
 hd:Nat
 wt:Nat
 wm:Nat
 cm:Nat
 c1:Int
 c2:Int
 c3:Int
 c4:Int
 c5:Int
 tv:Nat->Int
def dZ(rs:List (List UInt8)):Int:=rs.foldl (fun u r=>max u (fh r)) 0
structure lJ(E:bX)(i:Nat)(r:List UInt8):Prop where
 m:ov (fR E) r
 id:ix r=0\/ix r=i
 up:fh r<=33554432
 len:r.length<=8000
theorem lJ.mono{r}(h:lJ E i r)(a:E.Le E'):lJ E' i r:=⟨h.m.mono fun m hm=>hm.mono a,h.id,h.up,h.len⟩
structure gd(E:bX)(tv:Nat->Int)(i:Nat)(d:Dk)(rs1 rs2:List (List UInt8)):Prop where
 room:d.room=4194304
 sf:d.sf=aP tv rs1
 tl:d.tl=aP tv rs2
 size:d.sf.length+d.tl.length<=4194304
 ok:∀r∈rs1++rs2,lJ E i r
 num:∀x k,E.K x=some k->x.nd=i->x.n<=dZ rs1
structure gx(E:bX)(N:Nb)(next:Int)(rsv:List Int)(o:Ow)(w:World):Prop where
 olg:o N.lg=(N.i,N.lg)
 odk:o N.dk=(N.i,N.dk)
 all:∃br d rs1 rs2 up n,ez w N.lg N.dk br/\bS w N.dk d/\gd E N.tv N.i d rs1 rs2/\dF (fR E) n N.i up o w N.st (N.i,N.st)/\up<=dZ rs1/\0<=up/\up<=33554432/\n<=d.sf.length+d.tl.length/\next<=up+1/\∀z∈rsv,z<=dZ rs1
structure Qg where
 blk:Nat
 op:Int
 ref:Nat
 part:Nat
 tl:Option Nat
 cl:Option (Nat×bC×Int)
def dS(p:Option Nat):Value:=.pointer (p.map fun r=>⟨r,0,none⟩)
def iV(E:bX)(o:Ow)(w:World)(cs:List Value):Prop:=∃(a1 a2 a3 a4:Int) (vl vb vc:Value) (dn dm rc lg:Int),cs=[I6 a1,I6 a2,I6 a3,I6 a4,I6 0,.string (aF []),vl,vb,vc,aS,aS,I6 dn,I6 dm,I6 rc,I6 lg]/\A7 o w (fR E) 8000 vl vb vc/\∀z∈[a1,a2,a3,a4,dn,dm,rc,lg],bN z
def Eu(E:bX)(ref:Nat)(d:bC)(rc:Int):Prop:=bN rc/\∃k ck cr,E.K d=some k/\k < ref/\E.cs[k]?=some ck/\E.cs[ref]?=some cr/\cr.op=4/\ck.q=cr.q
def Ev(part:Nat)(d:bC)(rc:Int):Prop:=part < 16/\aO d=true/\bN rc
structure eT(E:bX)(Rf:Nat->Prop)(i:Nat)(o:Ow)(w:World)(g:Qg):Prop where
 own:o g.blk=(i,g.blk)
 part:g.part < 16
 rf:Rf g.ref
 cells:∃(r:Rp) (said:List Value),am w g.blk 207 ([I6 g.op,I6 (g.ref:Nat),I6 (g.part:Nat),dS g.tl,dS (g.cl.map (·.1))]++oM r++said).toArray/\iV E o w said/\(g.tl.isSome=true->fE E i {r with ref:=(g.ref:Nat)})
 tal:∀t,g.tl=some t->eQ o w t (i,t)
 cla:∀c d rc,g.cl=some (c,d,rc)->cM d rc o w c (i,c)/\Eu E g.ref d rc
 one:g.tl.isSome=true->g.cl=none
def lY(ws:List (Int×Qg)):IM:=ws.map fun p=>(p.1,Pt p.2.blk)
structure gy(Rf:Nat->Prop)(ws:List (Int×Qg))(reps:List Rp)(hand:Option Nat):Prop where
 one:∀p∈ws,∀q∈ws,p.2.ref=q.2.ref->p.1=q.1
 rn:(reps.map Rp.ref).Nodup
 wr:∀p∈ws,∀r∈reps,r.ref≠(p.2.ref:Nat)
 rr:∀r∈reps,∃k:Nat,r.ref=k/\Rf k
 hw:∀k,hand=some k->Rf k/\(∀p∈ws,p.2.ref≠k)/\∀r∈reps,r.ref≠(k:Nat)
structure e7(E:bX)(Rf:Nat->Prop)(N:Nb)(B:Nat)(hand:Option Nat)(next:Int)(rsv:List Int)(o:Ow)(w:World):Prop where
 onb:o N.nb=(N.i,N.nb)
 owm:o N.wm=(N.i,N.nb)
 ocm:o N.cm=(N.i,N.nb)
 ne:N.wm≠N.cm
 num:∀x k,E.K x=some k->x.nd=N.i->x.n < next
 rsv1:∀z∈rsv,1<=z/\z < next/\E.K ⟨N.i,z⟩=none
 rsvN:rsv.Nodup
 pos:1<=next/\next<=33554433
 all:∃(dead:Bool) (vr vl:Value) (reps:List Rp) (lets:List Lt) (ws:List (Int×Qg)) (qc:IM),
  am w N.nb 92 #[Pt N.lg,Pt N.st,I6 N.c1,I6 N.c2,I6 N.c3,I6 N.c4,I6 N.c5,I6 5,I6 next,.bool dead,.map (some N.wm),Pt N.due,.map (some N.cm),Pt N.hd,Pt N.wt,vr,vl]/\
  cZ cW o (N.i,N.nb) w vr reps/\cZ cY o (N.i,N.nb) w vl lets/\lets.length<=B/\(∀r∈reps,fE E N.i r)/\(∀l∈lets,el E l.b)/\gy Rf ws reps hand/\
  b4 w N.wm (lY ws)/\(∀p∈ws,bN p.1/\eT E Rf N.i o w p.2)/\b4 w N.cm qc/\∀p∈qc,∃c part d rc,p.2=.agg #[Pt c,I6 (part:Nat)]/\Ev part d rc/\cM d rc o w c (N.i,c)
structure aE(E:bX)(Rf:Nat->Prop)(N:Nb)(T B:Nat)(hand:Option Nat)(rsv:List Int)(o:Ow)(w:World):Prop where
 fin:aX o w
 i0:N.i≠0
 i9:N.i<=8
 tab:eN N.tv w/\o 1=(0,0)
 kok:pB E
 cs:E.cs.length<=100000/\∀k,Rf k->∃c,E.cs[k]?=some c/\c.nd=N.i
 due:∃n,n<=4096/\ek n o w N.due (N.i,N.due)
 hd:eR o w N.hd (N.i,N.hd)
 wt:T<=1000000/\ee T o w N.wt (N.i,N.wt)
 cfg:0<=N.c2/\0<=N.c1/\bN N.c3
 rest:∃next,gx E N next rsv o w/\e7 E Rf N B hand next rsv o w
def dK(w:World)(r:Nat)(t:TypeId):Prop:=∃cs,am w r t cs
theorem dK.ne{w}{r:Nat}{b:TypeId}(h:dK w r t)(a:dK w k b)(c:t≠b):r≠k:=by
 obtain⟨_,h⟩:=h;obtain⟨_,a⟩:=a;exact aT h a c
theorem cM.ty{d}{o}{w}{r:Nat}{x}(h:cM d rc o w r x):dK w r 330:=by obtain⟨_,_,_,_,_,_,_,_,_,h,_⟩:=h;exact⟨_,h⟩
theorem eQ.ty{o}{w}{r:Nat}{x}(h:eQ o w r x):dK w r 297:=by obtain⟨_,_,_,_,_,_,h,_⟩:=h;exact⟨_,h⟩
theorem ee.ty{o}{w}{r:Nat}{x}(h:ee T o w r x):dK w r 195:=by obtain⟨_,_,_,_,_,_,_,_,_,_,h,_⟩:=h;exact⟨_,h⟩
theorem eR.ty{o}{w}{r:Nat}{x}(h:eR o w r x):dK w r 185:=by obtain⟨_,_,_,_,_,h,_⟩:=h;exact⟨_,h⟩
theorem ek.ty{o}{w}{r:Nat}{x}(h:ek n o w r x):dK w r 181:=by
 obtain⟨_,h|h⟩:=h
 ·obtain⟨_,_,_,_,_,h,_⟩:=h;exact⟨_,h⟩
 ·obtain⟨_,_,_,_,_,_,h,_⟩:=h;exact⟨_,h.box⟩
theorem dF.ty{M:Mg->Prop}{o}{w}{x}(h:dF M n id up o w s x):dK w s 188:=by obtain⟨_,_,h,_⟩:=h;exact⟨_,h⟩
theorem ez.ty{w}{l a:Nat}{br:Bool}(h:ez w l a br):dK w l 177:=by obtain⟨_,_,h⟩:=h;exact⟨_,h⟩
theorem bS.ty{w}{d:Dk}(h:bS w g d):dK w g 95:=⟨_,h⟩
theorem cM.same{d d'}{rc':Int}{o}{w}{r:Nat}{x y}(h:cM d rc o w r x)(c:cM d' rc' o w r y):d=d'/\rc=rc':=by
 obtain⟨_,_,_,_,_,_,_,_,_,h,_⟩:=h;obtain⟨_,_,_,_,_,_,_,_,_,c,_⟩:=c;unfold am at h c;rw[h]at c;injection c with c;injection c with c;have f:=congrArg (fun a:Array Value=>a[0]?) c;have g:=congrArg (fun a:Array Value=>a[1]?) c;have i:=congrArg (fun a:Array Value=>a[2]?) c;simp at f g i;obtain⟨a,b⟩:=d;obtain⟨j,k⟩:=d';simp at f g ⊢;exact⟨⟨f,g⟩,i⟩
section
variable{N:Nb}{r:Nat}
structure Ew(N:Nb)(w:World):Prop where
 nb:dK w N.nb 92
 lg:dK w N.lg 177
 dk:dK w N.dk 95
 st:dK w N.st 188
 due:dK w N.due 181
 hd:dK w N.hd 185
 wt:dK w N.wt 195
theorem aE.roots(h:aE E Rf N T B hand rsv o w):Ew N w:=by
 obtain⟨next,⟨_,_,_,_,_,_,_,_,a,b,_,c,_⟩,f⟩:=h.rest;obtain⟨_,_,_,_,_,_,_,g,_⟩:=f.all;obtain⟨n,_,i⟩:=h.due;exact⟨⟨_,g⟩,a.ty,b.ty,c.ty,i.ty,h.hd.ty,h.wt.2.ty⟩
theorem aV{a:Nat}(h:a≠b):¬((i,a)=(i,b)):=fun e=>h (by injection e)
theorem ci{r:Nat}(h:i≠0):¬((0,0)=(i,r)):=fun e=>h (by injection e with e;exact e.symm)
structure cN(i:Nat)(o:Ow)(w:World)(o':Ow)(w':World):Prop where
 tal:∀t,eQ o w t (i,t)->eQ o' w' t (i,t)
 cla:∀d rc c,cM d rc o w c (i,c)->cM d rc o' w' c (i,c)
 que:∀b cs,o b=(i,b)->am w b 207 cs->o' b=(i,b)/\am w' b 207 cs
theorem vK(a:St (·=(i,r)) o w o' w')(c:dK w r t)(f:t≠207):∀b cs,o b=(i,b)->am w b 207 cs->o' b=(i,b)/\am w' b 207 cs:=
 fun b cs ho hb=>⟨by rw[a.old _ (ap hb)];exact ho,hb.st a (by rw[ho];exact aV (dK.ne ⟨cs,hb⟩ c f.symm))⟩
theorem cN.an(a:St (·=(i,r)) o w o' w')(b:dK w r t)(f:t≠297)(g:t≠330)(j:t≠207):cN i o w o' w':=
 ⟨fun k h=>h.st a (aV (h.ty.ne b f.symm)),fun d rc c h=>h.st a (aV (h.ty.ne b g.symm)),vK a b j⟩
theorem cN.de(a:St (·=(i,r)) o w o' w')(b:eQ o w r (i,r))(f:eQ o' w' r (i,r)):cN i o w o' w':=
 ⟨fun k h=>by
  by_cases e:k=r
  ·subst e;exact f
  ·exact h.st a (aV e),fun d rc c h=>h.st a (aV (h.ty.ne b.ty (by decide))),vK a b.ty (by decide)⟩
theorem cN.cn{d}(a:St (·=(i,r)) o w o' w')(b:cM d rc o w r (i,r))(f:cM d rc o' w' r (i,r)):cN i o w o' w':=
 ⟨fun k h=>h.st a (aV (h.ty.ne b.ty (by decide))),fun d' rc' c h=>by
  by_cases e:c=r
  ·subst e
   obtain⟨rfl,rfl⟩:=h.same b
   exact f
  ·exact h.st a (aV e),vK a b.ty (by decide)⟩
theorem iV.st{p}{cs}(h:iV E o w cs)(a:St p o w o' w')(b:¬p (0,0)):iV E o' w' cs:=by
 obtain⟨a1,a2,a3,a4,vl,vb,vc,dn,dm,rc,lg,e,c,hi⟩:=h;exact⟨a1,a2,a3,a4,vl,vb,vc,dn,dm,rc,lg,e,c.st a b,hi⟩
theorem eT.st{p}{g:Qg}(h:eT E Rf i o w g)(f:St p o w o' w')(j:¬p (0,0))(a:cN i o w o' w'):eT E Rf i o' w' g:=by
 obtain⟨r,b,k,m,n⟩:=h.cells;obtain⟨q,s⟩:=a.que _ _ h.own k;exact⟨q,h.part,h.rf,⟨r,b,s,m.st f j,n⟩,fun t e=>a.tal t (h.tal t e),fun c d rc e=>⟨a.cla d rc c (h.cla c d rc e).1,(h.cla c d rc e).2⟩,h.one⟩
theorem e7.st{p}(h:e7 E Rf N B hand next rsv o w)(a:St p o w o' w')(n:¬p (0,0))(b:¬p (N.i,N.nb))(g:cN N.i o w o' w'):e7 E Rf N B hand next rsv o' w':=by
 obtain⟨dead,vr,vl,reps,lets,ws,qc,i,s,t,u,x,y,z,j,k,f,m⟩:=h.all;refine⟨by rw[a.old _ (ap i)];exact h.onb,by rw[a.old _ j.lt];exact h.owm,by rw[a.old _ f.lt];exact h.ocm,h.ne,h.num,h.rsv1,h.rsvN,h.pos,dead,vr,vl,reps,lets,ws,qc,i.st a (by rw[h.onb];exact b),s.st a b,t.st a b,u,x,y,z,
  j.st a (by rw[h.owm];exact b),fun q hq=>⟨(k q hq).1,(k q hq).2.st a n g⟩,f.st a (by rw[h.ocm];exact b),fun q hq=>?_⟩
 obtain⟨c,part,d,rc,A,C,D⟩:=m q hq;exact⟨c,part,d,rc,A,C,g.cla d rc c D⟩
theorem gx.st{p}(h:gx E N next rsv o w)(a:St p o w o' w')(f:¬p (0,0))(g:¬p (N.i,N.lg))(i:¬p (N.i,N.dk))(j:¬p (N.i,N.st)):gx E N next rsv o' w':=by
 obtain⟨b,c,br,d,rs1,rs2,up,n,a1,a2,a3,a4,a5⟩:=h;obtain⟨k,n2,a1⟩:=a1;exact⟨by rw[a.old _ (ap a1)];exact b,by rw[a.old _ (ap a2)];exact c,br,d,rs1,rs2,up,n,⟨k,n2,a1.st a (by rw[b];exact g)⟩,am.st a2 a (by rw[c];exact i),a3,a4.st a j f,a5⟩
theorem eN.st{tv:Nat->Int}{p}(h:eN tv w/\o 1=(0,0))(a:St p o w o' w')(b:¬p (0,0)):eN tv w'/\o' 1=(0,0):=
 ⟨h.1.kept (a.block 1 h.1.lt (by rw[h.2];exact b)),by rw[a.old 1 h.1.lt];exact h.2⟩
theorem aE.aj(h:aE E Rf N T B hand rsv o w)(f:St (·=(N.i,r)) o w o' w')(a:N.due≠r\/∃n,n<=4096/\ek n o' w' N.due (N.i,N.due))(b:N.hd≠r\/eR o' w' N.hd (N.i,N.hd))
  (c:(N.wt≠r/\T'=T)\/(T'<=1000000/\ee T' o' w' N.wt (N.i,N.wt))) (k:N.lg≠r) (hd:N.dk≠r) (i:N.st≠r) (m:N.nb≠r) (p:cN N.i o w o' w'):aE E Rf N T' B hand rsv o' w':=by
 have g:=ci (r:=r) h.i0;obtain⟨n,j,q⟩:=h.due;obtain⟨next,s,t⟩:=h.rest;refine⟨f.far,h.i0,h.i9,eN.st h.tab f g,h.kok,h.cs,?_,?_,?_,h.cfg,next,s.st f g (aV k) (aV hd) (aV i),t.st f g (aV m) p⟩
 ·rcases a with a|a
  ·exact⟨n,j,q.st f (aV a)⟩
  ·exact a
 ·rcases b with b|b
  ·exact h.hd.st f (aV b)
  ·exact b
 ·rcases c with⟨c,rfl⟩|c
  ·exact⟨h.wt.1,h.wt.2.st f (aV c) g⟩
  ·exact c
theorem aE.due_(h:aE E Rf N T B hand rsv o w)(a:St (·=(N.i,N.due)) o w o' w')(b:n<=4096)(c:ek n o' w' N.due (N.i,N.due)):aE E Rf N T B hand rsv o' w':=by
 have R:=h.roots;exact h.aj a (.inr ⟨n,b,c⟩) (.inl (R.hd.ne R.due (by decide))) (.inl ⟨R.wt.ne R.due (by decide),rfl⟩) (R.lg.ne R.due (by decide)) (R.dk.ne R.due (by decide)) (R.st.ne R.due (by decide)) (R.nb.ne R.due (by decide)) (.an a R.due (by decide) (by decide) (by decide))
theorem aE.hd_(h:aE E Rf N T B hand rsv o w)(a:St (·=(N.i,N.hd)) o w o' w')(b:eR o' w' N.hd (N.i,N.hd)):aE E Rf N T B hand rsv o' w':=by
 have R:=h.roots;exact h.aj a (.inl (R.due.ne R.hd (by decide))) (.inr b) (.inl ⟨R.wt.ne R.hd (by decide),rfl⟩) (R.lg.ne R.hd (by decide)) (R.dk.ne R.hd (by decide)) (R.st.ne R.hd (by decide)) (R.nb.ne R.hd (by decide)) (.an a R.hd (by decide) (by decide) (by decide))
theorem aE.ds(h:aE E Rf N T B hand rsv o w)(a:St (·=(N.i,N.wt)) o w o' w')(b:T'<=1000000)(c:ee T' o' w' N.wt (N.i,N.wt)):aE E Rf N T' B hand rsv o' w':=by
 have R:=h.roots;exact h.aj a (.inl (R.due.ne R.wt (by decide))) (.inl (R.hd.ne R.wt (by decide))) (.inr ⟨b,c⟩) (R.lg.ne R.wt (by decide)) (R.dk.ne R.wt (by decide)) (R.st.ne R.wt (by decide)) (R.nb.ne R.wt (by decide)) (.an a R.wt (by decide) (by decide) (by decide))
theorem aE.tal_(h:aE E Rf N T B hand rsv o w){t:Nat}(a:eQ o w t (N.i,t))(b:St (·=(N.i,t)) o w o' w')(c:eQ o' w' t (N.i,t)):aE E Rf N T B hand rsv o' w':=by
 have R:=h.roots;exact h.aj b (.inl (R.due.ne a.ty (by decide))) (.inl (R.hd.ne a.ty (by decide))) (.inl ⟨R.wt.ne a.ty (by decide),rfl⟩) (R.lg.ne a.ty (by decide)) (R.dk.ne a.ty (by decide)) (R.st.ne a.ty (by decide)) (R.nb.ne a.ty (by decide)) (.de b a c)
theorem aE.cx(h:aE E Rf N T B hand rsv o w){d}(a:cM d rc o w c (N.i,c))(b:St (·=(N.i,c)) o w o' w')(f:cM d rc o' w' c (N.i,c)):aE E Rf N T B hand rsv o' w':=by
 have R:=h.roots;exact h.aj b (.inl (R.due.ne a.ty (by decide))) (.inl (R.hd.ne a.ty (by decide))) (.inl ⟨R.wt.ne a.ty (by decide),rfl⟩) (R.lg.ne a.ty (by decide)) (R.dk.ne a.ty (by decide)) (R.st.ne a.ty (by decide)) (R.nb.ne a.ty (by decide)) (.cn b a f)
theorem aE.keep{p}(h:aE E Rf N T B hand rsv o w)(a:St p o w o' w')(g:¬p (0,0))(f:∀r,¬p (N.i,r)):aE E Rf N T B hand rsv o' w':=by
 obtain⟨n,i,j⟩:=h.due;obtain⟨next,m,q⟩:=h.rest;exact⟨a.far,h.i0,h.i9,eN.st h.tab a g,h.kok,h.cs,⟨n,i,j.st a (f _)⟩,h.hd.st a (f _),⟨h.wt.1,h.wt.2.st a (f _) g⟩,h.cfg,next,m.st a g (f _) (f _) (f _),q.st a g (f _) ⟨fun t k=>k.st a (f _),fun d rc c k=>k.st a (f _),fun b cs ho hb=>⟨by rw[a.old _ (ap hb)];exact ho,hb.st a (by rw[ho];exact f _)⟩⟩⟩
theorem aE.below(h:aE E Rf N T B hand rsv o w)(a:Below w.heap.size w w'):aE E Rf N T B hand rsv o w':=h.keep (p:=fun _=>False) (.J a h.fin) id (fun _=>id)
end
structure Gr where
 a:Option Addr
 n:Nat
 c:Nat
def Gr.v(x:Gr):Value:=.slice x.a x.n x.c
def j2:El Gr where
 ty:=34
 sl:=79
 s:=1
 bytes:=24
 z:=aS
 f d:=[.slice d.a d.n d.c]
 und:=underlying79
 info:=by kernel_rfl
 zs:=rfl
 pos:=by decide
 len _:=rfl
 one d u hu:=by simp at hu;subst hu;rfl
def tA(o:Ow)(w:World)(v:Value):Prop:=∃gs:List Gr,RI j2 o w v gs/\gs.length<=1000/\∀x∈gs,∃l:List Int,RI aC o w x.v l/\l.length<=1000
def dO(E:bX)(o:Ow)(w:World)(g:Nat)(x:Nat×Nat):Prop:=o g=x/\∃vl vg ls,am w g 82 #[vl,vg]/\RI cY o w vl ls/\ls.length<=10000/\(∀l∈ls,el E l.b)/\tA o w vg
section
variable{v:Value}{ls:List Lt}
theorem tA.st(h:tA o w v)(a:St p o w o' w')(b:¬p (0,0)):tA o' w' v:=by
 obtain⟨c,f,g,i⟩:=h;exact⟨c,f.st a b,g,fun y hy=>by obtain⟨l,j,k⟩:=i y hy;exact⟨l,j.st a b,k⟩⟩
theorem tA.nil o w:tA o w (aS):=⟨[],RI.nil o w,by simp,fun y hy=>by cases hy⟩
theorem dO.st(h:dO E o w g x)(a:St p o w o' w')(b:¬p (0,0))(i:¬p x):dO E o' w' g x:=by
 obtain⟨c,vl,vg,ls,f,j,k,m,n⟩:=h;exact⟨by rw[a.old _ (ap f)];exact c,vl,vg,ls,f.st a (by rw[c];exact i),j.st a b,k,m,n.st a b⟩
theorem dO.below(h:dO E o w g x)(a:Below w.heap.size w w')(hf:aX o w):dO E o w' g x:=h.st (p:=fun _=>False) (.J a hf) _root_.id _root_.id
theorem dO.env(h:dO E o w g x)(a:E.Le E'):dO E' o w g x:=by
 obtain⟨b,vl,vg,ls,c,f,i,j,k⟩:=h;exact⟨b,vl,vg,ls,c,f,i,fun l hl'=>(j l hl').mono a,k⟩
theorem dO.ty(h:dO E o w g x):dK w g 82:=by obtain⟨_,_,_,_,h,_⟩:=h;exact⟨_,h⟩
def Fb(E:bX)(o:Ow)(w:World)(g:Nat)(x:Nat×Nat)(R:Ending->World->Prop)(e:Ending)(w':World):Prop:=R e w'/\dO E o w' g x/\aW g w w'
theorem dO.letters{v'}{a:List Lt}(i:o g=x)(k:x≠(0,0))(hf:aX o w)(m:am w g 82 #[vl,vg])(n:tA o w vg)(b:Below w.heap.size w w1)(p:RI cY o w1 v' a)(q:a.length<=10000)(j:∀l∈a,el E l.b):
  dO E o (w1.setCell ⟨g,0,none⟩ v') g x/\aW g w (w1.setCell ⟨g,0,none⟩ v'):=by
 have c:St (·=x) o w o w1:=.J b hf;have f:St (·=x) o w1 o (w1.setCell ⟨g,0,none⟩ v'):=.U (aB w1 g 0 v') i c.far;have h:¬((0,0)=x):=fun e=>k e.symm;exact⟨⟨i,v',vg,a,am.I (m.below b) 0 v',p.st f h,q,j,(n.st c h).st f h⟩,aA (aG b) (aB w1 g 0 v')⟩
end
theorem RI.clipped{E:El α}{o}{A A'}{t:List α}(h:RI E o w (.slice A l.length c) l)(hf:aX o w)(j:fM w1 E.ty E.s A' (l.length+t.length) (E.cells l++E.cells t))(k:l.length+t.length<=f)
  (g:(A'=A/\t.length=0)\/A'=some ⟨w.heap.size,0,none⟩):RI E o w1 (.slice A' (l++t).length f) (l++t):=by
 refine⟨⟨A',f,rfl,by simpa using k,by rw[E.al,zC];exact j⟩,fun a n c2 e hn=>?_⟩;injection e with e1 e2 e3;rcases g with⟨b,m⟩|b
 ·subst b;have i:0 < l.length:=by simp at e2;omega
  exact h.2 a _ _ (by rw[e1]) i
 ·rw[e1]at b;injection b with b;rw[b];exact hf _ nR
section
open Go.Sort (flatK get_flatK HoldsK putRowK)
theorem zx(base:Nat)(v:Value)(l:List Sp)(w:World)(h:aK bH base w v l)(p:l.length < 4611686018427387904):
  Cs 321 #[v,.func (.func 322) #[] #[]] w fun e w'=>Rt e (.tuple #[])/\∃m,m.Perm l/\aK bH base w' v m/\w.grownBy w' v.ownBlock:=by
 rcases qK l.length with h0|h0
 ·obtain⟨A,c,rfl,z⟩:=bV h;have s:=h;rw[h0];refine(Tryz.slices_SortFunc_none_f321 (α:=Sp) A c _ w).mono ?_;rintro e w' ⟨rfl,rfl⟩;exact⟨rfl,l,List.Perm.refl _,by rw[<-h0];exact s,jQ _ _⟩
 ·obtain⟨g,cap,sp,rfl,t,f,i,u,j⟩:=h.af h0;refine(Tryz.slices_SortFunc_total_f321 (α:=Sp) 2 (fun w=>Tryz.isAgg300 w) (fun w=>Tryz.sizeOf300 w) bH.f (fun _=>rfl) bH.one rU Gz 322 #[] g 0 cap l.toArray w (aQ func322 (by kernel_rfl) (by kernel_rfl)) ?_ (k1 bH f) (ap f) (by simpa using p) ?_).mono ?_
  ·intro m os B _ x y;exact(qg x.at_ x.nd y.at_ y.nd _).mono fun e w' ⟨he,q,os',hw⟩=>⟨he,q,os',hw⟩
  ·intro x y a b;unfold ltOf rU at a b;rw[iL]at a b;simp at a b;obtain⟨C,D⟩:=x;obtain⟨F,G⟩:=y;simp at a b ⊢;omega
  ·rintro e w' ⟨rfl,n,os,rfl⟩;have k:(l.mergeSort fun x y=>!(ltOf rU) y x).Perm l:=yQ _ _;obtain⟨a,b⟩:=iM bH (n:=n) (os:=os) (m:=l.mergeSort fun x y=>!(ltOf rU) y x) f t i u j k.length_eq;exact⟨rfl,_,k,a,b⟩
def CB(a b:Pe):Int:=cH a.id b.id
theorem GC:Sort.SWO (ltOf CB):=by
 have a:∀x y:Pe,ltOf CB x y=decide (x.id < y.id):=fun x y=>by
  unfold ltOf CB cH;rw[Bool.eq_iff_iff];simp;split<;>(try split)<;>omega
 constructor
 ·intro x;rw[a];simp
 ·intro x y z b c;rw[a]at*;simp at*;omega
 ·intro x y z b c;rw[a]at*;simp at*;omega
theorem q4(a b:Pe) w:
  Cs 197 #[.agg #[I6 a.id,I6 a.inc,I6 a.st],.agg #[I6 b.id,I6 b.inc,I6 b.st]] w fun e w'=>Rt e (I6 (CB a b))/\e1 w w':=by
 obtain⟨W0,c⟩:=nM ((w.alloc (.cells #[I6 a.id,I6 a.inc,I6 a.st] 121)).alloc (.cells #[I6 b.id,I6 b.inc,I6 b.st] 121));have h:Hid (e1 w W0):=aH (by rw[<-c];exact((e1.refl _).alloc _).alloc _);obtain⟨_,f,g⟩:=tK w #[I6 a.id,I6 a.inc,I6 a.st] #[I6 b.id,I6 b.inc,I6 b.st] 121 121;rw[c]at f g;obtain⟨a0,a1,a2⟩:=am.three f;obtain⟨j,k,m⟩:=am.three g;have i:=aH (fun w=>Tryz.cmp_Compare_int a.id b.id w);apply cI;go_in;go_upto_region 1 with(fail);simp only[c.out];go_wp2_with fail;refine(i _).mono ?_;rintro n p ⟨rfl,rfl⟩;go_wp2;go_ret;exact⟨rfl,h⟩
theorem zz(base:Nat)(v:Value)(l:List Pe)(w:World)(h:aK aL base w v l)(p:l.length < 4611686018427387904):
  Cs 298 #[v,.func (.func 197) #[] #[]] w fun e w'=>Rt e (.tuple #[])/\∃m,m.Perm l/\aK aL base w' v m/\w.grownBy w' v.ownBlock:=by
 rcases qK l.length with h0|h0
 ·obtain⟨A,c,rfl,F⟩:=bV h;have s:=h;rw[h0];refine(Tryz.slices_SortFunc_none_f298 (α:=Pe) A c _ w).mono ?_;rintro e w' ⟨rfl,rfl⟩;exact⟨rfl,l,List.Perm.refl _,by rw[<-h0];exact s,jQ _ _⟩
 ·obtain⟨g,cap,sp,rfl,t,b,f,u,i⟩:=h.af h0;refine(Tryz.slices_SortFunc_f298 (α:=Pe) 3 (fun w=>Tryz.isAgg121 w) (fun w=>Tryz.sizeOf121 w) aL.f (fun _=>rfl) aL.one CB GC 197 #[] g 0 cap l.toArray w (aQ func197 (by kernel_rfl) (by kernel_rfl)) ?_ (k1 aL b) (ap b) (by simpa using p)).mono ?_
  ·intro m os G _ x y;exact(q4 x y _).mono fun e w' ⟨he,q,os',hw⟩=>⟨he,q,os',hw⟩
  ·rintro e w' ⟨rfl,d',n,os,⟨j,_,a⟩,_,rfl⟩;have k:d'.toList.Perm l:=by
    have z:(d'.extract 0 l.toArray.size).toList=d'.toList:=by rw[<-j];simp
    have B:(l.toArray.extract 0 l.toArray.size).toList=l:=by simp
    rw[z,B]at a;exact a
   obtain⟨C,D⟩:=iM aL (n:=n) (os:=os) (m:=d'.toList) b t f u i k.length_eq;exact⟨rfl,_,k,C,D⟩
end
theorem ll(tv:Nat->Int)(s:List UInt8) w(ht:eN tv w)(hl:s.length<=1000000000):Cs 270 #[.string (aF s)] w fun e w'=>(∃k:Nat,k < 16/\Rt e (I6 (k:Nat)))/\w=w':=by
 have a:=aH (xU tv s w ht hl);have b:=q2 tv s;generalize j1 tv s=z at a b;obtain⟨n,rfl⟩:∃n:Nat,z=n:=⟨z.toNat,by omega⟩;apply cI;go_in;go_wp2_with fail;refine a.mono ?_;rintro c f ⟨rfl,rfl⟩;go_wp2;go_ret;exact⟨⟨n % 16,by omega,by first|rfl|(congr 2)⟩,rfl⟩
theorem xW(n m:Int)(k:Int)(a:IntKind.i64.wrap (m - 1)=k) w:Cs 319 #[I6 n,I6 m] w fun e w'=>Rt e (I6 (bits .and .i64 n k))/\w=w':=by
 apply cI;go_in;go_wp2;go_ret;rw[<-a];exact⟨rfl,rfl⟩
def iW(n:Int):Int:=bits .and .i64 n 15*4096
theorem CC(n:Int) w:Cs 219 #[I6 n] w fun e w'=>Rt e (I6 (iW n))/\w=w':=by
 have a:=aH (xW n 16 15 (zZ _ (by omega)) w);have b:Hid (iW n=bits .and .i64 n 15*4096):=aH rfl;obtain⟨k,f,c⟩:=FV n;rw[c]at a b;have g:IntKind.i64.wrap ((k:Int)*4096)=(k:Int)*4096:=zZ _ (by omega);apply cI;go_in;go_wp2_with fail;refine a.mono ?_;rintro h i ⟨rfl,rfl⟩;go_wp2;go_ret;exact⟨by rw[b];rfl,rfl⟩
theorem vL(t:Sp)(b:Nat)(part:Int)(w:World)(f:Ce w b 0 (I6 part)):Cs 218 #[.agg #[I6 t.at_,I6 t.nd],Pt b] w fun e w'=>Rt e (.bool (decide (iW part<=t.at_)))/\Below w.heap.size w w':=by
 obtain⟨W0,g,a,h⟩:=dW w #[I6 t.at_,I6 t.nd] 300;obtain⟨a0,a1⟩:=am.two h;have i:=aD a f;have c:=aH (fun W=>CC part W);generalize iW part=z at c;apply cI;go_in;go_upto_region 1 with(fail);simp only[g.out];go_region_held3 (fun w'=>Ce w' w.heap.size 0 (I6 t.at_)/\Ce w' b 0 (I6 part)) (first|exact⟨a0,i⟩|assumption) (first|(go_at_call 219;(with_reducible refine(c.out _).mono ?_);rintro j k ⟨rfl,rfl⟩));all_goals
  go_wp2;go_ret;exact⟨rfl,a.drew⟩
theorem vM(id:Int) w:Cs 320 #[I6 id] w (b6 bH w 4 fun _=>True):=by
 have g:∀W:World,(Instr.makeSlice 219 (I6 4) (I6 4)).run prog W=.ok (.slice (some ⟨W.heap.size,0,none⟩) 4 4) (W.alloc (.cells (bH.cells [⟨0,0⟩,⟨0,0⟩,⟨0,0⟩,⟨0,0⟩]).toArray 300)):=fun W=>by
  obtain⟨D,hi,s,h,u⟩:=info_parts bH.info;have:=run_makeSlice (P:=prog) W 219 300 D _ underlying219 hi s .i64 .i64 4 4 (by omega) (by omega) (by rw[h];decide) (by rw[u];decide) (by omega);rw[h]at this;have e:madeCells bH.z.cells (Int.toNat 4*bH.s)=(bH.cells [⟨0,0⟩,⟨0,0⟩,⟨0,0⟩,⟨0,0⟩]).toArray:=by kernel_rfl
  rw[e]at this;exact this
 have i:=aK.cf (E:=bH) (l:=[⟨0,0⟩,⟨0,0⟩,⟨0,0⟩,⟨0,0⟩]) (sp:=[]) (cap:=4) (by rw[qU];exact aR.new w (bH.cells [⟨0,0⟩,⟨0,0⟩,⟨0,0⟩,⟨0,0⟩]) 300) nR (by decide) (by decide) (by decide);have m:=ba w (.cells (bH.cells [⟨0,0⟩,⟨0,0⟩,⟨0,0⟩,⟨0,0⟩]).toArray 300);obtain⟨R,x⟩:=nM (w.alloc (.cells (bH.cells [⟨0,0⟩,⟨0,0⟩,⟨0,0⟩,⟨0,0⟩]).toArray 300));have p:=g w;rw[x]at i m p;obtain⟨F,G,y⟩:=gC i m (fun n W=>xW n 65536 65535 (zZ _ (by omega)) W);clear i m g;apply cI;go_in;go_wp2_with fail;go_loopw[8] (fun vi wr=>∃(k:Nat) (l:List Sp),k<=4/\vi=I6 k/\Bw w wr/\aK bH w.heap.size wr (.slice (some ⟨w.heap.size,0,none⟩) 4 4) l/\l.length=4) (fun vi _=>4 - (intOf vi).toNat)
 case atStart=>exact⟨0,_,by omega,rfl,G,F,rfl⟩
 case round=>
  obtain⟨k,l,S,rfl,q,c,z⟩:=hrel;obtain⟨A,B⟩:=gB q c;by_cases hlt:k < 4
  ·have b:k < l.length:=by omega
   obtain⟨sp,f,-⟩:=aK.ar (E:=bH) c (by omega) rfl;have a:=aR.at_ (E:=bH) f (zA b);have H:Ce wr w.heap.size (k*2) (I6 l[k].at_):=by have:=a 0 _ rfl;simpa[bH]using this
   have c1:Ce wr w.heap.size (k*2+1) (I6 l[k].nd):=by have:=a 1 _ rfl;simpa[bH]using this
   generalize l[k]=t at H c1;have T:=fun j=>aK.cc (E:=bH) c (by omega) rfl j;have C:=aH (zB z b);clear a q c f z b;go_wp2_with fail;refine(y _ _).mono ?_;rintro I J ⟨rfl,rfl⟩;generalize bits .and .i64 id 65535=z1;obtain⟨a1,L⟩:=nx (IntKind.i64.wrap (z1*40503));obtain⟨a2,M⟩:=nx (IntKind.i64.wrap ((k:Int)*25717));obtain⟨a3,N⟩:=nx (IntKind.i64.wrap (a1+a2));obtain⟨a4,O⟩:=nx (IntKind.i64.wrap (a3+12345));go_wp2_with fail;refine(y _ _).mono ?_;rintro I J ⟨rfl,rfl⟩;generalize bits .and .i64 _ 65535=z2;go_wp2_with fail;go_roundw
   case rel=>exact⟨k+1,_,by omega,by go_num,(A.setCell nR _).setCell nR _,aK.ax (E:=bH) B C.2 ⟨_,id⟩ rfl rfl rfl,by simpa using C.out.1⟩
   case measure=>simp[intOf];omega
  ·clear q c;go_wp2_with fail;go_ret;exact⟨l,⟨_,rfl,B,A⟩,by omega,fun _ _=>trivial⟩
theorem CD{v}{l:List Int} w(h:Rw aC w v l)(hl:l.length<=64):Cs 220 #[v] w (b6 bH w 256 fun _=>True):=by
 obtain⟨A,c,rfl,_⟩:=h.slice;have H:=aH h;apply cI;go_in;go_wp2_with fail;go_loopw[3,8] (fun vo vi wr=>∃(k:Nat) (n:List Sp),k<=l.length/\vi=I6 k/\Bw w wr/\aK bH w.heap.size wr vo n/\n.length<=4*k) (fun vo vi _=>l.length - (intOf vi).toNat)
 case atStart=>exact⟨0,[],by omega,rfl,bR _,aK.nil _ _,by simp⟩
 case round=>
  obtain⟨k,n,hk,rfl,B,C,ha⟩:=hrel;obtain⟨G,I⟩:=gB B C;have s:=B.size;by_cases hlt:k < l.length
  ·obtain⟨g,U,rfl,x⟩:=(H.below B).at_ (zA hlt);have V:Ce wr g (U+k) (I6 l[k]):=by have:=x 0 _ rfl;simpa[aC]using this
   generalize l[k]=t at V;have D:=aH (vM t wr);go_wp2_with fail;refine D.mono ?_;rintro J w3 ⟨y,⟨v3,rfl,q,u⟩,hc,_⟩;have z:=aH u;have b:=aI I u;have X:=aH b;have p:=q.rw;have i:w.heap.size<=w3.heap.size:=zD s u.size;obtain⟨L,M,rfl,_⟩:=(aK.rw (E:=bH) b).slice;obtain⟨hd,he,rfl,_⟩:=p.slice;have N:(n.length+y.length)*bH.bytes<=140737488355328:=by show(n.length+y.length)*16<=_;omega
   have O:n.length+y.length < 1000000000000000000:=by omega
   go_wp2_with (at_builtin;refine eP bH rfl (.tmp 12) (.tmp 14) rfl b i rfl rfl p N O ?_;intro v' w6 f a F;have Y:=aH (zB f a);clear f a b p F);obtain⟨f,a⟩:=Y.out;obtain⟨Z,G5⟩:=gB ((G.trans (z.mono s)).grown a i (fun j e=>(aK.lt (E:=bH) X j e).1)) f;go_wp2_with fail;go_roundw
   case rel=>exact⟨k+1,n++y,by omega,by go_num,Z,G5,by simp;omega⟩
   case measure=>simp[intOf];omega
  ·obtain⟨L,M,rfl,_⟩:=(aK.rw (E:=bH) C).slice;have D:=aH (zx w.heap.size _ n wr C (by omega));go_wp2_with fail;refine D.mono ?_;rintro J w3 ⟨rfl,m,hm,q,R⟩;have hf:=hm.length_eq;have z:=aH (G.grown R s (fun j e=>(aK.lt (E:=bH) I j e).1));have i:w.heap.size<=w3.heap.size:=z.size;obtain⟨HD,O3⟩:=gB (qj w.heap.size _ m w3 q (by omega)) q;go_wp2_with fail;refine HD.mono ?_;rintro J w4 ⟨v4,m4,rfl,S,_,hg,T⟩;obtain⟨G4,B4⟩:=gB S (z.grown T i (fun j e=>(aK.lt (E:=bH) O3 j e).1));go_wp2_with fail;go_ret;exact⟨m4,⟨_,rfl,G4,B4⟩,by omega,fun _ _=>trivial⟩
theorem Rw.df{β:Type}{E:El α}{E':El β}{v:Value}{f:List β}(h:Rw E w v l)(i:w.grownBy w' v2.ownBlock)(j:aK E' base w v2 f)(b:E.ty≠E'.ty):Rw E w' v l:=by
 obtain⟨A,c,rfl,m,n⟩:=h;refine⟨A,c,rfl,m,n.keep fun k hk ⟨cur,hcur⟩=>i.block k hk fun e=>?_⟩;rcases j.2 with⟨a,_⟩|⟨g,cap,p,a,_,q,_⟩
 ·rw[a]at e;simp[Value.ownBlock]at e
 ·rw[a]at e;simp[Value.ownBlock]at e;subst e;rw[q]at hcur;injection hcur with hcur;injection hcur with _ ht;exact b ht.symm
theorem oA(part:Int){v}{l:List Sp} w(h:Rw bH w v l)(hl:l.length<=1000):Cs 125 #[v,I6 part] w (b6 aC w 1000 fun _=>True):=by
 obtain⟨A,c,rfl,_⟩:=h.slice;obtain⟨W0,HW,D,O⟩:=dW w #[I6 part] 3;obtain⟨H,X1,R⟩:=gC (h.below D) O (tW 218 #[Pt w.heap.size] (fun t=>decide (iW part<=t.at_)) A c l W0 (h.below D) (by omega) (aQ func218 (by kernel_rfl) (by kernel_rfl)) (fun t W hW=>vL t _ part W (am.cell (O.below hW) 0)));have hu:=fun W=>cC 198 W;obtain⟨a,S,T⟩:∃a:Nat,max (ey (bO (fun t:Sp=>decide (iW part<=t.at_)) l) l.length) 0=a/\(0 < l.length->a < l.length):=by
  unfold ey;split
  ·exact⟨bO (fun t:Sp=>decide (iW part<=t.at_)) l,by omega,fun _=>by assumption⟩
  ·exact⟨0,by omega,fun h=>h⟩
 have HA:=aH S;generalize ey (bO (fun t:Sp=>decide (iW part<=t.at_)) l) l.length=iz at R HA S;apply cI;go_in;go_upto_region 1 with(fail);simp only[HW.out];refine wp_scope_straight ?_;go_wp2_with fail;refine R.mono ?_;rintro _e w1 ⟨rfl,n⟩;obtain⟨U,H1⟩:=gB (D.trans (n.mono D.size)) (H.below n);have V:=ba w1 (.map #[] 0);have X:=b4.new w1;obtain⟨W2,I⟩:=nM (w1.alloc (.map #[] 0));rw[I]at V X;obtain⟨E1,E2⟩:=gB V X;go_wp2_with (refine wp_label ?_);simp only[I.out];have M:w.heap.size<=w1.heap.size:=U.size;have J:=aH M;go_loopw[7,18] (fun vo vi wr=>∃(k:Nat) (i:List Int) (q:IM),k<=l.length/\vi=I6 k/\Bw w wr/\Rw bH wr (.slice A l.length c) l/\aK aC w.heap.size wr vo i/\i.length<=k/\b4 wr w1.heap.size q/\∀p∈q,∃t,p.2=.bool t) (fun vo vi _=>l.length - (intOf vi).toNat)
 case atStart=>exact⟨0,[],[],by omega,rfl,U.trans (E1.mono J),H1.below E1,aK.nil _ _,by simp,E2,by simp⟩
 case round=>
  obtain⟨k,i,q,hk,rfl,F,G,x,Y,y,Z⟩:=hrel;obtain⟨A1,A2,A3,A4,A5⟩:=gE F x G y Z;have hc:=F.size;by_cases hlt:k < l.length
  ·have z:0 < l.length:=by omega
   obtain⟨j,hn,hd⟩:∃j:Nat,((a:Int)+(k:Int)) % (l.length:Int)=(j:Int)/\j < l.length:=⟨(a+k) % l.length,by simp,Nat.mod_lt _ z⟩;obtain⟨g,og,rfl,s⟩:=G.at_ (zA hd);have c1:Ce wr g (og+j*2+1) (I6 l[j].nd):=by have:=s 1 _ rfl;simpa[bH]using this
   generalize l[j]=t at c1;have hs:=T z;obtain⟨tt,uu,hw,_⟩:=eF y Z t.nd;obtain⟨w5,ht,L,u⟩:=y.update (P:=prog) (t:=198) (kt:=3) (et:=4) (by kernel_rfl) (by kernel_rfl) t.nd (.bool true);obtain⟨hf,hg,rfl,_⟩:=(aK.rw (E:=aC) x).slice;have HL:=aH hlt;cases tt
   ·have m:=aK.keep (E:=aC) x u (fun k e he=>aK.ak (E:=aC) x y (he.trans e.symm));obtain⟨N,hh,B,B5⟩:=gD m (G.ck u y) L (F.grown u hc (fun j e=>by injection e with e;subst e;exact J));have C:w.heap.size<=w5.heap.size:=B5.size;have n:(i.length+1)*aC.bytes<=140737488355328:=by show(i.length+1)*8<=_;omega
    have hj:i.length < 1000000000000000000:=by omega
    have HN:=aH (zB Y hk);go_wp2_with (at_builtin;refine b5 aC rfl (.tmp 36) (.tmp 38) rfl m C t.nd rfl rfl n hj ?_;intro v' w6 f b;have M6:=aH (zB f b);clear f b m);obtain⟨f,b⟩:=M6.out;obtain⟨G1,G2,G3⟩:=gC (B5.grown b C (fun j e=>(aK.lt (E:=aC) N j e).1)) f (B.kept (b.block _ B.lt (aK.ak (E:=aC) N B)));have G4:Hid (Rw bH w6 (.slice (some ⟨g,og,none⟩) l.length c) l):=aH (hh.df b N (by decide));go_wp2_with fail;go_roundw
    case rel=>exact⟨k+1,i++[t.nd],_,HL,by go_num,G1,G4,G2,by have:=HN.1;simp;omega,G3,fun p hp=>by
     rcases c7 hp with rfl|⟨hp,_⟩
     ·exact⟨true,rfl⟩
     ·exact A5 p hp⟩
    case measure=>simp[intOf];omega
   ·clear s F G x y L u;go_wp2_with fail;go_roundw
    case rel=>exact⟨k+1,i,q,HL,by go_num,A1,A3,A2,by omega,A4,A5⟩
    case measure=>simp[intOf];omega
  ·obtain⟨hf,hg,rfl,_⟩:=(aK.rw (E:=aC) x).slice;go_wp2_with fail;rw[qJ];go_ret;exact⟨i,⟨_,rfl,A2,A1⟩,by omega,fun _ _=>trivial⟩
theorem sO(part n:Int){v}{l:List Sp} w(h:Rw bH w v l)(hl:l.length<=1000):Cs 143 #[v,I6 part,I6 n] w (b6 aC w 1000 fun _=>True):=by
 have i:=aH (oA part w h hl);obtain⟨A,c,rfl,_⟩:=h.slice;obtain⟨k,hi,_,t,_⟩:=info_parts aC.info;apply cI;go_in;go_wp2_with fail;refine i.mono ?_;rintro y w1 ⟨l1,⟨v1,rfl,a,b⟩,u,_⟩;obtain⟨m,c1,rfl,x⟩:=a.rw.slice;obtain⟨j,z,f⟩:∃j:Nat,min (max n 0) (l1.length:Int)=j/\j<=l1.length:=⟨(min (max n 0) (l1.length:Int)).toNat,by omega,by omega⟩;have hcut:=eo (P:=prog) 34 3 k underlying34 hi .i64 m l1.length c1 j (by omega);obtain⟨p,q⟩:=gB (aK.ch (E:=aC) a f) b;have g:(l1.take j).length=j:=by simp;omega
 have s:=aH g;go_wp2;go_ret;exact⟨l1.take j,⟨_,rfl,p,q⟩,by rw[s];omega,fun _ _=>trivial⟩
theorem pE{v}{l:List Pe} w(h:Rw aL w v l)(hl:l.length<=64)(hok:∀p∈l,cA p):Cs 126 #[v] w (b6 bH w 256 fun _=>True):=by
 have m:=aH (ig w h hl hok);obtain⟨A,c,rfl,_⟩:=h.slice;apply cI;go_in;go_wp2_with fail;refine m.mono ?_;rintro n w1 ⟨B,⟨v1,rfl,a,f⟩,g,x⟩;obtain⟨q,b⟩:=gB (CD w1 a.rw g) f;obtain⟨C,c1,rfl,y⟩:=a.rw.slice;go_wp2_with fail;refine q.mono ?_;rintro n w2 ⟨s,⟨v2,rfl,i,j⟩,k,z⟩;obtain⟨t,u⟩:=gB (i.mono b.size) (b.trans (j.mono b.size));go_wp2;go_ret;exact⟨s,⟨_,rfl,t,u⟩,k,fun _ _=>trivial⟩
structure CE(N:Nb)(w:World):Prop where
 lg:w.cell? ⟨N.nb,0,none⟩=some (Pt N.lg)
 st:w.cell? ⟨N.nb,1,none⟩=some (Pt N.st)
 c1:w.cell? ⟨N.nb,2,none⟩=some (I6 N.c1)
 c2:w.cell? ⟨N.nb,3,none⟩=some (I6 N.c2)
 c3:w.cell? ⟨N.nb,4,none⟩=some (I6 N.c3)
 c4:w.cell? ⟨N.nb,5,none⟩=some (I6 N.c4)
 c5:w.cell? ⟨N.nb,6,none⟩=some (I6 N.c5)
 most:w.cell? ⟨N.nb,7,none⟩=some (I6 5)
 wm:w.cell? ⟨N.nb,10,none⟩=some (.map (some N.wm))
 due:w.cell? ⟨N.nb,11,none⟩=some (Pt N.due)
 cm:w.cell? ⟨N.nb,12,none⟩=some (.map (some N.cm))
 hd:w.cell? ⟨N.nb,13,none⟩=some (Pt N.hd)
 wt:w.cell? ⟨N.nb,14,none⟩=some (Pt N.wt)
 fz:∀j,w.frozen? ⟨N.nb,j,none⟩=false
 lt:N.nb < w.heap.size
section
variable{N:Nb}
theorem aE.cells(h:aE E Rf N T B hand rsv o w):CE N w:=by
 obtain⟨next,_,b⟩:=h.rest;obtain⟨dead,vr,vl,_,_,_,_,a,_⟩:=b.all;exact⟨am.cell a 0,am.cell a 1,am.cell a 2,am.cell a 3,am.cell a 4,am.cell a 5,am.cell a 6,am.cell a 7,am.cell a 10,am.cell a 11,am.cell a 12,am.cell a 13,am.cell a 14,fun j=>am.frozen a j,ap a⟩
theorem aE.state(h:aE E Rf N T B hand rsv o w):∃n up,n<=4194304/\dF (fR E) n N.i up o w N.st (N.i,N.st):=by
 obtain⟨next,⟨_,_,_,d,_,_,up,n,_,_,a,b,_,_,_,c,_⟩,_⟩:=h.rest;have:=a.size;exact⟨n,up,by omega,b⟩
def Ex(N:Nb)(w:World):Prop:=w.cell? ⟨N.nb,1,none⟩=some (Pt N.st)/\w.cell? ⟨N.st,0,none⟩=some (I6 (N.i:Nat))
theorem Ex.below(h:Ex N w)(a:Below w.heap.size w w'):Ex N w':=⟨aD a h.1,aD a h.2⟩
theorem aE.ah(h:aE E Rf N T B hand rsv o w):Ex N w:=by
 obtain⟨n,up,_,_,cs,a,b⟩:=h.state;exact⟨h.cells.st,(am.cell a 0).trans b.id⟩
theorem eI(h:Ex N w):Cs 52 #[Pt N.nb] w fun e w'=>Rt e (I6 (N.i:Nat))/\w=w':=by
 obtain⟨b,c⟩:=h;have a:Hid (Cs 44 #[Pt N.st] w fun e w'=>Rt e (I6 (N.i:Nat))/\w=w'):=aH (by
  apply cI;go_in;go_wp2;go_ret;exact⟨rfl,rfl⟩)
 apply cI;go_in;go_wp2_with fail;refine a.mono ?_;rintro f g ⟨rfl,rfl⟩;go_wp2;go_ret;exact⟨rfl,rfl⟩
theorem je w:Cs 14 #[.pointer none] w fun e w'=>Rt e (.bool true)/\w=w':=by
 apply cI;go_in;go_wp2;go_ret;exact⟨rfl,rfl⟩
theorem jf(h:aE E Rf N T B hand rsv o w):Cs 14 #[Pt N.nb] w fun e w'=>(∃t,Rt e (.bool t))/\w=w':=by
 have c:=h.cells.st;obtain⟨next,_,a⟩:=h.rest;obtain⟨dead,vr,vl,_,_,_,_,b,_⟩:=a.all;have f:=am.cell b 9;cases dead
 ·apply cI;go_in;go_wp2;go_ret;exact⟨⟨_,rfl⟩,rfl⟩
 ·apply cI;go_in;go_wp2;go_ret;exact⟨⟨_,rfl⟩,rfl⟩
theorem sP(k:Int)(b:Nat)(h:Ex N w)(c:Ce w b 0 (Pt N.nb)):Cs 138 #[I6 k,Pt b] w fun e w'=>Rt e (.bool (k==(N.i:Nat)))/\w=w':=by
 have a:=aH (eI h);apply cI;go_in;go_wp2_with fail;refine a.mono ?_;rintro f g ⟨rfl,rfl⟩;go_wp2;go_ret;exact⟨rfl,rfl⟩
theorem ea{W:World}{a:Addr}{v}(h:w.cell? a=some v)(b:W.heap[a.block]?=w.heap[a.block]?):W.cell? a=some v:=by
 unfold World.cell? at h ⊢;rw[b];exact h
theorem q5{v}(h:Ce w g i v):g < w.heap.size:=qX w _ h
theorem dT(h:Ex N w){v}{l:List Int}(hv:Rw aC w v l)(x:l.length<=1000):Cs 70 #[Pt N.nb,v] w (b6 aC w 1000 fun _=>True):=by
 obtain⟨W0,y,a,z⟩:=dW w #[Pt N.nb] 65;have i:=aH (h.below a);have m:=am.cell z 0;obtain⟨B,C⟩:=gB m (hv.below a);obtain⟨A,c,rfl,_⟩:=hv.slice;have D:=q5 m;have n:=q5 i.1;have p:=q5 i.2;apply cI;go_in;go_upto_region 1 with(fail);simp only[y.out];go_wp2_with fail;refine(fy W0 C (by omega)).mono ?_;rintro F w1 ⟨v1,rfl,b,f⟩;obtain⟨J,q⟩:=gB b (a.trans (f.mono a.size));have s:∀g,v1.ownBlock=some g->W0.heap.size<=g:=fun g e=>(b.lt g e).1;have G:=aH (ks 138 #[Pt w.heap.size] (fun k=>k==(N.i:Nat)) _ v1 l w1 b (by omega) (aQ func138 (by kernel_rfl) (by kernel_rfl)) (fun k W hW=>by
  have j:∀b',b' < W0.heap.size->W.heap[b']?=W0.heap[b']?:=fun b' hb'=>(hW b' (zT hb' f.size) (fun e=>by have:=s b' e;omega)).trans (f.block b' hb');exact sP k w.heap.size ⟨ea i.1 (j _ n),ea i.2 (j _ p)⟩ (ea B (j _ D))))
 go_wp2_with fail;refine G.mono ?_;rintro F w2 ⟨v2,rfl,t,u⟩;obtain⟨H,I⟩:=gB t (q.grown u q.size (fun k e=>by have:=s k e;have:=a.size;omega));go_wp2;go_ret;exact⟨_,⟨v2,rfl,H.mono a.size,I⟩,zD (qO _ _) x,fun _ _=>trivial⟩
theorem iX(part:Int)(h:aE E Rf N T B hand rsv o w):Cs 74 #[Pt N.nb,I6 part] w (b6 aC w 1000 fun _=>True):=by
 have x:=h.cells.st;have y:=h.cells.c1;have a:Bw w w.drew:=bD _;obtain⟨n,up,_,z⟩:=(h.below a).state;have A:=aH (lj z);apply cI;go_in;go_wp2;go_region_held3 (fun w'=>Ce w' N.nb 1 (Pt N.st)/\Ce w' N.nb 2 (I6 N.c1))
  (first|go_keep|refine⟨aD (by assumption) x,aD (by assumption) y⟩)
  (first
   |(go_at_call 66;(with_reducible refine(A.out).mono ?_);rintro j w2 ⟨H,⟨v2,rfl,f,k⟩,m,p⟩;have c:=a.trans (k.mono a.size);obtain⟨I,c2,rfl,_⟩:=f.rw.slice)
   |(go_at_call 126;(with_reducible refine(pE _ f.rw m p).mono ?_);rintro j w3 ⟨J,⟨v3,rfl,g,q⟩,G,_⟩;have b:=c.trans (q.mono c.size);obtain⟨L,c3,rfl,_⟩:=g.rw.slice)
   |(go_at_call 143;(with_reducible refine(sO _ _ _ g.rw (by omega)).mono ?_);rintro j w4 ⟨C,⟨v4,rfl,i,t⟩,u,_⟩;have s:=b.trans (t.mono b.size);obtain⟨M,c4,rfl,_⟩:=i.rw.slice))
 all_goals
  obtain⟨D,F⟩:=gB (i.mono b.size) s;go_wp2;go_ret;exact⟨C,⟨_,rfl,D,F⟩,u,fun _ _=>trivial⟩
def oB(N:Nb)(next:Int)(dead:Bool)(vr vl:Value):Array Value:=#[Pt N.lg,Pt N.st,I6 N.c1,I6 N.c2,I6 N.c3,I6 N.c4,I6 N.c5,I6 5,I6 next,.bool dead,.map (some N.wm),Pt N.due,.map (some N.cm),Pt N.hd,Pt N.wt,vr,vl]
structure xX(E:bX)(Rf:Nat->Prop)(N:Nb)(B:Nat)(hand:Option Nat)(next:Int)(o:Ow)(w:World)(dead:Bool)(vr vl:Value)(reps:List Rp)(lets:List Lt)(ws:List (Int×Qg))(qc:IM):Prop where
 blk:am w N.nb 92 (oB N next dead vr vl)
 rep:cZ cW o (N.i,N.nb) w vr reps
 let_:cZ cY o (N.i,N.nb) w vl lets
 len:lets.length<=B
 rok:∀r∈reps,fE E N.i r
 lok:∀l∈lets,el E l.b
 refs:gy Rf ws reps hand
 wm:b4 w N.wm (lY ws)
 wok:∀p∈ws,bN p.1/\eT E Rf N.i o w p.2
 cm:b4 w N.cm qc
 cok:∀p∈qc,∃c part d rc,p.2=.agg #[Pt c,I6 (part:Nat)]/\Ev part d rc/\cM d rc o w c (N.i,c)
theorem e7.v(h:e7 E Rf N B hand next rsv o w):∃dead vr vl reps lets ws qc,xX E Rf N B hand next o w dead vr vl reps lets ws qc:=by
 obtain⟨dead,vr,vl,reps,lets,ws,qc,c,f,g,i,j,k,m,n,p,a,b⟩:=h.all;exact⟨dead,vr,vl,reps,lets,ws,qc,c,f,g,i,j,k,m,n,p,a,b⟩
theorem e7.of{hand'}{p}{dead:Bool}{vr vl}{lets:List Lt}{ws:List (Int×Qg)}{qc}(h:e7 E Rf N B hand next rsv o w)(a:St p o w o' w')
  (hv:xX E Rf N B' hand' next o' w' dead vr vl reps lets ws qc):e7 E Rf N B' hand' next rsv o' w':=by
 obtain⟨_,_,_,_,_,_,_,c,_,_,_,_,_,_,f,_,b,_⟩:=h.all;exact⟨by rw[a.old _ (ap c)];exact h.onb,by rw[a.old _ f.lt];exact h.owm,by rw[a.old _ b.lt];exact h.ocm,h.ne,h.num,h.rsv1,h.rsvN,h.pos,dead,vr,vl,reps,lets,ws,qc,hv.blk,hv.rep,hv.let_,hv.len,hv.rok,hv.lok,hv.refs,hv.wm,hv.wok,hv.cm,hv.cok⟩
theorem aE.bx{hand'}{rsv'}(h:aE E Rf N T B hand rsv o w)(a:St (·=(N.i,N.nb)) o w o' w')(f:gx E N next rsv' o w)(g:e7 E Rf N B' hand' next rsv' o' w'):aE E Rf N T B' hand' rsv' o' w':=by
 have R:=h.roots;have b:=ci (r:=N.nb) h.i0;obtain⟨n,c,i⟩:=h.due;exact⟨a.far,h.i0,h.i9,eN.st h.tab a b,h.kok,h.cs,⟨n,c,i.st a (aV (R.due.ne R.nb (by decide)))⟩,h.hd.st a (aV (R.hd.ne R.nb (by decide))),⟨h.wt.1,h.wt.2.st a (aV (R.wt.ne R.nb (by decide))) b⟩,h.cfg,next,
  f.st a b (aV (R.lg.ne R.nb (by decide))) (aV (R.dk.ne R.nb (by decide))) (aV (R.st.ne R.nb (by decide))),g⟩
theorem cN.trans{o1 o2}{w1 w2}(h:cN i o w o1 w1)(k:cN i o1 w1 o2 w2):cN i o w o2 w2:=
 ⟨fun t a=>k.tal t (h.tal t a),fun d rc c a=>k.cla d rc c (h.cla d rc c a),fun b cs a e=>by obtain⟨x,y⟩:=h.que b cs a e;exact k.que b cs x y⟩
theorem cN.below(a:Below w.heap.size w w')(hf:aX o w):cN i o w o w':=by
 have f:St (fun _=>False) o w o w':=.J a hf;exact⟨fun t k=>k.st f _root_.id,fun d rc c k=>k.st f _root_.id,fun b cs ho h=>⟨ho,h.below a⟩⟩
structure Sk(N:Nb)(o:Ow)(w:World)(o':Ow)(w':World):Prop where
 s:St (fun y=>y.1=N.i) o w o' w'
 k:cN N.i o w o' w'
theorem Sk.trans{o1 o2}{w1 w2}(h:Sk N o w o1 w1)(k:Sk N o1 w1 o2 w2):Sk N o w o2 w2:=⟨h.s.trans k.s,h.k.trans k.k⟩
theorem Sk.J(a:Below w.heap.size w w')(hf:aX o w):Sk N o w o w':=⟨.J a hf,.below a hf⟩
theorem Sk.refl(hf:aX o w):Sk N o w o w:=.J (bR _) hf
theorem Sk.db{r:Nat}(a:St (·=(N.i,r)) o w o' w')(b:dK w r t)(c:t≠297)(f:t≠330)(g:t≠207):Sk N o w o' w':=⟨a.mono fun y e=>by rw[e],.an a b c f g⟩
theorem Sk.bp(h:aE E Rf N T B hand rsv o w)(a:St (·=(N.i,N.nb)) o w o' w'):Sk N o w o' w':=.db a h.roots.nb (by decide) (by decide) (by decide)
def Nd(E:bX)(Rf:Nat->Prop)(N:Nb)(T B:Nat)(hand:Option Nat)(rsv:List Int)(o:Ow)(w:World)(v:Value)(e:Ending)(w':World):Prop:=Rt e v/\∃o',aE E Rf N T B hand rsv o' w'/\Sk N o w o' w'
theorem gz(h:St (·=(N.i,k)) o w o' w'):St (fun y=>y.1=N.i) o w o' w':=h.mono fun y h=>by rw[h]
theorem cZ.av{S:Nat->Prop}{x}{v:Value}{p}(h:cZ El_ o x w v l)(b:cX S w w')(c:St p o w o' w')(f:∀k,v.ownBlock=some k->¬S k):cZ El_ o' x w' v l:=by
 refine⟨?_,fun k e=>by rw[c.old k (h.lt k e)];exact h.2 k e⟩;rcases h.1 with⟨i,a⟩;refine⟨i,?_⟩;rcases a with a|⟨g,cap,cur,rfl,hb,hl,hr⟩
 ·exact .inl a
 ·exact .inr ⟨g,cap,cur,rfl,hb,(b.block g (ap hl) (f g rfl)).trans hl,hr⟩
theorem aK.ty{v:Value}(h:aK El_ base w v l)(a:v.ownBlock=some k):∃cs,am w k El_.ty cs:=by
 rcases h.2 with⟨b,j⟩|⟨g,c,i,b,m,f,_⟩
 ·subst b;cases a
 ·subst b;injection a with a;subst a;exact⟨_,f⟩
theorem dG{m}{cs}(h:b4 w b m)(a:am w k t cs):b≠k:=by
 rintro rfl;obtain⟨_,_,h,_⟩:=h;unfold am at a;rw[a]at h;cases h
end
section
variable{Rf':Nat → Prop}{N:Nb}{rsv':List Int}
theorem iV.env{cs}(h:iV E o w cs)(a:E.Le E'):iV E' o w cs:=by
 obtain⟨a1,a2,a3,a4,vl,vb,vc,dn,dm,rc,lg,e,b,hi⟩:=h;exact⟨a1,a2,a3,a4,vl,vb,vc,dn,dm,rc,lg,e,b.mono (fun m hm=>hm.mono a) nR,hi⟩
theorem Eu.env{d}(h:Eu E ref d rc)(a:E.Le E'):Eu E' ref d rc:=by
 obtain⟨b,k,c,f,g,i,j,m,n,p⟩:=h;exact⟨b,k,c,f,a.K _ _ g,i,a.at_ j,a.at_ m,n,p⟩
theorem eT.env{g:Qg}(h:eT E Rf i o w g)(a:E.Le E'):eT E' Rf i o w g:=by
 obtain⟨r,b,f,j,k⟩:=h.cells;exact⟨h.own,h.part,h.rf,⟨r,b,f,j.env a,fun e=>(k e).mono a⟩,h.tal,fun c d rc e=>⟨(h.cla c d rc e).1,(h.cla c d rc e).2.env a⟩,h.one⟩
theorem eT.a'{g:Qg}(h:eT E Rf i o w g)(a:Rf' g.ref):eT E Rf' i o w g:=⟨h.own,h.part,a,h.cells,h.tal,h.cla,h.one⟩
theorem aE.env(h:aE E Rf N T B hand rsv o w)(f:E.Le E')(g:pB E')(D:E'.cs.length<=100000)
  (q:∀x k,E'.K x=some k->x.nd=N.i->E.K x=some k\/x.n∈rsv) (b:rsv'.Sublist rsv) (s:∀z∈rsv',E'.K ⟨N.i,z⟩=none):aE E' Rf N T B hand rsv' o w:=by
 obtain⟨next,F,a⟩:=h.rest;refine⟨h.fin,h.i0,h.i9,h.tab,g,⟨D,fun k g=>?_⟩,h.due,h.hd,h.wt,h.cfg,next,?_,?_⟩
 ·obtain⟨c,i,j⟩:=h.cs.2 k g;exact⟨c,f.at_ i,j⟩
 ·obtain⟨t,u,br,d,rs1,rs2,up,n,a1,a2,a3,a4,a5,a6,a7,a8,a9,a10⟩:=F;refine⟨t,u,br,d,rs1,rs2,up,n,a1,a2,⟨a3.room,a3.sf,a3.tl,a3.size,fun r b=>(a3.ok r b).mono f,fun x k e1 e2=>?_⟩,a4.mono (fun m hm=>hm.mono f) nR,a5,a6,a7,a8,a9,fun z hz=>a10 z (b.subset hz)⟩;rcases q x k e1 e2 with e|e
  ·exact a3.num x k e e2
  ·exact a10 _ e
 ·obtain⟨dead,vr,vl,reps,lets,ws,qc,i,j,G,H,I,J,L,M,y,A,C⟩:=a.all;exact⟨a.onb,a.owm,a.ocm,a.ne,fun x k e1 e2=>(q x k e1 e2).elim (fun e=>a.num x k e e2) (fun e=>(a.rsv1 _ e).2.1),fun z hz=>⟨(a.rsv1 z (b.subset hz)).1,(a.rsv1 z (b.subset hz)).2.1,s z hz⟩,b.nodup a.rsvN,a.pos,dead,vr,vl,reps,lets,ws,qc,i,j,G,H,fun r b=>(I r b).mono f,fun l hl'=>(J l hl').mono f,L,M,fun p hp=>⟨(y p hp).1,(y p hp).2.env f⟩,A,C⟩
theorem aE.drop(h:aE E Rf N T B hand rsv o w)(a:rsv'.Sublist rsv):aE E Rf N T B hand rsv' o w:=by
 obtain⟨next,c,b⟩:=h.rest;exact h.env (bX.Le.refl E) h.kok h.cs.1 (fun x k e _=>.inl e) a (fun z hz=>(b.rsv1 z (a.subset hz)).2.2)
theorem aE.hand_(h:aE E Rf N T B none rsv o w)(i:¬Rf ref)(q:∃c,E.cs[ref]?=some c/\c.nd=N.i):aE E (fun k=>Rf k\/k=ref) N T B (some ref) rsv o w:=by
 obtain⟨next,s,a⟩:=h.rest;refine⟨h.fin,h.i0,h.i9,h.tab,h.kok,⟨h.cs.1,fun k hk=>?_⟩,h.due,h.hd,h.wt,h.cfg,next,s,?_⟩
 ·rcases hk with hk|rfl
  ·exact h.cs.2 k hk
  ·exact q
 ·obtain⟨dead,vr,vl,reps,lets,ws,qc,t,u,x,y,z,A,b,C,f,j,m⟩:=a.all;refine⟨a.onb,a.owm,a.ocm,a.ne,a.num,a.rsv1,a.rsvN,a.pos,dead,vr,vl,reps,lets,ws,qc,t,u,x,y,z,A,⟨b.one,b.rn,b.wr,fun r hr=>?_,fun k hk=>?_⟩,C,fun p hp=>⟨(f p hp).1,(f p hp).2.a' (.inl (f p hp).2.rf)⟩,j,m⟩
  ·obtain⟨k,n,g⟩:=b.rr r hr;exact⟨k,n,.inl g⟩
  ·injection hk with hk;subst hk;refine⟨.inr rfl,fun p hp e=>i (e▸(f p hp).2.rf),fun r hr e=>?_⟩;obtain⟨k,n,g⟩:=b.rr r hr;have:k=ref:=by omega
   exact i (this▸g)
theorem aE.a'(h:aE E Rf N T B none rsv o w)(g:∀k,Rf k->Rf' k)(m:∀k,Rf' k->∃c,E.cs[k]?=some c/\c.nd=N.i):aE E Rf' N T B none rsv o w:=by
 obtain⟨next,n,a⟩:=h.rest;refine⟨h.fin,h.i0,h.i9,h.tab,h.kok,⟨h.cs.1,m⟩,h.due,h.hd,h.wt,h.cfg,next,n,?_⟩;obtain⟨dead,vr,vl,reps,lets,ws,qc,q,s,t,u,x,y,b,z,f,i,j⟩:=a.all;refine⟨a.onb,a.owm,a.ocm,a.ne,a.num,a.rsv1,a.rsvN,a.pos,dead,vr,vl,reps,lets,ws,qc,q,s,t,u,x,y,⟨b.one,b.rn,b.wr,fun r hr=>?_,fun k hk=>by cases hk⟩,z,fun p hp=>⟨(f p hp).1,(f p hp).2.a' (g _ (f p hp).2.rf)⟩,i,j⟩;obtain⟨k,A,C⟩:=b.rr r hr;exact⟨k,A,g k C⟩
theorem gy.bf{ws:List (Int×Qg)}{hand}(h:gy Rf ws reps hand):gy Rf ws reps none:=⟨h.one,h.rn,h.wr,h.rr,fun k hk=>by cases hk⟩
theorem aE.bf(h:aE E Rf N T B hand rsv o w):aE E Rf N T B none rsv o w:=by
 obtain⟨next,f,a⟩:=h.rest;obtain⟨dead,vr,vl,reps,lets,ws,qc,g,i,j,k,m,n,p,q,s,b,c⟩:=a.all;exact⟨h.fin,h.i0,h.i9,h.tab,h.kok,h.cs,h.due,h.hd,h.wt,h.cfg,next,f,a.onb,a.owm,a.ocm,a.ne,a.num,a.rsv1,a.rsvN,a.pos,dead,vr,vl,reps,lets,ws,qc,g,i,j,k,m,n,p.bf,q,s,b,c⟩
theorem aE.more{T':Nat}(h:aE E Rf N T B hand rsv o w)(f:B<=B'):aE E Rf N T B' hand rsv o w:=by
 obtain⟨next,g,a⟩:=h.rest;obtain⟨dead,vr,vl,reps,lets,ws,qc,i,j,k,m,n,p,q,s,t,b,c⟩:=a.all;exact⟨h.fin,h.i0,h.i9,h.tab,h.kok,h.cs,h.due,h.hd,h.wt,h.cfg,next,g,a.onb,a.owm,a.ocm,a.ne,a.num,a.rsv1,a.rsvN,a.pos,dead,vr,vl,reps,lets,ws,qc,i,j,k,zD m f,n,p,q,s,t,b,c⟩
end
def Gl(E:bX)(cl:Nat->Prop)(i k:Nat):Prop:=(∃c,E.cs[k]?=some c/\c.nd=(i:Nat))/\¬cl k
structure Pl where
 pb:Nat
 dk:Nat
 nd:Option Nb
def iq:El Nat where
 ty:=63
 sl:=55
 s:=1
 bytes:=8
 z:=.pointer none
 f d:=[Pt d]
 und:=underlying55
 info:=by kernel_rfl
 zs:=rfl
 pos:=by decide
 len _:=rfl
 one d u hu:=by simp at hu;subst hu;rfl
def sQ(E:bX)(tv:Nat->Int)(i:Nat)(P:Dk->List (List UInt8)->Prop)(o:Ow)(w:World)(k:Nat):Prop:=o k=(i,k)/\∃d rs1 rs2,bS w k d/\gd E tv i d rs1 rs2/\P d (rs1++rs2)
def gA(E:bX)(cl:Nat->Prop)(tv:Nat->Int)(M i:Nat)(o:Ow)(w:World)(p:Pl):Prop:=
 (p.nd=none/\sQ E tv i (fun _ _=>True) o w p.dk)\/∃N T,p.nd=some N/\N.i=i/\N.dk=p.dk/\N.tv=tv/\T<=M/\aE E (Gl E cl i) N T 0 none [] o w
def FF(p:Pl)(z:Int)(a:Bool):Array Value:=#[dS (p.nd.map Nb.nb),Pt p.dk,I6 z,.bool a]
section
variable{M:Nat}{p:Pl}{P P':Dk → List (List UInt8) → Prop}
theorem sQ.st(h:sQ E tv i P o w k)(a:St q o w o' w')(f:∀r,¬q (i,r)):sQ E tv i P o' w' k:=by
 obtain⟨b,d,rs1,rs2,c,g⟩:=h;exact⟨by rw[a.old _ (ap c)];exact b,d,rs1,rs2,am.st c a (by rw[b];exact f _),g⟩
theorem sQ.env(h:sQ E tv i P o w k)(b:E.Le E')(c:∀x k,E'.K x=some k->x.nd=i->E.K x=some k):sQ E' tv i P o w k:=by
 obtain⟨f,d,rs1,rs2,g,a,j⟩:=h;exact⟨f,d,rs1,rs2,g,⟨a.room,a.sf,a.tl,a.size,fun r hr=>(a.ok r hr).mono b,fun x k e1 e2=>a.num x k (c x k e1 e2) e2⟩,j⟩
theorem gA.disk(h:gA E cl tv M i o w p):sQ E tv i (fun _ _=>True) o w p.dk:=by
 rcases h with⟨_,h⟩|⟨N,T,_,rfl,b,rfl,_,h⟩
 ·exact h
 ·obtain⟨next,⟨c,a,br,d,rs1,rs2,up,n,a1,a2,a3,_⟩,_⟩:=h.rest;rw[<-b];exact⟨a,d,rs1,rs2,a2,a3,trivial⟩
theorem gA.st(h:gA E cl tv M i o w p)(b:St q o w o' w')(f:¬q (0,0))(c:∀r,¬q (i,r)):gA E cl tv M i o' w' p:=by
 rcases h with⟨a,h⟩|⟨N,T,a,rfl,g,j,k,h⟩
 ·exact .inl ⟨a,h.st b c⟩
 ·exact .inr ⟨N,T,a,rfl,g,j,k,h.keep b f c⟩
theorem gA.env(h:gA E cl tv M i o w p)(g:E.Le E')(a:pB E')(q:E'.cs.length<=100000)(m:∀x k,E'.K x=some k->x.nd=i->E.K x=some k)(n:∀k c,E.cs[k]?=some c->c.nd=((i:Nat):Int)->¬cl k->¬cl' k)(s:M<=M'):gA E' cl' tv M' i o w p:=by
 rcases h with⟨j,h⟩|⟨N,T,j,rfl,t,u,y,h⟩
 ·exact .inl ⟨j,h.env g m⟩
 ·refine .inr ⟨N,T,j,rfl,t,u,zD y s,(h.env g a q (fun x k b f=>.inl (m x k b f)) (List.Sublist.refl _) (fun z hz=>by cases hz)).a' (fun k a=>?_) (fun k a=>a.1)⟩;obtain⟨⟨c,b,f⟩,A⟩:=a;exact⟨⟨c,g.at_ b,f⟩,n k c b f A⟩
end
structure e6(E:bX)(cm cl:Nat->Prop)(tv:Nat->Int)(nc:Nat)(a b:Int)(o:Ow)(w:World)(g:Nat)(ps:List Pl)(tl:List Rp):Prop where
 own:o g=(9,0)
 fin:aX o w
 tab:eN tv w/\o 1=(0,0)
 kok:pB E
 cs:E.cs.length<=1000
 len:1<=ps.length/\ps.length<=8
 all:∃A ca pp vt,am w g 58 #[I6 a,I6 b,I6 30,I6 3,I6 12,I6 5,.slice A ps.length ca,Pt pp,I6 (nc:Nat),vt]/\
  RI iq o w (.slice A ps.length ca) (ps.map Pl.pb)/\dO E o w pp (9,0)/\cZ cW o (9,0) w vt tl
 pl:∀p∈ps,o p.pb=(9,0)/\∃z t,am w p.pb 68 (FF p z t)
 pn:(ps.map Pl.pb).Nodup
 cmcl:∀k,cm k->cl k
 told:∀r∈tl,∃(k:Nat) (c:Cl),r.ref=(k:Nat)/\E.cs[k]?=some c/\fE E c.nd r/\cl k/\¬cm k
 tn:(tl.map Rp.ref).Nodup
 cfg:1<=a/\a<=64/\1<=b/\b<=a
def lK(E:bX)(cl:Nat->Prop)(tv:Nat->Int)(M:Nat)(x:Option Nat)(o:Ow)(w:World)(ps:List Pl):Prop:=∀j p,ps[j]?=some p->some j≠x->gA E cl tv M (j+1) o w p
section
variable{M:Nat}{b:Int}{ps:List Pl}{p:Pl}{x:Option Nat}
theorem e6.st(h:e6 E cm cl tv nc a b o w g ps tl)(c:St q o w o' w')(i:¬q (0,0))(f:¬q (9,0)):e6 E cm cl tv nc a b o' w' g ps tl:=by
 obtain⟨A,ca,n,vt,j,s,u,x⟩:=h.all;exact⟨by rw[c.old _ (ap j)];exact h.own,c.far,eN.st h.tab c i,h.kok,h.cs,h.len,⟨A,ca,n,vt,j.st c (by rw[h.own];exact f),s.st c i,u.st c i f,x.st c f⟩,
  fun p hp=>by obtain⟨k,z,t,m⟩:=h.pl p hp;exact⟨by rw[c.old _ (ap m)];exact k,z,t,m.st c (by rw[k];exact f)⟩,h.pn,h.cmcl,h.told,h.tn,h.cfg⟩
theorem e6.below(h:e6 E cm cl tv nc a b o w g ps tl)(c:Below w.heap.size w w'):e6 E cm cl tv nc a b o w' g ps tl:=h.st (q:=fun _=>False) (.J c h.fin) _root_.id _root_.id
theorem lK.st(h:lK E cl tv M x o w ps)(a:St q o w o' w')(b:¬q (0,0))(c:∀j,j < ps.length->some j≠x->∀r,¬q (j+1,r)):lK E cl tv M x o' w' ps:=fun j p hj hx=>(h j p hj hx).st a b (c j (zE.1 hj).1 hx)
theorem lK.below(h:lK E cl tv M x o w ps)(hf:aX o w)(a:Below w.heap.size w w'):lK E cl tv M x o w' ps:=h.st (q:=fun _=>False) (.J a hf) _root_.id (fun _ _ _ _=>_root_.id)
theorem lK.but(h:lK E cl tv M none o w ps):lK E cl tv M x o w ps:=fun j p hj _=>h j p hj (by simp)
theorem lK.back(h:lK E cl tv M (some j) o w ps)(a:ps[j]?=some p)(b:gA E cl tv M (j+1) o w p):lK E cl tv M none o w ps:=fun i q hi _=>by
 by_cases e:i=j
 ·subst e
  rw[a]at hi
  injection hi with hi
  subst hi
  exact b
 ·exact h i q hi (fun h=>e (by injection h))
theorem lK.set(h:lK E cl tv M (some j) o w ps)(a:j < ps.length){p':Pl}(b:gA E cl tv M (j+1) o w p'):lK E cl tv M none o w (ps.set j p'):=fun i q hi _=>by
 by_cases e:i=j
 ·subst e
  rw[yH a]at hi
  injection hi with hi
  subst hi
  exact b
 ·rw[yF (fun h=>e h.symm)]at hi
  exact h i q hi (fun h=>e (by injection h))
theorem lK.env(h:lK E cl tv M x o w ps)(b:E.Le E')(f:pB E')(g:E'.cs.length<=100000)(m:∀d k,E'.K d=some k->E.K d=some k\/∃j,x=some j/\d.nd=((j+1:Nat):Int))(a:∀k c,E.cs[k]?=some c->(∀j,x=some j->c.nd≠((j+1:Nat):Int))->¬cl k->¬cl' k)(n:M<=M'):lK E' cl' tv M' x o w ps:=fun i p hi hne=>
 (h i p hi hne).env b f g (fun d k e1 e2=>(m d k e1).elim _root_.id fun⟨j,e3,e4⟩=>absurd (show some i=x by rw[e3];congr 1;have:=e2.symm.trans e4;omega) hne) (fun k c e1 e2 e3=>a k c e1 (fun j e4 e5=>hne (by rw[e4];congr 1;have:=e2.symm.trans e5;omega)) e3) n
theorem e6.env(h:e6 E cm cl tv nc a b o w g ps tl)(f:E.Le E')(j:pB E')(m:E'.cs.length<=1000)(n:∀k,cm k->cl' k)(p:∀r∈tl,∀k:Nat,r.ref=(k:Nat)->cl k->cl' k):e6 E' cm cl' tv nc a b o w g ps tl:=by
 obtain⟨A,ca,q,vt,s,t,u,x⟩:=h.all;exact⟨h.own,h.fin,h.tab,j,m,h.len,⟨A,ca,q,vt,s,t,u.env f,x⟩,h.pl,h.pn,n,fun r hr=>by
  obtain⟨k,c,i,y,z,B,C⟩:=h.told r hr;exact⟨k,c,i,f.at_ y,z.mono f,p r hr k i B,C⟩,h.tn,h.cfg⟩
theorem dK.pb(h:e6 E cm cl tv nc a b o w g ps tl)(c:p∈ps):dK w p.pb 68:=by obtain⟨_,_,_,h⟩:=h.pl p c;exact⟨_,h⟩
theorem e6.ty(h:e6 E cm cl tv nc a b o w g ps tl):dK w g 58:=by obtain⟨_,_,_,_,h,_⟩:=h.all;exact⟨_,h⟩
theorem e6.place(h:e6 E cm cl tv nc a b o w g ps tl)(n:ps[j]?=some p)(f:aW p.pb w w'){nd:Option Nb}{t:Bool}(M:am w' p.pb 68 (FF {p with nd:=nd} z t)):e6 E cm cl tv nc a b o w' g (ps.set j {p with nd:=nd}) tl/\St (·=(9,0)) o w o w':=by
 have s:=qC n;have x:=(h.pl p s).1;have c:St (·=(9,0)) o w o w':=.U f x h.fin;have y:=(zE.1 n).1;have u:¬((0,0):Nat×Nat)=(9,0):=by simp
 obtain⟨A,ca,B,vt,N,O,G,C⟩:=h.all;have D:g≠p.pb:=h.ty.ne (dK.pb h s) (by decide);have F:B≠p.pb:=G.ty.ne (dK.pb h s) (by decide);have m:(ps.set j {p with nd:=nd}).map Pl.pb=ps.map Pl.pb:=by
  rw[List.map_set];show(ps.map Pl.pb).set j p.pb=_;apply yZ;intro i;by_cases e:i=j
  ·subst e;rw[yH (by simpa using y),qS,n];rfl
  ·rw[yF (fun h=>e h.symm)]
 have H:dO E o w' B (9,0):=by
  obtain⟨R,vl,vg,ls,S,T,U,V,X⟩:=G;exact⟨R,vl,vg,ls,S.only f F,T.st c u,U,V,X.st c u⟩
 have I:cZ cW o (9,0) w' vt tl:=⟨aK.keep C.1 f fun k e eq=>by
  injection eq with eq;subst eq;obtain⟨cs,Y⟩:=C.1.ty e;obtain⟨ha,Z⟩:=dK.pb h s;exact aT Y Z (by decide) rfl,C.2⟩
 refine⟨⟨h.own,c.far,eN.st h.tab c u,h.kok,h.cs,by simpa using h.len,⟨A,ca,B,vt,by rw[List.length_set];exact N.only f D,by rw[List.length_set,m];exact O.st c u,H,I⟩,fun q hq=>?_,by rw[m];exact h.pn,h.cmcl,h.told,h.tn,h.cfg⟩,c⟩;obtain⟨i,hi⟩:=List.getElem?_of_mem hq;by_cases e:i=j
 ·subst e;rw[yH y]at hi;injection hi with hi;subst hi;exact⟨x,z,t,M⟩
 ·rw[yF (fun h=>e h.symm)]at hi;obtain⟨e1,z',t',e2⟩:=h.pl q (qC hi);refine⟨e1,z',t',e2.only f fun eq=>e ?_⟩;have J:i < (ps.map Pl.pb).length:=by simpa using(zE.1 hi).1
  have L:j < (ps.map Pl.pb).length:=by simpa using y
  refine kW h.pn J L ?_;rw[List.getElem_map,List.getElem_map,(zE.1 hi).2,(zE.1 n).2];exact eq
theorem e6.post(h:e6 E cm cl tv nc a b o w g ps tl){A}{vt}(c:am w g 58 #[I6 a,I6 b,I6 30,I6 3,I6 12,I6 5,.slice A ps.length ca,Pt f,I6 (nc:Nat),vt])(i:aW f w w')(C:dO E o w' f (9,0)):e6 E cm cl tv nc a b o w' g ps tl/\St (·=(9,0)) o w o w':=by
 have x:¬((0,0):Nat×Nat)=(9,0):=by simp
 obtain⟨y,m,n,q,s,D,B,u⟩:=h.all;have F:y=A/\m=ca/\n=f/\q=vt:=by
  unfold am at s c;rw[s]at c;injection c with c;injection c with c;simp at c;exact⟨c.1.1,c.1.2,c.2.1,c.2.2⟩
 obtain⟨rfl,rfl,rfl,rfl⟩:=F;have j:St (·=(9,0)) o w o w':=.U i B.1 h.fin;have ty:=B.ty;refine⟨⟨h.own,j.far,eN.st h.tab j x,h.kok,h.cs,h.len,⟨y,m,n,q,s.only i (h.ty.ne ty (by decide)),D.st j x,C,⟨aK.keep u.1 i fun k e eq=>?_,u.2⟩⟩,fun p hm=>?_,h.pn,h.cmcl,h.told,h.tn,h.cfg⟩,j⟩
 ·injection eq with eq;subst eq;obtain⟨cs,G⟩:=u.1.ty e;obtain⟨L,H⟩:=ty;exact aT G H (by decide) rfl
 ·obtain⟨I,z,t,J⟩:=h.pl p hm;exact⟨I,z,t,J.only i ((dK.pb h hm).ne ty (by decide))⟩
end
structure fF(E:bX)(told:List Rp)(came:List Bool)(dl:List Rp):Prop where
 lt:told.length=E.cs.length
 lc:came.length=E.cs.length
 ok:∀(k:Nat) c r,came[k]?=some true->E.cs[k]?=some c->told[k]?=some r->fE E c.nd r/\r.ref=(k:Nat)
 dl:∀r∈dl,∃(k:Nat) (c:Cl),r.ref=(k:Nat)/\E.cs[k]?=some c/\c.op=4/\r.err=0/\fE E c.nd r
section
variable{told:List Rp}
theorem fE.here{i:Int}{r:Rp}{c:Cl}(h:fE E i r)(p:r.ref=(k:Nat))(b:E.cs[k]?=some c)(f:r.err=0):c.nd=i/\(c.op=3->E.K ⟨i,r.n⟩=some k)/\(c.op=4->1<=r.m.c/\r.m.c<=5/\r.m.q=c.q/\∃j d,E.K r.m.d=some j/\j < k/\E.cs[j]?=some d/\d.q=r.m.q/\d.b=r.m.b):=by
 obtain⟨g,q,s,a,m,n⟩:=h.at_;obtain rfl:g=k:=by omega
 rw[b]at a;injection a with a;subst a;exact⟨m,n f⟩
theorem fF.deliver(h:fF E told came dl)(b:pB E){r:Rp}(m:r∈dl):∃(k:Nat) (c:Cl) (j:Nat) (d:Cl),r.ref=(k:Nat)/\E.cs[k]?=some c/\j < k/\E.cs[j]?=some d/\d.op=3/\d.q=r.m.q/\d.b=r.m.b/\d.nd=r.m.d.nd/\1<=r.m.c/\r.m.c<=5/\r.m.q=c.q/\
  (came[j]?=some true->∀t,told[j]?=some t->t.err=0->t.n=r.m.d.n):=by
 obtain⟨k,c,f,g,n,p,q⟩:=h.dl r m;obtain⟨x,_,s⟩:=q.here f g p;obtain⟨a1,a2,a3,j,d,a4,a5,a6,a7,a8⟩:=s n;obtain⟨d',a,i,u⟩:=b.call _ _ a4;rw[a6]at a;injection a with a;subst a;refine⟨k,c,j,d,f,g,a5,a6,i,a7,a8,u,a1,a2,a3,fun hc t ht he=>?_⟩;obtain⟨c1,c2⟩:=h.ok j d t hc a6 ht;obtain⟨_,c3,_⟩:=c1.here c2 a6 he;have:=b.one _ _ _ (c3 i) a4;rw[<-this]
theorem fF.names(h:fF E told came dl)(A:pB E){c d:Cl}{r t:Rp}(b:E.cs[k]?=some c)(hd:E.cs[j]?=some d)(f:c.op=3)(g:d.op=3)(i:came[k]?=some true)(m:came[j]?=some true)
  (n:told[k]?=some r) (p:told[j]?=some t) (q:r.err=0) (s:t.err=0) (u:(⟨c.nd,r.n⟩:bC)=⟨d.nd,t.n⟩):k=j:=by
 obtain⟨a1,a2⟩:=h.ok k c r i b n;obtain⟨x,y⟩:=h.ok j d t m hd p;have a:=(a1.here a2 b q).2.1 f;have z:=(x.here y hd s).2.1 g;rw[u,z]at a;injection a with a;exact a.symm
theorem fF.push(h:fF E told came dl)(j:E.Le E'){c:Cl}(m:E'.cs=E.cs++[c])(z:Rp):fF E' (told++[z]) (came++[false]) dl:={
 lt:=by rw[m];simp[h.lt]
 lc:=by rw[m];simp[h.lc]
 ok k c r f i h3:=by
  have g:k < came.length:=by
   rcases jH k came.length with g|g
   ·exact g
   ·rw[jA g]at f;rcases qK (k - came.length)with e|e
    ·rw[e]at f;simp at f
    ·rw[jB (by simp;omega)]at f;cases f
  rw[qQ g]at f;rw[qQ (by rw[h.lt,<-h.lc];exact g)]at h3;rw[m,qQ (by rw[<-h.lc];exact g)]at i;obtain⟨a,b⟩:=h.ok k c r f i h3;exact⟨a.mono j,b⟩
 dl r hr:=by
  obtain⟨k,c,f,i,h3,n,p⟩:=h.dl r hr;exact⟨k,c,f,j.at_ i,h3,n,p.mono j⟩}
theorem fF.mono(h:fF E told came dl)(f:E.Le E')(g:E'.cs=E.cs):fF E' told came dl:={
 lt:=by rw[g];exact h.lt
 lc:=by rw[g];exact h.lc
 ok k c r i j h3:=by
  obtain⟨a,b⟩:=h.ok k c r i (by rw[<-g];exact j) h3;exact⟨a.mono f,b⟩
 dl r hr:=by
  obtain⟨k,c,i,j,h3,m,n⟩:=h.dl r hr;exact⟨k,c,i,f.at_ j,h3,m,n.mono f⟩}
theorem fF.take(h:fF E told came dl){c:Cl}{r:Rp}(a:E.cs[k]?=some c)(b:r.ref=(k:Nat))(f:fE E c.nd r):fF E (told.set k r) (came.set k true) dl:={
 lt:=by simp[h.lt]
 lc:=by simp[h.lc]
 ok j d t h1 h2 h3:=by
  by_cases e:j=k
  ·subst e;have g:j < told.length:=by rw[h.lt];exact(zE.1 a).1
   rw[yH g]at h3;injection h3 with h3;subst h3;rw[a]at h2;injection h2 with h2;subst h2;exact⟨f,b⟩
  ·rw[yF (by omega)]at h1 h3;exact h.ok j d t h1 h2 h3
 dl:=h.dl}
theorem fF.deliv(h:fF E told came dl){c:Cl}{r:Rp}(a:E.cs[k]?=some c)(b:r.ref=(k:Nat))(f:fE E c.nd r)(g:c.op=4)(i:r.err=0):fF E told came (dl++[r]):={
 lt:=h.lt
 lc:=h.lc
 ok:=h.ok
 dl t ht:=by
  rcases zK.1 ht with ht|ht
  ·exact h.dl t ht
  ·rw[qR]at ht;subst ht;exact⟨k,c,b,a,g,i,f⟩}
end
structure Ca where
 op:Int
 q:List UInt8
 b:List UInt8
 rc:Int
def q6:El Ca where
 ty:=48
 sl:=33
 s:=4
 bytes:=48
 z:=.agg #[I6 0,Se,Se,I6 0]
 f c:=[I6 c.op,.string (aF c.q),.string (aF c.b),I6 c.rc]
 und:=underlying33
 info:=by kernel_rfl
 zs:=rfl
 pos:=by decide
 len _:=rfl
 one d u hu:=by simp at hu;rcases hu with rfl|rfl|rfl|rfl<;>rfl
def fc:El Bool where
 ty:=4
 sl:=35
 s:=1
 bytes:=1
 z:=.bool false
 f c:=[.bool c]
 und:=underlying35
 info:=by kernel_rfl
 zs:=rfl
 pos:=by decide
 len _:=rfl
 one d u hu:=by simp at hu;subst hu;rfl
def sR(E:bX)(ca:List Ca):Prop:=ca.length=E.cs.length/\∀(k:Nat) c,E.cs[k]?=some c->∃r,ca[k]?=some ⟨c.op,c.q,c.b,r⟩
def xY(g aM:Nat)(a b:Int)(v1 v2 v3 v4 v5 v6 v7:Value):Array Value:=#[Pt g,I6 (aM:Nat),I6 a,I6 b,I6 30,I6 3,I6 12,I6 5,v1,v2,v3,v4,v5,v6,v7]
structure Gm(E:bX)(tld:List Rp)(came:List Bool)(dl:List Rp)(o:Ow)(w:World)(v1 v2 v3 v4 v5 v6 v7:Value):Prop where
 calls:∃ca,cZ q6 o (10,1) w v1 ca/\sR E ca
 nodes:cZ aC o (10,2) w v2 (E.cs.map Cl.nd)
 told:cZ cW o (10,3) w v3 tld
 came:cZ fc o (10,4) w v4 came
 les:cZ cW o (10,5) w v5 dl
 named:∃nm,cZ aJ o (10,6) w v6 nm/\nm.length<=1000*E.cs.length
 dl:cZ cW o (10,7) w v7 dl
structure fd(E:bX)(t g aM:Nat)(a b:Int)(tld:List Rp)(came:List Bool)(dl:List Rp)(o:Ow)(w:World):Prop where
 own:o t=(10,0)
 all:∃v1 v2 v3 v4 v5 v6 v7,am w t 38 (xY g aM a b v1 v2 v3 v4 v5 v6 v7)/\Gm E tld came dl o w v1 v2 v3 v4 v5 v6 v7
 law:fF E tld came dl
 cnt:dl.length<=came.count true
section
variable{t aM:Nat}{b:Int}{tld:List Rp}{v1 v3 v4 v5 v6 v7:Value}
theorem Gm.st(h:Gm E tld came dl o w v1 v2 v3 v4 v5 v6 v7)(a:St p o w o' w')(b:∀k,1<=k->¬p (10,k)):Gm E tld came dl o' w' v1 v2 v3 v4 v5 v6 v7:=by
 obtain⟨ca,c,f⟩:=h.calls;obtain⟨nm,g,i⟩:=h.named;exact⟨⟨ca,c.st a (b 1 (by omega)),f⟩,h.nodes.st a (b 2 (by omega)),h.told.st a (b 3 (by omega)),h.came.st a (b 4 (by omega)),h.les.st a (b 5 (by omega)),⟨nm,g.st a (b 6 (by omega)),i⟩,h.dl.st a (b 7 (by omega))⟩
theorem fd.st(h:fd E t g aM a b tld came dl o w)(c:St p o w o' w')(f:∀k,¬p (10,k)):fd E t g aM a b tld came dl o' w':=by
 obtain⟨v1,v2,v3,v4,v5,v6,v7,i,j⟩:=h.all;exact⟨by rw[c.old _ (ap i)];exact h.own,⟨v1,v2,v3,v4,v5,v6,v7,i.st c (by rw[h.own];exact f 0),j.st c (fun k _=>f k)⟩,h.law,h.cnt⟩
theorem fd.below(h:fd E t g aM a b tld came dl o w)(c:Below w.heap.size w w')(hf:aX o w):fd E t g aM a b tld came dl o w':=h.st (p:=fun _=>False) (.J c hf) (fun _=>_root_.id)
theorem fd.env(h:fd E t g aM a b tld came dl o w)(i:E.Le E')(c:E'.cs=E.cs):fd E' t g aM a b tld came dl o w:=by
 obtain⟨v1,v2,v3,v4,v5,v6,v7,j,⟨ca,k,f⟩,m,n,p,q,⟨nm,s,u⟩,x⟩:=h.all;exact⟨h.own,⟨v1,v2,v3,v4,v5,v6,v7,j,⟨ca,k,by unfold sR at f ⊢;rw[c];exact f⟩,by rw[c];exact m,n,p,q,⟨nm,s,by rw[c];exact u⟩,x⟩,h.law.mono i c,h.cnt⟩
theorem sR.push{ca:List Ca}(h:sR E ca){c:Cl}(r:Int)(a:E'.cs=E.cs++[c]):sR E' (ca++[⟨c.op,c.q,c.b,r⟩]):=by
 obtain⟨b,g⟩:=h;refine⟨by rw[a];simp[b],fun k d hk=>?_⟩;rw[a]at hk;by_cases e:k < E.cs.length
 ·rw[qQ e]at hk;obtain⟨r,i⟩:=g k d hk;exact⟨r,by rw[qQ (by omega)];exact i⟩
 ·rw[jA (by omega)]at hk;have f:k=E.cs.length:=by
   have:=(zE.1 hk).1;simp at this;omega
  subst f;simp at hk;subst hk;exact⟨r,by rw[<-b];simp⟩
theorem z1{l:List Bool}(h:l[k]?=some false):(l.set k true).count true=l.count true+1:=by
 induction l generalizing k with
 |nil=>simp at h
 |cons x l ih=>
  cases k with
  |zero=>
   simp at h;subst h;simp
  |succ k=>
   simp at h;have:=ih h;simp[List.count_cons,this];omega
end
theorem CF(g:Nat) A1 A2(n1 n2 c1 c2:Nat) xs ys(w:World)
  (hb:am w g 80 #[.slice A1 n1 c1,.slice A2 n2 c2]) (h1:Sl w 3 A1 n1 xs) (h2:Sl w 3 A2 n2 ys)
  (o1:∀u∈xs,u.oneCell'=true) (o2:∀u∈ys,u.oneCell'=true) (hn:(n1+n2)*32<=140737488355328):
  Cs 144 #[.slice (some ⟨g,0,none⟩) 2 2] w fun e w'=>∃v,Rt e v/\w'.ownsRow w.heap.size 104 3 v (n1+n2) (xs++ys)/\Below w.heap.size w w':=xC (Or.inr (Or.inr (Or.inr ⟨rfl,rfl,rfl,rfl,rfl,rfl,rfl⟩))) g A1 A2 n1 n2 c1 c2 xs ys w hb h1 h2 o1 o2 hn
theorem z7(w:World):Cs 22 #[] w fun e w'=>Rt e (Pt w.heap.size)/\w'=w.alloc (.cells #[aS,aS] 82):=by
 apply cI;go_in;go_wp2;go_ret;exact⟨rfl,rfl⟩
section
variable{v:Value}{ls:List Lt}
structure De(E:bX)(o:Ow)(w:World)(g:Nat)(x:Nat×Nat)(A:Option Addr)(c:Nat)(ls:List Lt)(vg:Value):Prop where
 ow:o g=x
 blk:am w g 82 #[.slice A ls.length c,vg]
 row:RI cY o w (.slice A ls.length c) ls
 len:ls.length<=10000
 cap:ls.length<=c
 ok:∀l∈ls,el E l.b
 grp:tA o w vg
theorem dO.ex(h:dO E o w g x):∃A c ls vg,De E o w g x A c ls vg:=by
 obtain⟨b,vl,vg,ls,f,a,i,j,k⟩:=h;obtain⟨A,c,rfl,m⟩:=a.rw.slice;exact⟨A,c,ls,vg,b,f,a,i,m,j,k⟩
theorem De.below{A}(h:De E o w g x A c ls vg)(hf:aX o w)(a:Below w.heap.size w w'):De E o w' g x A c ls vg:=
 ⟨h.ow,h.blk.below a,h.row.below a hf,h.len,h.cap,h.ok,h.grp.st (p:=fun _=>False) (.J a hf) _root_.id⟩
theorem z8{A}(h:De E o w g x A c ls vg):Cs 18 #[Pt g] w fun e w'=>Rt e (I6 (ls.length:Nat))/\w=w':=by
 have a:=am.cell h.blk 0;apply cI;go_in;go_wp2;go_ret;exact⟨rfl,rfl⟩
theorem gI{A}(i:Int)(h:De E o w g x A c ls vg):Cs 76 #[Pt g,I6 i] w fun e w'=>Rt e (.bool (decide (0<=i/\i < ls.length)))/\w=w':=by
 have f:=am.cell h.blk 0;by_cases h1:0<=i
 ·have a:decide (0<=i)=true:=by simpa using h1
  apply cI;go_in;go_wp2;go_ret;exact⟨by simp[h1],rfl⟩
 ·have a:decide (0<=i)=false:=by simpa using h1
  have b:i < 0:=by omega
  apply cI;go_in;go_wp2;go_ret;exact⟨by simp,rfl⟩
theorem GD{A}(h:k<=n)(i:n<=c) w:(Instr.slice 80 (.slice A n c) none (some (I6 (k:Nat))) none).run prog w=.ok (.slice A k c) w:=by
 obtain⟨a,hi,b,f,g⟩:=info_parts cY.info;exact eo (P:=prog) 80 104 a underlying80 hi .i64 A n c k (by omega) w
theorem De.dq{A A'}{a:List Lt}(h:De E o w g x A c ls vg)(j:x≠(0,0))(hf:aX o w)(f:Below w.heap.size w w1)(k:RI cY o w1 (.slice A' a.length b) a)(m:a.length<=10000)(i:∀l∈a,el E l.b):
  dO E o (w1.setCell ⟨g,0,none⟩ (.slice A' a.length b)) g x/\aW g w (w1.setCell ⟨g,0,none⟩ (.slice A' a.length b)):=dO.letters h.ow j hf h.blk h.grp f k m i
theorem j3{l:List Lt}(h:dO E o w g x)(S:x≠(0,0))(hf:aX o w)(hv:Rw cY w v l)(hl:l.length<=1000000000)(D:∀a∈l,el E a.b):
  Cs 56 #[Pt g,v] w (Fb E o w g x fun e _=>∃n:Nat,Rt e (I6 n)):=by
 obtain⟨A,c,ls,vg,b⟩:=h.ex;obtain⟨B,cm,rfl,F,G⟩:=hv;have T:=ce b.blk;obtain⟨H,hi,I,J,L⟩:=info_parts cY.info;obtain⟨m,hm,f⟩:∃m:Nat,min (l.length:Int) (10000 - (ls.length:Int))=(m:Nat)/\m<=l.length/\ls.length+m<=10000:=⟨(min (l.length:Int) (10000 - (ls.length:Int))).toNat,by have:=b.len;omega,by have:=b.len;omega⟩;have k4:(ls.length:Int)<=10000:=by have:=b.len;omega
 have kw:IntKind.i64.wrap (10000 - (ls.length:Int))=10000 - (ls.length:Int):=zZ _ (by omega);have hc:=ry (P:=prog) 80 104 H underlying80 hi .i64 .i64 A ls.length c ls.length b.cap;have hd:=fun W=>GD (A:=B) (c:=cm) (k:=m) f.1 F W;have U:Hid (Sl w 3 B m (cY.cells (l.take m))):=aH (by rw[<-El.bb _ _ _ f.1];exact G.sl.take f.1);have i:Hid ((l.take m).length=m/\∀a∈l.take m,el E a.b):=aH ⟨by rw[zU];omega,fun a ha=>D a (qZ ha)⟩;obtain⟨s,M,V,X⟩:=gD b hf (show ls.length+m<=maxLen by unfold maxLen;omega) (show(ls.length+m)*32<=140737488355328 by omega);have Y:Hid (fM w 104 3 A ls.length (cY.cells ls)):=aH (by obtain⟨Z,c',e,_,hr⟩:=b.row.rw;injection e with e1 e2 e3;subst e1;exact hr);apply cI;go_in;go_wp2_with fail;go_region_law ((refine kS _ rfl (.tmp 32) (.tmp 35) 80 rfl 104 H _ 3 32 underlying80 hi I J L A ls.length (cY.cells ls) (by rfl) Y.drew B m cm (cY.cells (l.take m)) (by rfl) U.drew V X ?_;intro Z c' w1 p u O he y;have N:=aH y;clear y;have C:=aH p;have j:=aH u;clear p u;have g0:Ce w1 g 0 (.slice A ls.length c):=aD j T;have f1:=am.frozen (s.blk.below ((bD w).trans (j.mono nR))) 0));all_goals
  have hb:Bw w w1:=((bD w)).trans (j.mono nR);have R:=RI.clipped (E:=cY) (t:=l.take m) s.row M (by rw[i.1];exact C) (by rw[i.1];exact O) (by rw[i.1];exact N);have q:=s.dq S M hb R (by rw[zC,i.1];exact f.2) (fun a ha=>by
   rcases zK.1 ha with ha|ha
   ·exact s.ok a ha
   ·exact i.2 a ha)
  rw[zC,i.1]at q;have z:=aH q;go_wp2_with fail;go_ret;exact⟨⟨m,rfl⟩,z.1,z.2⟩
theorem z6{A}(i:Int)(h:De E o w g x A c ls vg)(hi:¬(0<=i/\i < ls.length)):Cs 77 #[Pt g,I6 i] w fun e w'=>Rt e (.bool false)/\w=w':=by
 have a:=aH (gI i h);have hd:decide (0<=i/\i < ls.length)=false:=by simpa using hi
 rw[hd]at a;apply cI;go_in;go_wp2_with fail;refine a.mono ?_;rintro b f ⟨rfl,rfl⟩;go_wp2;go_ret;exact⟨rfl,rfl⟩
theorem j4{A}(h:De E o w g x A c ls vg)(N:x≠(0,0))(hf:aX o w)(D:k < ls.length):Cs 77 #[Pt g,I6 (k:Nat)] w (Fb E o w g x fun e _=>Rt e (.bool true)):=by
 have F:=aH (gI (k:Nat) h);have hd:decide (0<=(k:Int)/\(k:Int) < ls.length)=true:=by simp;exact D
 rw[hd]at F;have O:=ce h.blk;have R:=h.len;have t:=h.cap;obtain⟨G,hi,hb,H,hc⟩:=info_parts cY.info;have k0:(0:Int)<=(k:Int):=by omega
 have k1:(k:Int)<=(c:Int):=by omega
 have k2:(k:Int)+1<=(c:Int):=by omega
 have k3:(k:Int)+1<=(ls.length:Int):=by omega
 have k4:(ls.length:Int)<=10000:=by omega
 have k5:(k:Int)<=(ls.length:Int):=by omega
 have kw:IntKind.i64.wrap ((k:Int)+1)=(k:Int)+1:=zZ _ (by omega);have he:=eo (P:=prog) 80 104 G underlying80 hi .i64 A ls.length c k (by omega);obtain⟨u,hg,S,-⟩:=l8 (P:=prog) 80 104 G underlying80 hi 3 H .i64 A ls.length c ((k:Int)+1) (k+1) (by omega) (by omega) t;have I:fM w 104 3 A ls.length (cY.cells ls):=by obtain⟨y,z,e,_,T⟩:=h.row.rw;injection e with e1 e2 e3;subst e1;exact T
 have U:Hid (Sl w 3 A k (cY.cells (ls.take k))):=aH (by rw[<-El.bb _ _ _ (by omega)];exact I.sl.take (by omega));have V:Hid (Sl w 3 u (ls.length - (k+1)) (cY.cells (ls.drop (k+1)))):=aH (by rw[El.cz];exact S _ _ I.sl);have E1:Hid (k+(ls.length - (k+1))=(ls.eraseIdx k).length):=aH (by rw[List.length_eraseIdx,if_pos D];omega);have X:Hid (cY.cells (ls.take k)++cY.cells (ls.drop (k+1))=cY.cells (ls.eraseIdx k)):=aH (by rw[<-El.al,List.eraseIdx_eq_take_drop_succ]);obtain⟨B,J⟩:=gB h hf;have i:Bw w (w.alloc (.cells #[.slice A k c,.slice u (ls.length - (k+1)) (c - (k+1))] 80)):=ba _ _;have b:=aH i;have Y:=aD i.drew O;have Z:=am.frozen (h.blk.below i.drew) 0;apply cI;go_in;go_wp2_with fail;refine F.mono ?_;rintro _e _w ⟨rfl,rfl⟩;go_wp2_with fail;go_region_law (first|(go_simp;go_at_call 144;refine(CF w.heap.size A u k (ls.length - (k+1)) c (c - (k+1)) (cY.cells (ls.take k)) (cY.cells (ls.drop (k+1))) _ (am.new w _ _).drew (U.below b.drew) (V.below b.drew) (cY.cells_one _) (cY.cells_one _) (by omega)).mono ?_;rintro _e w1 ⟨v1,rfl,f,q⟩;obtain⟨y,z,rfl,hh⟩:=bV f;have C:=aH f;have j:=aH q;clear f q;have g0:=aD j Y;have f1:=(j.frozen (p:=⟨g,0,none⟩) (ap (B.blk.below b.drew))).trans Z));all_goals
  have L:Bw w w1:=b.drew.trans (j.mono b.size);have m:=C.out;rw[E1,X]at m;have M:aK cY w.heap.size w1 (.slice y (ls.eraseIdx k).length z) (ls.eraseIdx k):=aK.mono (E:=cY) (w:=w1) (v:=.slice y (ls.eraseIdx k).length z) (l:=ls.eraseIdx k) m (by simp);have n:=B.dq N J L (RI.aa M J) (by rw[<-E1];omega) (fun a ha=>B.ok a (List.mem_of_mem_eraseIdx ha));rw[<-E1]at n;have s:=aH n;go_wp2_with fail;go_ret;exact⟨rfl,s.1,s.2⟩
theorem CG{v}{l:List Int}(a b:Int)(g h:Nat)(hv:Rw aC w v l)(n:l.length<=1000)(p:Ce w g 0 (I6 a))(q:Ce w h 0 (I6 b)):
  Cs 145 #[v,Pt g,Pt h] w fun e w'=>(∃t,Rt e (.bool t))/\w=w':=by
 obtain⟨c,f⟩:=gB (cS a w hv (by omega)) (cS b w hv (by omega));obtain⟨t1,i⟩:=nx (l.contains a);obtain⟨t2,j⟩:=nx (l.contains b);rw[i]at c;rw[j]at f;cases t1
 ·apply cI;go_in;go_wp2_with fail;refine c.mono ?_;rintro k m ⟨rfl,rfl⟩;go_wp2;go_ret;exact⟨⟨_,rfl⟩,rfl⟩
 ·apply cI;go_in;go_wp2_with fail;refine c.mono ?_;rintro k m ⟨rfl,rfl⟩;go_wp2_with fail;refine f.mono ?_;rintro k m ⟨rfl,rfl⟩;go_wp2;go_ret;exact⟨⟨_,rfl⟩,rfl⟩
def GE(w:World)(A:Option Addr)(n c:Nat):Prop:=∃gs:List Gr,gs.length=n/\n<=1000/\Rw j2 w (.slice A n c) gs/\∀x∈gs,∃l:List Int,Rw aC w x.v l/\l.length<=1000
theorem tA.r(h:tA o w v):∃A n c,v=.slice A n c/\∀W,Below w.heap.size w W->GE W A n c:=by
 obtain⟨b,a,f,g⟩:=h;obtain⟨A,c,rfl,_⟩:=a.rw.slice;exact⟨A,_,c,rfl,fun W hb=>⟨b,rfl,f,a.rw.below hb,fun x hx=>by obtain⟨l,i,j⟩:=g x hx;exact⟨l,i.rw.below hb,j⟩⟩⟩
theorem vN{A}(a b:Int)(p q:Nat)(w:World)(h:GE w A n c)(u:Ce w p 0 (I6 a))(x:Ce w q 0 (I6 b)):
  Cs 234 #[.slice A n c,.func (.func 145) #[] #[Pt p,Pt q]] w fun e w'=>(∃z:Int,Rt e (I6 z))/\w=w':=by
 obtain⟨f,rfl,I,y,B⟩:=h;obtain⟨C,D⟩:=gB y B;apply cI;go_in;go_wp2;go_loop [8,5] (fun i _=>∃k:Nat,k<=f.length/\i=I6 k) (fun i _=>f.length - (intOf i).toNat)
 case atStart=>exact⟨0,zS _,rfl⟩
 case round=>
  obtain⟨k,J,rfl⟩:=hrel;by_cases hlt:k < f.length
  ·obtain⟨g,F,rfl,m⟩:=C.at_ (zA hlt);have G:Ce w g (F+k) (.slice f[k].a f[k].n f[k].c):=by have:=m 0 _ rfl;simpa[j2]using this
   obtain⟨l,j,s⟩:=D f[k] (zY hlt);unfold Gr.v at j;generalize f[k]=t at G j;have H:=aH (CG a b p q j s u x);go_wp2_with fail;refine H.mono ?_;rintro L M ⟨⟨t,rfl⟩,rfl⟩;cases t
   ·go_wp2;go_round
    case rel=>exact⟨k+1,by omega,by go_num⟩
    case measure=>simp[intOf];omega
   ·go_wp2;go_ret;exact⟨⟨_,rfl⟩,rfl⟩
  ·go_wp2;go_ret;exact⟨⟨_,rfl⟩,rfl⟩
theorem oW{A}(a b:Int)(f g:Nat)(w:World)(h:GE w A n c)(i:Ce w f 0 (I6 a))(j:Ce w g 0 (I6 b)):
  Cs 146 #[.slice A n c,.func (.func 145) #[] #[Pt f,Pt g]] w fun e w'=>(∃t,Rt e (.bool t))/\w=w':=by
 have k:=aH (vN a b f g w h i j);apply cI;go_in;go_wp2_with fail;refine k.mono ?_;rintro m p ⟨⟨z,rfl⟩,rfl⟩;go_wp2;go_ret;exact⟨⟨_,rfl⟩,rfl⟩
theorem Ai(a b:Int)(h:dO E o w g x):Cs 78 #[Pt g,I6 a,I6 b] w fun e w'=>(∃t,Rt e (.bool t))/\Below w.heap.size w w':=by
 obtain⟨A,c,ls,vg,i⟩:=h.ex;obtain⟨s,n,u,rfl,j⟩:=i.grp.r;obtain⟨W0,k,f,m,p⟩:=rt w #[I6 a] #[I6 b] 3 3;have a0:=am.cell m 0;have a1:=am.cell p 0;have y:=am.cell (i.blk.below f) 1;have q:=aH (oW a b w.heap.size (w.heap.size+1) W0 (j W0 f) a0 a1);apply cI;go_in;go_upto_region 1 with(fail);simp only[k.out];cases hab:a==b
 case true=>
  go_wp2;go_ret;exact⟨⟨_,rfl⟩,f⟩
 cases hn:((n:Int)==0)
 case true=>
  go_wp2;go_ret;exact⟨⟨_,rfl⟩,f⟩
 go_wp2_with fail;refine q.mono ?_;rintro z B ⟨⟨t,rfl⟩,rfl⟩;go_wp2;go_ret;exact⟨⟨_,rfl⟩,f⟩
end
def q7(E:bX)(cm cl:Nat->Prop)(tl:List Rp):Prop:=∀r∈tl,∃(k:Nat) (c:Cl),r.ref=(k:Nat)/\E.cs[k]?=some c/\fE E c.nd r/\cl k/\¬cm k
theorem sS{a:α}(h:l[j]?=some a):l.set j a=l:=by
 apply yZ;intro i;by_cases e:i=j
 ·subst e;rw[yH (zE.1 h).1,h]
 ·rw[yF (fun h=>e h.symm)]
section
variable{M:Nat}{b:Int}{w6:World}{ps:List Pl}{tl':List Rp}{p:Pl}{x:Option Nat}
structure GF(E:bX)(tv:Nat->Int)(nc:Nat)(a b:Int)(o:Ow)(w:World)(g:Nat)(ps:List Pl)(tl:List Rp)(A:Option Addr)(ca pp:Nat)(At:Option Addr)(ct:Nat):Prop where
 blk:am w g 58 #[I6 a,I6 b,I6 30,I6 3,I6 12,I6 5,.slice A ps.length ca,Pt pp,I6 (nc:Nat),.slice At tl.length ct]
 row:RI iq o w (.slice A ps.length ca) (ps.map Pl.pb)
 post:dO E o w pp (9,0)
 tld:cZ cW o (9,0) w (.slice At tl.length ct) tl
theorem e6.v(h:e6 E cm cl tv nc a b o w g ps tl):∃A ca c At ct,GF E tv nc a b o w g ps tl A ca c At ct:=by
 obtain⟨A,ca,c,vt,i,j,k,f⟩:=h.all;obtain⟨At,ct,rfl,_⟩:=f.rw.slice;exact⟨A,ca,c,At,ct,i,j,k,f⟩
theorem e6.dc{A At}{v6}(h:e6 E cm cl tv nc a b o w g ps tl)(hv:GF E tv nc a b o w g ps tl A ca n At B)(F:w.grownBy w6 (Value.slice At tl.length B).ownBlock)(q:cZ cW o' (9,0) w6 v6 tl')(c:St (·=(9,0)) o w o' w6)(G:q7 E cm cl tl')(H:(tl'.map Rp.ref).Nodup):
  e6 E cm cl tv nc a b o' (w6.setCell ⟨g,9,none⟩ v6) g ps tl'/\St (·=(9,0)) o w o' (w6.setCell ⟨g,9,none⟩ v6):=by
 have i:¬((0,0):Nat×Nat)=(9,0):=by simp
 have f:∀{t:TypeId} {cs:Array Value} {k:Nat},am w k t cs->cW.ty≠t->am w6 k t cs:=fun{t cs k} hb hne=>am.grown hb F (fun e=>by
  obtain⟨R,s⟩:=hv.tld.1.ty e.symm;exact aT hb s (fun e=>hne e.symm) rfl)
 have C:=f hv.blk (by decide);have D:o' g=(9,0):=by rw[c.old _ (ap hv.blk)];exact h.own
 have j:=aB w6 g 9 v6;have m:St (·=(9,0)) o' w6 o' (w6.setCell ⟨g,9,none⟩ v6):=.U j D c.far;have u:=c.trans m;refine⟨⟨D,m.far,eN.st (eN.st h.tab c i) m i,h.kok,h.cs,h.len,⟨A,ca,n,v6,am.I C 9 v6,(hv.row.st c i).st m i,?_,?_,?_⟩,fun p hp=>?_,h.pn,h.cmcl,G,H,h.cfg⟩,u⟩
 ·obtain⟨I,vl,vg,ls,x,J,L,M,N⟩:=hv.post;have ne:n≠g:=aT x hv.blk (by decide);exact⟨by rw[c.old _ (ap x)];exact I,vl,vg,ls,(f x (by decide)).only j ne,J.st u i,L,M,N.st u i⟩
 ·exact aK.keep q.1 j fun k e eq=>by
   injection eq with eq;subst eq;obtain⟨cs,s⟩:=q.1.ty e;exact aT s C (by decide) rfl
 ·exact q.2
 ·obtain⟨O,z,t,y⟩:=h.pl p hp;exact⟨by rw[c.old _ (ap y)];exact O,z,t,(f y (by decide)).only j (aT y hv.blk (by decide))⟩
theorem iY(f:e6 E cm cl tv nc a b o w g ps tl)(h:ps[j]?=some p):Cs 13 #[Pt g,I6 ((j:Int)+1)] w fun e w'=>Rt e (Pt p.pb)/\w=w':=by
 obtain⟨A,ca,s,At,t,hv⟩:=f.v;have i:=f.len.2;have q:=(zE.1 h).1;have k:(ps.map Pl.pb)[j]?=some p.pb:=by rw[qS,h];rfl
 obtain⟨m,n,rfl,c⟩:=hv.row.rw.at_ k;have u:Ce w m (n+j) (Pt p.pb):=by have:=c 0 _ rfl;simpa[iq]using this
 have x:=am.cell hv.blk 6;have y:decide ((j:Int)+1 < 1)=false:=by simp;omega
 have z:decide ((ps.length:Int) < (j:Int)+1)=false:=by simp;omega
 have B:IntKind.i64.wrap ((j:Int)+1 - 1)=(j:Int):=by rw[show(j:Int)+1 - 1=j by omega];exact zZ _ (by omega)
 have C:(0:Int)<=(j:Int):=by omega
 have D:(j:Int) < (ps.length:Int):=by omega
 apply cI;go_in;go_wp2;go_ret;exact⟨rfl,rfl⟩
theorem DP(c:e6 E cm cl tv nc a b o w g ps tl)(id:Int)(h:id < 1\/(ps.length:Int) < id):Cs 13 #[Pt g,I6 id] w fun e w'=>Rt e (.pointer none)/\w=w':=by
 obtain⟨A,ca,i,At,j,hv⟩:=c.v;have k:=am.cell hv.blk 6;by_cases h1:id < 1
 ·have f:decide (id < 1)=true:=by simpa using h1
  apply cI;go_in;go_wp2;go_ret;exact⟨rfl,rfl⟩
 ·have f:decide (id < 1)=false:=by simpa using h1
  have m:decide ((ps.length:Int) < id)=true:=by simp;omega
  apply cI;go_in;go_wp2;go_ret;exact⟨rfl,rfl⟩
theorem vO(c:e6 E cm cl tv nc a b o w g ps tl):Cs 20 #[Pt g] w fun e w'=>∃v o',Rt e v/\cZ cW o' (9,0) w' v tl/\e6 E cm cl tv nc a b o' w' g ps []/\St (·=(9,0)) o w o' w':=by
 obtain⟨A,ca,n,At,f,hv⟩:=c.v;have p:=am.cell hv.blk 9;have q:=am.frozen hv.blk 9;obtain⟨h,i⟩:=c.dc (w6:=w) (o':=o) (v6:=aS) (tl':=[]) hv (jQ w _) (cZ.nil _ _ _) (.refl c.fin) (fun r hr=>by cases hr) (by simp);have j:cZ cW o (9,0) (w.setCell ⟨g,9,none⟩ (aS)) (.slice At tl.length f) tl:=⟨aK.keep hv.tld.1 (aB w g 9 _) fun k e eq=>by
  injection eq with eq;subst eq;obtain⟨cs,m⟩:=hv.tld.1.ty e;exact aT m hv.blk (by decide) rfl,hv.tld.2⟩
 have K:=aH (zB h (zB i j));apply cI;go_in;go_wp2;go_ret;exact⟨_,o,rfl,K.2.2,K.1,K.2.1⟩
theorem vP{v1 v2}{lets:List Lt}(i:e6 E cm cl tv nc a b o w g ps tl)(I:Rw cW w v1 reps)(U:Rw cY w v2 lets)(J:lets.length<=1000000000)(L:∀l∈lets,el E l.b)(C:q7 E cm cl reps)(M:((tl++reps).map Rp.ref).Nodup):
  Cs 31 #[Pt g,v1,v2] w fun e w'=>Rt e (.tuple #[])/\∃o',e6 E cm cl tv nc a b o' w' g ps (tl++reps)/\St (·=(9,0)) o w o' w':=by
 obtain⟨A,ca,V,At,X,hv⟩:=i.v;have y9:=rz hv.blk;obtain⟨A1,c1,rfl,hb⟩:=I.slice;have D:(tl++reps).length<=1000:=by
  have Y:((tl++reps).map fun r=>r.ref.toNat).Nodup:=by
   have Z:=jE.1 M;refine jE.2 (Z.imp_of_mem fun{x y} hx H hne e=>hne ?_);have s:∀z∈tl++reps,∃k:Nat,z.ref=(k:Nat):=fun z f=>by
    rcases zK.1 f with f|f
    ·obtain⟨k,_,e,_⟩:=i.told z f;exact⟨k,e⟩
    ·obtain⟨k,_,e,_⟩:=C z f;exact⟨k,e⟩
   obtain⟨k,e1⟩:=s x hx;obtain⟨k',j⟩:=s y H;omega
  have h4:=dY E.cs.length _ Y (fun x hx=>by
   obtain⟨z,f,rfl⟩:=zV.1 hx;have s:∃(k:Nat) (c:Cl),z.ref=(k:Nat)/\E.cs[k]?=some c:=by
    rcases zK.1 f with f|f
    ·obtain⟨k,c,e,j,_⟩:=i.told z f;exact⟨k,c,e,j⟩
    ·obtain⟨k,c,e,j,_⟩:=C z f;exact⟨k,c,e,j⟩
   obtain⟨k,c,e1,j⟩:=s;have:=(zE.1 j).1;omega)
  have:=i.cs;simpa using zD h4 this
 have ha:tl.length+reps.length<=1000:=by simpa using D
 obtain⟨m,N,H1,H2⟩:=gD hv i I U;have HT:Hid (q7 E cm cl (tl++reps)):=aH fun r hx=>by
  rcases zK.1 hx with hx|hx
  ·exact i.told r hx
  ·exact C r hx
 obtain⟨HL,HN,HO⟩:=gC L M hv.tld.1;apply cI;go_in;go_upto_region 1 with(at_builtin;refine eP cW rfl (.tmp 10) (.tmp 11) rfl HO (zS _) rfl rfl H1 (by show(tl.length+reps.length)*88<=140737488355328;omega) (by omega) ?_;intro v6 w6 u h G;obtain⟨A6,c6,B,_⟩:=u.rw.slice;simp only[zC]at B;subst B;have F:=am.grown m.blk h (fun e=>by obtain⟨hc,H⟩:=m.tld.1.ty e.symm;exact aT m.blk H (by decide) rfl);have g9:=rz F;have f9:=am.frozen F 9)
 obtain⟨o6,k1,k2⟩:=m.tld.app (p:=(·=(9,0))) N.fin rfl u h (G.imp _root_.id fun e=>⟨_,e,nR⟩);obtain⟨t,O⟩:=N.dc m h k1 k2 HT HN;obtain⟨W7,q⟩:=nM (w6.setCell ⟨g,9,none⟩ (.slice A6 (tl.length+reps.length) c6));rw[q]at t O;simp only[q.out];obtain⟨A,ca,V,At,X,hv⟩:=t.v;have y7:=fb hv.blk;have R:Rw cY W7 v2 lets:=by
  rw[<-q];exact(H2.df h m.tld.1 (by decide)).only (aB w6 g 9 _) F (by decide)
 obtain⟨HS,Q1,Q2,S⟩:=gD (j3 hv.post (by simp) t.fin R J HL) t O hv;go_wp2_with fail;refine HS.mono ?_;rintro _e w8 ⟨⟨n,rfl⟩,h8,T⟩;obtain⟨q3,q4⟩:=Q1.post S.blk T h8;obtain⟨Q3,Q4⟩:=gB q3 (Q2.trans q4);go_wp2_with fail;go_end0;exact⟨rfl,o6,Q3,Q4⟩
end
section
open Go.Maps Go.Sort Go.Shelf
abbrev tB(p:Pe):Value:=.agg #[I6 p.id,I6 p.inc,I6 p.st]
structure A4 where
 p:Pe
 ok:cA p
def F0(k:Int):Bool:=decide (-9223372036854775808<=k)&&decide (k<=9223372036854775807)
theorem xZ(k:Int):F0 k=true↔bN k:=by unfold F0 bN;simp
def Df:Value->Option (DataW Unit×List MemPlace)
 | .agg ⟨[.int .i64 a,.int .i64 b,.int .i64 c]⟩=>if F0 a&&F0 b&&F0 c then some (.nil,[])else none
 |_=>none
theorem Fc{p:Pe}(h:cA p):Df (tB p)=some (.nil,[]):=by
 unfold cA at h;simp only[<-xZ]at h;simp[Df,h.1,h.2.1,h.2.2]
theorem DQ:∀v y,Df v=some y->∃c:A4,v=tB c.p:=by
 intro v y h;unfold Df at h;split at h
 ·rename_i a b c;split at h
  ·rename_i hc;simp only[yE,xZ]at hc;exact⟨⟨⟨a,b,c⟩,hc.1.1,hc.1.2,hc.2⟩,rfl⟩
  ·cases h
 ·cases h
theorem lL{R:Value->Option (DataW Unit×List MemPlace)}{m:IM}(h:b4 w b m)(n:∀p∈m,bN p.1/\R p.2=some (.nil,[]))(C:m.length<=maxLen):
  ∃D:DataW Unit,w.ownsMap Tryz.prog 3 R b m.length D/\Maps.size D<=m.length:=by
 obtain⟨c,clock,q,s,j⟩:=h;have t:c.size=m.length:=by have:=congrArg List.length j;simpa using this
 have u:Tryz.prog.underlying 3=some (.int .i64):=by kernel_rfl
 have k:∀x∈c.toList,∃a,WideElems.rd Tryz.prog 3 R x=some (.int .i64 a,.nil):=by
  intro x i;have:(x.key,x.val)∈c.toList.map (fun e=>(e.key,e.val)):=zV.2 ⟨x,i,rfl⟩;rw[j]at this;obtain⟨p,y,g⟩:=zV.1 this;unfold gk at g;injection g with e1 e2;obtain⟨⟨F,G⟩,z⟩:=n p y;have A:(Lit.int .i64 p.1).wf=true:=by simp[Lit.wf,show IntKind.i64.min= -9223372036854775808 from rfl,show IntKind.i64.max=9223372036854775807 from rfl];omega
  refine⟨p.1,?_⟩;unfold WideElems.rd;rw[<-e1,<-e2,keyOf_int_mk u A,z];rfl
 have f:w.ownsMap Tryz.prog 3 R b m.length (.map ((c.toList.map (WideElems.rg Tryz.prog 3 R)).foldr DataW.insert [])):=
  ⟨c,clock,q,⟨by omega,s,fun x i=>by obtain⟨a,B⟩:=k x i;exact⟨_,B⟩⟩,by omega,rfl⟩
 exact⟨_,f,f.size_le⟩
theorem CH(F:Fence)(n:Nat)(A:F.fn 299)(B:F.round=none)(hn:1<=n)(l C b j:Nat)(f:DataW Unit)(J:List A4->World->Prop)
  (T:∀pre x W,J pre W->pre.length < Maps.size f->YieldAt F (n - 1) prog l #[tB x.p] W fun e W'=>Rt e (.bool true)/\J (pre++[x]) W'/\KeepsWalks W W')
  (W:World) (m:AbidesFrom W.heap.size J) (hm:Ce W C 0 (.map (some b))) (q:W.ownsMap prog 3 Df b j f) (U:J [] W):
  CallsIn F n prog 299 #[.func (.yield l) #[] #[],Pt C] W fun e W'=>(∃v,Rt e v)/\∃a:List A4,a.length<=Maps.size f/\J a W':=by
 have s:prog.underlying 3=some (.int .i64):=by kernel_rfl
 have D:prog.underlying 272=some (.map 3 121):=by kernel_rfl
 refine callsIn_of_wp func299 rfl A ?_ B;simp only[ntmps299,qT,zQ,qI,Nat.reduceAdd,Nat.reduceSub,jT,jU,yI,jX,qY,jW];gi_wp2_with (first
  |(gi_at_range;refine wpListIn_range_own _ rfl _ 272 rfl 3 121 (int_keyed s) D _ b j _ rfl q ?_;intro w0 t G hc)
  |gi_in)
 go_frame;gi_loopw [4] (fun _ wr=>∃(left:Lit->Bool) (g:Nat) (a:List A4),wr.ranges prog 3 Df b W.heap.size j f left g/\a.length+g<=Maps.size f/\J a wr)
  (fun _ wr=>wr.rangeLeft b W.heap.size)
 case atStart=>
  exact⟨_,_,[],t,by simp,m [] W w0 none U G (fun r e=>by cases e)⟩
 case round=>
  obtain⟨left,g,a,h,bI,k⟩:=hrel;gi_wp2_with (first
   |(gi_at_next;refine wpListIn_next_ranges _ rfl _ rfl 3 (int_keyed s) Df encZ (fun c:A4=>tB c.p) (fun key X hk=>by obtain⟨x,V,_⟩:=Maps.keyOf_i64 s hk;exact⟨x,V⟩) DQ b W.heap.size j _ _ _ rfl h ?_ ?_)
   |gi_in)
  ·intro hd he;gi_wp2;go_end0;exact⟨⟨_,rfl⟩,a,by omega,k⟩
  ·intro x c X yd yp w2 u Y hf hv hg y H I hh hj;have L:=m a wr w2 (some W.heap.size) k I (fun r e=>by cases e;exact⟨nR,h.iter_walk⟩);obtain⟨p,Z⟩:∃p:A4,p=c:=⟨c,rfl⟩;subst Z;have M:J a (w2.alloc (.cells #[I6 p.p.id,I6 p.p.inc,I6 p.p.st] 121)):=m a w2 _ none L (qN w2 _ none) (fun r e=>by cases e);have z:=y.alloc (.cells #[I6 p.p.id,I6 p.p.inc,I6 p.p.st] 121);have N:=am.three (am.new w2 121 #[I6 p.p.id,I6 p.p.inc,I6 p.p.st]);obtain⟨y0,y1,y2⟩:=N;obtain⟨fn,ha,O,hb,hy,hR⟩:=T a p _ M (by omega);gi_wp2;refine hR.mono ?_;rintro e W4 ⟨rfl,R,S⟩;have i:=z.of_walks S;gi_wp2;go_roundw
   case rel=>exact⟨_,u,a++[p],i,by simp;omega,R⟩
   case measure=>rw[i.left_eq,h.left_eq];exact H
theorem vQ(F:Fence)(n:Nat)(i:F.fn 299)(j:F.round=none)(q:1<=n)(a b h:Nat)(D0:DataW Unit)(w:World)(k:a < w.heap.size)(s:Ce w a 0 (.map (some b)))(f:w.ownsMap prog 3 Df b h D0):
  SeqGives F n prog 299 #[Pt a] (fun c:A4=>tB c.p) (fun ss=>ss.length<=Maps.size D0) (Maps.size D0) w:=fun l J W hW hJ hY h0=>by
 have g:W.ownsMap prog 3 Df b h D0:=by
  have m:=f.lt;obtain⟨t,clock,u,x,y,z⟩:=f;exact⟨t,clock,(hW.block b m).trans u,x,y,z⟩
 exact CH F n i j q l a b h D0 J hY W hJ ((hW.cell (p:=⟨a,0,none⟩) k).trans s) g h0
def oC:_root_.Go.Code:=(Code.region 2 #[{dst:=some 5,op:=Op.alloc 121,type:=0,pos:= "iter.go:51",after:=#[],guard:=none},{dst:=none,op:=Op.store 121 (Operand.tmp 5) (Operand.tmp 7),type:=0,pos:= "iter.go:51",after:=#[{on:=0,ground:=Ground.data},{on:=0,ground:=Ground.phase}],guard:=none}] false)
def vR:_root_.Go.Code:=(Code.block 1 (Code.region 3 #[{dst:=some 8,op:=Op.load 117 (Operand.tmp 2),type:=117,pos:= "iter.go:52",after:=#[],guard:=none},
 {dst:=some 9,op:=Op.load 121 (Operand.tmp 5),type:=121,pos:= "iter.go:52",after:=#[],guard:=none},
 {dst:=some 10,op:=Op.buildSlice 117 1 #[(0,Operand.tmp 9)],type:=117,pos:= "iter.go:52",after:=#[{on:=1,ground:=Ground.data}],guard:=none},
 {dst:=some 11,op:=Op.call {callee:=Callee.builtin Builtin.append,args:=#[Operand.tmp 8,Operand.tmp 10],argTypes:=#[117,117]},type:=117,pos:= "iter.go:52",after:=#[{on:=0,ground:=Ground.data},{on:=2,ground:=Ground.data}],guard:=none},
 {dst:=none,op:=Op.store 117 (Operand.tmp 2) (Operand.tmp 11),type:=0,pos:= "iter.go:52",after:=#[{on:=3,ground:=Ground.data},{on:=3,ground:=Ground.chain},{on:=0,ground:=Ground.phase},{on:=1,ground:=Ground.phase},{on:=2,ground:=Ground.phase},{on:=3,ground:=Ground.phase}],guard:=none}] false))
def kE(fn:FuncId)(sv:Value)(Bs D:Nat)(st:LoopState):Loop:=
 {state:=st,pending:=none,fn,tmps:=#[aS,sv,Pt Bs,undef,aS,undef,sv,undef,undef,undef,undef,undef,undef],params:=#[7],assign:=oC,body:=vR,defers:=D}
structure CI(w0:World)(fn:FuncId)(sv:Value)(Bs l D:Nat)(ss:List Pe)(W:World):Prop where
 box:∃v,am W Bs 117 #[v]/\aK aL w0.heap.size W v ss
 L:W.heap[l]?=some (.loop (kE fn sv Bs D .ready))
 K:W.heap[D]?=some (.deferred (some []))
 below:Below w0.heap.size w0 W
 ok:∀p∈ss,cA p
theorem Aj(w0:World)(b:FuncId) sv(Bs l D B:Nat)(hB:w0.heap.size<=B):AbidesFrom B (CI w0 b sv Bs l D):=fun s W W' row h hg hrow=>by
 have a:∀r,row=some r->∃o:Obj,W.heap[r]?=some o/\o.isWalk=true:=fun r e=>(hrow r e).2
 obtain⟨v,hv,c⟩:=h.box
 exact⟨⟨v,(grownBy_keeps hg a hv rfl).trans hv,ownsRow_abides_a c hg a⟩,(grownBy_keeps hg a h.L rfl).trans h.L,(grownBy_keeps hg a h.K rfl).trans h.K,
  h.below.grown hg h.below.size (fun k e=>zD hB (hrow k e).1),h.ok⟩
theorem CJ(F:Fence)(m:Nat)(w0:World)(L:FuncId)(hz:F.fn L) sv(Bs l D:Nat)(hBl:Bs≠l)(hDl:D≠l)(hDB:D≠Bs)(h0B:w0.heap.size<=Bs)(h0l:w0.heap.size<=l)
  (N:Nat) (hN:N<=1000000) (ss:List Pe) (x:Pe) (hx:cA x) W (h:CI w0 L sv Bs l D ss W) (hlen:ss.length < N):
  YieldAt F m prog l #[tB x] W fun e W'=>Rt e (.bool true)/\CI w0 L sv Bs l D (ss++[x]) W'/\KeepsWalks W W':=by
 obtain⟨i0,hi,hA,hB,hC⟩:=info_parts aL.info;obtain⟨v,hv,X⟩:=h.box;refine⟨L,#[aS,sv,Pt Bs,undef,aS,undef,sv,tB x,undef,undef,undef,undef,undef],oC,vR,by simpa[kE]using run_yield (P:=prog) (args:=#[tB x]) h.L rfl,roundIn_of_wpIn hz ?_⟩;have hD:l < W.heap.size:=ap h.L;have hE:Bs < W.heap.size:=ap hv;have hF:D < W.heap.size:=ap h.K;have e1:=am.new W 121 #[I6 x.id,I6 x.inc,I6 x.st];have M:=qN W (.cells #[I6 x.id,I6 x.inc,I6 x.st] 121) none;have Y:=KeepsWalks.alloc W (.cells #[I6 x.id,I6 x.inc,I6 x.st] 121);have ha:(W.alloc (.cells #[I6 x.id,I6 x.inc,I6 x.st] 121)).heap.size=W.heap.size+1:=by simp
 obtain⟨W1,hj⟩:=nM (W.alloc (.cells #[I6 x.id,I6 x.inc,I6 x.st] 121));rw[hj]at e1 M Y ha;have O:=(M.block l hD (by simp)).trans h.L;have hl:=run_beginRound (P:=prog) O rfl;obtain⟨W2,s⟩:=nx (W1.putObj l (.loop {kE L sv Bs D .ready with state:=.busy}));rw[s]at hl;have t:W1.grownBy W2 (some l):=by rw[<-s];exact grownBy_putObj_a _ _ _
 have R:KeepsWalks W1 W2:=by rw[<-s];exact KeepsWalks.putObj _ O rfl
 have C:W2.heap[l]?=some (.loop {kE L sv Bs D .ready with state:=.busy}):=by rw[<-s];exact World.putObj_heap_same (by omega)
 have hm:am W2 W.heap.size 121 #[I6 x.id,I6 x.inc,I6 x.st]:=(t.block _ (by omega) (by simp;omega)).trans e1;have S:am W2 Bs 117 #[v]:=(t.block _ (by omega) (by simp;omega)).trans ((M.block _ hE (by simp)).trans hv);have G:W2.heap[D]?=some (.deferred (some [])):=(t.block _ (by omega) (by simp;omega)).trans ((M.block _ hF (by simp)).trans h.K);have z:aK aL w0.heap.size W1 v ss:=X.keep M (fun k _ e=>by cases e);have c:aK aL w0.heap.size W2 v ss:=z.keep t (fun k hk e=>by
  injection e with e;subst e;rcases z.2 with⟨a,_⟩|⟨g,cap,T,a,_,f,_⟩
  ·rw[a]at hk;simp[Value.ownBlock]at hk
  ·rw[a]at hk;simp[Value.ownBlock]at hk;subst hk;rw[O]at f;cases f)
 have y:Bw w0 W2:=(h.below.grown M h.below.size (fun k e=>by cases e)).grown t (by have:=h.below.size;omega) (fun k e=>by cases e;exact h0l);obtain⟨c0,c1,c2⟩:=am.three hm;have b0:=ce S;have hb:W2.heap.size=W.heap.size+1:=by rw[<-s];simp[World.putObj];exact ha
 have Z:=aH (zB c (zB y (zB S (zB C (zB G (zB R (zB Y h.ok)))))));clear s O e1 M X z hv h S C G hm t R Y y;unfold oC;gi_wp2_with gi_round_op_a;simp only[hj.out];refine⟨_,hl,?_⟩;have U:=ba W2 (.cells #[I6 x.id,I6 x.inc,I6 x.st] 121);have hn:=aI (e:=aL.ty) Z.1 U;have ho:∀j u,(aL.f x)[j]?=some u->(W2.alloc (.cells #[I6 x.id,I6 x.inc,I6 x.st] 121)).cell? ((⟨W2.heap.size,0,none⟩:Addr).add j)=some u:=fun j u hu=>by
  have e:(⟨W2.heap.size,0,none⟩:Addr).add j=⟨W2.heap.size,j,none⟩:=by simp[Addr.add];intro h;exact h.symm
  rw[e,(am.new W2 121 #[I6 x.id,I6 x.inc,I6 x.st]).cell];simpa[aL]using hu
 obtain⟨hq,hG⟩:=gB hn ho;have hH:(ss.length+1)*24<=140737488355328:=by omega
 have hI:ss.length+1<=maxLen:=by unfold maxLen;omega
 have hJ:w0.heap.size<=(W2.alloc (.cells #[I6 x.id,I6 x.inc,I6 x.st] 121)).heap.size:=by have:=Z.2.1.size;simp;omega
 have hK:=aH hb;clear hn ho U hb;unfold vR;gi_wp2_with (first
  |(gi_at_builtin;refine wpListIn_append_own _ rfl _ _ 117 rfl w0.heap.size 121 i0 aL.z 3 24 underlying117 hi hA hB hC rfl (by decide) v ss.length (aL.cells ss) rfl hq ⟨W2.heap.size,0,none⟩ 1 1 (aL.f x) rfl rfl hG (aL.one x) hI hH hJ ?_;intro v' w3 i n hT
    have q:am w3 Bs 117 #[v]:=am.grown (Z.2.2.1.alloc _) n (aK.ne (E:=aL) hq (Z.2.2.1.alloc _) (by decide));have b3:=ce q;have f3:=am.frozen q 0;obtain⟨g',b,A,rfl,hL,hy,hU,hV,hM,hO⟩:∃g' b A,v'=.slice (some ⟨g',0,none⟩) (ss.length+1) b/\w0.heap.size<=g'/\w3.heap[g']?=some (.cells A 121 (0,0))/\ss.length+1<=b/\b<=maxLen/\A.size=b*3/\A.toList.take ((ss.length+1)*3)=aL.cells ss++aL.f x:=by
     rcases i.2 with⟨_,h0⟩|h'
     ·exact absurd h0 (by omega)
     ·exact h'
    have hP:=aH (zB i (zB n q));clear i n q hy hM hO;go_frame)
  |gi_round_op_a)
 obtain⟨c,y,S,C,G,R,Y,hQ⟩:=Z.out;obtain⟨i,n,q⟩:=hP.out;have hb:=hK.out;have hh:∀{k:Nat} {r:Loop},W2.heap[k]?=some (.loop r)->some k≠v.ownBlock:=fun{k r} hk e=>by
  rcases c.2 with⟨a,_⟩|⟨g,cap,T,a,_,f,_⟩
  ·rw[a]at e;simp[Value.ownBlock]at e
  ·rw[a]at e;simp[Value.ownBlock]at e;subst e;rw[hk]at f;cases f
 have hc:∀{k:Nat} {r:Option (List Deferred)},W2.heap[k]?=some (.deferred r)->some k≠v.ownBlock:=fun{k r} hk e=>by
  rcases c.2 with⟨a,_⟩|⟨g,cap,T,a,_,f,_⟩
  ·rw[a]at e;simp[Value.ownBlock]at e
  ·rw[a]at e;simp[Value.ownBlock]at e;subst e;rw[hk]at f;cases f
 have U:=qN W2 (.cells #[I6 x.id,I6 x.inc,I6 x.st] 121) none;have hr:=(n.block l (by simp;omega) (hh C)).trans ((U.block l (by omega) (by simp)).trans C);have hs:=(n.block D (by simp;omega) (hc G)).trans ((U.block D (by omega) (by simp)).trans G);have ht:Bw w0 w3:=((y.alloc y.size _).grown n (by have:=y.size;simp;omega) (fun k e=>(aK.lt (E:=aL) c k e).1));have H:aK aL w0.heap.size w3 (.slice (some ⟨g',0,none⟩) (ss.length+1) b) (ss++[x]):=by
  unfold aK;rw[El.al,El.aw,zC];exact i
 obtain⟨w4,hd⟩:=nx (w3.setCell ⟨Bs,0,none⟩ (.slice (some ⟨g',0,none⟩) (ss.length+1) b));have I:=aB w3 Bs 0 (.slice (some ⟨g',0,none⟩) (ss.length+1) b);have hf:=am.I q 0 (.slice (some ⟨g',0,none⟩) (ss.length+1) b);have B:=aK.keep (E:=aL) H I (fun k e he=>aK.ne (E:=aL) H q (by decide) (he.trans e.symm));have hR:KeepsWalks W w4:=(((Y.trans R).trans (KeepsWalks.alloc W2 _)).trans (KeepsWalks.of_grownBy n (fun k ob e hk=>by
  rcases c.2 with⟨a,_⟩|⟨g,cap,T,a,_,f,_⟩
  ·rw[a]at e;simp[Value.ownBlock]at e
  ·rw[a]at e;simp[Value.ownBlock]at e;subst e;have h3:=(U.block g (ap f) (by simp)).trans f;rw[h3]at hk;injection hk with hk;subst hk;rfl))).trans (by rw[<-hd];exact KeepsWalks.setCell _ _ _)
 have J:=(I.block l (ap hr) (by simp;omega)).trans hr;have hg:=(I.block D (ap hs) (by simp;omega)).trans hs;have hw:Bw w0 w4:=hd▸ht.grown I ht.size (fun k e=>by cases e;exact h0B);rw[hd]at I hf B J hg ⊢;have hS:l < w4.heap.size:=ap J;have gp:=grownBy_putObj_a w4 l (.loop {{kE L sv Bs D .ready with state:=.busy}with state:=if(none:Option _root_.Go.Code).isNone then .ready else .done,pending:=none});refine⟨_,_,run_endRound none J,rfl,⟨⟨_,(gp.block Bs (ap hf) (by simp;omega)).trans hf,?_⟩,World.putObj_heap_same hS,(gp.block D (ap hg) (by simp;omega)).trans hg,hw.grown gp hw.size (fun k e=>by cases e;exact h0l),?_⟩,hR.trans (KeepsWalks.putObj _ J rfl)⟩
 ·exact aK.keep (E:=aL) B gp (fun k e he=>by
   injection he with he;subst he;rcases B.2 with⟨a,_⟩|⟨g,cap,T,a,_,f,_⟩
   ·rw[a]at e;simp[Value.ownBlock]at e
   ·rw[a]at e;simp[Value.ownBlock]at e;subst e;rw[J]at f;cases f)
 ·intro p V;rcases zK.1 V with V|V
  ·exact hQ p V
  ·simp at V;subst V;exact hx
theorem q8(F:Fence)(n:Nat)(L:F.fn 364)(B:F.round=none)(Z:2<=n)(g:Nat) lb(hFg:F.fn g)(eg:∀args w,(callFunc g args).run prog w=.ok (.enter g args) w)
  (N:Nat) (hN:N<=1000000) w (hseq:SeqGives F (n - 1) prog g lb (fun c:A4=>tB c.p) (fun y=>y.length<=N) N w):
  CallsIn F n prog 364 #[aS,.func (.func g) #[] lb] w (b6 aL w N cA):=by
 have a:1<=n:=by omega
 refine callsIn_of_wp_marks func364 rfl L ?_ B;simp only[ntmps364,qT,zQ,qI,Nat.reduceAdd,Nat.reduceSub,jT,jU,yI,jX,qY,jW];gi_wp2;refine wpIn_rangeFunc ?_;intro i M;rw[B];obtain⟨W0,m⟩:=nx (w.alloc (.cells #[aS] 117));have O:W0.heap.size=w.heap.size+1:=by rw[<-m];simp
 have R:am W0 w.heap.size 117 #[aS]:=by rw[<-m];exact am.new w _ _
 have t:Bw w W0:=by rw[<-m];exact ba w _
 rw[m];obtain⟨W1,f⟩:=nx ((W0.alloc (.deferred (some []))).alloc (.loop (kE i (.func (.func g) #[] lb) w.heap.size W0.heap.size .ready)));have J:∀k,k < W0.heap.size->W1.heap[k]?=W0.heap[k]?:=fun k hk=>by
  rw[<-f];exact(Below.heap_alloc _ _ k (by simp;omega)).trans (Below.heap_alloc _ _ k hk)
 have u:Bw w W1:=by rw[<-f];exact(t.alloc t.size _).alloc (by have:=t.size;simp;omega) _
 have U:CI w i (.func (.func g) #[] lb) w.heap.size (W0.heap.size+1) W0.heap.size [] W1:=
  ⟨⟨_,(J w.heap.size (by omega)).trans R,aK.nil _ _⟩,
   by rw[<-f];have:=World.alloc_heap_new (W0.alloc (.deferred (some []))) (.loop (kE i (.func (.func g) #[] lb) w.heap.size W0.heap.size .ready));rwa[qA]at this,
   by rw[<-f];exact(Below.heap_alloc _ _ _ (by simp)).trans (World.alloc_heap_new W0 _),u,by simp⟩
 refine⟨W0.heap.size+1,[{target:=.collected W0.heap.size,args:=#[]}],W1,{target:=.fn (.func g) lb,args:=#[.func (.yield (W0.heap.size+1)) #[] #[]]},W1,g,
  #[.func (.yield (W0.heap.size+1)) #[] #[]]++lb,W1,?_,?_,?_,?_,fun _=>a,?_⟩
 ·rw[<-f];exact run_enterLoop_outer _ _ _ _ _
 ·simp[resolve,go_sem]
 ·intro f' C;simp[Target.leads]at C;subst C;exact hFg
 ·simp[invoke,go_sem,eg]
 ·refine(hseq (W0.heap.size+1) (fun y=>CI w i (.func (.func g) #[] lb) w.heap.size (W0.heap.size+1) W0.heap.size (y.map A4.p)) W1 u (fun s W W' row h hg b=>Aj w i _ w.heap.size (W0.heap.size+1) W0.heap.size _ u.size _ W W' row h hg b)
   (fun pre x W hJ hl=>by
    have:=CJ F (n - 1 - 1) w i M _ w.heap.size (W0.heap.size+1) W0.heap.size (by omega) (by omega) (by omega) nR (by omega) N hN (pre.map A4.p) x.p x.ok W hJ (by simpa using hl);simpa using this) U).mono ?_
  rintro e W2 ⟨⟨v0,rfl⟩,y,V,j⟩;obtain⟨v,hv,b⟩:=j.box;have z:=run_endLoop (P:=prog) j.L (by simp[kE]);obtain⟨W3,p⟩:=nx (W2.putObj (W0.heap.size+1) (.loop {kE i (.func (.func g) #[] lb) w.heap.size W0.heap.size .ready with state:=.exhausted}));rw[p]at z;have D:W2.grownBy W3 (some (W0.heap.size+1)):=by rw[<-p];exact grownBy_putObj_a _ _ _
  have G:am W3 w.heap.size 117 #[v]:=by rw[<-p];exact(World.putObj_heap_other (by omega)).trans hv
  have H:W3.heap[W0.heap.size]?=some (.deferred (some [])):=by rw[<-p];exact(World.putObj_heap_other (by omega)).trans j.K
  have q:=aK.keep (E:=aL) b D (fun k e he=>by
   injection he with he;subst he;rcases b.2 with⟨a,_⟩|⟨g,cap,S,a,_,A,_⟩
   ·rw[a]at e;simp[Value.ownBlock]at e
   ·rw[a]at e;simp[Value.ownBlock]at e;subst e;rw[j.L]at A;cases A)
  have I:Bw w W3:=j.below.grown D j.below.size (fun k e=>by cases e;omega);have X:=ce G;have Y:=am.frozen G 0;have T:=grownBy_putObj_a W3 W0.heap.size (.deferred none);refine⟨none,W3,z,?_⟩;gi_wp2;rw[<-O];refine⟨by simp,.inl ⟨_,_,rfl,run_takeDeferred H,?_⟩⟩;exact⟨_,results_tmp rfl _ _ _,y.map A4.p,⟨v,rfl,aK.keep (E:=aL) q T (fun k e he=>by
   injection he with he;subst he;rcases q.2 with⟨a,_⟩|⟨g,cap,S,a,_,A,_⟩
   ·rw[a]at e;simp[Value.ownBlock]at e
   ·rw[a]at e;simp[Value.ownBlock]at e;subst e;rw[H]at A;cases A),I.grown T I.size (fun k e=>by cases e;omega)⟩,by simpa using V,j.ok⟩
theorem sT(F:Fence)(n:Nat)(h:F.fn 297)(b:F.fn 364)(a:F.round=none)(p:3<=n)(g:Nat) lb(hFg:F.fn g)(eg:∀args w,(callFunc g args).run prog w=.ok (.enter g args) w)
  (N:Nat) (hN:N<=1000000) w (hseq:SeqGives F (n - 1 - 1) prog g lb (fun c:A4=>tB c.p) (fun ss=>ss.length<=N) N w):
  CallsIn F n prog 297 #[.func (.func g) #[] lb] w (b6 aL w N cA):=by
 have q:1<=n:=by omega
 have m:∀args w,(callFunc 364 args).run prog w=.ok (.enter 364 args) w:=aQ func364 (by kernel_rfl) (by kernel_rfl);refine callsIn_of_wp func297 rfl h ?_ a;simp only[ntmps297,qT,zQ,qI,Nat.reduceAdd,Nat.reduceSub,jT,jU,yI,jX,qY,jW];gi_wp2_with (gi_at_fn 364;refine(q8 F (n - 1) b a (by omega) g lb hFg eg N hN _ hseq).mono ?_;rintro e w' ⟨l,⟨v,rfl,i,j⟩,k,f⟩);go_ret;exact⟨l,⟨v,rfl,i,j⟩,k,f⟩
end
section
variable{ops:Array Oper}{tm:Array Value}{o:Oper}{a:Act}{K:Act → World → Prop}{Q:Exit → Act → World → Prop}{F:Prop}
theorem kF{w'}{v}(b:o.guard=none)(c:(execOp a.eval o).run prog w=.ok (.value v) w')(H:K (a.put o.dst v) w'):if Region.wanted o (yielded ops tm)=true then Oper.wp prog o a w K Q else F:=by
 rw[if_pos (by simp[Region.wanted,b])];unfold Oper.wp;rw[c];exact H
theorem Ak{v}(b:o.guard=none)(c:∀w,(execOp a.eval o).run prog w=.ok (.value v) w)(H:K (a.put o.dst v) w):if Region.wanted o (yielded ops tm)=true then Oper.wp prog o a w K Q else F:=kF b (c w) H
theorem CK(t:TypeId) cs(hgd:o.guard=none)(hr:∀w,(execOp a.eval o).run prog w=.ok (.value (Pt w.heap.size)) (w.alloc (.cells cs t)))(H:K (a.put o.dst (Pt w.heap.size)) (w.alloc (.cells cs t))):if Region.wanted o (yielded ops tm)=true then Oper.wp prog o a w K Q else F:=kF hgd (hr w) H
theorem sU(t:TypeId) cs(d:Tmp)(hgd:o.guard=none)(ho:o.op=.alloc t)(hd:o.dst=some d)(hr:∀w,(zeroValue t).run prog w=.ok (.agg cs) w)
  (H:∀g W,w.heap.size<=g->am W g t cs->Below w.heap.size w W->(∀k t' cs',am w k t' cs'->k≠g)->K (a.put (some d) (Pt g)) W):if Region.wanted o (yielded ops tm)=true then Oper.wp prog o a w K Q else F:=by
 refine kF (w':=w.alloc (.cells cs t)) (v:=Pt w.heap.size) hgd ?_ ?_
 ·unfold execOp;rw[ho];simp[go_sem,hr]
 ·rw[hd];exact H _ _ nR (am.new w t cs) (ba _ _) (fun k t' cs' h=>Nat.ne_of_lt (ap h))
theorem sV(t:TypeId)(d:Tmp)(b:o.guard=none)(c:o.op=.makeMap t none)(hd:o.dst=some d)
  (H:∀g W,w.heap.size<=g->b4 W g []->Below w.heap.size w W->(∀k q,b4 w k q->k≠g)->K (a.put (some d) (.map (some g))) W):if Region.wanted o (yielded ops tm)=true then Oper.wp prog o a w K Q else F:=by
 refine kF (w':=w.alloc (.map #[] 0)) (v:=.map (some w.heap.size)) b ?_ ?_
 ·unfold execOp;rw[c];rfl
 ·rw[hd];exact H _ _ nR (b4.new w) (ba _ _) (fun k q h=>Nat.ne_of_lt h.lt)
theorem pF(t:TypeId)(p x:Tmp)(j:o.guard=none)(m:o.op=.store t (.tmp p) (.tmp x))(hd:o.dst=none){c0 c1 c2}{c v1 v2:Int}(n:∀w,(sizeOf t).run prog w=.ok 3 w)
  (q:a.tmps[p]?.getD undef=Pt g) (s:a.tmps[x]?.getD undef=.agg #[I6 c,I6 v1,I6 v2]) (f:am w g t #[c0,c1,c2])
  (H:∀W,am W g t #[I6 c,I6 v1,I6 v2]->(∀k t' cs',k≠g->am w k t' cs'->am W k t' cs')->(∀w0:World,w0.heap.size<=g->Below w0.heap.size w0 w->Below w0.heap.size w0 W)->K a W):if Region.wanted o (yielded ops tm)=true then Oper.wp prog o a w K Q else F:=by
 obtain⟨u,_,_⟩:=am.three f;have b:=am.I f 0 (I6 c);have i:=am.I b 1 (I6 v1);obtain⟨_,y,_⟩:=am.three b;obtain⟨_,_,z⟩:=am.three i;have A:=am.frozen f 0;have B:=am.frozen b 1;have C:=am.frozen i 2;have D:Region.wanted o (yielded ops tm)=true:=by simp[Region.wanted,j]
 rw[if_pos D];have G:=H (((w.setCell ⟨g,0,none⟩ (I6 c)).setCell ⟨g,1,none⟩ (I6 v1)).setCell ⟨g,2,none⟩ (I6 v2)) (am.ai f _ _ _)
  (fun k t' cs' hk h=>(((h.only (aB w g 0 _) hk).only (aB _ g 1 _) hk).only (aB _ g 2 _) hk))
  (fun w0 h0 h=>((h.setCell (p:=⟨g,0,none⟩) h0 _).setCell (p:=⟨g,1,none⟩) h0 _).setCell (p:=⟨g,2,none⟩) h0 _)
 unfold Oper.wp;simp[execOp,m,q,s,n,go_sem,u,y,z,A,B,C,stored];rw[hd];exact G
end
theorem Ey(p:Pe):∃z:Int,∀w,Cs 294 #[.agg #[I6 p.id,I6 p.inc,I6 p.st]] w fun e w'=>Rt e (.agg #[I6 z,I6 p.inc,I6 p.st])/\Below w.heap.size w w':=
 ⟨_,fun w=>DC p w⟩
theorem am.dr(w:World)(t:TypeId) cs(h:g=w.heap.size):am (w.alloc (.cells cs t)) g t cs:=by subst h;exact am.new w t cs
theorem GW{w}{x y:Int}(h:am w g t #[I6 x,I6 y,I6 z]):Sl w 1 (some ⟨g,0,none⟩) [x,y,z].length ([x,y,z].map fun z=>I6 z):=by
 refine⟨rfl,fun _=>⟨g,0,rfl,ap h,fun j u hu=>?_⟩⟩;rw[zR,am.cell h];simpa using hu
theorem cR{v u}(h:Ce w g i v)(a:g≠k):Ce (w.setCell ⟨k,j,none⟩ u) g i v:=bv h (aB w k j u) a
theorem CL w:(zeroValue 361).run prog w=.ok (.agg #[I6 0,I6 0,I6 0]) w:=by
 simp[go_sem]
theorem Am(a b:Pe)(w:World):Cs 193 #[.agg #[I6 a.id,I6 a.inc,I6 a.st],.agg #[I6 b.id,I6 b.inc,I6 b.st]] w fun e w'=>(Rt e (.agg #[I6 a.id,I6 a.inc,I6 a.st])\/Rt e (.agg #[I6 b.id,I6 b.inc,I6 b.st]))/\Below w.heap.size w w':=by
 obtain⟨W0,HW,G,H,I,y⟩:=Ej w #[I6 a.id,I6 a.inc,I6 a.st] #[I6 b.id,I6 b.inc,I6 b.st] #[I6 0,I6 0,I6 0] 121 121 121;have XX:=aH (zB H (zB I y));obtain⟨a0,a1,a2⟩:=am.three H;obtain⟨J,L,M⟩:=am.three I;have B:=aH (fun W (c:Bw W0 W)=>show(Ce W w.heap.size 0 (I6 a.id)/\Ce W w.heap.size 1 (I6 a.inc)/\Ce W w.heap.size 2 (I6 a.st))/\Ce W (w.heap.size+1) 0 (I6 b.id)/\Ce W (w.heap.size+1) 1 (I6 b.inc)/\Ce W (w.heap.size+1) 2 (I6 b.st)from⟨⟨aD c a0,aD c a1,aD c a2⟩,aD c J,aD c L,aD c M⟩);obtain⟨N,O⟩:=Ey a;obtain⟨R,T⟩:=Ey b;obtain⟨HA,HC⟩:=gB O T;apply cI;go_in;go_upto_region 1 with(fail);simp only[HW.out];go_cut [5,6]from 7 to 16 (fun s5 s6 W=>∃k m,s5=Pt k/\s6=Pt m/\am W k 361 #[I6 N,I6 a.inc,I6 a.st]/\am W m 361 #[I6 R,I6 b.inc,I6 b.st]/\Bw W0 W)
 case first=>
  refine wp_region_held_drew (S:=fun W=>Bw W0 W) (by kernel_rfl) ((bD _)) (fun hS=>?_);refine wpAnyH_take (i:=0) (v:=.agg #[I6 a.id,I6 a.inc,I6 a.st]) rfl (by kernel_rfl) (by kernel_rfl) (by kernel_rfl) (fun _ _ _ h=>h) (Or.inl ⟨by rfl,?_⟩) hS ?_
  ·intro W C;obtain⟨⟨c0,c1,c2⟩,-⟩:=B.out W C;go_simp
  try simp only[Act.put,zW,qL,qM]
  refine wpAnyH_take (i:=2) (v:=.agg #[I6 b.id,I6 b.inc,I6 b.st]) rfl (by kernel_rfl) (by kernel_rfl) (by kernel_rfl) (fun _ _ _ h=>h) (Or.inl ⟨by rfl,?_⟩) hS ?_
  ·intro W C;obtain⟨-,c0,c1,c2⟩:=B.out W C;go_simp
  try simp only[Act.put,zW,qL,qM]
  iterate 6
   all_goals(first
    |(refine wpAnyH_ready (rs:=[1]) (by decide+kernel) (by decide) (zJ (by rfl) (fun K hK=>?_) (qG)))
    |(refine wpAnyH_ready (rs:=[1,4]) (by decide+kernel) (by decide) (zJ (by rfl) (fun K hK=>?_) (zJ (by rfl) (fun K hK=>?_) (qG))))
    |(refine wpAnyH_ready (rs:=[1,4,5]) (by decide+kernel) (by decide) (zJ (by rfl) (fun K hK=>?_) (zJ (by rfl) (fun K hK=>?_) (zJ (by rfl) (fun K hK=>?_) (qG)))))
    |(refine wpAnyH_ready (rs:=[1,5]) (by decide+kernel) (by decide) (zJ (by rfl) (fun K hK=>?_) (zJ (by rfl) (fun K hK=>?_) (qG))))
    |(refine wpAnyH_ready (rs:=[3]) (by decide+kernel) (by decide) (zJ (by rfl) (fun K hK=>?_) (qG)))
    |(refine wpAnyH_ready (rs:=[3,4]) (by decide+kernel) (by decide) (zJ (by rfl) (fun K hK=>?_) (zJ (by rfl) (fun K hK=>?_) (qG))))
    |(refine wpAnyH_ready (rs:=[3,4,5]) (by decide+kernel) (by decide) (zJ (by rfl) (fun K hK=>?_) (zJ (by rfl) (fun K hK=>?_) (zJ (by rfl) (fun K hK=>?_) (qG)))))
    |(refine wpAnyH_ready (rs:=[3,5]) (by decide+kernel) (by decide) (zJ (by rfl) (fun K hK=>?_) (zJ (by rfl) (fun K hK=>?_) (qG))))
    |(refine wpAnyH_ready (rs:=[4]) (by decide+kernel) (by decide) (zJ (by rfl) (fun K hK=>?_) (qG)))
    |(refine wpAnyH_ready (rs:=[4,5]) (by decide+kernel) (by decide) (zJ (by rfl) (fun K hK=>?_) (zJ (by rfl) (fun K hK=>?_) (qG))))
    |(refine wpAnyH_ready (rs:=[5]) (by decide+kernel) (by decide) (zJ (by rfl) (fun K hK=>?_) (qG)))
    |(refine wpAnyH_ready (rs:=[5,6]) (by decide+kernel) (by decide) (zJ (by rfl) (fun K hK=>?_) (zJ (by rfl) (fun K hK=>?_) (qG))))
    |(refine wpAnyH_ready (rs:=[6]) (by decide+kernel) (by decide) (zJ (by rfl) (fun K hK=>?_) (qG)))
    |refine wpAnyH_ready (rs:=[7]) (by decide+kernel) (by decide) (zJ (by rfl) (fun K hK=>?_) (qG)))
   all_goals(try simp only[List.getElem_toArray,yT,yU])
   all_goals(first
    |(go_simp;go_at_call 294;with_reducible refine(HA.out _).mono ?_;rintro U w1 ⟨rfl,c⟩;refine hK.out _ _ (hS.trans (c.mono hS.size)) (fun hS=>?_);clear hK K;(try replace f:=f.below c);(try replace g:=g.below c);try simp only[Act.put,zW,qL,qM])
    |(go_simp;go_at_call 294;with_reducible refine(HC.out _).mono ?_;rintro U w2 ⟨rfl,c⟩;refine hK.out _ _ (hS.trans (c.mono hS.size)) (fun hS=>?_);clear hK K;(try replace f:=f.below c);(try replace g:=g.below c);try simp only[Act.put,zW,qL,qM])
    |(with_reducible refine sU 361 _ 5 rfl (by with_unfolding_all rfl) (by with_unfolding_all rfl) CL ?_;intro k W5 D f c q;replace D:=zD hS.size D;refine hK.out _ _ (hS.trans (c.mono hS.size)) (fun hS=>?_);clear hK K;(try(have n:=q _ _ _ g));(try replace g:=g.below c);clear q;try simp only[Act.put,zW,qL,qM])
    |(with_reducible refine sU 361 _ 6 rfl (by with_unfolding_all rfl) (by with_unfolding_all rfl) CL ?_;intro m W6 F g c s;replace F:=zD hS.size F;refine hK.out _ _ (hS.trans (c.mono hS.size)) (fun hS=>?_);clear hK K;(try(have n:=(s _ _ _ f).symm));(try replace f:=f.below c);clear s;try simp only[Act.put,zW,qL,qM])
    |(with_reducible refine pF 361 5 8 rfl (by with_unfolding_all rfl) (by with_unfolding_all rfl) (fun w=>by kernel_rfl) (by with_unfolding_all rfl) (by with_unfolding_all rfl) f ?_;intro W7 V t u;refine hK.out _ _ (u _ D hS) (fun hS=>?_);clear hK K;(try replace g:=t _ _ _ n g);replace f:=V;clear t u V;try simp only[Act.put,zW,qL,qM])
    |(with_reducible refine pF 361 6 10 rfl (by with_unfolding_all rfl) (by with_unfolding_all rfl) (fun w=>by kernel_rfl) (by with_unfolding_all rfl) (by with_unfolding_all rfl) g ?_;intro W8 X t u;refine hK.out _ _ (u _ F hS) (fun hS=>?_);clear hK K;replace f:=t _ _ _ n.symm f;replace g:=X;clear t u X;try simp only[Act.put,zW,qL,qM]))
  all_goals(refine wpAnyH_done (by decide+kernel) ?_ _)
  all_goals go_wp2_with fail
  all_goals go_meet
  all_goals exact⟨_,_,rfl,rfl,f,g,hS⟩
 case rest=>
  obtain⟨k,m,rfl,rfl,f,g,x⟩:=hcut;obtain⟨Y,Q5,Q6,A⟩:=gD (G.trans (x.mono G.size)) f g (B.out wc x);have y:=am.below XX.out.2.2 x;have HI:Hid (Cs 295 #[.slice (some ⟨k,0,none⟩) 3 3,.slice (some ⟨m,0,none⟩) 3 3] wc.drew fun e w'=>(∃z,Rt e (I6 z))/\wc.drew=w'):=aH (qr (some ⟨k,0,none⟩) (some ⟨m,0,none⟩) 3 3 [N,a.inc,a.st] [R,b.inc,b.st] wc.drew (GW Q5.out) (GW Q6.out) (by simp) (by simp));have D3:decide (3<=3)=true:=by decide
  go_wp2_with fail;go_region_held3 (fun W=>Ce W w.heap.size 0 (I6 a.id))
   (first|exact A.out.1.1)
   (first
    |(go_at_call 295;(with_reducible refine(HI.out).mono ?_);rintro U _w ⟨⟨z,rfl⟩,rfl⟩))
  obtain⟨⟨a0,a1,a2⟩,J,L,M⟩:=A.out;have xf:=fun j=>am.frozen y j;obtain⟨z0,Z,z2⟩:=am.three y;have HE:Hid (∀u0 u1 u2,Bw w (((wc.drew.setCell ⟨w.heap.size+1+1,0,none⟩ u0).setCell ⟨w.heap.size+1+1,1,none⟩ u1).setCell ⟨w.heap.size+1+1,2,none⟩ u2)):=aH fun u0 u1 u2=>((Y.out.drew.setCell (p:=⟨w.heap.size+1+1,0,none⟩) (by simp;omega) u0).setCell (p:=⟨w.heap.size+1+1,1,none⟩) (by simp;omega) u1).setCell (p:=⟨w.heap.size+1+1,2,none⟩) (by simp;omega) u2;cases hz:decide (z < 0)
  ·go_wp2_with fail;refine bodyPost_ret (v:=.agg #[I6 a.id,I6 a.inc,I6 a.st]) (by simp[results,results193,go_sem,z0,Z,z2]) rfl ?_;exact⟨.inl rfl,HE.out _ _ _⟩
  ·go_wp2_with fail;refine bodyPost_ret (v:=.agg #[I6 b.id,I6 b.inc,I6 b.st]) (by simp[results,results193,go_sem,z0,Z,z2]) rfl ?_;exact⟨.inr rfl,HE.out _ _ _⟩
section
open Go.Maps Go.Shelf
theorem sW(b:Nat)(w:World):Cs 196 #[.map (some b)] w fun e w'=>Rt e (.func (.func 299) #[] #[Pt w.heap.size])/\w'=w.alloc (.cells #[.map (some b)] 272):=by
 apply cI;go_in;go_wp2;go_ret;exact⟨rfl,rfl⟩
def oD(m:IM):Prop:=∀p∈m,bN p.1/\∃q,p.2=tB q/\cA q
theorem q9(B b:Nat)(m:IM) w(hB:am w B 272 #[.map (some b)])(h:b4 w b m)(hk:oD m)(hn:m.length<=1000000):
  Cs 297 #[.func (.func 299) #[] #[Pt B]] w (b6 aL w m.length cA):=by
 obtain⟨D,c,i⟩:=lL (R:=Df) h (fun p hp=>by obtain⟨a,q,e,ok⟩:=hk p hp;exact⟨a,by rw[e];exact Fc ok⟩) (by unfold maxLen;omega);refine(callsIn_wide (n:=5)).1 ?_;have f:=vQ Fence.wide (5 - 1 - 1) trivial rfl (by omega) B b m.length D w hB.lt (am.cell hB 0) c;refine(sT Fence.wide 5 trivial trivial rfl (by omega) 299 #[Pt B] trivial (aQ func299 (by kernel_rfl) (by kernel_rfl)) (Maps.size D) (by omega) w f).mono ?_;rintro e w' ⟨l,g,j,ok⟩;exact⟨l,g,by omega,ok⟩
theorem sX(B b:Nat)(m:IM) w(hB:am w B 272 #[.map (some b)])(h:b4 w b m)(hk:oD m)(hn:m.length<=1000000):
  Cs 195 #[.func (.func 299) #[] #[Pt B],.func (.func 197) #[] #[]] w (b6 aL w m.length cA):=by
 have q:=aH (q9 B b m w hB h hk hn);apply cI;go_in;go_wp2_with fail;refine q.mono ?_;rintro s w1 ⟨t,⟨v1,rfl,c,g⟩,F,i⟩;obtain⟨u,x,j,y⟩:=gD (zz w.heap.size v1 t w1 c (by omega)) c g i;obtain⟨H,c1,rfl,_⟩:=c.rw.slice;go_wp2_with fail;refine u.mono ?_;rintro s w2 ⟨rfl,z,f,n,p⟩;have G:=f.length_eq;obtain⟨A,C,D⟩:=gC f (j.grown p j.size (fun k e=>(aK.lt (E:=aL) x k e).1)) n;go_wp2;go_ret;exact⟨z,⟨_,rfl,D,C⟩,by omega,fun a ha=>y a ((A.mem_iff).1 ha)⟩
theorem DR{w}{q}(h:b4 w b q)(f:oD q)(k:Int):∃z t,(Instr.lookup 272 (.map (some b)) (I6 k) true).run prog w=.ok (.tuple #[tB z,.bool t]) w/\cA z:=by
 have a:=(h.lookup (P:=prog) (t:=272) (kt:=3) (et:=121) (by kernel_rfl) (by kernel_rfl) (z:=tB ⟨0,0,0⟩) (by kernel_rfl) k).1;cases hg:bE q k with
 |none=>rw[hg]at a;exact⟨⟨0,0,0⟩,_,a,by unfold cA bN;simp⟩
 |some v=>
  obtain⟨_,z,c,ok⟩:=f _ (dw hg);simp only at c;subst c;rw[hg]at a;exact⟨z,_,a,ok⟩
theorem CM(B b:Nat)(m:IM)(p:Pe) w(hp:cA p)(hB:am w B 272 #[.map (some b)])(h:b4 w b m)(hk:oD m):
  Cs 192 #[vC p,Pt B] w fun e w'=>Rt e (.tuple #[])/\aW b w w'/\∃m',b4 w' b m'/\oD m'/\m'.length<=m.length+1:=by
 obtain⟨W0,A,f,I⟩:=dW w #[I6 p.id,I6 p.inc,I6 p.st] 121;have J:W0.heap.size=w.heap.size+1:=by rw[<-A];simp
 obtain⟨a0,a1,a2⟩:=am.three I;have L:Ce W0 B 0 (.map (some b)):=aD f (am.cell hB 0);have V:=aH (show Ce w B 0 (.map (some b))from am.cell hB 0);obtain⟨z,t,ha,X⟩:=DR (h.below f) hk p.id;have a:=ba W0 (.cells #[I6 z.id,I6 z.inc,I6 z.st] 121);have C:=am.new W0 121 #[I6 z.id,I6 z.inc,I6 z.st];rw[J]at C;obtain⟨M,g⟩:=nM (W0.alloc (.cells #[I6 z.id,I6 z.inc,I6 z.st] 121));rw[g]at a C;obtain⟨H,Y,N,Z⟩:=gD h hk hp X;have hc:=h.lt;have D:=aH I;have O:∀W,Bw w W->∀q:Pe,cA q->∃c,(Instr.mapUpdate 272 (.map (some b)) (I6 q.id) (tB q)).run prog W=.ok () c/\aW b w c/\∃m',b4 c b m'/\oD m'/\m'.length<=m.length+1:=fun W hb q n=>by
  obtain⟨c,h1,h2,h3⟩:=(H.below hb).update (P:=prog) (t:=272) (kt:=3) (et:=121) (by kernel_rfl) (by kernel_rfl) q.id (tB q);exact⟨c,h1,aA (aG hb) h3,_,h2,fun y hy=>by
   rcases c7 hy with rfl|⟨hy,_⟩
   ·exact⟨n.1,q,rfl,n⟩
   ·exact Y y hy,kX _ _ _⟩
 have s:=aH O;cases t
 ·obtain⟨c,hu,F,G⟩:=s M (f.trans (a.mono f.size)) p N;obtain⟨d0,d1,d2⟩:=am.three (D.below a);have b1:=aD a L;have i:=aH (zB F G);apply cI;go_in;go_upto_region 1 with(fail);simp only[A.out];go_upto_region 2 with(fail);simp only[g.out];go_wp2_with fail;go_end0;exact⟨rfl,i.1,i.2⟩
 ·have HL:=aH (Am z p M);obtain⟨d0,d1,d2⟩:=am.three (D.below a);obtain⟨c0,c1,c2⟩:=am.three C;have b1:=aD a L;obtain⟨E1,X2⟩:=gB a (D.below a);apply cI;go_in;go_upto_region 1 with(fail);simp only[A.out];go_upto_region 2 with(fail);simp only[g.out];go_wp2_with fail;refine HL.mono ?_;rintro _e w2 ⟨n,u⟩;obtain⟨q,R,S⟩:∃q:Pe,_e=.returned (tB q)/\cA q:=by
   rcases n with rfl|rfl
   ·exact⟨z,rfl,Z⟩
   ·exact⟨p,rfl,N⟩
  subst R;have k:=X2.below u;obtain⟨f0,f1,f2⟩:=am.three k;have ff:=fun j=>am.frozen k j;have T:=am.ai k (I6 q.id) (I6 q.inc) (I6 q.st);obtain⟨g0,g1,g2⟩:=am.three T;have U:=f.trans ((E1.trans (u.mono E1.size)).mono f.size);have x:=((U.setCell (p:=⟨w.heap.size,0,none⟩) nR (I6 q.id)).setCell (p:=⟨w.heap.size,1,none⟩) nR (I6 q.inc)).setCell (p:=⟨w.heap.size,2,none⟩) nR (I6 q.st);obtain⟨c,hu,F,G⟩:=s _ x q S;have hd:=aD x V;have i:=aH (zB F G);go_wp2_with fail;go_end0;exact⟨rfl,i.1,i.2⟩
theorem b6.le{E:El α}{w}{P:α->Prop}{e}{w'}(h:b6 E w n P e w')(a:n<=n'):b6 E w n' P e w':=by
 obtain⟨l,b,c,f⟩:=h;exact⟨l,b,zD c a,f⟩
theorem pG{v1 v2}{b c:List Pe} w(h1:Rw aL w v1 b)(h2:Rw aL w v2 c)(hl1:b.length<=100)(hl2:c.length<=100)(k1:∀p∈b,cA p)(k2:∀p∈c,cA p):
  Cs 103 #[v1,v2] w (b6 aL w (min 64 (b.length+c.length)) cA):=by
 obtain⟨H,c1,rfl,_⟩:=h1.slice;obtain⟨I,c2,rfl,_⟩:=h2.slice;obtain⟨i0,hi,_,hu,_⟩:=info_parts aL.info;have hw:=fun W=>cC 272 W;have f:=ba w (.map #[] 0);have n:=(Below.refl (w.alloc (.map #[] 0)).heap.size (w.alloc (.map #[] 0))).alloc nR (.cells #[.map (some w.heap.size)] 272);have J:=(Below.refl ((w.alloc (.map #[] 0)).alloc (.cells #[.map (some w.heap.size)] 272)).heap.size ((w.alloc (.map #[] 0)).alloc (.cells #[.map (some w.heap.size)] 272))).alloc nR (.cells #[.slice H b.length c1,.slice I c.length c2] 117);have B:=((b4.new w).below n).below J;have M:=(am.new (w.alloc (.map #[] 0)) 272 #[.map (some w.heap.size)]).below J;have N:=am.new ((w.alloc (.map #[] 0)).alloc (.cells #[.map (some w.heap.size)] 272)) 117 #[.slice H b.length c1,.slice I c.length c2];have C:=f.trans ((n.trans (J.mono (by simp))).mono (by simp));rw[qA]at M;rw[qA,qA]at N;obtain⟨W3,q⟩:=nM (((w.alloc (.map #[] 0)).alloc (.cells #[.map (some w.heap.size)] 272)).alloc (.cells #[.slice H b.length c1,.slice I c.length c2] 117));rw[q]at B M N C;obtain⟨Y,HM,HX,Z⟩:=gD (BA (w.heap.size+1+1) W3 N (h1.below C) (h2.below C) (by omega)) B M C;have HK:Hid (∀p∈b++c,cA p):=aH fun p hp=>by
  rcases zK.1 hp with hp|hp
  ·exact k1 p hp
  ·exact k2 p hp
 have hL:(b++c).length<=200:=by simp;omega
 have s:=aH (show(b++c).length<=b.length+c.length by simp);obtain⟨nn,hc⟩:=nx (b.length+c.length);rw[hc]at s ⊢;generalize b++c=L at Y HK hL s;apply cI;go_in;go_upto_region 3 with(fail);have hW:=q.out;go_wp2_with fail;try simp only[q.out]
 refine Y.mono ?_;rintro O w4 ⟨v4,rfl,D,u⟩;obtain⟨A4,c4,rfl,_⟩:=D.rw.slice;obtain⟨O4,B4,M4,X4⟩:=gD D.rw (Z.trans (u.mono Z.size)) (HM.below u) (HX.below u);go_wp2_with fail;go_loopw[17] (fun vi wr=>∃(k:Nat) (m:IM),k<=L.length/\vi=I6 k/\Bw w wr/\Rw aL wr (.slice A4 L.length c4) L/\b4 wr w.heap.size m/\oD m/\m.length<=k/\am wr (w.heap.size+1) 272 #[.map (some w.heap.size)]) (fun vi _=>L.length - (intOf vi).toNat)
 case atStart=>exact⟨0,[],by omega,rfl,B4,O4,M4,fun p hp=>(by cases hp),by simp,X4⟩
 case round=>
  obtain⟨k,m,hk,rfl,R,hr,S,x,hd,T⟩:=hrel;obtain⟨he,hf,hg,hh,hy⟩:=gE R hr S T x;have y:=R.size;by_cases hlt:k < L.length
  ·obtain⟨g,U,rfl,h⟩:=hr.at_ (zA hlt);have c0:Ce wr g (U+k*3) (I6 L[k].id):=by have:=h 0 _ rfl;simpa[aL]using this
   have c1:Ce wr g (U+k*3+1) (I6 L[k].inc):=by have:=h 1 _ rfl;simpa[aL]using this
   have c2:Ce wr g (U+k*3+2) (I6 L[k].st):=by have:=h 2 _ rfl;simpa[aL]using this
   have z:=aH (HK L[k] (zY hlt));generalize L[k]=t at c0 c1 c2 z;have f:=ba wr (.cells #[I6 t.id,I6 t.inc,I6 t.st] 121);have n:=am.new wr 121 #[I6 t.id,I6 t.inc,I6 t.st];obtain⟨W1,F⟩:=nM (wr.alloc (.cells #[I6 t.id,I6 t.inc,I6 t.st] 121));rw[F]at f n;obtain⟨a0,a1,a2⟩:=am.three n;obtain⟨HP,E1,HL⟩:=gC (CM (w.heap.size+1) w.heap.size m t W1 z (T.below f) (S.below f) x) f (zB hlt hd);go_upto_region 6 with(fail);simp only[F.out];go_wp2_with fail;refine HP.mono ?_;rintro O w3 ⟨rfl,A,B,hl,V,hn⟩;obtain⟨G1,G2,G3,G4,G5⟩:=gE ((he.trans (E1.mono y)).grown A (zD y E1.size) (fun j e=>by injection e with e;omega)) ((hf.below E1).ck A (hg.below E1)) (zB hl V) ((hh.below E1).only A (by omega)) hn;go_wp2_with fail;go_roundw
   case rel=>exact⟨k+1,B,HL.1,by go_num,G1,G2,G3.1,G3.2,by have:=HL.2;have:=G5.out;omega,G4⟩
   case measure=>simp[intOf];omega
  ·have y0:=ce T;have HV:=aH (sW w.heap.size wr);have f:=ba wr (.cells #[.map (some w.heap.size)] 272);obtain⟨HS,X⟩:=gB (sX wr.heap.size w.heap.size m (wr.alloc (.cells #[.map (some w.heap.size)] 272)) (am.new _ _ _) (S.below f) x (by omega)) (R.trans (f.mono y));go_wp2_with fail;refine HV.mono ?_;rintro O _w ⟨rfl,rfl⟩;go_wp2_with fail;refine HS.mono ?_;rintro O w7 ⟨i,⟨v7,rfl,G,ho⟩,hz,hq⟩;obtain⟨A7,c7,rfl,hA⟩:=G.rw.slice;obtain⟨j,hj,hs⟩:∃j:Nat,min (i.length:Int) 64=j/\j<=i.length/\j<=64:=⟨(min (i.length:Int) 64).toNat,by omega,by omega⟩;have hcut:=eo (P:=prog) 117 121 i0 underlying117 hi .i64 A7 i.length c7 j (by omega);obtain⟨O7,B7⟩:=gB ((aK.ch (E:=aL) G hs.1).mono X.size) (X.trans (ho.mono X.size));have ht:(i.take j).length=j:=by simp;omega
   obtain⟨HJ,Z7⟩:=gB (zB ht (show j<=min 64 nn by have:=s.out;omega)) hq;go_wp2_with fail;go_ret;exact⟨i.take j,⟨_,rfl,O7,B7⟩,by rw[HJ.1];exact HJ.2,fun a ha=>Z7 a (qZ ha)⟩
theorem lp{v1 v2}{a b:List Pe} w(h1:Rw aL w v1 a)(h2:Rw aL w v2 b)(hl1:a.length<=100)(hl2:b.length<=100)(k1:∀p∈a,cA p)(k2:∀p∈b,cA p):
  Cs 103 #[v1,v2] w (b6 aL w 64 cA):=(pG w h1 h2 hl1 hl2 k1 k2).mono fun _ _ h=>h.le (Nat.min_le_left _ _)
theorem An{v}{l:List Pe}(p:Pe) w(h:Rw aL w v l)(hl:l.length<=64)(hok:∀p∈l,cA p)(hp:cA p):Cs 46 #[v,vC p] w (b6 aL w (min 64 (l.length+1)) cA):=by
 obtain⟨A,c,rfl,_⟩:=h.slice;obtain⟨W0,B,i,m⟩:=dW w #[I6 p.id,I6 p.inc,I6 p.st] 121;obtain⟨a0,a1,a2⟩:=am.three m;obtain⟨C,H,n,s,D⟩:=gE m (h.below i) (si p W0) hok hp;generalize k8 p=bb at n;apply cI;go_in;go_upto_region 1 with(fail);simp only[B.out];go_wp2_with fail;refine n.mono ?_;rintro t w1 ⟨rfl,a⟩;obtain⟨b,u⟩:=gB (i.trans (a.mono i.size)) (H.below a);obtain⟨J,L,M⟩:=am.three (C.below a);cases bb
 ·go_wp2_with fail;refine(jx w1 u (by omega)).mono ?_;rintro t w2 ⟨v2,rfl,f,g⟩;obtain⟨j,k⟩:=gB (f.mono b.size) (b.trans (g.mono b.size));go_wp2;go_ret;exact⟨l,⟨v2,rfl,j,k⟩,by omega,s⟩
 ·have x:=ba w1 (.cells #[I6 p.id,I6 p.inc,I6 p.st] 121);obtain⟨F,E1⟩:=gB (pG _ (u.below x) (dL aL w1 p) (by omega) (by simp) s (fun q hq=>by simp at hq;subst hq;exact D)) (b.trans (x.mono b.size));go_wp2_with fail;refine F.mono ?_;rintro t w2 ⟨G,⟨v2,rfl,f,g⟩,y,z⟩;obtain⟨j,k,I⟩:=gC (f.mono E1.size) (E1.trans (g.mono E1.size)) z;go_wp2;go_ret;exact⟨G,⟨v2,rfl,j,k⟩,y,I⟩
end
theorem vS(k:Nat)(G:k < 16){vl vb vc}{ls}{b cl}(w:World)(h:kz w vl vb vc ls b cl)(a:fC ls b cl)(i:(c6 ls b cl).length<=900000):
  Cs 156 #[I6 (k:Nat),.agg #[vl,vb,vc]] w fun e w'=>Rt e (.string (aF (66::(cT k++c6 ls b cl))))/\Below w.heap.size w w':=by
 obtain⟨m,p,rfl,_⟩:=h.l.slice;obtain⟨Ab,y,rfl,_⟩:=h.b.slice;obtain⟨Ac,z,rfl,_⟩:=h.c.slice;obtain⟨W0,A,f,q⟩:=dW w #[.slice m ls.length p,.slice Ab b.length y,.slice Ac cl.length z] 131;obtain⟨a0,a1,a2⟩:=am.three q;obtain⟨j,s⟩:=gB (fun W=>cQ (k:Int) W (by omega)) (fun(d:Nat) (os:Array Obj)=>fx _ _ _ _ ls b cl ((h.l.below f).below (below_regrown W0 d os)) ((h.b.below f).below (below_regrown W0 d os)) ((h.c.below f).below (below_regrown W0 d os)) a.l (by have:=a.bc;omega) (by have:=a.bc;omega) a.m (fun d hd=>b0 (a.b d hd)) (fun d hd=>b0 (a.c d hd)));have B:=(bi (n:=k) (by omega)).2;have C:Hid (cT (k:Int)=bG k):=aH rfl;rw[C];have D:Hid (66::(bG k++c6 ls b cl)=[66]++bG k++c6 ls b cl):=aH (by simp);rw[D];rw[jS]at j;generalize bG k=s1 at j B;generalize c6 ls b cl=s2 at s i;have u:∀W,(Op.stringOp .add ⟨#[66]⟩ (aF s1)).run prog W=.ok (.string (aF (66::s1))) W:=fun W=>bJ [66] s1 (by simp;omega) W;have x:=fun W=>bJ (66::s1) s2 (by simp;omega) W;have H:=fun d os=>cell_regrown a0 d os;have I:=fun d os=>cell_regrown a1 d os;have J:=fun d os=>cell_regrown a2 d os;clear h a q a0 a1 a2;apply cI;go_in;go_upto_region 1 with(fail);simp only[A.out];refine wp_region_quiet_below (by kernel_rfl) (by kernel_rfl) ?_;repeat(go_big_quiet_step (first|(go_at_call 106;exact Calls.regrown_of (j _))|(go_at_call 81;exact Calls.regrown_of (s _ _))|fail))
 refine wpQuiet_nil ?_;intro L c;obtain⟨⟨F,t⟩,c⟩:=c;have g:=aH (f.trans ((below_regrown W0 F t).mono f.size));rw[<-c]at g;clear c;go_wp2;go_ret;exact⟨rfl,g⟩
theorem CN(w:World):Cs 98 #[] w fun e w'=>Rt e (Pt w.heap.size)/\∃cs,w'=w.alloc (.cells cs 188)/\cs.toList=[I6 0,I6 0]++(List.replicate 51 (aS)):=by
 apply cI;go_in;go_wp2;go_ret;exact⟨rfl,_,rfl,rfl⟩
theorem dF.new{M:Mg->Prop}{o}{cs:Array Value}(h:cs.toList=[I6 0,I6 0]++(List.replicate 51 (aS)))(hf:aX o w)(i:Nat)(hi:i≠0):
  ∃o',dF M 0 0 0 o' (w.alloc (.cells cs 188)) w.heap.size (i,w.heap.size)/\St (·=(i,w.heap.size)) o w o' (w.alloc (.cells cs 188)):=by
 have g:=ba w (.cells cs 188);have f:=am.new w 188 cs;have m:=(St.J (p:=(·=(i,w.heap.size))) g hf).tag (b:=w.heap.size) (x:=(i,w.heap.size)) nR (ap f) (.inr rfl);have bI:∀j,2<=j->j < 53->cs[j]?=some (aS):=fun j a h2=>by
  have:cs.toList[j]?=some (aS):=by
   rw[h,jA (by simpa using a),List.getElem?_replicate];simp;omega
  simpa using this
 have n:cs[0]?=some (I6 0):=by
  have:cs.toList[0]?=some (I6 0):=by rw[h];rfl
  simpa using this
 have a:cs[1]?=some (I6 0):=by
  have:cs.toList[1]?=some (I6 0):=by rw[h];rfl
  simpa using this
 have c:cs.size=53:=by have:=congrArg List.length h;simpa using this
 refine⟨_,⟨a8 _ _ _,cs,f,c,n,a,fun k hk=>⟨_,_,_,bI _ (by omega) (by omega),bI _ (by omega) (by omega),bI _ (by omega) (by omega),[],[],[],RI.nil _ _,RI.nil _ _,RI.nil _ _,by simp,by simp,by simp,by simp,by simp⟩,⟨_,bI _ (by omega) (by omega),[],RI.nil _ _,by simp,by simp⟩,⟨_,bI _ (by omega) (by omega),[],RI.nil _ _,by simp,by simp⟩,⟨_,bI _ (by omega) (by omega),[],RI.nil _ _,by simp,by simp⟩⟩,m⟩
def tC(M:Mg->Prop)(n:Nat)(id up:Int)(o:Ow)(w:World)(s:Nat)(x:Nat×Nat)(e:Ending)(w':World):Prop:=Rt e (.tuple #[])/\∃o',dF M n id up o' w' s x/\St (·=x) o w o' w'
theorem Ao(h:dF M n id up o w s x)(j:x≠(0,0))(hf:aX o w)(z:Int)(b c:Nat)(m:Ce w b 0 (I6 z))(q:Ce w c 0 (Pt s)):
  Cs 287 #[Pt b,Pt c] w (tC M n z up o w s x):=by
 obtain⟨f,cs,a,g⟩:=h;have t:=(am.cell a 0).trans g.id;have u:=am.frozen a 0;have i:=St.U (p:=(·=x)) (aB w s 0 (I6 z)) f hf;have k:Hid (tC M n z up o w s x (.returned (.tuple #[])) (w.setCell ⟨s,0,none⟩ (I6 z))):=aH ⟨rfl,o,⟨f,_,am.I a 0 _,(g.dd z i (Ne.symm j)).1⟩,i⟩;apply cI;go_in;go_wp2;go_end0;exact k
theorem Ap(h:dF M n id up o w s x)(m:x≠(0,0))(hf:aX o w)(z:Int)(f g:Nat)(t:Ce w f 0 (Pt s))(u:Ce w g 0 (I6 z)):
  Cs 288 #[Pt f,Pt g] w (tC M n id (max up z) o w s x):=by
 obtain⟨i,cs,c,j⟩:=h;have y:=(am.cell c 1).trans j.up;have A:=am.frozen c 1;have a:=bP w;have b:=St.J (p:=(·=x)) a hf;have k:=b.trans (St.U (p:=(·=x)) (aB w.drew s 1 (I6 (max up z))) i b.far);have q:Hid (tC M n id (max up z) o w s x (.returned (.tuple #[])) (w.drew.setCell ⟨s,1,none⟩ (I6 (max up z)))):=aH ⟨rfl,o,⟨i,_,am.I (am.below c a) 1 _,(j.dd (max up z) k (Ne.symm m)).2⟩,k⟩;apply cI;go_in;go_wp2;refine aN 7 (by kernel_rfl) (by kernel_rfl) ?_;simp only[zF,zN,zG,zO];repeat still_step
 refine wpStill_nil ?_;go_wp2;go_end0;exact q
theorem Aq(h:dF M n id up o w s x)(f:x≠(0,0))(hf:aX o w){v}(hv:pA bF o w 1000 fA v)(g i:Nat)(u:Ce w g 0 v)(y:Ce w i 0 (Pt s)):
  Cs 293 #[Pt g,Pt i] w (tC M n id up o w s x):=by
 obtain⟨j,cs,a,k⟩:=h;obtain⟨z,q,B,C,_⟩:=k.holds;have m:=hv;obtain⟨l,r,_⟩:=m;obtain⟨A,c,rfl,_⟩:=r.rw.slice;have D:=(am.cell a 52).trans q;have F:=am.frozen a 52;have b:=St.U (p:=(·=x)) (aB w s 52 (.slice A l.length c)) j hf;have t:Hid (tC M n id up o w s x (.returned (.tuple #[])) (w.setCell ⟨s,52,none⟩ (.slice A l.length c))):=aH ⟨rfl,o,⟨j,_,am.I a 52 _,k.set b (Ne.symm f) (.inr (.inr ⟨rfl,hv.st b (Ne.symm f)⟩))⟩,b⟩;apply cI;go_in;go_wp2;go_end0;exact t
theorem Ar(h:dF M n id up o w s x)(C:x≠(0,0))(hf:aX o w){v}(hv:pA a7 o w 100 iw v)(i j:Nat)(T:i≠s)(n2:j≠s)(D:Ce w i 0 (Pt s))(F:Ce w j 0 v):
  Cs 290 #[Pt i,Pt j] w (tC M n id up o w s x):=by
 obtain⟨G,cs,g,H⟩:=h;obtain⟨v0,U,l0,I,ha,V⟩:=H.tags;obtain⟨l,r,hl,k⟩:=hv;obtain⟨A,c,rfl,_⟩:=r.rw.slice;obtain⟨A0,c0,rfl,_⟩:=I.rw.slice;have X:=(am.cell g 50).trans U;have yf:=am.frozen g 50;have f:Bw w w.drew:=bD _;obtain⟨Y,J⟩:=gB (pv w.drew (I.rw.below f) (r.rw.below f) (by omega) (by omega) V k) (zB g H);have hd:=ap g;have L:=aH hf;apply cI;go_in;go_wp2;show(Code.region _ (_::_::_::_::Ll _::_).toArray _).wp _ _ _ _;go_region_held3 (fun w'=>Ce w' i 0 (Pt s)/\Ce w' j 0 (.slice A l.length c))
  (first|exact⟨D,F⟩|exact BK (by assumption) (by assumption)|exact⟨cR (aD a D) T,cR (aD a F) n2⟩)
  (first
   |(go_at_call 175;(with_reducible refine(Y.out).mono ?_);rintro _e w2 ⟨m,⟨v2,rfl,t,N⟩,O,R⟩;have a:=f.trans (N.mono f.size);obtain⟨B,c2,rfl,_⟩:=t.rw.slice;have q:=am.below J.1 a;have he:=am.frozen q 50;have hg:=aD a X))
 all_goals
  have u:=St.J (p:=(·=x)) a L;have y:=St.U (p:=(·=x)) (aB w2 s 50 (.slice B m.length c2)) G u.far;have z:=u.trans y;have S:pA a7 o w2 100 iw (.slice B m.length c2):=⟨m,RI.aa t (fun b g=>L b g),O,R⟩;have Z:Hid (tC M n id up o w s x (.returned (.tuple #[])) (w2.setCell ⟨s,50,none⟩ (.slice B m.length c2))):=aH ⟨rfl,o,⟨G,_,am.I q 50 _,J.2.set z (Ne.symm C) (.inl ⟨rfl,S.st y (Ne.symm C)⟩)⟩,z⟩;go_wp2;go_end0;exact Z
theorem As(h:dF M n id up o w s x)(C:x≠(0,0))(hf:aX o w){v}(hv:pA aL o w 64 cA v)(i j:Nat)(T:i≠s)(n2:j≠s)(D:Ce w i 0 (Pt s))(F:Ce w j 0 v):
  Cs 291 #[Pt i,Pt j] w (tC M n id up o w s x):=by
 obtain⟨G,cs,g,H⟩:=h;obtain⟨v0,U,l0,I,ha,V⟩:=H.view;obtain⟨l,r,hl,k⟩:=hv;obtain⟨A,c,rfl,_⟩:=r.rw.slice;obtain⟨A0,c0,rfl,_⟩:=I.rw.slice;have X:=(am.cell g 51).trans U;have yf:=am.frozen g 51;have f:Bw w w.drew:=bD _;obtain⟨Y,J⟩:=gB (lp w.drew (I.rw.below f) (r.rw.below f) (by omega) (by omega) V k) (zB g H);have hd:=ap g;have L:=aH hf;apply cI;go_in;go_wp2;show(Code.region _ (_::_::_::_::Ll _::_).toArray _).wp _ _ _ _;go_region_held3 (fun w'=>Ce w' i 0 (Pt s)/\Ce w' j 0 (.slice A l.length c))
  (first|exact⟨D,F⟩|exact BK (by assumption) (by assumption)|exact⟨cR (aD a D) T,cR (aD a F) n2⟩)
  (first
   |(go_at_call 103;(with_reducible refine(Y.out).mono ?_);rintro _e w2 ⟨m,⟨v2,rfl,t,N⟩,O,R⟩;have a:=f.trans (N.mono f.size);obtain⟨B,c2,rfl,_⟩:=t.rw.slice;have q:=am.below J.1 a;have he:=am.frozen q 51;have hg:=aD a X))
 all_goals
  have u:=St.J (p:=(·=x)) a L;have y:=St.U (p:=(·=x)) (aB w2 s 51 (.slice B m.length c2)) G u.far;have z:=u.trans y;have S:pA aL o w2 64 cA (.slice B m.length c2):=⟨m,RI.aa t (fun b g=>L b g),O,R⟩;have Z:Hid (tC M n id up o w s x (.returned (.tuple #[])) (w2.setCell ⟨s,51,none⟩ (.slice B m.length c2))):=aH ⟨rfl,o,⟨G,_,am.I q 51 _,J.2.set z (Ne.symm C) (.inr (.inl ⟨rfl,S.st y (Ne.symm C)⟩))⟩,z⟩;go_wp2;go_end0;exact Z
def pH(M:Mg->Prop):Prop:=∀l1 l2 m,pq l1 l2 m->(∀m∈l1,M m)->(∀m∈l2,M m)->M m
section
variable{n2:Nat}
theorem Au(h:dF M n id up o w s x)(hx:x≠(0,0))(hf:aX o w)(hM:pH M)(k:Nat)(hk:k < 16){vl vb vc}(hv:A7 o w M n2 vl vb vc)(hn:n+n2<=10000000)(B C i:Nat)(T:B≠s)(t:C≠s)(g:i≠s)
  (h1:Ce w B 0 (Pt s)) (h2:Ce w C 0 (I6 (k:Nat))) (h3:Ce w i 0 vl/\Ce w i 1 vb/\Ce w i 2 vc):
  Cs 289 #[Pt B,Pt C,Pt i] w (tC M (n+n2) id up o w s x):=by
 obtain⟨D,cs,f,hc⟩:=h;obtain⟨ul,ub,uc,g0,g1,g2,ls,b,cl,r1,r2,r3,ha,hd,he,hg,hh⟩:=hc.bag k hk;obtain⟨u,b',cl',q1,q2,q3,U,V,X,Y,Z⟩:=hv;obtain⟨A1,c1,rfl,_⟩:=r1.rw.slice;obtain⟨A2,c2,rfl,_⟩:=r2.rw.slice;obtain⟨A3,c3,rfl,_⟩:=r3.rw.slice;obtain⟨A4,c4,rfl,_⟩:=q1.rw.slice;obtain⟨A5,c5,rfl,_⟩:=q2.rw.slice;obtain⟨A6,c6,rfl,_⟩:=q3.rw.slice;have y0:Ce w s (2+k*3) (.slice A1 ls.length c1):=(am.cell f _).trans g0;have y1:Ce w s (2+k*3+1) (.slice A2 b.length c2):=(am.cell f _).trans g1;have y2:Ce w s (2+k*3+2) (.slice A3 cl.length c3):=(am.cell f _).trans g2;obtain⟨k0,k1,k2⟩:=h3;have c:Bw w w.drew:=bD _;obtain⟨HJ,HX,F,HM,HN⟩:=gE (pr w.drew (r1.rw.below c) (q1.rw.below c) (r2.rw.below c) (r3.rw.below c) (q2.rw.below c) (q3.rw.below c) (by omega) (by omega) hg hh Y Z) (zB f hc) hf (fun m (h:pq ls u m)=>hM ls u m h he X) (zB (zB ha hd) (zB U V));have hj:=hk;apply cI;go_in;go_wp2;show(Code.region _ (_::_::_::_::_::_::Ll _::Ll _::_).toArray _).wp _ _ _ _;go_region_held3 (fun w'=>Ce w' B 0 (Pt s)/\Ce w' C 0 (I6 (k:Nat))/\Ce w' i 0 (.slice A4 u.length c4)/\Ce w' i 1 (.slice A5 b'.length c5)/\Ce w' i 2 (.slice A6 cl'.length c6))
  (first|exact⟨h1,h2,k0,k1,k2⟩|exact Ep (by assumption) (by assumption)|exact⟨cR (cR (cR (aD a h1) T) T) T,cR (cR (cR (aD a h2) t) t) t,cR (cR (cR (aD a k0) g) g) g,cR (cR (cR (aD a k1) g) g) g,cR (cR (cR (aD a k2) g) g) g⟩)
  (first
   |(go_at_call 246;(with_reducible refine(HJ.out).mono ?_);rintro _e w2 ⟨u1,u2,u3,q,y,G,rfl,j1,j2,j3,hu,jl,hw,jM,hl,hp,hq⟩;have a:=c.trans (hq.mono c.size);obtain⟨z,A,rfl,_⟩:=j1.rw.slice;obtain⟨H,I,rfl,_⟩:=j2.rw.slice;obtain⟨D3,e3,rfl,_⟩:=j3.rw.slice;have J:=am.below HX.1 a;have ht:=fun j=>am.frozen J j;have z0:=aD a y0;have z1:=aD a y1;have z2:=aD a y2))
 all_goals
  have L:=St.J (p:=(·=x)) a F;have N:=St.U (p:=(·=x)) (aB w2 s (2+k*3) (.slice z q.length A)) D L.far;have O:=St.U (p:=(·=x)) (aB (w2.setCell ⟨s,2+k*3,none⟩ (.slice z q.length A)) s (2+k*3+1) (.slice H y.length I)) D N.far;have hr:=St.U (p:=(·=x)) (aB ((w2.setCell ⟨s,2+k*3,none⟩ (.slice z q.length A)).setCell ⟨s,2+k*3+1,none⟩ (.slice H y.length I)) s (2+k*3+2) (.slice D3 G.length e3)) D O.far;have R:=(N.trans O).trans hr;have S:=L.trans R;have hs:A7 o w2 M (n+n2) (.slice z q.length A) (.slice H y.length I) (.slice D3 G.length e3):=⟨q,y,G,RI.aa j1 (fun b f=>F b f),RI.aa j2 (fun b f=>F b f),RI.aa j3 (fun b f=>F b f),by have:=HN.out;omega,by have:=HN.out;omega,fun m hm=>HM m (jM m hm),hl,hp⟩;have HR:Hid (tC M (n+n2) id up o w s x (.returned (.tuple #[])) (((w2.setCell ⟨s,2+k*3,none⟩ (.slice z q.length A)).setCell ⟨s,2+k*3+1,none⟩ (.slice H y.length I)).setCell ⟨s,2+k*3+2,none⟩ (.slice D3 G.length e3))):=
   aH ⟨rfl,o,⟨D,_,am.I (am.I (am.I J _ _) _ _) _ _,(HX.2.mono (fun m h=>h) (yN n n2)).setBag hj S (Ne.symm hx) (hs.st R (Ne.symm hx))⟩,S⟩
  go_wp2;go_end0;exact HR
end
theorem Ez(g:Nat)(o:Option (List UInt8)) w(h:RS w g o):Cs 153 #[Pt g] w fun e w'=>(Rt e (I6 10)/\o≠some []\/Rt e (I6 0)/\o=some [])/\w=w':=by
 cases o with
 |some l=>
  refine(xq g l false w h.2).mono fun e w' ⟨b,c⟩=>⟨?_,c⟩;cases l with
  |nil=>exact .inr ⟨b,rfl⟩
  |cons a l=>exact .inl ⟨b,by simp⟩
 |none=>
  obtain⟨l,b,c⟩:=h;exact(xq g l true w c).mono fun e w' ⟨b,c⟩=>⟨.inl ⟨b,by simp⟩,c⟩
def iZ(id:Int)(r:List UInt8):Int:=if ix r=0 then id else ix r
def lM(M:Mg->Prop)(n:Nat)(id up:Int)(o:Ow)(s:Nat)(x:Nat×Nat)(g:Nat)(r:List UInt8)(w:World)(e:Ending)(w':World):Prop:=∃ol,RS w' g ol/\aW g w w'/\(ol=some []/\e≠.returned .nilFunc\/ix r=0/\fh r=0)/\(Rt e .nilFunc\/∃K caps,Rt e (.func (.func K) #[] caps)/\(∀args W,(callFunc K args).run prog W=.ok (.enter K args) W)/\
 (ol=some []->∀W,Below w'.heap.size w' W->dF M n id up o W s x->Cs K caps W (tC M (n+r.length) (iZ id r) (max up (fh r)) o W s x)))
theorem lq{b:Int}{e}{w'}(h:tC M n id up o w s x e w')(c:n<=n')(hi:id=a)(f:up=b):tC M n' a b o w s x e w':=by
 subst hi;subst f;obtain⟨g,o',i,j⟩:=h;exact⟨g,o',i.mono (fun _ h=>h) c,j⟩
theorem pI{c:UInt8}{rest}{z:Nat}(h:bk MD rest=some (z,[])):q1 (c::rest)=z:=by
 unfold q1;rw[show List.drop 1 (c::rest)=rest from rfl,h]
theorem jg{c:UInt8}{rest}(h:∀z,z≠0->bk MD rest≠some (z,[])):ix (c::rest)=0/\fh (c::rest)=0:=by
 have a:q1 (c::rest)=0:=by
  unfold q1;rw[show List.drop 1 (c::rest)=rest from rfl];split
  ·rename_i n hn;by_cases hz:n=0
   ·subst hz;rfl
   ·exact absurd hn (h n hz)
  ·rfl
 unfold ix fh;rw[a];exact⟨by split<;>rfl,by split<;>rfl⟩
theorem en{c:UInt8}{rest}(a:c≠73)(b:c≠82):ix (c::rest)=0/\fh (c::rest)=0:=by
 unfold ix fh;exact⟨if_neg (by simpa using a),if_neg (by simpa using b)⟩
theorem sY(g:Nat) rest(hg:RS w g (some rest))(hs:s < w.heap.size)(hx:x≠(0,0))(hf:aX o w)(hup:0<=up):
  Cs 190 #[Pt s,.string (aF [73]),Pt g] w (lM M n id up o s x g (73::rest) w):=by
 obtain⟨W0,A,I,C⟩:=dW w #[Pt s] 85;have k:=hg.lay (.cells #[Pt s] 85);have D:W0.heap.size=w.heap.size+1:=by rw[<-A];simp
 rw[A]at k;have S:=hg.lt;have F:=aH (dy g 1099511627776 (some rest) W0 k (by omega));have T:=ce C;obtain⟨J,L,U⟩:=gC C hf D;obtain⟨N,m⟩:=nx (bk 1099511627776 rest);rw[zI,m]at F;have i:=aH m;apply cI;go_in;go_upto_region 1 with(fail);simp only[A.out];go_wp2_with fail;refine F.mono ?_;rintro V w2 ⟨rfl,p,q⟩;have t:=J.only q (by omega);have c2:=ce t;have f:=aA (aG (g:=g) I) q;cases N with
 |none=>
  have b:=aH (zB (p.lay (.cells #[I6 0] 3)) (aA f (cL (g:=g) w2 (.cells #[I6 0] 3))));go_wp2_with fail;go_ret;exact⟨_,b.1,b.2,.inr (jg fun z _ e=>by have h:=i.out;unfold MD at e;rw[e]at h;cases h),.inl rfl⟩
 |some y=>
  obtain⟨z,G⟩:=y;obtain⟨b,H⟩:=gB (zB (p.lay (.cells #[I6 z] 3)) (aA f (cL (g:=g) w2 (.cells #[I6 z] 3)))) (zB t f);by_cases h0:z=0
  ·subst h0;go_wp2_with fail;go_ret;exact⟨_,b.1,b.2,.inr (jg fun z j e=>by have h:=i.out;unfold MD at e;rw[e]at h;injection h with h;injection h with h _;exact j h),.inl rfl⟩
  ·have X:decide ((z:Int) < 1)=false:=by simp;omega
   go_wp2_with fail;go_ret;refine⟨_,b.1,b.2,?_,.inr ⟨_,_,rfl,aQ func287 (by kernel_rfl) (by kernel_rfl),fun e W hW hst=>?_⟩⟩
   ·cases G with
    |nil=>exact .inl ⟨rfl,fun h=>by cases h⟩
    |cons a G=>exact .inr (jg fun z j e=>by have h:=i.out;unfold MD at e;rw[e]at h;injection h with h;injection h with _ h;cases h)
   simp only[Option.map_some,Option.some.injEq]at e;subst e;have j:=pI (c:=73) i;have u:=ba w2 (.cells #[I6 (z:Nat)] 3);have O:=am.cell (am.below (am.new w2 3 #[I6 (z:Nat)]) hW) 0;have R:=am.cell (am.below (am.below H.1 u) hW) 0;have B:aX o W:=L.below (zD H.2.size (zD u.size hW.size));exact(Ao hst hx B (z:Nat) w2.heap.size w.heap.size O R).mono fun e w' h=>lq h (yN _ _) (by unfold iZ ix;simp[j,h0]) (by unfold fh;simp;omega)
theorem sZ(g:Nat) rest(hg:RS w g (some rest))(hs:s < w.heap.size)(hx:x≠(0,0))(hf:aX o w)(hup:0<=up):
  Cs 190 #[Pt s,.string (aF [82]),Pt g] w (lM M n id up o s x g (82::rest) w):=by
 obtain⟨W0,A,I,C⟩:=dW w #[Pt s] 85;have k:=hg.lay (.cells #[Pt s] 85);have D:W0.heap.size=w.heap.size+1:=by rw[<-A];simp
 rw[A]at k;have S:=hg.lt;have F:=aH (dy g 1099511627776 (some rest) W0 k (by omega));have T:=ce C;obtain⟨J,L,U⟩:=gC C hf D;obtain⟨N,m⟩:=nx (bk 1099511627776 rest);rw[zI,m]at F;have i:=aH m;apply cI;go_in;go_upto_region 1 with(fail);simp only[A.out];go_wp2_with fail;refine F.mono ?_;rintro V w2 ⟨rfl,p,q⟩;have t:=J.only q (by omega);have c2:=ce t;have f:=aA (aG (g:=g) I) q;cases N with
 |none=>
  have b:=aH (zB (p.lay (.cells #[I6 0] 3)) (aA f (cL (g:=g) w2 (.cells #[I6 0] 3))));go_wp2_with fail;go_ret;exact⟨_,b.1,b.2,.inr (jg fun z _ e=>by have h:=i.out;unfold MD at e;rw[e]at h;cases h),.inl rfl⟩
 |some y=>
  obtain⟨z,G⟩:=y;obtain⟨b,H⟩:=gB (zB (p.lay (.cells #[I6 z] 3)) (aA f (cL (g:=g) w2 (.cells #[I6 z] 3)))) (zB t f);by_cases h0:z=0
  ·subst h0;go_wp2_with fail;go_ret;exact⟨_,b.1,b.2,.inr (jg fun z j e=>by have h:=i.out;unfold MD at e;rw[e]at h;injection h with h;injection h with h _;exact j h),.inl rfl⟩
  ·have X:decide ((z:Int) < 1)=false:=by simp;omega
   go_wp2_with fail;go_ret;refine⟨_,b.1,b.2,?_,.inr ⟨_,_,rfl,aQ func288 (by kernel_rfl) (by kernel_rfl),fun e W hW hst=>?_⟩⟩
   ·cases G with
    |nil=>exact .inl ⟨rfl,fun h=>by cases h⟩
    |cons a G=>exact .inr (jg fun z j e=>by have h:=i.out;unfold MD at e;rw[e]at h;injection h with h;injection h with _ h;cases h)
   simp only[Option.map_some,Option.some.injEq]at e;subst e;have j:=pI (c:=82) i;have u:=ba w2 (.cells #[I6 (z:Nat)] 3);have O:=am.cell (am.below (am.new w2 3 #[I6 (z:Nat)]) hW) 0;have R:=am.cell (am.below (am.below H.1 u) hW) 0;have B:aX o W:=L.below (zD H.2.size (zD u.size hW.size));exact(Ap hst hx B (z:Nat) w.heap.size w2.heap.size R O).mono fun e w' h=>lq h (yN _ _) (by unfold iZ ix;simp) (by unfold fh;simp[j])
theorem s0(g:Nat) rest(hg:RS w g (some rest))(hs:s < w.heap.size)(hx:x≠(0,0))(hf:aX o w)(hup:0<=up):
  Cs 190 #[Pt s,.string (aF [78]),Pt g] w (lM M n id up o s x g (78::rest) w):=by
 obtain⟨W0,u,C,D⟩:=dW w #[Pt s] 85;have m:=hg.lay (.cells #[Pt s] 85);have F:W0.heap.size=w.heap.size+1:=by rw[<-u];simp
 rw[u]at m;have T:=hg.lt;have N:=aH (px g (some rest) W0 m);have V:=ce D;obtain⟨O,G,X⟩:=gC D hf F;apply cI;go_in;go_upto_region 1 with(fail);simp only[u.out];go_wp2_with fail;refine N.mono ?_;rintro Y w2 ⟨v2,f,Z,rfl,i,H,y,I,p⟩;have q:=O.only p (by omega);have c2:=ce q;have t:=aA (aG (g:=g) C) p;obtain⟨j,c,rfl,_⟩:=i.rw.slice;obtain⟨J,z,A⟩:=gC (zB (I.lay (.cells #[.slice j f.length c] 151)) (aA t (cL (g:=g) w2 (.cells #[.slice j f.length c] 151)))) (zB q t) (zB i (zB H y));go_wp2_with fail;go_ret;refine⟨_,J.1,J.2,.inr (en (by decide) (by decide)),.inr ⟨_,_,rfl,aQ func290 (by kernel_rfl) (by kernel_rfl),fun e W hW hst=>?_⟩⟩;have k:=ba w2 (.cells #[.slice j f.length c] 151);have R:=am.cell (am.below (am.new w2 151 #[.slice j f.length c]) hW) 0;have S:=am.cell (am.below (am.below z.1 k) hW) 0;have B:aX o W:=G.below (zD z.2.size (zD k.size hW.size));have L:pA a7 o W 100 iw (.slice j f.length c):=⟨f,RI.aa (aI (aI A.1 k) hW) (fun b hb=>G b (by have:=C.size;omega)),A.2.1,fun a ha=>vm (A.2.2 a ha)⟩;have U:w.heap.size<=w2.heap.size:=z.2.size;exact(Ar hst hx B L w.heap.size w2.heap.size (by omega) (by omega) S R).mono fun e w' h=>lq h (yN _ _) (by unfold iZ ix;simp) (by unfold fh;simp;omega)
theorem ra{p:Pe}(h:k8 p=true):cA p:=by
 unfold k8 cD at h;simp only[yE,decide_eq_true_eq]at h;unfold cA bN;omega
theorem DS{t:be}(h:oT t=true):fA t:=by
 unfold oT p3 Dc at h;simp only[yE,decide_eq_true_eq]at h;exact⟨b0 h.1.1,by unfold bN;omega,by unfold bN;omega⟩
theorem s3(g:Nat) rest(hg:RS w g (some rest))(hs:s < w.heap.size)(hx:x≠(0,0))(hf:aX o w)(hup:0<=up):
  Cs 190 #[Pt s,.string (aF [86]),Pt g] w (lM M n id up o s x g (86::rest) w):=by
 obtain⟨W0,u,C,D⟩:=dW w #[Pt s] 85;have m:=hg.lay (.cells #[Pt s] 85);have F:W0.heap.size=w.heap.size+1:=by rw[<-u];simp
 rw[u]at m;have T:=hg.lt;have N:=aH (py g (some rest) W0 m);have V:=ce D;obtain⟨O,G,X⟩:=gC D hf F;apply cI;go_in;go_upto_region 1 with(fail);simp only[u.out];go_wp2_with fail;refine N.mono ?_;rintro Y w2 ⟨v2,f,Z,rfl,i,H,y,I,p⟩;have q:=O.only p (by omega);have c2:=ce q;have t:=aA (aG (g:=g) C) p;obtain⟨j,c,rfl,_⟩:=i.rw.slice;obtain⟨J,z,A⟩:=gC (zB (I.lay (.cells #[.slice j f.length c] 117)) (aA t (cL (g:=g) w2 (.cells #[.slice j f.length c] 117)))) (zB q t) (zB i (zB H y));go_wp2_with fail;go_ret;refine⟨_,J.1,J.2,.inr (en (by decide) (by decide)),.inr ⟨_,_,rfl,aQ func291 (by kernel_rfl) (by kernel_rfl),fun e W hW hst=>?_⟩⟩;have k:=ba w2 (.cells #[.slice j f.length c] 117);have R:=am.cell (am.below (am.new w2 117 #[.slice j f.length c]) hW) 0;have S:=am.cell (am.below (am.below z.1 k) hW) 0;have B:aX o W:=G.below (zD z.2.size (zD k.size hW.size));have L:pA aL o W 64 cA (.slice j f.length c):=⟨f,RI.aa (aI (aI A.1 k) hW) (fun b hb=>G b (by have:=C.size;omega)),A.2.1,fun a ha=>ra (A.2.2 a ha)⟩;have U:w.heap.size<=w2.heap.size:=z.2.size;exact(As hst hx B L w.heap.size w2.heap.size (by omega) (by omega) S R).mono fun e w' h=>lq h (yN _ _) (by unfold iZ ix;simp) (by unfold fh;simp;omega)
theorem s4(g:Nat) rest(hg:RS w g (some rest))(hs:s < w.heap.size)(hx:x≠(0,0))(hf:aX o w)(hup:0<=up):
  Cs 190 #[Pt s,.string (aF [72]),Pt g] w (lM M n id up o s x g (72::rest) w):=by
 obtain⟨W0,u,C,D⟩:=dW w #[Pt s] 85;have m:=hg.lay (.cells #[Pt s] 85);have F:W0.heap.size=w.heap.size+1:=by rw[<-u];simp
 rw[u]at m;have T:=hg.lt;have N:=aH (zn g (some rest) W0 m);have V:=ce D;obtain⟨O,G,X⟩:=gC D hf F;apply cI;go_in;go_upto_region 1 with(fail);simp only[u.out];go_wp2_with fail;refine N.mono ?_;rintro Y w2 ⟨v2,f,Z,rfl,i,H,y,I,p⟩;have q:=O.only p (by omega);have c2:=ce q;have t:=aA (aG (g:=g) C) p;obtain⟨j,c,rfl,_⟩:=i.rw.slice;obtain⟨J,z,A⟩:=gC (zB (I.lay (.cells #[.slice j f.length c] 139)) (aA t (cL (g:=g) w2 (.cells #[.slice j f.length c] 139)))) (zB q t) (zB i (zB H y));go_wp2_with fail;go_ret;refine⟨_,J.1,J.2,.inr (en (by decide) (by decide)),.inr ⟨_,_,rfl,aQ func293 (by kernel_rfl) (by kernel_rfl),fun e W hW hst=>?_⟩⟩;have k:=ba w2 (.cells #[.slice j f.length c] 139);have R:=am.cell (am.below (am.new w2 139 #[.slice j f.length c]) hW) 0;have S:=am.cell (am.below (am.below z.1 k) hW) 0;have B:aX o W:=G.below (zD z.2.size (zD k.size hW.size));have L:pA bF o W 1000 fA (.slice j f.length c):=⟨f,RI.aa (aI (aI A.1 k) hW) (fun b hb=>G b (by have:=C.size;omega)),A.2.1,fun a ha=>DS (A.2.2 a ha)⟩;have U:w.heap.size<=w2.heap.size:=z.2.size;exact(Aq hst hx B L w2.heap.size w.heap.size R S).mono fun e w' h=>lq h (yN _ _) (by unfold iZ ix;simp) (by unfold fh;simp;omega)
end Go.Proofs.YthdfgdicnplhlaaGreatDoor
