import Derived.Test.YthdfgdicnplhlaaGreatDoorG
set_option maxHeartbeats 16000000
set_option maxRecDepth 100000
set_option linter.all false
namespace Go.Proofs.YthdfgdicnplhlaaGreatDoor
open Go.RowKit Hd _root_.Go.Proofs.Tryz
variable{l:List be}{α:Type}{p:List UInt8->Pr α}{P:Program}{m:Nat}{x:Nat × Nat}{M:Mg → Prop}{n:Nat}{id up:Int}{o:Ow}{w:World}{s:Nat}{t:TypeId}{ps:Array TypeId}{rs:List (List UInt8)}{v:Bool}{k i:Nat}{E:bX}{r:Nat}{d d':Dk}{rs1 rs2:List (List UInt8)}{c:Int}{Rf:Nat → Prop}{N:Nb}{T B:Nat}{hand:Option Nat}{rsv:List Int}{o':Ow}{w':World}{next u R:Int}{br dead:Bool}{W:World}{rsv':List Int}{next':Int}{dead':Bool}{vr vl:Value}{reps:List Rp}{lets:List Lt}{ws:List (Int×Qg)}{qc:IM}{v6:Value}{w6:World}{o6:Ow}{g:Qg}{b part:Nat}{tl:List Tg}{ls:List Mg}{B':Nat}{w1:World}{seq:Int}{cs:Array Value}{rc:Int}
theorem CO{l:List UInt8}{y:List Mg×List bC×List bC}{r}(h:kn l=some (y,r)):y.1.length<=l.length/\y.2.1.length+y.2.2.length<=l.length:=by
 have a:=Co h;have c:=l5 y.1 y.2.1 y.2.2;have b:=congrArg List.length a;rw[zC]at b;omega
def F1:Prop:=∀l y r,kn l=some (y,r)->(∀d∈y.2.1,aO d=true)/\∀d∈y.2.2,aO d=true
theorem s5{P:α->Prop}(c:∀l x r,p l=some (x,r)->P x):∀(n:Nat) (l:List UInt8) (x:List α) (r:List UInt8),cK p n l=some (x,r)->∀a∈x,P a
 |0,l,x,r,h=>by unfold cK at h;injection h with h;injection h with h _;subst h;simp
 |n+1,l,x,r,h=>by
  unfold cK at h
  cases hq:p l with
  |none=>rw[hq]at h;cases h
  |some y=>
   rw[hq]at h
   simp only[zI]at h
   cases hr:cK p n y.2 with
   |none=>rw[hr]at h;cases h
   |some z=>
    rw[hr]at h
    injection h with h
    injection h with h1 _
    subst h1
    intro a b
    rcases jV.1 b with rfl|b
    ·exact c l _ _ hq
    ·exact s5 c n _ _ _ hr a b
theorem re{P:α->Prop}(b:∀l x r,p l=some (x,r)->P x){l}{x:List α}{r}(h:eh p m l=some (x,r)):∀a∈x,P a:=by
 unfold eh at h;cases hq:bk m l with
 |none=>rw[hq]at h;cases h
 |some y=>rw[hq]at h;exact s5 b _ _ _ _ h
theorem x0:∀l x r,dC l=some (x,r)->aO x=true:=by
 intro l x r h;unfold dC at h;cases hp:bk MD l with
 |none=>rw[hp]at h;cases h
 |some y=>
  rw[hp]at h;simp only[zI]at h;cases hq:bk MD y.2 with
  |none=>rw[hq]at h;cases h
  |some z=>
   rw[hq]at h;simp only[zI]at h;split at h
   ·rename_i ho;injection h with h;injection h with h _;subst h;exact ho
   ·cases h
theorem EA:F1:=by
 intro l x r h;unfold kn at h;cases hq:js l with
 |none=>rw[hq]at h;cases h
 |some y=>
  rw[hq]at h;simp only[zI]at h;cases hr:eh jh 1000 y.2 with
  |none=>rw[hr]at h;cases h
  |some z=>
   rw[hr]at h;injection h with h;injection h with h1 h2;subst h1;unfold js at hq;cases hs:eh dC 1000 l with
   |none=>rw[hs]at hq;cases hq
   |some u=>
    rw[hs]at hq;simp only[zI]at hq;cases ht:eh dC 1000 u.2 with
    |none=>rw[ht]at hq;cases hq
    |some v=>
     rw[ht]at hq;injection hq with hq;subst hq;exact⟨re x0 hs,re x0 ht⟩
theorem s6(g:Nat)(rest:List UInt8)(hg:RS w g (some rest))(hs:s < w.heap.size)(hx:x≠(0,0))(hf:aX o w)(hI:0<=up)(hM:pH M)(hr:ov M (66::rest))(hn:n+rest.length<=9000000):
  Cs 190 #[Pt s,.string (aF [66]),Pt g] w (lM M n id up o s x g (66::rest) w):=by
 obtain⟨W0,HW,HB,x1⟩:=dW w #[Pt s] 85;have V:=hg.lay (.cells #[Pt s] 85);have hp:W0.heap.size=w.heap.size+1:=by rw[<-HW];simp
 rw[HW]at V;have hJ:=hg.lt;have HR:=aH (dy g 15 (some rest) W0 V (by omega));have c0:=ce x1;obtain⟨X1,HF,hq,ht⟩:=gD x1 hf hr hM;obtain⟨H,I⟩:=nx (bk 15 rest);rw[zI,I]at HR;have J:((H.map Prod.fst).getD 0) < 16:=by
  cases H with
  |none=>show 0 < 16;omega
  |some y=>have:=(cO I).1;show y.1 < 16;omega
 have HP:=aH I;obtain⟨k,hk⟩:=nx ((H.map Prod.fst).getD 0);rw[hk]at J;have HK:=aH hk;have hu:Hid (Cs 236 #[Pt g,I6 15] W0 fun e w'=>Rt e (I6 (k:Nat))/\RS w' g (H.map Prod.snd)/\aW g W0 w'):=aH (HR.mono fun e w' ⟨h1,h2,h3⟩=>⟨by rw[h1,hk],h2,h3⟩);apply cI;go_in;go_upto_region 1 with(fail);simp only[HW.out];go_wp2_with fail;refine hu.mono ?_;rintro _e w2 ⟨rfl,X,L⟩;have hw:=X1.only L (by omega);have N:=aA (aG (g:=g) HB) L;have T:=am.new w2 3 #[I6 (k:Nat)];have p:=cL (g:=g) w2 (.cells #[I6 (k:Nat)] 3);have Y:=X.lay (.cells #[I6 (k:Nat)] 3);have Z:=am.alloc hw (.cells #[I6 (k:Nat)] 3);have hH:=X.lt;have O:(w2.alloc (.cells #[I6 (k:Nat)] 3)).heap.size=w2.heap.size+1:=by simp
 obtain⟨W3,ha⟩:=nM (w2.alloc (.cells #[I6 (k:Nat)] 3));rw[ha]at T p Y Z O;obtain⟨hz,HX,hc⟩:=gC (pf g (H.map Prod.snd) W3 Y) (zB Z (zB T (aA N p))) (zB hp (zB O L.size));go_upto_region 14 with(fail);simp only[ha.out];go_wp2_with fail;refine hz.mono ?_;rintro _e w4 ⟨hA,a,vl,vb,vc,rfl,ol,ob,oc,hB,q⟩;obtain⟨D,c1,rfl,_⟩:=ol.rw.slice;obtain⟨F,c2,rfl,_⟩:=ob.rw.slice;obtain⟨G,c3,rfl,_⟩:=oc.rw.slice;have hd:=HX.1.only q (by omega);have c4:=ce hd;have N:=aA HX.2.2 q;obtain⟨⟨ls,b,cl⟩,j⟩:∃y,(Option.map Prod.fst hA).getD ([],[],[])=y:=⟨_,rfl⟩;rw[j]at ol ob oc;simp only[j];have U:=am.new w4 131 #[.slice D ls.length c1,.slice F b.length c2,.slice G cl.length c3];have p:=cL (g:=g) w4 (.cells #[.slice D ls.length c1,.slice F b.length c2,.slice G cl.length c3] 131);have c:=ba w4 (.cells #[.slice D ls.length c1,.slice F b.length c2,.slice G cl.length c3] 131);have t:=hB.lay (.cells #[.slice D ls.length c1,.slice F b.length c2,.slice G cl.length c3] 131);have u:=am.below hd c;have z:=am.below (HX.2.1.only q (by omega)) c;have f:=aA N p;have A:=aI ol c;have B:=aI ob c;have C:=aI oc c;have hK:=q.size;have hC:w2.heap.size < (w4.alloc (.cells #[.slice D ls.length c1,.slice F b.length c2,.slice G cl.length c3] 131)).heap.size:=by have:=hc.out;have:=c.size;omega
 have m:w.heap.size≠s/\w2.heap.size≠s/\w4.heap.size≠s/\w.heap.size<=W3.heap.size:=by have:=hc.out;have:=HB.size;omega
 obtain⟨W5,he⟩:=nM (w4.alloc (.cells #[.slice D ls.length c1,.slice F b.length c2,.slice G cl.length c3] 131));rw[he]at U t u z f A B C hC;obtain⟨HG,HL⟩:=gB (zB t (zB f (zB u (zB z (zB U (zB A (zB B C))))))) (zB j (zB a m));go_wp2_with fail;simp only[he.out];go_ret;obtain⟨t,f,u,z,U,A,B,C⟩:=HG.out;obtain⟨j,a,m⟩:=HL.out;refine⟨_,t,f,.inr (en (by decide) (by decide)),.inr ⟨_,_,rfl,aQ func289 (by kernel_rfl) (by kernel_rfl),fun e W hW hst=>?_⟩⟩;obtain⟨⟨⟨hh,b',cl'⟩,r'⟩,hy,i⟩:=yS.1 e;replace i:r'=[]:=i;subst i;subst hy;rcases a with a|a
 ·cases a
 obtain⟨rest1,hD,R⟩:=Option.bind_eq_some_iff.1 a.symm;obtain⟨⟨k',r1⟩,hy,i⟩:=yS.1 hD;replace i:r1=rest1:=i;subst i;subst hy;have hE:k'=k:=HK;subst hE;have hl:(hh,b',cl')=(ls,b,cl):=j;injection hl with T e2;injection e2 with e2 e3;subst T;subst e2;subst e3;have hF:=CO R;simp only at hF;have hj:=EA _ _ _ R;have hG:=hq rfl _ _ _ HP R;have hm:=(cO HP).2;simp only at hm;have b1:=am.cell (am.below u hW) 0;have b2:=am.cell (am.below z hW) 0;have b3:=am.below U hW;have ho:aX o W:=HF.below (zD f.size hW.size);have S:∀b,W3.heap.size<=b->o b=(0,0):=fun b hb=>HF b (by omega);refine(Au hst hx ho ht k' J (n2:=(66::rest).length) ⟨hh,b',cl',RI.aa (aI A hW) S,RI.aa (aI B hW) S,RI.aa (aI C hW) S,?_,?_,hG,hj.1,hj.2⟩ ?_ w.heap.size w2.heap.size w4.heap.size m.1 m.2.1 m.2.2.1 b1 b2 ⟨am.cell b3 0,am.cell b3 1,am.cell b3 2⟩).mono fun e w' h=>lq h nR (by unfold iZ ix;simp) (by unfold fh;simp;omega)
 ·simp;omega
 ·simp;omega
 ·simp;omega
theorem vT(g:Nat)(c:UInt8) rest(hg:RS w g (some rest))(h1:c≠73)(h2:c≠82)(h3:c≠66)(h4:c≠78)(h5:c≠86)(h6:c≠72):
  Cs 190 #[Pt s,.string (aF [c]),Pt g] w (lM M n id up o s x g (c::rest) w):=by
 have f:=hg.lt;obtain⟨a,b⟩:=gB (zB (hg.lay (.cells #[Pt s] 85)) (cL (g:=g) w (.cells #[Pt s] 85))) (en (rest:=rest) h1 h2);have h:(c==73)=false:=by simpa using h1
 have i:(c==82)=false:=by simpa using h2
 have j:(c==66)=false:=by simpa using h3
 have k:(c==78)=false:=by simpa using h4
 have m:(c==86)=false:=by simpa using h5
 have p:(c==72)=false:=by simpa using h6
 apply cI;go_in;go_wp2;go_ret;exact⟨_,a.1,a.2,.inr b,.inl rfl⟩
theorem Av(g:Nat)(c:UInt8)(rest:List UInt8)(b:RS w g (some rest))(f:s < w.heap.size)(h:x≠(0,0))(hf:aX o w)(a:0<=up)(i:pH M)(j:ov M (c::rest))(k:n+rest.length<=9000000):
  Cs 190 #[Pt s,.string (aF [c]),Pt g] w (lM M n id up o s x g (c::rest) w):=by
 by_cases h1:c=73
 ·subst h1;exact sY g rest b f h hf a
 by_cases h2:c=82
 ·subst h2;exact sZ g rest b f h hf a
 by_cases h3:c=66
 ·subst h3;exact s6 g rest b f h hf a i j k
 by_cases h4:c=78
 ·subst h4;exact s0 g rest b f h hf a
 by_cases h5:c=86
 ·subst h5;exact s3 g rest b f h hf a
 by_cases h6:c=72
 ·subst h6;exact s4 g rest b f h hf a
 exact vT g c rest b h1 h2 h3 h4 h5 h6
theorem rh w(d:Nat){rs:Array TypeId}(h:P.underlying t=some (.func ps rs v)):(Op.equalIn (d+1) t .nilFunc .nilFunc).run P w=.ok true w:=by
 simp[Op.equalIn,run_underlying h]
theorem Aw w(d:Nat){rs:Array TypeId}(h:P.underlying t=some (.func ps rs v))(K:Fn) f c:(Op.equalIn (d+1) t (.func K f c) .nilFunc).run P w=.ok false w:=by
 simp[Op.equalIn,run_underlying h]
theorem vU w{rs:Array TypeId}(h:P.underlying t=some (.func ps rs v)):(binOp .eql t .nilFunc .nilFunc).run P w=.ok (.bool true) w:=by
 have a:(Op.equal t .nilFunc .nilFunc).run P w=.ok true w:=rh w 9999 h;unfold binOp;show((do pure (.bool (<-Op.equal t .nilFunc .nilFunc)):Sem Value)).run P w=_;rw[Sem.run_bind,a];rfl
theorem DT w{rs:Array TypeId}(h:P.underlying t=some (.func ps rs v))(K:Fn) f c:(binOp .eql t (.func K f c) .nilFunc).run P w=.ok (.bool false) w:=by
 have a:(Op.equal t (.func K f c) .nilFunc).run P w=.ok false w:=Aw w 9999 h K f c;unfold binOp;show((do pure (.bool (<-Op.equal t (.func K f c) .nilFunc)):Sem Value)).run P w=_;rw[Sem.run_bind,a];rfl
def Gn(M:Mg->Prop)(n:Nat)(id up:Int)(o:Ow)(w:World)(s:Nat)(x:Nat×Nat)(r:List UInt8)(e:Ending)(w':World):Prop:=
 ∃c:Int,Rt e (I6 c)/\∃o' id',dF M (n+r.length) id' (max up (fh r)) o' w' s x/\St (·=x) o w o' w'/\(id'=iZ id r\/c≠0/\id≠0/\id'=id)
theorem pJ(h:dF M n id up o w s x)(hx:x≠(0,0))(hf:aX o w)(J:0<=up)(L:id < 9223372036854775808)(hM:pH M)(r:List UInt8)(hr:ov M r)(N:n+r.length<=9000000):
  Cs 99 #[Pt s,.string (aF r)] w (Gn M n id up o w s x r):=by
 have h0:=h;obtain⟨ho,cs,z,hc⟩:=h0;have y0:Ce w s 0 (I6 id):=(am.cell z 0).trans hc.id;have hl:=h.lt;obtain⟨i,b⟩:=gB h hf;cases r with
 |nil=>
  apply cI;go_in;go_wp2_with fail;go_ret;exact⟨10,rfl,o,id,by rw[show fh []=0 from rfl,show max up 0=up by omega];exact i,.refl b,.inl (by unfold iZ;rw[show ix []=0 from rfl];rfl)⟩
 |cons c rest=>
  have hj:rest.length < 9000000:=by simp at N;omega
  have e0:decide (aF (c::rest)=⟨#[]⟩)=false:=by simp[aF]
  have HG:=aH (mg rest w);have H:max up (fh (c::rest))=up\/fh (c::rest)≠0:=by by_cases h:fh (c::rest)=0;exact .inl (by rw[h];omega);exact .inr h
  obtain⟨HU,I⟩:=gB H (fun W=>sC id W L);apply cI;go_in;go_wp2_with fail;rw[l0 _ 1 _ (by simp),gO];simp only[zF,zN,zG,zO];refine HG.mono ?_;rintro j w1 ⟨rfl,O,p⟩;obtain⟨R,S⟩:=gB (Av (M:=M) (n:=n) (id:=id) (up:=up) (o:=o) (s:=s) (x:=x) w.heap.size c rest ⟨by unfold yj;omega,O⟩ (by have:=p.size;omega) hx (b.below p.size) J hM hr (by simp at N;omega)) p;go_wp2_with fail;refine R.mono ?_;rintro j w2 ⟨ol,T,U,hz,hk⟩;have A:=U.ct nR S;have y2:=aD A y0;obtain⟨HE,B,V,a⟩:=gD (Ez w.heap.size ol w2 T) (fun(h:ix (c::rest)=0/\fh (c::rest)=0) (k:Int) W (z:Bw w W)=>show Gn M n id up o w s x (c::rest) (.returned (I6 k)) W from⟨k,rfl,o,id,by rw[h.2,show max up 0=up by omega];exact(i.below z b).mono (fun m h=>h) (yN _ _),.J z b,.inl (by unfold iZ;rw[h.1];rfl)⟩) hz A;rcases hk with rfl|⟨K,caps,rfl,hent,hch⟩
  ·have hq:=fun W=>vU (P:=prog) W (t:=1) (ps:=#[]) (rs:=#[]) (v:=false) (by kernel_rfl);go_wp2_with fail;go_ret;exact B (V.resolve_left fun h=>h.2 rfl) 10 _ a
  ·have X:=aH hch;have hq:=fun W=>DT (P:=prog) W (t:=1) (ps:=#[]) (rs:=#[]) (v:=false) (by kernel_rfl) (.func K) #[] caps;go_wp2_with fail;refine HE.mono ?_;rintro j w3 ⟨⟨rfl,f⟩|⟨rfl,f⟩,C⟩
   ·subst C;go_wp2_with fail;go_ret;exact B (V.resolve_left fun h=>f h.1) 10 _ a
   ·subst C;have Y:=X f w2 (.refl _ _) (i.below a b);have D:=aH Y;have F:=aH (fun W (hW:Bw w W) e w' (h:tC M (n+(c::rest).length) (iZ id (c::rest)) (max up (fh (c::rest))) o W s x e w')=>show Rt e (.tuple #[])/\Gn M n id up o w s x (c::rest) (.returned (I6 0)) w' from by
     obtain⟨h1,o',h2,h3⟩:=h;exact⟨h1,0,rfl,o',_,h2,(St.J hW b).trans h3,.inl rfl⟩)
    obtain⟨Z,ha⟩:=gB (F w2 a) (X f);by_cases h73:c=73
    ·subst h73;by_cases hi0:id=0
     ·subst hi0;go_wp2_with fail;refine D.mono ?_;rintro j w4 q;obtain⟨rfl,u⟩:=Z _ _ q;have y:=aH u;go_wp2_with fail;go_ret;exact y
     ·obtain⟨hm,hd⟩:=gB (i.below a b) (I w2);go_wp2_with fail;refine hd.mono ?_;rintro j w4 ⟨rfl,G⟩;have g:Bw w w4:=a.trans (G.mono a.size);obtain⟨he,hg⟩:=gB (ha w4 G (i.below g b)) (F w4 g);have hh:Hid (Gn M n id up o w s x (73::rest) (.returned (I6 13)) w4):=aH (by
       have e1:max up (fh (73::rest))=up:=by rw[show fh (73::rest)=0 by unfold fh;simp];omega
       exact⟨13,rfl,o,id,by rw[e1];exact(i.below g b).mono (fun m h=>h) (yN _ _),.J g b,.inr ⟨by decide,hi0,rfl⟩⟩)
      generalize cT id=t;by_cases htr:t=rest
      ·subst htr;go_wp2_with fail;refine he.mono ?_;rintro j w5 q;obtain⟨rfl,u⟩:=hg _ _ q;have y:=aH u;go_wp2_with fail;go_ret;exact y
      ·have e1:(t==rest)=false:=by simpa using htr
       have e2:(id != 0)=true:=by simpa using hi0
       go_wp2_with fail;go_ret;exact hh
    ·have hp:(c==73)=false:=by simpa using h73
     go_wp2_with fail;refine D.mono ?_;rintro j w4 q;obtain⟨rfl,u⟩:=Z _ _ q;have y:=aH u;go_wp2_with fail;go_ret;exact y
def F2(M:Mg->Prop)(i:Nat)(rs:List (List UInt8))(o:Ow)(w:World)(e:Ending)(w':World):Prop:=
 ∃(p:Option Nat) (c:Int),Rt e (.tuple #[dS p,I6 c])/\(rs=[]->c=0)/\(c≠0/\(∃s o',w.heap.size<=s/\St (·=(i,s)) o w o' w')\/c=0/\∃(s:Nat) (o':Ow) (id:Int),p=some s/\w.heap.size<=s/\(id=0\/id=i)/\dF M rs.flatten.length id (dZ rs) o' w' s (i,s)/\St (·=(i,s)) o w o' w')
theorem Ax(h:k < rs.length):dZ (rs.take (k+1))=max (dZ (rs.take k)) (fh rs[k]):=by
 unfold dZ;rw[qE h,List.foldl_append];rfl
theorem Af rs:0<=dZ rs:=by
 unfold dZ;have:∀(u:Int),0<=u->0<=rs.foldl (fun u r=>max u (fh r)) u:=by
  induction rs with
  |nil=>intro u h;exact h
  |cons r rs ih=>intro u h;exact ih _ (by show 0<=max u (fh r);omega)
 exact this 0 (jL _)
theorem Ay(h:k < rs.length):(rs.take (k+1)).flatten.length=(rs.take k).flatten.length+rs[k].length/\(rs.take (k+1)).flatten.length<=rs.flatten.length:=by
 have a:(rs.take (k+1)).flatten.length=(rs.take k).flatten.length+rs[k].length:=by
  rw[qE h,List.flatten_append,zC];simp
 refine⟨a,?_⟩;have:=congrArg (fun l=>l.flatten.length) (yB (k+1) rs);simp only[List.flatten_append,zC]at this;omega
theorem CP{M:Mg->Prop}{o}{w}{v}(h:RI bM o w v rs)(hi:i≠0/\i<=8)(hf:aX o w)(T:pH M)(J:∀r∈rs,ov M r/\(ix r=0\/ix r=i))(hn:rs.flatten.length<=9000000)(hl:rs.length<=9000000):
  Cs 41 #[v] w (F2 M i rs o w):=by
 obtain⟨A,c,rfl,_⟩:=h.rw.slice;obtain⟨H,U,L⟩:=gC h hf J;clear h hf J;apply cI;go_in;go_wp2_with fail;go_step3;go_wp2_with fail;refine(CN w).mono ?_;rintro V w1 ⟨rfl,cs,x,bI⟩;have m:=dF.new (M:=M) bI U i hi.1;rw[<-x]at m;have ha:w1.heap.size=w.heap.size+1:=by rw[x];simp
 clear x bI;have X:=aH m;clear m;go_wp2_with fail;go_step3;go_wp2;go_loopw[5,11] (fun v5 v wr=>∃(k:Nat) (o':Ow) (id:Int),k<=rs.length/\v=I6 k/\v5=I6 0/\(id=0\/id=i)/\dF M (rs.take k).flatten.length id (dZ (rs.take k)) o' wr w.heap.size (i,w.heap.size)/\St (·=(i,w.heap.size)) o w o' wr) (fun _ v _=>rs.length - (intOf v).toNat)
 case atStart=>obtain⟨o',u,y⟩:=X;exact⟨0,o',0,by omega,rfl,rfl,.inl rfl,u,y⟩
 case round=>
  obtain⟨k,o',id,hk,rfl,rfl,z,f,j⟩:=hrel;have F:=H.st j (by simp;omega);have D:=aH (zB f j);by_cases hlt:k < rs.length
  ·obtain⟨g,a,rfl,p⟩:=F.rw.at_ (zA hlt);have Y:Ce wr g (a+k) (.string (aF rs[k])):=by have:=p 0 _ rfl;simpa[bM]using this
   have B:=Ay hlt;have N:=aH (Ax hlt);have q:=L _ (zY hlt);generalize hrk:rs[k]=t at Y B N q;obtain⟨Z,O,R⟩:=gC (pJ f (by simp;omega) j.far (Af _) (by omega) T t q.1 (by omega)) B (zB z q.2);clear p f j F B q z hrk;go_wp2_with fail;refine Z.mono ?_;rintro V w3 ⟨c,rfl,S,C,u,y,G⟩;have n:C=0\/C=i:=by
    obtain⟨a1,a2⟩:=R;rcases G with h|⟨_,_,h⟩
    ·subst h;unfold iZ;split
     ·exact a1
     ·exact .inr (a2.resolve_left (by assumption))
    ·subst h;exact a1
   rw[<-N,<-O.1]at u;have b:=D.2.trans y;by_cases hc:c=0
   ·subst hc;have I:=aH (show ∃(o':Ow) (id:Int),(id=0\/id=i)/\dF M (rs.take (k+1)).flatten.length id (dZ (rs.take (k+1))) o' w3 w.heap.size (i,w.heap.size)/\St (·=(i,w.heap.size)) o w o' w3 from⟨S,C,n,u,b⟩);clear n u y G b;go_wp2;go_roundw
    case rel=>obtain⟨o',id,r1,r2,r3⟩:=I;exact⟨k+1,o',id,by omega,by go_num,rfl,r1,r2,r3⟩
    case measure=>simp[intOf];omega
   ·have I:=aH (show ∃s o',w.heap.size<=s/\St (·=(i,s)) o w o' w3 from⟨_,S,nR,b⟩);clear n u y G b;go_wp2_with fail;rw[qJ];go_ret2;exact⟨none,c,rfl,fun e=>absurd hlt (by rw[e];simp),.inl ⟨hc,I⟩⟩
  ·obtain rfl:k=rs.length:=by omega
   rw[jJ]at f D;clear f j F;go_wp2_with fail;rw[qJ];go_ret2;exact⟨some _,0,rfl,fun _=>rfl,.inr ⟨rfl,_,o',id,rfl,nR,z,D.1,D.2⟩⟩
theorem s7(l a:Nat){v}{rs}(w:World)(c:Rw bM w v rs)(f:ez w l a true):
  Cs 104 #[Pt l,v] w fun e w'=>Rt e (I6 13)/\Below w.heap.size w w':=by
 obtain⟨A,cp,rfl,_⟩:=c.slice;obtain⟨W0,g,b,h,j⟩:=rt w #[Pt l] #[.slice A rs.length cp] 84 110;have k:=am.cell h 0;have i:=aH (sN l a 200 #[.pointer (some ⟨w.heap.size+1,0,none⟩),Pt w.heap.size] W0 (f.below b));apply cI;go_in;go_wp2_with fail;simp only[g.out];go_wp2_with fail;refine i.mono ?_;rintro m n ⟨rfl,rfl⟩;go_wp2_with fail;go_ret;exact⟨rfl,b⟩
theorem rj:∀(l:List (List UInt8)) (u:Int),u<=l.foldl (fun u r=>max u (fh r)) u/\(∀r∈l,fh r<=l.foldl (fun u r=>max u (fh r)) u)/\∀z,u<=z->(∀r∈l,fh r<=z)->l.foldl (fun u r=>max u (fh r)) u<=z
 |[],u=>⟨jL _,(fun r h=>by cases h),fun z h _=>h⟩
 |a::l,u=>by
  obtain⟨f,b,c⟩:=rj l (max u (fh a))
  refine⟨?_,fun r hr=>?_,fun z hz hl=>?_⟩
  ·rw[List.foldl_cons];omega
  ·rw[List.foldl_cons]
   rcases jV.1 hr with rfl|hr
   ·omega
   ·exact b r hr
  ·rw[List.foldl_cons]
   refine c z ?_ fun r hr=>hl r (qF _ hr)
   have:=hl a jO
   omega
theorem kG a b:dZ a<=dZ (a++b):=by
 unfold dZ;rw[List.foldl_append];exact(rj b _).1
theorem CQ{l}{r}(h:r∈l):fh r<=dZ l:=(rj l 0).2.1 r h
theorem DU{l}{z:Int}(a:0<=z)(h:∀r∈l,fh r<=z):dZ l<=z:=(rj l 0).2.2 z a h
structure gJ(E:bX)(i:Nat)(r:List UInt8):Prop where
 m:ov (fR E) r
 id:ix r=0\/ix r=i
 up:fh r<=33554432
 len:r.length<=1000000
theorem gJ.ok{r:List UInt8}(h:gJ E i r)(a:r.length<=8000):lJ E i r:=⟨h.m,h.id,h.up,a⟩
section
variable{tv:Nat → Int}
theorem i2(rs:List (List UInt8)):rs.flatten.length<=(aP tv rs).length:=by
 induction rs with
 |nil=>simp[aP]
 |cons a l ih=>
  unfold aP at ih ⊢;rw[List.flatten_cons,zX,zC,zC,ft];omega
theorem gd.add(h:gd E tv i d rs1 rs2)(j:∀r∈rs,gJ E i r)(f:zv tv rs d c d'):∃rs2',gd E tv i d' rs1 rs2'/\(c=0->rs2'=rs2++rs)/\d.sf.length+d.tl.length<=d'.sf.length+d'.tl.length/\(c=0->d.sf.length+d.tl.length+rs.flatten.length<=d'.sf.length+d'.tl.length):=by
 rcases f with⟨a,rfl,_⟩|⟨rfl,a,rfl⟩|⟨k,f⟩
 ·exact⟨rs2,h,fun e=>by omega,nR,fun e=>by omega⟩
 ·exact⟨rs2,h,fun _=>by simp,nR,fun _=>by simp⟩
 have g:=h.room;have ok:∀r∈rs1++(rs2++rs),lJ E i r:=fun r hx=>by
  rcases zK.1 hx with hx|hx
  ·exact h.ok r (List.mem_append_left _ hx)
  ·rcases zK.1 hx with hx|hx
   ·exact h.ok r (yY _ hx)
   ·exact(j r hx).ok (k r hx)
 have hf:=i2 (tv:=tv) rs;unfold yx at f;rcases f with⟨a,m,b,s,l,rfl⟩|⟨a,_,rfl⟩|⟨a,m,n,b,rfl⟩|⟨a,_,_,rfl⟩
 ·refine⟨rs2++rs,⟨h.room,h.sf,?_,?_,ok,h.num⟩,fun _=>rfl,?_,fun _=>?_⟩
  ·show d.tl++aP tv rs=_;rw[h.tl,ih]
  all_goals(simp only[zC];omega)
 ·exact⟨rs2,h,fun e=>by omega,nR,fun e=>by omega⟩
 ·refine⟨rs2++rs,⟨h.room,h.sf,?_,?_,ok,h.num⟩,fun _=>rfl,?_,fun _=>?_⟩
  ·show d.tl++aP tv rs=_;rw[h.tl,ih]
  all_goals(simp only[zC];omega)
 ·exact⟨rs2,h,fun e=>by omega,nR,fun e=>by omega⟩
theorem gd.sync(h:gd E tv i d rs1 rs2)(f:ph d d' c):d'.sf.length+d'.tl.length=d.sf.length+d.tl.length/\(c=0/\gd E tv i d' (rs1++rs2) []\/c≠0/\gd E tv i d' rs1 rs2):=by
 unfold ph at f;rcases f with⟨b,g,a,s,l,rfl⟩|⟨b,_,rfl⟩|⟨b,g,j,a,rfl⟩|⟨b,_,_,rfl⟩
 ·refine⟨by simp,.inl ⟨b,⟨h.room,?_,rfl,?_,by rw[qU];exact h.ok,fun x k e1 e2=>Int.le_trans (h.num x k e1 e2) (kG _ _)⟩⟩⟩
  ·show d.sf++d.tl=_;rw[h.sf,h.tl,ih]
  ·have:=h.size;simp only[zC,qI];omega
 ·exact⟨rfl,.inr ⟨by omega,h⟩⟩
 ·exact⟨rfl,.inr ⟨by omega,⟨h.room,h.sf,h.tl,h.size,h.ok,h.num⟩⟩⟩
 ·exact⟨rfl,.inr ⟨by omega,h⟩⟩
end
def A9(N:Nb)(y:Nat×Nat):Prop:=y=(N.i,N.lg)\/y=(N.i,N.dk)\/y=(N.i,N.st)
structure pK(E:bX)(N:Nb)(id up:Int)(br:Bool)(d:Dk)(rs1 rs2:List (List UInt8))(n:Nat)(o:Ow)(w:World):Prop where
 fin:aX o w
 tab:eN N.tv w/\o 1=(0,0)
 olg:o N.lg=(N.i,N.lg)
 odk:o N.dk=(N.i,N.dk)
 lg:ez w N.lg N.dk br
 dk:bS w N.dk d
 ok:gd E N.tv N.i d rs1 rs2
 st:dF (fR E) n id up o w N.st (N.i,N.st)
 uple:up<=dZ rs1
 up0:0<=up
 upm:up<=33554432
 nle:n<=d.sf.length+d.tl.length
 idi:id=0\/id=N.i
def FG(E:bX)(N:Nb)(id u R:Int)(o:Ow)(w:World):Prop:=∃br d rs1 rs2 up n,pK E N id up br d rs1 rs2 n o w/\u<=up/\R<=dZ rs1
section
variable{rs1' rs2':List (List UInt8)}
theorem pL:pH (fR E):=fun l1 l2 m h h1 h2=>fR.join h h1 h2
theorem pK.log(h:pK E N id up br d rs1 rs2 n o w)(hi:N.i≠0)(j:cX (Ld N.lg N.dk) w w'){c:Bool}(k:ez w' N.lg N.dk c)(m:bS w' N.dk d')(p:gd E N.tv N.i d' rs1' rs2')(q:d.sf.length+d.tl.length<=d'.sf.length+d'.tl.length)(s:dZ rs1<=dZ rs1'):pK E N id up c d' rs1' rs2' n o w'/\St (A9 N) o w o w':=by
 have a:St (fun y=>y=(N.i,N.lg)\/y=(N.i,N.dk)) o w o w':=j.st h.fin fun b hb=>by
  rcases hb with rfl|rfl
  ·exact .inl h.olg
  ·exact .inr h.odk
 obtain⟨_,_,f,_⟩:=h.st;obtain⟨_,_,g⟩:=h.lg;have t:N.st≠N.lg:=aT f g (by decide);have n2:N.st≠N.dk:=aT f h.dk (by decide);have i:¬((0,0)=(N.i,N.lg)\/(0,0)=(N.i,N.dk)):=fun e=>by rcases e with e|e<;>exact hi (by injection e with e;exact e.symm)
 refine⟨⟨a.far,eN.st h.tab a i,h.olg,h.odk,k,m,p,h.st.st a (fun e=>?_) i,Int.le_trans h.uple s,h.up0,h.upm,zD h.nle q,h.idi⟩,a.mono fun y hy=>?_⟩
 ·rcases e with e|e
  ·injection e with _ e;exact t e
  ·injection e with _ e;exact n2 e
 ·rcases hy with e|e
  ·exact .inl e
  ·exact .inr (.inl e)
theorem pK.state(h:pK E N id up br d rs1 rs2 n o w)(hi:N.i≠0)(b:St (·=(N.i,N.st)) o w o' w'){a:Int}{n':Nat}(m:dF (fR E) n' c a o' w' N.st (N.i,N.st))(p:a<=dZ rs1)(i:0<=a)(j:a<=33554432)(q:n'<=d.sf.length+d.tl.length)(k:c=0\/c=N.i):pK E N c a br d rs1 rs2 n' o' w'/\St (A9 N) o w o' w':=by
 obtain⟨_,_,g,_⟩:=h.st;obtain⟨s,t,f⟩:=h.lg;have u:N.lg≠N.st:=(aT g f (by decide)).symm;have n2:N.dk≠N.st:=(aT g h.dk (by decide)).symm;exact⟨⟨b.far,eN.st h.tab b (ci hi),by rw[b.old _ (ap f)];exact h.olg,by rw[b.old _ (ap h.dk)];exact h.odk,⟨s,t,f.st b (by rw[h.olg];exact aV u)⟩,am.st h.dk b (by rw[h.odk];exact aV n2),h.ok,m,p,i,j,q,k⟩,b.mono fun y hy=>.inr (.inr hy)⟩
theorem pK.below(h:pK E N id up br d rs1 rs2 n o w)(hi:N.i≠0)(a:Below w.heap.size w w'):pK E N id up br d rs1 rs2 n o w':=by
 obtain⟨c,f,b⟩:=h.lg;exact⟨h.fin.below a.size,eN.st (p:=fun _=>False) h.tab (.J a h.fin) _root_.id,h.olg,h.odk,⟨c,f,b.below a⟩,am.below h.dk a,h.ok,h.st.below a h.fin,h.uple,h.up0,h.upm,h.nle,h.idi⟩
def GX(E:bX)(N:Nb)(id u R:Int)(rs:List (List UInt8))(dead:Bool)(o:Ow)(w:World)(e:Ending)(w':World):Prop:=
 ∃t o' w1 id' u',Rt e (.bool t)/\St (A9 N) o w o' w1/\FG E N id' u' R o' w1/\u<=u'/\(id=N.i->id'=N.i)/\(t=true/\w'=w1/\dead=false/\(∀r∈rs,fh r<=u')/\((∃r∈rs,ix r≠0)->id'=N.i)\/t=false/\(w'=w1/\dead=true\/w'=w1.setCell ⟨N.nb,9,none⟩ (.bool true)))
theorem F3(hi:N.i≠0):¬A9 N (0,0):=fun e=>by rcases e with e|e|e<;>exact hi (by injection e with e;exact e.symm)
theorem Fd{w}{cs}(a:am w N.nb 92 cs)(h:pK E N id up br d rs1 rs2 n o w):¬A9 N (N.i,N.nb):=fun e=>by
 obtain⟨_,_,b,_⟩:=h.st
 obtain⟨f,g,c⟩:=h.lg
 rcases e with e|e|e
 ·injection e with _ e;exact aT a c (by decide) e
 ·injection e with _ e;exact aT a h.dk (by decide) e
 ·injection e with _ e;exact aT a b (by decide) e
end
theorem DV{r}(a:ix r=0\/ix r=i)(h:id=0\/id=i):(iZ id r=0\/iZ id r=i)/\(id=i->iZ id r=i)/\(ix r≠0->iZ id r=i):=by
 unfold iZ;by_cases e:ix r=0
 ·rw[if_pos e];exact⟨h,fun h=>h,fun h=>absurd e h⟩
 ·rw[if_neg e];have:=a.resolve_left e;exact⟨.inr this,fun _=>this,fun _=>this⟩
def G8(E:bX)(N:Nb)(id u:Int)(rs:List (List UInt8))(d:Dk)(rs1:List (List UInt8))(o:Ow)(w:World)(v:Value)(k:Nat)(wr:World):Prop:=
 ∃ok idk upk nk,pK E N idk upk false d rs1 [] nk ok wr/\St (A9 N) o w ok wr/\RI bM ok wr v rs/\nk+(rs.drop k).flatten.length<=d.sf.length+d.tl.length/\u<=upk/\(∀r∈rs.take k,fh r<=upk)/\(id=N.i->idk=N.i)/\((∃r∈rs.take k,ix r≠0)->idk=N.i)
def ta(tv:Nat->Int)(dead br:Bool)(d:Dk)(rs:List (List UInt8)):Prop:=dead=false/\br=false/\d.on=true/\d.armed=false/\(∀r∈rs,r.length<=8000)/\((d.sf.length+d.tl.length+(aP tv rs).length:Nat):Int)<=d.room
theorem CR{tv:Nat->Int}{rs}(h:zv tv rs d c d')(g:ta tv dead br d rs):c=0/\d'.on=true/\d'.armed=false:=by
 obtain⟨_,_,a,b,i,k⟩:=g;rcases h with⟨_,_,r,j,m⟩|⟨_,f,rfl⟩|⟨_,h|⟨_,h,_⟩|⟨_,_,h,_⟩|⟨_,_,h,_⟩⟩
 ·have:=i r j;omega
 ·exact⟨f,a,b⟩
 ·obtain⟨f,_,_,s,l,rfl⟩:=h;exact⟨f,a,b⟩
 ·rw[a]at h;cases h
 ·rw[b]at h;cases h
 ·omega
theorem Az(h:ph d d' c)(a:d.on=true)(b:d.armed=false)(f:0<=d.room):c=0:=by
 rcases h with⟨h,_⟩|⟨_,h,_⟩|⟨_,_,h,_⟩|⟨_,_,h,_⟩
 ·exact h
 ·rw[a]at h;cases h
 ·rw[b]at h;cases h
 ·omega
theorem pM{rs1 rs2}(hs:pK E N id up br d rs1 rs2 n o w)(hu:u<=up)(hR:R<=dZ rs1)(hi:N.i≠0/\N.i<=8){cs}(m:am w N.nb 92 cs)(Y:cs[0]?=some (Pt N.lg))(hm:cs[1]?=some (Pt N.st))(Z:cs[9]?=some (.bool dead))(hn:o N.nb=(N.i,N.nb)){v}(hv:RI bM o w v rs)(hl:rs.length<=1000)(p:∀r∈rs,gJ E N.i r):
  Cs 47 #[Pt N.nb,v] w (fun e w'=>GX E N id u R rs dead o w e w'/\(ta N.tv dead br d rs->Rt e (.bool true))):=by
 have y0:Ce w N.nb 0 (Pt N.lg):=(am.cell m 0).trans Y;have y9:Ce w N.nb 9 (.bool dead):=(am.cell m 9).trans Z;have f9:=am.frozen m 9;obtain⟨A,c,rfl,_⟩:=hv.rw.slice;have hp:=Fd m hs;have ho:=F3 hi.1;have hL:=hs.ok.size;obtain⟨HN,ht,hw,F,b,HV,HR,i⟩:=gH m Y hm Z hs hv p (zB hu hR);obtain⟨HP,ha,HO⟩:=gC hp ho hn;have O:Hid (∀o' w1,St (A9 N) o w o' w1->am w1 N.nb 92 cs):=aH fun o' w1 hst=>HN.st hst (by rw[HO];exact HP);cases dead
 ·cases br
  ·have HC:=aH (Cz N.tv N.lg N.dk d w b.tab.1 HV.rw b.lg b.dk hl (fun r p=>(HR r p).len) (by omega));apply cI;go_in;go_wp2_with fail;refine HC.mono ?_;rintro _e w1 ⟨cd,d',rfl,G,S,T,U⟩;obtain⟨rs2',k1,x,k3,k4⟩:=b.ok.add HR G;have G1:Hid (ta N.tv false false d rs->cd=0/\d'.on=true/\d'.armed=false):=aH (CR G);obtain⟨s,a⟩:=b.log hi.1 U S T k1 k3 (jL _);have C:=O _ _ a;have y1:Ce w1 N.nb 0 (Pt N.lg):=(am.cell C 0).trans ht;have z9:Ce w1 N.nb 9 (.bool false):=(am.cell C 9).trans F;have g9:=am.frozen C 9;obtain⟨j,D,K3,K4⟩:=gD s a x k4;have hE:=s.ok.size;by_cases hc:cd=0
   ·subst hc;obtain⟨R2,Q4,hx⟩:=gC (K3 rfl) (K4 rfl) (zw N.lg N.dk d' w1 j.lg j.dk (by omega));go_wp2_with fail;refine hx.mono ?_;rintro _e w2 ⟨c2,H,rfl,G,S,T,U⟩;obtain⟨k1,x⟩:=j.ok.sync G;have G2:Hid (ta N.tv false false d rs->c2=0):=aH fun g=>Az G (G1 g).2.1 (G1 g).2.2 (by rw[j.ok.room];omega);have hy:=R2.out;have hM:=Q4.out;rcases x with⟨y,x⟩|⟨y,x⟩
    ·subst y;obtain⟨s,a⟩:=j.log hi.1 U S T x (by omega) (kG _ _);obtain⟨I,V⟩:=gB s (D.trans a);have V2:=aH (HV.st V ha);have HQ:Hid (∀r∈rs,fh r<=dZ (rs1++rs2')):=aH fun r p=>by rw[hy];exact CQ (yY _ (yY _ p))
     have hd:=aH (Int.le_trans i.2 (kG rs1 rs2'));have hz:Hid (n+rs.flatten.length<=H.sf.length+H.tl.length):=aH (by have:=b.nle;omega);generalize rs1++rs2'=rsA at I HQ hd;go_wp2_with fail;go_loopw[31] (fun vi wr=>∃k:Nat,k<=rs.length/\vi=I6 k/\G8 E N id u rs H rsA o w (.slice A rs.length c) k wr) (fun vi _=>rs.length - (intOf vi).toNat)
     case atStart=>exact⟨0,by omega,rfl,o,id,up,n,I,V,V2,by simpa using hz.out,i.1,by simp,fun h=>h,by simp⟩
     case round=>
      obtain⟨k,hk,rfl,ok,J,hf,nk,a1,a2,a3,a4,a5,a6,a7,a8⟩:=hrel;obtain⟨f,A2,A3,A4,A5,A6,A7,A8⟩:=gH a1 a2 a3 a4 a5 a6 a7 a8;by_cases hlt:k < rs.length
      ·obtain⟨g,og,rfl,X⟩:=a3.rw.at_ (zA hlt);have c0:Ce wr g (og+k) (.string (aF rs[k])):=by have:=X 0 _ rfl;simpa[bM]using this
       have ys:Ce wr N.nb 1 (Pt N.st):=(am.cell (O _ _ a2) 1).trans hw;have z:(rs.drop k).flatten.length=rs[k].length+(rs.drop (k+1)).flatten.length:=by rw[wA hlt,List.flatten_cons,zC]
       have L:Hid (∀r∈rs.take (k+1),r∈rs.take k\/r=rs[k]):=aH (fun r p=>by rw[qE hlt]at p;rcases zK.1 p with h|h;exact .inl h;exact .inr (by simpa using h));obtain⟨hg,B⟩:=gB (HQ rs[k] (zY hlt)) (HR rs[k] (zY hlt));have hF:=I.ok.size;have hj:J < 9223372036854775808:=by rcases a1.idi with e|e<;>omega
       generalize rs[k]=r at c0 z L hg B;obtain⟨hA,hh⟩:=gB (pJ f.st (by intro e;injection e with e;exact hi.1 e) f.fin f.up0 hj pL r B.m (by omega)) z;go_wp2_with fail;refine hA.mono ?_;rintro _e w3 ⟨c3,rfl,o3,t,b1,b2,b3⟩;have hB:=DV B.id f.idi;have M:(t=0\/t=N.i)/\(J=N.i->t=N.i)/\(ix r≠0->t=N.i):=by
        rcases b3 with rfl|⟨_,h0,rfl⟩
        ·exact hB
        ·exact⟨f.idi,fun h=>h,fun _=>f.idi.resolve_left h0⟩
       have hG:=f.uple;have hH:=f.up0;have hI:=f.upm;have hJ:=hg.out;have hK:=B.up;have hC:=A4.out;have z:=hh.out;obtain⟨s,a⟩:=f.state hi.1 b2 b1 (by omega) (by omega) (by omega) (by omega) M.1;obtain⟨D1,D2,D3,D4⟩:=gD s (A2.trans a) (A3.st a ha) M.2;go_wp2_with fail;go_roundw
       case rel=>
        have z:=hh.out;have hC:=A4.out;refine⟨k+1,hlt,by go_num,o3,t,_,_,D1,D2,D3,by omega,by have:=A5.out;omega,fun q hq=>?_,fun e=>D4.1 (A7 e),fun⟨q,hq,he⟩=>?_⟩
        ·rcases L.out q hq with e|e
         ·have:=A6 q e;omega
         ·subst e;omega
        ·rcases L.out q hq with e|e
         ·exact D4.1 (A8 ⟨q,e,he⟩)
         ·subst e;exact D4.2 he
       case measure=>simp[intOf];omega
      ·obtain rfl:k=rs.length:=by omega
       rw[jJ]at A6 A8;go_wp2_with fail;go_ret;exact⟨⟨true,ok,_,J,hf,rfl,A2,⟨false,H,rsA,[],hf,nk,f,jL _,hd⟩,A5,A7,.inl ⟨rfl,rfl,rfl,A6,A8⟩⟩,fun _=>rfl⟩
    ·obtain⟨s,a⟩:=j.log hi.1 U S T x (by omega) (jL _);have x2:=O _ _ (D.trans a);have hN:Ce w2 N.nb 9 (.bool false):=(am.cell x2 9).trans F;have hO:=am.frozen x2 9;obtain⟨I,V⟩:=gB s (D.trans a);have hD:(c2==0)=false:=by simpa using y
     go_wp2_with fail;go_ret;exact⟨⟨false,o,w2,id,up,rfl,V,⟨_,H,rs1,rs2',up,n,I,jL _,i.2⟩,i.1,fun h=>h,.inr ⟨rfl,.inr rfl⟩⟩,fun g=>absurd (G2 g) y⟩
   ·have hD:(cd==0)=false:=by simpa using hc
    go_wp2_with fail;go_ret;exact⟨⟨false,o,w1,id,up,rfl,D,⟨_,d',rs1,rs2',up,n,j,jL _,i.2⟩,i.1,fun h=>h,.inr ⟨rfl,.inr rfl⟩⟩,fun g=>absurd (G1 g).1 hc⟩
  ·have HC:=aH (s7 N.lg N.dk w HV.rw b.lg);apply cI;go_in;go_wp2_with fail;refine HC.mono ?_;rintro _e w1 ⟨rfl,hb⟩;have a:St (A9 N) o w o w1:=.J hb b.fin;have C:=O _ _ a;have z9:Ce w1 N.nb 9 (.bool false):=(am.cell C 9).trans F;have g9:=am.frozen C 9;obtain⟨j,D⟩:=gB (b.below hi.1 hb) a;go_wp2_with fail;go_ret;exact⟨⟨false,o,w1,id,up,rfl,D,⟨_,d,rs1,rs2,up,n,j,jL _,i.2⟩,i.1,fun h=>h,.inr ⟨rfl,.inr rfl⟩⟩,fun g=>by cases g.2.1⟩
 ·apply cI;go_in;go_wp2_with fail;go_ret;exact⟨⟨false,o,w,id,up,rfl,.refl b.fin,⟨_,d,rs1,rs2,up,n,b,jL _,i.2⟩,i.1,fun h=>h,.inr ⟨rfl,.inl ⟨rfl,rfl⟩⟩⟩,fun g=>by cases g.1⟩
theorem lN(h:FG E N id u R o w)(hi:N.i≠0/\N.i<=8){vr vl}(a:am w N.nb 92 (oB N next dead vr vl))(b:o N.nb=(N.i,N.nb)){v}(hv:RI bM o w v rs)(c:rs.length<=1000)(f:∀r∈rs,gJ E N.i r):
  Cs 47 #[Pt N.nb,v] w (GX E N id u R rs dead o w):=by
 obtain⟨br,d,rs1,rs2,up,n,g,i,j⟩:=h;exact(pM g i j hi a rfl rfl rfl b hv c f).mono fun _ _ h=>h.1
section
variable{ws:List (Int × Qg)}
theorem gx.wr(h:gx E N next rsv o w)(hf:aX o w)(c:eN N.tv w/\o 1=(0,0)):∃u R,FG E N N.i u R o w/\next<=u+1/\(∀z∈rsv,z<=R)/\u<=R:=by
 obtain⟨a,b,br,d,rs1,rs2,up,n,a1,a2,a3,a4,a5,a6,a7,a8,a9,a10⟩:=h;exact⟨up,dZ rs1,⟨br,d,rs1,rs2,up,n,⟨hf,c,a,b,a1,a2,a3,a4,a5,a6,a7,a8,.inr rfl⟩,jL _,jL _⟩,a9,a10,a5⟩
theorem FG.ld(h:FG E N N.i u R o w)(c:next<=u+1)(b:∀z∈rsv,z<=R\/z<=u):gx E N next rsv o w:=by
 obtain⟨br,d,rs1,rs2,up,n,a,f,g⟩:=h;exact⟨a.olg,a.odk,br,d,rs1,rs2,up,n,a.lg,a.dk,a.ok,a.st,a.uple,a.up0,a.upm,a.nle,by omega,fun z hz=>by have:=a.uple;rcases b z hz with e|e<;>omega⟩
theorem j5(a:dK w r t)(R:Ew N w)(b:t≠177)(n2:t≠95)(c:t≠188):¬A9 N (N.i,r):=fun e=>by
 rcases e with e|e|e<;>injection e with _ e
 ·exact a.ne R.lg b e
 ·exact a.ne R.dk n2 e
 ·exact a.ne R.st c e
theorem aE.wrote(h:aE E Rf N T B hand rsv o w)(m:e7 E Rf N B hand next rsv o w)(a:St (A9 N) o w o' w')(p:gx E N next rsv o' w'):aE E Rf N T B hand rsv o' w'/\e7 E Rf N B hand next rsv o' w'/\cN N.i o w o' w':=by
 have R:=h.roots;have f:=F3 h.i0;obtain⟨n,g,q⟩:=h.due;have i:cN N.i o w o' w':=⟨fun t k=>k.st a (j5 k.ty R (by decide) (by decide) (by decide)),fun d rc c k=>k.st a (j5 k.ty R (by decide) (by decide) (by decide)),fun b cs ho hb=>⟨by rw[a.old _ (ap hb)];exact ho,hb.st a (by rw[ho];exact j5 ⟨cs,hb⟩ R (by decide) (by decide) (by decide))⟩⟩;have j:=m.st a f (j5 R.nb R (by decide) (by decide) (by decide)) i;exact⟨⟨a.far,h.i0,h.i9,eN.st h.tab a f,h.kok,h.cs,⟨n,g,q.st a (j5 R.due R (by decide) (by decide) (by decide))⟩,h.hd.st a (j5 R.hd R (by decide) (by decide) (by decide)),⟨h.wt.1,h.wt.2.st a (j5 R.wt R (by decide) (by decide) (by decide)) f⟩,h.cfg,next,p,j⟩,j,i⟩
theorem xX.only(h:aE E Rf N T B hand rsv o w)(j:e7 E Rf N B hand next rsv o w)(hv:xX E Rf N B hand next o w dead vr vl reps lets ws qc)(b:aW N.nb w w')(m:am w' N.nb 92 (oB N next' dead' vr vl)):xX E Rf N B hand next' o w' dead' vr vl reps lets ws qc/\St (·=(N.i,N.nb)) o w o w':=by
 have a:St (·=(N.i,N.nb)) o w o w':=.U b j.onb h.fin;have n:=ci (r:=N.nb) h.i0;have g:cN N.i o w o w':=cN.an a h.roots.nb (by decide) (by decide) (by decide);have i:cX (·=N.nb) w w':=cX.U b rfl;refine⟨⟨m,hv.rep.av i a fun k e ek=>?_,hv.let_.av i a fun k e ek=>?_,hv.len,hv.rok,hv.lok,hv.refs,hv.wm.only b (dG hv.wm hv.blk),fun p hp=>⟨(hv.wok p hp).1,(hv.wok p hp).2.st a n g⟩,hv.cm.only b (dG hv.cm hv.blk),fun p hp=>?_⟩,a⟩
 ·subst ek;obtain⟨cs,f⟩:=hv.rep.1.ty e;exact aT hv.blk f (by decide) rfl
 ·subst ek;obtain⟨cs,f⟩:=hv.let_.1.ty e;exact aT hv.blk f (by decide) rfl
 ·obtain⟨c,part,d,rc,q,s,t⟩:=hv.cok p hp;exact⟨c,part,d,rc,q,s,g.cla d rc c t⟩
theorem aE.dg(h:aE E Rf N T B hand rsv o w)(b:Bool):aE E Rf N T B hand rsv o (w.setCell ⟨N.nb,9,none⟩ (.bool b))/\St (·=(N.i,N.nb)) o w o (w.setCell ⟨N.nb,9,none⟩ (.bool b)):=by
 obtain⟨next,f,a⟩:=h.rest;obtain⟨dead,vr,vl,reps,lets,ws,qc,hv⟩:=a.v;obtain⟨g,c⟩:=xX.only (next':=next) (dead':=b) h a hv (aB w N.nb 9 (.bool b)) (am.I hv.blk 9 (.bool b));exact⟨h.bx c f (a.of c g),c⟩
theorem pN{q}(h:St (A9 N) o w o' w')(a:∀r,q (N.i,r)):St q o w o' w':=h.mono fun y hy=>by rcases hy with rfl|rfl|rfl<;>exact a _
theorem j6(El_:El α)(a:α)(hf:aX o w)(b:w.heap.size<=W.heap.size):RI El_ o (W.alloc (.cells (El_.f a).toArray El_.ty)) (.slice (some ⟨W.heap.size,0,none⟩) 1 1) [a]:=
 ⟨dL El_ W a,fun x n c e _=>by injection e with e;injection e with e;subst e;exact hf _ b⟩
theorem e7.below(b:e7 E Rf N B hand next rsv o w)(hf:aX o w)(a:Below w.heap.size w w'):e7 E Rf N B hand next rsv o w':=b.st (p:=fun _=>False) (.J a hf) _root_.id _root_.id (cN.below a hf)
theorem gx.below(a:gx E N next rsv o w)(hf:aX o w)(b:Below w.heap.size w w'):gx E N next rsv o w':=a.st (p:=fun _=>False) (.J b hf) _root_.id _root_.id _root_.id _root_.id
theorem CS s(hf:aX o w)(hb:w.heap.size<=W.heap.size):RI bM o (W.alloc (.cells #[.string (aF s)] 9)) (.slice (some ⟨W.heap.size,0,none⟩) 1 1) [s]:=j6 bM s hf hb
def F4(E:bX)(Rf:Nat->Prop)(N:Nb)(T B:Nat)(hand:Option Nat)(rsv:List Int)(o:Ow)(w:World)(e:Ending)(w':World):Prop:=∃t,Nd E Rf N T B hand rsv o w (.bool t) e w'
theorem dU(h:aE E Rf N T B hand rsv o w){v}(hv:RI bM o w v rs)(j:rs.length<=1000)(k:∀r∈rs,gJ E N.i r):
  Cs 47 #[Pt N.nb,v] w (F4 E Rf N T B hand rsv o w):=by
 obtain⟨next,m,c⟩:=h.rest;obtain⟨dead,vr,vl,reps,lets,ws,qc,g⟩:=c.v;obtain⟨u,R,n,C,p,D⟩:=m.wr h.fin h.tab;refine(lN n ⟨h.i0,h.i9⟩ g.blk c.onb hv j k).mono ?_;rintro e w' ⟨t,o',w1,A,F,rfl,a,i,G,q,s⟩;rw[q rfl]at i;obtain⟨b,H,f⟩:=h.wrote c a (i.ld (by omega) fun z hz=>.inl (p z hz));refine⟨t,rfl,?_⟩;rcases s with⟨_,rfl,_⟩|⟨_,⟨rfl,_⟩|rfl⟩
 ·exact⟨o',b,pN a fun _=>rfl,f⟩
 ·exact⟨o',b,pN a fun _=>rfl,f⟩
 ·obtain⟨x,y⟩:=b.dg true;exact⟨o',x,Sk.trans ⟨pN a fun _=>rfl,f⟩ (.bp b y)⟩
end
theorem gy.reply(h:gy Rf ws reps (some k))(r:Rp):gy Rf ws (reps++[{r with ref:=(k:Nat)}]) none:={
 one:=h.one
 rn:=by
  rw[yC,jF,List.map_nil,List.nodup_append]
  refine⟨h.rn,by simp,fun a ha b hb=>?_⟩
  rw[qR]at hb
  subst hb
  obtain⟨q,hq,rfl⟩:=zV.1 ha
  exact(h.hw k rfl).2.2 q hq
 wr p hp q hq:=by
  rcases zK.1 hq with hq|hq
  ·exact h.wr p hp q hq
  ·rw[qR]at hq;subst hq
   have:=(h.hw k rfl).2.1 p hp
   simp only;omega
 rr q hq:=by
  rcases zK.1 hq with hq|hq
  ·exact h.rr q hq
  ·rw[qR]at hq;subst hq;exact⟨k,rfl,(h.hw k rfl).1⟩
 hw k h:=by cases h}
theorem gy.cy(h:gy Rf ws reps hand)(c:∀k,Rf k->k < m):reps.length<=m:=by
 have f:=jE.1 h.rn;have g:(reps.map fun r=>r.ref.toNat).Nodup:=jE.2 (f.imp_of_mem fun ha hb hne e=>hne (by
  obtain⟨k,i,_⟩:=h.rr _ ha;obtain⟨p,b,_⟩:=h.rr _ hb;omega))
 have j:=dY m _ g (fun a ha=>by
  obtain⟨r,n,rfl⟩:=zV.1 ha;obtain⟨k,i,b⟩:=h.rr r n;have:=c k b;omega)
 simpa using j
theorem xX.grown{row}(h:aE E Rf N T B hand rsv o w)(u:e7 E Rf N B hand next rsv o w)(hv:xX E Rf N B hand next o w dead vr vl reps lets ws qc)(i:St (·=(N.i,N.nb)) o w o6 w6)(f:w.grownBy w6 row)(g:∀k,row=some k->∃t cs,am w k t cs/\t≠92):
  am w6 N.nb 92 (oB N next dead vr vl)/\b4 w6 N.wm (lY ws)/\b4 w6 N.cm qc/\(∀p∈ws,bN p.1/\eT E Rf N.i o6 w6 p.2)/\(∀p∈qc,∃c part d rc,p.2=.agg #[Pt c,I6 (part:Nat)]/\Ev part d rc/\cM d rc o6 w6 c (N.i,c)):=by
 have m:=ci (r:=N.nb) h.i0;have j:cN N.i o w o6 w6:=cN.an i h.roots.nb (by decide) (by decide) (by decide);refine⟨hv.blk.grown f fun e=>?_,hv.wm.kept (f.block _ hv.wm.lt fun e=>?_),hv.cm.kept (f.block _ hv.cm.lt fun e=>?_),fun p hp=>⟨(hv.wok p hp).1,(hv.wok p hp).2.st i m j⟩,fun p hp=>?_⟩
 ·obtain⟨t,cs,a,b⟩:=g _ e.symm;exact aT hv.blk a b.symm rfl
 ·obtain⟨t,cs,a,b⟩:=g _ e.symm;exact dG hv.wm a rfl
 ·obtain⟨t,cs,a,b⟩:=g _ e.symm;exact dG hv.cm a rfl
 ·obtain⟨c,part,d,rc,n,q,s⟩:=hv.cok p hp;exact⟨c,part,d,rc,n,q,j.cla d rc c s⟩
theorem aE.replied{r:Rp}(h:aE E Rf N T B (some k) rsv o w)(H:gx E N next rsv o w)(s:e7 E Rf N B (some k) next rsv o w)(hv:xX E Rf N B (some k) next o w dead vr vl reps lets ws qc)(I:fE E N.i {r with ref:=(k:Nat)})
  (J:aK cW 0 w6 v6 (reps++[{r with ref:=(k:Nat)}])) (t:w.grownBy w6 vr.ownBlock) (L:v6.ownBlock=vr.ownBlock\/∃k,v6.ownBlock=some k/\w.heap.size<=k):
  ∃o',aE E Rf N T B none rsv o' (w6.setCell ⟨N.nb,15,none⟩ v6)/\St (·=(N.i,N.nb)) o w o' (w6.setCell ⟨N.nb,15,none⟩ v6):=by
 obtain⟨o6,z,f⟩:=hv.rep.app (p:=(·=(N.i,N.nb))) h.fin rfl J t L;obtain⟨i,A,C,D,M⟩:=hv.grown h s f t (fun k e=>by
  obtain⟨cs,g⟩:=hv.rep.1.ty e;exact⟨_,cs,g,by decide⟩)
 have u:o6 N.nb=(N.i,N.nb):=by rw[f.old _ (ap hv.blk)];exact s.onb
 have j:=aB w6 N.nb 15 v6;have b:St (·=(N.i,N.nb)) o6 w6 o6 (w6.setCell ⟨N.nb,15,none⟩ v6):=.U j u f.far;have O:=ci (r:=N.nb) h.i0;have F:cX (·=N.nb) w6 (w6.setCell ⟨N.nb,15,none⟩ v6):=cX.U j rfl;have m:cN N.i o6 w6 o6 (w6.setCell ⟨N.nb,15,none⟩ v6):=cN.an b ⟨_,i⟩ (by decide) (by decide) (by decide);have n:cZ cY o6 (N.i,N.nb) w6 vl lets:=⟨hv.let_.1.keep t fun a x y=>by
  obtain⟨cs,g⟩:=hv.let_.1.ty x;obtain⟨S,G⟩:=hv.rep.1.ty y;exact aT g G (by decide) rfl,fun a e=>by rw[f.old _ (hv.let_.lt a e)];exact hv.let_.2 a e⟩
 refine⟨o6,h.bx (f.trans b) H (s.of (f.trans b) ⟨am.I i 15 v6,z.av F b fun a e ea=>?_,n.av F b fun a e ea=>?_,hv.len,fun q hq=>?_,hv.lok,hv.refs.reply r,A.only j (dG A i),fun p hp=>⟨(D p hp).1,(D p hp).2.st b O m⟩,C.only j (dG C i),fun p hp=>?_⟩),f.trans b⟩
 ·subst ea;obtain⟨cs,g⟩:=z.1.ty e;exact aT i g (by decide) rfl
 ·subst ea;obtain⟨cs,g⟩:=n.1.ty e;exact aT i g (by decide) rfl
 ·rcases zK.1 hq with hq|hq
  ·exact hv.rok q hq
  ·rw[qR]at hq;subst hq;exact I
 ·obtain⟨c,part,d,rc,x,y,R⟩:=M p hp;exact⟨c,part,d,rc,x,y,m.cla d rc c R⟩
theorem kH{row}(h:w.grownBy w' row):w.grownBy w'.drew row:=⟨h.os,h.tape,h.output,h.size,h.block⟩
theorem i3{a:World}{row}(h:a.grownBy w row)(o:Obj):a.grownBy (w.alloc o) row:=h.trans (qN w o row)
theorem eU{x:Obj}{row}(a:(w.drew.alloc x).grownBy w6 row):w.grownBy w6 row:=(i3 (kH (jQ _ _)) _).trans a
theorem dH(h:aE E Rf N T B (some k) rsv o w)(r:Rp)(hr:fE E N.i {r with ref:=(k:Nat)}):
  Cs 165 #[Pt N.nb,I6 (k:Nat),.agg (oM r).toArray] w (Nd E Rf N T B none rsv o w (.tuple #[])):=by
 obtain⟨rf,s,n,⟨⟨t,u⟩,q,b,f⟩,rc⟩:=r;obtain⟨W0,HW,D,i⟩:=dW w ((oM ⟨rf,s,n,⟨⟨t,u⟩,q,b,f⟩,rc⟩).set 0 (I6 (k:Nat))).toArray 46;have z:=h.below D;obtain⟨next,V,G⟩:=z.rest;obtain⟨dead,vr,vl,reps,lets,ws,qc,hv⟩:=G.v;have hc:=z.cells;have H:=FK hv.blk;have kf:=hc.fz;have I:N.nb < w.heap.size:=h.cells.lt;have b0:=ce i;have b1:=dt i;have b2:=ed i;have b3:=ef i;have b4:=eV i;have b5:=e9 i;have b6:=fa i;have b7:=fb i;have b8:=ma i;obtain⟨A,c,rfl,_⟩:=hv.rep.rw.slice;obtain⟨row,j⟩:=nx ((Value.slice A reps.length c).ownBlock);have J:∀g,row=some g->N.nb≠g/\w.heap.size≠g:=fun g e=>by
  have X:=hv.rep.2 g (j.trans e);obtain⟨cs,hb⟩:=hv.rep.1.ty (j.trans e);refine⟨aT hv.blk hb (by decide),fun e2=>?_⟩;subst e2;rw[h.fin _ nR]at X;exact ci (r:=N.nb) h.i0 X
 have R:(reps.length+1)*88<=140737488355328/\reps.length+1 < 1000000000000000000:=by
  have:=hv.refs.cy (m:=100000) fun k hk=>by
   obtain⟨c,e,_⟩:=z.cs.2 k hk;have:=(zE.1 e).1;have:=z.cs.1;omega
  omega
 have F:=aH (fun W (hg:W0.grownBy W row)=>show Ce W w.heap.size 0 (I6 (k:Nat))/\Ce W w.heap.size 1 (I6 s)/\Ce W w.heap.size 2 (I6 n)/\Ce W w.heap.size 3 (I6 t)/\Ce W w.heap.size 4 (I6 u)/\Ce W w.heap.size 5 (.string (aF q))/\Ce W w.heap.size 6 (.string (aF b))/\Ce W w.heap.size 7 (I6 f)/\Ce W w.heap.size 8 (I6 rc)from
  have n2:some w.heap.size≠row:=fun e=>(J _ e.symm).2 rfl
  ⟨hg.cell b0 n2,hg.cell b1 n2,hg.cell b2 n2,hg.cell b3 n2,hg.cell b4 n2,hg.cell b5 n2,hg.cell b6 n2,hg.cell b7 n2,hg.cell b8 n2⟩)
 have Y:=aH (fun W (hg:W0.grownBy W row) (v:Value)=>have x:=F W hg;have a:w.heap.size≠N.nb:=by omega
  show Ce (W.setCell ⟨N.nb,15,none⟩ v) w.heap.size 0 (I6 (k:Nat))/\Ce (W.setCell ⟨N.nb,15,none⟩ v) w.heap.size 1 (I6 s)/\Ce (W.setCell ⟨N.nb,15,none⟩ v) w.heap.size 2 (I6 n)/\Ce (W.setCell ⟨N.nb,15,none⟩ v) w.heap.size 3 (I6 t)/\Ce (W.setCell ⟨N.nb,15,none⟩ v) w.heap.size 4 (I6 u)/\Ce (W.setCell ⟨N.nb,15,none⟩ v) w.heap.size 5 (.string (aF q))/\Ce (W.setCell ⟨N.nb,15,none⟩ v) w.heap.size 6 (.string (aF b))/\Ce (W.setCell ⟨N.nb,15,none⟩ v) w.heap.size 7 (I6 f)/\Ce (W.setCell ⟨N.nb,15,none⟩ v) w.heap.size 8 (I6 rc)from
  ⟨bv x.1 (aB _ _ _ _) a,bv x.2.1 (aB _ _ _ _) a,bv x.2.2.1 (aB _ _ _ _) a,bv x.2.2.2.1 (aB _ _ _ _) a,bv x.2.2.2.2.1 (aB _ _ _ _) a,bv x.2.2.2.2.2.1 (aB _ _ _ _) a,bv x.2.2.2.2.2.2.1 (aB _ _ _ _) a,bv x.2.2.2.2.2.2.2.1 (aB _ _ _ _) a,bv x.2.2.2.2.2.2.2.2 (aB _ _ _ _) a⟩)
 have Z:=aH (fun W (hg:W0.grownBy W row)=>show Ce W N.nb 15 (.slice A reps.length c)/\W.frozen? ⟨N.nb,15,none⟩=false from
  have n1:some N.nb≠row:=fun e=>(J _ e.symm).1 rfl
  ⟨hg.cell H n1,(hg.frozen_far ⟨N.nb,15,none⟩ (zT I D.size) n1).trans (kf 15)⟩)
 obtain⟨y,HR,S,HF,C⟩:=gE (zB z (zB V (zB G hv))) (zB hr D) j h.fin R;have gd:W0.grownBy W0.drew row:=kH (jQ _ _);have GA:=aH (fun x=>i3 gd x);have ha:N.nb < W0.heap.size:=zT I D.size;have kd:Ce W0.drew N.nb 15 (.slice A reps.length c):=H;have GD:=aH gd;apply cI;go_in;go_upto_region 2 with(fail);simp only[HW.out];show(Code.region _ (_::_::_::_::Ll _::_).toArray _).wp _ _ _ _;go_region_held3 (fun w'=>Ce w' w.heap.size 0 (I6 (k:Nat))/\Ce w' w.heap.size 1 (I6 s)/\Ce w' w.heap.size 2 (I6 n)/\Ce w' w.heap.size 3 (I6 t)/\Ce w' w.heap.size 4 (I6 u)/\Ce w' w.heap.size 5 (.string (aF q))/\Ce w' w.heap.size 6 (.string (aF b))/\Ce w' w.heap.size 7 (I6 f)/\Ce w' w.heap.size 8 (I6 rc))
  (first|exact F _ GD|exact F _ (GA _)|exact F _ p|exact Y _ p _)
  (first
   |(refine dQ cW rfl (.tmp 12) (.tmp 14) rfl (aI y.2.2.2.rep.1 (((bD _)).alloc nR _)) (zS _) rfl rfl (dL cW _ ⟨k,s,n,⟨⟨t,u⟩,q,b,f⟩,rc⟩) (C.1) (C.2) ?_;intro v6 w6 L M U;obtain⟨A6,c6,O,_⟩:=L.rw.slice;simp only[zC,zQ,qI,zR]at O;subst O;have p:Hid (W0.grownBy w6 row):=aH (eU (S▸M));have hd:=(Z _ p).1;have he:=(Z _ p).2))
 all_goals
  obtain⟨o',q1,q2⟩:=y.1.replied y.2.1 y.2.2.1 y.2.2.2 (r:=⟨k,s,n,⟨⟨t,u⟩,q,b,f⟩,rc⟩) HR.1 L (eU M) (U.imp _root_.id fun e=>⟨_,e,by simp⟩);obtain⟨Q1,Q2⟩:=gB q1 ((Sk.J HR.2 HF).trans (.bp y.1 q2));go_end0;exact⟨rfl,o',Q1,Q2⟩
def GG(E:bX)(Rf:Nat->Prop)(N:Nb)(T B:Nat)(hand:Option Nat)(rsv:List Int)(o:Ow)(w:World)(e:Ending)(w':World):Prop:=
 ∃(z:Int) (t:Bool) (o':Ow),Rt e (.tuple #[I6 z,.bool t])/\aE E Rf N T B hand (if t then z::rsv else rsv) o' w'/\Sk N o w o' w'/\(t=true->1<=z/\z<=16777216)
theorem aE.dh(h:aE E Rf N T B hand rsv o w)(a:e7 E Rf N B hand next rsv o w)(g:gx E N (next+1) (next::rsv) o w)(j:next<=16777216):aE E Rf N T B hand (next::rsv) o (w.setCell ⟨N.nb,8,none⟩ (I6 (next+1)))/\St (·=(N.i,N.nb)) o w o (w.setCell ⟨N.nb,8,none⟩ (I6 (next+1)))/\
  (w.setCell ⟨N.nb,8,none⟩ (I6 (next+1))).cell? ⟨N.nb,8,none⟩=some (I6 (next+1)):=by
 obtain⟨dead,vr,vl,reps,lets,ws,qc,hv⟩:=a.v;have c:=am.I hv.blk 8 (I6 (next+1));obtain⟨b,f⟩:=xX.only (next':=next+1) (dead':=dead) h a hv (aB w N.nb 8 _) c;have i:=a.pos;refine⟨h.bx f g ?_,f,am.cell c 8⟩;refine⟨a.onb,a.owm,a.ocm,a.ne,fun x k e1 e2=>by have:=a.num x k e1 e2;omega,fun z hz=>?_,?_,by omega,dead,vr,vl,reps,lets,ws,qc,b.blk,b.rep,b.let_,b.len,b.rok,b.lok,b.refs,b.wm,b.wok,b.cm,b.cok⟩
 ·rcases jV.1 hz with rfl|hz
  ·refine⟨i.1,by omega,?_⟩;cases hk:E.K ⟨N.i,z⟩with
   |none=>rfl
   |some k=>
    have:=a.num _ k hk rfl;simp only at this;omega
  ·have:=a.rsv1 z hz;exact⟨this.1,by omega,this.2.2⟩
 ·refine List.nodup_cons.2 ⟨fun hz=>?_,a.rsvN⟩;have:=a.rsv1 next hz;omega
theorem vV(h:aE E Rf N T B hand rsv o w)(x:gx E N next rsv o w)(f:e7 E Rf N B hand next rsv o w){v}{r}(hv:RI bM o w v [r])(y:gJ E N.i r)(O:next<=fh r):
  Cs 47 #[Pt N.nb,v] w fun e w'=>∃t,Rt e (.bool t)/\∃o',aE E Rf N T B hand rsv o' w'/\Sk N o w o' w'/\(t=true->e7 E Rf N B hand next rsv o' w'/\gx E N (next+1) (next::rsv) o' w')/\
   Ce w' N.nb 8 (I6 next)/\Ce w' N.nb 1 (Pt N.st)/\∀j,w'.frozen? ⟨N.nb,j,none⟩=false:=by
 obtain⟨dead,vr,vl,reps,lets,ws,qc,m⟩:=f.v;obtain⟨u,R,A,S,n,U⟩:=x.wr h.fin h.tab;refine(lN A ⟨h.i0,h.i9⟩ m.blk f.onb hv (by simp) (fun q hq=>by rw[qR]at hq;subst hq;exact y)).mono ?_;rintro e w' ⟨t,o',w1,I,V,rfl,b,g,X,C,D⟩;rw[C rfl]at g;obtain⟨c,p,i⟩:=h.wrote f b (g.ld (by omega) fun z hz=>.inl (n z hz));obtain⟨dead',J,L,reps',s,ws',M,a⟩:=p.v;refine⟨t,rfl,?_⟩;rcases D with⟨rfl,rfl,_,F,_⟩|⟨rfl,⟨rfl,_⟩|rfl⟩
 ·have:=F r (by simp);exact⟨o',c,⟨pN b fun _=>rfl,i⟩,fun _=>⟨p,g.ld (by omega) fun z hz=>by rcases jV.1 hz with rfl|hz;exact .inr (by omega);exact .inl (n z hz)⟩,am.cell a.blk 8,am.cell a.blk 1,fun j=>am.frozen a.blk j⟩
 ·exact⟨o',c,⟨pN b fun _=>rfl,i⟩,(fun e=>by cases e),am.cell a.blk 8,am.cell a.blk 1,fun j=>am.frozen a.blk j⟩
 ·obtain⟨G,H⟩:=c.dg true;have k:=am.I a.blk 9 (.bool true);exact⟨o',G,Sk.trans ⟨pN b fun _=>rfl,i⟩ (.bp c H),(fun e=>by cases e),am.cell k 8,am.cell k 1,fun j=>am.frozen k j⟩
theorem fS(h:aE E Rf N T B hand rsv o w):Cs 272 #[Pt N.nb] w (GG E Rf N T B hand rsv o w):=by
 obtain⟨next,F,f⟩:=h.rest;obtain⟨dead,vr,vl,reps,lets,ws,qc,hv⟩:=f.v;have m:=dt hv.blk;have p:=ma hv.blk;have f8:=am.frozen hv.blk 8;have ha:=f.pos;obtain⟨H,HL,HN⟩:=gC h F f;by_cases hb:16777216 < next
 ·have d1:decide ((16777216:Int) < next)=true:=by simpa using hb
  clear h F f hv;apply cI;go_in;go_wp2_with fail;go_ret2;exact⟨0,false,o,rfl,H,.refl H.fin,fun e=>by cases e⟩
 ·have d1:decide ((16777216:Int) < next)=false:=by simpa using hb
  obtain⟨L,M,br,d,rs1,rs2,up,n,a1,a2,a3,a4,a5,a6,a7,a8,a9,a10⟩:=F;have w1:IntKind.i64.wrap (next+1)=next+1:=zZ _ (by omega);have w2:IntKind.i64.wrap (next+1 - 1)=next:=by rw[show next+1 - 1=next by omega];exact zZ _ (by omega)
  have w3:IntKind.i64.wrap (up+64)=up+64:=zZ _ (by omega);by_cases hgt:up < next
  ·have d2:decide (up < next)=true:=by simpa using hgt
   have i:Bw w w.drew:=bD _;have HU:=aH (lf (a4.below i h.fin));have u:q1 (82::cT (up+64))=up+64:=by
    have:=Cp (c:=82) (z:=up+64) (by omega) (by unfold MD;omega);rw[this];omega
   have G:fh (82::cT (up+64))=up+64:=by
    unfold fh;rw[if_pos (by simp),u]
   have j:gJ E N.i (82::cT (up+64)):=by
    refine⟨gw (by decide),.inl ?_,by omega,?_⟩
    ·unfold ix;rw[if_neg (by simp)]
    ·have:=(bi (n:=(up+64).toNat) (by omega)).2;unfold cT;rw[zQ];omega
   obtain⟨x,y,A⟩:=gC (fun W=>sD (up+64) W (by omega)) (show next<=fh (82::cT (up+64)) by omega) j;have C:next=up+1:=by omega
   have hc:=aH C;generalize cT (up+64)=s1 at x y A;clear h f hv a1 a2 a3 a4 u G j C;apply cI;go_in;go_wp2_with fail;go_region_held3 (fun w'=>Ce w' N.nb 8 (I6 next)/\Ce w' N.nb 1 (Pt N.st))
    (first|exact⟨p,m⟩|exact⟨aD b p,aD b m⟩|exact⟨aD a p,aD a m⟩|exact⟨c8,c1⟩)
    (first
     |(go_at_call 50;(with_reducible refine(HU.out).mono ?_);rintro O _w ⟨rfl,rfl⟩)
     |(go_at_call 353;(with_reducible refine(x.out _).mono ?_);rintro O w3 ⟨rfl,k⟩;have b:=i.trans (k.mono i.size);have a:=b.alloc b.size (.cells #[.string (aF (82::s1))] 9);have ri:=CS (82::s1) H.fin b.size)
     |(go_at_call 47;(with_reducible refine(vV (r:=82::s1) (H.out.below a) (HL.out.below H.out.fin a) (HN.out.below H.out.fin a) ri A.out y.out).mono ?_);rintro O w5 ⟨t,rfl,R,S,U,V,c8,c1,I⟩))
   all_goals
    obtain⟨J,X,Y,F5⟩:=gD S ((Sk.J a H.fin).trans U) V I;have g8:=I 8;clear S U V b a k I ri;cases t
    ·go_wp2_with fail;go_ret2;exact⟨0,false,R,rfl,J,X,fun e=>by cases e⟩
    ·obtain⟨q,s,q3⟩:=J.dh (Y rfl).1 (Y rfl).2 (by omega);obtain⟨Q1,Q2⟩:=gB q (X.trans (.bp J s));clear q s;go_wp2_with fail;go_ret2;exact⟨next,true,R,rfl,Q1,Q2,fun _=>by omega⟩
  ·have d2:decide (up < next)=false:=by simpa using hgt
   have D:gx E N (next+1) (next::rsv) o w:=⟨L,M,br,d,rs1,rs2,up,n,a1,a2,a3,a4,a5,a6,a7,a8,by omega,fun z hz=>by rcases jV.1 hz with rfl|hz;omega;exact a10 z hz⟩;have g:=fun n=>below_drewN (bQ w) n;obtain⟨Z,HF,HB⟩:=gC (fun n=>lf (a4.below (g n) h.fin)) (fun n=>aE.dh (h.below (g n)) (f.below h.fin (g n)) (D.below h.fin (g n)) (by omega)) g;have hd:∀n,Ce (w.drewN n) N.nb 8 (I6 next):=fun n=>p;have he:∀n,Ce (w.drewN n) N.nb 1 (Pt N.st):=fun n=>m;have hf:∀n,(w.drewN n).frozen? ⟨N.nb,8,none⟩=false:=fun n=>f8;clear h f hv a1 a2 a3 a4 D g;apply cI;go_in;go_wp2_with fail;go_quiet (exact Calls.quiet_of_same ((Z _).mono (by rintro e w' ⟨rfl,rfl⟩;exact⟨rfl,rfl⟩)));go_wp2_with fail;go_ret2;obtain⟨q,s,q3⟩:=HF nq;exact⟨next,true,o,rfl,q,(Sk.J (HB nq) H.fin).trans (.bp (H.below (HB nq)) s),fun _=>by omega⟩
theorem s8{v1 v2 va va2 vd vd2}{j k:List Mg}{g a ld b:List bC}(w:World)(h:kz w v1 va va2 j g a)(m:kz w v2 vd vd2 k ld b)(hm:j.length+k.length<=40000000)(X:g.length+a.length+(ld.length+b.length)<=40000000)
  (o1:∀d∈g,aO d=true) (o2:∀d∈a,aO d=true) (I:∀d∈ld,aO d=true) (J:∀d∈b,aO d=true):
  Cs 155 #[.agg #[v1,va,va2],.agg #[v2,vd,vd2]] w fun e w'=>(∃t,Rt e (.bool t))/\Below w.heap.size w w':=by
 obtain⟨s,c1,rfl,_⟩:=h.l.slice;obtain⟨u,c2,rfl,_⟩:=h.b.slice;obtain⟨x,c3,rfl,_⟩:=h.c.slice;obtain⟨y,c4,rfl,_⟩:=m.l.slice;obtain⟨z,c5,rfl,_⟩:=m.b.slice;obtain⟨A,c6,rfl,_⟩:=m.c.slice;obtain⟨W0,L,i,M,N⟩:=rt w #[.slice s j.length c1,.slice u g.length c2,.slice x a.length c3] #[.slice y k.length c4,.slice z ld.length c5,.slice A b.length c6] 131 131;obtain⟨a0,a1,a2⟩:=am.three M;obtain⟨O,R,S⟩:=am.three N;have f:Bw W0 W0.drew:=bD _;have n:=(h.below i).below f;have p:=(m.below i).below f;obtain⟨T,q⟩:=gB (pr W0.drew n.l p.l n.b n.c p.b p.c (by omega) (by omega) o1 o2 I J) (h.below i);apply cI;go_in;go_upto_region 1 with(fail);simp only[L.out];go_region_held3 (fun w'=>Ce w' w.heap.size 0 (.slice s j.length c1)/\Ce w' w.heap.size 1 (.slice u g.length c2)/\Ce w' w.heap.size 2 (.slice x a.length c3)/\Ce w' (w.heap.size+1) 0 (.slice y k.length c4)/\Ce w' (w.heap.size+1) 1 (.slice z ld.length c5)/\Ce w' (w.heap.size+1) 2 (.slice A b.length c6))
  (first|go_keep|refine⟨aD (by assumption) a0,aD (by assumption) a1,aD (by assumption) a2,aD (by assumption) O,aD (by assumption) R,aD (by assumption) S⟩)
  (first
   |(go_at_call 246;(with_reducible refine(T.out).mono ?_);rintro U w2 ⟨u1,u2,u3,m1,m2,m3,rfl,B,C,D,Y,jl,Z,jM,ha,hb,F⟩;have c:=f.trans (F.mono f.size);obtain⟨D1,e1,rfl,_⟩:=B.rw.slice;obtain⟨D2,e2,rfl,_⟩:=C.rw.slice;obtain⟨D3,e3,rfl,_⟩:=D.rw.slice)
   |(go_at_call 108;(with_reducible refine(po _ B.rw (q.out.l.below c) C.rw D.rw (q.out.b.below c) (q.out.c.below c) (by omega) (by omega)).mono ?_);rintro U w3 ⟨tt,rfl,H⟩;have G:=c.trans (H.mono c.size)))
 all_goals
  have V:=aH (i.trans (G.mono i.size));go_wp2;go_ret;exact⟨⟨_,rfl⟩,V⟩
theorem x1{w}{v}(h:Rw bF w v l):∃A c,v=.slice A l.length c/\Sl w 4 A l.length (a6 l)/\l.length<=c:=by
 obtain⟨A,c,rfl,a,b⟩:=h;exact⟨A,c,rfl,b.sl,a⟩
theorem x2{w}{e}{w'}(h:l2 w l e w')(b:l.length<=n)(a:∀t∈l,fA t):b6 bF w n fA e w':=by
 obtain⟨v,rfl,c,f⟩:=h;exact⟨l,⟨v,rfl,c,f⟩,b,a⟩
theorem AA{v}(d:bC)(w:World)(h:Rw bF w v l)(f:l.length<=1000000):Cs 277 #[v,.agg #[I6 d.nd,I6 d.n]] w fun e w'=>(∃(h:be) (b:Bool),Rt e (.tuple #[.agg #[I6 h.d.nd,I6 h.d.n,I6 h.rc,I6 h.un],.bool b]))/\Below w.heap.size w w':=by
 obtain⟨A,c,rfl,a,g⟩:=x1 h;refine(B8 A c l d w a (by omega)).mono ?_;intro e w' hf;cases ho:fg l d with
 |none=>rw[ho]at hf;exact⟨⟨z0,false,hf.1⟩,hf.2⟩
 |some t=>rw[ho]at hf;exact⟨⟨t,true,hf.1⟩,hf.2⟩
theorem pO{v}(d:bC)(r:Int) w(h:Rw bF w v l)(hl:l.length<=1000)(hok:∀t∈l,fA t):Cs 86 #[v,.agg #[I6 d.nd,I6 d.n],I6 r] w (b6 bF w 1000 fA):=by
 obtain⟨A,c,rfl,b,f⟩:=x1 h;refine(Cc A c l d r w b (by omega)).mono fun e w' hf=>x2 hf ?_ ?_
 ·unfold Cb;exact zD (qO _ _) hl
 ·intro t a;unfold Cb at a;exact hok t (qV.1 a).1
theorem vW{v}(a:Int) w(h:Rw bF w v l)(hl:l.length<=1000)(hok:∀t∈l,fA t):Cs 60 #[v,I6 a] w (b6 bF w 1000 fA):=by
 obtain⟨A,c,rfl,f,g⟩:=x1 h;refine(zl A c l a w f (by omega)).mono fun e w' hf=>x2 hf ?_ ?_
 ·unfold oe;exact zD (qO _ _) hl
 ·intro t b;unfold oe at b;exact hok t (qV.1 b).1
def Fe(w:World)(e:Ending)(w':World):Prop:=∃(v:Value) (c:Int) (l:List be),Rt e (.tuple #[v,I6 c])/\aK bF w.heap.size w' v l/\l.length<=1000/\(∀t∈l,fA t)/\Below w.heap.size w w'
theorem oE{v}(b:Int)(d:bC)(r u:Int) w(h:Rw bF w v l)(hl:l.length<=1000)(hok:∀t∈l,fA t):Cs 168 #[v,I6 b,.agg #[I6 d.nd,I6 d.n],I6 r,I6 u] w (Fe w):=by
 obtain⟨A,c,rfl,p,k⟩:=x1 h;refine(zm A c l b d r u w p (by omega)).mono ?_;rintro e w' ⟨v',rfl,f,g⟩;have j:(eG l b d r u).length<=1000/\∀t∈eG l b d r u,fA t:=by
  unfold eG;split
  ·rename_i he;have m:kA d r=true/\iR b u=true/\(tx l d=false->l.length < 1000):=by
    unfold cE at he;cases f:kA d r
    ·rw[f]at he;simp at he
    ·cases g:iR b u
     ·rw[f,g]at he;simp at he
     ·refine⟨rfl,rfl,fun hi=>?_⟩;rw[f,g,sA hi]at he;simp at he;omega
   have i:fA ⟨d,r,iS (fg l d) b r u⟩:=by
    obtain⟨f,g,_⟩:=m;unfold kA at f;unfold iR at g;simp only[yE,decide_eq_true_eq]at f g;have q:=b0 f.1;have s:bN r:=by have:=f.2;unfold p3 at this;simp at this;unfold bN;omega
    have n:bN u:=by have:=g.2;unfold Dc at this;simp at this;unfold bN;omega
    refine⟨q,s,?_⟩;unfold iS;cases ho:fg l d with
    |none=>exact n
    |some t=>
     have a:t∈l:=by
      unfold fg at ho;split at ho
      ·exact qC ho
      ·cases ho
     simp only;split
     ·exact(hok t a).2.2
     ·exact n
   unfold vx;split
   ·refine⟨by simpa using hl,fun t a=>?_⟩;rcases yK a with a|rfl
    ·exact hok t a
    ·exact i
   ·rename_i k;have:=m.2.2 (by simpa using k);refine⟨by simp;omega,fun t a=>?_⟩;rcases zK.1 a with a|a
    ·rcases zK.1 a with a|a
     ·exact hok t (qZ a)
     ·simp at a;subst a;exact i
    ·exact hok t (jK a)
  ·simp
 exact⟨v',_,_,rfl,f,j.1,j.2,g⟩
theorem aE.cg(h:aE E Rf N T B (some k) rsv o w):∃c,E.cs[k]?=some c/\c.nd=N.i:=by
 obtain⟨next,b,a⟩:=h.rest;obtain⟨dead,vr,vl,reps,lets,ws,qc,hv⟩:=a.v;exact h.cs.2 k (hv.refs.hw k rfl).1
theorem aE.err(h:aE E Rf N T B (some k) rsv o w){r:Rp}(a:r.err≠0):fE E N.i {r with ref:=(k:Nat)}:=by
 obtain⟨c,b,f⟩:=h.cg;exact⟨k,c,rfl,b,f,fun e=>absurd e a⟩
theorem aE.other(h:aE E Rf N T B (some k) rsv o w){r:Rp}{c:Cl}(b:E.cs[k]?=some c)(f:c.op≠3)(g:c.op≠4):fE E N.i {r with ref:=(k:Nat)}:=by
 obtain⟨j,a,i⟩:=h.cg;rw[b]at a;injection a with a;subst a;exact⟨k,c,rfl,b,i,fun _=>⟨fun e=>absurd e f,fun e=>absurd e g⟩⟩
theorem bY(h:aE E Rf N T B (some k) rsv o w)(a:Int)(b:a≠0):
  Cs 115 #[Pt N.nb,I6 (k:Nat),I6 a] w (Nd E Rf N T B none rsv o w (.tuple #[])):=by
 have c:=aH (dH h ⟨0,a,0,⟨⟨0,0⟩,[],[],0⟩,0⟩ (h.err b));apply cI;go_in;go_wp2_with fail;refine c.mono ?_;rintro m w1 ⟨rfl,o1,f,g⟩;obtain⟨i,j⟩:=gB f g;go_wp2;go_end0;exact⟨rfl,o1,i,j⟩
theorem AB{ls}{b cl}(f:part < 16)(a:fC ls b cl)(c:∀m∈ls,fR E m)(g:(c6 ls b cl).length<=900000):gJ E N.i (66::(cT part++c6 ls b cl)):=by
 have h:ix (66::(cT part++c6 ls b cl))=0/\fh (66::(cT part++c6 ls b cl))=0:=en (by decide) (by decide);refine⟨Cq f c (fun m hm=>⟨a.m m hm,(c m hm).2.2.2.1⟩) (fun d hd=>b0 (a.b d hd)) (fun d hd=>b0 (a.c d hd)) (by have:=l5 ls b cl;omega) (by have:=l5 ls b cl;omega) (by have:=l5 ls b cl;omega),.inl h.1,by omega,?_⟩;have:=(bi (n:=part) (by omega)).2;unfold cT;rw[zQ,zC,jS];omega
theorem ii(h:aE E Rf N T B hand rsv o w)(u:part < 16){vl vb vc}{ls}{b cl}(x:kz w vl vb vc ls b cl)(A:fC ls b cl)(O:∀m∈ls,fR E m)(j:(c6 ls b cl).length<=900000):
  Cs 80 #[Pt N.nb,I6 (part:Nat),.agg #[vl,vb,vc]] w (F4 E Rf N T B hand rsv o w):=by
 obtain⟨Aa,ca,rfl,_⟩:=x.l.slice;obtain⟨Ab,cb,rfl,_⟩:=x.b.slice;obtain⟨Ac,cc,rfl,_⟩:=x.c.slice;obtain⟨W0,HW,y,R⟩:=dW w #[.slice Aa ls.length ca,.slice Ab b.length cb,.slice Ac cl.length cc] 131;have F:=h.below y;have b0:=x.below y;obtain⟨a0,a1,a2⟩:=am.three R;have y1:=F.cells.st;obtain⟨n0,hy,hz,S⟩:=F.state;obtain⟨U,G,V,X,a,HM,Y,Z⟩:=gH (eH S part u (by omega)) F b0 R A O h.fin (AB (N:=N) u A O j);have H:=aH j;apply cI;go_in;go_upto_region 1 with(fail);simp only[HW.out];go_wp2_with fail;refine U.mono ?_;rintro k w1 ⟨hA,hB,hC,l2,ha,hc,rfl,o1,o2,o3,_,hD,hw,hE,hd,he,C⟩;obtain⟨A1,k1,rfl,_⟩:=o1.rw.slice;obtain⟨A2,k2,rfl,_⟩:=o2.rw.slice;obtain⟨A3,k3,rfl,_⟩:=o3.rw.slice;obtain⟨W1,hf,f,hg⟩:=dW w1 #[.slice A1 l2.length k1,.slice A2 ha.length k2,.slice A3 hc.length k3] 131;obtain⟨d0,d1,d2⟩:=am.three hg;have n:=C.trans (f.mono C.size);obtain⟨c0,c1,c2⟩:=am.three (X.below n);obtain⟨hh,B2⟩:=gB (s8 W1 ⟨o1.rw.below f,o2.rw.below f,o3.rw.below f⟩ (V.below n) (by have:=a.l;omega) (by have:=a.bc;omega) hd he a.b a.c) n;go_upto_region 2 with(fail);simp only[hf.out];go_wp2_with fail;refine hh.mono ?_;rintro k w3 ⟨⟨t,rfl⟩,hj⟩;have p:=B2.trans (hj.mono B2.size);have h3:=G.below p;obtain⟨hF,hG,hH⟩:=am.three (X.below p);obtain⟨I,z⟩:=gB p h3;cases t
 ·have b3:=V.below I;have hk:=aH (vS part u w3 b3 a H);go_wp2_with fail;refine hk.mono ?_;rintro k w4 ⟨rfl,q⟩;have D:=aH (Z);generalize(66::(cT (part:Int)++c6 ls b cl))=rec at D;have c:=q.alloc q.size (.cells #[.string (aF rec)] 9);obtain⟨hl,S3⟩:=gB (dU (rs:=[rec]) (z.below c) (j6 bM rec z.fin q.size) (by simp) (fun r hr=>by rw[qR]at hr;subst hr;exact D)) ((Sk.J (N:=N) y Y).trans ((Sk.J I G.fin).trans (Sk.J c z.fin)));go_wp2_with fail;refine hl.mono ?_;rintro k w5 ⟨t,rfl,o5,h5,s5⟩;obtain⟨S5,g⟩:=gB (S3.trans s5) h5;cases t
  ·go_wp2_with fail;go_ret;exact⟨false,rfl,o5,g,S5⟩
  ·have s:Bw w5 w5.drew:=bD _;have z1:=g.cells.st;have hn:=g.cells.hd;obtain⟨n5,hI,hJ,J⟩:=(g.below s).state;have ho:=aH (eH J part u (by omega));go_wp2_with fail;go_region_held3 (fun w'=>Ce w' N.nb 1 (Pt N.st)/\Ce w' N.nb 13 (Pt N.hd))
    (first|exact⟨z1,hn⟩|exact⟨i.cells.st,i.cells.hd⟩|exact⟨M.cells.st,M.cells.hd⟩)
    (first
     |(go_at_call 54;(with_reducible refine(ho.out).mono ?_);rintro k w6 ⟨hK,hL,hN,l6,hO,hP,rfl,p1,p2,p3,_,hQ,hx,hq,hs,ht,L⟩;have c:=s.trans (L.mono s.size);have i:=g.below c)
     |(go_at_call 53;(with_reducible refine(mY (part:Int) i.hd i.fin ⟨by omega,by omega⟩ ⟨p1.rw,p2.rw,p3.rw⟩ ⟨by omega,by omega,fun m hm=>(hq m hm).lt,hs,ht⟩).mono ?_);rintro k w7 ⟨⟨t7,rfl⟩,o7,hu,s7⟩;have M:=i.hd_ s7 hu))
   all_goals
    obtain⟨H7,S7⟩:=gB M (S5.trans ((Sk.J c g.fin).trans (.db s7 i.roots.hd (by decide) (by decide) (by decide))));go_wp2_with fail;go_ret;exact⟨true,rfl,o7,H7,S7⟩
 ·go_wp2_with fail;go_ret;exact⟨true,rfl,o,z,(Sk.J (N:=N) y Y).trans (Sk.J I G.fin)⟩
theorem fG(h:aE E Rf N T B hand rsv o w){v}(hv:Rw bF w v l)(C:l.length<=1000)(m:∀t∈l,fA t):
  Cs 59 #[Pt N.nb,v] w (F4 E Rf N T B hand rsv o w):=by
 obtain⟨A,c,rfl,_⟩:=hv.slice;have y1:=h.cells.st;obtain⟨n0,U,V,n⟩:=h.state;obtain⟨p,H,q,D⟩:=gD (eS n) h hv m;apply cI;go_in;go_wp2_with fail;refine p.mono ?_;rintro k w1 ⟨F,⟨v1,rfl,f,g⟩,X,Y⟩;obtain⟨A1,c1,rfl,_⟩:=f.rw.slice;have i:=aH (oQ w1 (q.below g) f.rw (by omega) (by omega));obtain⟨t,G⟩:=nx (e3 dD l F);rw[G]at i;have s:=aH g;go_wp2_with fail;refine i.mono ?_;rintro k w2 ⟨rfl,u⟩;have a:=aH (s.trans (u.mono s.size));cases t
 ·have x:=aH (Cg w2 (q.below a) C D);go_wp2_with fail;refine x.mono ?_;rintro k w3 ⟨t3,rfl,Z,y⟩;have b:=a.trans (y.mono a.size);have j:=b.alloc b.size (.cells #[.string (aF (72::t3))] 9);have z:=aH (dU (rs:=[72::t3]) (H.below j) (j6 bM _ H.fin b.size) (by simp) (fun r hr=>by
   rw[qR]at hr;subst hr;have I:ix (72::t3)=0/\fh (72::t3)=0:=en (by decide) (by decide);exact⟨gw (by decide),.inl I.1,by omega,by simp;omega⟩))
  have J:=aH (Sk.J (N:=N) j H.fin);go_wp2_with fail;refine z.mono ?_;rintro k w5 ⟨t,rfl,L,M,O⟩;obtain⟨R,S⟩:=gB (J.trans O) M;go_wp2;go_ret;exact⟨t,rfl,L,S,R⟩
 ·go_wp2;go_ret;exact⟨true,rfl,o,H.below a,Sk.J a H.fin⟩
structure Wi where
 k:Int
 fr:Int
 sq:Int
 pt:Int
 fl:Int
 mr:List UInt8
 dn:Int
 dm:Int
 rc:Int
 lg:Int
abbrev s9(x:Wi)(vl vb vc vt vv:Value):Value:=.agg #[I6 x.k,I6 x.fr,I6 x.sq,I6 x.pt,I6 x.fl,.string (aF x.mr),vl,vb,vc,vt,vv,I6 x.dn,I6 x.dm,I6 x.rc,I6 x.lg]
def ij(x:Wi):List Int:=[x.k,x.fr,x.sq,x.pt,x.fl,x.dn,x.dm,x.rc,x.lg]
structure AC(w:World)(x:Wi)(vl vb vc vt vv:Value)(ls:List Mg)(b cl:List bC)(tl:List Tg)(pl:List Pe):Prop where
 bg:kz w vl vb vc ls b cl
 sz:fC ls b cl
 t:Rw a7 w vt tl
 tn:tl.length<=100
 tb:∀a∈tl,iw a
 v:Rw aL w vv pl
 vn:pl.length<=64
 vb:∀a∈pl,cA a
 ml:x.mr.length<=10000000
theorem AC.below{x:Wi}{vl vb vc vt vv}{ls}{b cl}{pl}(h:AC w x vl vb vc vt vv ls b cl tl pl)(a:Below w.heap.size w w'):AC w' x vl vb vc vt vv ls b cl tl pl:=
 ⟨h.bg.below a,h.sz,h.t.below a,h.tn,h.tb,h.v.below a,h.vn,h.vb,h.ml⟩
theorem rk(x:Wi) vl vb vc vt vv(w:World):Cs 229 #[s9 x vl vb vc vt vv] w fun e w'=>Rt e (.agg #[I6 x.k,I6 x.fr,I6 x.sq,I6 x.pt,I6 x.fl,I6 x.dn,I6 x.dm,I6 x.rc,I6 x.lg])/\Below w.heap.size w w':=by
 have b:=am.new (w.alloc (.cells #[I6 x.k,I6 x.fr,I6 x.sq,I6 x.pt,I6 x.fl,.string (aF x.mr),vl,vb,vc,vt,vv,I6 x.dn,I6 x.dm,I6 x.rc,I6 x.lg] 153)) 241 #[I6 x.k,I6 x.fr,I6 x.sq,I6 x.pt,I6 x.fl,I6 x.dn,I6 x.dm,I6 x.rc,I6 x.lg];have p:Bw w ((w.alloc (.cells #[I6 x.k,I6 x.fr,I6 x.sq,I6 x.pt,I6 x.fl,.string (aF x.mr),vl,vb,vc,vt,vv,I6 x.dn,I6 x.dm,I6 x.rc,I6 x.lg] 153)).alloc (.cells #[I6 x.k,I6 x.fr,I6 x.sq,I6 x.pt,I6 x.fl,I6 x.dn,I6 x.dm,I6 x.rc,I6 x.lg] 241)):=(ba _ _).alloc (by simp) _;have q:=aH p;rw[qA]at b;have a:=aH b;apply cI;go_in;go_wp2_with fail;have c:=am.cell a 0;have f:=am.cell a 1;have g:=am.cell a 2;have h:=am.cell a 3;have i:=am.cell a 4;have j:=am.cell a 5;have k:=am.cell a 6;have m:=am.cell a 7;have n:=am.cell a 8;simp only[zL,zM,zP]at c f g h i j k m n;refine bodyPost_ret (v:=.agg #[I6 x.k,I6 x.fr,I6 x.sq,I6 x.pt,I6 x.fl,I6 x.dn,I6 x.dm,I6 x.rc,I6 x.lg]) (by simp[results,results229,go_sem,c,f,g,h,i,j,k,m,n]) rfl ?_;exact⟨rfl,q⟩
def GH(x:Wi)(w:World)(e:Ending)(w':World):Prop:=∃c:Int,Rt e (I6 c)/\(c=0->0<=x.pt/\x.pt<=15)/\Below w.heap.size w w'
theorem oF{x:Wi}{vl vb vc vt vv}{ls}{b cl}{pl} w(h:AC w x vl vb vc vt vv ls b cl tl pl):Cs 154 #[s9 x vl vb vc vt vv] w (GH x w):=by
 obtain⟨Aa,ca,rfl,_⟩:=h.bg.l.slice;obtain⟨Ab,cb,rfl,_⟩:=h.bg.b.slice;obtain⟨Ac,cc,rfl,_⟩:=h.bg.c.slice;obtain⟨At,ct,rfl,_⟩:=h.t.slice;obtain⟨Av,cv,rfl,_⟩:=h.v.slice;obtain⟨W0,HW,U,j⟩:=dW w #[I6 x.k,I6 x.fr,I6 x.sq,I6 x.pt,I6 x.fl,.string (aF x.mr),.slice Aa ls.length ca,.slice Ab b.length cb,.slice Ac cl.length cc,.slice At tl.length ct,.slice Av pl.length cv,I6 x.dn,I6 x.dm,I6 x.rc,I6 x.lg] 153;have V:=am.cell j 0;have X:=am.cell j 1;have Y:=am.cell j 2;have Z:=am.cell j 3;have y4:=am.cell j 4;have y5:=am.cell j 5;have y6:=am.cell j 6;have y7:=am.cell j 7;have y8:=am.cell j 8;have G:=am.cell j 9;have C:=am.cell j 10;have H:=am.cell j 11;have I:=am.cell j 12;have J:=am.cell j 13;have L:=am.cell j 14;simp only[zL,zM,zP]at V X Y Z y4 y5 y6 y7 y8 G C H I J L;obtain⟨H0,g⟩:=gB (h.below U) (fun n a b W=>sr n a b W);have ha:=fun W=>jb ⟨x.dn,x.dm⟩ ⟨0,0⟩ W;have he:=fun op p q W=>lE op p q ⟨x.dn,x.dm⟩ ⟨0,0⟩ W;have HD:=aH (cG ⟨x.dn,x.dm⟩ W0);obtain⟨dq,hb⟩:=nx (lW ⟨x.dn,x.dm⟩ ⟨0,0⟩);obtain⟨nm,M⟩:=nx (aO ⟨x.dn,x.dm⟩);rw[hb]at ha;rw[M]at HD;cases dq
 ·apply cI;go_in;go_upto_region 1 with(fail);simp only[HW.out];go_wp2_with fail;refine HD.mono ?_;rintro i W1 ⟨rfl,c⟩;obtain⟨f,k⟩:=gB (U.trans (c.mono U.size)) (H0.below c);replace V:=aD c V;replace X:=aD c X;replace Y:=aD c Y;replace Z:=aD c Z;replace y4:=aD c y4;replace y5:=aD c y5;replace y6:=aD c y6;replace y7:=aD c y7;replace y8:=aD c y8;replace G:=aD c G;replace C:=aD c C;replace H:=aD c H;replace I:=aD c I;replace J:=aD c J;replace L:=aD c L;go_wp2_with fail;refine(g _ _ _ _).mono ?_;rintro i u ⟨rfl,rfl⟩;cases hq1:cD x.k 1 8
  ·go_wp2_with fail;go_ret;exact⟨1,rfl,fun e=>by omega,f⟩
  go_wp2_with fail;refine(g _ _ _ _).mono ?_;rintro i u ⟨rfl,rfl⟩;cases hq2:cD x.fr 1 1099511627776
  ·go_wp2_with fail;go_ret;exact⟨1,rfl,fun e=>by omega,f⟩
  go_wp2_with fail;refine(g _ _ _ _).mono ?_;rintro i u ⟨rfl,rfl⟩;cases hq3:cD x.sq 0 1099511627776
  ·go_wp2_with fail;go_ret;exact⟨1,rfl,fun e=>by omega,f⟩
  go_wp2_with fail;refine(g _ _ _ _).mono ?_;rintro i u ⟨rfl,rfl⟩;cases hq4:cD x.pt 0 15
  ·go_wp2_with fail;go_ret;exact⟨1,rfl,fun e=>by omega,f⟩
  go_wp2_with fail;refine(g _ _ _ _).mono ?_;rintro i u ⟨rfl,rfl⟩;cases hq5:cD x.fl 0 1
  ·go_wp2_with fail;go_ret;exact⟨1,rfl,fun e=>by omega,f⟩
  have HP:=aH hq4;cases nm
  ·go_wp2_with fail;go_ret;exact⟨1,rfl,fun e=>by omega,f⟩
  go_wp2_with fail;refine(g _ _ _ _).mono ?_;rintro i u ⟨rfl,rfl⟩;cases hq6:cD x.rc 0 1099511627776
  ·go_wp2_with fail;go_ret;exact⟨1,rfl,fun e=>by omega,f⟩
  go_wp2_with fail;refine(g _ _ _ _).mono ?_;rintro i u ⟨rfl,rfl⟩;cases hq7:cD x.lg 0 1073741824
  ·go_wp2_with fail;go_ret;exact⟨1,rfl,fun e=>by omega,f⟩
  by_cases hml:(8000:Int) < (x.mr.length:Int)
  ·have d8:decide ((8000:Int) < (x.mr.length:Int))=true:=by simpa using hml
   go_wp2_with fail;go_ret;exact⟨1,rfl,fun e=>by omega,f⟩
  have d8:decide ((8000:Int) < (x.mr.length:Int))=false:=by simpa using hml
  have N:=aH (jt W1 _ _ _ ls b cl k.bg.l k.bg.b k.bg.c (by have:=k.sz.l;omega) (by have:=k.sz.bc;omega) (by have:=k.sz.bc;omega));go_wp2_with fail;refine N.mono ?_;rintro i w1 ⟨⟨O,rfl⟩,m⟩;obtain⟨y,s⟩:=gB (f.trans (m.mono f.size)) (k.below m);have u9:=aD m G;have u10:=aD m C;by_cases hn1:O=0
  case neg=>
   have hc:(O==0)=false:=by simpa using hn1
   go_wp2_with fail;go_ret;exact⟨1,rfl,fun e=>by omega,y⟩
  subst hn1;have R:=aH (jM w1 s.t (by have:=s.tn;omega) (fun t ht=>by have:=(s.tb t ht).1;omega));go_wp2_with fail;refine R.mono ?_;rintro i w2 ⟨z,A⟩;obtain⟨B,D⟩:=gB (y.trans (A.mono y.size)) (s.below A);have hd:=aD A u10;rcases z with rfl|⟨rfl,_⟩
  ·go_wp2_with fail;go_ret;exact⟨1,rfl,fun e=>by omega,B⟩
  have S:=aH (jz w2 D.v (by have:=D.vn;omega));go_wp2_with fail;refine S.mono ?_;rintro i w3 ⟨z,T⟩;have F:=aH (B.trans (T.mono B.size));rcases z with rfl|⟨rfl,_⟩
  ·go_wp2_with fail;go_ret;exact⟨1,rfl,fun e=>by omega,F⟩
  go_wp2_with fail;go_ret;refine⟨0,rfl,fun _=>?_,F⟩;have:=HP.out;unfold cD at this;simp at this;exact this
 ·obtain⟨nm,M⟩:∃t,t=true:=⟨true,rfl⟩;have f:=aH U;have k:=H0;apply cI;go_in;go_upto_region 1 with(fail);simp only[HW.out];go_wp2_with fail;rw[<-M];refine(g _ _ _ _).mono ?_;rintro i u ⟨rfl,rfl⟩;cases hq1:cD x.k 1 8
  ·go_wp2_with fail;go_ret;exact⟨1,rfl,fun e=>by omega,f⟩
  go_wp2_with fail;refine(g _ _ _ _).mono ?_;rintro i u ⟨rfl,rfl⟩;cases hq2:cD x.fr 1 1099511627776
  ·go_wp2_with fail;go_ret;exact⟨1,rfl,fun e=>by omega,f⟩
  go_wp2_with fail;refine(g _ _ _ _).mono ?_;rintro i u ⟨rfl,rfl⟩;cases hq3:cD x.sq 0 1099511627776
  ·go_wp2_with fail;go_ret;exact⟨1,rfl,fun e=>by omega,f⟩
  go_wp2_with fail;refine(g _ _ _ _).mono ?_;rintro i u ⟨rfl,rfl⟩;cases hq4:cD x.pt 0 15
  ·go_wp2_with fail;go_ret;exact⟨1,rfl,fun e=>by omega,f⟩
  go_wp2_with fail;refine(g _ _ _ _).mono ?_;rintro i u ⟨rfl,rfl⟩;cases hq5:cD x.fl 0 1
  ·go_wp2_with fail;go_ret;exact⟨1,rfl,fun e=>by omega,f⟩
  have HP:=aH hq4;cases nm
  ·go_wp2_with fail;go_ret;exact⟨1,rfl,fun e=>by omega,f⟩
  go_wp2_with fail;refine(g _ _ _ _).mono ?_;rintro i u ⟨rfl,rfl⟩;cases hq6:cD x.rc 0 1099511627776
  ·go_wp2_with fail;go_ret;exact⟨1,rfl,fun e=>by omega,f⟩
  go_wp2_with fail;refine(g _ _ _ _).mono ?_;rintro i u ⟨rfl,rfl⟩;cases hq7:cD x.lg 0 1073741824
  ·go_wp2_with fail;go_ret;exact⟨1,rfl,fun e=>by omega,f⟩
  by_cases hml:(8000:Int) < (x.mr.length:Int)
  ·have d8:decide ((8000:Int) < (x.mr.length:Int))=true:=by simpa using hml
   go_wp2_with fail;go_ret;exact⟨1,rfl,fun e=>by omega,f⟩
  have d8:decide ((8000:Int) < (x.mr.length:Int))=false:=by simpa using hml
  have N:=aH (jt W0 _ _ _ ls b cl k.bg.l k.bg.b k.bg.c (by have:=k.sz.l;omega) (by have:=k.sz.bc;omega) (by have:=k.sz.bc;omega));go_wp2_with fail;refine N.mono ?_;rintro i w1 ⟨⟨O,rfl⟩,m⟩;obtain⟨y,s⟩:=gB (f.trans (m.mono f.size)) (k.below m);have u9:=aD m G;have u10:=aD m C;by_cases hn1:O=0
  case neg=>
   have hc:(O==0)=false:=by simpa using hn1
   go_wp2_with fail;go_ret;exact⟨1,rfl,fun e=>by omega,y⟩
  subst hn1;have R:=aH (jM w1 s.t (by have:=s.tn;omega) (fun t ht=>by have:=(s.tb t ht).1;omega));go_wp2_with fail;refine R.mono ?_;rintro i w2 ⟨z,A⟩;obtain⟨B,D⟩:=gB (y.trans (A.mono y.size)) (s.below A);have hd:=aD A u10;rcases z with rfl|⟨rfl,_⟩
  ·go_wp2_with fail;go_ret;exact⟨1,rfl,fun e=>by omega,B⟩
  have S:=aH (jz w2 D.v (by have:=D.vn;omega));go_wp2_with fail;refine S.mono ?_;rintro i w3 ⟨z,T⟩;have F:=aH (B.trans (T.mono B.size));rcases z with rfl|⟨rfl,_⟩
  ·go_wp2_with fail;go_ret;exact⟨1,rfl,fun e=>by omega,F⟩
  go_wp2_with fail;go_ret;refine⟨0,rfl,fun _=>?_,F⟩;have:=HP.out;unfold cD at this;simp at this;exact this
theorem AD{β:Type}(f:α->β)(g:β->List UInt8)(l:List α):bW g (l.map f)=bW (fun a=>g (f a)) l:=by
 unfold bW;rw[List.flatMap_map]
theorem lO(l:List Int):bG l.length++bW cT l=bZ bG (l.map Int.toNat):=by
 unfold bZ;rw[jD,AD];rfl
theorem kI{b cl:List bC}(h:fC ls b cl):(c6 ls b cl).length<=40+3000*ls.length+20*(b.length+cl.length):=by
 have a:=dz gp 3000 ls (fun m hm=>mG m (h.m m hm));have c:=dz dB 20 b (fun d hd=>fw d (b0 (h.b d hd)).1 (b0 (h.b d hd)).2);have f:=dz dB 20 cl (fun d hd=>fw d (b0 (h.c d hd)).1 (b0 (h.c d hd)).2);have g:=(bi (n:=ls.length) (by have:=h.l;omega)).2;have i:=(bi (n:=b.length) (by have:=h.bc;omega)).2;have j:=(bi (n:=cl.length) (by have:=h.bc;omega)).2;unfold c6 lX bZ;simp only[zC];omega
theorem x3(f:α->List UInt8)(n:Nat)(l:List α)(h:∀a∈l,(f a).length<=n)(b:l.length<=1000):(bZ f l).length<=10+n*l.length:=by
 have c:=dz f n l h;have g:=(bi (n:=l.length) (by omega)).2;unfold bZ;rw[zC];omega
def GI(E:bX)(w:World)(e:Ending)(w':World):Prop:=∃(s:List UInt8) (c:Int),Rt e (.tuple #[.string (aF s),I6 c])/\(c=0->el E s/\s.length<=8000)/\Below w.heap.size w w'
structure G9(E:bX)(x:Wi)(ls:List Mg):Prop where
 m:∀m∈ls,fR E m
 fr:1<=x.fr/\x.fr<=64
 i:∀z∈ij x,bN z
theorem vX{x:Wi}{vl vb vc vt vv}{ls}{b cl}{pl} w(h:AC w x vl vb vc vt vv ls b cl tl pl)(ho:G9 E x ls):Cs 135 #[s9 x vl vb vc vt vv] w (GI E w):=by
 obtain⟨Aa,ca,rfl,_⟩:=h.bg.l.slice;obtain⟨Ab,cb,rfl,_⟩:=h.bg.b.slice;obtain⟨Ac,cc,rfl,_⟩:=h.bg.c.slice;obtain⟨At,ct,rfl,_⟩:=h.t.slice;obtain⟨Av,cv,rfl,_⟩:=h.v.slice;obtain⟨W0,HW,R,k⟩:=dW w #[I6 x.k,I6 x.fr,I6 x.sq,I6 x.pt,I6 x.fl,.string (aF x.mr),.slice Aa ls.length ca,.slice Ab b.length cb,.slice Ac cl.length cc,.slice At tl.length ct,.slice Av pl.length cv,I6 x.dn,I6 x.dm,I6 x.rc,I6 x.lg] 153;obtain⟨H0,y,hb⟩:=gC (h.below R) ho k;have T:=ce k;have U:=dt k;have V:=ed k;have X:=ef k;have Y:=eV k;have H:=e9 k;have I:=fa k;have J:=fb k;have L:=ma k;have M:=rz k;have q:=iz k;have A:=iA k;have B:=iB k;have C:=jp k;have D:=ke k;have HC:=aH (oF W0 H0);clear h ho k;apply cI;go_in;go_upto_region 1 with(fail);simp only[HW.out];go_wp2_with fail;refine HC.mono ?_;rintro _e w1 ⟨c1,rfl,_,i⟩;obtain⟨Z,H1,X1⟩:=gC (R.trans (i.mono R.size)) (H0.below i) (hb.below i);replace T:=aD i T;replace U:=aD i U;replace V:=aD i V;replace X:=aD i X;replace Y:=aD i Y;replace H:=aD i H;replace I:=aD i I;replace J:=aD i J;replace L:=aD i L;replace M:=aD i M;replace q:=aD i q;replace A:=aD i A;replace B:=aD i B;replace C:=aD i C;replace D:=aD i D;clear i;by_cases hc:c1=0
 case neg=>
  have hh:(c1==0)=false:=by simpa using hc
  go_wp2_with fail;go_ret2;exact⟨[],1,rfl,fun e=>by omega,Z⟩
 subst hc;have HN:=aH (rk x (.slice Aa ls.length ca) (.slice Ab b.length cb) (.slice Ac cl.length cc) (.slice At tl.length ct) (.slice Av pl.length cv) w1);go_wp2_with fail;refine HN.mono ?_;rintro _e w2 ⟨rfl,F⟩;obtain⟨p,he,e3,n3⟩:=dW w2 #[I6 x.k,I6 x.fr,I6 x.sq,I6 x.pt,I6 x.fl,I6 x.dn,I6 x.dm,I6 x.rc,I6 x.lg] 241;have m:=F.trans (e3.mono F.size);have G:Sl p 1 (some ⟨w2.heap.size,0,none⟩) (ij x).length ((ij x).map (Value.int .i64)):=⟨rfl,fun _=>⟨w2.heap.size,0,rfl,ap n3,fun j u hu=>by rw[zR,am.cell n3];simpa[ij]using hu⟩⟩;have g:=aH (H1.below m);have X3:=X1.below m;obtain⟨B3,C1,C2,C3,C4,C5⟩:=gF (Z.trans (m.mono Z.size)) (fun d os=>BT (c:=9) _ (G.below (below_regrown p d os)) (by simp[ij]) y.i) (fun W=>iF x.mr W (by have:=g.ml;unfold yj;omega)) (fun d os=>fx _ _ _ _ ls b cl ((g.bg.l).below (below_regrown p d os)) ((g.bg.b).below (below_regrown p d os)) ((g.bg.c).below (below_regrown p d os)) g.sz.l (by have:=g.sz.bc;omega) (by have:=g.sz.bc;omega) g.sz.m (fun d hd=>b0 (g.sz.b d hd)) (fun d hd=>b0 (g.sz.c d hd))) (fun d os=>sh _ _ tl (g.t.below (below_regrown p d os)) (by have:=g.tn;omega) (fun t ht=>(g.tb t ht).ok)) (fun d os=>pu _ _ pl (g.v.below (below_regrown p d os)) (by have:=g.vn;omega) g.vb);have N:Hid (∀t,DJ E (bZ bG ((ij x).map Int.toNat)++(cB x.mr++(c6 ls b cl++t)))):=aH fun t=>by
  refine DL (fun n hn=>?_) (by rw[jD];show 9 < _;omega) (by have:=g.ml;omega) y.m (fun d hd=>b0 (g.sz.b d hd)) (fun d hd=>b0 (g.sz.c d hd)) (by have:=g.sz.l;omega) (by have:=g.sz.bc;omega) (by have:=g.sz.bc;omega) (fun f hf=>?_)
  ·obtain⟨z,hz,rfl⟩:=zV.1 hn;have:=y.i z hz;unfold bN at this;omega
  ·have:=y.fr;simp[ij]at hf;omega
 have l1:(bZ bG ((ij x).map Int.toNat)).length<=1000:=by
  rw[<-lO,zC];have O:=(bi (n:=(ij x).length) (by simp[ij])).2;have h2:=dz cT 10 (ij x) (fun z hz=>cV z (y.i z hz));simp[ij]at O h2 ⊢;omega
 have l2:(cB x.mr).length<=10000100:=by
  have O:=(bi (n:=x.mr.length) (by have:=g.ml;omega)).2;have:=g.ml;unfold cB;rw[zC];omega
 have l3:(c6 ls b cl).length<=100000000000:=by
  have:=kI g.sz;have:=g.sz.l;have:=g.sz.bc;omega
 have l4:(bZ ic tl).length<=1000000:=by
  have h:=x3 ic 200 tl (fun a ha=>iT a (g.tb a ha)) (by have:=g.tn;omega);have:=g.tn;omega
 have l5:(bZ eE pl).length<=1000000:=by
  have h:=x3 eE 200 pl (fun a ha=>kB a (g.vb a ha)) (by have:=g.vn;omega);have:=g.vn;omega
 rw[lO]at C1;generalize bZ bG ((ij x).map Int.toNat)=p1 at C1 N l1;generalize cB x.mr=p2 at C2 N l2;generalize c6 ls b cl=p3 at C3 N l3;generalize bZ ic tl=p4 at C4 l4;generalize bZ eE pl=p5 at C5 l5;have O:=fun W=>bJ p1 p2 (by omega) W;have h2:∀W,(Op.stringOp .add (aF (p1++p2)) (aF p3)).run prog W=.ok (.string (aF (p1++(p2++p3)))) W:=fun W=>by rw[<-zH];exact bJ (p1++p2) p3 (by simp;omega) W
 have h3:∀W,(Op.stringOp .add (aF (p1++(p2++p3))) (aF p4)).run prog W=.ok (.string (aF (p1++(p2++(p3++p4))))) W:=fun W=>by rw[show p1++(p2++(p3++p4))=(p1++(p2++p3))++p4 by simp];exact bJ (p1++(p2++p3)) p4 (by simp;omega) W
 have h4:∀W,(Op.stringOp .add (aF (p1++(p2++(p3++p4)))) (aF p5)).run prog W=.ok (.string (aF (p1++(p2++(p3++(p4++p5)))))) W:=fun W=>by rw[show p1++(p2++(p3++(p4++p5)))=(p1++(p2++(p3++p4)))++p5 by simp];exact bJ (p1++(p2++(p3++p4))) p5 (by simp;omega) W
 have r5:=fun d os=>cell_regrown (aD m H) d os;have r6:=fun d os=>cell_regrown (aD m I) d os;have r7:=fun d os=>cell_regrown (aD m J) d os;have r8:=fun d os=>cell_regrown (aD m L) d os;have r9:=fun d os=>cell_regrown (aD m M) d os;have hj:=fun d os=>cell_regrown (aD m q) d os;clear T U V X Y H I J L M q A B C D F e3 n3 m G X3;go_upto_region 4 with(fail);simp only[he.out];refine wp_region_quiet_below (by kernel_rfl) (by kernel_rfl) ?_;repeat(go_big_quiet_step (first|(go_at_call 230;exact Calls.regrown_of (C1 _ _))|(go_at_call 160;exact Calls.regrown_of (C2 _))|(go_at_call 81;exact Calls.regrown_of (C3 _ _))|(go_at_call 231;exact Calls.regrown_of (C4 _ _))|(go_at_call 107;exact Calls.regrown_of (C5 _ _))|fail))
 refine wpQuiet_nil ?_;intro w5 s;obtain⟨⟨dq,hg⟩,s⟩:=s;have B5:=aH (B3.trans ((below_regrown p dq hg).mono B3.size));rw[<-s]at B5;clear s;generalize hs:p1++(p2++(p3++(p4++p5)))=S;have HS:Hid (DJ E S/\S.length<=1000000000000):=aH ⟨by rw[<-hs];exact N (p4++p5),by rw[<-hs];simp;omega⟩;clear hs O h2 h3 h4;have G:=HS.2;by_cases h8:(8000:Int) < (S.length:Int)
 ·have d8:decide ((8000:Int) < (S.length:Int))=true:=by simpa using h8
  go_wp2_with fail;go_ret2;exact⟨[],11,rfl,fun e=>by omega,B5⟩
 ·have d8:decide ((8000:Int) < (S.length:Int))=false:=by simpa using h8
  go_wp2_with fail;go_ret2;exact⟨S,0,rfl,fun _=>⟨⟨by omega,HS.1⟩,by omega⟩,B5⟩
section
variable{ws:List (Int × Qg)}
theorem aE.lettered{l:Lt}(h:aE E Rf N T B hand rsv o w)(H:gx E N next rsv o w)(u:e7 E Rf N B hand next rsv o w)(hv:xX E Rf N B hand next o w dead vr vl reps lets ws qc)(I:el E l.b)
  (J:aK cY 0 w6 v6 (lets++[l])) (m:w.grownBy w6 vl.ownBlock) (L:v6.ownBlock=vl.ownBlock\/∃k,v6.ownBlock=some k/\w.heap.size<=k):
  ∃o',aE E Rf N T (B+1) hand rsv o' (w6.setCell ⟨N.nb,16,none⟩ v6)/\St (·=(N.i,N.nb)) o w o' (w6.setCell ⟨N.nb,16,none⟩ v6)/\(w6.setCell ⟨N.nb,16,none⟩ v6).heap[N.wm]?=w.heap[N.wm]?:=by
 obtain⟨o6,A,f⟩:=hv.let_.app (p:=(·=(N.i,N.nb))) h.fin rfl J m L;obtain⟨g,n,C,D,M⟩:=hv.grown h u f m (fun k e=>by
  obtain⟨cs,i⟩:=hv.let_.1.ty e;exact⟨_,cs,i,by decide⟩)
 have x:o6 N.nb=(N.i,N.nb):=by rw[f.old _ (ap hv.blk)];exact u.onb
 have j:=aB w6 N.nb 16 v6;have b:St (·=(N.i,N.nb)) o6 w6 o6 (w6.setCell ⟨N.nb,16,none⟩ v6):=.U j x f.far;have O:=ci (r:=N.nb) h.i0;have F:cX (·=N.nb) w6 (w6.setCell ⟨N.nb,16,none⟩ v6):=cX.U j rfl;have s:cN N.i o6 w6 o6 (w6.setCell ⟨N.nb,16,none⟩ v6):=cN.an b ⟨_,g⟩ (by decide) (by decide) (by decide);have t:cZ cW o6 (N.i,N.nb) w6 vr reps:=⟨hv.rep.1.keep m fun a y z=>by
  obtain⟨cs,i⟩:=hv.rep.1.ty y;obtain⟨S,G⟩:=hv.let_.1.ty z;exact aT i G (by decide) rfl,fun a e=>by rw[f.old _ (hv.rep.lt a e)];exact hv.rep.2 a e⟩
 refine⟨o6,h.bx (f.trans b) H (u.of (f.trans b) ⟨am.I g 16 v6,t.av F b fun a e ea=>?_,A.av F b fun a e ea=>?_,by rw[zC];have:=hv.len;simp;omega,hv.rok,fun q hq=>?_,hv.refs,n.only j (dG n g),fun p hp=>⟨(D p hp).1,(D p hp).2.st b O s⟩,C.only j (dG C g),fun p hp=>?_⟩),f.trans b,((j.block _ n.lt (fun e=>dG n g (by(injection e with e)<;>(first|exact e|exact e.symm)))).trans (m.block _ hv.wm.lt (fun e=>aK.ak hv.let_.1 hv.wm e)))⟩
 ·subst ea;obtain⟨cs,i⟩:=t.1.ty e;exact aT g i (by decide) rfl
 ·subst ea;obtain⟨cs,i⟩:=A.1.ty e;exact aT g i (by decide) rfl
 ·rcases zK.1 hq with hq|hq
  ·exact hv.lok q hq
  ·rw[qR]at hq;subst hq;exact I
 ·obtain⟨c,part,d,rc,y,z,R⟩:=M p hp;exact⟨c,part,d,rc,y,z,s.cla d rc c R⟩
def GY(E:bX)(Rf:Nat->Prop)(N:Nb)(T B:Nat)(hand:Option Nat)(rsv:List Int)(o:Ow)(w:World)(e:Ending)(w':World):Prop:=Nd E Rf N T B hand rsv o w (.tuple #[]) e w'/\w'.heap[N.wm]?=w.heap[N.wm]?
theorem lr(h:aE E Rf N T B hand rsv o w)(hB:B<=1000000000){x:Wi}{wl wb wc wt wv v}{ls}{b cl}{pl}{l:List Int}(hw:AC w x wl wb wc wt wv ls b cl tl pl)(hm:∀m∈ls,fR E m)(hi:∀z∈ij x,bN z)(hv:RI aC o w v l)(hl:l.length<=1000):
  Cs 68 #[Pt N.nb,s9 x wl wb wc wt wv,v] w (GY E Rf N T (B+1000) hand rsv o w):=by
 have hwm:N.wm < w.heap.size:=by obtain⟨next,hL,hN⟩:=h.rest;obtain⟨dead,vr,vl,reps,lets,ws,qc,hv⟩:=hN.v;exact hv.wm.lt
 obtain⟨Aa,ca,rfl,_⟩:=hw.bg.l.slice;obtain⟨Ab,cb,rfl,_⟩:=hw.bg.b.slice;obtain⟨Ac,cc,rfl,_⟩:=hw.bg.c.slice;obtain⟨At,ct,rfl,_⟩:=hw.t.slice;obtain⟨Av,cv,rfl,_⟩:=hw.v.slice;obtain⟨A,c,rfl,_⟩:=hv.rw.slice;obtain⟨W0,HW,HB,x0⟩:=dW w #[I6 x.k,I6 x.fr,I6 x.sq,I6 x.pt,I6 x.fl,Sg x.mr,.slice Aa ls.length ca,.slice Ab b.length cb,.slice Ac cl.length cc,.slice At tl.length ct,.slice Av pl.length cv,I6 x.dn,I6 x.dm,I6 x.rc,I6 x.lg] 153;have h0:=h.below HB;have HI:=aH (eI h0.ah);obtain⟨y,hy⟩:∃y:Wi,y={x with fr:=(N.i:Nat)}:=⟨_,rfl⟩;have x1:am (W0.setCell ⟨w.heap.size,1,none⟩ (I6 (N.i:Nat))) w.heap.size 153 #[I6 y.k,I6 y.fr,I6 y.sq,I6 y.pt,I6 y.fl,Sg y.mr,.slice Aa ls.length ca,.slice Ab b.length cb,.slice Ac cl.length cc,.slice At tl.length ct,.slice Av pl.length cv,I6 y.dn,I6 y.dm,I6 y.rc,I6 y.lg]:=by
  subst hy;exact am.I x0 1 (I6 (N.i:Nat))
 have hb1:Bw w (W0.setCell ⟨w.heap.size,1,none⟩ (I6 (N.i:Nat))):=HB.setCell (p:=⟨w.heap.size,1,none⟩) nR _;have y1:=dt x0;have f1:=am.frozen x0 1;obtain⟨W1,hW1⟩:=nM (W0.setCell ⟨w.heap.size,1,none⟩ (I6 (N.i:Nat)));rw[hW1]at x1 hb1;have z0:=ce x1;have z1:=dt x1;have z2:=ed x1;have z3:=ef x1;have z4:=eV x1;have z5:=e9 x1;have z6:=fa x1;have z7:=fb x1;have z8:=ma x1;have z9:=rz x1;have z10:=iz x1;have z11:=iA x1;have z12:=iB x1;have z13:=jp x1;have z14:=ke x1;have hw1:AC W1 y (.slice Aa ls.length ca) (.slice Ab b.length cb) (.slice Ac cl.length cc) (.slice At tl.length ct) (.slice Av pl.length cv) ls b cl tl pl:=by
  have:=hw.below hb1;subst hy;exact⟨this.bg,this.sz,this.t,this.tn,this.tb,this.v,this.vn,this.vb,this.ml⟩
 have hi8:=h.i9;have hi0:=h.i0;have HWB:=aH (vX (E:=E) W1 hw1 ⟨hm,by subst hy;show 1<=((N.i:Nat):Int)/\((N.i:Nat):Int)<=64;omega,fun z hz=>by
  subst hy;simp[ij]at hz;rcases hz with rfl|rfl|rfl|rfl|rfl|rfl|rfl|rfl|rfl
  ·exact hi _ (by simp[ij])
  ·unfold bN;omega
  all_goals exact hi _ (by simp[ij])⟩)
 obtain⟨H1,V1,B1,HF⟩:=gD (h.below hb1) (hv.below hb1 h.fin) hb1 h.fin;clear h h0 hw hm hi hv x0 x1 hb1 hw1 hy;apply cI;go_in;go_upto_region 1 with(fail);simp only[HW.out];go_wp2_with fail;refine HI.mono ?_;rintro _e _w ⟨rfl,rfl⟩;go_upto_region 2 with(fail);simp only[hW1.out];go_wp2_with fail;refine HWB.mono ?_;rintro _e w2 ⟨s,c2,rfl,hs,hb2⟩;obtain⟨H2,V2,S2⟩:=gC (H1.below hb2) (V1.below hb2 H1.fin) ((Sk.J (N:=N) B1 HF).trans (Sk.J hb2 H1.fin));have M2:Hid (w2.heap[N.wm]?=w.heap[N.wm]?):=aH ((hb2.block _ (zT hwm B1.size)).trans (B1.block _ hwm));have HS:=aH hs;clear hb2 hs y1 f1 HI;clear z0 z1 z2 z3 z4 z5 z6 z7 z8 z9 z10 z11 z12 z13 z14;by_cases hc:c2=0
 case neg=>
  have hcb:(c2==0)=false:=by simpa using hc
  go_wp2_with fail;go_end0;exact⟨⟨rfl,o,H2.more (T':=0) (by omega),S2⟩,M2⟩
 subst hc;have HLO:=aH (HS rfl);clear HS;go_wp2_with fail;go_loopw[22] (fun vi wr=>∃(k:Nat) (ok:Ow),k<=l.length/\vi=I6 k/\aE E Rf N T (B+k) hand rsv ok wr/\RI aC ok wr (.slice A l.length c) l/\Sk N o w ok wr/\wr.heap[N.wm]?=w.heap[N.wm]?) (fun vi _=>l.length - (intOf vi).toNat)
 case atStart=>exact⟨0,o,by omega,rfl,H2,V2,S2,M2⟩
 case round=>
  obtain⟨k,ok,hk,rfl,hn,hr,hst,hwmk⟩:=hrel;obtain⟨A4,A1,A2,A3⟩:=gD hwmk hn hr hst;by_cases hlt:k < l.length
  ·obtain⟨g,og,rfl,hcell⟩:=hr.rw.at_ (zA hlt);have c0:Ce wr g (og+k) (I6 l[k]):=by have:=hcell 0 _ rfl;simpa[aC]using this
   generalize l[k]=dst at c0;obtain⟨next,hL,hN⟩:=hn.rest;obtain⟨dead,vr,vl,reps,lets,ws,qc,hv⟩:=hN.v;obtain⟨AL,cL,rfl,_⟩:=hv.let_.rw.slice;have kd:=EJ hv.blk;have y16:=EJ hv.blk;have hlt0:N.nb < wr.heap.size:=ap hv.blk;have HID:=aH (eI (hn.below ((bD _))).ah);have hle:=hv.len;have s1:=dt hv.blk;have HLEN:Hid ((lets.length+1)*32<=140737488355328/\lets.length+1 < 1000000000000000000):=aH (by omega);have HV:=aH (zB hn (zB hL (zB hN hv)));have hnrow:∀j,(Value.slice AL lets.length cL).ownBlock=some j->N.nb≠j:=fun j e=>by
    obtain⟨cs,hx⟩:=hv.let_.1.ty e;exact aT hv.blk hx (by decide)
   have HNR:=aH hnrow;clear hn hr hst hwmk hcell hL hN hv hnrow hle;go_wp2_with fail;show(Code.region _ (_::_::_::_::Ll _::_).toArray _).wp _ _ _ _;go_region_held3 (fun w'=>Ce w' N.nb 1 (Pt N.st))
    (first|(exact s1)|(exact aD ((bD _).alloc nR _) s1)|(exact s6)|(exact am.cell (am.I b6 16 _) 1))
    ((first
     |(go_at_call 52;(with_reducible refine(HID.out).mono ?_);rintro _e _w ⟨rfl,rfl⟩)
     |(refine dQ cY rfl (.tmp 30) (.tmp 36) rfl (aI HV.2.2.2.let_.1 (((bD _)).alloc nR _)) (zS _) rfl rfl (dL cY _ ⟨(N.i:Nat),dst,s⟩) (HLEN.1) (HLEN.2) ?_;intro v6 w6 ho6 hg6 hat6;obtain⟨A6,c6,hv6,_⟩:=ho6.rw.slice;simp only[zC,zQ,qI,zR]at hv6;subst hv6
       have hg7:=eU hg6;have b6:=am.grown HV.2.2.2.blk hg7 (fun e=>HNR _ e.symm rfl);have kn6:=EJ b6;have kf6:=am.frozen b6 16;have s6:=dt b6)))
   all_goals
    obtain⟨o',q1,q2,q4⟩:=HV.1.lettered HV.2.1 HV.2.2.1 HV.2.2.2 (l:=⟨(N.i:Nat),dst,s⟩) HLO.1 ho6 hg7 (hat6.imp _root_.id fun e=>⟨_,e,by simp⟩);obtain⟨Q1,Q2,Q3,Q4⟩:=gD q1 (A3.trans (.bp HV.1 q2)) (A2.st q2 (ci HV.1.i0)) (q4.trans A4);clear q1 q2 q4 ho6 hg6 hat6 hg7 kn6 kf6 b6 s6;go_wp2_with fail;go_roundw
    case rel=>exact⟨k+1,o',hlt,by go_num,Q1,Q3,Q2,Q4⟩
    case measure=>simp[intOf];omega
  ·clear hn hr hst hwmk;go_wp2_with fail;go_end0;exact⟨⟨rfl,ok,A1.more (T':=0) (by omega),A3⟩,A4⟩
theorem fH(h:aE E Rf N T B hand rsv o w)(a:B<=1000000000){x:Wi}{wl wb wc wt wv v}{ls}{b cl}{pl}{l:List Int}(c:AC w x wl wb wc wt wv ls b cl tl pl)(f:∀m∈ls,fR E m)(hi:∀z∈ij x,bN z)(hv:RI aC o w v l)(g:l.length<=1000):
  Cs 68 #[Pt N.nb,s9 x wl wb wc wt wv,v] w (Nd E Rf N T (B+1000) hand rsv o w (.tuple #[])):=(lr h a c f hi hv g).mono fun _ _ h=>h.1
end
theorem pP:∀(l l':IM),l.map gk=l'.map gk->l=l'
 |[],[],_=>rfl
 |[],_::_,h=>by cases h
 |_::_,[],h=>by cases h
 |(a,b)::l,(c,d)::l',h=>by
  rw[jF,jF]at h
  injection h with h1 h2
  have:=pP l l' h2
  unfold gk at h1
  injection h1 with h3 h4
  injection h3 with _ h3
  simp only at h3 h4
  subst h3;subst h4;rw[this]
theorem x6{w}{m m'}(h:b4 w b m)(g:b4 w b m'):m=m':=by
 obtain⟨n,c,i,_,j⟩:=h;obtain⟨k,p,a,_,f⟩:=g;rw[i]at a;injection a with a;injection a with a _;subst a;exact pP _ _ (j.symm.trans f)
abbrev td(b:Nat):Value:=Pt b
theorem rl{k:Int}{v}(h:bE (lY ws) k=some v):∃g,(k,g)∈ws/\v=td g.blk:=by
 obtain⟨p,a,b⟩:=zV.1 (dw h);injection b with e1 e2;subst e1;subst e2;exact⟨p.2,a,rfl⟩
theorem DW(ws:List (Int×Qg))(k:Int):eg (lY ws) k=lY (ws.filter fun p=>!(p.1==k)):=by
 unfold eg lY;rw[List.filter_map];rfl
theorem DX(ws:List (Int×Qg))(k:Int)(g:Qg):∃ws',dI (lY ws) k (td g.blk)=lY ws'/\∀p∈ws',p=(k,g)\/(p∈ws/\p.1≠k):=by
 unfold dI;split
 ·refine⟨ws.map fun p=>if p.1==k then(k,g)else p,?_,fun p hp=>?_⟩
  ·unfold lY;rw[List.map_map,List.map_map];refine List.map_congr_left fun p _=>?_;simp only[Function.comp];by_cases e:p.1=k
   ·simp[e]
   ·simp[e]
  ·obtain⟨q,a,rfl⟩:=zV.1 hp;by_cases e:q.1=k
   ·exact .inl (by simp[e])
   ·exact .inr (by simp[e];exact a)
 ·rename_i h;refine⟨ws++[(k,g)],by unfold lY;simp,fun p hp=>?_⟩;rcases zK.1 hp with hp|hp
  ·refine .inr ⟨hp,fun e=>h ?_⟩;rw[yM];exact⟨(p.1,td p.2.blk),zV.2 ⟨p,hp,rfl⟩,by simpa using e⟩
  ·exact .inl (by simpa using hp)
section
variable{hand':Option Nat}{o1 o2:Ow}{w2:World}{ws ws':List (Int × Qg)}{g':Qg}
theorem gy.wait(h:gy Rf ws reps (some g.ref))(hw:∀p∈ws',p=(seq,g)\/(p∈ws/\p.1≠seq)):gy Rf ws' reps none:={
 one p hp q hq e:=by
  rcases hw p hp with rfl|⟨hp,_⟩
  ·rcases hw q hq with rfl|⟨hq,_⟩
   ·rfl
   ·exact absurd e.symm ((h.hw _ rfl).2.1 q hq)
  ·rcases hw q hq with rfl|⟨hq,_⟩
   ·exact absurd e ((h.hw _ rfl).2.1 p hp)
   ·exact h.one p hp q hq e
 rn:=h.rn
 wr p hp r hr:=by
  rcases hw p hp with rfl|⟨hp,_⟩
  ·exact(h.hw _ rfl).2.2 r hr
  ·exact h.wr p hp r hr
 rr:=h.rr
 hw k e:=by cases e}
theorem gy.done(h:gy Rf ws reps none)(a:(seq,g)∈ws)(hr:Rf g.ref):gy Rf (ws.filter fun p=>!(p.1==seq)) reps (some g.ref):={
 one p hp q hq e:=h.one p (qV.1 hp).1 q (qV.1 hq).1 e
 rn:=h.rn
 wr p hp r hr:=h.wr p (qV.1 hp).1 r hr
 rr:=h.rr
 hw k e:=by
  injection e with e
  subst e
  refine⟨hr,fun p hp e=>?_,fun r hr=>h.wr _ a r hr⟩
  have b:=(qV.1 hp).2
  have c:=h.one p (qV.1 hp).1 _ a e
  simp at b
  exact b c}
theorem eT.ref_eq(h:eT E Rf i o w g)(f:eT E Rf i o w g')(e:g.blk=g'.blk):g.ref=g'.ref:=by
 obtain⟨r,j,k,_,_⟩:=h.cells;obtain⟨n,c,m,_,_⟩:=f.cells;have a:=am.cell k 1;have b:=am.cell m 1;rw[e,b]at a;injection a with a;injection a with _ a;omega
theorem aE.wm_(h:aE E Rf N T B hand rsv o w)(n:gx E N next rsv o w)(f:e7 E Rf N B hand next rsv o w)(hv:xX E Rf N B hand next o w dead vr vl reps lets ws qc)(b:aW N.wm w w')(q:b4 w' N.wm (lY ws'))(s:gy Rf ws' reps hand')(j:∀p∈ws',bN p.1/\eT E Rf N.i o w p.2):
  aE E Rf N T B hand' rsv o w'/\St (·=(N.i,N.nb)) o w o w'/\cN N.i o w o w':=by
 have a:St (·=(N.i,N.nb)) o w o w':=.U b f.owm h.fin;have t:=ci (r:=N.nb) h.i0;have g:cN N.i o w o w':=cN.an a h.roots.nb (by decide) (by decide) (by decide);have m:cX (·=N.wm) w w':=cX.U b rfl;refine⟨h.bx a n (f.of a ⟨hv.blk.only b (dG hv.wm hv.blk).symm,hv.rep.av m a fun k e ek=>?_,hv.let_.av m a fun k e ek=>?_,hv.len,hv.rok,hv.lok,s,q,fun p hp=>⟨(j p hp).1,(j p hp).2.st a t g⟩,hv.cm.only b f.ne.symm,fun p hp=>?_⟩),a,g⟩
 ·subst ek;obtain⟨cs,i⟩:=hv.rep.1.ty e;exact dG hv.wm i rfl
 ·subst ek;obtain⟨cs,i⟩:=hv.let_.1.ty e;exact dG hv.wm i rfl
 ·obtain⟨c,part,d,rc,u,x,y⟩:=hv.cok p hp;exact⟨c,part,d,rc,u,x,g.cla d rc c y⟩
def eX(N:Nb)(seq:Int)(b:Nat)(w:World):Prop:=∃m,b4 w N.wm m/\bE m seq=some (td b)
theorem pQ(m:Int)(h:aE E Rf N T B (some g.ref) rsv o w)(G:eT E Rf N.i o w g)(hi:bN seq):
  Cs 280 #[Pt N.nb,I6 seq,I6 m,Pt g.blk] w fun e w'=>Rt e (.tuple #[])/\∃o',aE E Rf N T B none rsv o' w'/\St (fun y=>y.1=N.i) o w o' w'/\cN N.i o w o' w':=by
 obtain⟨next,H,q⟩:=h.rest;obtain⟨dead,vr,vl,reps,lets,ws,qc,hv⟩:=q.v;have Z:=iz hv.blk;obtain⟨ws',s,i⟩:=DX ws seq g;obtain⟨w1,hu,u,I⟩:=hv.wm.update (P:=prog) (t:=86) (kt:=3) (et:=144) (by kernel_rfl) (by kernel_rfl) seq (td g.blk);rw[s]at u;obtain⟨a,J,L⟩:=h.wm_ H q hv I u (hv.refs.wait i) (fun p hp=>by
  rcases i p hp with rfl|⟨hp,_⟩
  ·exact⟨hi,G⟩
  ·exact hv.wok p hp)
 have b:Bw w1 w1.drew:=bD _;have j:=a.below b;obtain⟨n,x,z⟩:=j.due;have A:Ce w1 N.nb 11 (Pt N.due):=a.cells.due;have M:Ce w1 N.nb 6 (I6 N.c5):=a.cells.c5;obtain⟨O,C,R,S⟩:=gD (fun at_=>BO n o N.due (N.i,N.due) at_ seq w1.drew z j.fin x) j ((gz J).trans (St.J b a.fin)) (L.trans (cN.below b a.fin));apply cI;go_in;go_upto_region 1 with(fail);go_region_held3 (fun w'=>Ce w' N.nb 11 (Pt N.due)/\Ce w' N.nb 6 (I6 N.c5))
  (first|exact⟨A,M⟩|exact⟨k.cells.due,k.cells.c5⟩)
  (first|(go_at_call 358;(with_reducible refine(O.out _).mono ?_);rintro _e w3 ⟨⟨c,rfl⟩,n3,U,D,F,f⟩;have k:=C.due_ f D F))
 all_goals
  obtain⟨V,X,Y⟩:=gC k (R.trans (gz f)) (S.trans (cN.an f C.roots.due (by decide) (by decide) (by decide)));go_wp2;go_end0;exact⟨rfl,U,V,X,Y⟩
theorem gK(h:aE E Rf N T B none rsv o w)(C:eT E Rf N.i o w g)(D:eX N seq g.blk w):
  Cs 114 #[Pt N.nb,I6 seq] w fun e w'=>Rt e (.tuple #[])/\∃o',aE E Rf N T B (some g.ref) rsv o' w'/\St (fun y=>y.1=N.i) o w o' w'/\cN N.i o w o' w':=by
 obtain⟨next,F,i⟩:=h.rest;obtain⟨dead,vr,vl,reps,lets,ws,qc,hv⟩:=i.v;have Y:=iz hv.blk;obtain⟨m,k,G⟩:=D;obtain rfl:=x6 k hv.wm;obtain⟨g',a,q⟩:=rl G;have s:g.blk=g'.blk:=by injection q with e;injection e with e;injection e
 have f:g.ref=g'.ref:=C.ref_eq (hv.wok _ a).2 s;obtain⟨w1,hu,u,H⟩:=hv.wm.delete (P:=prog) (t:=86) (kt:=3) (et:=144) (by kernel_rfl) (by kernel_rfl) seq 0;rw[DW]at u;obtain⟨b,I,J⟩:=h.wm_ F i hv H u (hv.refs.done a (hv.wok _ a).2.rf) (fun p hp=>hv.wok p (qV.1 hp).1);rw[<-f]at b;obtain⟨n,Z,x⟩:=b.due;have ha:Ce w1 N.nb 11 (Pt N.due):=b.cells.due;obtain⟨j,L,_,_,_,_,_,_,_,_,_,M⟩:=k7 n o N.due (N.i,N.due) seq w1 x b.fin (by omega);obtain⟨O,z,R,S⟩:=gD M b (gz I) J;apply cI;go_in;go_wp2_with fail;refine O.mono ?_;rintro _e w3 ⟨rfl,A,c⟩;obtain⟨U,V,X⟩:=gC (z.due_ c (show(if L then n - 1 else n)<=4096 by split<;>omega) A) (R.trans (gz c)) (S.trans (cN.an c z.roots.due (by decide) (by decide) (by decide)));go_wp2;go_end0;exact⟨rfl,o,U,V,X⟩
end
def F5(E:bX)(Rf:Nat->Prop)(N:Nb)(o:Ow)(w:World)(seq:Int):Prop:=
 (Instr.lookup 86 (.map (some N.wm)) (I6 seq) true).run prog w=.ok (.tuple #[.pointer none,.bool false]) w\/
 ∃g,(Instr.lookup 86 (.map (some N.wm)) (I6 seq) true).run prog w=.ok (.tuple #[Pt g.blk,.bool true]) w/\eT E Rf N.i o w g/\eX N seq g.blk w/\bN seq
theorem aE.find(h:aE E Rf N T B hand rsv o w)(seq:Int):F5 E Rf N o w seq:=by
 obtain⟨next,f,c⟩:=h.rest;obtain⟨dead,vr,vl,reps,lets,ws,qc,hv⟩:=c.v;have a:=hv.wm.lookup (P:=prog) (t:=86) (kt:=3) (et:=144) (by kernel_rfl) (by kernel_rfl) (z:=.pointer none) (by kernel_rfl) seq;cases hg:bE (lY ws) seq with
 |none=>rw[hg]at a;exact .inl a.1
 |some v=>
  obtain⟨g,b,rfl⟩:=rl hg;rw[hg]at a;exact .inr ⟨g,a.1,(hv.wok _ b).2,⟨_,hv.wm,hg⟩,(hv.wok _ b).1⟩
theorem aE.owm(h:aE E Rf N T B hand rsv o w):o N.wm=(N.i,N.nb):=by obtain⟨next,b,a⟩:=h.rest;exact a.owm
theorem eX.st{p}(a:eX N seq b w)(c:St p o w o' w')(f:o N.wm=(N.i,N.nb))(g:¬p (N.i,N.nb)):eX N seq b w':=by
 obtain⟨m,h,i⟩:=a;exact⟨m,h.st c (by rw[f];exact g),i⟩
theorem eX.below(a:eX N seq b w)(c:Below w.heap.size w w'):eX N seq b w':=by
 obtain⟨m,f,g⟩:=a;exact⟨m,f.below c,g⟩
theorem eT.below(b:eT E Rf N.i o w g)(hf:aX o w)(a:Below w.heap.size w w'):eT E Rf N.i o w' g:=b.st (p:=fun _=>False) (.J a hf) _root_.id (cN.below a hf)
theorem kJ(m:Int)(h:aE E Rf N T B none rsv o w)(hk:BU m):
  Cs 83 #[Pt N.nb,I6 seq,I6 m] w (Nd E Rf N T B none rsv o w (.tuple #[])):=by
 have hh:Ce w N.nb 10 (.map (some N.wm)):=h.cells.wm;rcases h.find seq with hlk|⟨g,hlk,hq,hw,hi⟩
 ·have H:=aH h;clear h;apply cI;go_in;go_wp2_with fail;go_end0;exact⟨rfl,o,H,.refl H.fin⟩
 obtain⟨r,R,G,J,x⟩:=hq.cells;have s:=ef G;cases htl:g.tl with
 |none=>
  rw[htl]at s;have L:Ce w g.blk 3 (.pointer none):=s;have H:=aH h;clear h hq hw G J x s;apply cI;go_in;go_wp2_with fail;go_end0;exact⟨rfl,o,H,.refl H.fin⟩
 |some t=>
  rw[htl]at s;have L:Ce w g.blk 3 (Pt t):=s;have I:=aH (hq.tal t htl);obtain⟨HY,M,y,H,HQ,ha,O⟩:=gG (BV o t (N.i,t) m w I h.fin hk) (x (by rw[htl];rfl)) hq.own h hq hw G;obtain⟨cs,bI⟩:=nx (([I6 g.op,I6 (g.ref:Nat),I6 (g.part:Nat),dS g.tl,dS (g.cl.map (·.1))]++oM r++R).toArray);have hj:=aH bI;clear h hq hw G J x s bI;apply cI;go_in;go_wp2_with fail;refine HY.mono ?_;rintro u w1 ⟨⟨t1,rfl⟩,j,f⟩;have q:cN N.i o w o w1:=cN.de f I j;have h1:=H.tal_ I f j;have z:=(q.que _ _ y O).2;have d3:Ce w1 g.blk 3 (Pt t):=ea L (z.trans O.symm);obtain⟨hc,S,Q1,W1,S1,T1,B1⟩:=gG (y7 o t (N.i,t) w1 j) h1 (HQ.st f (ci H.i0) q) (ha.st f H.owm (aV (H.roots.nb.ne I.ty (by decide)))) (show Sk N o w o w1 from⟨gz f,q⟩) j z;clear j f q h1 z;go_wp2_with fail;refine hc.mono ?_;rintro u w2 ⟨⟨t2,rfl⟩,c⟩;obtain⟨A,Q2,W2,U,T2,V⟩:=gF (S.below c) (Q1.below S.fin c) (W1.below c) (S1.trans (Sk.J c S.fin)) (T1.below c) (B1.below c);have e3:=aD c d3;have e0:=ce V;clear c d3;by_cases hop:g.op=5
  ·have d5:(g.op==5)=true:=by simpa using hop
   have HM:=aH (y8 o t (N.i,t) w2 T2);go_wp2_with fail;refine HM.mono ?_;rintro u w3 ⟨⟨t3,rfl⟩,i⟩;obtain⟨H3,Q3,W3,S3,B3⟩:=gE (A.below i) (Q2.below A.fin i) (W2.below i) (U.trans (Sk.J i A.fin)) (V.below i);clear i e3 e0;cases t3
   ·go_wp2_with fail;go_end0;exact⟨rfl,o,H3,S3⟩
   ·have X:=aH (gK H3 Q3 W3);have Y:=B3;go_wp2_with fail;refine X.mono ?_;rintro u w5 ⟨rfl,o5,n,C,p⟩;have k:=(p.que _ _ y Y).2;have b:Bw w5 w5.drew:=bD _;have a:=k.below b;have c1:=dt a;have c5:=e9 a;have c6:=fa a;have c7:=fb a;have c8:=ma a;have c9:=rz a;have hd:=iz a;have he:=iA a;have hf:=iB a;have hg:=jp a;obtain⟨Z,S5⟩:=gB (dH (n.below b) r (M)) (S3.trans (Sk.trans ⟨C,p⟩ (Sk.J b n.fin)));clear n C p k a b;go_wp2_with fail;refine aN 9 (by kernel_rfl) (by kernel_rfl) ?_;simp only[zF,zN,zG,zO];repeat still_step
    refine wpStill_nil ?_;go_wp2_with fail;refine Z.mono ?_;rintro u w6 ⟨rfl,o6,D,F⟩;obtain⟨H6,S6⟩:=gB D (S5.trans F);clear D F;go_wp2_with fail;go_end0;exact⟨rfl,o6,H6,S6⟩
  ·have d5:(g.op==5)=false:=by simpa using hop
   cases t2
   ·go_wp2_with fail;go_end0;exact⟨rfl,o,A,U⟩
   ·have X:=aH (gK A Q2 W2);have Y:=V;go_wp2_with fail;refine X.mono ?_;rintro u w5 ⟨rfl,o5,n,C,p⟩;have k:=(p.que _ _ y Y).2;have b:Bw w5 w5.drew:=bD _;have a:=k.below b;have c1:=dt a;have c5:=e9 a;have c6:=fa a;have c7:=fb a;have c8:=ma a;have c9:=rz a;have hd:=iz a;have he:=iA a;have hf:=iB a;have hg:=jp a;obtain⟨Z,S5⟩:=gB (dH (n.below b) r (M)) (U.trans (Sk.trans ⟨C,p⟩ (Sk.J b n.fin)));clear n C p k a b;go_wp2_with fail;refine aN 9 (by kernel_rfl) (by kernel_rfl) ?_;simp only[zF,zN,zG,zO];repeat still_step
    refine wpStill_nil ?_;go_wp2_with fail;refine Z.mono ?_;rintro u w6 ⟨rfl,o6,D,F⟩;obtain⟨H6,S6⟩:=gB D (S5.trans F);clear D F;go_wp2_with fail;go_end0;exact⟨rfl,o6,H6,S6⟩
def bB(w:World)(b:Nat):Nat->List Value->World
 |_,[]=>w
 |i,v::vs=>bB (w.setCell ⟨b,i,none⟩ v) b (i+1) vs
theorem pR:∀(vs:List Value) (w:World) (cs:Array Value) (n i:Nat),am w b t cs->(∀v∈vs,v.oneCell'=true)->n+i+vs.length<=cs.size->(storeCells ⟨b,n,none⟩ vs i).run prog w=.ok () (bB w b (n+i) vs)
 |[],w,cs,n,i,_,_,_=>by simp[storeCells,bB,go_sem]
 |v::vs,w,cs,n,i,h,ho,hl=>by
  have g:=am.I h (n+i) v
  have j:=pR vs _ _ n (i+1) g (fun u a=>ho u (qF _ a)) (by simp at hl ⊢;omega)
  have hf:=am.frozen h (n+i)
  have k:∃u,w.cell? ⟨b,n+i,none⟩=some u:=by
   simp at hl;exact⟨cs[n+i],by rw[am.cell h];exact Array.getElem?_eq_getElem (by omega)⟩
  obtain⟨u,a⟩:=k;have hv:=ho v jO;unfold storeCells bB;have m:(⟨b,n,none⟩:Addr).add i=⟨b,n+i,none⟩:=by
   unfold Addr.add;split
   ·rename_i h0;have c:i=0:=by simpa using h0
    subst c;rfl
   ·rfl
  rw[show n+i+1=n+(i+1) by omega,<-j,m];have f:(store ⟨b,n+i,none⟩ v).run prog w=.ok () (w.setCell ⟨b,n+i,none⟩ v):=by
   rw[run_store prog w _ v _ hv];simp[hf,a]
  simp[go_sem,f]
theorem eb:∀(vs:List Value) (w:World) (i:Nat),aW b w (bB w b i vs)
 |[],_,_=>cJ
 |v::vs,w,i=>aA (aB w b i v) (eb vs _ _)
theorem am.au{post}:∀(vs old pre:List Value) (w:World),old.length=vs.length->am w b t (pre++old++post).toArray->am (bB w b pre.length vs) b t (pre++vs++post).toArray
 |[],[],pre,w,_,h=>h
 |v::vs,o::old,pre,w,hl,h=>by
  have a:=am.I h pre.length v
  rw[zW]at a
  have e:(pre++o::old++post).set pre.length v=(pre++[v])++old++post:=by
   rw[zH,yW _ _ nR,Nat.sub_self];simp
  rw[e]at a;have c:=am.au vs old (pre++[v]) _ (by simpa using hl) a;rw[zC]at c;simpa[bB]using c
theorem am.az{w}(h:am w b t cs)(vs:List Value)(a:cs.size=vs.length):am (bB w b 0 vs) b t vs.toArray:=by
 have:=am.au (post:=[]) vs cs.toList [] w (by simpa using a) (by simpa using h);simpa using this
theorem dV{ops:Array Oper}{rest:List Oper}{o:Oper}{a:Act}{Q:Exit->Act->World->Prop}{w}{vs:List Value}(c:o.guard=none)(ty:TypeId)(p x:Tmp)(f:o.op=.store ty (.tmp p) (.tmp x))(hd:o.dst=none)
  (g:a.tmps[p]?.getD undef=.pointer (some ⟨b,n,none⟩)) (h:a.tmps[x]?.getD undef=.agg vs.toArray) (i:∀w,(sizeOf ty).run prog w=.ok vs.length w) (j:am w b t cs) (hv:∀v∈vs,v.oneCell'=true) (k:n+vs.length<=cs.size)
  (H:wpList prog ops Q rest a (bB w b n vs)):wpList prog ops Q (o::rest) a w:=by
 refine wpList_plain c fun K hK=>?_;have m:=pR vs w cs n 0 j hv k;unfold Oper.wp;simp[execOp,f,g,h,i,go_sem,m];rw[hd];exact hK _ _ H
def fj:List Value:=[I6 0,I6 0,I6 0,I6 0,I6 0,.string (aF []),aS,aS,aS,aS,aS,I6 0,I6 0,I6 0,I6 0]
def eY(b:Int)(k part:Nat)(tl:Value)(r:Rp)(a:List Value):Array Value:=([I6 b,I6 (k:Nat),I6 (part:Nat),tl,.pointer none]++oM r++a).toArray
def Ns(E:bX)(Rf:Nat->Prop)(N:Nb)(T B:Nat)(hand:Option Nat)(rsv:List Int)(o:Ow)(w:World)(v:Value)(e:Ending)(w':World):Prop:=Rt e v/\∃o',aE E Rf N T B hand rsv o' w'/\St (fun y=>y.1=N.i) o w o' w'
theorem Nd.ns{v}{e}(h:Nd E Rf N T B hand rsv o w v e w'):Ns E Rf N T B hand rsv o w v e w':=by
 obtain⟨a,o',b,c⟩:=h;exact⟨a,o',b,c.s⟩
theorem aE.fresh(h:aE E Rf N T B (some k) rsv o w)(A:dK w b 207)(C:Ce w b 1 (I6 (k:Nat)))(a:St (·=(N.i,b)) o w o' w'):aE E Rf N T B (some k) rsv o' w':=by
 have R:=h.roots;have s:=ci (r:=b) h.i0;obtain⟨n,x,y⟩:=h.due;obtain⟨next,D,g⟩:=h.rest;have i:∀{r t},dK w r t->t≠207->¬((N.i,r)=(N.i,b)):=fun hr m=>aV (hr.ne A m);refine⟨a.far,h.i0,h.i9,eN.st h.tab a s,h.kok,h.cs,⟨n,x,y.st a (i R.due (by decide))⟩,h.hd.st a (i R.hd (by decide)),⟨h.wt.1,h.wt.2.st a (i R.wt (by decide)) s⟩,h.cfg,next,D.st a s (i R.lg (by decide)) (i R.dk (by decide)) (i R.st (by decide)),?_⟩;obtain⟨dead,vr,vl,reps,lets,ws,qc,a1,a2,a3,a4,a5,a6,a7,a8,a9,a10,a11⟩:=g.all;have j:=i R.nb (by decide);refine⟨by rw[a.old _ (ap a1)];exact g.onb,by rw[a.old _ a8.lt];exact g.owm,by rw[a.old _ a10.lt];exact g.ocm,g.ne,g.num,g.rsv1,g.rsvN,g.pos,dead,vr,vl,reps,lets,ws,qc,a1.st a (by rw[g.onb];exact j),a2.st a j,a3.st a j,a4,a5,a6,a7,
  a8.st a (by rw[g.owm];exact j),fun q hq2=>⟨(a9 q hq2).1,?_⟩,a10.st a (by rw[g.ocm];exact j),fun q hq2=>?_⟩
 ·have f:=(a9 q hq2).2;obtain⟨r,u,c1,c2,c3⟩:=f.cells;have m:q.2.blk≠b:=fun e=>by
   have p:=am.cell c1 1;rw[e,C]at p;injection p with p;injection p with _ p;exact(a7.hw k rfl).2.1 q hq2 (by omega)
  exact⟨by rw[a.old _ (ap c1)];exact f.own,f.part,f.rf,⟨r,u,c1.st a (by rw[f.own];exact aV m),c2.st a s,c3⟩,fun t e=>(f.tal t e).st a (i (f.tal t e).ty (by decide)),fun c d rc e=>⟨(f.cla c d rc e).1.st a (i (f.cla c d rc e).1.ty (by decide)),(f.cla c d rc e).2⟩,f.one⟩
 ·obtain⟨c,part,d,rc,F,G,z⟩:=a11 q hq2;exact⟨c,part,d,rc,F,G,z.st a (i z.ty (by decide))⟩
theorem dK.lt(h:dK w r t):r < w.heap.size:=by obtain⟨cs,h⟩:=h;exact ap h
theorem cN.bu(g:w.heap.size<=r)(f:St (·=(i,r)) o w o' w'):cN i o w o' w':=
 ⟨fun t a=>a.st f (aV (by have:=a.ty.lt;omega)),fun d rc c a=>a.st f (aV (by have:=a.ty.lt;omega)),fun b cs ho a=>⟨by rw[f.old _ (ap a)];exact ho,a.st f (by rw[ho];exact aV (by have:=ap a;omega))⟩⟩
theorem aE.bu(h:aE E Rf N T B hand rsv o w)(b:w.heap.size<=r)(a:St (·=(N.i,r)) o w o' w'):aE E Rf N T B hand rsv o' w'/\Sk N o w o' w':=by
 have R:=h.roots;have lt:∀{q t},dK w q t->q≠r:=fun hq e=>by have:=hq.lt;omega
 exact⟨h.aj a (.inl (lt R.due)) (.inl (lt R.hd)) (.inl ⟨lt R.wt,rfl⟩) (lt R.lg) (lt R.dk) (lt R.st) (lt R.nb) (cN.bu b a),gz a,cN.bu b a⟩
def F6(seq:Int)(part:Nat)(vl vb vc:Value):List Value:=[I6 1,I6 0,I6 seq,I6 (part:Nat),I6 0,.string (aF []),vl,vb,vc,aS,aS,I6 0,I6 0,I6 0,I6 0]
theorem lP{op:Int}{r:Rp}{vl vb vc}{lb lc:List bC}(hm:Int)(h:aE E Rf N T B (some k) rsv o w)(hB:B<=900000000)(ob:o b=(N.i,b))(hq:am w b 207 (eY op k part (.pointer none) r fj))(hp:part < 16)(hr:fE E N.i {r with ref:=(k:Nat)})
  (r1:RI aU o w vl ls) (r2:RI aJ o w vb lb) (r3:RI aJ o w vc lc) (hf:fC ls lb lc) (hn:ls.length<=8000/\lb.length+lc.length<=8000) (hM:∀m∈ls,fR E m) (hg:(c6 ls lb lc).length<=900000) (hi:bN seq):
  Cs 273 #[Pt N.nb,I6 seq,I6 hm,.agg #[vl,vb,vc],Pt b] w (Ns E Rf N T (B+1000) none rsv o w (.tuple #[])):=by
 obtain⟨Aa,ca,rfl,_⟩:=r1.rw.slice;obtain⟨Ab,J,rfl,_⟩:=r2.rw.slice;obtain⟨Ac,L,rfl,_⟩:=r3.rw.slice;obtain⟨W0,HW,HB,x0⟩:=dW w #[.slice Aa ls.length ca,.slice Ab lb.length J,.slice Ac lc.length L] 131;have i:Bw w W0.drew:=HB.drew;have hd:=aH (h.below i);have a2:=ed (hq.below i);have xd:am W0.drew w.heap.size 131 #[.slice Aa ls.length ca,.slice Ab lb.length J,.slice Ac lc.length L]:=x0;obtain⟨a3,a4,a5⟩:=am.three xd;obtain⟨HJ,XD,QD,R1,R2,R3,OB,S0⟩:=gH (ii hd hp ⟨r1.rw.below i,r2.rw.below i,r3.rw.below i⟩ hf hM hg) xd (hq.below i) (r1.below i h.fin) (r2.below i h.fin) (r3.below i h.fin) ob (Sk.J (N:=N) i h.fin);obtain⟨F,HR,hF⟩:=gC (zB hf (zB hn hM)) hr h.fin;have xu:=ap hq;clear h hq hr r1 r2 r3 hf hn hM hg ob x0 xd i;apply cI;go_in;go_upto_region 1 with(fail);simp only[HW.out];refine aN 6 (by kernel_rfl) (by kernel_rfl) ?_;simp only[zF,zN,zG,zO];repeat still_step
 refine wpStill_nil ?_;go_wp2_with fail;refine HJ.mono ?_;rintro Y w1 ⟨t,rfl,o1,h1,O⟩;have hb:¬((0,0):Nat×Nat).1=N.i:=fun e=>hd.i0 e.symm;obtain⟨ho,q1⟩:=O.k.que _ _ OB QD;obtain⟨R,S1,hY,Q1,hh,X1,hZ,h0⟩:=gH h1 (S0.trans O) ho q1 (show o1 w.heap.size=(0,0) by rw[O.s.old _ (ap XD)];exact hF _ nR) (XD.st O.s (by rw[hF _ nR];exact hb)) (R1.st O.s hb) (R2.st O.s hb);have h2:=aH (R3.st O.s hb);clear h1 O ho q1 a2 a3 a4 a5;cases t
 ·go_wp2_with fail;go_end0;exact⟨rfl,o1,(R.bf).more (T':=0) (by omega),S1.s⟩
 have a2:=ed Q1;have xa:=aH (iX (part:Int) R);go_wp2_with fail;refine xa.mono ?_;rintro Y w2 ⟨l2,⟨v2,rfl,hc,D⟩,hs,_⟩;obtain⟨A2,c2,rfl,_⟩:=hc.rw.slice;obtain⟨Z,S2,Q2,V2⟩:=gD (R.below D) (S1.trans (.J D R.fin)) (Q1.below D) (RI.aa (o:=o1) hc R.fin);have y3:=Z.cells.c2;obtain⟨xb,X2,xc,xe,xf⟩:=gE (BY N.c2 w2 hc.rw hs Z.cfg.1 o1 Z.fin N.i Z.i0) (X1.below D) (hZ.below D R.fin) (h0.below D R.fin) (h2.below D R.fin);clear hc D a2;go_wp2_with fail;refine xb.mono ?_;rintro Y w3 ⟨G,o3,rfl,ht,hj,A⟩;obtain⟨h3,s3⟩:=Z.bu ht A;obtain⟨hk,q3⟩:=s3.k.que _ _ hY Q2;have d3:=ef q3;have xv:=am.frozen q3 3;have u:St (·=(N.i,b)) o3 w3 o3 (w3.setCell ⟨b,3,none⟩ (Pt G)):=.U (aB w3 b 3 _) hk h3.fin;have S:=h3.fresh ⟨_,q3⟩ (am.cell q3 1) u;have q4:am (w3.setCell ⟨b,3,none⟩ (Pt G)) b 207 (eY op k part (Pt G) r fj):=am.I q3 3 (Pt G);have hu:G≠b:=fun e=>by have:=hj.ty;subst e;exact this.ne ⟨_,q3⟩ (by decide) rfl
 have U:=ci (r:=G) Z.i0;have V:=ci (r:=b) Z.i0;obtain⟨W4,hw⟩:=nM (w3.setCell ⟨b,3,none⟩ (Pt G));rw[hw]at u S q4;have C:Bw W4 W4.drew:=bD _;obtain⟨X4,X,H4,T4,S4,V4,hx,hy⟩:=gH (((X2.st A (by rw[hh];exact U)).st u (by rw[A.old _ (ap X2),hh];exact V)).below C) (q4.below C) (S.below C) ((hj.st u (aV hu)).below C) ((S2.trans s3).s.trans ((u.mono fun y e=>by rw[e]).trans (St.J (p:=fun y=>y.1=N.i) C S.fin))) (((V2.st A U).st u V).below C S.fin) (((xc.st A U).st u V).below C S.fin) (((xe.st A U).st u V).below C S.fin);obtain⟨hA,he,xg⟩:=gC (((xf.st A U).st u V).below C S.fin) hk (show o3 w.heap.size=(0,0) by rw[A.old _ (ap X2)];exact hh);obtain⟨a3,a4,a5⟩:=am.three X4;have a2:=ed X;have hl:aW b W4.drew (bB W4.drew b 14 [I6 1,I6 0,I6 seq,I6 (part:Nat),I6 0,.string (aF []),.slice Aa ls.length ca,.slice Ab lb.length J,.slice Ac lc.length L,aS,aS,I6 0,I6 0,I6 0,I6 0]):=eb _ _ _;have q5:am (bB W4.drew b 14 [I6 1,I6 0,I6 seq,I6 (part:Nat),I6 0,.string (aF []),.slice Aa ls.length ca,.slice Ab lb.length J,.slice Ac lc.length L,aS,aS,I6 0,I6 0,I6 0,I6 0]) b 207 (eY op k part (Pt G) r (F6 seq part (.slice Aa ls.length ca) (.slice Ab lb.length J) (.slice Ac lc.length L))):=by
  have:=am.au (post:=[]) [I6 1,I6 0,I6 seq,I6 (part:Nat),I6 0,.string (aF []),.slice Aa ls.length ca,.slice Ab lb.length J,.slice Ac lc.length L,aS,aS,I6 0,I6 0,I6 0,I6 0] fj ([I6 op,I6 (k:Nat),I6 (part:Nat),Pt G,.pointer none]++oM r) W4.drew rfl (by rw[qU];exact X);rw[qU]at this;exact this
 clear A hj h3 s3 u S q4 q3 hk ht;go_upto_region 4 with(fail);simp only[hw.out];refine aN 10 (by kernel_rfl) (by kernel_rfl) ?_;simp only[zF,zN,zG,zO];repeat still_step
 refine wpStill_nil ?_;refine dV (vs:=[I6 1,I6 0,I6 seq,I6 (part:Nat),I6 0,.string (aF []),.slice Aa ls.length ca,.slice Ab lb.length J,.slice Ac lc.length L,aS,aS,I6 0,I6 0,I6 0,I6 0]) rfl 153 44 42 rfl rfl rfl rfl (fun w=>by kernel_rfl) X (by simp[Value.oneCell']) (by simp[eY,oM,fj]) ?_;obtain⟨W5,xh⟩:=nM (bB W4.drew b 14 [I6 1,I6 0,I6 seq,I6 (part:Nat),I6 0,.string (aF []),.slice Aa ls.length ca,.slice Ab lb.length J,.slice Ac lc.length L,aS,aS,I6 0,I6 0,I6 0,I6 0]);rw[xh]at hl q5 ⊢;have f:St (·=(N.i,b)) o3 W4.drew o3 W5:=.U hl he H4.fin;have h5:=H4.fresh ⟨_,X⟩ (am.cell X 1) f;have j:=ci (r:=b) H4.i0;have hC:eT E Rf N.i o3 W5 ⟨b,op,k,part,some G,none⟩:=by
  obtain⟨next,hL,hN⟩:=h5.rest;obtain⟨dead,vr,vl,reps,lets,ws,qc,hv⟩:=hN.v;refine⟨he,hp,(hv.refs.hw k rfl).1,⟨r,_,q5,⟨1,0,seq,(part:Nat),_,_,_,0,0,0,0,rfl,⟨ls,lb,lc,hx.st f j,hy.st f j,hA.st f j,F.2.1.1,F.2.1.2,F.2.2,F.1.b,F.1.c⟩,fun z hz=>by simp at hz;rcases hz with rfl|rfl|rfl|rfl|rfl<;>first|exact hi|(unfold bN;omega)⟩,fun _=>HR⟩,fun t e=>?_,(fun c d rc e=>by cases e),fun _=>rfl⟩;injection e with e;subst e;exact T4.st f (aV hu)
 obtain⟨xi,S5,X5,V5,xj,xk,xl,Q5⟩:=gH (pQ (g:=⟨b,op,k,part,some G,none⟩) hm h5 hC hi) (S4.trans (f.mono fun y e=>by rw[e])) (X4.st f (by rw[xg];exact j)) (V4.st f j) (hx.st f j) (hy.st f j) (hA.st f j) q5;clear hl q5 f h5 hC a2 a3 a4 a5;go_wp2_with fail;refine xi.mono ?_;rintro Y w6 ⟨rfl,o6,h6,s6,k6⟩;have H:Bw w6 w6.drew:=bD _;obtain⟨H6,S6,q,xm⟩:=gD (h6.below H) (S5.trans (s6.trans (St.J H h6.fin))) (((k6.que _ _ he Q5).2).below H) ((k6.que _ _ he Q5).1);have M:¬((0,0):Nat×Nat).1=N.i:=fun e=>hd.i0 e.symm;obtain⟨V6,xn,xo,xp⟩:=gD ((V5.st s6 M).below H h6.fin) ((xj.st s6 M).below H h6.fin) ((xk.st s6 M).below H h6.fin) ((xl.st s6 M).below H h6.fin);have hD:=ke q;have hE:=FK q;have hG:=EJ q;have hH:=Gs q;have hI:=Gt q;have hJ:=Gu q;have hK:Ce w6.drew b 20 (.slice Aa ls.length ca):=am.cell q 20;have hO:Ce w6.drew b 21 (.slice Ab lb.length J):=am.cell q 21;have hP:Ce w6.drew b 22 (.slice Ac lc.length L):=am.cell q 22;have hQ:Ce w6.drew b 23 (aS):=am.cell q 23;have hR:Ce w6.drew b 24 (aS):=am.cell q 24;have hS:Ce w6.drew b 25 (I6 0):=am.cell q 25;have hT:Ce w6.drew b 26 (I6 0):=am.cell q 26;have hU:Ce w6.drew b 27 (I6 0):=am.cell q 27;have hV:Ce w6.drew b 28 (I6 0):=am.cell q 28;have xq:=aH (dT H6.ah V6.rw hs);clear h6 s6 k6;go_wp2_with fail;go_region_held3 (fun w'=>Ce w' b 14 (I6 1)/\Ce w' b 15 (I6 0)/\Ce w' b 16 (I6 seq)/\Ce w' b 17 (I6 (part:Nat))/\Ce w' b 18 (I6 0)/\Ce w' b 19 (.string (aF []))/\Ce w' b 20 (.slice Aa ls.length ca)/\Ce w' b 21 (.slice Ab lb.length J)/\Ce w' b 22 (.slice Ac lc.length L)/\Ce w' b 23 (aS)/\Ce w' b 24 (aS)/\Ce w' b 25 (I6 0)/\Ce w' b 26 (I6 0)/\Ce w' b 27 (I6 0)/\Ce w' b 28 (I6 0))
  (first|exact⟨hD,hE,hG,hH,hI,hJ,hK,hO,hP,hQ,hR,hS,hT,hU,hV⟩|exact⟨am.cell n 14,am.cell n 15,am.cell n 16,am.cell n 17,am.cell n 18,am.cell n 19,am.cell n 20,am.cell n 21,am.cell n 22,am.cell n 23,am.cell n 24,am.cell n 25,am.cell n 26,am.cell n 27,am.cell n 28⟩|exact⟨am.cell s 14,am.cell s 15,am.cell s 16,am.cell s 17,am.cell s 18,am.cell s 19,am.cell s 20,am.cell s 21,am.cell s 22,am.cell s 23,am.cell s 24,am.cell s 25,am.cell s 26,am.cell s 27,am.cell s 28⟩)
  (first
   |(go_at_call 70;(with_reducible refine(xq.out).mono ?_);rintro Y w7 ⟨l7,⟨v7,rfl,hX,I⟩,xr,_⟩;have h7:=H6.below I;have n:=q.below I;have hW:=RI.aa (o:=o6) hX H6.fin)
   |(go_at_call 68;(with_reducible refine(fH (x:=⟨1,0,seq,part,0,[],0,0,0,0⟩) h7 (by omega) (tl:=[]) (pl:=[]) ⟨⟨xn.out.rw.below I,xo.out.rw.below I,xp.out.rw.below I⟩,F.out.1,(RI.nil o6 _).rw,by simp,(fun a ha=>absurd ha (by simp)),(RI.nil o6 _).rw,by simp,(fun a ha=>absurd ha (by simp)),by simp⟩ F.out.2.2 (by simp[ij,bN];unfold bN at hi;omega) hW xr).mono ?_);rintro Y w8 ⟨rfl,o8,h8,s8⟩;have s:=(s8.k.que _ _ xm n).2))
 all_goals
  obtain⟨H8,S8,xs⟩:=gC h8 (S6.trans ((St.J I H6.fin).trans s8.s)) (eI h8.ah);clear h8 s8 s n h7 hW hX I hD hE hG hH hI hJ hK hO hP hQ hR hS hT hU hV;go_wp2_with fail;refine xs.mono ?_;rintro Y _w ⟨rfl,rfl⟩;have xt:=aH (kJ (seq:=seq) ((N.i:Nat):Int) H8 (by have:=H8.i0;have:=H8.i9;unfold BU;omega));go_wp2_with fail;refine xt.mono ?_;rintro Y w9 ⟨rfl,o9,h9,s9⟩;obtain⟨H9,S9⟩:=gB h9 (S8.trans s9.s);clear h9 s9;go_wp2_with fail;go_end0;exact⟨rfl,o9,H9,S9⟩
section
variable{d:bC}{c:Nat}
theorem oG{d:bC}(h:aO d=true):bN d.nd/\bN d.n:=by
 have a:=b0 h;unfold aO p3 at h;simp at h;unfold bN;omega
theorem pS(h:aE E Rf N T B hand rsv o w)(hB:B<=900000000)(I:cM d rc o w c (N.i,c))(A:Ev part d rc):
  Cs 210 #[Pt N.nb,I6 (part:Nat),Pt c] w (Nd E Rf N T (B+1000) hand rsv o w (.tuple #[])):=by
 obtain⟨HE,H,J⟩:=gC (sk I h.fin) h I;apply cI;go_in;go_wp2_with fail;refine HE.mono ?_;rintro a w1 ⟨rfl,g,i⟩;obtain⟨k,S1,C⟩:=gC (H.cx J i g) (show Sk N o w o w1 from⟨gz i,cN.cn i J g⟩) g;have y1:=k.cells.st;obtain⟨n1,hs,ht,L⟩:=k.state;have HH:=aH (eS L);go_wp2_with fail;refine HH.mono ?_;rintro a w2 ⟨l2,⟨v2,rfl,M,p⟩,O,R⟩;obtain⟨O2,S,Z2,HD⟩:=gD M p R (iQ (C.below p));go_wp2_with fail;refine HD.mono ?_;rintro a w3 ⟨rfl,q⟩;have D:=aH (S.trans (q.mono S.size));obtain⟨U,V⟩:=gB (ie (C.below D)) (pO d rc w3 (O2.rw.below q) O Z2);go_wp2_with fail;refine U.mono ?_;rintro a _w ⟨rfl,rfl⟩;go_wp2_with fail;refine V.mono ?_;rintro a w4 ⟨l4,⟨v4,rfl,X,Y⟩,Z,ha⟩;have F:=aH (D.trans (Y.mono D.size));have hd:=aH (fG (k.below F) X.rw Z ha);go_wp2_with fail;refine hd.mono ?_;rintro a w5 ⟨t,rfl,f,h5,s5⟩;obtain⟨m,S5,G⟩:=gC h5 (S1.trans ((Sk.J F k.fin).trans s5)) (s5.k.cla _ _ _ (C.below F));have he:=aH (iQ G);go_wp2_with fail;refine he.mono ?_;rintro a w6 ⟨rfl,j⟩;obtain⟨B6,hf,hg⟩:=gC j (ie (G.below j)) (sj (G.below j));go_wp2_with fail;refine hf.mono ?_;rintro a _w ⟨rfl,rfl⟩;go_wp2_with fail;refine hg.mono ?_;rintro a w7 ⟨l7,⟨v7,rfl,s,hh⟩,hu,_⟩;obtain⟨A7,c7,rfl,_⟩:=s.rw.slice;have n:=aH (B6.trans (hh.mono B6.size));have hj:=aH (dT (m.below n).ah s.rw (by omega));go_wp2_with fail
 refine hj.mono ?_;rintro a w8 ⟨l8,⟨v8,rfl,u,hk⟩,hl,_⟩;obtain⟨A8,c8,rfl,_⟩:=u.rw.slice;have y:=n.trans (hk.mono n.size);have hw:=oG A.2.1;have hx:=A.2.2;have hy:=A.1;have HS:=aH (fH (x:=⟨5,0,0,part,0,[],d.nd,d.n,rc,0⟩) (m.below y) (by omega) (ls:=[]) (b:=[]) (cl:=[]) (tl:=[]) (pl:=[]) ⟨⟨(RI.nil f _).rw,(RI.nil f _).rw,(RI.nil f _).rw⟩,⟨by simp,by simp,by simp,by simp,by simp⟩,(RI.nil f _).rw,by simp,by simp,(RI.nil f _).rw,by simp,by simp,by simp⟩ (by simp) (by
  intro z hz;simp[ij]at hz;unfold bN at*;rcases hz with rfl|rfl|rfl|rfl|rfl|rfl|rfl|rfl|rfl<;>omega) (RI.aa (o:=f) u (fun b hb=>m.fin b (zD n.size hb))) hl)
 have S9:=aH (S5.trans (.J y m.fin));go_wp2_with fail;refine HS.mono ?_;rintro a hA ⟨rfl,hm,hn,ho⟩;obtain⟨hq,hr⟩:=gB hn (S9.trans ho);go_wp2;go_end0;exact⟨rfl,hm,hq,hr⟩
theorem lu(j:Int)(D:j≠0)(h:aE E Rf N T B none rsv o w)(F:B<=900000000)(a:eT E Rf N.i o w g)(G:eX N seq g.blk w)(i:g.cl=some (c,d,rc)):
  Cs 113 #[Pt N.nb,I6 seq,Pt g.blk,I6 j] w (Nd E Rf N T (B+1000) none rsv o w (.tuple #[])):=by
 obtain⟨r,I,J,ha,hc⟩:=a.cells;have L:=aH (gK h a G);have b:=a.cla c d rc i;have p:=aH b.1;have q:Hid (Ev g.part d rc):=aH ⟨a.part,by obtain⟨_,k,_,_,e,_⟩:=b.2;exact h.kok.ok _ _ e,b.2.1⟩;obtain⟨s,t,H,u⟩:=gD J a.own h i;apply cI;go_in;go_wp2_with fail;refine L.mono ?_;rintro x w1 ⟨rfl,o1,m,M,n⟩;have hd:Bw w1 w1.drew:=bD _;obtain⟨y,O⟩:=n.que _ _ t s;have f:=O.below hd;have c2:=am.cell f 2;have c4:Ce w1.drew g.blk 4 (Pt c):=by
  have:Ce w1.drew g.blk 4 (dS (g.cl.map (·.1))):=am.cell f 4;rw[u]at this;exact this
 obtain⟨R,H1,S,z,U⟩:=gE (pS (m.below hd) F ((n.cla _ _ _ p).below hd) q) (m.below hd) f y (Sk.trans ⟨M,n⟩ (.J hd m.fin));go_wp2;refine aN 9 (by kernel_rfl) (by kernel_rfl) ?_;simp only[zF,zN,zG,zO];repeat still_step
 refine wpStill_nil ?_;go_wp2_with fail;refine R.mono ?_;rintro x w2 ⟨rfl,o2,V,A⟩;obtain⟨hf,f⟩:=A.k.que _ _ z S;have c1:=am.cell f 1;obtain⟨C,X⟩:=gB (bY V j D) (U.trans A);go_wp2_with fail;refine C.mono ?_;rintro x w3 ⟨rfl,Y,Z,s3⟩;obtain⟨H3,S3⟩:=gB Z (X.trans s3);go_wp2;go_end0;exact⟨rfl,Y,H3,S3⟩
theorem AE(h:aE E Rf N T B none rsv o w)(F:B<=900000000):
  Cs 58 #[Pt N.nb,I6 seq] w (Nd E Rf N T (B+1000) none rsv o w (.tuple #[])):=by
 have M:Ce w N.nb 10 (.map (some N.wm)):=h.cells.wm;rcases h.find seq with hlk|⟨g,hlk,hq,hw,hi⟩
 ·have H:=aH h;clear h;apply cI;go_in;go_wp2;go_end0;exact⟨rfl,o,H.more (T':=0) (by omega),.refl H.fin⟩
 obtain⟨r,G,i,j,k⟩:=hq.cells;have a:=eV i;rcases hcl:g.cl with _|⟨c,d,rc⟩
 ·rw[hcl]at a;have s:Ce w g.blk 4 (.pointer none):=a;obtain⟨I,t,u⟩:=gC (gK h hq hw) i hq.own;clear h hq hw i j k a;apply cI;go_in;go_wp2_with fail;refine I.mono ?_;rintro x w1 ⟨rfl,o1,y,z,m⟩;obtain⟨A,C⟩:=m.que _ _ u t;have c1:=dt C;obtain⟨D,J⟩:=gB (bY y 18 (by decide)) (show Sk N o w o1 w1 from⟨z,m⟩);clear y z m A C;go_wp2_with fail;refine D.mono ?_;rintro x w3 ⟨rfl,n,b,f⟩;obtain⟨p,q⟩:=gB b (J.trans f);clear b f;go_wp2;go_end0;exact⟨rfl,n,p.more (T':=0) (by omega),q⟩
 ·rw[hcl]at a;have s:Ce w g.blk 4 (Pt c):=a;have L:=aH (lu 18 (by decide) h F hq hw hcl);clear h hq hw i j k a hcl;apply cI;go_in;go_wp2_with fail;refine L.mono ?_;rintro x w3 ⟨rfl,n,b,f⟩;obtain⟨p,q⟩:=gB b f;clear b f;go_wp2;go_end0;exact⟨rfl,n,p,q⟩
def GJ(N:Nb)(o:Ow)(w:World)(v:Value):Prop:=v=.agg #[.pointer none,I6 0]\/∃(c part:Nat) (d:bC) (rc:Int),v=.agg #[Pt c,I6 (part:Nat)]/\Ev part d rc/\cM d rc o w c (N.i,c)
theorem aE.lent(h:aE E Rf N T B hand rsv o w)(k:Int):∃v,(∀W,Below w.heap.size w W->(Instr.lookup 88 (.map (some N.cm)) (I6 k) false).run prog W=.ok v W)/\GJ N o w v:=by
 obtain⟨next,j,f⟩:=h.rest;obtain⟨dead,vr,vl,reps,lets,ws,qc,hv⟩:=f.v;have a:=fun W (hb:Bw w W)=>((hv.cm.below hb).lookup (P:=prog) (t:=88) (kt:=3) (et:=353) (by kernel_rfl) (by kernel_rfl) (z:=.agg #[.pointer none,I6 0]) (by kernel_rfl) k).2;cases hg:bE qc k with
 |none=>rw[hg]at a;exact⟨_,a,.inl rfl⟩
 |some v=>
  rw[hg]at a;obtain⟨c,part,d,rc,b,g,i⟩:=hv.cok _ (dw hg);simp only at b;subst b;exact⟨_,a,.inr ⟨c,part,d,rc,rfl,g,i⟩⟩
def Ff(N:Nb)(o:Ow)(w:World)(e:Ending)(w':World):Prop:=Below w.heap.size w w'/\∃(v:Value) (er:Int),Rt e (.tuple #[v,I6 er])/\(er≠0/\v=.agg #[.pointer none,I6 0]\/er=0/\∃(c part:Nat) (d:bC) (rc:Int),v=.agg #[Pt c,I6 (part:Nat)]/\Ev part d rc/\cM d rc o w c (N.i,c))
theorem oH(F u:Int)(h:aE E Rf N T B hand rsv o w):Cs 281 #[Pt N.nb,I6 F,I6 u] w (Ff N o w):=by
 have n:Bw w (w.alloc (.cells #[.pointer none,I6 0] 353)):=ba _ _;have h0:=h.below n;obtain⟨v0,L,O⟩:=h.lent F;have ha:=L _ n;have hb:=h0.cells.cm;have R:=(am.new w 353 #[.pointer none,I6 0]);rcases O with rfl|⟨c,part,d,rc,rfl,hp,hc⟩
 ·have S:=aH (fun W=>vi W);have U:=n.alloc (by simp) (.cells #[.pointer none,I6 0] 353);have V:=R.alloc (.cells #[.pointer none,I6 0] 353);obtain⟨X,Y⟩:=gB U V;apply cI;go_in;go_wp2_with fail;refine(S _).mono ?_;rintro x M ⟨rfl,rfl⟩;go_wp2_with fail;refine(S _).mono ?_;rintro x M ⟨rfl,rfl⟩;have a:=am.cell Y 0;have b:=am.cell Y 1;simp only[zL,zM,zP]at a b;have g:=aH (zB a b);go_wp2_with fail;obtain⟨a,b⟩:=g.out;try simp only[Exit.inBlock,Exit.then]
  refine bodyPost_ret (v:=.tuple #[.agg #[.pointer none,I6 0],I6 12]) (by simp[results,results281,go_sem,a,b]) rfl ?_;exact⟨X,_,_,rfl,.inl ⟨by decide,rfl⟩⟩
 ·obtain⟨W1,G⟩:=nM ((w.alloc (.cells #[.pointer none,I6 0] 353)).alloc (.cells #[Pt c,I6 (part:Nat)] 353));have y:=(Below.refl _ (w.alloc (.cells #[.pointer none,I6 0] 353))).alloc nR (.cells #[Pt c,I6 (part:Nat)] 353);have D:=am.new (w.alloc (.cells #[.pointer none,I6 0] 353)) 353 #[Pt c,I6 (part:Nat)];rw[qA]at D;rw[G]at y D;have Z:=n.trans (y.mono (by simp));obtain⟨q,m,H⟩:=gC Z (R.below y) D;have z:=(hc.below n).below y;obtain⟨HC,I,HP⟩:=gC z hc hp;obtain⟨_,_,_,_,_,s,_,_,_,_,_,_,_,_,_,_,_,x8,_⟩:=z.cells;have J:=aH (fB z s x8);have q0:=ce D;apply cI;go_in;go_upto_region 2 with(fail);simp only[G.out];go_wp2_with fail;refine J.mono ?_;rintro x M ⟨rfl,rfl⟩;by_cases h1:s=1
  ·have d1:(s==1)=true:=by simpa using h1
   go_wp2_with fail;refine(jy u HC).mono ?_;rintro x w3 ⟨⟨t,rfl⟩,i⟩;obtain⟨A,k,C⟩:=gC (q.trans (i.mono q.size)) (m.below i) (H.below i);have p6:=ce k;have p7:=dt k;have pf:=fun j=>am.frozen k j;have p8:=ce C;have p9:=dt C;cases t
   ·have f:=am.I (am.I k 0 (.pointer none)) 1 (I6 0);have a:=ce f;have b:=dt f;have g:=aH (zB a b);go_wp2_with fail;obtain⟨a,b⟩:=g.out;try simp only[Exit.inBlock,Exit.then]
    refine bodyPost_ret (v:=.tuple #[.agg #[.pointer none,I6 0],I6 16]) (by simp[results,results281,go_sem,a,b]) rfl ?_;exact⟨(A.setCell (p:=⟨w.heap.size,0,none⟩) nR _).setCell (p:=⟨w.heap.size,1,none⟩) nR _,_,_,rfl,.inl ⟨by decide,rfl⟩⟩
   ·have f:=am.I (am.I k 0 (Pt c)) 1 (I6 (part:Nat));have a:=ce f;have b:=dt f;have g:=aH (zB a b);go_wp2_with fail;obtain⟨a,b⟩:=g.out;try simp only[Exit.inBlock,Exit.then]
    refine bodyPost_ret (v:=.tuple #[.agg #[Pt c,I6 (part:Nat)],I6 0]) (by simp[results,results281,go_sem,a,b]) rfl ?_;exact⟨(A.setCell (p:=⟨w.heap.size,0,none⟩) nR _).setCell (p:=⟨w.heap.size,1,none⟩) nR _,_,_,rfl,.inr ⟨rfl,c,part,d,rc,rfl,HP,I⟩⟩
  ·have d1:(s==1)=false:=by simpa using h1
   have y:(s != 1)=true:=by simpa using h1
   go_wp2_with fail;refine J.mono ?_;rintro x M ⟨rfl,rfl⟩;by_cases h3:s=3
   ·have d3:(s==3)=true:=by simpa using h3
    go_wp2_with fail;refine(jy u HC).mono ?_;rintro x w3 ⟨⟨t,rfl⟩,i⟩;obtain⟨A,k,C⟩:=gC (q.trans (i.mono q.size)) (m.below i) (H.below i);have p6:=ce k;have p7:=dt k;have pf:=fun j=>am.frozen k j;have p8:=ce C;have p9:=dt C;cases t
    ·have f:=am.I (am.I k 0 (.pointer none)) 1 (I6 0);have a:=ce f;have b:=dt f;have g:=aH (zB a b);go_wp2_with fail;obtain⟨a,b⟩:=g.out;try simp only[Exit.inBlock,Exit.then]
     refine bodyPost_ret (v:=.tuple #[.agg #[.pointer none,I6 0],I6 16]) (by simp[results,results281,go_sem,a,b]) rfl ?_;exact⟨(A.setCell (p:=⟨w.heap.size,0,none⟩) nR _).setCell (p:=⟨w.heap.size,1,none⟩) nR _,_,_,rfl,.inl ⟨by decide,rfl⟩⟩
    ·have f:=am.I (am.I k 0 (Pt c)) 1 (I6 (part:Nat));have a:=ce f;have b:=dt f;have g:=aH (zB a b);go_wp2_with fail;obtain⟨a,b⟩:=g.out;try simp only[Exit.inBlock,Exit.then]
     refine bodyPost_ret (v:=.tuple #[.agg #[Pt c,I6 (part:Nat)],I6 0]) (by simp[results,results281,go_sem,a,b]) rfl ?_;exact⟨(A.setCell (p:=⟨w.heap.size,0,none⟩) nR _).setCell (p:=⟨w.heap.size,1,none⟩) nR _,_,_,rfl,.inr ⟨rfl,c,part,d,rc,rfl,HP,I⟩⟩
   ·have d3:(s==3)=false:=by simpa using h3
    have e3:(s != 3)=true:=by simpa using h3
    have p6:=ce m;have p7:=dt m;have pf:=fun j=>am.frozen m j;have f:=am.I (am.I m 0 (.pointer none)) 1 (I6 0);have a:=ce f;have b:=dt f;have g:=aH (zB a b);go_wp2_with fail;obtain⟨a,b⟩:=g.out;try simp only[Exit.inBlock,Exit.then]
    refine bodyPost_ret (v:=.tuple #[.agg #[.pointer none,I6 0],I6 12]) (by simp[results,results281,go_sem,a,b]) rfl ?_;exact⟨(q.setCell (p:=⟨w.heap.size,0,none⟩) nR _).setCell (p:=⟨w.heap.size,1,none⟩) nR _,_,_,rfl,.inl ⟨by decide,rfl⟩⟩
theorem AF{q bd}{cl:Cl}(z b j:Int)(h:aE E Rf N T B (some k) rsv o w)(O:B<=900000000)(A:E.cs[k]?=some cl)(n:cl.op≠3)(R:cl.op≠4):
  Cs 182 #[Pt N.nb,I6 (k:Nat),.agg #[I6 z,.string (aF q),.string (aF bd),I6 b],I6 j] w (Nd E Rf N T (B+1000) none rsv o w (.tuple #[])):=by
 obtain⟨W0,S,C,U⟩:=dW w #[I6 z,.string (aF q),.string (aF bd),I6 b] 48;have a3:=ef U;obtain⟨f,D⟩:=gB (h.below C) (Sk.J (N:=N) C h.fin);obtain⟨V,F⟩:=gB (oH b j f) A;apply cI;go_in;go_upto_region 1 with(fail);simp only[S.out];go_wp2_with fail;refine V.mono ?_;rintro p w1 ⟨G,v,s,rfl,H⟩;have i:=aH G;rcases H with⟨g,rfl⟩|⟨rfl,c,part,d,rc,rfl,X,Y⟩
 ·have t:=ba w1 (.cells #[.pointer none,I6 0] 353);have a:=i.trans (t.mono i.size);obtain⟨I,u⟩:=gB (bY (f.below a) s g) (D.trans (.J a f.fin));have ha:(s==0)=false:=by simpa using g
  have Z:(s != 0)=true:=by simpa using g
  go_wp2_with fail;refine I.mono ?_;rintro p w3 ⟨rfl,J,n,x⟩;obtain⟨H3,y⟩:=gB n (u.trans x);go_wp2_with fail;go_end0;exact⟨rfl,J,H3.more (T':=0) (by omega),y⟩
 ·have t:=ba w1 (.cells #[Pt c,I6 (part:Nat)] 353);have a:=i.trans (t.mono i.size);obtain⟨L,u⟩:=gB (pS (f.below a) O (Y.below a) X) (D.trans (.J a f.fin));go_wp2_with fail;refine L.mono ?_;rintro p w3 ⟨rfl,J,m,x⟩;obtain⟨y,HR⟩:=gB (u.trans x) (dH m ⟨0,0,0,⟨⟨0,0⟩,[],[],0⟩,0⟩ (m.other F n R));go_wp2_with fail;refine HR.mono ?_;rintro p w4 ⟨rfl,o4,M,s4⟩;obtain⟨H4,S4⟩:=gB M (y.trans s4);go_wp2_with fail;go_end0;exact⟨rfl,o4,H4,S4⟩
end
def BG(g base b:Nat):Prop:=b=g\/base<=b
theorem cX.bg{g base:Nat}{w w'}(h:aW g w w'):cX (BG g base) w w':=cX.U h (.inl rfl)
theorem vY(g base bs k t q:Nat) v(l:List Int)(oi:Option (List UInt8))(w:World)(hr:RS w g oi)(hg:g < base)(hB:sm bs w k v l)(h0:base<=k)(hbs:base<=bs)(hb:bs<=w.heap.size)(n5:q < bs)(hl:l.length<=1000)(h1:am w t 238 #[Pt g])(h2:am w q 3 #[I6 1099511627776])(n1:k≠t)(n2:k≠q)(n3:base<=t)(n4:base<=q):
  Cs 235 #[Pt k,Pt t,Pt q] w fun e w'=>
   ∃(x:Nat) (oa:Option (List UInt8)) (v':Value),(oi.bind (bk MD)).map Prod.snd=oa/\((oi.bind (bk MD)).map Prod.fst).getD 0=x/\Rt e (.bool oa.isSome)/\RS w' g oa/\sm bs w' k v' (l++[(x:Int)])/\am w' t 238 #[Pt g]/\am w' q 3 #[I6 1099511627776]/\cX (BG g base) w w':=by
 obtain⟨A,c,rfl,_⟩:=(aK.rw (E:=aC) hB.own).slice;have y0:=ce hB.box;have U:=ce h1;have V:=ce h2;obtain⟨x,X⟩:=nx (((oi.bind (bk MD)).map Prod.fst).getD 0);obtain⟨oa,M⟩:=nx ((oi.bind (bk MD)).map Prod.snd);obtain⟨Y,B,H,Z,H1,H2⟩:=gF (fun W (h:RS W g oi)=>show Cs 236 #[Pt g,I6 1099511627776] W (FC W g (oi.bind (bk MD)) (fun n=>I6 (n:Nat)) 0)from dy g 1099511627776 oi W h (by omega)) (zB X M) hB (show RS w.drew g oi from hr) h1 h2;have N:(l.length+[(x:Int)].length)*aC.bytes<=140737488355328/\l.length+[(x:Int)].length < 1000000000000000000:=⟨by show(l.length+1)*8<=_;omega,by show l.length+1 < _;omega⟩;have O:=aH N;have J:∀b,base<=b->b≠g:=fun b hb=>by omega
 apply cI;go_in;go_wp2_with fail;show(Code.region _ (Ll _::_).toArray _).wp _ _ _ _;go_region_held3 (fun w'=>Ce w' t 0 (Pt g)/\Ce w' q 0 (I6 1099511627776))
  (first|exact⟨U,V⟩|exact⟨am.cell a.1 0,am.cell a.2.1 0⟩|exact⟨am.cell (a.1.alloc _) 0,am.cell (a.2.1.alloc _) 0⟩|exact⟨am.cell z.1 0,am.cell z.2.1 0⟩|exact⟨am.cell (am.ad z.1 n1.symm) 0,am.cell (am.ad z.2.1 n2.symm) 0⟩)
  (first
   |(go_at_call 236;(with_reducible refine(Y.out _ Z.out).mono ?_);rintro _e w3 ⟨C,D,R⟩;rw[B.1]at C;rw[B.2]at D;subst C;have m:=aA (b9 (w:=w)) R
     have a:=aH (zB (H1.only m (J _ n3)) (zB (H2.only m (J _ n4)) (zB (H.box.only m (J _ h0)) (zB (aK.keep (E:=aC) H.own m (fun j e he=>by injection he with he;have:=(aK.lt (E:=aC) H.own j e).1;omega)) (zB D m)))));have z0:=ce a.2.2.1;have hc:=ap a.2.2.1)
   |(refine dQ aC rfl (.tmp 4) (.tmp 8) rfl (aI a.2.2.2.1 (ba _ _)) (zD hb (by have:=a.2.2.2.2.2.size;simp;omega)) rfl rfl (dL aC _ (x:Int)) O.1 O.2 ?_;intro v6 w6 s f ha;obtain⟨y,c6,F,_⟩:=(aK.rw (E:=aC) s).slice;simp only[zC,zQ,qI,zR]at F;subst F
     have p:=am.grown (a.2.2.1.alloc _) f (fun e=>aK.ne (E:=aC) a.2.2.2.1 a.2.2.1 (by decide) e);have z:=aH (zB (am.grown (a.1.alloc _) f (fun e=>aK.ne (E:=aC) a.2.2.2.1 a.1 (by decide) e)) (zB (am.grown (a.2.1.alloc _) f (fun e=>by have:=(aK.lt (E:=aC) a.2.2.2.1 q e.symm).1;omega)) (zB p (zB s f))));have z6:=ce p;have f6:=am.frozen p 0))
 all_goals
  have L:=aK.keep (E:=aC) s (aB w6 k 0 (.slice y (l.length+1) c6)) (fun j e he=>aK.ne (E:=aC) s p (by decide) (he.trans e.symm));have S:RS w6 g oa:=(a.2.2.2.2.1.lay (.cells (aC.f (x:Int)).toArray aC.ty)).only f (fun e=>by have:=(aK.lt (E:=aC) a.2.2.2.1 g e.symm).1;omega);have I:RS (w6.setCell ⟨k,0,none⟩ (.slice y (l.length+1) c6)) g oa:=S.only (aB w6 k 0 _) (fun e=>by injection e with e;omega);have T:=am.ad z.1 n1.symm (i:=0) (u:=.slice y (l.length+1) c6);have P2:=am.ad z.2.1 n2.symm (i:=0) (u:=.slice y (l.length+1) c6);have p1:=am.cell T 0;have G:=aH (zB I (zB L (zB T (zB P2 (am.I p 0 (.slice y (l.length+1) c6))))));have HC:Hid (cX (BG g base) w (w6.setCell ⟨k,0,none⟩ (.slice y (l.length+1) c6))):=aH (by
   have c1:cX (BG g base) w w3:=cX.bg a.2.2.2.2.2;have c2:cX (BG g base) w3 (w3.alloc (.cells (aC.f (x:Int)).toArray aC.ty)):=cX.J (ba _ _);have c3:cX (BG g base) (w3.alloc (.cells (aC.f (x:Int)).toArray aC.ty)) w6:=⟨f.os,f.tape,f.output,f.size,fun j hj hs=>f.block j hj (fun e=>hs (.inr (zD hbs (aK.lt (E:=aC) a.2.2.2.1 j e.symm).1)))⟩;exact((c1.trans c2).trans c3).trans (cX.U (aB w6 k 0 _) (.inr h0)))
  have HF:=aH (er g oa _ I);go_wp2_with fail;refine HF.mono ?_;rintro _e _w ⟨rfl,rfl⟩;go_wp2_with fail;go_ret;exact⟨x,oa,_,B.2,B.1,rfl,G.1,⟨G.2.2.2.2,by have:=G.2.1;rw[zC]at*;simpa using this⟩,G.2.2.1,G.2.2.2.1,HC⟩
theorem oI(p:List UInt8->Pr α):∀(k:Nat) (l:List UInt8) (x:List α) (r:List UInt8) (a:α) (r':List UInt8),cK p k l=some (x,r)->p r=some (a,r')->cK p (k+1) l=some (x++[a],r')
 |0,l,x,r,a,r',h,h2=>by
  unfold cK at h
  injection h with h
  injection h with h1 h3
  subst h1;subst h3
  unfold cK
  rw[h2]
  rfl
 |k+1,l,x,r,a,r',h,h2=>by
  unfold cK at h ⊢
  cases hp:p l with
  |none=>rw[hp]at h;cases h
  |some y=>
   rw[hp]at h
   simp only[zI]at h ⊢
   cases hq:cK p k y.2 with
   |none=>rw[hq]at h;cases h
   |some z=>
    rw[hq]at h
    injection h with h
    injection h with h1 h3
    subst h1;subst h3
    have:=oI p k y.2 z.1 z.2 a r' hq h2
    rw[this]
    rfl
def F7(w:World)(g:Nat)(o:Option (List UInt8))(e:Ending)(w':World):Prop:=
 ∃(v:Value) (l:List Nat) (o':Option (List UInt8)),Rt e v/\aK aC w.heap.size w' v (l.map Int.ofNat)/\l.length<=9/\(o'=none/\l=[]\/∃s r,o=some s/\o'=some r/\sI s=some (l,r))/\RS w' g o'/\aW g w w'
theorem cX.onlyG{g:Nat}(h:cX (BG g w.heap.size) w1 w')(a:aW g w w1):aW g w w':=⟨h.os.trans a.os,h.tape.trans a.tape,h.output.trans a.output,zD a.size h.size,fun j hj hne=>(h.block j (zT hj a.size) (fun e=>by
 rcases e with rfl|e
 ·exact hne rfl
 ·omega)).trans (a.block j hj hne)⟩
theorem RS.below{g:Nat}{o:Option (List UInt8)}(h:RS w g o)(a:Below w.heap.size w w'):RS w' g o:=h.only (row:=none) ⟨a.os,a.tape,a.output,a.size,fun k hk _=>a.block k hk⟩ (by simp)
def CT(o:Option (List UInt8))(N i:Nat)(l:List Nat)(a:Option (List UInt8)):Prop:=a=none/\N=0/\l=[]\/∃s s1 r,o=some s/\bk 9 s=some (N,s1)/\a=some r/\cK (bk MD) i s1=some (l,r)
theorem AG(g:Nat)(o:Option (List UInt8)) w(h:RS w g o):
  Cs 148 #[Pt g,I6 9,I6 1099511627776] w (F7 w g o):=by
 have hg:=h.lt;obtain⟨W0,Y,Z,L,x2,x3⟩:=Ej w #[Pt g] #[I6 1099511627776] #[aS] 238 3 34;have hf:W0.heap.size=w.heap.size+1+1+1:=by rw[<-Y];simp
 have y1:=ce L;have HI:=aH (dy g 9 o W0 (h.below Z) (by omega));obtain⟨N,p⟩:=nx (((o.bind (bk 9)).map Prod.fst).getD 0);obtain⟨o1,b⟩:=nx ((o.bind (bk 9)).map Prod.snd);have hh:N<=9:=by
  rw[<-p];cases o with
  |none=>simp
  |some l=>cases hp:bk 9 l with
   |none=>simp[hp]
   |some x=>simp[hp];exact(cO hp).1
 have ha:Hid (CT o N 0 [] o1):=aH (by
  cases o1 with
  |none=>
   refine .inl ⟨rfl,?_,rfl⟩;rw[<-p];cases o with
   |none=>rfl
   |some l=>cases hp:bk 9 l with
    |none=>simp[hp]
    |some x=>simp[hp]at b
  |some m=>
   obtain⟨l,f,D⟩:=gm b p m rfl;exact .inr ⟨l,m,m,f,D,rfl,rfl⟩)
 obtain⟨HX,M⟩:=gB (zB p b) (zB L (zB x2 x3));clear h L x2 x3 p b;apply cI;go_in;go_wp2_with fail;simp only[Y.out];refine HI.mono ?_;rintro _e w1 ⟨he,q,j⟩;rw[HX.1]at he;rw[HX.2]at q;subst he;obtain⟨O1,R1,O⟩:=gC (aA (aG (g:=g) Z) j) q (zB (M.1.only j (by omega)) (zB (M.2.1.only j (by omega)) (M.2.2.only j (by omega))));have hb:w.heap.size+1+1+1<=w1.heap.size:=by have:=j.size;omega
 clear q j y1;go_wp2_with fail;go_loopw[13] (fun vi wr=>∃(i:Nat) (v:Value) (l:List Nat) (t:Option (List UInt8)),i<=N/\vi=I6 i/\l.length=i/\CT o N i l t/\sm (w.heap.size+1+1+1) wr (w.heap.size+1+1) v (l.map Int.ofNat)/\am wr w.heap.size 238 #[Pt g]/\am wr (w.heap.size+1) 3 #[I6 1099511627776]/\RS wr g t/\aW g w wr/\w.heap.size+1+1+1<=wr.heap.size) (fun vi _=>N - (intOf vi).toNat)
 case atStart=>exact⟨0,_,[],o1,by omega,rfl,rfl,ha,⟨O.2.2,aK.nil _ _⟩,O.1,O.2.1,R1,O1,hb⟩
 case round=>
  obtain⟨i,v,l,t,hi,rfl,u,R,a,S,k,F,y,hz⟩:=hrel;obtain⟨A1,A2,A3,A4,A5⟩:=gE R a y F u;by_cases hlt:i < N
  ·obtain⟨HC,z⟩:=gB (vY g w.heap.size (w.heap.size+1+1+1) (w.heap.size+1+1) w.heap.size (w.heap.size+1) v (l.map Int.ofNat) t wr F hg a (by omega) (by omega) hz (by omega) (by rw[jD];omega) S k (by omega) (by omega) (by omega) (by omega)) hlt;clear R a S k F y u;go_wp2_with fail;refine HC.mono ?_;rintro _e w3 ⟨x,oa,v3,f,D,rfl,G,H,I,J,B⟩;obtain⟨G1,C,G3⟩:=gC (zB f D) (zB G (zB H (zB I J))) (B.onlyG A3);have hc:=zD hz B.size;clear f D G H I J B;cases oa with
   |none=>
    go_wp2_with fail;go_ret;exact⟨_,[],none,rfl,aK.nil _ _,by simp,.inl ⟨rfl,rfl⟩,C.1,G3⟩
   |some r3=>
    have hd:Hid (CT o N (i+1) (l++[x]) (some r3)):=aH (by
     rcases A1.out with⟨_,h0,_⟩|⟨s,m,r,T,U,V,X⟩
     ·have:=z.out;omega
     ·obtain⟨r',n,e4⟩:=gm G1.1 G1.2 r3 rfl;rw[V]at n;injection n with n;subst n;exact .inr ⟨s,m,r3,T,U,rfl,oI _ _ _ _ _ _ _ X e4⟩)
    go_wp2_with fail;go_roundw
    case rel=>exact⟨i+1,v3,l++[x],some r3,z,by go_num,by rw[zC,A5];rfl,hd,by rw[yC];exact C.2.1,C.2.2.1,C.2.2.2,C.1,G3,hc⟩
    case measure=>have:=z.out;simp[intOf];omega
  ·obtain rfl:i=N:=by omega
   have y0:=ce a.box;obtain⟨A,c,rfl,_⟩:=(aK.rw (E:=aC) a.own).slice;clear R a S k F y u;go_wp2_with fail;go_ret;refine⟨_,l,t,rfl,(by have k:=A2.own;rw[jD]at k;exact aK.mono (E:=aC) k (by omega)),by have:=A5.out;omega,?_,A4,A3⟩;rcases A1.out with⟨f,_,n⟩|⟨s,m,r,T,U,V,X⟩
   ·exact .inl ⟨f,n⟩
   ·refine .inr ⟨s,r,T,V,?_⟩;unfold sI eh;rw[U];exact X
end Go.Proofs.YthdfgdicnplhlaaGreatDoor
