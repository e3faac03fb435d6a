import Derived.Test.YthdfgdicnplhlaaGreatDoorE
set_option maxHeartbeats 16000000
set_option maxRecDepth 100000
set_option linter.all false
namespace Go.Proofs.YthdfgdicnplhlaaGreatDoor
open Go.RowKit Hd _root_.Go.Proofs.Tryz
@[go_sem] def Ll(o:Oper):Oper:=o
variable{t:Tg}{l:List _}{w:World}{s:List UInt8}{a:Nat}{b:List UInt8}{α:Type}{g:Nat}{x:Nat × Nat}{c:UInt8}{k:Nat}{M:Mg → Prop}{n:Nat}{id up:Int}{o o':Ow}{w':World}{p:List UInt8->Pr α}{T r T' j m:Nat}{f:α->List UInt8}{ls:List Mg}{cl:List bC}{tv:Nat->Int}{br:Bool}{rs:List (List UInt8)}
def iw(t:Tg):Prop:=t.nm.length<=100/\0<=t.n/\t.n<=1048576
theorem iw.ok(h:iw t):FU t:=⟨h.1,by unfold bN;have:=h.2;omega⟩
theorem vm(h:mZ t=true):iw t:=by
 unfold mZ Nm.fW at h;simp only[yE,decide_eq_true_eq]at h;exact⟨by have:=h.1.1.2;omega,by omega,h.2⟩
def tg(t:Tg):Nm.dA:=⟨t.nm,t.n⟩
def gt(t:Nm.dA):Tg:=⟨t.nm,t.n⟩
theorem ze(l:List Tg):Nm.aY (l.map tg)=a7.cells l:=by
 induction l with
 |nil=>rfl
 |cons a l ih=>unfold Nm.aY El.cells at*;rw[jF,zX,zX,ih];rfl
theorem zf(l:List Nm.dA):a7.cells (l.map gt)=Nm.aY l:=by
 induction l with
 |nil=>rfl
 |cons a l ih=>unfold Nm.aY El.cells at*;rw[jF,zX,zX,ih];rfl
theorem sw{w}{v}{l:List Tg}(h:Rw a7 w v l):∃A c,v=.slice A (l.map tg).length c/\Sl w 2 A (l.map tg).length (Nm.aY (l.map tg))/\(l.map tg).length<=c:=by
 obtain⟨A,c,rfl,a,b⟩:=h;exact⟨A,c,by simp,by rw[ze,jD];exact b.sl,by simpa using a⟩
theorem vo{base:Nat}{v}{l:List Nm.dA}(h:w.ownsRow base 230 2 v l.length (Nm.aY l)):aK a7 base w v (l.map gt):=by
 unfold aK;rw[zf,jD];exact h
theorem zg{l:List Tg}(h:∀t∈l,iw t):∀t∈l.map tg,iw (gt t):=fun t ht=>by
 obtain⟨a,b,rfl⟩:=zV.1 ht
 exact h a b
def Er(w:World)(e:Ending)(w':World):Prop:=∃(v:Value) (c:Int) (l:List Tg),Rt e (.tuple #[v,I6 c])/\aK a7 w.heap.size w' v l/\l.length<=100/\(∀t∈l,iw t)/\Below w.heap.size w w'
theorem B5{l:List Nm.dA}(c:l.length<=100)(h:∀t∈l,iw (gt t))(f:s.length<=100):(Nm.e8 l s).length<=100/\∀t∈Nm.e8 l s,iw (gt t):=by
 unfold Nm.e8;split
 ·simp
 ·rename_i hf;unfold Nm.mi at hf;unfold Nm.yf;have a:iw (gt ⟨s,1⟩):=⟨f,by show(0:Int)<=1;omega,by show(1:Int)<=1048576;omega⟩;cases hk:l[Nm.c0 l s]? with
  |none=>
   rw[hk]at hf;simp at hf;refine⟨by simp;omega,fun t ht=>?_⟩;rcases zK.1 ht with ht|ht
   ·exact h t ht
   ·simp at ht;subst ht;exact a
  |some t0=>
   rw[hk]at hf;have g:=qC hk;have b:=h t0 g;simp only at hf ⊢;split
   ·rename_i he;rw[if_pos he]at hf;simp at hf;refine⟨by simpa using c,fun t ht=>?_⟩;rcases yK ht with ht|rfl
    ·exact h t ht
    ·unfold iw gt at b ⊢;simp only at b ⊢;omega
   ·rename_i he;rw[if_neg he]at hf;simp at hf;refine⟨by simp;omega,fun t ht=>?_⟩;rcases zK.1 ht with ht|ht
    ·rcases zK.1 ht with ht|ht
     ·exact h t (qZ ht)
     ·simp at ht;subst ht;exact a
    ·exact h t (jK ht)
theorem jd:∀(n:Nat) (a b:List Nm.dA),a.length+b.length<=n->(∀t∈a,iw (gt t))->(∀t∈b,iw (gt t))->∀t∈Nm.cP a b,iw (gt t)
 |n,[],[],_,_,_=>by rw[Nm.o4];simp
 |0,s::a,b,h,_,_=>by simp at h
 |0,[],t::b,h,_,_=>by simp at h
 |n+1,s::a,[],h,ha,hb=>by
  rw[Nm.mt]
  intro t c
  rcases jV.1 c with rfl|c
  ·exact ha _ (by simp)
  ·exact jd n a [] (by simp at h ⊢;omega) (fun t c=>ha t (qF _ c)) hb t c
 |n+1,[],t::b,h,ha,hb=>by
  rw[Nm.lz]
  intro u f
  rcases jV.1 f with rfl|f
  ·exact hb _ (by simp)
  ·exact jd n [] b (by simp at h ⊢;omega) ha (fun t c=>hb t (qF _ c)) u f
 |n+1,s::a,t::b,h,ha,hb=>by
  have g:∀t∈a,iw (gt t):=fun t c=>ha t (qF _ c)
  have i:∀t∈b,iw (gt t):=fun t c=>hb t (qF _ c)
  have j:=ha s (by simp)
  have c:=hb t (by simp)
  rw[Nm.jr]
  split
  ·intro u f
   rcases jV.1 f with rfl|f
   ·exact j
   ·exact jd n a (t::b) (by simp at h ⊢;omega) g hb u f
  ·split
   ·intro u f
    rcases jV.1 f with rfl|f
    ·unfold iw gt at j c ⊢
     simp only at j c ⊢
     omega
    ·exact jd n a b (by simp at h ⊢;omega) g i u f
   ·intro u f
    rcases jV.1 f with rfl|f
    ·exact c
    ·exact jd n (s::a) b (by simp at h ⊢;omega) ha i u f
termination_by n => n
theorem B6{v}{l:List Tg} s(w:World)(h:Rw a7 w v l)(hl:l.length<=1000):Cs 271 #[v,.string (aF s)] w fun e w'=>(∃t,Rt e (.bool t))/\Below w.heap.size w w':=by
 obtain⟨A,c,rfl,a,b⟩:=sw h;exact(Nm.p2 A c _ s w a (by simp;omega)).mono fun e w' ⟨h1,h2⟩=>⟨⟨_,h1⟩,h2⟩
theorem zh{v}{l:List Tg}(s:List UInt8) w(h:Rw a7 w v l)(hl:l.length<=100)(hb:∀t∈l,iw t)(hs:s.length<=100):Cs 266 #[v,.string (aF s)] w (Er w):=by
 obtain⟨A,c,rfl,b,m⟩:=sw h;refine(Nm.Bg A c _ s w b (by simp;omega) (fun t a=>(zg hb t a).2.1) (by omega)).mono ?_;rintro e w' ⟨v',rfl,f,g⟩;obtain⟨i,j⟩:=B5 (l:=l.map tg) (s:=s) (by simpa using hl) (zg hb) hs;refine⟨v',_,_,rfl,vo f,?_,?_,g⟩
 ·unfold Nm.ki;split
  ·simp
  ·split
   ·simp
   ·simpa using i
 ·unfold Nm.ki;split
  ·simp
  ·split
   ·simp
   ·intro t a;obtain⟨u,k,rfl⟩:=zV.1 a;exact j u k
theorem zi{v}{l:List Tg}(s:List UInt8) w(h:Rw a7 w v l)(hl:l.length<=100)(hb:∀t∈l,iw t)(hs:s.length<=100):Cs 267 #[v,.string (aF s)] w (Er w):=by
 obtain⟨A,c,rfl,b,m⟩:=sw h;refine(Nm.Bh A c _ s w b (by simp;omega) (fun t a=>(zg hb t a).2.1)).mono ?_;rintro e w' ⟨v',rfl,f,g⟩;obtain⟨i,j⟩:=B5 (l:=l.map tg) (s:=s) (by simpa using hl) (zg hb) hs;refine⟨v',_,_,rfl,vo f,?_,?_,g⟩
 ·unfold Nm.mp;split
  ·simp
  ·simpa using i
 ·unfold Nm.mp;split
  ·simp
  ·intro t a;obtain⟨u,k,rfl⟩:=zV.1 a;exact j u k
theorem pv{v1 v2}{a b:List Tg} w(h:Rw a7 w v1 a)(h2:Rw a7 w v2 b)(ha:a.length<=100)(hb:b.length<=100)(ka:∀t∈a,iw t)(kb:∀t∈b,iw t):
  Cs 175 #[v1,v2] w (b6 a7 w 100 iw):=by
 obtain⟨A,c,rfl,g,i⟩:=sw h;obtain⟨B,d,rfl,j,hd⟩:=sw h2;refine(Nm.Bk A B c d _ _ w g j i hd (by simp;omega) (by simp;omega)).mono ?_;rintro e w' ⟨v',rfl,k,f⟩;refine⟨_,⟨v',rfl,vo k,f⟩,?_,?_⟩
 ·unfold Nm.xu;simp;omega
 ·intro t m;obtain⟨u,n,rfl⟩:=zV.1 m;exact jd _ _ _ nR (zg ka) (zg kb) u (qZ n)
def pw(E:El α)(w:World)(g n:Nat)(ok:α->Prop)(e:Ending)(w':World):Prop:=
 ∃v l o,Rt e v/\aK E w.heap.size w' v l/\l.length<=n/\(∀t∈l,ok t)/\RS w' g o/\aW g w w'
theorem px(g:Nat)(o:Option (List UInt8)) w(h:RS w g o):
  Cs 151 #[Pt g] w (pw a7 w g 100 fun t=>mZ t=true):=by
 have U:=h.lt;have H:=aH h;apply cI;go_in;go_wp2_with fail;refine(dy g 100 o _ H.out (by omega)).mono ?_;rintro e w1 ⟨rfl,a,b⟩;obtain⟨N,V⟩:=nx (((o.bind (bk 100)).map Prod.fst).getD 0);have hm:N<=100:=by
  rw[<-V];cases o with
  |none=>simp
  |some l=>cases hp:bk 100 l with
   |none=>simp[hp]
   |some x=>simp[hp];exact(cO hp).1
 rw[V];obtain⟨X,O1⟩:=gB a b;generalize(o.bind (bk 100)).map Prod.snd=o1 at X;go_wp2;go_loopw[3,4,7] (fun v3 _ v7 wr=>∃(i:Nat) (done:List Tg) (c:Option (List UInt8)),i<=N/\v7=I6 i/\done.length=i/\aK a7 w.heap.size wr v3 done/\RS wr g c/\aW g w wr/\∀t∈done,t.nm.length<=1000000000000) (fun _ _ v7 _=>N - (intOf v7).toNat)
 case atStart=>exact⟨0,[],o1,by omega,rfl,rfl,aK.nil _ _,X.out,O1.out,by simp⟩
 case round=>
  obtain⟨i,done,c,hi,rfl,Y,J,Z,s,ha⟩:=hrel;obtain⟨z,A,L,A4⟩:=gD J Z s ha;by_cases hlt:i < N
  ·go_wp2_with fail;refine(l4 g 100 c _ A.out (by omega)).mono ?_;rintro e w3 ⟨rfl,m,p⟩;obtain⟨T,hT⟩:=nx (((c.bind (du 100)).map Prod.fst).getD []);rw[hT];have hd:T.length<=1000000000000:=by
    rw[<-hT];cases c with
    |none=>simp
    |some l=>cases hp:du 100 l with
     |none=>simp[hp]
     |some x=>
      simp[hp];unfold du at hp;cases hq:bk 100 l with
      |none=>rw[hq]at hp;simp at hp
      |some y=>
       rw[hq]at hp;have:=(cO hq).1;simp only[zI]at hp;split at hp
       ·simp at hp
       ·injection hp with hp;subst hp;simp;omega
   generalize(c.bind (du 100)).map Prod.snd=o2 at m;obtain⟨C1,C2,C3⟩:=gC (z.out.grown p (fun k e=>by cases e;exact U)) m (aA L.out p);have F:=ba w3 (.cells #[.string (aF T),I6 0] 230);obtain⟨D1,D2,D3,hx⟩:=gD (aI C1.out F) (C2.out.lay (.cells #[.string (aF T),I6 0] 230)) (aA C3.out (aG F)) (am.new w3 230 #[.string (aF T),I6 0]);have ho:=C2.out.lt;dsimp only;go_wp2_with fail;refine(dy g 1048576 o2 _ D2.out (by omega)).mono ?_;rintro e w4 ⟨rfl,m,p⟩;obtain⟨n,hn⟩:=nx (((o2.bind (bk 1048576)).map Prod.fst).getD 0);rw[hn];generalize(o2.bind (bk 1048576)).map Prod.snd=o3 at m;have q:=hx.out.only p (by omega);have E1:=aK.grown (E:=a7) (l:=done) D1.out p (fun k e=>by cases e;exact U);have E3:=aA D3.out p;have hj:=m.lt;obtain⟨e0,e1⟩:=am.two q;have ef:=fun j=>am.frozen q j;obtain⟨M,F2,O,F4⟩:=gD (aK.other (E:=a7) E1 (aB w4 w3.heap.size 1 (I6 (n:Int))) (fun k hk e=>by injection hk with hk;have:=(aK.lt (E:=a7) (l:=done) C1.out k e).2;omega)) (m.put (k:=w3.heap.size) (i:=1) (u:=I6 (n:Int)) (by omega)) (E3.put (k:=w3.heap.size) (i:=1) (u:=I6 (n:Int)) (by have:=C3.out.size;omega)) (q.I 1 (I6 (n:Int)));dsimp only;go_upto_region 6 with(fail);obtain⟨W5,G⟩:=nM (w4.setCell ⟨w3.heap.size,1,none⟩ (I6 (n:Int)));rw[G]at M F2 O F4;simp only[G.out];obtain⟨s0,s1⟩:=am.two F4.out;have he:(done.length+1)*a7.bytes<=140737488355328:=by show(done.length+1)*24<=_;omega
   have hf:done.length < 1000000000000000000:=by omega
   have hh:=O.out.size;go_wp2_with (at_builtin;refine b5 a7 rfl (.tmp 15) (.tmp 17) rfl M.out hh ⟨T,n⟩ rfl rfl he hf ?_;intro v' w6 B f);have I:=aK.lt (E:=a7) (l:=done) M.out;obtain⟨G1,G2,G3⟩:=gC B (F2.out.only f (fun e=>by have:=(I g e.symm).1;omega)) (dx O.out f (fun k e=>(I k e).1));go_wp2;go_roundw
   case rel=>exact⟨i+1,done++[⟨T,n⟩],_,by omega,by go_num,by simp;omega,G1.out,G2.out,G3.out,fun t ht=>(zK.1 ht).elim (A4.out t) fun h=>by simp at h;subst h;exact hd⟩
   case measure=>simp[intOf];omega
  ·obtain⟨Ao,co,rfl,_⟩:=(aK.rw (E:=a7) (l:=done) z.out).slice;have hr:done.length<=100:=by omega
   subst Y;have HT:∀W,pw a7 w g 100 (fun t=>mZ t=true) (.returned (aS)) W↔∃o,RS W g o/\aW g w W:=fun W=>⟨fun⟨_,_,o,_,_,_,_,a,b⟩=>⟨o,a,b⟩,fun⟨o,a,b⟩=>⟨_,[],o,rfl,aK.nil _ _,by simp,by simp,a,b⟩⟩;go_wp2_with fail;refine(er g c _ A.out).mono ?_;rintro R _w ⟨rfl,rfl⟩;cases c with
   |none=>
    go_wp2_with fail;refine(fv g _ _ A.out).mono ?_;rintro R w6 ⟨rfl,a,b⟩;obtain⟨C,D⟩:=gB a (aA L.out b);go_wp2;go_ret;exact(HT _).2 ⟨_,C.out,D.out⟩
   |some r=>
    go_wp2_with fail;refine(jM _ (aK.rw (E:=a7) (l:=done) z.out) (by omega) A4.out).mono ?_;rintro R w6 ⟨hc,S⟩;obtain⟨C,D,B3⟩:=gC (RS.only A.out (row:=some (g+1)) (aG S) (by simp)) (aA L.out (aG S)) (aI z.out S);rcases hc with rfl|⟨rfl,hl,hok⟩
    ·go_wp2_with fail;refine(fv g _ _ C.out).mono ?_;rintro R w7 ⟨rfl,a,b⟩;obtain⟨B4,B5⟩:=gB a (aA D.out b);go_wp2;go_ret;exact(HT _).2 ⟨_,B4.out,B5.out⟩
    ·go_wp2;go_ret;exact⟨_,done,_,rfl,B3.out,hl,hok,C.out,D.out⟩
theorem py(g:Nat)(o:Option (List UInt8)) w(h:RS w g o):
  Cs 152 #[Pt g] w (pw aL w g 64 fun t=>k8 t=true):=by
 have R:=h.lt;have H:=aH h;apply cI;go_in;go_wp2_with fail;refine(dy g 64 o _ H.out (by omega)).mono ?_;rintro e w1 ⟨rfl,f,m⟩;obtain⟨N,hN⟩:=nx (((o.bind (bk 64)).map Prod.fst).getD 0);have hm:N<=64:=by
  rw[<-hN];cases o with
  |none=>simp
  |some l=>cases hp:bk 64 l with
   |none=>simp[hp]
   |some x=>simp[hp];exact(cO hp).1
 rw[hN];obtain⟨H1,O1⟩:=gB f m;generalize(o.bind (bk 64)).map Prod.snd=o1 at H1;go_wp2;go_loopw[3,4,7] (fun v3 _ v7 wr=>∃(i:Nat) (done:List Pe) (q:Option (List UInt8)),i<=N/\v7=I6 i/\done.length=i/\aK aL w.heap.size wr v3 done/\RS wr g q/\aW g w wr) (fun _ _ v7 _=>N - (intOf v7).toNat)
 case atStart=>exact⟨0,[],o1,by omega,rfl,rfl,aK.nil _ _,H1.out,O1.out⟩
 case round=>
  obtain⟨i,done,q,hi,rfl,hd,S,he,B⟩:=hrel;obtain⟨C,D,U⟩:=gC S he B;by_cases hlt:i < N
  ·go_wp2_with fail;refine(dy g 1099511627776 q _ D.out (by omega)).mono ?_;rintro e w3 ⟨rfl,b,c⟩;obtain⟨T,hT⟩:=nx (((q.bind (bk 1099511627776)).map Prod.fst).getD 0);rw[hT];generalize(q.bind (bk 1099511627776)).map Prod.snd=o2 at b;obtain⟨V,C2,X⟩:=gC (C.out.grown c (fun k e=>by cases e;exact R)) b (aA U.out c);have J:=ba w3 (.cells #[I6 (T:Int),I6 0,I6 0] 121);obtain⟨D1,D2,D3,hx⟩:=gD (aI V.out J) (C2.out.lay (.cells #[I6 (T:Int),I6 0,I6 0] 121)) (aA X.out (aG J)) (am.new w3 121 #[I6 (T:Int),I6 0,I6 0]);have ho:=C2.out.lt;dsimp only;go_wp2_with fail;refine(dy g 1073741824 o2 _ D2.out (by omega)).mono ?_;rintro e w4 ⟨rfl,b,c⟩;obtain⟨n,Y⟩:=nx (((o2.bind (bk 1073741824)).map Prod.fst).getD 0);rw[Y];generalize(o2.bind (bk 1073741824)).map Prod.snd=o3 at b;have a:=hx.out.only c (by omega);have E1:=aK.grown (E:=aL) (l:=done) D1.out c (fun k e=>by cases e;exact R);have Z:=aA D3.out c;have ha:=b.lt;obtain⟨e0,e1,e2⟩:=am.three a;have ef:=fun j=>am.frozen a j;obtain⟨s,z,y,A⟩:=gD (aK.other (E:=aL) E1 (aB w4 w3.heap.size 1 (I6 (n:Int))) (fun k hk e=>by injection hk with hk;have:=(aK.lt (E:=aL) (l:=done) V.out k e).2;omega)) (b.put (k:=w3.heap.size) (i:=1) (u:=I6 (n:Int)) (by omega)) (Z.put (k:=w3.heap.size) (i:=1) (u:=I6 (n:Int)) (by have:=X.out.size;omega)) (a.I 1 (I6 (n:Int)))
   dsimp only;go_wp2_with fail;obtain⟨W5,L⟩:=nM (w4.setCell ⟨w3.heap.size,1,none⟩ (I6 (n:Int)));rw[L]at s z y A;simp only[L.out];refine(dy g 2 o3 _ z.out (by omega)).mono ?_;rintro e w7 ⟨rfl,b,c⟩;obtain⟨n2,Y⟩:=nx (((o3.bind (bk 2)).map Prod.fst).getD 0);rw[Y];generalize(o3.bind (bk 2)).map Prod.snd=o4 at b;have a:=A.out.only c (by omega);have E1:=aK.grown (E:=aL) (l:=done) s.out c (fun k e=>by cases e;exact R);have Z:=aA y.out c;have ha:=b.lt;obtain⟨e0,e1,e2⟩:=am.three a;have ef:=fun j=>am.frozen a j;obtain⟨s,z,y,A⟩:=gD (aK.other (E:=aL) E1 (aB w7 w3.heap.size 2 (I6 (n2:Int))) (fun k hk e=>by injection hk with hk;have:=(aK.lt (E:=aL) (l:=done) V.out k e).2;omega)) (b.put (k:=w3.heap.size) (i:=2) (u:=I6 (n2:Int)) (by omega)) (Z.put (k:=w3.heap.size) (i:=2) (u:=I6 (n2:Int)) (by have:=X.out.size;omega)) (a.I 2 (I6 (n2:Int)));dsimp only;go_upto_region 7 with(fail);obtain⟨W6,M⟩:=nM (w7.setCell ⟨w3.heap.size,2,none⟩ (I6 (n2:Int)));rw[M]at s z y A;simp only[M.out];obtain⟨s0,s1,s2⟩:=am.three A.out;have hf:(done.length+1)*aL.bytes<=140737488355328:=by show(done.length+1)*24<=_;omega
   have hh:done.length < 1000000000000000000:=by omega
   have hj:=y.out.size;go_wp2_with (at_builtin;refine b5 aL rfl (.tmp 18) (.tmp 20) rfl s.out hj ⟨T,n,n2⟩ rfl rfl hf hh ?_;intro v' w6 F p);have O:=aK.lt (E:=aL) (l:=done) s.out;obtain⟨G1,G2,G3⟩:=gC F (z.out.only p (fun e=>by have:=(O g e.symm).1;omega)) (dx y.out p (fun k e=>(O k e).1));go_wp2;go_roundw
   case rel=>exact⟨i+1,done++[⟨T,n,n2⟩],_,by omega,by go_num,by simp;omega,G1.out,G2.out,G3.out⟩
   case measure=>simp[intOf];omega
  ·obtain⟨Ao,co,rfl,_⟩:=(aK.rw (E:=aL) (l:=done) C.out).slice;have hq:done.length<=64:=by omega
   subst hd;have HT:∀W,pw aL w g 64 (fun t=>k8 t=true) (.returned (aS)) W↔∃o,RS W g o/\aW g w W:=fun W=>⟨fun⟨_,_,o,_,_,_,_,f,m⟩=>⟨o,f,m⟩,fun⟨o,f,m⟩=>⟨_,[],o,rfl,aK.nil _ _,by simp,by simp,f,m⟩⟩;go_wp2_with fail;refine(er g q _ D.out).mono ?_;rintro _e _w ⟨rfl,rfl⟩;cases q with
   |none=>
    go_wp2_with fail;refine(fv g _ _ D.out).mono ?_;rintro _e w6 ⟨rfl,f,m⟩;obtain⟨G,I⟩:=gB f (aA U.out m);go_wp2;go_ret;exact(HT _).2 ⟨_,G.out,I.out⟩
   |some r=>
    go_wp2_with fail;refine(jz _ (aK.rw (E:=aL) (l:=done) C.out) (by omega)).mono ?_;rintro _e w6 ⟨hc,hb⟩;obtain⟨G,I,B3⟩:=gC (RS.only D.out (row:=some (g+1)) (aG hb) (by simp)) (aA U.out (aG hb)) (aI C.out hb);rcases hc with rfl|⟨rfl,hl,hok⟩
    ·go_wp2_with fail;refine(fv g _ _ G.out).mono ?_;rintro _e w7 ⟨rfl,f,m⟩;obtain⟨B4,B5⟩:=gB f (aA I.out m);go_wp2;go_ret;exact(HT _).2 ⟨_,B4.out,B5.out⟩
    ·go_wp2;go_ret;exact⟨_,done,_,rfl,B3.out,hl,hok,G.out,I.out⟩
namespace Hd
def z0:be:=⟨⟨0,0⟩,0,0⟩
def m5(w:World)(o:Option be)(a:Ending)(w':World):Prop:=
 Rt a (.tuple #[.agg #[I6 (o.getD z0).d.nd,I6 (o.getD z0).d.n,I6 (o.getD z0).rc,I6 (o.getD z0).un],.bool o.isSome])/\Below w.heap.size w w'
def fg(l:List be)(d:bC):Option be:=if tx l d then l[pos l d]? else none
theorem vp{w w':World}{t:be}(h:Below w.heap.size w w'):m5 w (some t) (.returned (.tuple #[.agg #[I6 t.d.nd,I6 t.d.n,I6 t.rc,I6 t.un],.bool true])) w':=⟨rfl,h⟩
theorem vq{w w':World}(h:Below w.heap.size w w'):m5 w none (.returned (.tuple #[.agg #[I6 0,I6 0,I6 0,I6 0],.bool false])) w':=⟨rfl,h⟩
end Hd
section
variable{t:TypeId}{x y z u a b c d:Value}
theorem am.four(h:am w g t #[x,y,z,u]):Ce w g 0 x/\Ce w g 1 y/\Ce w g 2 z/\Ce w g 3 u:=
 ⟨h.cell 0,h.cell 1,h.cell 2,h.cell 3⟩
theorem am.bt(h:am w g t #[x,y,z,u]) a b c d:am ((((w.setCell ⟨g,0,none⟩ a).setCell ⟨g,1,none⟩ b).setCell ⟨g,2,none⟩ c).setCell ⟨g,3,none⟩ d) g t #[a,b,c,d]:=by
 have:=(((h.I 0 a).I 1 b).I 2 c).I 3 d;simpa using this
end
namespace Hd
theorem B7{w w':World}{g:Nat}(h:Below w.heap.size w w')(f:w.heap.size<=g) a b c d:Below w.heap.size w ((((w'.setCell ⟨g,0,none⟩ a).setCell ⟨g,1,none⟩ b).setCell ⟨g,2,none⟩ c).setCell ⟨g,3,none⟩ d):=
 (((h.setCell f a).setCell f b).setCell f c).setCell f d
theorem B8 A(c:Nat)(l:List be)(d:bC) w(hr:Sl w 4 A l.length (a6 l))(hn:l.length<=9223372036854775807):
  Cs 277 #[.slice A l.length c,.agg #[I6 d.nd,I6 d.n]] w (m5 w (fg l d)):=by
 have q:=aH hr;apply cI;go_in;go_wp2_with fail;refine(rJ A c l d _ (q.below ((ba _ _).alloc (by simp) _)) hn).mono ?_;rintro e w' ⟨rfl,s⟩;have B:=aH (((ba w (.cells #[I6 d.nd,I6 d.n] 42)).alloc (by simp) (.cells #[I6 0,I6 0,I6 0,I6 0] 212)).trans (s.mono (by simp;omega)));have a:=(am.new (w.alloc (.cells #[I6 d.nd,I6 d.n] 42)) 212 #[I6 0,I6 0,I6 0,I6 0]).below s;rw[qA]at a;have u:=aH a;obtain⟨z,C,D,F⟩:=a.four;have hf:=fun j=>a.frozen j;cases hI:tx l d
 ·have f:Hid (fg l d=none):=aH (by unfold fg;rw[hI];rfl);go_wp2_with fail;obtain⟨i,m,n,p⟩:=(u.bt (I6 0) (I6 0) (I6 0) (I6 0)).four;refine bodyPost_ret (v:=.tuple #[.agg #[I6 0,I6 0,I6 0,I6 0],.bool false]) (by simp[results,results277,go_sem,i,m,n,p]) rfl ?_;rw[f];exact vq (B7 B (by omega) _ _ _ _)
 ·have b:pos l d < l.length:=by
   unfold tx at hI;rcases jH (pos l d) l.length with h|h
   ·exact h
   ·rw[jB h]at hI;cases hI
  obtain⟨g,o,rfl,G,x,c1,c2,c3⟩:=ep (q.below B) (zA b);have f:Hid (fg l d=some l[pos l d]):=aH (by unfold fg;rw[hI,zA b];rfl);generalize a:l[pos l d]=t at x c1 c2 c3 f;obtain⟨k,y⟩:=nx (pos l d);rw[y]at b x c1 c2 c3 ⊢;go_wp2_with fail;obtain⟨i,m,n,p⟩:=(u.bt (I6 t.d.nd) (I6 t.d.n) (I6 t.rc) (I6 t.un)).four;refine bodyPost_ret (v:=.tuple #[.agg #[I6 t.d.nd,I6 t.d.n,I6 t.rc,I6 t.un],.bool true]) (by simp[results,results277,go_sem,i,m,n,p]) rfl ?_;rw[f];exact vp (B7 B (by omega) _ _ _ _)
def DD(w0:World)(g:Nat)(K:Nat)(a:Array Value)(p:be->Bool):Prop:=∀t W,aW g w0 W->Cs K (#[.agg #[I6 t.d.nd,I6 t.d.n,I6 t.rc,I6 t.un]]++a) W fun e W'=>Rt e (.bool (p t))/\Below W.heap.size W W'
theorem m7{w}{g:Nat}{e:TypeId}{q:List be}{sp}(h:aR w g e (a6 q++sp)):Sl w 4 (some ⟨g,0,none⟩) q.length (a6 q):=
 ⟨eW q,fun _=>⟨g,0,rfl,ap h,fun j u hu=>by
  rw[zR,h.cell,qQ (zE.1 hu).1];exact hu⟩⟩
theorem oa(q:List be)(i:Nat)(hi:i < q.length)(t:be) sp:
  ((((a6 q++sp).set (i*4) (I6 t.d.nd)).set (i*4+1) (I6 t.d.n)).set (i*4+2) (I6 t.rc)).set (i*4+3) (I6 t.un)=a6 (q.set i t)++sp:=by
 induction q generalizing i with
 |nil=>simp at hi
 |cons a q ih=>
  cases i with
  |zero=>simp[a6,bI]
  |succ i=>
   have h:=ih i (by simpa using hi);have e:a6 (a::q)++sp=bI a++(a6 q++sp):=by simp[a6]
   have b:a6 ((a::q).set (i+1) t)++sp=bI a++(a6 (q.set i t)++sp):=by simp[a6]
   rw[e,b,<-h];have k:∀(xs:List Value) (j:Nat) (v:Value),(bI a++xs).set (j+4) v=bI a++xs.set j v:=fun xs j v=>by
    rw[yW _ _ (by simp[fi])];simp[fi]
   rw[show(i+1)*4=i*4+4 by omega,k,show i*4+4+1=(i*4+1)+4 by omega,k,show i*4+4+2=(i*4+2)+4 by omega,k,show i*4+4+3=(i*4+3)+4 by omega,k]
end Hd
theorem aR.bt{e:TypeId}{q:List be}{sp}(h:aR w g e (a6 q++sp))(i:Nat)(hi:i < q.length)(t:be):
  aR ((((w.setCell ⟨g,i*4,none⟩ (I6 t.d.nd)).setCell ⟨g,i*4+1,none⟩ (I6 t.d.n)).setCell ⟨g,i*4+2,none⟩ (I6 t.rc)).setCell ⟨g,i*4+3,none⟩ (I6 t.un)) g e (a6 (q.set i t)++sp):=by
 have a:am w g e (a6 q++sp).toArray:=h;have:=(((a.I (i*4) (I6 t.d.nd)).I (i*4+1) (I6 t.d.n)).I (i*4+2) (I6 t.rc)).I (i*4+3) (I6 t.un);rw[<-oa q i hi t sp];unfold am at this;unfold aR;rw[this];simp only[zW]
namespace Hd
theorem zj(w:World)(g i:Nat) a b c d:aW g w ((((w.setCell ⟨g,i,none⟩ a).setCell ⟨g,i+1,none⟩ b).setCell ⟨g,i+2,none⟩ c).setCell ⟨g,i+3,none⟩ d):=
 aA (aA (aA (aB w g i a) (aB _ g (i+1) b)) (aB _ g (i+2) c)) (aB _ g (i+3) d)
def vu(w:World)(base:Nat)(own:Option Nat)(m:List be)(a:Ending)(w':World):Prop:=
 ∃v,Rt a v/\w'.ownsRow base 212 4 v m.length (a6 m)/\w.grownBy w' own
theorem sx(p:be->Bool)(l:List be)(h:l.length<=kk p l):l.filter (fun t=>!p t)=l:=by
 induction l with
 |nil=>rfl
 |cons t l ih=>
  unfold kk at h;cases hp:p t
  ·rw[hp]at h;rw[List.filter_cons,hp,ih (by simpa using h)];rfl
  ·rw[hp]at h;simp at h
theorem qs(p:be->Bool)(l:List be)(h:kk p l < l.length):(l.take (kk p l+1)).filter (fun t=>!p t)=l.take (kk p l):=by
 induction l with
 |nil=>simp at h
 |cons t l ih=>
  unfold kk at h ⊢;cases hp:p t
  ·rw[hp]at h;have:=ih (by simpa using h);simp only[jG,if_false,zF,List.filter_cons,hp,Bool.not_false,if_true];rw[this]
  ·simp[hp]
structure ip(p:be->Bool)(l q:List be)(i j:Nat):Prop where
 len:q.length=l.length
 lt:i < j
 le:j<=l.length
 done:q.take i=(l.take j).filter fun t=>!p t
 todo:q.drop j=l.drop j
theorem ip.start(p:be->Bool)(l:List be)(h:kk p l < l.length):ip p l l (kk p l) (kk p l+1):=⟨rfl,by omega,by omega,(qs p l h).symm,rfl⟩
theorem ip.at_{p:be->Bool}{l q:List be}{i j:Nat}(h:ip p l q i j)(a:j < l.length):q[j]?=some l[j]:=by
 have:(q.drop j)[0]?=(l.drop j)[0]?:=by rw[h.todo]
 rw[List.getElem?_drop,List.getElem?_drop,wD]at this;rw[this,zA a]
theorem lG(p:be->Bool)(l:List be)(j:Nat)(a:j < l.length):(l.take (j+1)).filter (fun t=>!p t)=(l.take j).filter (fun t=>!p t)++if p l[j]then []else [l[j]]:=by
 rw[qE a,List.filter_append];congr 1;cases h:p l[j]<;>simp[h]
theorem ip.skip{p:be->Bool}{l q:List be}{i j:Nat}(h:ip p l q i j)(a:j < l.length)(b:p l[j]=true):ip p l q i (j+1):=
 ⟨h.len,by have:=h.lt;omega,by omega,by rw[lG p l j a,b,h.done];simp,by rw[<-List.drop_drop,h.todo,List.drop_drop]⟩
theorem ip.keep{p:be->Bool}{l q:List be}{i j:Nat}(h:ip p l q i j)(a:j < l.length)(b:p l[j]=false):ip p l (q.set i l[j]) (i+1) (j+1):=by
 have hi:=h.lt;refine⟨by simp[h.len],by omega,by omega,?_,?_⟩
 ·rw[lG p l j a,b,qE (by simp[h.len];omega),List.take_set_of_le (by omega),h.done];simp
 ·rw[List.drop_set_of_lt (by omega),<-List.drop_drop,h.todo,List.drop_drop]
theorem zk{w:World}{base:Nat}{l:List be}{v}(h:w.ownsRow base 212 4 v l.length (a6 l))(a:0 < l.length):
  ∃g cap sp,v=.slice (some ⟨g,0,none⟩) l.length cap/\base<=g/\aR w g 212 (a6 l++sp)/\l.length<=cap/\cap<=maxLen/\(a6 l++sp).length=cap*4:=by
 obtain⟨g,cap,cs,hv,c,f,i,b,a,j⟩:=p0 h a;refine⟨g,cap,cs.drop (l.length*4),hv,c,?_,a,j,?_⟩
 ·rw[<-b,yB];exact f
 ·rw[<-b,yB];exact i
theorem od(K:Nat) caps(p:be->Bool)(base:Nat)(v:Value)(l:List be)(w:World)(hown:w.ownsRow base 212 4 v l.length (a6 l))
  (hn:l.length<=1000000) (hent:∀args W,(callFunc K args).run prog W=.ok (.enter K args) W) (ht:Em w K caps p) (hp:∀g,v.ownBlock=some g->DD w g K caps p):
  Cs 118 #[v,.func (.func K) #[] caps] w (vu w base v.ownBlock (l.filter fun t=>!p t)):=by
 obtain⟨N,hi,V,X,hC⟩:=info_parts pc;rcases jH (kk p l) l.length with hk|hk
 ·obtain⟨g,cap,sp,rfl,Y,F,Z,ha,G⟩:=zk hown (by omega);obtain⟨HR,HP,D,HS⟩:=gD F (hp g rfl) (k0 K caps p (some ⟨g,0,none⟩) cap l w (m7 F) (by omega) hent ht) (ip.start p l hk);have O:ey (kk p l) l.length=(kk p l:Nat):=by simp[ey,hk]
  rw[O]at D;obtain⟨R,hb⟩:=nx (kk p l);rw[hb]at D HS hk;have hD:((R:Int)== -1)=false:=beq_eq_false_iff_ne.2 (by omega);obtain⟨hc,hf⟩:=gB G ha;apply cI;go_in;go_wp2_with fail;refine D.mono ?_;rintro e w1 ⟨rfl,n⟩;obtain⟨hg,hh⟩:=gB (HR.below n) (aG (g:=g) n);go_wp2_with fail;go_loopw[5,6] (fun vi vj wr=>∃(i j:Nat) (q:List be),vi=I6 i/\vj=I6 j/\ip p l q i j/\aR wr g 212 (a6 q++sp)/\aW g w wr) (fun _ vj _=>l.length - (intOf vj).toNat)
  case atStart=>exact⟨R,R+1,l,rfl,by go_num,HS,hg,hh⟩
  case round=>
   obtain⟨i,j,q,rfl,rfl,hd,hr,ho⟩:=hrel;obtain⟨HD,s,H⟩:=gC hd hr ho;have hE:=hd.lt;have hF:=hd.le;have u:=hd.len;by_cases hlt:j < l.length
   ·obtain⟨g',o',b,hG,c0,c1,c2,c3⟩:=ep (m7 s) (hd.at_ hlt);injection b with b;injection b with hgo1 hgo2;subst hgo1;subst hgo2;rw[zR]at c0 c1 c2 c3;obtain⟨HQ,x,z⟩:=gC u (fun hp=>HD.keep hlt hp) (fun hp=>HD.skip hlt hp);generalize hz:l[j]=t at c0 c1 c2 c3 x z;go_wp2_with fail;refine(HP t _ (aA H (aG (ba _ _)))).mono ?_;rintro e w2 ⟨rfl,I⟩;obtain⟨M,C⟩:=gB (aA (aA H (aG (ba wr (.cells #[I6 t.d.nd,I6 t.d.n,I6 t.rc,I6 t.un] 212)))) (aG I)) ((s.below (ba wr (.cells #[I6 t.d.nd,I6 t.d.n,I6 t.rc,I6 t.un] 212))).below I);obtain⟨e0,e1,e2,e3⟩:=((am.new wr 212 #[I6 t.d.nd,I6 t.d.n,I6 t.rc,I6 t.un]).below I).four;have J:i < l.length:=by omega
    have hl:i < q.length:=by rw[HQ];exact J
    obtain⟨g',o',b,hH,f0,f1,f2,f3⟩:=ep (m7 C) (zA hl);injection b with b;injection b with hgo1 hgo2;subst hgo1;subst hgo2;rw[zR]at f0 f1 f2 f3;generalize q[i]=y at f0 f1 f2 f3;have hI:=fun j=>am.frozen (t:=212) (cs:=(a6 q++sp).toArray) C j;cases he:p t
    ·obtain⟨S,hm,hq⟩:=gC (x he) (C.bt i (by rw[HQ];exact J) t) (aA M (zj w2 g (i*4) (I6 t.d.nd) (I6 t.d.n) (I6 t.rc) (I6 t.un)));go_wp2_with fail;go_roundw
     case rel=>exact⟨i+1,j+1,q.set i t,by go_num,by go_num,S,hm,hq⟩
     case measure=>simp[intOf];omega
    ·have S:=aH (z he);go_wp2_with fail;go_roundw
     case rel=>exact⟨i,j+1,q,rfl,by go_num,S,C,M⟩
     case measure=>simp[intOf];omega
   ·have T:j=l.length:=by omega
    have J:i < l.length:=by omega
    have hs:=e5 (P:=prog) 139 212 N underlying139 hi 4 X .i64 g 0 l.length cap (i:Int) i rfl (by omega) (by omega);have hJ:=eo (P:=prog) 139 212 N underlying139 hi .i64 (some ⟨g,0,none⟩) l.length cap i (by omega);rw[zR]at hs;have hA:(a6 q).length=l.length*4:=by rw[eW,u]
    have a:(a6 q++sp).length=cap*4:=by have:=hc.out;rw[zC,eW]at this;rw[zC,eW,u];exact this
    obtain⟨f,m⟩:=nx ((a6 q++sp).take (i*4)++(Builtin.zeroCells (Value.agg #[I6 0,I6 0,I6 0,I6 0]).cells (l.length - i)).toList++(a6 q++sp).drop (i*4+(Builtin.zeroCells (Value.agg #[I6 0,I6 0,I6 0,I6 0]).cells (l.length - i)).toList.length));have hu:(Builtin.zeroCells (Value.agg #[I6 0,I6 0,I6 0,I6 0]).cells (l.length - i)).toList.length=(l.length - i)*4:=by rw[Array.length_toList,size_zeroCells];rfl
    have G:∀(ty:TypeId),(Builtin.clear_ #[139] ty #[.slice (some ⟨g,i*4,none⟩) (l.length - i) (cap - i)]).run prog wr=.ok (.tuple #[]) (wr.setRow g f.toArray):=fun ty=>by
     have h:=eZ (P:=prog) wr 139 212 ty N _ g (i*4) (l.length - i) (cap - i) (a6 q++sp).toArray 212 underlying139 hi V (by omega) s
      (by simp only[qT,a];show i*4+(l.length - i)*4<=cap*4;omega) (fun v hv=>by simp[Value.cells]at hv;subst hv;rfl)
     rw[h];simp only[m]
    have L:f.length=cap*4:=by
     rw[<-m];simp only[zC,zU,qB,hu];simp only[zC]at a;rw[a];omega
    have hw:f.take (i*4)=a6 (l.filter fun t=>!p t):=by
     rw[<-m,zH,qD (by rw[zU,a];omega),yO,Nat.min_self,qD (by omega),<-lB,hd.done,T,qP nR]
    have hy:(l.filter fun t=>!p t).length=i:=by
     have:=congrArg List.length hd.done;rw[T,qP nR,zU,u]at this;omega
    have U:Hid (vu w base (some g) (l.filter fun t=>!p t) (.returned (.slice (some ⟨g,0,none⟩) i cap)) (wr.setRow g f.toArray)):=aH
     ⟨_,rfl,by rw[hy];exact aR.own (cs:=f) (s.set f) Y (by omega) hf L hw,aA H (dX _ _ _)⟩
    have hB:(l.length:Int)<=(cap:Int):=by omega
    subst T;go_wp2_with (refine dv _ rfl (.tmp 38) 139 rfl _ rfl (G _) ?_);go_ret;exact U
 ·have HF:=aH (sx p l hk);obtain⟨A,c,rfl,Z⟩:=bV hown;have D:=aH (k0 K caps p A c l w (fM.aa hown).sl (by omega) hent ht);have O:ey (kk p l) l.length= -1:=by simp[ey];omega
  rw[O]at D;have H:=aH hown;apply cI;go_in;go_wp2_with fail;refine D.mono ?_;rintro e w1 ⟨rfl,n⟩;have B:=aH n;go_wp2_with fail;go_ret;exact⟨_,rfl,by rw[HF];exact aI H B,⟨B.os,B.tape,B.output,B.size,fun k hk _=>B.block k hk⟩⟩
def oe(l:List be)(a:Int):List be:=l.filter fun t=>decide (a < t.un)
theorem xO{w w1 w2:World}{base:Nat}{own}{m:List be}{en}(c:Below w.heap.size w w1)(a:w.heap.size<=base)(b:∀k,own=some k->w.heap.size<=k)(h:vu w1 base own m en w2):l2 w m en w2:=by
 obtain⟨v,rfl,f,g⟩:=h;exact⟨v,rfl,dJ f a,c.grown g c.size b⟩
def fQ(w:World)(b:Nat)(n:Int):Prop:=am w b 3 #[I6 n]
theorem fQ.cell{w:World}{b:Nat}{n:Int}(h:fQ w b n):Ce w b 0 (I6 n):=am.cell h 0
theorem fQ.below{w w':World}{b:Nat}{n:Int}(h:fQ w b n)(a:Below w.heap.size w w'):fQ w' b n:=am.below h a
theorem fQ.alloc{w:World}{b:Nat}{n:Int}(h:fQ w b n)(o:Obj):fQ (w.alloc o) b n:=am.alloc h o
theorem fQ.new(w:World)(n:Int):fQ (w.alloc (.cells #[I6 n] 3)) w.heap.size n:=am.new w _ _
theorem oh(b:Nat)(t:be)(a:Int)(w:World)(c:fQ w b a):
  Cs 120 #[.agg #[I6 t.d.nd,I6 t.d.n,I6 t.rc,I6 t.un],Pt b] w fun e w'=>Rt e (.bool (decide (t.un<=a)))/\Below w.heap.size w w':=by
 have g:=fun o=>(c.alloc o).cell;have f:=fun o=>aH (ba w o);apply cI;go_in;go_wp2;go_ret;exact⟨rfl,(f _).out⟩
theorem pz(b a:Nat)(t:be) d(r:Int)(w:World)(hb:ei w b d)(hb2:fQ w a r):
  Cs 173 #[.agg #[I6 t.d.nd,I6 t.d.n,I6 t.rc,I6 t.un],Pt b,Pt a] w fun e w'=>Rt e (.bool (lW t.d d&&t.rc==r))/\Below w.heap.size w w':=by
 have i:=fun o=>(hb.alloc o).cells.1;have g:=fun o=>(hb.alloc o).cells.2;have h:=fun o=>(hb2.alloc o).cell;have c:=fun o=>aH (ba w o);have f:=fun W=>jb t.d d W;have j:=fun op x y W=>iH op x y t.d d W;cases he:lW t.d d;all_goals
  rw[he]at f;apply cI;go_in;go_wp2;go_ret;exact⟨by simp,(c _).out⟩
theorem B9(l:List be)(now:Int):(l.filter fun t=>!decide (t.un<=now))=oe l now:=by
 unfold oe;congr 1;funext t
 rw[Bool.eq_iff_iff];simp
theorem zl A(c:Nat)(l:List be)(now:Int) w(hr:Sl w 4 A l.length (a6 l))(hn:l.length<=10000):
  Cs 60 #[.slice A l.length c,I6 now] w (l2 w (oe l now)):=by
 obtain⟨m,n⟩:=gB hr (B9 l now);apply cI;go_in;go_wp2_with fail;refine(iG A l.length c _ _ (m.below (ba _ _)) (gT l) (by omega)).mono ?_;rintro e w1 ⟨v1,rfl,f,a⟩;obtain⟨p,j,h⟩:=gC ((ba w (.cells #[I6 now] 3)).trans (a.mono (by simp))) ((fQ.new w now).below a) (dJ f (base':=w.heap.size+1) (by simp));go_wp2_with fail;refine(od 120 #[Pt w.heap.size] (fun t=>decide (t.un<=now)) (w.heap.size+1) v1 l w1 h (by omega) (aQ func120 (by kernel_rfl) (by kernel_rfl))
  (fun t W hW=>oh _ t now W (j.below hW)) (fun g hg t W hW=>oh _ t now W (am.only j hW (by have:=(c8 h g hg).1;omega)))).mono ?_
 rintro e w2 i;have q:=xO p (by omega) (fun k hk=>by have:=(c8 h k hk).1;omega) i;obtain⟨v2,rfl,b⟩:=q;rw[n]at b;have s:=aH b;go_wp2;go_ret;exact⟨v2,rfl,s⟩
def Cb(l:List be)(d:bC)(r:Int):List be:=l.filter fun t=>!(lW t.d d&&t.rc==r)
theorem Cc A(c:Nat)(l:List be)(d:bC)(r:Int) w(hr:Sl w 4 A l.length (a6 l))(hn:l.length<=10000):
  Cs 86 #[.slice A l.length c,.agg #[I6 d.nd,I6 d.n],I6 r] w (l2 w (Cb l d r)):=by
 have p:=aH hr;apply cI;go_in;go_wp2_with fail;refine(iG A l.length c _ _ (p.below ((ba _ _).alloc (by simp) _)) (gT l) (by omega)).mono ?_;rintro e w1 ⟨v1,rfl,h,a⟩;obtain⟨q,j⟩:=gB (((ba w (.cells #[I6 d.nd,I6 d.n] 42)).alloc (by simp) (.cells #[I6 r] 3)).trans (a.mono (by simp;omega))) (((ei.new w d).alloc (.cells #[I6 r] 3)).below a);have f:=(fQ.new (w.alloc (.cells #[I6 d.nd,I6 d.n] 42)) r).below a;rw[qA]at f;obtain⟨m,b⟩:=gB f (dJ h (base':=w.heap.size+2) (by simp));go_wp2_with fail;refine(od 173 #[Pt w.heap.size,.pointer (some ⟨w.heap.size+1,0,none⟩)] (fun t=>lW t.d d&&t.rc==r) (w.heap.size+2) v1 l w1 b (by omega) (aQ func173 (by kernel_rfl) (by kernel_rfl))
  (fun t W hW=>pz _ _ t d r W (j.below hW) (m.below hW)) (fun g hg t W hW=>pz _ _ t d r W (am.only j hW (by have:=(c8 b g hg).1;omega)) (am.only m hW (by have:=(c8 b g hg).1;omega)))).mono ?_
 rintro e w2 i;have s:=xO q (by omega) (fun k hk=>by have:=(c8 b k hk).1;omega) i;obtain⟨v2,rfl,n⟩:=s;have u:=aH n;go_wp2;go_ret;exact⟨v2,rfl,u⟩
def vw(w:World)(a:Int)(l:List be)(b:Ending)(w':World):Prop:=∃v,Rt b (.tuple #[v,I6 a])/\FL w l v w'
theorem fs{w w':World}(a:Int)(h:Below w.heap.size w w'):vw w a [] (.returned (.tuple #[aS,I6 a])) w':=⟨_,rfl,FL.nil h⟩
def kA(d:bC)(r:Int):Bool:=aO d&&p3 r
def iR(a u:Int):Bool:=decide (a < u)&&Dc u
def iS(o:Option be)(a r u:Int):Int:=match o with|some h=>if h.rc==r&&decide (a < h.un)&&decide (u < h.un)then h.un else u|none=>u
def cE(l:List be)(a:Int)(d:bC)(r u:Int):Int:=
 if !kA d r then 1 else if !iR a u then 18 else match fg l d with
 |some h=>if !(h.rc==r)&&decide (a < h.un)then 16 else 0
 |none=>if l.length>=1000 then 15 else 0
def vx(l:List be)(d:bC)(h:be):List be:=if tx l d then l.set (pos l d) h else l.take (pos l d)++[h]++l.drop (pos l d)
def eG(l:List be)(a:Int)(d:bC)(r u:Int):List be:=if cE l a d r u=0 then vx l d ⟨d,r,iS (fg l d) a r u⟩else []
theorem vy{l:List be}{a:Int}{d}{r u:Int}(h:kA d r=false):cE l a d r u=1/\eG l a d r u=[]:=by
 have:cE l a d r u=1:=by unfold cE;rw[h];rfl
 exact⟨this,by unfold eG;rw[this];rfl⟩
theorem sy{l:List be}{a:Int}{d}{r u:Int}(h:kA d r=true)(b:iR a u=false):cE l a d r u=18/\eG l a d r u=[]:=by
 have:cE l a d r u=18:=by unfold cE;rw[h,b];rfl
 exact⟨this,by unfold eG;rw[this];rfl⟩
theorem Cd{l:List be}{d}(h:tx l d=true):∃t,l[pos l d]?=some t/\fg l d=some t/\pos l d < l.length:=by
 unfold tx at h;cases hk:l[pos l d]? with
 |none=>rw[hk]at h;cases h
 |some t=>exact⟨t,rfl,by unfold fg;rw[show tx l d=true by unfold tx;rw[hk];rw[hk]at h;exact h,hk];rfl,(zE.1 hk).1⟩
theorem sA{l:List be}{d}(h:tx l d=false):fg l d=none:=by unfold fg;rw[h];rfl
theorem Cf{w:World}{base:Nat}{n g cap:Nat}{L:List be}(h:w.ownsRow base 212 4 (.slice (some ⟨g,0,none⟩) n cap) n (a6 L))(i:Nat)(hi:i < L.length)(t:be):
  ((((w.setCell ⟨g,i*4,none⟩ (I6 t.d.nd)).setCell ⟨g,i*4+1,none⟩ (I6 t.d.n)).setCell ⟨g,i*4+2,none⟩ (I6 t.rc)).setCell ⟨g,i*4+3,none⟩ (I6 t.un)).ownsRow base 212 4 (.slice (some ⟨g,0,none⟩) n cap) n (a6 (L.set i t)):=by
 have:=l1 (l1 (l1 (l1 h (i*4) (I6 t.d.nd)) (i*4+1) (I6 t.d.n)) (i*4+2) (I6 t.rc)) (i*4+3) (I6 t.un);have a:=oa L i hi t [];simp only[qU]at a;rw[a]at this;exact this
theorem fD{w w3:World}{n g cap i:Nat}{L b:List be}{c:Int}(h:w3.ownsRow (w.heap.size+1) 212 4 (.slice (some ⟨g,0,none⟩) n cap) n (a6 L))(f:Below w.heap.size w w3)(hi:i < L.length)(t:be)(j:L.length=n)(a:w.heap.size<=g)(k:b=L.set i t):
  vw w c b (.returned (.tuple #[.slice (some ⟨g,0,none⟩) n cap,I6 c])) ((((w3.setCell ⟨g,i*4,none⟩ (I6 t.d.nd)).setCell ⟨g,i*4+1,none⟩ (I6 t.d.n)).setCell ⟨g,i*4+2,none⟩ (I6 t.rc)).setCell ⟨g,i*4+3,none⟩ (I6 t.un)):=by
 subst k;have m:=dJ (Cf h i hi t) (base':=w.heap.size) (by omega);refine⟨_,rfl,?_,(((f.setCell a _).setCell a _).setCell a _).setCell a _⟩;rw[List.length_set,j];exact m
theorem DE(l:List be)(k:Nat)(f:k<=l.length)(a b:be):(l.take k++[a]++l.drop k).set k b=l.take k++[b]++l.drop k:=by
 have c:(l.take k).length=k:=by simp;omega
 rw[zH,yW _ _ (by omega),c,zH];simp
set_option maxRecDepth 20000 in
theorem zm(A:Option Addr)(c:Nat)(l:List be)(a:Int)(d:bC)(r u:Int)(w:World)(hr:Sl w 4 A l.length (a6 l))(hn:l.length<=10000):
  Cs 168 #[.slice A l.length c,I6 a,.agg #[I6 d.nd,I6 d.n],I6 r,I6 u] w (vw w (cE l a d r u) (eG l a d r u)):=by
 obtain⟨W0,O⟩:=nx (w.alloc (.cells #[I6 d.nd,I6 d.n] 42));have R:Bw w W0:=O▸ba _ _;have S:ei W0 w.heap.size d:=O▸ei.new w d;have hj:=hr.below R;obtain⟨B0,Hr,HD⟩:=gC R hj S;obtain⟨x,z⟩:=S.cells;clear hr R S hj;apply cI;go_in;go_wp2_with fail;refine(cG d _).mono ?_;rintro e w1 ⟨rfl,hb⟩;obtain⟨N,H,hl⟩:=gC (B0.trans (hb.mono B0.size)) (HD.below hb) (Hr.below hb);clear hb O Hr x z;obtain⟨x,z⟩:=H.cells;have hD:=am.lt H;cases hA:kA d r
 ·have m:Hid (cE l a d r u=1/\eG l a d r u=[]):=aH (vy hA);unfold kA at hA;cases n:aO d
  ·clear hA n;go_wp2_with fail
   ((try simp only[Exit.inBlock,Exit.then]);refine bodyPost_ret (results_tmp2 rfl _ _ _) rfl ?_)
   rw[m.1,m.2];exact fs 1 N
  ·have s:p3 r=false:=by rw[n]at hA;simpa using hA
   clear hA n;go_wp2_with fail;refine(iE r _).mono ?_;rintro e w' ⟨rfl,rfl⟩;rw[s];clear s;go_wp2_with fail
   ((try simp only[Exit.inBlock,Exit.then]);refine bodyPost_ret (results_tmp2 rfl _ _ _) rfl ?_)
   rw[m.1,m.2];exact fs 1 N
 ·have hu:aO d=true/\p3 r=true:=by
   unfold kA at hA;simpa using hA
  obtain⟨n,s⟩:=hu;rw[n];have B:=aH hA;clear n hA;go_wp2_with fail;refine(iE r _).mono ?_;rintro e w' ⟨rfl,rfl⟩;rw[s];clear s;cases hT:iR a u
  ·have m:Hid (cE l a d r u=18/\eG l a d r u=[]):=aH (sy B hT);unfold iR at hT;by_cases h6:u<=a
   ·clear hT;go_wp2_with fail
    ((try simp only[Exit.inBlock,Exit.then]);refine bodyPost_ret (results_tmp2 rfl _ _ _) rfl ?_)
    rw[m.1,m.2];exact fs 18 N
   ·have T:Dc u=false:=by
     have:decide (a < u)=true:=by simp;omega
     rw[this]at hT;simpa using hT
    have h8:decide (u<=a)=false:=by simpa using h6
    clear hT h6;go_wp2_with fail;refine(mu u _).mono ?_;rintro e w' ⟨rfl,rfl⟩;rw[T];clear T;go_wp2_with fail
    ((try simp only[Exit.inBlock,Exit.then]);refine bodyPost_ret (results_tmp2 rfl _ _ _) rfl ?_)
    rw[m.1,m.2];exact fs 18 N
  ·have hw:a < u/\Dc u=true:=by
    unfold iR at hT;simpa using hT
   obtain⟨h6,T⟩:=hw;have h8:decide (u<=a)=false:=by simp;omega
   have G:=aH hT;clear hT h6;go_wp2_with fail;refine(mu u _).mono ?_;rintro e w' ⟨rfl,rfl⟩;rw[T];clear T h8;go_wp2_with fail;refine(iG A l.length c _ _ hl (gT l) (by omega)).mono ?_;rintro e w2 ⟨v2,rfl,V,X⟩;obtain⟨B2,Y,I⟩:=gC (N.trans (X.mono N.size)) (H.below X) (dJ V (base':=w.heap.size+1) (by omega));clear V X H hl x z;obtain⟨x,z⟩:=Y.cells;obtain⟨A2,c2,rfl,hE⟩:=bV I;go_wp2_with fail;refine(rJ A2 c2 l d _ (fM.aa I).sl (by omega)).mono ?_;rintro e w3 ⟨rfl,J⟩;obtain⟨p,Z,b⟩:=gC (B2.trans (J.mono B2.size)) (Y.below J) (aI I J);clear J Y I x z;obtain⟨x,z⟩:=Z.cells;have hF:=am.lt Z;have L:∀U,iS (fg l d) a r u=U->cE l a d r u=0->Hid (cE l a d r u=0/\eG l a d r u=vx l d ⟨d,r,U⟩):=fun U n s=>aH ⟨s,by unfold eG;rw[if_pos s,n]⟩;have ha:∀E,cE l a d r u=E->E≠0->Hid (cE l a d r u=E/\eG l a d r u=[]):=fun E n s=>aH ⟨n,by unfold eG;rw[n,if_neg s]⟩;obtain⟨HM,m⟩:=gB L ha;clear L ha;cases hI:tx l d
   ·have hf:=sA hI;have C:Hid (∀h,vx l d h=l.take (pos l d)++[h]++l.drop (pos l d)):=aH (fun h=>by unfold vx;rw[hI];rfl);have hc:pos l d<=l.length:=Bq _ l;clear hI;obtain⟨k,D⟩:=nx (pos l d);rw[D]at C hc ⊢;clear D;by_cases h1000:l.length>=1000
    ·have d1:decide ((1000:Int)<=(l.length:Int))=true:=by simp;omega
     have f:=m 15 (by unfold cE;rw[B,G,hf];simp[h1000]) (by omega);clear hf;go_wp2_with fail
     ((try simp only[Exit.inBlock,Exit.then]);refine bodyPost_ret (results_tmp2 rfl _ _ _) rfl ?_)
     rw[f.1,f.2];exact fs 15 p
    ·have d1:decide ((1000:Int)<=(l.length:Int))=false:=by simp;omega
     have f:=HM u (by rw[hf];rfl) (by unfold cE;rw[B,G,hf];simp[h1000]);clear hf;go_wp2_with fail;refine(tO (w.heap.size+1) l.length k _ (a6 l) [I6 0,I6 0,I6 0,I6 0] w3.heap.size _ (aI b (ba _ _)) (am.new _ _ _) rfl (by simp;omega) (fun k hk=>by have:=c8 b k hk;omega) (gT l) (by simp[Value.oneCell']) hc (by omega)).mono ?_;rintro e w4 ⟨v4,rfl,i,hd⟩;obtain⟨L4,M⟩:=nx (l.take k++[z0]++l.drop k);have hh:L4.length=l.length+1:=by rw[<-M];simp;omega
     have hm:(a6 l).take (k*4)++[I6 0,I6 0,I6 0,I6 0]++(a6 l).drop (k*4)=a6 L4:=by
      rw[<-M,jm,jm,lB,rH];rfl
     have hx:=aH (show ∀h,L4.set k h=l.take k++[h]++l.drop k from fun h=>by rw[<-M];exact DE l k hc z0 h);rw[hm,<-hh]at i;have ho:Bw w w4:=(p.alloc p.size _).grown hd (by have:=p.size;simp;omega) (fun k hk=>by have:=(c8 b k hk).1;omega);have hp:ei w4 w.heap.size d:=(hd.block _ (by simp;omega) (fun hk=>by have:=(c8 b _ hk.symm).1;omega)).trans (Z.alloc _);obtain⟨A4,c4,rfl,hC⟩:=bV i;have hq:k < L4.length:=by omega
     obtain⟨g,o,rfl,hg,c0,c1,F,c3⟩:=ep (fM.aa i).sl (zA hq);generalize L4[k]=y at c0 c1 F c3;obtain⟨rfl,hy,-⟩:=Bp i;have hz:=fun j=>mx i j;rw[zR]at c0 c1 F c3;obtain⟨hB,B4⟩:=gB i ho;clear x z;obtain⟨x,z⟩:=hp.cells;have hG:=aH hh;clear i hd ho M hm hp hh;go_wp2_with fail
     ((try simp only[Exit.inBlock,Exit.then]);refine bodyPost_ret (results_tmp2 rfl _ _ _) rfl ?_)
     rw[f.1,f.2,C,<-hx];exact fD hB B4 hq ⟨d,r,u⟩ rfl (by omega) rfl
   ·obtain⟨t,hs,hf,q⟩:=Cd hI;have C:Hid (∀h,vx l d h=l.set (pos l d) h):=aH (fun h=>by unfold vx;rw[hI];rfl);clear hI;obtain⟨g,o,rfl,hg,c0,c1,F,c3⟩:=ep (fM.aa b).sl hs;obtain⟨rfl,hy,-⟩:=Bp b;have hz:=fun j=>mx b j;rw[zR]at c0 c1 F c3;obtain⟨k,D⟩:=nx (pos l d);rw[D]at C q c0 c1 F c3 ⊢;clear D hs;cases e1:(t.rc==r)<;>cases e2:decide (a < t.un);all_goals have ht:(t.rc != r)=!(t.rc==r):=rfl
    all_goals rw[e1]at ht
    all_goals simp only[Bool.not_true,Bool.not_false]at ht
    ·have f:=HM u (by rw[hf];simp[iS,e1]) (by unfold cE;rw[B,G,hf];simp[e1,e2]);clear hf;go_wp2_with fail
     ((try simp only[Exit.inBlock,Exit.then]);refine bodyPost_ret (results_tmp2 rfl _ _ _) rfl ?_)
     rw[f.1,f.2,C];exact fD b p q ⟨d,r,u⟩ rfl (by omega) rfl
    ·have f:=m 16 (by unfold cE;rw[B,G,hf];simp[e1,e2]) (by omega);clear hf;go_wp2_with fail
     ((try simp only[Exit.inBlock,Exit.then]);refine bodyPost_ret (results_tmp2 rfl _ _ _) rfl ?_)
     rw[f.1,f.2];exact fs 16 p
    ·have f:=HM u (by rw[hf];simp[iS,e1,e2]) (by unfold cE;rw[B,G,hf];simp[e1,e2]);clear hf;go_wp2_with fail
     ((try simp only[Exit.inBlock,Exit.then]);refine bodyPost_ret (results_tmp2 rfl _ _ _) rfl ?_)
     rw[f.1,f.2,C];exact fD b p q ⟨d,r,u⟩ rfl (by omega) rfl
    ·cases e3:decide (u < t.un)
     ·have f:=HM u (by rw[hf];simp[iS,e1,e2,e3]) (by unfold cE;rw[B,G,hf];simp[e1,e2]);clear hf;go_wp2_with fail;all_goals
       ((try simp only[Exit.inBlock,Exit.then]);refine bodyPost_ret (results_tmp2 rfl _ _ _) rfl ?_)
       (try rw[show max t.un u=u by simp at e3;omega]);(try rw[show max u t.un=u by simp at e3;omega]);rw[f.1,f.2,C];first
        |(exfalso;simp at e3;omega)
        |exact fD b p q ⟨d,r,u⟩ rfl (by omega) rfl
        |(have he:t.un=u:=by(simp at e3;omega)
          rw[he];exact fD b p q ⟨d,r,u⟩ rfl (by omega) rfl)
     ·have f:=HM t.un (by rw[hf];simp[iS,e1,e2,e3]) (by unfold cE;rw[B,G,hf];simp[e1,e2]);clear hf;go_wp2_with fail;all_goals
       ((try simp only[Exit.inBlock,Exit.then]);refine bodyPost_ret (results_tmp2 rfl _ _ _) rfl ?_)
       (try rw[show max t.un u=t.un by simp at e3;omega]);(try rw[show max u t.un=t.un by simp at e3;omega]);rw[f.1,f.2,C];first
        |(exfalso;simp at e3;omega)
        |exact fD b p q ⟨d,r,t.un⟩ rfl (by omega) rfl
        |(have he:t.un=u:=by(simp at e3;omega)
          rw[he];exact fD b p q ⟨d,r,u⟩ rfl (by omega) rfl)
theorem lH{P:Program}{f:FuncId}{args}{w:World}{v}(h:Calls P f args w fun e w'=>Rt e v/\w=w'):Calls P f args w fun e w'=>Rt e v/\Below w.heap.size w w':=
 h.mono fun e w' ⟨he,hw⟩=>by subst hw;exact⟨he,bR _⟩
theorem vz A(n c:Nat)(w:World)(h:1000 < n)(hn:n<=9223372036854775807):
  Cs 363 #[.slice A n c] w fun e w'=>Rt e (I6 1)/\Below w.heap.size w w':=by
 have hd:decide ((1000:Int) < (n:Int))=true:=by simp;omega
 apply cI;go_in;go_wp2_with fail;go_step3;go_wp2_with fail;try rw[qJ]
 go_ret;exact⟨rfl,bR _⟩
end Hd
def oT(t:be):Bool:=aO t.d&&p3 t.rc&&Dc t.un
theorem vA{v}{l:List be}(w:World)(h:Rw bF w v l)(hl:l.length<=1000000000):
  Cs 363 #[v] w fun e w'=>(Rt e (I6 1)\/Rt e (I6 0)/\l.length<=1000/\∀p∈l,oT p=true)/\Below w.heap.size w w':=by
 obtain⟨A,c,rfl,_⟩:=h.slice;have H:=aH h;clear h;rcases jH 1000 l.length with hlong|hl64
 ·exact(Hd.vz A l.length c w hlong (by omega)).mono fun e w' ⟨h1,h2⟩=>⟨.inl h1,h2⟩
 have hd:decide ((1000:Int) < (l.length:Int))=false:=by simp;omega
 have s:Hid True:=aH trivial;apply cI;go_in;go_wp2_with fail;go_step3;go_wp2_with fail;go_step3;go_wp2_with fail;go_loopw[3,4,11] (fun b _ vi wr=>∃k:Nat,k<=l.length/\b=.bool true/\vi=I6 k/\(∀p∈l.take k,oT p=true)/\Bw w wr) (fun _ _ vi _=>l.length - (intOf vi).toNat)
 case atStart=>exact⟨0,zS _,rfl,rfl,by simp,bR _⟩
 case round=>
  obtain⟨k,hk,rfl,rfl,C,M⟩:=hrel;obtain⟨N,OK⟩:=gB M C;by_cases hlt:k < l.length
  ·obtain⟨g,o,rfl,bI⟩:=(H.below M).at_ (zA hlt);have T:Ce wr g (o+k*4) (I6 l[k].d.nd):=bI 0 _ rfl;have c1:Ce wr g (o+k*4+1) (I6 l[k].d.n):=bI 1 _ rfl;have c2:Ce wr g (o+k*4+2) (I6 l[k].rc):=bI 2 _ rfl;have c3:Ce wr g (o+k*4+3) (I6 l[k].un):=bI 3 _ rfl;have D:Hid (oT l[k]=true->∀p∈l.take (k+1),oT p=true):=aH fun h p hp=>by
    rw[qE hlt]at hp;rcases zK.1 hp with hp|hp
    ·exact OK p hp
    ·simp at hp;subst hp;exact h
   clear bI C;generalize l[k]=t at T c1 c2 c3 D;have G:=ba wr (.cells #[I6 t.d.nd,I6 t.d.n,I6 t.rc,I6 t.un] 212);have O:=am.new wr 212 #[I6 t.d.nd,I6 t.d.n,I6 t.rc,I6 t.un];obtain⟨W,R⟩:=nx (wr.alloc (.cells #[I6 t.d.nd,I6 t.d.n,I6 t.rc,I6 t.un] 212));rw[R]at G O;have F:=aH R;obtain⟨U,V,X,Y⟩:=O.four;obtain⟨i,x,y,B⟩:=gD (N.trans (G.mono N.size)) (fun W=>cG t.d W) (fun W=>lH (iE t.rc W)) (fun W=>lH (mu t.un W));have q:Hid (oT t=(aO t.d&&p3 t.rc&&Dc t.un)):=aH rfl;generalize oT t=ot at D q;generalize aO t.d=u1 at x q;generalize p3 t.rc=u2 at y q;generalize Dc t.un=u3 at B q;have Z:=H.below i;have r0:=fun d os=>cell_regrown U d os;have r1:=fun d os=>cell_regrown V d os;have r2:=fun d os=>cell_regrown X d os;have r3:=fun d os=>cell_regrown Y d os;clear R O G M U V X Y;cases u1
   case false=>
    go_wp2_with fail;rw[F];refine wp_region_quiet_below (by kernel_rfl) (by kernel_rfl) ?_;repeat(go_big_quiet_step (first|(go_at_call 245;with_reducible exact Calls.regrown_of (x.out _))|(go_at_call 255;with_reducible exact Calls.regrown_of (y.out _))|(go_at_call 256;with_reducible exact Calls.regrown_of (B.out _))|(go_at_call 333;with_reducible exact Calls.regrown_of (s.out _))|fail))
    refine wpQuiet_nil ?_;intro I a;obtain⟨⟨m,j⟩,a⟩:=a;have f:=aH (i.trans ((below_regrown W m j).mono i.size));rw[<-a]at f;clear a;go_wp2_with fail;try rw[qJ]
    go_ret;exact⟨.inl rfl,f⟩
   cases u2
   case false=>
    go_wp2_with fail;rw[F];refine wp_region_quiet_below (by kernel_rfl) (by kernel_rfl) ?_;repeat(go_big_quiet_step (first|(go_at_call 245;with_reducible exact Calls.regrown_of (x.out _))|(go_at_call 255;with_reducible exact Calls.regrown_of (y.out _))|(go_at_call 256;with_reducible exact Calls.regrown_of (B.out _))|(go_at_call 333;with_reducible exact Calls.regrown_of (s.out _))|fail))
    refine wpQuiet_nil ?_;intro I a;obtain⟨⟨m,j⟩,a⟩:=a;have f:=aH (i.trans ((below_regrown W m j).mono i.size));rw[<-a]at f;clear a;go_wp2_with fail;try rw[qJ]
    go_ret;exact⟨.inl rfl,f⟩
   cases u3
   case false=>
    go_wp2_with fail;rw[F];refine wp_region_quiet_below (by kernel_rfl) (by kernel_rfl) ?_;repeat(go_big_quiet_step (first|(go_at_call 245;with_reducible exact Calls.regrown_of (x.out _))|(go_at_call 255;with_reducible exact Calls.regrown_of (y.out _))|(go_at_call 256;with_reducible exact Calls.regrown_of (B.out _))|(go_at_call 333;with_reducible exact Calls.regrown_of (s.out _))|fail))
    refine wpQuiet_nil ?_;intro I a;obtain⟨⟨m,j⟩,a⟩:=a;have f:=aH (i.trans ((below_regrown W m j).mono i.size));rw[<-a]at f;clear a;go_wp2_with fail;try rw[qJ]
    go_ret;exact⟨.inl rfl,f⟩
   have L:=aH (D (by rw[q];rfl));clear D q;rcases qK k with rfl|hk0
   ·simp only[yG,wD]at T c1 c2 c3;go_wp2_with fail;rw[F];refine wp_region_quiet_below (by kernel_rfl) (by kernel_rfl) ?_;repeat(go_big_quiet_step (first|(go_at_call 245;with_reducible exact Calls.regrown_of (x.out _))|(go_at_call 255;with_reducible exact Calls.regrown_of (y.out _))|(go_at_call 256;with_reducible exact Calls.regrown_of (B.out _))|(go_at_call 333;with_reducible exact Calls.regrown_of (s.out _))|fail))
    refine wpQuiet_nil ?_;intro I a;obtain⟨⟨m,j⟩,a⟩:=a;have f:=aH (i.trans ((below_regrown W m j).mono i.size));rw[<-a]at f;clear a;go_wp2_with fail;go_roundw
    case rel=>exact⟨1,by omega,rfl,rfl,L,f⟩
    case measure=>simp[intOf];omega
   ·obtain⟨n,rfl⟩:∃n,k=n+1:=⟨k - 1,by omega⟩;have S:n < l.length:=by omega
    obtain⟨g',o',J,u⟩:=Z.at_ (zA S);injection J with J;injection J with hgo1 hgo2;subst hgo1;subst hgo2;have x0:Ce W g (o+n*4) (I6 l[n].d.nd):=u 0 _ rfl;have x1:Ce W g (o+n*4+1) (I6 l[n].d.n):=u 1 _ rfl;have y0:=fun d os=>cell_regrown x0 d os;have y1:=fun d os=>cell_regrown x1 d os;have d3:((n:Int)+1==0)=false:=beq_eq_false_iff_ne.2 (by omega);have s:=aH (fun W=>fu l[n].d t.d W);clear u Z x0 x1;generalize l[n].d=z at y0 y1 s;generalize p4 z t.d=u4 at s;cases u4
    ·go_wp2_with fail;rw[F];refine wp_region_quiet_below (by kernel_rfl) (by kernel_rfl) ?_;repeat(go_big_quiet_step (first|(go_at_call 245;with_reducible exact Calls.regrown_of (x.out _))|(go_at_call 255;with_reducible exact Calls.regrown_of (y.out _))|(go_at_call 256;with_reducible exact Calls.regrown_of (B.out _))|(go_at_call 333;with_reducible exact Calls.regrown_of (s.out _))|fail))
     refine wpQuiet_nil ?_;intro I a;obtain⟨⟨m,j⟩,a⟩:=a;have f:=aH (i.trans ((below_regrown W m j).mono i.size));rw[<-a]at f;clear a;go_wp2_with fail;try rw[qJ]
     go_ret;exact⟨.inl rfl,f⟩
    ·go_wp2_with fail;rw[F];refine wp_region_quiet_below (by kernel_rfl) (by kernel_rfl) ?_;repeat(go_big_quiet_step (first|(go_at_call 245;with_reducible exact Calls.regrown_of (x.out _))|(go_at_call 255;with_reducible exact Calls.regrown_of (y.out _))|(go_at_call 256;with_reducible exact Calls.regrown_of (B.out _))|(go_at_call 333;with_reducible exact Calls.regrown_of (s.out _))|fail))
     refine wpQuiet_nil ?_;intro I a;obtain⟨⟨m,j⟩,a⟩:=a;have f:=aH (i.trans ((below_regrown W m j).mono i.size));rw[<-a]at f;clear a;go_wp2_with fail;go_roundw
     case rel=>exact⟨n+1+1,by omega,rfl,by go_num,L,f⟩
     case measure=>simp[intOf];omega
  ·obtain rfl:k=l.length:=by omega
   rw[jJ]at C;go_wp2_with fail;try rw[qJ]
   go_ret;exact⟨.inr ⟨rfl,hl64,C⟩,N⟩
theorem zn(g:Nat)(o:Option (List UInt8)) w(h:RS w g o):
  Cs 292 #[Pt g] w (pw bF w g 1000 fun t=>oT t=true):=by
 have S:=h.lt;have H:=aH h;apply cI;go_in;go_wp2_with fail;refine(dy g 1000 o _ H.out (by omega)).mono ?_;rintro e w1 ⟨rfl,f,m⟩;obtain⟨N,hN⟩:=nx (((o.bind (bk 1000)).map Prod.fst).getD 0);have hm:N<=1000:=by
  rw[<-hN];cases o with
  |none=>simp
  |some l=>cases hp:bk 1000 l with
   |none=>simp[hp]
   |some x=>simp[hp];exact(cO hp).1
 rw[hN];obtain⟨H1,O1⟩:=gB f m;generalize(o.bind (bk 1000)).map Prod.snd=o1 at H1;go_wp2;go_loopw[3,4,7] (fun v3 _ v7 wr=>∃(i:Nat) (done:List be) (q:Option (List UInt8)),i<=N/\v7=I6 i/\done.length=i/\aK bF w.heap.size wr v3 done/\RS wr g q/\aW g w wr) (fun _ _ v7 _=>N - (intOf v7).toNat)
 case atStart=>exact⟨0,[],o1,by omega,rfl,rfl,aK.nil _ _,H1.out,O1.out⟩
 case round=>
  obtain⟨i,done,q,hi,rfl,hd,U,he,B⟩:=hrel;obtain⟨C,D,V⟩:=gC U he B;by_cases hlt:i < N
  ·go_wp2_with fail;refine(kY g q _ D.out).mono ?_;rintro e w3 ⟨rfl,b,c⟩;obtain⟨T,hT⟩:=nx (((q.bind dC).map Prod.fst).getD ⟨0,0⟩);rw[hT];generalize(q.bind dC).map Prod.snd=o2 at b;obtain⟨X,C2,Y⟩:=gC (C.out.grown c (fun k e=>by cases e;exact S)) b (aA V.out c);have L:=ba w3 (.cells #[I6 T.nd,I6 T.n,I6 0,I6 0] 212);obtain⟨D1,D2,D3,hx⟩:=gD (aI X.out L) (C2.out.lay (.cells #[I6 T.nd,I6 T.n,I6 0,I6 0] 212)) (aA Y.out (aG L)) (am.new w3 212 #[I6 T.nd,I6 T.n,I6 0,I6 0]);have ho:=C2.out.lt;dsimp only;go_wp2_with fail;refine(dy g 1099511627776 o2 _ D2.out (by omega)).mono ?_;rintro e w4 ⟨rfl,b,c⟩;obtain⟨n,Z⟩:=nx (((o2.bind (bk 1099511627776)).map Prod.fst).getD 0);rw[Z];generalize(o2.bind (bk 1099511627776)).map Prod.snd=o3 at b;have a:=hx.out.only c (by omega);have E1:=aK.grown (E:=bF) (l:=done) D1.out c (fun k e=>by cases e;exact S);have E3:=aA D3.out c;have ha:=b.lt;obtain⟨e0,e1,e2,e3⟩:=a.four;have ef:=fun j=>am.frozen a j;obtain⟨s,z,y,A⟩:=gD (aK.other (E:=bF) E1 (aB w4 w3.heap.size 2 (I6 (n:Int))) (fun k hk e=>by injection hk with hk;have:=(aK.lt (E:=bF) (l:=done) X.out k e).2;omega)) (b.put (k:=w3.heap.size) (i:=2) (u:=I6 (n:Int)) (by omega)) (E3.put (k:=w3.heap.size) (i:=2) (u:=I6 (n:Int)) (by have:=Y.out.size;omega)) (a.I 2 (I6 (n:Int)));dsimp only;go_wp2_with fail
   obtain⟨W5,M⟩:=nM (w4.setCell ⟨w3.heap.size,2,none⟩ (I6 (n:Int)));rw[M]at s z y A;simp only[M.out];refine(dy g 1125899906842624 o3 _ z.out (by omega)).mono ?_;rintro e w7 ⟨rfl,b,c⟩;obtain⟨n2,Z⟩:=nx (((o3.bind (bk 1125899906842624)).map Prod.fst).getD 0);rw[Z];generalize(o3.bind (bk 1125899906842624)).map Prod.snd=o4 at b;have a:=A.out.only c (by omega);have E1:=aK.grown (E:=bF) (l:=done) s.out c (fun k e=>by cases e;exact S);have E3:=aA y.out c;have ha:=b.lt;obtain⟨e0,e1,e2,e3⟩:=a.four;have ef:=fun j=>am.frozen a j;obtain⟨s,z,y,A⟩:=gD (aK.other (E:=bF) E1 (aB w7 w3.heap.size 3 (I6 (n2:Int))) (fun k hk e=>by injection hk with hk;have:=(aK.lt (E:=bF) (l:=done) X.out k e).2;omega)) (b.put (k:=w3.heap.size) (i:=3) (u:=I6 (n2:Int)) (by omega)) (E3.put (k:=w3.heap.size) (i:=3) (u:=I6 (n2:Int)) (by have:=Y.out.size;omega)) (a.I 3 (I6 (n2:Int)));dsimp only;go_upto_region 7 with(fail);obtain⟨W6,O⟩:=nM (w7.setCell ⟨w3.heap.size,3,none⟩ (I6 (n2:Int)));rw[O]at s z y A;simp only[O.out];obtain⟨s0,s1,s2,s3⟩:=A.out.four;have hf:(done.length+1)*bF.bytes<=140737488355328:=by show(done.length+1)*32<=_;omega
   have hh:done.length < 1000000000000000000:=by omega
   have hj:=y.out.size;go_wp2_with (at_builtin;refine b5 bF rfl (.tmp 18) (.tmp 20) rfl s.out hj ⟨T,n,n2⟩ rfl rfl hf hh ?_;intro v' w6 F p);have R:=aK.lt (E:=bF) (l:=done) s.out;obtain⟨G1,G2,G3⟩:=gC F (z.out.only p (fun e=>by have:=(R g e.symm).1;omega)) (dx y.out p (fun k e=>(R k e).1));go_wp2_with fail;refine(er g o4 _ G2.out).mono ?_;rintro G _w ⟨rfl,rfl⟩;cases o4 with
   |none=>
    go_wp2;go_ret;exact⟨_,[],_,rfl,aK.nil _ _,by simp,by simp,G2.out,G3.out⟩
   |some r4=>
    go_wp2;go_roundw
    case rel=>exact⟨i+1,done++[⟨T,n,n2⟩],_,by omega,by go_num,by simp;omega,G1.out,G2.out,G3.out⟩
    case measure=>simp[intOf];omega
  ·obtain⟨Ao,co,rfl,_⟩:=(aK.rw (E:=bF) (l:=done) C.out).slice;have hq:done.length<=1000:=by omega
   subst hd;have HT:∀W,pw bF w g 1000 (fun t=>oT t=true) (.returned (aS)) W↔∃o,RS W g o/\aW g w W:=fun W=>⟨fun⟨_,_,o,_,_,_,_,f,m⟩=>⟨o,f,m⟩,fun⟨o,f,m⟩=>⟨_,[],o,rfl,aK.nil _ _,by simp,by simp,f,m⟩⟩;go_wp2_with fail;refine(er g q _ D.out).mono ?_;rintro G _w ⟨rfl,rfl⟩;cases q with
   |none=>
    go_wp2_with fail;refine(fv g _ _ D.out).mono ?_;rintro G w6 ⟨rfl,f,m⟩;obtain⟨I,J⟩:=gB f (aA V.out m);go_wp2;go_ret;exact(HT _).2 ⟨_,I.out,J.out⟩
   |some r=>
    go_wp2_with fail;refine(vA _ (aK.rw (E:=bF) (l:=done) C.out) (by omega)).mono ?_;rintro G w6 ⟨hc,hb⟩;obtain⟨I,J,B3⟩:=gC (RS.only D.out (row:=some (g+1)) (aG hb) (by simp)) (aA V.out (aG hb)) (aI C.out hb);rcases hc with rfl|⟨rfl,hl,hok⟩
    ·go_wp2_with fail;refine(fv g _ _ I.out).mono ?_;rintro G w7 ⟨rfl,f,m⟩;obtain⟨B4,B5⟩:=gB f (aA J.out m);go_wp2;go_ret;exact(HT _).2 ⟨_,B4.out,B5.out⟩
    ·go_wp2;go_ret;exact⟨_,done,_,rfl,B3.out,hl,hok,I.out,J.out⟩
def A7(o:Ow)(w:World)(M:Mg->Prop)(n:Nat)(vl vb vc:Value):Prop:=∃ls b cl,RI aU o w vl ls/\RI aJ o w vb b/\RI aJ o w vc cl/\ls.length<=n/\b.length+cl.length<=n/\(∀m∈ls,M m)/\(∀d∈b,aO d=true)/\∀d∈cl,aO d=true
def pA(E:El α)(o:Ow)(w:World)(n:Nat)(P:α->Prop)(v:Value):Prop:=∃l,RI E o w v l/\l.length<=n/\∀a∈l,P a
structure sB(M:Mg->Prop)(n:Nat)(id up:Int)(o:Ow)(w:World)(cs:Array Value):Prop where
 sz:cs.size=53
 id:cs[0]?=some (I6 id)
 up:cs[1]?=some (I6 up)
 bag:∀k < 16,∃vl vb vc,cs[2+k*3]?=some vl/\cs[2+k*3+1]?=some vb/\cs[2+k*3+2]?=some vc/\A7 o w M n vl vb vc
 tags:∃v,cs[50]?=some v/\pA a7 o w 100 iw v
 view:∃v,cs[51]?=some v/\pA aL o w 64 cA v
 holds:∃v,cs[52]?=some v/\pA bF o w 1000 fA v
def dF(M:Mg->Prop)(n:Nat)(id up:Int)(o:Ow)(w:World)(s:Nat)(x:Nat×Nat):Prop:=o s=x/\∃cs,am w s 188 cs/\sB M n id up o w cs
section
variable{M':Mg → Prop}{n':Nat}{s:Nat}{p:Nat × Nat → Prop}{cs:Array Value}
theorem A7.st{vl vb vc}(h:A7 o w M n vl vb vc)(a:St p o w o' w')(c:¬p (0,0)):A7 o' w' M n vl vb vc:=by
 obtain⟨ls,b,cl,f,g,i,j⟩:=h;exact⟨ls,b,cl,f.st a c,g.st a c,i.st a c,j⟩
theorem A7.mono{vl vb vc}(h:A7 o w M n vl vb vc)(a:∀m,M m->M' m)(k:n<=n'):A7 o w M' n' vl vb vc:=by
 obtain⟨ls,b,cl,c,f,g,p,q,i,j⟩:=h;exact⟨ls,b,cl,c,f,g,by omega,by omega,fun m hm=>a m (i m hm),j⟩
theorem pA.st{E:El α}{P:α->Prop}{v}(h:pA E o w k P v)(a:St p o w o' w')(b:¬p (0,0)):pA E o' w' k P v:=by
 obtain⟨l,c,f⟩:=h;exact⟨l,c.st a b,f⟩
theorem sB.st(h:sB M n id up o w cs)(f:St p o w o' w')(g:¬p (0,0)):sB M n id up o' w' cs:={
 sz:=h.sz
 id:=h.id
 up:=h.up
 bag k hk:=by obtain⟨vl,vb,vc,a,b,c,d⟩:=h.bag k hk;exact⟨vl,vb,vc,a,b,c,d.st f g⟩
 tags:=by obtain⟨v,a,b⟩:=h.tags;exact⟨v,a,b.st f g⟩
 view:=by obtain⟨v,a,b⟩:=h.view;exact⟨v,a,b.st f g⟩
 holds:=by obtain⟨v,a,b⟩:=h.holds;exact⟨v,a,b.st f g⟩}
theorem sB.mono(h:sB M n id up o w cs)(f:∀m,M m->M' m)(g:n<=n'):sB M' n' id up o w cs:={
 sz:=h.sz
 id:=h.id
 up:=h.up
 bag k hk:=by obtain⟨vl,vb,vc,a,b,c,d⟩:=h.bag k hk;exact⟨vl,vb,vc,a,b,c,d.mono f g⟩
 tags:=h.tags
 view:=h.view
 holds:=h.holds}
theorem dF.mono(h:dF M n id up o w s x)(a:∀m,M m->M' m)(b:n<=n'):dF M' n' id up o w s x:=by
 obtain⟨c,cs,f,g⟩:=h;exact⟨c,cs,f,g.mono a b⟩
theorem dF.lt(h:dF M n id up o w s x):s < w.heap.size:=by obtain⟨_,_,h,_⟩:=h;exact ap h
theorem dF.st(h:dF M n id up o w s x)(a:St p o w o' w')(f:¬p x)(g:¬p (0,0)):dF M n id up o' w' s x:=by
 obtain⟨b,cs,c,i⟩:=h;exact⟨by rw[a.old s (ap c)];exact b,cs,c.st a (by rw[b];exact f),i.st a g⟩
theorem dF.below(h:dF M n id up o w s x)(a:Below w.heap.size w w')(hf:aX o w):dF M n id up o w' s x:=h.st (p:=fun _=>False) (.J a hf) _root_.id _root_.id
theorem sB.set(h:sB M n id up o w cs){v}{w'}(q:St p o w o' w')(s:¬p (0,0))(f:k=50/\pA a7 o' w' 100 iw v\/k=51/\pA aL o' w' 64 cA v\/k=52/\pA bF o' w' 1000 fA v):sB M n id up o' w' (cs.setIfInBounds k v):=by
 have g:=h.st q s;have m:=h.sz;have ne:∀j,j≠k->(cs.setIfInBounds k v)[j]?=cs[j]?:=fun j hj=>by rw[qW (Ne.symm hj)]
 have i:k < 53->(cs.setIfInBounds k v)[k]?=some v:=fun f=>by rw[jC (by omega)]
 refine⟨by simp[m],by rw[ne 0 (by omega)];exact h.id,by rw[ne 1 (by omega)];exact h.up,fun j hj=>?_,?_,?_,?_⟩
 ·obtain⟨vl,vb,vc,a,b,c,d⟩:=g.bag j hj;exact⟨vl,vb,vc,by rw[ne _ (by omega)];exact a,by rw[ne _ (by omega)];exact b,by rw[ne _ (by omega)];exact c,d⟩
 ·rcases f with⟨rfl,f⟩|⟨rfl,f⟩|⟨rfl,f⟩
  ·exact⟨v,i (by omega),f⟩
  ·obtain⟨v',a,b⟩:=g.tags;exact⟨v',by rw[ne _ (by omega)];exact a,b⟩
  ·obtain⟨v',a,b⟩:=g.tags;exact⟨v',by rw[ne _ (by omega)];exact a,b⟩
 ·rcases f with⟨rfl,f⟩|⟨rfl,f⟩|⟨rfl,f⟩
  ·obtain⟨v',a,b⟩:=g.view;exact⟨v',by rw[ne _ (by omega)];exact a,b⟩
  ·exact⟨v,i (by omega),f⟩
  ·obtain⟨v',a,b⟩:=g.view;exact⟨v',by rw[ne _ (by omega)];exact a,b⟩
 ·rcases f with⟨rfl,f⟩|⟨rfl,f⟩|⟨rfl,f⟩
  ·obtain⟨v',a,b⟩:=g.holds;exact⟨v',by rw[ne _ (by omega)];exact a,b⟩
  ·obtain⟨v',a,b⟩:=g.holds;exact⟨v',by rw[ne _ (by omega)];exact a,b⟩
  ·exact⟨v,i (by omega),f⟩
theorem sB.dd(h:sB M n id up o w cs)(z:Int)(m:St p o w o' w')(q:¬p (0,0)):sB M n z up o' w' (cs.setIfInBounds 0 (I6 z))/\sB M n id z o' w' (cs.setIfInBounds 1 (I6 z)):=by
 have g:=h.st m q;have i:=h.sz;have f:∀k,k < 2->(∀j,j≠k->(cs.setIfInBounds k (I6 z))[j]?=cs[j]?)/\(cs.setIfInBounds k (I6 z))[k]?=some (I6 z):=fun k hk=>⟨fun j hj=>by rw[qW (Ne.symm hj)],by rw[jC (by omega)]⟩;have rest:∀k,k < 2->(∀j < 16,∃vl vb vc,(cs.setIfInBounds k (I6 z))[2+j*3]?=some vl/\(cs.setIfInBounds k (I6 z))[2+j*3+1]?=some vb/\(cs.setIfInBounds k (I6 z))[2+j*3+2]?=some vc/\A7 o' w' M n vl vb vc)/\
   (∃v,(cs.setIfInBounds k (I6 z))[50]?=some v/\pA a7 o' w' 100 iw v)/\(∃v,(cs.setIfInBounds k (I6 z))[51]?=some v/\pA aL o' w' 64 cA v)/\(∃v,(cs.setIfInBounds k (I6 z))[52]?=some v/\pA bF o' w' 1000 fA v):=fun k hk=>by
  obtain⟨ne,_⟩:=f k hk;refine⟨fun j hj=>?_,?_,?_,?_⟩
  ·obtain⟨vl,vb,vc,a,b,c,d⟩:=g.bag j hj;exact⟨vl,vb,vc,by rw[ne _ (by omega)];exact a,by rw[ne _ (by omega)];exact b,by rw[ne _ (by omega)];exact c,d⟩
  ·obtain⟨v',a,b⟩:=g.tags;exact⟨v',by rw[ne _ (by omega)];exact a,b⟩
  ·obtain⟨v',a,b⟩:=g.view;exact⟨v',by rw[ne _ (by omega)];exact a,b⟩
  ·obtain⟨v',a,b⟩:=g.holds;exact⟨v',by rw[ne _ (by omega)];exact a,b⟩
 obtain⟨s,t,u,x⟩:=rest 0 (by omega);obtain⟨y,A,B,C⟩:=rest 1 (by omega);exact⟨⟨by simp[i],(f 0 (by omega)).2,by rw[(f 0 (by omega)).1 1 (by omega)];exact h.up,s,t,u,x⟩,⟨by simp[i],by rw[(f 1 (by omega)).1 0 (by omega)];exact h.id,(f 1 (by omega)).2,y,A,B,C⟩⟩
theorem sB.setBag(h:sB M n id up o w cs)(x:k < 16){vl vb vc}{w'}(s:St p o w o' w')(t:¬p (0,0))(u:A7 o' w' M n vl vb vc):
  sB M n id up o' w' (((cs.setIfInBounds (2+k*3) vl).setIfInBounds (2+k*3+1) vb).setIfInBounds (2+k*3+2) vc):=by
 have f:=h.st s t;have g:=h.sz;have ne:∀j,j≠2+k*3->j≠2+k*3+1->j≠2+k*3+2->(((cs.setIfInBounds (2+k*3) vl).setIfInBounds (2+k*3+1) vb).setIfInBounds (2+k*3+2) vc)[j]?=cs[j]?:=fun j h1 h2 h3=>by
  rw[qW (Ne.symm h3),qW (Ne.symm h2),qW (Ne.symm h1)]
 refine⟨by simp[g],by rw[ne 0 (by omega) (by omega) (by omega)];exact h.id,by rw[ne 1 (by omega) (by omega) (by omega)];exact h.up,fun j hj=>?_,?_,?_,?_⟩
 ·by_cases e:j=k
  ·subst e;refine⟨vl,vb,vc,?_,?_,?_,u⟩
   ·rw[qW (by omega),qW (by omega),jC (by omega)]
   ·rw[qW (by omega),jC (by simp;omega)]
   ·rw[jC (by simp;omega)]
  ·obtain⟨i,m,q,a,b,c,d⟩:=f.bag j hj;exact⟨i,m,q,by rw[ne _ (by omega) (by omega) (by omega)];exact a,by rw[ne _ (by omega) (by omega) (by omega)];exact b,by rw[ne _ (by omega) (by omega) (by omega)];exact c,d⟩
 ·obtain⟨v',a,b⟩:=f.tags;exact⟨v',by rw[ne _ (by omega) (by omega) (by omega)];exact a,b⟩
 ·obtain⟨v',a,b⟩:=f.view;exact⟨v',by rw[ne _ (by omega) (by omega) (by omega)];exact a,b⟩
 ·obtain⟨v',a,b⟩:=f.holds;exact⟨v',by rw[ne _ (by omega) (by omega) (by omega)];exact a,b⟩
end
theorem sC(z:Int)(w:World)(f:z < 9223372036854775808):Cs 48 #[I6 z] w fun e w'=>Rt e (.string (aF (73::cT z)))/\Below w.heap.size w w':=by
 have b:=aH (cQ z w f);have a:∀W,(Op.stringOp .add ⟨#[73]⟩ (aF (bG z.toNat))).run prog W=.ok (.string (aF (73::bG z.toNat))) W:=fun W=>bJ [73] (bG z.toNat) (by have:=(bi (n:=z.toNat) (by omega)).2;simp;omega) W;unfold cT;generalize bG z.toNat=t at b a;apply cI;go_in;go_wp2_with fail;refine b.mono ?_;rintro h w1 ⟨rfl,c⟩;have g:=aH c;go_wp2;go_ret;exact⟨rfl,g⟩
theorem sD(z:Int)(w:World)(f:z < 9223372036854775808):Cs 353 #[I6 z] w fun e w'=>Rt e (.string (aF (82::cT z)))/\Below w.heap.size w w':=by
 have b:=aH (cQ z w f);have a:∀W,(Op.stringOp .add ⟨#[82]⟩ (aF (bG z.toNat))).run prog W=.ok (.string (aF (82::bG z.toNat))) W:=fun W=>bJ [82] (bG z.toNat) (by have:=(bi (n:=z.toNat) (by omega)).2;simp;omega) W;unfold cT;generalize bG z.toNat=t at b a;apply cI;go_in;go_wp2_with fail;refine b.mono ?_;rintro h w1 ⟨rfl,c⟩;have g:=aH c;go_wp2;go_ret;exact⟨rfl,g⟩
def E5(c:UInt8)(w:World)(e:Ending)(w':World):Prop:=∃t:List UInt8,Rt e (.string (aF (c::t)))/\t.length<=999999/\Below w.heap.size w w'
def E6(c:UInt8)(n:Nat)(w:World)(e:Ending)(w':World):Prop:=∃t:List UInt8,Rt e (.string (aF (c::t)))/\t.length<=n/\Below w.heap.size w w'
theorem iT(a:Tg)(b:iw a):(ic a).length<=200:=by
 have h:=b.ok;have c:=gq a.nm (by have:=h.1;omega);have f:=cV a.n h.2;have:=h.1;unfold ic;rw[zC];omega
theorem kB(a:Pe)(h:cA a):(eE a).length<=200:=by
 have b:=cV a.id h.1;have c:=cV a.inc h.2.1;have f:=cV a.st h.2.2;unfold eE;rw[zC,zC];omega
theorem qt(a:be)(h:fA a):(eM a).length<=200:=by
 have b:=fw a.d h.1.1 h.1.2;have c:=cV a.rc h.2.1;have f:=cV a.un h.2.2;unfold eM;rw[zC,zC];omega
theorem qu{v} w(h:Rw a7 w v l)(hl:l.length<=1000)(hd:∀a∈l,iw a):Cs 176 #[v] w (E6 78 (10+200*l.length) w):=by
 have f:=aH (sh w v l h (by omega) (fun a ha=>(hd a ha).ok));have b:(bZ ic l).length<=10+200*l.length:=by
  have p:=(bi (n:=l.length) (by omega)).2;have q:=dz ic 200 l (fun a ha=>iT a (hd a ha));unfold bZ;rw[zC];omega
 have g:=aH b;have c:∀W,(Op.stringOp .add ⟨#[78]⟩ (aF (bZ ic l))).run prog W=.ok (.string (aF (78::bZ ic l))) W:=fun W=>bJ [78] (bZ ic l) (by simp;omega) W;have i:(bZ ic l).length<=1000000:=by omega
 have j:=aH i;generalize bZ ic l=t at f c g j;apply cI;go_in;go_wp2_with fail;refine f.mono ?_;rintro s w1 ⟨rfl,k⟩;have m:=aH k;go_wp2;go_ret;exact⟨t,rfl,g,m⟩
theorem j0{v} w(h:Rw a7 w v l)(hl:l.length<=1000)(hd:∀a∈l,iw a):Cs 176 #[v] w (E5 78 w):=(qu w h hl hd).mono fun _ _ ⟨t,h1,h2,h3⟩=>⟨t,h1,by omega,h3⟩
theorem oi{v} w(h:Rw aL w v l)(hl:l.length<=1000)(hd:∀a∈l,cA a):Cs 49 #[v] w (E6 86 (10+200*l.length) w):=by
 have f:=aH (pu w v l h (by omega) (hd));have b:(bZ eE l).length<=10+200*l.length:=by
  have p:=(bi (n:=l.length) (by omega)).2;have q:=dz eE 200 l (fun a ha=>kB a (hd a ha));unfold bZ;rw[zC];omega
 have g:=aH b;have c:∀W,(Op.stringOp .add ⟨#[86]⟩ (aF (bZ eE l))).run prog W=.ok (.string (aF (86::bZ eE l))) W:=fun W=>bJ [86] (bZ eE l) (by simp;omega) W;have i:(bZ eE l).length<=1000000:=by omega
 have j:=aH i;generalize bZ eE l=t at f c g j;apply cI;go_in;go_wp2_with fail;refine f.mono ?_;rintro s w1 ⟨rfl,k⟩;have m:=aH k;go_wp2;go_ret;exact⟨t,rfl,g,m⟩
theorem oj{v} w(h:Rw aL w v l)(hl:l.length<=1000)(hd:∀a∈l,cA a):Cs 49 #[v] w (E5 86 w):=(oi w h hl hd).mono fun _ _ ⟨t,h1,h2,h3⟩=>⟨t,h1,by omega,h3⟩
theorem vB{v} w(h:Rw bF w v l)(hl:l.length<=1000)(hd:∀a∈l,fA a):Cs 117 #[v] w (E6 72 (10+200*l.length) w):=by
 have f:=aH (k9 w v l h (by omega) (hd));have b:(bZ eM l).length<=10+200*l.length:=by
  have p:=(bi (n:=l.length) (by omega)).2;have q:=dz eM 200 l (fun a ha=>qt a (hd a ha));unfold bZ;rw[zC];omega
 have g:=aH b;have c:∀W,(Op.stringOp .add ⟨#[72]⟩ (aF (bZ eM l))).run prog W=.ok (.string (aF (72::bZ eM l))) W:=fun W=>bJ [72] (bZ eM l) (by simp;omega) W;have i:(bZ eM l).length<=1000000:=by omega
 have j:=aH i;generalize bZ eM l=t at f c g j;apply cI;go_in;go_wp2_with fail;refine f.mono ?_;rintro s w1 ⟨rfl,k⟩;have m:=aH k;go_wp2;go_ret;exact⟨t,rfl,g,m⟩
theorem Cg{v} w(h:Rw bF w v l)(hl:l.length<=1000)(hd:∀a∈l,fA a):Cs 117 #[v] w (E5 72 w):=(vB w h hl hd).mono fun _ _ ⟨t,h1,h2,h3⟩=>⟨t,h1,by omega,h3⟩
section
variable{s:Nat}
theorem Ae(h:dF M n id up o w s x):Cs 44 #[Pt s] w fun e w'=>Rt e (I6 id)/\w=w':=by
 obtain⟨_,cs,a,b⟩:=h;have c:=(am.cell a 0).trans b.id;apply cI;go_in;go_wp2;go_ret;exact⟨rfl,rfl⟩
theorem lf(h:dF M n id up o w s x):Cs 50 #[Pt s] w fun e w'=>Rt e (I6 up)/\w=w':=by
 obtain⟨_,cs,a,b⟩:=h;have c:=(am.cell a 1).trans b.up;apply cI;go_in;go_wp2;go_ret;exact⟨rfl,rfl⟩
theorem lh(h:dF M n id up o w s x):Cs 69 #[Pt s] w (b6 a7 w 100 iw):=by
 obtain⟨_,cs,g,i⟩:=h;obtain⟨v,j,l,a,k,m⟩:=i.tags;have y:=(am.cell g 50).trans j;obtain⟨p,q⟩:=gB (tT w a.rw (by omega)) m;obtain⟨A,c,rfl,_⟩:=a.rw.slice;apply cI;go_in;go_wp2_with fail;refine p.mono ?_;rintro z w1 ⟨v1,rfl,b,f⟩;obtain⟨t,u⟩:=gB b f;go_wp2;go_ret;exact⟨l,⟨v1,rfl,t,u⟩,k,q⟩
theorem lj(h:dF M n id up o w s x):Cs 66 #[Pt s] w (b6 aL w 64 cA):=by
 obtain⟨_,cs,g,i⟩:=h;obtain⟨v,j,l,a,k,m⟩:=i.view;have y:=(am.cell g 51).trans j;obtain⟨p,q⟩:=gB (jx w a.rw (by omega)) m;obtain⟨A,c,rfl,_⟩:=a.rw.slice;apply cI;go_in;go_wp2_with fail;refine p.mono ?_;rintro z w1 ⟨v1,rfl,b,f⟩;obtain⟨t,u⟩:=gB b f;go_wp2;go_ret;exact⟨l,⟨v1,rfl,t,u⟩,k,q⟩
theorem eS(h:dF M n id up o w s x):Cs 61 #[Pt s] w (b6 bF w 1000 fA):=by
 obtain⟨_,cs,g,i⟩:=h;obtain⟨v,j,l,a,k,m⟩:=i.holds;have y:=(am.cell g 52).trans j;obtain⟨p,q⟩:=gB (tU w a.rw (by omega)) m;obtain⟨A,c,rfl,_⟩:=a.rw.slice;apply cI;go_in;go_wp2_with fail;refine p.mono ?_;rintro z w1 ⟨v1,rfl,b,f⟩;obtain⟨t,u⟩:=gB b f;go_wp2;go_ret;exact⟨l,⟨v1,rfl,t,u⟩,k,q⟩
theorem eH(h:dF M n id up o w s x)(k:Nat)(hk:k < 16)(hn:n<=10000000):Calls Tryz.prog 54 #[.pointer (some ⟨s,0,none⟩),.int .i64 (k:Nat)] w (se w n n M):=by
 obtain⟨_,cs,h1,h2⟩:=h;obtain⟨vl,vb,vc,g0,g1,g2,ls,b,cl,L,N,O,R,S,hM,T,U⟩:=h2.bag k hk;obtain⟨c,f,rfl,_⟩:=L.rw.slice;obtain⟨Ab,q,rfl,_⟩:=N.rw.slice;obtain⟨Ac,t,rfl,_⟩:=O.rw.slice;obtain⟨W0,V,u,x1⟩:=dW w #[.slice none 0 0,.slice none 0 0,.slice none 0 0] 131;have y:=am.below h1 u;have y0:W0.cell? ⟨s,2+k*3,none⟩=some (.slice c ls.length f):=(am.cell y _).trans g0;have y1:W0.cell? ⟨s,2+k*3+1,none⟩=some (.slice Ab b.length q):=(am.cell y _).trans g1;have y2:W0.cell? ⟨s,2+k*3+2,none⟩=some (.slice Ac cl.length t):=(am.cell y _).trans g2;have d1:decide ((k:Int) < 0)=false:=by simp
 have d2:decide ((16:Int)<=(k:Int))=false:=by simp;omega
 obtain⟨R1,R2,R3,HM,O1,O2,X1⟩:=gG (L.rw.below u) (N.rw.below u) (O.rw.below u) hM T U x1;have X:W0.heap.size=w.heap.size+1:=by rw[<-V];simp
 have a:=aH (zB R S);go_enter Tryz.func54,Tryz.ntmps54;go_upto_region 1 with(fail);simp only[V.out];go_wp2_with fail;have g:=u.alloc u.size (.cells #[.slice c ls.length f,.slice Ab b.length q,.slice Ac cl.length t] 131);have i:=ba W0 (.cells #[.slice c ls.length f,.slice Ab b.length q,.slice Ac cl.length t] 131);have J:=am.new W0 131 #[.slice c ls.length f,.slice Ab b.length q,.slice Ac cl.length t];rw[X]at J;obtain⟨W1,G⟩:=nM (W0.alloc (.cells #[.slice c ls.length f,.slice Ab b.length q,.slice Ac cl.length t] 131));rw[G]at g i J;simp only[G.out];have Y1:=X1.below i;obtain⟨C1,C2,C3⟩:=gC (fun W (hb:Below W1.heap.size W1 W)=>jw W ((R1.below i).below hb) (by have:=a.out;omega)) (fun W (hb:Below W1.heap.size W1 W)=>gW W ((R2.below i).below hb) (by have:=a.out;omega)) (fun W (hb:Below W1.heap.size W1 W)=>gW W ((R3.below i).below hb) (by have:=a.out;omega));obtain⟨a0,a1,a2⟩:=am.three J;have m:Below W1.heap.size W1 W1.drew:=bD _;go_region_held3 (fun w'=>w'.cell? ⟨w.heap.size+1,0,none⟩=some (.slice c ls.length f)/\w'.cell? ⟨w.heap.size+1,1,none⟩=some (.slice Ab b.length q)/\w'.cell? ⟨w.heap.size+1,2,none⟩=some (.slice Ac cl.length t))
  (first|go_keep|refine⟨aD (by assumption) a0,aD (by assumption) a1,aD (by assumption) a2⟩)
  (first
   |(go_at_call 109;(with_reducible refine(C1.out _ m).mono ?_);rintro Y w2 ⟨v2,rfl,H,Z⟩;have p:=m.trans (Z.mono m.size);obtain⟨A2,c2,rfl,_⟩:=H.rw.slice)
   |(go_at_call 110;(with_reducible refine(C2.out _ p).mono ?_);rintro Y w3 ⟨v3,rfl,A,B⟩;have z:=p.trans (B.mono p.size);obtain⟨A3,c3,rfl,_⟩:=A.rw.slice)
   |(go_at_call 110;(with_reducible refine(C3.out _ z).mono ?_);rintro Y w4 ⟨v4,rfl,D,F⟩;have I:=z.trans (F.mono z.size);obtain⟨A4,c4,rfl,_⟩:=D.rw.slice;have C:=Y1.below I;obtain⟨hd,he,hf⟩:=am.three C;have hc:=fun j=>am.frozen C j))
 have ha:∀j,(Value.slice A3 b.length c3).ownBlock=some j->(Value.slice A4 cl.length c4).ownBlock≠some j:=fun j g i=>by have:=(A.lt j g).2;have:=(D.lt j i).1;omega
 obtain⟨hR,hE⟩:=iP (w:=w) (n:=n) (k:=n) (M:=M) C (by omega) (g.trans (I.mono g.size)) (zD g.size m.size) (zD g.size p.size) (aI (aI H B) F) (aI A F) (D.mono B.size) ha a.1 a.2 HM O1 O2;obtain⟨HR,HE⟩:=gB hR hE;go_wp2_with fail;obtain⟨s0,s1,s2⟩:=am.three HR;refine bodyPost_ret (v:=.agg #[.slice A2 ls.length c2,.slice A3 b.length c3,.slice A4 cl.length c4]) (by simp[results,Tryz.results54,go_sem,s0,s1,s2]) rfl ?_;exact HE
end
abbrev vC(p:Pe):Value:=.agg #[I6 p.id,I6 p.inc,I6 p.st]
theorem qv(p:Pe)(w:World):Cs 140 #[vC p] w fun e w'=>(∃t,Rt e (.bool t))/\Below w.heap.size w w':=by
 obtain⟨W0,a,b,c⟩:=dW w #[I6 p.id,I6 p.inc,I6 p.st] 121;obtain⟨a0,a1,a2⟩:=am.three c;apply cI;go_in;go_upto_region 1 with(fail);simp only[a.out];go_wp2;go_ret;exact⟨⟨_,rfl⟩,b⟩
theorem om{a:World}{c0 c1 c2}{q:Pe}(c:Below w.heap.size w a)(f:am a g 121 #[c0,c1,c2])(b:w.heap.size<=g):
  am (((a.setCell ⟨g,0,none⟩ (I6 q.id)).setCell ⟨g,1,none⟩ (I6 q.inc)).setCell ⟨g,2,none⟩ (I6 q.st)) g 121 #[I6 q.id,I6 q.inc,I6 q.st]/\Below w.heap.size w (((a.setCell ⟨g,0,none⟩ (I6 q.id)).setCell ⟨g,1,none⟩ (I6 q.inc)).setCell ⟨g,2,none⟩ (I6 q.st)):=
 ⟨am.ai f _ _ _,((c.setCell b _).setCell b _).setCell b _⟩
theorem qw(p:Pe)(y:cA p)(w:World):Cs 327 #[vC p] w fun e w'=>(∃q,Rt e (vC q)/\cA q)/\Below w.heap.size w w':=by
 obtain⟨W0,D,z,c,f⟩:=rt w #[I6 p.id,I6 p.inc,I6 p.st] #[I6 0,I6 0,I6 0] 121 121;obtain⟨a0,a1,a2⟩:=am.three c;have J:=fun j=>am.frozen c j;obtain⟨L,M,N⟩:=am.three f;have O:=fun j=>am.frozen f j;obtain⟨F,A⟩:=gB c f;have a:=y;unfold cA at a;have G:=aH y;apply cI;go_in;go_upto_region 1 with(fail);simp only[D.out];obtain⟨H,I⟩:=nx (p.st==0);cases H
 ·obtain⟨g,h⟩:=om (q:=p) z A (by omega);obtain⟨m,n⟩:=gB g h;go_wp2_with fail;obtain⟨s,t,x⟩:=am.three m;refine bodyPost_ret (v:=vC p) (by simp[results,results327,go_sem,s,t,x]) rfl ?_;exact⟨⟨p,rfl,G⟩,n⟩
 ·have B:=am.I F 2 (I6 1);have b:=am.ad A (k:=w.heap.size) (i:=2) (u:=I6 1) (by omega);have C:=z.setCell (p:=⟨w.heap.size,2,none⟩) (by simp) (I6 1);obtain⟨g,h⟩:=om (q:=⟨p.id,p.inc,1⟩) C b (by omega);obtain⟨m,n⟩:=gB g h;obtain⟨R,S,T⟩:=am.three B;obtain⟨U,V,X⟩:=am.three b;have Y:=fun j=>am.frozen b j;go_wp2_with fail;obtain⟨s,t,x⟩:=am.three m;refine bodyPost_ret (v:=vC ⟨p.id,p.inc,1⟩) (by simp[results,results327,go_sem,s,t,x]) rfl ?_;exact⟨⟨_,rfl,a.1,a.2.1,by show bN 1;unfold bN;omega⟩,n⟩
theorem sE(p:Pe)(B:cA p)(w:World):Cs 224 #[vC p] w fun e w'=>(∃q,Rt e (vC q)/\cA q)/\Below w.heap.size w w':=by
 obtain⟨W0,H,t,x,y⟩:=rt w #[I6 p.id,I6 p.inc,I6 p.st] #[I6 0,I6 0,I6 0] 121 121;obtain⟨a0,a1,a2⟩:=am.three x;have O:=fun j=>am.frozen x j;obtain⟨R,S,T⟩:=am.three y;have U:=fun j=>am.frozen y j;obtain⟨I,A⟩:=gB x y;have s:=B;unfold cA at s;have C:=aH B;apply cI;go_in;go_upto_region 1 with(fail);simp only[H.out];obtain⟨J,N⟩:=nx (p.st==1);have V:Hid (∀z:Int,Hid (1=1)->True):=aH fun _ _=>trivial;cases J
 ·obtain⟨a,b⟩:=om (q:=p) t A (by omega);obtain⟨c,f⟩:=gB a b;go_wp2_with fail;obtain⟨g,h,m⟩:=am.three c;refine bodyPost_ret (v:=vC p) (by simp[results,results224,go_sem,g,h,m]) rfl ?_;exact⟨⟨p,rfl,C⟩,f⟩
 ·by_cases hlt:p.inc < 1073741824
  ·have D:decide (p.inc < 1073741824)=true:=by simpa using hlt
   obtain⟨L,M,X⟩:=s;unfold bN at M;have F:=am.I (am.I I 2 (I6 0)) 1 (I6 (p.inc+1));have n:=am.ad (am.ad A (k:=w.heap.size) (i:=2) (u:=I6 0) (by omega)) (k:=w.heap.size) (i:=1) (u:=I6 (p.inc+1)) (by omega);have G:=(t.setCell (p:=⟨w.heap.size,2,none⟩) (by simp) (I6 0)).setCell (p:=⟨w.heap.size,1,none⟩) (by simp) (I6 (p.inc+1));obtain⟨a,b⟩:=om (q:=⟨p.id,p.inc+1,0⟩) G n (by omega);obtain⟨c,f⟩:=gB a b;obtain⟨Y,D,Z⟩:=am.three F;obtain⟨e0,e1,e2⟩:=am.three n;have ef:=fun j=>am.frozen n j;go_wp2_with fail;obtain⟨g,h,m⟩:=am.three c;refine bodyPost_ret (v:=vC ⟨p.id,p.inc+1,0⟩) (by simp[results,results224,go_sem,g,h,m]) rfl ?_;exact⟨⟨_,rfl,L,by show bN (p.inc+1);unfold bN;omega,by show bN 0;unfold bN;omega⟩,f⟩
  ·have D:decide (p.inc < 1073741824)=false:=by simpa using hlt
   obtain⟨a,b⟩:=om (q:=p) t A (by omega);obtain⟨c,f⟩:=gB a b;go_wp2_with fail;obtain⟨g,h,m⟩:=am.three c;refine bodyPost_ret (v:=vC p) (by simp[results,results224,go_sem,g,h,m]) rfl ?_;exact⟨⟨p,rfl,C⟩,f⟩
def E7(w0:World)(K:Nat):Prop:=∀p W,Cs K #[vC p] W fun e W'=>(∃t,Rt e (.bool t))/\Below W.heap.size W W'
theorem Ch(K:Nat){v}{l:List Pe} w(h:Rw aL w v l)(hl:l.length<=64)(hok:∀p∈l,cA p)(hent:∀args W,(callFunc K args).run prog W=.ok (.enter K args) W)(ht:E7 w K):
  Cs 139 #[v,.func (.func K) #[] #[]] w (b6 aC w 64 bN):=by
 obtain⟨A,c,rfl,_⟩:=h.slice;obtain⟨H,S,T,U⟩:=gD h hok hent ht;apply cI;go_in;go_wp2_with fail;go_loopw[5,10] (fun vo vi wr=>∃(k:Nat) (i:List Int),k<=l.length/\vi=I6 k/\Bw w wr/\aK aC w.heap.size wr vo i/\i.length<=k/\∀z∈i,bN z) (fun vo vi _=>l.length - (intOf vi).toNat)
 case atStart=>exact⟨0,[],by omega,rfl,bR _,aK.nil _ _,by simp,by simp⟩
 case round=>
  obtain⟨k,i,hk,rfl,y,L,ha,m⟩:=hrel;obtain⟨D,F,G⟩:=gC y L m;have q:=y.size;by_cases hlt:k < l.length
  ·obtain⟨g,I,rfl,n⟩:=(H.below y).at_ (zA hlt);have V:Ce wr g (I+k*3) (I6 l[k].id):=by have:=n 0 _ rfl;simpa[aL]using this
   have c1:Ce wr g (I+k*3+1) (I6 l[k].inc):=by have:=n 1 _ rfl;simpa[aL]using this
   have c2:Ce wr g (I+k*3+2) (I6 l[k].st):=by have:=n 2 _ rfl;simpa[aL]using this
   have s:=aH (S l[k] (zY hlt));generalize l[k]=t at V c1 c2 s;have M:=ba wr (.cells #[I6 t.id,I6 t.inc,I6 t.st] 121);have J:=am.new wr 121 #[I6 t.id,I6 t.inc,I6 t.st];obtain⟨X,B⟩:=nM (wr.alloc (.cells #[I6 t.id,I6 t.inc,I6 t.st] 121));rw[B]at M J;obtain⟨a0,a1,a2⟩:=am.three J;obtain⟨Y,E1,Z⟩:=gC (U t X) M J;have R:=T.out;go_upto_region 5 with(fail);simp only[B.out];go_wp2_with fail;refine Y.mono ?_;rintro _e w3 ⟨⟨tt,rfl⟩,C⟩;have u:=aH (E1.trans (C.mono E1.size));obtain⟨z0,z1,z2⟩:=am.three (Z.below C);cases tt
   ·go_wp2_with fail;go_roundw
    case rel=>exact⟨k+1,i,by omega,by go_num,D.trans (u.mono q),aI F u,by omega,G⟩
    case measure=>simp[intOf];omega
   ·have b:=aI F u;have x:w.heap.size<=w3.heap.size:=zD q u.size;obtain⟨hc,hd,rfl,_⟩:=(aK.rw (E:=aC) b).slice;have HO:=aH b;have N:(i.length+1)*aC.bytes<=140737488355328:=by show(i.length+1)*8<=_;omega
    have O:i.length < 1000000000000000000:=by omega
    go_wp2_with (at_builtin;refine b5 aC rfl (.tmp 17) (.tmp 20) rfl b x t.id rfl rfl N O ?_;intro v' w6 f a;have M6:=aH (zB f a);clear f a b z0);obtain⟨f,a⟩:=M6.out;obtain⟨G6,G5⟩:=gB ((D.trans (u.mono q)).grown a x (fun j e=>(aK.lt (E:=aC) HO j e).1)) f;go_wp2_with fail;go_roundw
    case rel=>exact⟨k+1,i++[t.id],by omega,by go_num,G6,G5,by simp;omega,fun z m=>by
     rcases zK.1 m with m|m
     ·exact G z m
     ·simp at m;subst m;exact s.1⟩
    case measure=>simp[intOf];omega
  ·clear y L m;go_wp2_with fail;go_ret;exact⟨i,⟨_,rfl,F,D⟩,by omega,G⟩
theorem ig{v}{l:List Pe} w(h:Rw aL w v l)(hl:l.length<=64)(hok:∀p∈l,cA p):Cs 71 #[v] w (b6 aC w 64 bN):=by
 have i:=aH (Ch 140 w h hl hok (aQ func140 (by kernel_rfl) (by kernel_rfl)) (fun p W=>qv p W));obtain⟨A,c,rfl,_⟩:=h.slice;apply cI;go_in;go_wp2_with fail;refine i.mono ?_;rintro q w1 ⟨j,⟨v1,rfl,a,b⟩,f,g⟩;obtain⟨k,m,n⟩:=gC a b g;go_wp2;go_ret;exact⟨j,⟨v1,rfl,k,m⟩,f,n⟩
theorem kC(K:Nat)(id:Int){v}{l:List Pe} w(h:Rw aL w v l)(hl:l.length<=64)(hok:∀p∈l,cA p)(hent:∀args W,(callFunc K args).run prog W=.ok (.enter K args) W)
  (ht:∀p W,cA p->Cs K #[vC p] W fun e W'=>(∃q,Rt e (vC q)/\cA q)/\Below W.heap.size W W'):
  Cs 223 #[v,I6 id,.func (.func K) #[] #[]] w (b6 aL w 64 cA):=by
 have O:=aH (jx w h (by omega));obtain⟨A,c,rfl,_⟩:=h.slice;obtain⟨H,V,X⟩:=gC hok hent ht;apply cI;go_in;go_wp2_with fail;refine O.mono ?_;rintro Y w1 ⟨v1,rfl,B,R⟩;obtain⟨Z,c1,rfl,_⟩:=B.rw.slice;obtain⟨O1,B1⟩:=gB B R;go_wp2_with fail;go_loopw[14] (fun vi wr=>∃(k:Nat),k<=l.length/\vi=I6 k/\Bw w wr/\aK aL w.heap.size wr (.slice Z l.length c1) l) (fun vi _=>l.length - (intOf vi).toNat)
 case atStart=>exact⟨0,by omega,rfl,B1,O1⟩
 case round=>
  obtain⟨k,hk,rfl,I,J⟩:=hrel;obtain⟨i,L⟩:=gB I J;have C:=I.size;by_cases hlt:k < l.length
  ·obtain⟨g,cap,sp,hv,M⟩:=aK.af (E:=aL) J (by omega);injection hv with s u e3;subst s;subst e3;have f:=aR.at_ (E:=aL) M.2.1 (zA hlt);have S:Ce wr g (k*3) (I6 l[k].id):=by have:=f 0 _ rfl;simpa[aL]using this
   have D:Ce wr g (k*3+1) (I6 l[k].inc):=by have:=f 1 _ rfl;simpa[aL]using this
   have c2:Ce wr g (k*3+2) (I6 l[k].st):=by have:=f 2 _ rfl;simpa[aL]using this
   have m:=aH (H l[k] (zY hlt));generalize l[k]=t at S D c2 m;have s:=ba wr (.cells #[I6 t.id,I6 t.inc,I6 t.st] 121);have u:=am.new wr 121 #[I6 t.id,I6 t.inc,I6 t.st];obtain⟨W1,F⟩:=nM (wr.alloc (.cells #[I6 t.id,I6 t.inc,I6 t.st] 121));rw[F]at s u;obtain⟨a0,a1,a2⟩:=am.three u;obtain⟨HC,E1,E2⟩:=gC (X t W1 m) s u;have U:=V.out;obtain⟨bb,hc⟩:=nx (t.id==id);go_upto_region 5 with(fail);simp only[F.out];cases bb
   ·go_wp2_with fail;go_roundw
    case rel=>exact⟨k+1,by omega,by go_num,i.trans (E1.mono C),aI L E1⟩
    case measure=>simp[intOf];omega
   ·go_wp2_with fail;refine HC.mono ?_;rintro Y w3 ⟨⟨q,rfl,hq⟩,T⟩;obtain⟨HQ,n⟩:=gB hq (E1.trans (T.mono E1.size));have b:=aI L n;have N:=aK.ai (E:=aL) b hlt q rfl (x:=I6 q.id) (y:=I6 q.inc) (z:=I6 q.st) rfl rfl;obtain⟨HP,G⟩:=gB N ((((i.trans (n.mono C)).setCell (p:=⟨g,k*3,none⟩) ((aK.lt (E:=aL) b g rfl).1) (I6 q.id)).setCell (p:=⟨g,k*3+1,none⟩) ((aK.lt (E:=aL) b g rfl).1) (I6 q.inc)).setCell (p:=⟨g,k*3+2,none⟩) ((aK.lt (E:=aL) b g rfl).1) (I6 q.st));have f0:=aD n S;have f1:=aD n D;have f2:=aD n c2;have ff:=fun j=>aK.cc (E:=aL) b (by omega) rfl j;go_wp2_with fail;go_ret;exact⟨l.set k q,⟨_,rfl,HP,G⟩,by simpa using hl,fun a ha=>by
     rcases yK ha with ha|rfl
     ·exact H a ha
     ·exact HQ⟩
  ·clear I J;go_wp2_with fail;go_ret;exact⟨l,⟨_,rfl,L,i⟩,hl,H⟩
theorem qx(id:Int){v}{l:List Pe} w(h:Rw aL w v l)(hl:l.length<=64)(hok:∀p∈l,cA p):Cs 226 #[v,I6 id] w (b6 aL w 64 cA):=by
 have i:=aH (kC 327 id w h hl hok (aQ func327 (by kernel_rfl) (by kernel_rfl)) (fun p W hp=>qw p hp W));obtain⟨A,c,rfl,_⟩:=h.slice;apply cI;go_in;go_wp2_with fail;refine i.mono ?_;rintro q w1 ⟨j,⟨v1,rfl,a,b⟩,f,g⟩;obtain⟨k,m,n⟩:=gC a b g;go_wp2;go_ret;exact⟨j,⟨v1,rfl,k,m⟩,f,n⟩
theorem sF(id:Int){v}{l:List Pe} w(h:Rw aL w v l)(hl:l.length<=64)(hok:∀p∈l,cA p):Cs 132 #[v,I6 id] w (b6 aL w 64 cA):=by
 have i:=aH (kC 224 id w h hl hok (aQ func224 (by kernel_rfl) (by kernel_rfl)) (fun p W hp=>sE p hp W));obtain⟨A,c,rfl,_⟩:=h.slice;apply cI;go_in;go_wp2_with fail;refine i.mono ?_;rintro q w1 ⟨j,⟨v1,rfl,a,b⟩,f,g⟩;obtain⟨k,m,n⟩:=gC a b g;go_wp2;go_ret;exact⟨j,⟨v1,rfl,k,m⟩,f,n⟩
def Ci(p:Int×Value):Prop:=bN p.1/\∃z,p.2=I6 z
def ee(T:Nat)(o:Ow)(w:World)(r:Nat)(x:Nat×Nat):Prop:=o r=x/\∃(a1 a2 a3 a4 a5:Int) (b:Nat) (v:Value) (q:IM) (l:List Int),
 am w r 195 #[I6 a1,I6 a2,I6 a3,I6 a4,I6 a5,.map (some b),v]/\o b=x/\b4 w b q/\(∀p∈q,Ci p)/\q.length<=T/\RI aC o w v l/\l.length<=64/\∀z∈l,bN z
section
variable{p:Nat × Nat → Prop}
theorem ee.lt(h:ee T o w r x):r < w.heap.size:=by obtain⟨_,_,_,_,_,_,_,_,_,_,h,_⟩:=h;exact ap h
theorem ee.st(h:ee T o w r x)(a:St p o w o' w')(c:¬p x)(k:¬p (0,0)):ee T o' w' r x:=by
 obtain⟨f,a1,a2,a3,a4,a5,b,v,q,l,g,i,j,m,n,s,t,u⟩:=h;exact⟨by rw[a.old r (ap g)];exact f,a1,a2,a3,a4,a5,b,v,q,l,g.st a (by rw[f];exact c),by rw[a.old b j.lt];exact i,j.st a (by rw[i];exact c),m,n,s.st a k,t,u⟩
theorem ee.mono(h:ee T o w r x)(k:T<=T'):ee T' o w r x:=by
 obtain⟨a,a1,a2,a3,a4,a5,b,v,q,l,c,f,g,i,m,j⟩:=h;exact⟨a,a1,a2,a3,a4,a5,b,v,q,l,c,f,g,i,by omega,j⟩
end
theorem oo{b:Nat}{q}(h:b4 w b q)(c:∀p∈q,Ci p)(k:Int):∃z t,(∀n,(Instr.lookup 179 (.map (some b)) (I6 k) false).run prog (w.drewN n)=.ok (I6 z) (w.drewN n))/\
  (Instr.lookup 179 (.map (some b)) (I6 k) true).run prog w=.ok (.tuple #[I6 z,.bool t]) w:=by
 have H:∀n,b4 (w.drewN n) b q:=fun n=>h.below (below_drewN (bR _) n);obtain⟨z,a⟩:∃z,(bE q k).getD (I6 0)=I6 z:=by
  cases hg:bE q k with
  |none=>exact⟨0,rfl⟩
  |some v=>obtain⟨_,z,a⟩:=c _ (dw hg);exact⟨z,a⟩
 refine⟨z,(bE q k).isSome,fun n=>?_,?_⟩
 ·have:=((H n).lookup (P:=prog) (t:=179) (kt:=3) (et:=3) (by kernel_rfl) (by kernel_rfl) (z:=I6 0) (by kernel_rfl) k).2;rw[a]at this;exact this
 ·have:=(h.lookup (P:=prog) (t:=179) (kt:=3) (et:=3) (by kernel_rfl) (by kernel_rfl) (z:=I6 0) (by kernel_rfl) k).1;rw[a]at this;exact this
theorem oq{o}{w}{x}(h:ee T o w r x):Cs 131 #[Pt r] w fun e w'=>Rt e (.bool true)/\w=w':=by
 obtain⟨g,a1,a2,a3,a4,a5,b,v,q,l,a,_⟩:=h;have c:=am.cell a 5;have f:=fun w=>lF (P:=prog) (t:=179) (k:=3) (e:=3) (some b) (by kernel_rfl) w;simp only[zL,zM,zP]at c;apply cI;go_in;go_wp2;go_ret;exact⟨rfl,rfl⟩
theorem ee.aj{o}{w w'}{x}{a1 a2 a3 a4 a5:Int}{b:Nat}{v}{q a:IM}{l:List Int}(i:o r=x)(c:am w r 195 #[I6 a1,I6 a2,I6 a3,I6 a4,I6 a5,.map (some b),v])(j:o b=x)(f:b4 w b q)
  (g:RI aC o w v l) (k:l.length<=64) (m:∀z∈l,bN z) (h:aW b w w') (n:b4 w' b a) (s:∀p∈a,Ci p) (t:a.length<=T'):ee T' o w' r x:=
 ⟨i,a1,a2,a3,a4,a5,b,v,a,l,c.only h (fun e=>f.ne c e.symm),j,n,s,t,⟨g.1.ck h f,g.2⟩,k,m⟩
theorem sG{o}{w}{x}(id:Int)(h:ee T o w r x)(hf:aX o w):Cs 88 #[Pt r,I6 id] w fun e w'=>(∃t,Rt e (.bool t))/\ee T o w' r x/\St (·=x) o w o w':=by
 have k:=aH (oq h);obtain⟨m,a1,a2,a3,a4,a5,b,v,q,l,f,g,c,i,n,s,u,y⟩:=h;have F:=am.cell f 5;obtain⟨z,t,_,D⟩:=oo c i id;obtain⟨w2,A,j,a⟩:=c.delete (P:=prog) (t:=179) (kt:=3) (et:=3) (by kernel_rfl) (by kernel_rfl) id 0;obtain⟨B,C⟩:=gB (ee.aj (T':=T) m f g c s u y a j (fun p hp=>i p (o5 hp).1) (zD (o7 _ _) n)) (St.U (p:=(·=x)) a g hf);apply cI;go_in;go_wp2_with fail;refine k.mono ?_;rintro G H ⟨rfl,rfl⟩;go_wp2;go_ret;exact⟨⟨_,rfl⟩,B,C⟩
theorem oU{o}{w}{x}(h:ee T o w r x)(G:T<=1000000):Cs 225 #[Pt r] w (b6 aC w T bN):=by
 obtain⟨H,a1,a2,a3,a4,a5,b,v,q,l,s,I,t,i,J,L,M,N⟩:=h;have O:=am.cell s 5;have u:=aH (y0 b w);have c:=ba w (.cells #[.map (some b)] 179);obtain⟨y,j,z⟩:=gC (qm w.heap.size b q _ (am.new w 179 #[.map (some b)]) (t.below c) (fun p g=>(i p g).1) (by omega)) c i;apply cI;go_in;go_wp2_with fail;refine u.mono ?_;rintro A R ⟨rfl,rfl⟩;go_wp2_with fail;refine y.mono ?_;rintro A w2 ⟨B,f,v2,rfl,k,m⟩;obtain⟨C,D,F⟩:=gC k m f;have n:=f.length_eq;rw[jD]at n;go_wp2;go_ret;exact⟨B,⟨v2,rfl,C.mono (by simp),j.trans (D.mono j.size)⟩,by omega,fun a ha=>by obtain⟨p,g,rfl⟩:=zV.1 ((F.mem_iff).1 ha);exact(z p g).1⟩
theorem Ah(own:Int)(w:World) o(hf:aX o w)(i:Nat)(hi:i≠0):Cs 51 #[I6 own,I6 2,I6 6] w fun e w'=>∃r o',Rt e (Pt r)/\w.heap.size<=r/\ee 0 o' w' r (i,r)/\St (·=(i,r)) o w o' w':=by
 have n:=fun W=>cC 179 W;have f:=ba w (.map #[] 0);have a:=(Below.refl (w.alloc (.map #[] 0)).heap.size (w.alloc (.map #[] 0))).alloc nR (.cells #[I6 own,I6 2,I6 6,I6 0,I6 0,.map (some w.heap.size),aS] 195);have g:=(b4.new w).below a;have c:=am.new (w.alloc (.map #[] 0)) 195 #[I6 own,I6 2,I6 6,I6 0,I6 0,.map (some w.heap.size),aS];rw[qA]at c;have h:=f.trans (a.mono (by simp));have j:=((St.J (p:=(·=(i,w.heap.size+1))) h hf).tag (b:=w.heap.size+1) (x:=(i,w.heap.size+1)) (by omega) (ap c) (.inr rfl)).tag (b:=w.heap.size) (x:=(i,w.heap.size+1)) nR g.lt (.inr rfl);have k:Hid (ee 0 (b7 (b7 o (w.heap.size+1) (i,w.heap.size+1)) w.heap.size (i,w.heap.size+1)) ((w.alloc (.map #[] 0)).alloc (.cells #[I6 own,I6 2,I6 6,I6 0,I6 0,.map (some w.heap.size),aS] 195)) (w.heap.size+1) (i,w.heap.size+1)):=
  aH ⟨by rw[bT (by omega),a8],own,2,6,0,0,w.heap.size,_,[],[],c,a8 _ _ _,g,by simp,by simp,RI.nil _ _,by simp,by simp⟩
 have m:=aH j;apply cI;go_in;go_wp2;go_ret;exact⟨_,_,rfl,by omega,k,m⟩
theorem vD{T:Nat}{o:Ow}{x:Nat×Nat}(k:Int)(own:Int)(b:Nat)(a:Ce w b 0 (Pt r))(c:Ce w r 0 (I6 own)):Cs 227 #[I6 k,Pt b] w fun e w'=>Rt e (.bool (k==own))/\w=w':=by
 apply cI;go_in;go_wp2;go_ret;exact⟨rfl,rfl⟩
theorem vE(k:Int)(b:Nat){v}{l:List Int}(f:Ce w b 0 v)(hv:Rw aC w v l)(g:l.length<=1000):Cs 228 #[I6 k,Pt b] w fun e w'=>Rt e (.bool (!l.contains k))/\w=w':=by
 have a:=aH (cS k w hv (by omega));obtain⟨A,c,rfl,_⟩:=hv.slice;generalize l.contains k=bb at a;apply cI;go_in;go_wp2_with fail;refine a.mono ?_;rintro h i ⟨rfl,rfl⟩;go_wp2;go_ret;exact⟨rfl,rfl⟩
theorem lk:∀(k x:Nat),k<=64->x < 2 ^ k->x < 2 ^ Lib.bitLen x
 |0,x,_,h=>by
  have:x=0:=by simpa using h
  subst this;exact Nat.two_pow_pos _
 |k+1,x,hk,h=>by
  by_cases h0:x=0
  ·subst h0;exact Nat.two_pow_pos _
  ·have a:2 ^ (k+1)<=2 ^ 64:=Nat.pow_le_pow_right (by omega) hk
   have:=lk k (x / 2) (by omega) (by rw[yV (by omega),<-wB];exact h)
   rw[Lib.bitLen_half x h0 (by omega),Nat.add_comm,wB]
   omega
theorem DF(j:Nat):128 ^ j=2 ^ (7*j):=by rw[Nat.pow_mul]
theorem DG(a:n < 18446744073709551616)(k:1<=j)(i:j<=10)(b:n < 128 ^ j)(c:2<=j->128 ^ (j - 1)<=n):aM n=j:=by
 have m:Lib.bitLen n<=7*j:=by
  by_cases h:7*j<=64
  ·exact gl _ _ h (by rw[<-DF];exact b)
  ·have:=gl 64 n (by omega) a;omega
 have f:=lk 64 n (by omega) a;have g:2<=j->7*(j - 1) < Lib.bitLen n:=fun h=>by
  have:=c h;rw[DF]at this;exact(Nat.pow_lt_pow_iff_right (by omega:1 < 2)).1 (Nat.lt_of_le_of_lt this f)
 unfold aM;by_cases h:2<=j
 ·have:=g h;omega
 ·omega
theorem DH(a:n < 18446744073709551616):n < 128 ^ aM n/\(2<=aM n->128 ^ (aM n - 1)<=n):=by
 have b:=lk 64 n (by omega) a;constructor
 ·rw[DF];exact zT b (Nat.pow_le_pow_right (by omega) (by unfold aM;omega))
 ·intro h;have c:n≠0:=by
   rintro rfl;have:aM 0=1:=by decide
   omega
  have f:=(pa 64 n (by omega) a c).1;rw[DF];exact zD (Nat.pow_le_pow_right (by omega) (by unfold aM at h ⊢;omega)) f
theorem Es(h:n < 256):(UInt8.ofNat n).toNat=n:=by simp[Nat.mod_eq_of_lt h]
theorem ot(n j:Nat):n / 128 ^ (j+1)*128+n / 128 ^ j % 128=n / 128 ^ j:=by
 rw[wB,<-Nat.div_div_eq_div_mul];omega
theorem sH(a:n < 18446744073709551616):n / 128 ^ (j+1) < 144115188075855872:=by
 rw[wB,Nat.mul_comm,<-Nat.div_div_eq_div_mul];exact Nat.lt_of_le_of_lt (Nat.div_le_self _ _) (by omega)
theorem xP(n:Nat)(b:n < 18446744073709551616) r:∀(j k:Nat) (f:Bool),j+1<=k->(f=true->1<=j->n / 128 ^ j % 128≠0)->
  iu ((ec n (j+1)).dropLast++([UInt8.ofNat (n % 128)]++r)) k f (n / 128 ^ (j+1))=some (n,r)
 |0,k,f,hk,hf=>by
  obtain⟨k,rfl⟩:∃q,k=q+1:=⟨k - 1,by omega⟩
  have c:(UInt8.ofNat (n % 128)).toNat=n % 128:=Es (by omega)
  have g:=sH (j:=0) b
  have a:=ot n 0
  simp only[Nat.pow_zero,Nat.div_one]at a
  show iu (UInt8.ofNat (n % 128)::r) (k+1) f (n / 128 ^ (0+1))=some (n,r)
  unfold iu
  rw[c,if_neg (by simp;omega),if_pos (by omega),a]
 |j+1,k,f,hk,hf=>by
  obtain⟨k,rfl⟩:∃q,k=q+1:=⟨k - 1,by omega⟩
  have c:(UInt8.ofNat (128+n / 128 ^ (j+1) % 128)).toNat=128+n / 128 ^ (j+1) % 128:=Es (by omega)
  have g:=sH (j:=j+1) b
  have a:=ot n (j+1)
  rw[ec,List.dropLast_cons_of_ne_nil (by simp[ec]),jW]
  unfold iu
  rw[c,if_neg (by
   simp only[Bool.or_eq_true,decide_eq_true_eq,yE,beq_iff_eq,not_or,not_and]
   exact⟨by omega,fun e=>by have:=hf e (by omega);omega⟩),if_neg (by omega),Nat.add_mod_left,Nat.mod_mod,a]
  exact xP n b r j k false (by omega) (by simp)
theorem FY(n:Nat)(a:n < 18446744073709551616) r:iu (bG n++r) 10 true 0=some (n,r):=by
 obtain⟨i,j⟩:=p6 a;obtain⟨b,f⟩:=DH a;have c:=xP n a r (aM n - 1) 10 true (by omega) (fun _ h=>by
  have g:=f (by omega);have k:n / 128 ^ (aM n - 1) < 128:=by
   rw[yV (Nat.pow_pos (by omega)),Nat.mul_comm,<-wB];show n < 128 ^ (aM n - 1+1);rw[show aM n - 1+1=aM n by omega];exact b
  have m:0 < n / 128 ^ (aM n - 1):=Nat.div_pos g (Nat.pow_pos (by omega));omega)
 rw[show aM n - 1+1=aM n by omega,Nat.div_eq_of_lt b]at c;unfold bG;rw[zH];exact c
theorem xQ:∀(l:List UInt8) (k:Nat) (f:Bool) (p n:Nat) (r:List UInt8),iu l k f p=some (n,r)->∃j,j+1<=k/\l=(ec n (j+1)).dropLast++([UInt8.ofNat (n % 128)]++r)/\n / 128 ^ (j+1)=p/\(f=true->1<=j->n / 128 ^ j % 128≠0)
 |[],k,f,p,n,r,h=>by unfold iu at h;cases h
 |c::l,0,f,p,n,r,h=>by unfold iu at h;cases h
 |c::l,k+1,f,p,n,r,h=>by
  have i:=UInt8.toNat_lt c
  unfold iu at h
  split at h
  ·cases h
  ·rename_i hg
   simp only[Bool.or_eq_true,decide_eq_true_eq,yE,beq_iff_eq,not_or,not_and]at hg
   split at h
   ·injection h with h
    injection h with h1 h2
    subst h1;subst h2
    refine⟨0,by omega,?_,by simp;omega,fun _ h=>by omega⟩
    have:(p*128+c.toNat) % 128=c.toNat:=by omega
    rw[this]
    simp[ec]
   ·rename_i h128
    obtain⟨j,m,b,hd,hf⟩:=xQ l k false _ n r h
    have q:=ot n (j+1)
    have a:=hd
    have g:n / 128 ^ (j+1+1)=p:=by rw[wB,<-Nat.div_div_eq_div_mul,a];omega
    refine⟨j+1,by omega,?_,g,fun e _=>?_⟩
    ·rw[ec,List.dropLast_cons_of_ne_nil (by simp[ec]),jW,<-b,a]
     congr 1
     have:128+(p*128+c.toNat % 128) % 128=c.toNat:=by omega
     rw[this];simp
    ·have:=hg.2 e
     omega
theorem zo{l}{r}(h:iu l 10 true 0=some (n,r)):l=bG n++r:=by
 obtain⟨j,b,c,hd,hf⟩:=xQ l 10 true 0 n r h;have f:=(gi l 10 true 0 n r h).1;have a:0 < 128 ^ (j+1):=Nat.pow_pos (by omega);have g:n < 128 ^ (j+1):=by
  rcases jH n (128 ^ (j+1))with h|h
  ·exact h
  ·have:=Nat.div_pos h a;omega
 have i:aM n=j+1:=DG f (by omega) b g (fun h=>by
  have:=hf rfl (by omega);rcases jH n (128 ^ (j+1 - 1))with h|h
  ·rw[Nat.add_sub_cancel]at h;rw[Nat.div_eq_of_lt h]at this;simp at this
  ·exact h)
 unfold bG;rw[i,zH];exact c
theorem fZ(a:n < 18446744073709551616) r:bk m (bG n++r)=if m < n then none else some (n,r):=by
 unfold bk;rw[FY n a r];rfl
theorem dR{l}{x:Nat×List UInt8}(h:bk m l=some x):l=bG x.1++x.2:=by
 unfold bk at h;cases hd:iu l 10 true 0 with
 |none=>rw[hd]at h;cases h
 |some y=>
  rw[hd]at h;simp only[zI]at h;split at h
  ·cases h
  ·injection h with h;subst h;exact zo hd
theorem xR(h:s.length<=m)(a:s.length < 18446744073709551616) r:du m (cB s++r)=some (s,r):=by
 unfold du cB;rw[zH,fZ a,if_neg (by omega)];simp
def Wk(p:List UInt8->Pr α)(x:α)(s:List UInt8):Prop:=∀r,p (s++r)=none\/p (s++r)=some (x,r)
theorem Wk.bind{β:Type}{q:α->List UInt8->Pr β}{x:α}{y:β}{s t}(a:Wk p x s)(b:Wk (q x) y t):Wk (fun l=>(p l).bind fun z=>q z.1 z.2) y (s++t):=by
 intro r;rw[zH];rcases a (t++r)with h|h
 ·exact .inl (by simp[h])
 ·simp only[h,zI];exact b r
theorem Cj(a:n < 18446744073709551616):Wk (bk m) n (bG n):=fun r=>by
 rw[fZ a];by_cases h:m < n<;>simp[h]
theorem DI(a:s.length < 18446744073709551616):Wk (du m) s (cB s):=by
 intro r;unfold du cB;rw[zH,fZ a];by_cases h:m < s.length<;>simp[h]
theorem vF{d}(h:eL d):Wk dC d (dB d):=by
 intro r;obtain⟨a,b⟩:=d;unfold dC dB;unfold eL at h;dsimp only at h ⊢;rw[zH,fZ (by omega)];by_cases h1:MD < a.toNat
 ·simp[h1]
 ·simp only[h1,if_false,zI];rw[fZ (by omega)];by_cases h2:MD < b.toNat
  ·simp[h2]
  ·simp only[h2,if_false,zI];split
   ·rename_i ho;right;have:=(ev _).1 ho;dsimp only at this;simp;omega
   ·exact .inl rfl
theorem xS:∀(l:List α),(∀a∈l,Wk p a (f a))->Wk (cK p l.length) l (bW f l)
 |[],h=>fun r=>.inr rfl
 |a::l,h=>fun r=>by
  unfold bW
  rw[zX,zH,zQ]
  unfold cK
  rcases h a jO (l.flatMap f++r)with h1|h1
  ·exact .inl (by rw[h1];rfl)
  ·rw[h1]
   simp only[zI]
   rcases xS l (fun b hb=>h b (qF _ hb)) r with h2|h2
   ·exact .inl (by unfold bW at h2;rw[h2];rfl)
   ·exact .inr (by unfold bW at h2;rw[h2];rfl)
theorem qy(l:List α)(h:∀a∈l,Wk p a (f a))(b:l.length < 18446744073709551616):Wk (eh p m) l (bZ f l):=by
 intro r;unfold bZ;exact Wk.bind (p:=bk m) (q:=fun n=>cK p n) (Cj b) (xS l h) r
theorem E8{m:Mg}(h:tR m)(a:0<=m.c):Wk jh m (gp m):=by
 intro r;obtain⟨b,c,f,g⟩:=h;unfold jh gp;simp only[zH];rcases vF b (cB m.q++(cB m.b++(bG m.c.toNat++r)))with e|e
 ·exact .inl (by rw[e];rfl)
 rw[e];simp only[zI];rw[xR c (by omega)];simp only[zI];rw[xR f (by omega)];simp only[zI];rw[fZ (by omega)];by_cases hk:1048576 < m.c.toNat
 ·simp[hk]
 ·right;simp[hk];cases m;simp at a ⊢;omega
theorem Ck{b:List bC}(a:∀m∈ls,tR m/\0<=m.c)(g:∀d∈b,eL d)(h:∀d∈cl,eL d)(i:ls.length < 18446744073709551616)(j:b.length < 18446744073709551616)(k:cl.length < 18446744073709551616):
  Wk kn (ls,b,cl) (c6 ls b cl):=by
 intro r;unfold kn c6;have c:Wk js (b,cl) (lX b cl):=by
  intro r;unfold js lX;rw[zH];rcases qy (p:=dC) (f:=dB) (m:=1000) b (fun d hd=>vF (g d hd)) j (bZ dB cl++r)with e|e
  ·exact .inl (by rw[e];rfl)
  rw[e];simp only[zI];rcases qy (p:=dC) (f:=dB) (m:=1000) cl (fun d hd=>vF (h d hd)) k r with e|e
  ·exact .inl (by rw[e];rfl)
  ·exact .inr (by rw[e];rfl)
 rw[zH];rcases c (bZ gp ls++r)with e|e
 ·exact .inl (by rw[e];rfl)
 rw[e];simp only[zI];rcases qy (p:=jh) (f:=gp) (m:=1000) ls (fun m hm=>E8 (a m hm).1 (a m hm).2) i r with e|e
 ·exact .inl (by rw[e];rfl)
 ·exact .inr (by rw[e];rfl)
def Cn(p:List UInt8->Pr α)(f:α->List UInt8):Prop:=∀l x r,p l=some (x,r)->l=f x++r
theorem E9(m:Nat):Cn (bk m) bG:=fun l x r h=>dR h
theorem qz(m:Nat):Cn (du m) cB:=by
 intro l x r h;unfold du at h;cases hp:bk m l with
 |none=>rw[hp]at h;cases h
 |some y=>
  rw[hp]at h;simp only[zI]at h;split at h
  ·cases h
  ·injection h with h;injection h with h1 h2;have a:=dR hp;subst h1;subst h2;unfold cB;rw[zU,Nat.min_eq_left (by omega),zH,yB];exact a
theorem vG:Cn dC dB:=by
 intro l x r h;unfold dC at h;cases hp:bk MD l with
 |none=>rw[hp]at h;cases h
 |some y=>
  rw[hp]at h;simp only[zI]at h;cases hq:bk MD y.2 with
  |none=>rw[hq]at h;cases h
  |some z=>
   rw[hq]at h;simp only[zI]at h;split at h
   ·injection h with h;injection h with h1 h2;subst h1;subst h2;rw[dR hp,dR hq];unfold dB;simp
   ·cases h
theorem Fa:Cn jh gp:=by
 intro l x r h;unfold jh at h;cases hp:dC l with
 |none=>rw[hp]at h;cases h
 |some y=>
  rw[hp]at h;simp only[zI]at h;cases hq:du 1000 y.2 with
  |none=>rw[hq]at h;cases h
  |some z=>
   rw[hq]at h;simp only[zI]at h;cases hr:du 1000 z.2 with
   |none=>rw[hr]at h;cases h
   |some u=>
    rw[hr]at h;simp only[zI]at h;cases hs:bk 1048576 u.2 with
    |none=>rw[hs]at h;cases h
    |some v=>
     rw[hs]at h;injection h with h;injection h with h1 h2;subst h1;subst h2;rw[vG l y.1 y.2 hp,qz 1000 y.2 z.1 z.2 hq,qz 1000 z.2 u.1 u.2 hr,dR hs];unfold gp;simp
theorem xT(a:Cn p f):∀(n:Nat) (l:List UInt8) (x:List α) (r:List UInt8),cK p n l=some (x,r)->x.length=n/\l=bW f x++r
 |0,l,x,r,h=>by
  unfold cK at h
  injection h with h
  injection h with h1 h2
  subst h1;subst h2
  exact⟨rfl,rfl⟩
 |n+1,l,x,r,h=>by
  unfold cK at h
  cases hq:p l with
  |none=>rw[hq]at h;cases h
  |some y=>
   rw[hq]at h
   simp only[zI]at h
   cases hr:cK p n y.2 with
   |none=>rw[hr]at h;cases h
   |some z=>
    rw[hr]at h
    injection h with h
    injection h with h1 h2
    subst h1;subst h2
    obtain⟨c,b⟩:=xT a n y.2 z.1 z.2 hr
    refine⟨by simp[c],?_⟩
    have:=a l y.1 y.2 hq
    unfold bW at b ⊢
    rw[zX,zH,<-b]
    exact this
theorem q0(a:Cn p f)(m:Nat):Cn (eh p m) (bZ f):=by
 intro l x r h;unfold eh at h;cases hq:bk m l with
 |none=>rw[hq]at h;cases h
 |some y=>
  rw[hq]at h;simp only[zI]at h;obtain⟨b,c⟩:=xT a y.1 y.2 x r h;have:=dR hq;unfold bZ;rw[b,zH,<-c];exact this
theorem Co{l}{x:List Mg×List bC×List bC}{r}(h:kn l=some (x,r)):l=c6 x.1 x.2.1 x.2.2++r:=by
 unfold kn at h;cases hq:js l with
 |none=>rw[hq]at h;cases h
 |some y=>
  rw[hq]at h;simp only[zI]at h;cases hr:eh jh 1000 y.2 with
  |none=>rw[hr]at h;cases h
  |some z=>
   rw[hr]at h;injection h with h;injection h with h1 h2;subst h1;subst h2;unfold js at hq;cases hs:eh dC 1000 l with
   |none=>rw[hs]at hq;cases hq
   |some u=>
    rw[hs]at hq;simp only[zI]at hq;cases ht:eh dC 1000 u.2 with
    |none=>rw[ht]at hq;cases hq
    |some v=>
     rw[ht]at hq;injection hq with hq;subst hq;have a:=q0 vG 1000 l u.1 u.2 hs;have b:=q0 vG 1000 u.2 v.1 v.2 ht;have c:=q0 Fa 1000 v.2 z.1 z.2 hr;unfold c6 lX;simp only[zH];rw[<-c,<-b];exact a
theorem kD(f:α->List UInt8):∀(l:List α),(∀a∈l,1<=(f a).length)->l.length<=(bW f l).length
 |[],_=>by simp
 |a::l,h=>by
  have:=kD f l (fun b hb=>h b (qF _ hb))
  have c:=h a jO
  unfold bW at this ⊢
  rw[zX,zC,zQ]
  omega
theorem ou(n:Nat):1<=(bG n).length:=by unfold bG;simp
theorem l5(ls:List Mg)(b cl:List bC):ls.length+(b.length+cl.length)<=(c6 ls b cl).length:=by
 have c:=kD gp ls (fun a _=>by have:=ou a.d.nd.toNat;unfold gp dB;simp;omega);have f:=kD dB b (fun a _=>by have:=ou a.nd.toNat;unfold dB;simp;omega);have g:=kD dB cl (fun a _=>by have:=ou a.nd.toNat;unfold dB;simp;omega);unfold c6 lX bZ;simp only[zC];omega
def q1(r:List UInt8):Int:=match bk MD (r.drop 1)with
 |some (n,[])=>(n:Int)
 |_=>0
def fh(r:List UInt8):Int:=if r.head?=some 82 then q1 r else 0
def ix(r:List UInt8):Int:=if r.head?=some 73 then q1 r else 0
def ov(M:Mg->Prop)(r:List UInt8):Prop:=r.head?=some 66->∀n rest x,bk 15 (r.drop 1)=some (n,rest)->kn rest=some (x,[])->∀m∈x.1,M m
theorem Cp{z:Int}(a:z < 9223372036854775808)(b:z.toNat<=MD):q1 (c::cT z)=z.toNat:=by
 have:=fZ (m:=MD) (n:=z.toNat) (by omega) [];rw[if_neg (by omega),qU]at this;unfold q1 cT;rw[show List.drop 1 (c::bG z.toNat)=bG z.toNat from rfl,this]
theorem Cq{M:Mg->Prop}{part:Nat}{b:List bC}(p:part < 16)(f:∀m∈ls,M m)(g:∀m∈ls,tR m/\0<=m.c)(i:∀d∈b,eL d)(j:∀d∈cl,eL d)(q:ls.length < 10000000)(s:b.length < 10000000)(t:cl.length < 10000000):
  ov M (66::(cT part++c6 ls b cl)):=by
 intro _ n rest x c a;have:=fZ (m:=15) (n:=part) (by omega) (c6 ls b cl);rw[if_neg (by omega)]at this;have k:List.drop 1 (66::(cT part++c6 ls b cl))=bG part++c6 ls b cl:=by unfold cT;simp
 rw[k,this]at c;injection c with c;injection c with _ c;subst c;rcases Ck g i j (by omega) (by omega) (by omega) []with h|h
 ·rw[qU]at h;rw[h]at a;cases a
 ·rw[qU]at h;rw[h]at a;injection a with a;injection a with a _;subst a;exact f
theorem gw{M:Mg->Prop}{t}(h:c≠66):ov M (c::t):=fun e=>by
 simp at e;exact absurd e h
structure Cl where
 op:Int
 q:List UInt8
 b:List UInt8
 nd:Int
structure bX where
 cs:List Cl
 K:bC->Option Nat
structure bX.Le(E E':bX):Prop where
 cs:∃l,E'.cs=E.cs++l
 K:∀d k,E.K d=some k->E'.K d=some k
theorem bX.Le.refl(E:bX):E.Le E:=⟨⟨[],by simp⟩,fun _ _ h=>h⟩
theorem bX.Le.trans{E E' E'':bX}(h:E.Le E')(k:E'.Le E''):E.Le E'':=by
 obtain⟨⟨l,a⟩,b⟩:=h;obtain⟨⟨m,c⟩,f⟩:=k;exact⟨⟨l++m,by rw[c,a,zH]⟩,fun d n e=>f d n (b d n e)⟩
theorem bX.Le.at_{E E':bX}(h:E.Le E'){c:Cl}(a:E.cs[k]?=some c):E'.cs[k]?=some c:=by
 obtain⟨⟨l,b⟩,_⟩:=h;rw[b,qQ (zE.1 a).1];exact a
structure pB(E:bX):Prop where
 call:∀d k,E.K d=some k->∃c,E.cs[k]?=some c/\c.op=3/\c.nd=d.nd
 one:∀d d' k,E.K d=some k->E.K d'=some k->d=d'
 ok:∀d k,E.K d=some k->aO d=true
def fR(E:bX)(m:Mg):Prop:=aO m.d=true/\m.q.length<=100/\m.b.length<=1000/\0<=m.c/\m.c<=1048576/\∃k c,E.K m.d=some k/\E.cs[k]?=some c/\c.q=m.q/\c.b=m.b
theorem fR.mono{E E':bX}{m}(h:fR E m)(a:E.Le E'):fR E' m:=by
 obtain⟨b,f,g,i,j,k,c,n,p,q⟩:=h;exact⟨b,f,g,i,j,k,c,a.K _ _ n,a.at_ p,q⟩
theorem fR.lt{E:bX}{m}(h:fR E m):tR m:=⟨b0 h.1,by have:=h.2.1;omega,by have:=h.2.2.1;omega,by have:=h.2.2.2.2.1;omega⟩
theorem fR.both{E:bX}{x y}(a:fR E x)(b:fR E y):fR E (gu x y):=by
 obtain⟨c,f,g,n,p,h⟩:=a;obtain⟨i,j,k,q,s,m⟩:=b;unfold gu;cases jc x y
 ·exact⟨c,f,g,by simp;omega,by simp;omega,h⟩
 ·exact⟨i,j,k,by simp;omega,by simp;omega,m⟩
theorem fR.join{E:bX}{l1 l2}{m}(h:pq l1 l2 m)(a:∀m∈l1,fR E m)(b:∀m∈l2,fR E m):fR E m:=by
 rcases h with h|h|⟨x,hx,y,hy,_,rfl⟩
 ·exact a m h
 ·exact b m h
 ·exact(a x hx).both (b y hy)
theorem ov.mono{M M':Mg->Prop}{r}(h:ov M r)(a:∀m,M m->M' m):ov M' r:=fun e n rest x e1 e2 m hx=>a m (h e n rest x e1 e2 m hx)
structure Rp where
 ref:Int
 err:Int
 n:Int
 m:Mg
 rc:Int
structure fE(E:bX)(i:Int)(r:Rp):Prop where
 at_:∃k c,r.ref=(k:Nat)/\E.cs[k]?=some c/\c.nd=i/\(r.err=0->(c.op=3->E.K ⟨i,r.n⟩=some k)/\(c.op=4->1<=r.m.c/\r.m.c<=5/\r.m.q=c.q/\∃j d,E.K r.m.d=some j/\j < k/\E.cs[j]?=some d/\d.q=r.m.q/\d.b=r.m.b))
theorem fE.mono{E E':bX}{i:Int}{r:Rp}(h:fE E i r)(f:E.Le E'):fE E' i r:=by
 obtain⟨k,c,m,n,p,q⟩:=h.at_;refine⟨k,c,m,f.at_ n,p,fun e=>?_⟩;obtain⟨s,t⟩:=q e;refine⟨fun e=>f.K _ _ (s e),fun e=>?_⟩;obtain⟨a,b,u,j,d,x,y,z,g⟩:=t e;exact⟨a,b,u,j,d,f.K _ _ x,y,f.at_ z,g⟩
def sI(l:List UInt8):Pr (List Nat):=eh (bk MD) 9 l
def DJ(E:bX)(s:List UInt8):Prop:=∀ns r1,sI s=some (ns,r1)->(∀f,ns[1]?=some f->1<=f/\f<=64)/\∀mk r2 bg r3,du 8000 r1=some (mk,r2)->kn r2=some (bg,r3)->∀m∈bg.1,fR E m
def el(E:bX)(s:List UInt8):Prop:=s.length<=8000/\DJ E s
theorem el.mono{E E':bX}{s}(h:el E s)(c:E.Le E'):el E' s:=⟨h.1,fun ns r1 h1=>by
 obtain⟨a,b⟩:=h.2 ns r1 h1
 exact⟨a,fun mk r2 bg r3 h2 h3 m hm=>(b mk r2 bg r3 h2 h3 m hm).mono c⟩⟩
theorem DK{l:List Nat}(h:∀n∈l,n < 18446744073709551616)(a:l.length < 18446744073709551616):Wk sI l (bZ bG l):=
 qy (p:=bk MD) (f:=bG) (m:=9) l (fun n hn=>Cj (h n hn)) a
theorem DL{E:bX}{ns:List Nat}{c:List UInt8}{b:List bC}{t}(h:∀n∈ns,n < 18446744073709551616)(i:ns.length < 18446744073709551616)(j:c.length < 18446744073709551616)(g:∀m∈ls,fR E m)
  (k:∀d∈b,eL d) (p:∀d∈cl,eL d) (q:ls.length < 18446744073709551616) (s:b.length < 18446744073709551616) (u:cl.length < 18446744073709551616) (hf:∀f,ns[1]?=some f->1<=f/\f<=64):
  DJ E (bZ bG ns++(cB c++(c6 ls b cl++t))):=by
 intro x y a;rcases DK h i (cB c++(c6 ls b cl++t))with e|e
 ·rw[e]at a;cases a
 rw[e]at a;injection a with a;injection a with a e4;subst a;subst e4;refine⟨hf,fun mk' r2 bg r3 e2 e3=>?_⟩;rcases DI (m:=8000) j (c6 ls b cl++t)with e|e
 ·rw[e]at e2;cases e2
 rw[e]at e2;injection e2 with e2;injection e2 with e2 e5;subst e2;subst e5;rcases Ck (fun m hx=>⟨(g m hx).lt,(g m hx).2.2.2.1⟩) k p q s u t with e|e
 ·rw[e]at e3;cases e3
 rw[e]at e3;injection e3 with e3;injection e3 with e3 _;subst e3;exact g
def eN(tv:Nat->Int)(w:World):Prop:=∀k,k < 16->w.cell? ⟨1,k,none⟩=some (.int .u16 (tv k))
theorem eN.below(h:eN tv w)(a:Below w.heap.size w w'):eN tv w':=fun k hk=>aD a (h k hk)
def sJ(tv:Nat->Int)(c:Int):Int:=bits .xor .u16 (IntKind.u16.wrap (c*16)) (tv (c / 4096).toNat)
def Cr(c:Int)(b:UInt8):Int:=bits .xor .u16 c (IntKind.u16.wrap (IntKind.u16.wrap b.toNat*256))
def Ct(tv:Nat->Int)(c:Int)(b:UInt8):Int:=sJ tv (sJ tv (Cr c b))
def j1(tv:Nat->Int)(s:List UInt8):Int:=s.foldl (Ct tv) 65535
theorem sK(x y:Int):0<=bits .xor .u16 x y/\bits .xor .u16 x y<=65535:=by
 show 0<=IntKind.u16.wrap _/\IntKind.u16.wrap _<=65535;generalize(_:Int)=z;simp only[IntKind.wrap,IntKind.bits,IntKind.signed];simp;omega
theorem q2(tv:Nat->Int) s:0<=j1 tv s/\j1 tv s<=65535:=by
 unfold j1;rcases List.eq_nil_or_concat s with rfl|⟨l,b,rfl⟩
 ·simp
 ·rw[List.concat_eq_append,List.foldl_append];exact sK _ _
theorem Cu(tv:Nat->Int)(s:List UInt8)(k:Nat)(h:k < s.length):j1 tv (s.take (k+1))=Ct tv (j1 tv (s.take k)) s[k]:=by
 unfold j1;rw[qE h,List.foldl_append];rfl
theorem xU(tv:Nat->Int)(s:List UInt8) w(ht:eN tv w)(hl:s.length<=1000000000):
  Cs 351 #[.string (aF s)] w fun e w'=>Rt e (I6 (j1 tv s))/\w=w':=by
 have i:=aH ht;apply cI;go_in;go_wp2;go_loopw[3,4,7] (fun v3 _ v7 wr=>∃(k:Nat),k<=s.length/\v7=I6 k/\v3=.int .u16 (j1 tv (s.take k))/\w=wr) (fun _ _ v7 _=>s.length - (intOf v7).toNat)
 case atStart=>exact⟨0,by omega,rfl,rfl,rfl⟩
 case round=>
  obtain⟨k,y,rfl,rfl,rfl⟩:=hrel;have g:=q2 tv (s.take k);by_cases hlt:k < s.length
  ·have f:=aH (Cu tv s k hlt);generalize j1 tv (s.take k)=c at g f;obtain⟨b,a⟩:=nx (s[k]);rw[a]at f;have h:=aH a;have A:Hid (Cr c b=bits .xor .u16 c (IntKind.u16.wrap (IntKind.u16.wrap b.toNat*256))):=aH rfl;go_wp2;go_loopw[3,17] (fun v3 v17 wr2=>∃(j:Nat) (d:Int),j<=2/\v17=I6 j/\v3=.int .u16 d/\0<=d/\d<=65535/\(j=0->d=Cr c b)/\(j=1->d=sJ tv (Cr c b))/\(j=2->d=Ct tv c b)/\w=wr2) (fun _ v17 _=>2 - (intOf v17).toNat)
   case atStart=>
    refine⟨0,Cr c b,by omega,rfl,?_,(sK _ _).1,(sK _ _).2,fun _=>rfl,by simp,by simp,rfl⟩;exact congrArg (fun z:UInt8=>Value.int .u16 (bits .xor .u16 c (IntKind.u16.wrap (IntKind.u16.wrap z.toNat*256)))) h
   case round=>
    obtain⟨j,d,B,rfl,rfl,C,D,m,n,p,rfl⟩:=hrel;by_cases hlj:j < 2
    ·have q:(d / 4096).toNat < 16:=by omega
     have F:=i _ q;obtain⟨t,u⟩:=gB m n;have hd:Hid (sJ tv d=bits .xor .u16 (IntKind.u16.wrap (d*16)) (tv (d / 4096).toNat)):=aH rfl;go_wp2;go_roundw
     case rel=>
      refine⟨j+1,sJ tv d,by omega,by go_num,by rw[hd],(sK _ _).1,(sK _ _).2,by omega,fun hj1=>?_,fun hj1=>?_,trivial⟩
      ·rw[t (by omega)]
      ·rw[u (by omega)];rfl
     case measure=>simp[intOf];omega
    ·obtain rfl:j=2:=by omega
     have x:=aH (p rfl);go_wp2;go_roundw
     case rel=>exact⟨k+1,by omega,by go_num,by rw[f,x],trivial⟩
     case measure=>simp[intOf];omega
  ·obtain rfl:k=s.length:=by omega
   rw[jJ]at g ⊢;go_wp2;go_ret;exact⟨rfl,rfl⟩
theorem vH(n:Int)(s:0<=n)(t:n<=65535)(w:World):Cs 391 #[I6 n] w fun e w'=>Rt e (.agg #[.int .u8 (n / 256),.int .u8 (n % 256)])/\Below w.heap.size w w':=by
 have c:=ba w (.cells #[.int .u8 0,.int .u8 0] 427);have a:=am.new w 427 #[.int .u8 0,.int .u8 0];obtain⟨W0,b⟩:=nM (w.alloc (.cells #[.int .u8 0,.int .u8 0] 427));rw[b]at c a;have f:IntKind.u8.wrap (n / 256)=n / 256:=IntWalk.u8_in _ (by omega);have g:IntKind.u8.wrap n=n % 256:=by rw[IntKind.wrap_u8]
 generalize hq:n / 256=q at f;generalize hr:n % 256=r at g;obtain⟨u,x⟩:=am.two a;have y:=fun j=>am.frozen a j;obtain⟨h,i⟩:=gB ((a.I 0 (.int .u8 q)).I 1 (.int .u8 r)) ((c.setCell (p:=⟨w.heap.size,0,none⟩) (by simp) (.int .u8 q)).setCell (p:=⟨w.heap.size,1,none⟩) (by simp) (.int .u8 r));apply cI;go_in;go_upto_region 1 with(fail);simp only[b.out];go_wp2_with fail;obtain⟨k,m⟩:=am.two h;refine bodyPost_ret (v:=.agg #[.int .u8 q,.int .u8 r]) (by simp[results,results391,go_sem,k,m]) rfl ?_;exact⟨rfl,i⟩
def oV(tv:Nat->Int)(t:List UInt8):List UInt8:=[UInt8.ofNat (j1 tv t / 256).toNat,UInt8.ofNat (j1 tv t % 256).toNat]
def bL(tv:Nat->Int)(b:List UInt8):List UInt8:=cB b++oV tv (cB b)
theorem DM(W:World)(b c:Nat)(q r:Int)(a:Ce W b 0 (.int .u8 q))(f:Ce W b 1 (.int .u8 r))(h:0<=q/\q<=255/\0<=r/\r<=255):
  (convert 248 9 (.slice (some ⟨b,0,none⟩) 2 c)).run prog W=.ok (.string (aF [UInt8.ofNat q.toNat,UInt8.ofNat r.toNat])) W:=by
 have:=run_convert_bytes_arg (P:=prog) W 248 5 underlying248 underlying5 b 0 2 c [q,r] rfl (fun i hi=>by
  match i,hi with
  |0,_=>exact a
  |1,_=>exact f) 9 underlying9
 rw[this];rfl
theorem pC(tv:Nat->Int)(b:List UInt8)(w:World)(D:eN tv w)(L:b.length<=10000000):
  Cs 362 #[.string (aF b)] w fun e w'=>Rt e (.string (aF (bL tv b)))/\Below w.heap.size w w':=by
 have i:=aH (show bL tv b=cB b++oV tv (cB b)from rfl);have j:=gq b (by omega);obtain⟨F,p⟩:=gB D (fun W=>iF b W (by unfold yj;omega));generalize bL tv b=f at i;generalize cB b=t at i p j;apply cI;go_in;go_wp2_with fail;refine(p _).mono ?_;rintro s w1 ⟨rfl,a⟩;obtain⟨u,G⟩:=gB a (F.below a);go_wp2_with fail;refine(xU tv t _ G (by omega)).mono ?_;rintro s M ⟨rfl,rfl⟩;have k:=q2 tv t;have m:Hid (oV tv t=[UInt8.ofNat (j1 tv t / 256).toNat,UInt8.ofNat (j1 tv t % 256).toNat]):=aH rfl;generalize j1 tv t=n at k m;go_wp2_with fail;refine(vH n k.1 k.2 _).mono ?_;rintro s w2 ⟨rfl,x⟩;have y:=aH (u.trans (x.mono u.size));obtain⟨q,z⟩:=nx (n / 256);obtain⟨r,A⟩:=nx (n % 256);rw[z,A]at m;rw[z,A];have B:0<=q/\q<=255/\0<=r/\r<=255:=by omega
 have g:=am.new w2 427 #[.int .u8 q,.int .u8 r];have C:=aH (ba w2 (.cells #[.int .u8 q,.int .u8 r] 427));obtain⟨N,h⟩:=nM (w2.alloc (.cells #[.int .u8 q,.int .u8 r] 427));rw[h]at g C;obtain⟨z0,H⟩:=am.two g;have J:=fun c=>DM _ w2.heap.size c q r z0 H B;have I:=fun W=>bJ t [UInt8.ofNat q.toNat,UInt8.ofNat r.toNat] (by simp;omega) W;go_upto_region 3 with(fail);simp only[h.out];go_wp2;go_ret;rw[i,m];exact⟨rfl,y.trans (C.mono y.size)⟩
def ga(tv:Nat->Int)(s:List UInt8):Option (List UInt8×Nat):=(bk 8000 s).bind fun x=>
 if x.2.length < x.1+2 then none else if s.take (bL tv (x.2.take x.1)).length=bL tv (x.2.take x.1)then some (x.2.take x.1,(bL tv (x.2.take x.1)).length)else none
def em(tv:Nat->Int):Nat->List UInt8->List (List UInt8)×Nat
 |0,_=>([],0)
 |k+1,s=>match ga tv s with
  |none=>([],0)
  |some x=>(x.1::(em tv k (s.drop x.2)).1,x.2+(em tv k (s.drop x.2)).2)
def aP(tv:Nat->Int)(rs:List (List UInt8)):List UInt8:=rs.flatMap (bL tv)
section
variable{tv:Nat → Int}
theorem ft(b:List UInt8):(bL tv b).length=(bG b.length).length+b.length+2:=by
 unfold bL cB oV;simp;omega
theorem ox{r:List UInt8}(a:b.length<=8000):bk 8000 (bL tv b++r)=some (b.length,b++(oV tv (cB b)++r)):=by
 have:bL tv b++r=bG b.length++(b++(oV tv (cB b)++r)):=by
  generalize hs:oV tv (cB b)=s;unfold bL;rw[hs];unfold cB;simp only[zH]
 rw[this,fZ (by omega),if_neg (by omega)]
theorem zp{r:List UInt8}(a:b.length<=8000):ga tv (bL tv b++r)=some (b,(bL tv b).length):=by
 unfold ga;rw[ox a];have c:(b++(oV tv (cB b)++r)).take b.length=b:=by simp
 simp only[zI,c];rw[if_neg (by simp[oV]),if_pos (by simp)]
theorem Cv{t u:List UInt8}(c:b.length<=8000)(f:bL tv b=t++u)(g:u≠[]):ga tv t=none:=by
 unfold ga;cases hp:bk 8000 t with
 |none=>rfl
 |some x=>
  have h:=dR hp;have j:=(cO hp).1;have a:=ox (tv:=tv) (b:=b) (r:=[]) c;rw[qU,qU,f,h,zH,fZ (by omega),if_neg (by omega)]at a;injection a with a;injection a with h2 h3;have i:=congrArg List.length h3;simp[oV]at i;have k:=List.length_pos_iff.2 g;simp only[zI];rw[if_pos (by omega)]
theorem l6(h:ga tv s=some (b,n)):2<=n/\n<=s.length/\b.length<=8000/\s=bL tv b++s.drop n/\n=(bL tv b).length:=by
 unfold ga at h;cases hp:bk 8000 s with
 |none=>rw[hp]at h;cases h
 |some x=>
  rw[hp]at h;simp only[zI]at h;split at h
  ·cases h
  ·split at h
   ·rename_i h2 h3;injection h with h;injection h with h4 h5;subst h4;subst h5;have a:=congrArg List.length h3;rw[zU]at a;have:=ft (tv:=tv) (x.2.take x.1);have c:=(cO hp).1;refine⟨by omega,by omega,by simp;omega,?_,rfl⟩;conv=>lhs;rw[<-yB (bL tv (x.2.take x.1)).length s,h3]
   ·cases h
theorem sL{t}(h:ga tv t=none):∀k,em tv k t=([],0)
 |0=>rfl
 |k+1=>by unfold em;rw[h]
theorem oy{t}(h:ga tv t=none):∀(rs:List (List UInt8)) (k:Nat),(∀b∈rs,b.length<=8000)->rs.length<=k->em tv k (aP tv rs++t)=(rs,(aP tv rs).length)
 |[],k,_,_=>sL h k
 |b::rs,k,hb,hk=>by
  obtain⟨k,rfl⟩:∃q,k=q+1:=⟨k - 1,by simp at hk;omega⟩
  have f:aP tv (b::rs)++t=bL tv b++(aP tv rs++t):=by unfold aP;simp
  have a:=zp (tv:=tv) (b:=b) (r:=aP tv rs++t) (hb b jO)
  unfold em
  rw[f,a]
  simp only[List.drop_left,oy h rs k (fun c a=>hb c (qF _ a)) (by simpa using hk)]
  unfold aP
  simp
theorem lI:∀(rs:List (List UInt8)) (k:Nat),(∀b∈rs,b.length<=8000)->∃j t,(aP tv rs).take k=aP tv (rs.take j)++t/\ga tv t=none
 |[],k,_=>⟨0,[],by simp[aP],rfl⟩
 |b::rs,k,hb=>by
  have a:aP tv (b::rs)=bL tv b++aP tv rs:=by unfold aP;simp
  rw[a,List.take_append]
  by_cases hk:(bL tv b).length<=k
  ·obtain⟨j,t,f,g⟩:=lI rs (k - (bL tv b).length) (fun c hc=>hb c (qF _ hc))
   refine⟨j+1,t,?_,g⟩
   rw[f,qP hk]
   unfold aP
   simp
  ·refine⟨0,(bL tv b).take k,?_,Cv (u:=(bL tv b).drop k) (hb b jO) (yB _ _).symm ?_⟩
   ·rw[show k - (bL tv b).length=0 by omega];simp[aP]
   ·intro e;have:=congrArg List.length e;simp at this;omega
theorem oz(rs:List (List UInt8)):rs.length<=(aP tv rs).length:=by
 induction rs with
 |nil=>simp
 |cons b rs ih=>unfold aP at*;rw[zX,zC,zQ,ft];omega
theorem ih a b:aP tv (a++b)=aP tv a++aP tv b:=by unfold aP;rw[List.flatMap_append]
theorem zq(a b:List (List UInt8))(k:Nat)(h:∀x∈a,x.length<=8000)(c:∀x∈b,x.length<=8000):∃j t,aP tv a++(aP tv b).take k=aP tv (a++b.take j)++t/\ga tv t=none:=by
 obtain⟨j,t,f,g⟩:=lI (tv:=tv) b k c;exact⟨j,t,by rw[f,ih,zH],g⟩
end
def bM:El (List UInt8) where
 ty:=9
 sl:=110
 s:=1
 bytes:=16
 z:=Se
 f d:=[.string (aF d)]
 und:=underlying110
 info:=by kernel_rfl
 zs:=rfl
 pos:=by decide
 len _:=rfl
 one d u hu:=by simp at hu;subst hu;rfl
theorem Cw(g:Nat)(o:Option (List UInt8)) w(h:RS w g o):
  Cs 361 #[Pt g] w fun e w'=>Rt e (.string (aF (o.getD [])))/\w=w':=by
 cases o with
 |some l=>exact rB g l false w h.2
 |none=>obtain⟨l,b,a⟩:=h;exact rB g l true w a
theorem zr(s:List UInt8) w(hl:s.length<=1000000000):Cs 360 #[.string (aF s)] w fun e w'=>(∃b,Rt e (.bool b))/\w=w':=by
 rcases s with _|⟨c,s⟩
 ·apply cI;go_in;go_wp2;go_ret;exact⟨⟨_,rfl⟩,rfl⟩
 rcases s with _|⟨c2,s⟩
 ·have g:(aF [c])[0]'(by simp[e0])=c:=rfl;have h:=UInt8.toNat_lt c;have a:(aF [c]==aF [])=false:=rfl;generalize hy:c.toNat=y at*;by_cases hgt:128 < y
  ·have f:decide ((128:Int) < (y:Int))=true:=by simp;omega
   apply cI;go_in;go_wp2;go_ret;exact⟨⟨_,rfl⟩,rfl⟩
  ·have f:decide ((128:Int) < (y:Int))=false:=by simp;omega
   apply cI;go_in;go_wp2;go_ret;exact⟨⟨_,rfl⟩,rfl⟩
 ·have a:(c::c2::s).isEmpty=false:=rfl;have f:((((c::c2::s).length:Nat):Int)==1)=false:=by simp;omega
  generalize c::c2::s=t at*;apply cI;go_in;go_wp2;go_ret;exact⟨⟨_,rfl⟩,rfl⟩
def GB(tv:Nat->Int)(s:List UInt8)(w:World)(e:Ending)(w':World):Prop:=∃b n c,Rt e (.tuple #[.string (aF b),I6 (n:Nat),I6 c])/\(c=0/\ga tv s=some (b,n)\/c≠0/\ga tv s=none)/\Below w.heap.size w w'
theorem eN.kept(h:eN tv w)(a:w'.heap[1]?=w.heap[1]?):eN tv w':=fun k hk=>by
 have:=h k hk
 unfold World.cell? at this ⊢
 rw[a];exact this
theorem eN.lt(h:eN tv w):1 < w.heap.size:=by
 have:=h 0 (by omega);unfold World.cell? at this;cases hb:w.heap[1]? with
 |none=>simp[hb]at this
 |some x=>exact ap hb
theorem eN.only{w w'}(h:eN tv w)(a:aW g w w')(b:g≠1):eN tv w':=h.kept (a.block 1 h.lt (by simpa using b.symm))
theorem DN(tv:Nat->Int)(s:List UInt8) w(ht:eN tv w)(hl:s.length<=100000000):Cs 286 #[.string (aF s)] w (GB tv s w):=by
 have A:=aH ht;have g:Hid (ga tv s=(bk 8000 s).bind fun x=>if x.2.length < x.1+2 then none else if s.take (bL tv (x.2.take x.1)).length=bL tv (x.2.take x.1)then some (x.2.take x.1,(bL tv (x.2.take x.1)).length)else none):=aH rfl;have H:=aH (fun W=>zr s W (by omega));clear ht;apply cI;go_in;go_wp2_with fail;refine(mg s _).mono ?_;rintro c w1 ⟨rfl,a,h⟩;obtain⟨I,B,J⟩:=gC (show RS w1 w.heap.size (some s)from⟨by unfold yj;omega,a⟩) h (A.below h);clear a h;go_wp2_with fail;refine(dy w.heap.size 8000 _ w1 I (by omega)).mono ?_;rintro c w2 ⟨rfl,a,h⟩;have R:=A.lt;obtain⟨q,L⟩:=gB (B.grown h B.size (by intro k D;injection D with D;omega)) (J.only h (by omega));clear h;simp only[zI]at a;cases hp:bk 8000 s with
 |none=>
  rw[hp]at a g;obtain⟨u,i⟩:=gB g a;simp only[zI,hp,Option.map_none,Option.getD_none];clear a hp;go_wp2_with fail;refine(er w.heap.size _ _ i).mono ?_;rintro c m ⟨rfl,rfl⟩;go_wp2_with fail;refine(H _).mono ?_;rintro c m ⟨⟨b,rfl⟩,rfl⟩;cases b
  ·go_wp2_with fail;refine(er w.heap.size _ _ i).mono ?_;rintro c m ⟨rfl,rfl⟩;go_wp2_with fail;refine bodyPost_ret (v:=.tuple #[.string (aF []),I6 0,I6 10]) (by simp[results,results286,go_sem]<;>rfl) rfl ?_;exact⟨[],0,10,rfl,.inr ⟨by omega,u⟩,q⟩
  ·go_wp2_with fail;refine bodyPost_ret (v:=.tuple #[.string (aF []),I6 0,I6 12]) (by simp[results,results286,go_sem]<;>rfl) rfl ?_;exact⟨[],0,12,rfl,.inr ⟨by omega,u⟩,q⟩
 |some x=>
  obtain⟨n,r⟩:=x;have M:=cO hp;have t:=dR hp;rw[hp]at a g;have F:=congrArg List.length t;rw[zC]at F;dsimp only at F M;have i:=aH a;simp only[zI,hp,Option.map_some,Option.getD_some];clear a hp t;go_wp2_with fail;refine(er w.heap.size _ _ i).mono ?_;rintro c m ⟨rfl,rfl⟩;go_wp2_with fail;refine(er w.heap.size _ _ i).mono ?_;rintro c m ⟨rfl,rfl⟩;go_wp2_with fail;refine(Cw w.heap.size _ _ i).mono ?_;rintro c m ⟨rfl,rfl⟩;simp only[Option.map_some,Option.getD_some];by_cases hlt:r.length < n+2
  ·have N:decide ((r.length:Int) < (n:Int)+2)=true:=by simp;omega
   have u:Hid (ga tv s=none):=aH (by rw[g];simp[hlt]);clear g;go_wp2_with fail;refine bodyPost_ret (v:=.tuple #[.string (aF []),I6 0,I6 12]) (by simp[results,results286,go_sem]<;>rfl) rfl ?_;exact⟨[],0,12,rfl,.inr ⟨by omega,u⟩,q⟩
  have N:decide ((r.length:Int) < (n:Int)+2)=false:=by simp;omega
  have V:decide ((r.length:Int) < (n:Int))=false:=by simp;omega
  go_wp2_with fail;refine(Cw w.heap.size _ _ i).mono ?_;rintro c m ⟨rfl,rfl⟩;simp only[Option.map_some,Option.getD_some];have S:(n:Int)<=(r.length:Int):=by omega
  go_wp2_with fail;rw[gO];have j:=ft (tv:=tv) (r.take n);have y:(r.take n).length=n:=by simp;omega
  rw[y]at j;have p:Hid (ga tv s=if s.take (bL tv (r.take n)).length=bL tv (r.take n)then some (r.take n,(bL tv (r.take n)).length)else none):=aH (by rw[g];simp[hlt]);clear g;generalize r.take n=b at y j p;have C:=aH (pC tv b _ L (by omega));generalize bL tv b=f at j p C;refine C.mono ?_;rintro c w3 ⟨rfl,z⟩;have G:=aH (q.trans (z.mono q.size));have T:f.length<=s.length:=by omega
  clear z j;have U:=gO s f.length;by_cases he:s.take f.length=f
  ·rw[if_pos he]at p;have O:(s.take f.length==f)=true:=by simpa using he
   go_wp2_with fail;refine bodyPost_ret (v:=.tuple #[.string (aF b),I6 (f.length:Nat),I6 0]) (by simp[results,results286,go_sem]<;>rfl) rfl ?_;exact⟨b,f.length,0,rfl,.inl ⟨rfl,p⟩,G⟩
  ·rw[if_neg he]at p;have O:(s.take f.length==f)=false:=by simpa using he
   go_wp2_with fail;refine bodyPost_ret (v:=.tuple #[.string (aF []),I6 0,I6 10]) (by simp[results,results286,go_sem]<;>rfl) rfl ?_;exact⟨[],0,10,rfl,.inr ⟨by omega,p⟩,G⟩
def FZ(tv:Nat->Int)(s:List UInt8)(w:World)(e:Ending)(w':World):Prop:=∃v,Rt e (.tuple #[v,I6 ((em tv (s.length+1) s).2:Nat)])/\aK bM w.heap.size w' v (em tv (s.length+1) s).1/\Below w.heap.size w w'
theorem xV(tv:Nat->Int):∀(k:Nat) (s:List UInt8),(em tv k s).2<=s.length/\(em tv k s).1.length<=s.length
 |0,s=>by simp[em]
 |k+1,s=>by
  unfold em
  cases h:ga tv s with
  |none=>simp
  |some x=>
   have b:=l6 h
   have a:=xV tv k (s.drop x.2)
   simp at a ⊢
   omega
theorem pD(tv:Nat->Int):∀(k j:Nat) (s:List UInt8),s.length < k->s.length < j->em tv k s=em tv j s
 |k+1,j+1,s,h1,h2=>by
  unfold em
  cases h:ga tv s with
  |none=>rfl
  |some x=>
   have b:=l6 h
   have a:=pD tv k j (s.drop x.2) (by simp;omega) (by simp;omega)
   simp only[a]
theorem DO(tv:Nat->Int)(s:List UInt8) w(ht:eN tv w)(hl:s.length<=100000000):Cs 184 #[.string (aF s)] w (FZ tv s w):=by
 have I:=aH ht;clear ht;apply cI;go_in;go_wp2_with fail;go_step3;go_wp2_with fail;go_step3;go_wp2_with fail;go_loopw[2,3] (fun v2 v3 wr=>∃(n:Nat) (done:List (List UInt8)),n<=s.length/\v3=I6 n/\aK bM w.heap.size wr v2 done/\done.length<=n/\done++(em tv (s.length+1) (s.drop n)).1=(em tv (s.length+1) s).1/\n+(em tv (s.length+1) (s.drop n)).2=(em tv (s.length+1) s).2/\Bw w wr) (fun _ v3 _=>s.length - (intOf v3).toNat)
 case atStart=>exact⟨0,[],by omega,rfl,aK.nil _ _,by simp,by simp,by simp,bR _⟩
 case round=>
  obtain⟨n,done,R,rfl,g,N,y,z,q⟩:=hrel;obtain⟨A,B,C,D,J⟩:=gE g y z q (DN tv (s.drop n) wr (I.below q) (by simp;omega));clear g y z q;obtain⟨S,c2,rfl,_⟩:=(aK.rw (E:=bM) (l:=done) A).slice;have hcut:=l0 s n s.length rfl;go_wp2_with fail;refine J.mono ?_;rintro T w3 ⟨b,m,c,rfl,F,h⟩;obtain⟨t,u⟩:=gB (D.trans (h.mono D.size)) (aI A h);clear h;rcases F with⟨rfl,i⟩|⟨G,i⟩
  ·have x:=l6 i;have j:Hid (em tv (s.length+1) (s.drop n)=(b::(em tv (s.length+1) (s.drop (n+m))).1,m+(em tv (s.length+1) (s.drop (n+m))).2)):=aH (by
    conv=>lhs;unfold em
    rw[i];show((b::(em tv s.length ((s.drop n).drop m)).1),m+(em tv s.length ((s.drop n).drop m)).2)=_;rw[List.drop_drop];have:=pD tv s.length (s.length+1) (s.drop (n+m)) (by simp;simp at x;omega) (by simp;omega);rw[this])
   have O:m<=s.length - n/\2<=m:=by simp at x;omega
   clear x i;have H:(done.length+1)*bM.bytes<=140737488355328:=by show(done.length+1)*16<=_;omega
   have p:=t.size;go_wp2_with (at_builtin;refine b5 bM rfl (.tmp 17) (.tmp 19) rfl u p b rfl rfl H (by omega) ?_;intro v' w6 f a);obtain⟨L,M⟩:=gB f (t.grown a p (fun k e=>(aK.lt (E:=bM) (l:=done) u k e).1));clear f a;go_wp2_with fail;go_roundw
   case rel=>exact⟨n+m,done++[b],by omega,by go_num,L,by simp;omega,by rw[<-B,j];simp,by rw[<-C,j];simp;omega,M⟩
   case measure=>simp[intOf];omega
  ·have j:Hid (em tv (s.length+1) (s.drop n)=([],0)):=aH (sL i _);have U:(c==0)=false:=by simpa using G
   go_wp2_with fail;rw[qJ];go_ret2;have a2:=B.out;have a3:=C.out;rw[j]at a2 a3;simp only[qU,wD]at a2 a3;exact⟨_,by rw[<-a3];rfl,by rw[<-a2];exact u,t⟩
theorem zt(tv:Nat->Int)(s:List UInt8) w(ht:eN tv w)(hl:s.length<=100000000):Cs 95 #[.string (aF s)] w (FZ tv s w):=by
 have C:=aH (DO tv s w ht hl);apply cI;go_in;go_wp2_with fail;refine C.mono ?_;rintro c w1 ⟨v,rfl,a,b⟩;obtain⟨A,B⟩:=gB a b;obtain⟨f,c2,rfl,_⟩:=(aK.rw (E:=bM) A).slice;go_wp2;go_ret2;exact⟨_,rfl,A,B⟩
def ez(w:World)(l a:Nat)(br:Bool):Prop:=∃n z:Int,am w l 177 #[Pt a,I6 n,I6 z,.bool br]
theorem ez.lt{l:Nat}(h:ez w l a br):l < w.heap.size:=by obtain⟨_,_,h⟩:=h;exact ap h
def Ld(l a:Nat)(b:Nat):Prop:=b=l\/b=a
def zu(w:World)(l a:Nat)(br:Int->Bool)(R:Int->Dk->Prop)(e:Ending)(w':World):Prop:=∃c d',Rt e (I6 c)/\R c d'/\ez w' l a (br c)/\bS w' a d'/\cX (Ld l a) w w'
theorem sM(l dk K:Nat) caps(R:Int->Dk->Prop) w(h:ez w l dk false)(he:∀args W,(callFunc K args).run prog W=.ok (.enter K args) W)(hc:Cs K caps w (zu w l dk (fun _=>false) R)):
  Cs 199 #[Pt l,.func (.func K) #[] caps] w (zu w l dk (fun c=>c==14) R):=by
 obtain⟨n,z,f⟩:=h;have y:=am.cell f 0;have A:=am.cell f 3;have i:=aH hc;apply cI;go_in;go_wp2_with fail;refine i.mono ?_;rintro B w1 ⟨c,d',rfl,k,⟨m,p,a⟩,b,q⟩;have C:=fun j=>am.frozen a j;have g:l≠dk:=by
  rintro rfl;unfold bS am at b;unfold am at a;rw[b]at a;injection a with a;injection a with _ a _;exact absurd a (by decide)
 obtain⟨s,t,u,x⟩:=gD (show ez (w1.setCell ⟨l,3,none⟩ (.bool (c==14))) l dk (c==14)from⟨m,p,am.I a 3 _⟩) (show bS (w1.setCell ⟨l,3,none⟩ (.bool (c==14))) dk d' from am.only b (aB w1 l 3 (.bool (c==14))) g.symm) k (q.trans (cX.U (aB w1 l 3 (.bool (c==14))) (show Ld l dk l from .inl rfl)));have D:=am.cell a 3;go_wp2;go_ret;exact⟨c,d',rfl,u,s,t,x⟩
theorem sN(l b K:Nat) caps w(h:ez w l b true):
  Cs 199 #[Pt l,.func (.func K) #[] caps] w fun e w'=>Rt e (I6 13)/\w=w':=by
 obtain⟨n,z,a⟩:=h;have c:=am.cell a 0;have f:=am.cell a 3;apply cI;go_in;go_wp2;go_ret;exact⟨rfl,rfl⟩
def GV(tv:Nat->Int)(w:World)(rs:List (List UInt8))(e:Ending)(w':World):Prop:=∃s c,Rt e (.tuple #[.string (aF s),I6 c])/\(c=0/\s=aP tv rs/\(∀r∈rs,r.length<=8000)\/c=11/\∃r∈rs,8000 < r.length)/\Below w.heap.size w w'
theorem Cx(tv:Nat->Int)(b:List UInt8) w(ht:eN tv w)(hl:b.length<=1000000):Cs 301 #[.string (aF b)] w (GV tv w [b]):=by
 obtain⟨c,a⟩:=gB ht (show aP tv [b]=bL tv b by simp[aP]);by_cases h:b.length<=8000
 ·have g:decide ((8000:Int) < (b.length:Int))=false:=by simp;omega
  have C:=aH (pC tv b w c (by omega));generalize bL tv b=f at a C;apply cI;go_in;go_wp2_with fail;refine C.mono ?_;rintro j w1 ⟨rfl,i⟩;have B:=aH i;go_wp2;go_ret2;exact⟨_,_,rfl,.inl ⟨rfl,a.symm,by simpa using h⟩,B⟩
 ·have g:decide ((8000:Int) < (b.length:Int))=true:=by simp;omega
  apply cI;go_in;go_wp2;go_ret2;exact⟨[],_,rfl,.inr ⟨rfl,b,by simp,by omega⟩,bR _⟩
theorem iU(tv:Nat->Int)(rs:List (List UInt8))(h:∀r∈rs,r.length<=8000):(aP tv rs).length<=8012*rs.length:=by
 refine dz (bL tv) 8012 rs fun a ha=>?_;have:=h a ha;have:=(bi (n:=a.length) (by omega)).2;rw[ft];omega
theorem q3(tv:Nat->Int)(rs:List (List UInt8))(k:Nat)(h:k < rs.length):aP tv (rs.take (k+1))=aP tv (rs.take k)++bL tv rs[k]:=ju (bL tv) rs k h
theorem vI(tv:Nat->Int){v} w(ht:eN tv w)(h:Rw bM w v rs)(hl:rs.length<=1000)(p:∀r∈rs,r.length<=1000000):Cs 201 #[v] w (GV tv w rs):=by
 obtain⟨A,c,rfl,_⟩:=h.slice;obtain⟨H,HS,HT,C,D⟩:=gE h p ht (Bl.new w) (ba w (.cells #[.pointer none,aS] 250));obtain⟨W0,G⟩:=nM (w.alloc (.cells #[.pointer none,aS] 250));rw[G]at C D;clear h p ht;apply cI;go_in;go_wp2_with fail;go_step3;go_wp2_with fail;simp only[G.out];go_step3;go_wp2_with fail;go_loopw[5,11] (fun v5 v wr=>∃k:Nat,k<=rs.length/\v=I6 k/\v5=I6 0/\Bw w wr/\Bl w.heap.size w.heap.size (aP tv (rs.take k)) wr/\∀r∈rs.take k,r.length<=8000) (fun _ v _=>rs.length - (intOf v).toNat)
 case atStart=>exact⟨0,by omega,rfl,rfl,D,by simpa[aP]using C.out,by simp⟩
 case round=>
  obtain⟨k,hk,rfl,rfl,b,a,O⟩:=hrel;obtain⟨y,z,B⟩:=gC b a O;clear O;by_cases hlt:k < rs.length
  ·obtain⟨g,o,rfl,i⟩:=(H.below b).at_ (zA hlt);have R:Ce wr g (o+k) (.string (aF rs[k])):=by have:=i 0 _ rfl;simpa[bM]using this
   obtain⟨S,j⟩:=gB (Cx tv rs[k] wr (HT.below b) (HS _ (zY hlt))) (q3 tv rs k hlt);have I:Hid (∀r∈rs.take (k+1),r∈rs.take k\/r=rs[k]):=aH (fun r f=>by rw[qE hlt]at f;rcases zK.1 f with h|h;exact .inl h;exact .inr (by simpa using h));have q:Hid (rs[k]∈rs):=aH (zY hlt);generalize rs[k]=t at R S j I q;have T:Hid ((aP tv (rs.take k)).length<=10000000):=aH (by
    have h1:=iU tv (rs.take k) B;have h2:(rs.take k).length<=1000:=by simp;omega
    omega)
   clear b a i;obtain⟨F,U⟩:=nx (aP tv (rs.take k));obtain⟨F2,u⟩:=nx (aP tv (rs.take (k+1)));rw[U]at z T j;rw[u]at j;have V:=aH u;clear U u;go_wp2_with fail;refine S.mono ?_;rintro X w3 ⟨s,c5,rfl,Y,x⟩;obtain⟨N,L3⟩:=gB (y.trans (x.mono y.size)) (z.below x);clear x R;rcases Y with⟨rfl,J,L⟩|⟨rfl,m⟩
   ·have h9:t.length<=8000:=by simpa using L
    have p:s=bL tv t:=by rw[J];simp[aP]
    clear J L;have he:s.length<=8012:=by
     rw[p,ft];have:=(bi (n:=t.length) (by omega)).2;omega
    have Z:=aH p;clear p;go_wp2_with fail;refine(mC w.heap.size w.heap.size F s w3 L3 (by have:=T.out;omega) N.size).mono ?_;rintro X w4 ⟨rfl,a,M⟩;have B4:=aH (N.trans M);rw[Z,<-j]at a;have L4:=aH a;clear a M;go_wp2_with fail;go_roundw
    case rel=>exact⟨k+1,by omega,by go_num,rfl,B4,by rw[V];exact L4,fun r f=>by rcases I.out r f with h|h;exact B r h;(rw[h];exact h9)⟩
    case measure=>simp[intOf];omega
   ·have ha:=aH (show ∃r∈rs,8000 < r.length from by
     obtain⟨r,f,hc⟩:=m;rw[qR]at f;subst f;exact⟨r,q,hc⟩)
    clear m;go_wp2_with fail;rw[qJ];go_ret2;exact⟨_,_,rfl,.inr ⟨rfl,ha⟩,N⟩
  ·obtain rfl:k=rs.length:=by omega
   rw[jJ]at a B;have z:=aH a;clear a b;go_wp2_with fail;refine(mD w.heap.size w.heap.size _ _ z y.size).mono ?_;rintro X w6 ⟨rfl,b⟩;have hd:=aH (y.trans b);clear b;go_wp2_with fail;rw[qJ];go_ret2;exact⟨_,_,rfl,.inl ⟨rfl,rfl,B⟩,hd⟩
def zv(tv:Nat->Int)(rs:List (List UInt8))(d:Dk)(c:Int)(d':Dk):Prop:=(c=11/\d'=d/\∃r∈rs,8000 < r.length)\/(rs=[]/\c=0/\d'=d)\/((∀r∈rs,r.length<=8000)/\yx (aP tv rs) d d' c)
theorem ez.ne{w}{l dk:Nat}{d:Dk}(h:ez w l dk br)(a:bS w dk d):l≠dk:=by obtain⟨_,_,b⟩:=h;exact aT b a (by decide)
theorem ez.below{l:Nat}(h:ez w l a br)(b:Below w.heap.size w w'):ez w' l a br:=by obtain⟨n,z,h⟩:=h;exact⟨n,z,h.below b⟩
theorem ez.only{w w'}{l:Nat}(h:ez w l a br)(c:aW g w w')(b:l≠g):ez w' l a br:=by obtain⟨n,z,h⟩:=h;exact⟨n,z,h.only c b⟩
theorem Cy(tv:Nat->Int)(l g t u:Nat){v}(d:Dk)(w:World)(T:eN tv w)(I:Rw bM w v rs)(J:ez w l g false)(L:bS w g d)(U:Ce w t 0 v)(V:Ce w u 0 (Pt l))
  (X:t≠g) (Y:u≠g) (i:t≠l) (k:u≠l) (hl:rs.length<=1000) (Z:∀r∈rs,r.length<=1000000) (ha:d.sf.length+d.tl.length<=100000000):
  Cs 200 #[Pt t,Pt u] w (zu w l g (fun _=>false) (zv tv rs d)):=by
 have B:=J.ne L;obtain⟨HC,HL,HD⟩:=gC (vI tv w T I hl Z) J L;obtain⟨A,cp,rfl,_⟩:=I.slice;obtain⟨H1,H2⟩:=gB U V;clear T I J L Z V;apply cI;go_in;go_wp2_with fail;refine HC.mono ?_;rintro _e w1 ⟨s,c,rfl,hd,p⟩;obtain⟨HB,M,N⟩:=gC p (HL.below p) (show bS w1 g d from am.below HD p);have c1:w1.cell? ⟨t,0,none⟩=_:=aD p H1;have c2:w1.cell? ⟨u,0,none⟩=_:=aD p H2;obtain⟨C2,O⟩:=gB c2 (cX.J (S:=Ld l g) p);clear p U;rcases hd with⟨rfl,rfl,D⟩|⟨rfl,q⟩
 ·have H8:=aH D;by_cases h0:rs=[]
  ·subst h0;clear D;go_wp2_with fail;go_ret;exact⟨0,d,rfl,.inr (.inl ⟨rfl,rfl,rfl⟩),M,N,O⟩
  ·have hn:((rs.length:Int)==0)=false:=by cases rs with|nil=>exact absurd rfl h0|cons a l=>simp;omega
   have he:=iU tv rs D;have R:(aP tv rs).length<=100000000:=by omega
   obtain⟨n,z,C⟩:=M.out;have hf:=am.cell C 0;obtain⟨hg,hh⟩:=gB C (rY g (aP tv rs) d w1 N ha R);have HQ:Hid (∀d' c,yx (aP tv rs) d d' c->zv tv rs d c d'):=aH fun d' c h=>.inr (.inr ⟨H8,h⟩);have hk:Hid (∀d' c,yx (aP tv rs) d d' c->zv tv rs d c d'):=HQ;clear C he D;generalize aP tv rs=s at*;go_wp2_with fail;refine hh.mono ?_;rintro _e w2 ⟨c,d',rfl,hq,F,m⟩;obtain⟨G,f,H,HA⟩:=gD F (hg.only m B) (O.trans (cX.U m (.inr rfl))) (HQ d' c hq);have x:=bv c1 m X;have y:=bv c2 m Y;clear F m hq c1 c2 hf;by_cases hc:c=0
   ·subst hc;have z1:=am.cell f 1;have z2:=am.cell f 2;have zf:=fun j=>am.frozen f j;obtain⟨HX,HY⟩:=gB (fun a b=>show ez (((w2.setCell ⟨l,1,none⟩ (I6 a)).setCell ⟨l,2,none⟩ (I6 b)).drew) l g false from⟨a,b,am.I (am.I f 1 _) 2 _⟩) (fun(a b:Int)=>show bS (((w2.setCell ⟨l,1,none⟩ (I6 a)).setCell ⟨l,2,none⟩ (I6 b)).drew) g d' from am.ad (am.ad G B.symm) B.symm);have HZ:=aH (fun(a b:Int)=>show cX (Ld l g) w (((w2.setCell ⟨l,1,none⟩ (I6 a)).setCell ⟨l,2,none⟩ (I6 b)).drew)from
     ((H.trans (cX.U (aB _ _ _ _) (.inl rfl))).trans (cX.U (aB _ _ _ _) (.inl rfl))).trans (cX.J (bD _)))
    clear f;go_wp2_with fail;show(Code.region _ (_::_::_::_::_::Ll _::_::_::_::_::_::_::Ll _::_).toArray _).wp _ _ _ _;go_region_held3 (fun w'=>Ce w' t 0 (.slice A rs.length cp)/\Ce w' u 0 (Pt l)) (first|exact⟨x,y⟩|exact⟨bv x (aA (aB _ _ _ _) b9) i,bv y (aA (aB _ _ _ _) b9) k⟩|exact⟨bv x (aA (aA (aB _ _ _ _) b9) (aB _ _ _ _)) i,bv y (aA (aA (aB _ _ _ _) b9) (aB _ _ _ _)) k⟩|exact⟨bv x (aA (aA (aB _ _ _ _) (aB _ _ _ _)) b9) i,bv y (aA (aA (aB _ _ _ _) (aB _ _ _ _)) b9) k⟩|exact⟨bv x (aA (aA (aA (aB _ _ _ _) b9) (aB _ _ _ _)) b9) i,bv y (aA (aA (aA (aB _ _ _ _) b9) (aB _ _ _ _)) b9) k⟩|exact⟨bv x (aB _ _ _ _) i,bv y (aB _ _ _ _) k⟩) (fail);all_goals
     go_wp2_with fail;go_ret;exact⟨0,d',rfl,HA,HX _ _,HY _ _,HZ _ _⟩
   ·have hm:(c==0)=false:=by simpa using hc
    go_wp2_with fail;go_ret;exact⟨c,d',rfl,HA,⟨n,z,f⟩,G,H⟩
 ·have hj:=aH q;clear q;go_wp2_with fail;go_ret;exact⟨11,d,rfl,.inl ⟨rfl,rfl,hj⟩,M,N,O⟩
theorem Cz(tv:Nat->Int)(l a:Nat){v}(d:Dk) w(ht:eN tv w)(hr:Rw bM w v rs)(hL:ez w l a false)(hD:bS w a d)(hl:rs.length<=1000)(hs:∀r∈rs,r.length<=1000000)(hdl:d.sf.length+d.tl.length<=100000000):
  Cs 104 #[Pt l,v] w (zu w l a (fun c=>c==14) (zv tv rs d)):=by
 have y:=hD.lt;obtain⟨A,cp,rfl,_⟩:=hr.slice;obtain⟨W0,f,b,g,h⟩:=rt w #[Pt l] #[.slice A rs.length cp] 84 110;have i:=am.cell g 0;have c1:=am.cell h 0;have j:=aH (sM l a 200 #[.pointer (some ⟨w.heap.size+1,0,none⟩),Pt w.heap.size] _ W0 (hL.below b) (aQ func200 (by kernel_rfl) (by kernel_rfl))
  (Cy tv l a (w.heap.size+1) w.heap.size d W0 (ht.below b) (hr.below b) (hL.below b) (show bS W0 a d from am.below hD b) c1 i (by omega) (by omega) (by have:=hL.lt;omega) (by have:=hL.lt;omega) hl hs hdl))
 have k:=aH (cX.J (S:=Ld l a) b);apply cI;go_in;go_wp2_with fail;simp only[f.out];go_wp2_with fail;refine j.mono ?_;rintro z w1 ⟨c,d',rfl,m,n,p,q⟩;obtain⟨s,t,u,x⟩:=gD m n p q;go_wp2_with fail;go_ret;exact⟨c,d',rfl,s,t,u,k.trans x⟩
theorem vJ(l a b:Nat)(d:Dk)(w:World)(f:ez w l a false)(g:bS w a d)(h:Ce w b 0 (Pt l))(x:d.sf.length+d.tl.length<=100000000):
  Cs 203 #[Pt b] w (zu w l a (fun _=>false) fun c d'=>ph d d' c):=by
 have i:=f.ne g;obtain⟨k,m⟩:=gB (k2 a d w g (by omega)) f;obtain⟨n,z,p⟩:=f;have y:=am.cell p 0;apply cI;go_in;go_wp2_with fail;refine k.mono ?_;rintro A w1 ⟨c,d',rfl,q,h,s⟩;obtain⟨t,u,j⟩:=gC q h s;go_wp2;go_ret;exact⟨c,d',rfl,t,m.only j i,u,cX.U j (.inr rfl)⟩
theorem zw(l a:Nat)(d:Dk) w(hL:ez w l a false)(hD:bS w a d)(hdl:d.sf.length+d.tl.length<=100000000):
  Cs 105 #[Pt l] w (zu w l a (fun c=>c==14) fun c d'=>ph d d' c):=by
 obtain⟨W0,f,b,g⟩:=dW w #[Pt l] 84;have h:=am.cell g 0;have i:=aH (sM l a 203 #[Pt w.heap.size] _ W0 (hL.below b) (aQ func203 (by kernel_rfl) (by kernel_rfl))
  (vJ l a w.heap.size d W0 (hL.below b) (show bS W0 a d from am.below hD b) h hdl))
 have j:=aH (cX.J (S:=Ld l a) b);apply cI;go_in;go_wp2_with fail;simp only[f.out];go_wp2_with fail;refine i.mono ?_;rintro x w1 ⟨c,d',rfl,k,m,n,p⟩;obtain⟨q,s,t,u⟩:=gD k m n p;go_wp2_with fail;go_ret;exact⟨c,d',rfl,q,s,t,j.trans u⟩
def Et(tv:Nat->Int)(a:Nat)(d:Dk)(w:World)(e:Ending)(w':World):Prop:=∃lg v d',Rt e (.tuple #[Pt lg,v,I6 0])/\w.heap.size<=lg/\ez w' lg a false/\
 aK bM w.heap.size w' v (em tv ((d.sf++d.tl).length+1) (d.sf++d.tl)).1/\bS w' a d'/\d'.sf=(d.sf++d.tl).take (em tv ((d.sf++d.tl).length+1) (d.sf++d.tl)).2/\d'.tl=[]/\d'.on=true/\d'.armed=false/\d'.room=d.room/\aW a w w'
theorem CA(tv:Nat->Int)(a:Nat)(d:Dk) w(ht:eN tv w)(hD:bS w a d)(hon:d.on=true)(har:d.armed=false)(hrm:((d.sf++d.tl).length:Int)<=d.room)(hdl:(d.sf++d.tl).length<=100000000)(hdk:a≠1):
  Cs 40 #[Pt a] w (Et tv a d w):=by
 obtain⟨C1,HT,HD⟩:=gC (mO a d w hD (by simp at hdl;omega)) ht hD;have hf:=hD.lt;have N:Hid (Et tv a d w=fun e w'=>∃lg v d',Rt e (.tuple #[Pt lg,v,I6 0])/\w.heap.size<=lg/\ez w' lg a false/\
  aK bM w.heap.size w' v (em tv ((d.sf++d.tl).length+1) (d.sf++d.tl)).1/\bS w' a d'/\d'.sf=(d.sf++d.tl).take (em tv ((d.sf++d.tl).length+1) (d.sf++d.tl)).2/\d'.tl=[]/\d'.on=true/\d'.armed=false/\d'.room=d.room/\aW a w w'):=aH rfl
 obtain⟨s,O⟩:=nx (d.sf++d.tl);have F:=aH O;rw[O]at C1 hrm hdl N;clear ht hD O;rw[N];clear N;apply cI;go_in;go_wp2_with fail;refine C1.mono ?_;rintro C w1 ⟨rfl,p⟩;obtain⟨R,C2⟩:=gB p (zt tv s w1 (HT.below p) hdl);clear p;go_wp2_with fail;refine C2.mono ?_;rintro C w2 ⟨v,rfl,G,H⟩;obtain⟨q,i⟩:=gB (R.trans (H.mono R.size)) (G.mono R.size);have D2:=aH (show bS w2 a d from am.below HD q);have I:=(xV tv (s.length+1) s).1;clear G H;obtain⟨A,cp,rfl,_⟩:=(aK.rw (E:=bM) i).slice;obtain⟨⟨rs,n⟩,S⟩:∃X,em tv (s.length+1) s=X:=⟨_,rfl⟩;rw[S]at i I ⊢;dsimp only at i I ⊢;have D:=aH S;clear C2 S;by_cases hn:n < s.length
 ·have d1:decide ((n:Int) < (s.length:Int))=true:=by simp;omega
  have hg:=gO s n;have ha:(s.take n).length<=1000000000:=by simp;omega
  have hh:((s.take n).length:Int)<=d.room:=by simp;omega
  have hj:Hid (s.take n=s.take n):=aH rfl;have C3:=aH (yy a (s.take n) d w2 D2 ha);generalize hgt:s.take n=t at*;have hb:=aH hgt;clear hgt;have hk:(n:Int)<=(s.length:Int):=by omega
  go_wp2_with fail;refine C3.mono ?_;rintro C w3 ⟨c,d3,rfl,u,J,L⟩;rcases u with⟨rfl,_,_,st,lf,M⟩|⟨_,h,_⟩|⟨_,_,h,_⟩|⟨_,_,h,_⟩
  ·obtain⟨D3,T,g⟩:=gC J L M;clear J L M;have U:=aH (k2 a d3 w3 D3 (by rw[g];simp;omega));go_wp2_with fail;refine U.mono ?_;rintro C w4 ⟨c4,x,rfl,u,j,f⟩;have y:d3.on=true:=by rw[g];exact hon
   have z:d3.armed=false:=by rw[g];exact har
   have V:(0:Int)<=d3.room:=by rw[g];show 0<=d.room;omega
   rcases u with⟨rfl,_,_,hc,hd,m⟩|⟨_,h,_⟩|⟨_,_,h,_⟩|⟨_,_,h,_⟩
   ·obtain⟨Y,Z,HL,HV⟩:=gD (show bS (w4.alloc (.cells #[Pt a,I6 rs.length,I6 n,.bool false] 177)) a x from j.alloc _) (aA (aA (aA (aG q) T) f) (cL w4 (.cells #[Pt a,I6 rs.length,I6 n,.bool false] 177))) (show ez (w4.alloc (.cells #[Pt a,I6 rs.length,I6 n,.bool false] 177)) w4.heap.size a false from⟨_,_,am.new _ _ _⟩) (aI (aK.keep (E:=bM) (aK.keep (E:=bM) i T (fun k e he=>by injection he with he;have:=(aK.lt (E:=bM) i k e).1;omega)) f (fun k e he=>by injection he with he;have:=(aK.lt (E:=bM) i k e).1;omega)) (ba w4 (.cells #[Pt a,I6 rs.length,I6 n,.bool false] 177)));have B:w.heap.size<=w4.heap.size:=zD (zD q.size T.size) f.size;have b:=aH m;clear j f m;go_wp2_with fail;refine bodyPost_ret (v:=.tuple #[Pt w4.heap.size,.slice A rs.length cp,I6 0]) (by simp[results,results40,go_sem]) rfl ?_;refine⟨_,_,x,rfl,B,HL,by rw[D];exact HV,Y,?_,?_,?_,?_,?_,Z⟩
    ·rw[D,b,g,<-hb];simp
    ·rw[b]
    ·rw[b];exact y
    ·rw[b];exact z
    ·rw[b,g]
   ·rw[y]at h;cases h
   ·rw[z]at h;cases h
   ·omega
  ·rw[hon]at h;cases h
  ·rw[har]at h;cases h
  ·omega
 ·have d1:decide ((n:Int) < (s.length:Int))=false:=by simp;omega
  have U:=aH (k2 a d w2 D2 (by rw[<-F]at hdl;simp at hdl;omega));have V:(0:Int)<=d.room:=by omega
  go_wp2_with fail;refine U.mono ?_;rintro C w4 ⟨c4,x,rfl,u,j,f⟩;rcases u with⟨rfl,_,_,hc,hd,m⟩|⟨_,h,_⟩|⟨_,_,h,_⟩|⟨_,_,h,_⟩
  ·obtain⟨Y,Z,HL,HV⟩:=gD (show bS (w4.alloc (.cells #[Pt a,I6 rs.length,I6 n,.bool false] 177)) a x from j.alloc _) (aA (aA (aG q) f) (cL w4 (.cells #[Pt a,I6 rs.length,I6 n,.bool false] 177))) (show ez (w4.alloc (.cells #[Pt a,I6 rs.length,I6 n,.bool false] 177)) w4.heap.size a false from⟨_,_,am.new _ _ _⟩) (aI (aK.keep (E:=bM) i f (fun k e he=>by injection he with he;have:=(aK.lt (E:=bM) i k e).1;omega)) (ba w4 (.cells #[Pt a,I6 rs.length,I6 n,.bool false] 177)));have B:w.heap.size<=w4.heap.size:=zD q.size f.size;have b:=aH m;clear j f m;go_wp2_with fail;refine bodyPost_ret (v:=.tuple #[Pt w4.heap.size,.slice A rs.length cp,I6 0]) (by simp[results,results40,go_sem]) rfl ?_;refine⟨_,_,x,rfl,B,HL,by rw[D];exact HV,Y,?_,?_,?_,?_,?_,Z⟩
   ·rw[D,b];show d.sf++d.tl=s.take n;rw[show n=s.length by omega,jJ];exact F
   ·rw[b]
   ·rw[b];exact hon
   ·rw[b];exact har
   ·rw[b]
  ·rw[hon]at h;cases h
  ·rw[har]at h;cases h
  ·omega
end Go.Proofs.YthdfgdicnplhlaaGreatDoor
