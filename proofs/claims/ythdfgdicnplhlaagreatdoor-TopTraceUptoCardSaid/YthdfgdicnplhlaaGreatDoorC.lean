import Derived.Test.YthdfgdicnplhlaaGreatDoorB
import Derived.Laws.StructEq
import Derived.Lib.QuietBelow
import Derived.StillTail
set_option maxHeartbeats 16000000
set_option maxRecDepth 100000
set_option linter.all false
namespace Go.Proofs.YthdfgdicnplhlaaGreatDoor
open Go.RowKit Hd _root_.Go.Proofs.Tryz
variable{α:Type}{E:El α}{l:List _}{base g:Nat}{t:TypeId}{w:World}{o:Option (List UInt8)}{a:Act}{wr w':World}{D:Nat}{v v':Value}{B n:Nat}{L:Array Bool->Act->Prop}{i id:Nat}{Q:Exit->Act->World->Prop}{k:Nat}{q:List α}
def aJ:El bC where
 ty:=42
 sl:=36
 s:=2
 bytes:=16
 z:=.agg #[I6 0,I6 0]
 f d:=[I6 d.nd,I6 d.n]
 und:=underlying36
 info:=by kernel_rfl
 zs:=rfl
 pos:=by decide
 len _:=rfl
 one d u hu:=by simp at hu;rcases hu with rfl|rfl<;>rfl
def cK(p:List UInt8->Pr α):Nat->List UInt8->Pr (List α)
 |0,l=>some ([],l)
 |n+1,l=>(p l).bind fun x=>(cK p n x.2).map fun y=>(x.1::y.1,y.2)
def eh(p:List UInt8->Pr α)(m:Nat)(l:List UInt8):Pr (List α):=(bk m l).bind fun x=>cK p x.1 x.2
theorem mw(p:List UInt8->Pr α)(a:Option (List UInt8))(D b:α) r(n:Nat)(h1:(a.bind p).map Prod.snd=some r)(h2:((a.bind p).map Prod.fst).getD b=D):
  a.bind (cK p (n+1))=(cK p n r).map fun y=>(D::y.1,y.2):=by
 cases a with
 |none=>cases h1
 |some l=>
  simp only[zI]at h1 h2 ⊢;conv=>lhs;unfold cK
  cases h:p l with
  |none=>rw[h]at h1;cases h1
  |some x=>
   rw[h]at h1 h2;simp at h1 h2;subst h1 h2;rfl
def Gw(E:El α)(w:World)(g:Nat)(a:Pr (List α))(e:Ending)(w':World):Prop:=
 ∃v,Rt e v/\aK E w.heap.size w' v ((a.map Prod.fst).getD [])/\RS w' g (a.map Prod.snd)/\aW g w w'
def Gx(E:El α)(w:World)(g:Nat)(a:Pr (List α))(e:Ending)(w':World):Prop:=∃res,(res=none\/res=a)/\Gw E w g res e w'
theorem kZ(w:World) v(l:List bC)(h:Rw aJ w v l)(hl:l.length<=4611686018427387904):
  Cs 374 #[v] w fun e w'=>(∃b,Rt e (.bool b))/\Below w.heap.size w w':=by
 obtain⟨A,c,rfl,M,G⟩:=h;have H:=aH (show Rw aJ w (.slice A l.length c) l from⟨A,c,rfl,M,G⟩);clear G;apply cI;go_in;go_wp2_with fail;go_loopg[7] l.length (fun gn v7 wr=>∃k:Nat,k<=l.length/\gn=l.length - k/\v7=I6 k/\Bw w wr)
 case atStart=>exact⟨0,by omega,rfl,rfl,bR _⟩
 case round=>
  obtain⟨k,T,rfl,rfl,s⟩:=hrel;have B:=aH s;clear s;by_cases hlt:k < l.length
  ·have n:=aH hlt;have N:decide ((k:Int) < (l.length:Int))=true:=by simp;omega
   obtain⟨g,o,rfl,a⟩:=(H.below B).at_ (zA hlt);have C:Ce wr g (o+k*2) (I6 l[k].nd):=a 0 _ rfl;have c1:Ce wr g (o+k*2+1) (I6 l[k].n):=a 1 _ rfl;clear a;have j:=am.new wr 42 #[I6 l[k].nd,I6 l[k].n];have i:=B.alloc B.size (.cells #[I6 l[k].nd,I6 l[k].n] 42);rcases qK k with hk0|hk0
   ·subst hk0;generalize hz:l[0]=t at C c1 j i;clear hz;rw[yG,wD]at C c1;obtain⟨W,m⟩:=nx (wr.alloc (.cells #[I6 t.nd,I6 t.n] 42));have D:=aH m;rw[m]at i j;have p:=aH i;clear m i j;go_wp2_with fail;rw[D];go_big_quiet (fail);go_wp2_with fail;go_roundg (l.length - (0+1))
    case measure=>have:=n.out;omega
    case rel=>exact⟨0+1,n,rfl,by go_num,below_drewN p _⟩
   ·obtain⟨f,rfl⟩:∃f,k=f+1:=⟨k - 1,by omega⟩;have F:f < l.length:=by omega
    obtain⟨g',o',u,a⟩:=(H.below i).at_ (zA F);injection u with u;injection u with hgo1 hgo2;subst hgo1;subst hgo2;have x:(wr.alloc (.cells #[I6 l[f+1].nd,I6 l[f+1].n] 42)).cell? ⟨g,o+f*2,none⟩=some (I6 l[f].nd):=a 0 _ rfl;have y:(wr.alloc (.cells #[I6 l[f+1].nd,I6 l[f+1].n] 42)).cell? ⟨g,o+f*2+1,none⟩=some (I6 l[f].n):=a 1 _ rfl;clear a;generalize hz:l[f+1]=t at C c1 j i x y;generalize hz2:l[f]=t' at x y;clear hz hz2;obtain⟨W,m⟩:=nx (wr.alloc (.cells #[I6 t.nd,I6 t.n] 42));have D:=aH m;rw[m]at i j x y;obtain⟨I,J⟩:=am.two j;obtain⟨p,O⟩:=gB i (fun W=>fu t' t W);have U:=fun d os=>cell_regrown I d os;have V:=fun d os=>cell_regrown J d os;have X:=fun d os=>cell_regrown x d os;have Y:=fun d os=>cell_regrown y d os;have Z:decide ((0:Int) < (f:Int)+1)=true:=decide_eq_true (by omega);clear m i j I J x y;go_wp2_with fail;rw[D];cases s:p4 t' t;all_goals
     have R:=aH (fun W=>by have:=O W;rw[s]at this;exact this);clear s;refine wp_region_quiet_below (by kernel_rfl) (by kernel_rfl) ?_;repeat(go_big_quiet_step (first|(go_at_call 333;exact Calls.regrown_of (R _))|fail))
     refine wpQuiet_nil ?_;intro w5 q;obtain⟨⟨S,L⟩,q⟩:=q;have z:=aH (p.trans ((below_regrown W S L).mono p.size));rw[<-q]at z;clear q;go_wp2_with fail
    ·go_ret;exact⟨⟨_,rfl⟩,z⟩
    ·go_roundg (l.length - (f+1+1))
     case measure=>have:=n.out;omega
     case rel=>exact⟨f+1+1,n,rfl,by go_num,z⟩
  ·obtain rfl:k=l.length:=by omega
   have N:decide ((l.length:Int) < (l.length:Int))=false:=by simp
   go_wp2_with fail;go_ret;exact⟨⟨_,rfl⟩,B⟩
theorem lC(g m:Nat)(o:Option (List UInt8)) w(h:RS w g o)(hm:m<=1000000):
  Cs 329 #[Pt g,I6 m] w (Gx aJ w g (o.bind (eh dC m))):=by
 have hg:=h.lt;have H:=aH h;apply cI;go_in;go_wp2_with fail;refine(dy g m o _ H (by omega)).mono ?_;rintro e w1 ⟨rfl,j,n⟩;obtain⟨N,J⟩:=nx (((o.bind (bk m)).map Prod.fst).getD 0);obtain⟨o1,F⟩:=nx ((o.bind (bk m)).map Prod.snd);have S:N<=m:=by
  rw[<-J];cases o with
  |none=>simp
  |some l=>cases hp:bk m l with
   |none=>simp[hp]
   |some x=>simp[hp];exact(cO hp).1
 have T:Hid (o.bind (eh dC m)=o1.bind (cK dC N)/\(o1=none->N=0)):=aH (by
  rw[<-J,<-F];cases o with
  |none=>exact⟨rfl,fun _=>rfl⟩
  |some l=>
   simp only[zI];unfold eh;cases bk m l with
   |none=>exact⟨rfl,fun _=>rfl⟩
   |some x=>exact⟨rfl,fun h=>by simp at h⟩)
 rw[J];rw[F]at j;obtain⟨H1,O1,L⟩:=gC j n S;have hh:N<=1000000:=by omega
 go_wp2_with fail;go_loopg[5,9] N (fun gn v5 v9 wr=>∃(i:Nat) (done:List bC) (a:Option (List UInt8)),i<=N/\gn=N - i/\v9=I6 i/\done.length=i/\aK aJ w.heap.size wr v5 done/\RS wr g a/\aW g w wr/\(a=none->N=0)/\
  o.bind (eh dC m)=(a.bind (cK dC (N - i))).map fun y=>(done++y.1,y.2))
 case atStart=>
  refine⟨0,[],o1,by omega,rfl,rfl,rfl,aK.nil _ _,H1,O1,T.2,?_⟩;rw[T.1];simp
 case round=>
  obtain⟨i,done,a,hi,rfl,rfl,U,c,V,t,u,M⟩:=hrel;obtain⟨O,p,R,X,A5,z⟩:=gF c V t M u U;by_cases hlt:i < N
  ·have d1:decide ((i:Int) < (N:Int))=true:=by simp;omega
   have q:=aH hlt;go_wp2_with fail;refine(kY g a _ p).mono ?_;rintro e w3 ⟨rfl,h3,Y⟩;obtain⟨D,Z⟩:=nx (((a.bind dC).map Prod.fst).getD ⟨0,0⟩);rw[Z];have ha:g < w.heap.size:=hg;obtain⟨C1,C2,C3,HD⟩:=gD (O.grown Y (fun k e=>by cases e;exact ha)) h3 (aA R Y) Z;have hc:w.heap.size<=w3.heap.size:=C3.size;dsimp only;have hd:(done.length+1)*aJ.bytes<=140737488355328:=by have:=z.out;have:=L.out;show(done.length+1)*16<=_;omega
   have he:done.length < 1000000000000000000:=by have:=z.out;have:=L.out;omega
   go_wp2_with (at_builtin;refine b5 aJ rfl (.tmp 11) (.tmp 14) rfl C1 hc D rfl rfl hd he ?_;intro v' w4 c f);have G:=C1.lt;obtain⟨E1,A,E3⟩:=gC c (C2.only f (fun e=>by have:=(G g e.symm).1;omega)) (dx C3 f (fun k e=>(G k e).1));obtain⟨o2,I⟩:=nx ((a.bind dC).map Prod.snd);rw[I]at A;have hf:=aH I;refine(er g o2 _ A).mono ?_;rintro e w5 ⟨rfl,rfl⟩;cases o2 with
   |none=>
    go_wp2_with fail;go_ret;exact⟨none,.inl rfl,_,rfl,aK.nil _ _,A,E3⟩
   |some r=>
    go_wp2_with fail;go_roundg (N - (i+1))
    case measure=>have:=q.out;omega
    case rel=>
     refine⟨i+1,done++[D],some r,q,rfl,by go_num,by simp[z.out],E1,A,E3,(fun h=>by cases h),?_⟩;have s:=q.out;rw[X,show N - i=(N - (i+1))+1 by omega,mw dC a D _ r _ hf HD];simp[Option.map_map,Function.comp_def]
  ·obtain rfl:i=N:=by omega
   have d1:decide ((i:Int) < (i:Int))=false:=by simp
   go_wp2_with fail;refine(er g a _ p).mono ?_;rintro e w5 ⟨rfl,rfl⟩;cases a with
   |none=>
    go_wp2_with fail;refine(kj g _ _ p).mono ?_;rintro e w6 ⟨rfl,j,n⟩;obtain⟨B,C⟩:=gB j (aA R n);go_wp2_with fail;go_ret;exact⟨none,.inl rfl,_,rfl,aK.nil _ _,B,C⟩
   |some r=>
    go_wp2_with fail;refine(kZ _ _ done O.rw (by have:=z.out;have:=L.out;omega)).mono ?_;rintro e w6 ⟨⟨b,rfl⟩,s⟩;obtain⟨B,C,F3⟩:=gC (p.only (aG (g:=w6.heap.size) s) (by have:=p.lt;have:=s.size;simp;omega)) (aA R (aG s)) (O.grown (aG (g:=0) s) (fun k e=>by cases e;omega));cases b
    ·go_wp2_with fail;refine(kj g _ _ B).mono ?_;rintro e w6 ⟨rfl,j,n⟩;obtain⟨G1,G2⟩:=gB j (aA C n);go_wp2_with fail;go_ret;exact⟨none,.inl rfl,_,rfl,aK.nil _ _,G1,G2⟩
    ·go_wp2_with fail;go_ret;refine⟨some (done,r),.inr ?_,_,rfl,F3,B,C⟩;rw[X,Nat.sub_self];simp[cK]
theorem tN a b:aF a++aF b=aF (a++b):=by
 unfold aF;apply ByteArray.ext;rw[ByteArray.data_append];simp
theorem bJ(a b:List UInt8)(h:a.length+b.length<=9223372036854775807) W:(Op.stringOp .add (aF a) (aF b)).run prog W=.ok (.string (aF (a++b))) W:=by
 have:=run_string_add_sum (P:=prog) (w:=W) (aF a) (aF b) (by rw[e0,e0];exact h);rwa[tN]at this
def dB(d:bC):List UInt8:=bG d.nd.toNat++bG d.n.toNat
theorem gU(d:bC)(w:World)(s:d.nd < 9223372036854775808)(t:d.n < 9223372036854775808):
  Cs 159 #[.agg #[I6 d.nd,I6 d.n]] w fun e w'=>Rt e (.string (aF (dB d)))/\Below w.heap.size w w':=by
 obtain⟨i,j⟩:=gB (fun W=>cQ d.nd W s) (fun W=>cQ d.n W t);obtain⟨W0,a⟩:=nx (w.alloc (.cells #[I6 d.nd,I6 d.n] 42));have f:Bw w W0:=a▸ba _ _;have c:=am.new w 42 #[I6 d.nd,I6 d.n];rw[a]at c;obtain⟨k,m⟩:=am.two c;have B:=fun d os=>cell_regrown k d os;have C:=fun d os=>cell_regrown m d os;obtain⟨p,u⟩:=gB f a;clear f a c k m;apply cI;go_in;go_wp2_with fail;rw[u];refine wp_region_quiet_below (by kernel_rfl) (by kernel_rfl) ?_;have h:Hid (dB d=bG d.nd.toNat++bG d.n.toNat):=aH rfl;have x:=(bi (n:=d.nd.toNat) (by omega)).2;have y:=(bi (n:=d.n.toNat) (by omega)).2;generalize bG d.nd.toNat=s1 at i h x;generalize bG d.n.toNat=s2 at j h y;have z:=fun W=>bJ s1 s2 (by omega) W;repeat(go_big_quiet_step (first|(go_at_call 106;exact Calls.regrown_of (i _))|(go_at_call 106;exact Calls.regrown_of (j _))|fail))
 refine wpQuiet_nil ?_;intro D b;obtain⟨⟨A,q⟩,b⟩:=b;have g:=aH (p.trans ((below_regrown W0 A q).mono p.size));rw[<-b]at g;clear b;go_wp2;go_ret;rw[h];exact⟨rfl,g⟩
theorem fw(d:bC)(a:d.nd < 9223372036854775808)(b:d.n < 9223372036854775808):(dB d).length<=20:=by
 have:=(bi (n:=d.nd.toNat) (by omega)).2;have:=(bi (n:=d.n.toNat) (by omega)).2;unfold dB;simp;omega
def cB(l:List UInt8):List UInt8:=bG l.length++l
theorem iF(l:List UInt8)(w:World)(h:l.length<=yj):
  Cs 160 #[.string (aF l)] w fun e w'=>Rt e (.string (aF (cB l)))/\Below w.heap.size w w':=by
 unfold yj at h;have i:=(bi (n:=l.length) (by omega)).2;have b:=aH (xy l.length w (by omega));have c:Hid (cB l=bG l.length++l):=aH rfl;have a:=fun W=>bJ (bG l.length) l (by omega) W;generalize bG l.length=s1 at b c a;apply cI;go_in;go_wp2_with fail;refine b.mono ?_;rintro e w1 ⟨rfl,f⟩;have g:=aH f;go_wp2;go_ret;rw[c];exact⟨rfl,g⟩
def bW(f:α->List UInt8)(l:List α):List UInt8:=l.flatMap f
def bZ(f:α->List UInt8)(l:List α):List UInt8:=bG l.length++bW f l
theorem gV(f:α->List UInt8)(l:List α)(k:Nat)(h:k < l.length):bW f (l.drop k)=f l[k]++bW f (l.drop (k+1)):=by unfold bW;rw[wA h,zX]
def eL(d:bC):Prop:=d.nd < 9223372036854775808/\d.n < 9223372036854775808
theorem xz(w:World) v(l:List bC)(h:Rw aJ w v l)(hl:l.length<=100000000000000)(hd:∀d∈l,eL d):
  Cs 248 #[v] w fun e w'=>Rt e (.string (aF (bZ dB l)))/\Below w.heap.size w w':=by
 obtain⟨A,c,rfl,J,B⟩:=h;obtain⟨H,L⟩:=gB (show Rw aJ w (.slice A l.length c) l from⟨A,c,rfl,J,B⟩) hd;clear B hd;apply cI;go_in;go_wp2_with fail;refine(cQ (l.length:Int) _ (by omega)).mono ?_;rintro e w1 ⟨rfl,i⟩;have f:=aH i;clear i;rw[jS];have M:=(bi (n:=l.length) (by omega)).2;obtain⟨N,j⟩:=nx (bG l.length);rw[j]at M ⊢;have C:=aH j;clear j;go_wp2;go_loopg[3,11] l.length (fun gn v3 v11 wr=>∃(k:Nat) (s:List UInt8),k<=l.length/\gn=l.length - k/\v11=I6 k/\v3=.string (aF s)/\s.length<=10+20*k/\Bw w wr/\s++bW dB (l.drop k)=bZ dB l)
 case atStart=>exact⟨0,N,by omega,rfl,rfl,rfl,by omega,f,by unfold bZ;rw[C];rfl⟩
 case round=>
  obtain⟨k,s,U,rfl,rfl,rfl,p,i,hv⟩:=hrel;obtain⟨f,x⟩:=gB i hv;clear i hv;by_cases hlt:k < l.length
  ·have q:=aH hlt;have O:decide ((k:Int) < (l.length:Int))=true:=by simp;omega
   obtain⟨g,o,rfl,b⟩:=(H.below f).at_ (zA hlt);have D:Ce wr g (o+k*2) (I6 l[k].nd):=b 0 _ rfl;have c1:Ce wr g (o+k*2+1) (I6 l[k].n):=b 1 _ rfl;have a:=L l[k] (zY hlt);have y:Hid (s++dB l[k]++bW dB (l.drop (k+1))=bZ dB l):=aH (by
    rw[<-x,gV _ _ _ hlt,zH];rfl)
   clear b x;generalize l[k]=t at D c1 a y;have F:=am.new wr 42 #[I6 t.nd,I6 t.n];have m:=aH (f.alloc f.size (.cells #[I6 t.nd,I6 t.n] 42));obtain⟨W,z⟩:=nx (wr.alloc (.cells #[I6 t.nd,I6 t.n] 42));rw[z]at m;have R:=aH z;clear z F;go_wp2_with fail;rw[R];refine(gU t _ a.1 a.2).mono ?_;rintro e w2 ⟨rfl,u⟩;have G:=aH (m.trans (u.mono m.size));have ls:=fw t a.1 a.2;generalize dB t=ds at ls y;have S:=fun W=>bJ s ds (by omega) W;obtain⟨T,I⟩:=gB ls p;clear u ls p a D c1;go_wp2;go_roundg (l.length - (k+1))
   case measure=>have:=q.out;omega
   case rel=>exact⟨k+1,s++ds,q,rfl,by go_num,rfl,by have:=T.out;have:=I.out;simp;omega,G,y⟩
  ·obtain rfl:k=l.length:=by omega
   have O:decide ((l.length:Int) < (l.length:Int))=false:=by simp
   go_wp2;go_ret;have hv:=x.out;rw[List.drop_length]at hv;refine⟨by rw[<-hv];simp[bW],f⟩
namespace Hd
theorem pc:(prog.info? 212).map (fun i=>(i.zero,i.size,i.bytes))=some (some (.agg #[I6 0,I6 0,I6 0,I6 0]),4,32):=by kernel_rfl
theorem l1{w:World}{base:Nat}{e:TypeId}{s n g cap:Nat}{xs:List Value}(h:w.ownsRow base e s (.slice (some ⟨g,0,none⟩) n cap) n xs)(j:Nat) u:
  (w.setCell ⟨g,j,none⟩ u).ownsRow base e s (.slice (some ⟨g,0,none⟩) n cap) n (xs.set j u):=by
 refine⟨by simp[h.1],?_⟩;rcases h.2 with⟨hv,_⟩|⟨g',f,cur,hv,i,k,a,b,c,m⟩
 ·cases hv
 ·injection hv with h1 h2 h3;injection h1 with h1;injection h1 with h1;subst h1;subst h3;have p:am w g e cur:=k;refine .inr ⟨g,cap,cur.setIfInBounds j u,rfl,i,p.I j u,a,b,by simpa using c,?_⟩;rw[<-m,Array.toList_setIfInBounds,List.take_set]
theorem Bp{w:World}{base:Nat}{e:TypeId}{s n g o cap:Nat}{xs}(h:w.ownsRow base e s (.slice (some ⟨g,o,none⟩) n cap) n xs):o=0/\base<=g/\n<=cap:=by
 rcases h.2 with⟨hv,_⟩|⟨g',b,f,hv,c,i,a,_⟩
 ·cases hv
 ·injection hv with h1 h2 h3;injection h1 with h1;injection h1 with h1 h4;subst h1;subst h3;exact⟨h4,c,a⟩
theorem mx{w:World}{base:Nat}{e:TypeId}{s n g cap:Nat}{xs}(h:w.ownsRow base e s (.slice (some ⟨g,0,none⟩) n cap) n xs)(j:Nat):w.frozen? ⟨g,j,none⟩=false:=by
 rcases h.2 with⟨hv,_⟩|⟨g',b,a,hv,f,c,_⟩
 ·cases hv
 ·injection hv with h1 h2 h3;injection h1 with h1;injection h1 with h1;subst h1;exact am.frozen (t:=e) (cs:=a) c j
theorem c8{w:World}{base:Nat}{e:TypeId}{s n:Nat}{v:Value}{xs}(h:w.ownsRow base e s v n xs):∀k,v.ownBlock=some k->base<=k/\k < w.heap.size:=by
 intro k a;rcases h.2 with⟨rfl,_⟩|⟨g',b,g,rfl,c,f,_⟩
 ·cases a
 ·injection a with a;subst a;exact⟨c,ap f⟩
theorem dJ{w:World}{base base':Nat}{e:TypeId}{s n:Nat}{v}{xs}(h:w.ownsRow base e s v n xs)(a:base'<=base):w.ownsRow base' e s v n xs:=by
 refine⟨h.1,?_⟩;rcases h.2 with hn|⟨g,cap,cur,hv,h1,hr⟩
 ·exact .inl hn
 ·exact .inr ⟨g,cap,cur,hv,by omega,hr⟩
def ER(w:World)(e:TypeId)(s n:Nat)(xs:List Value)(a:Ending)(w':World):Prop:=
 ∃v,Rt a v/\w'.ownsRow w.heap.size e s v n xs/\Below w.heap.size w w'
theorem iG A(n c:Nat) xs w(hr:Sl w 4 A n xs)(h1:∀u∈xs,u.oneCell'=true)(hn:n*32<=140737488355328):
  Cs 119 #[.slice A n c] w (ER w 212 4 n xs):=by
 have b:=aH hr;obtain⟨p,hi,i,j,m⟩:=info_parts pc;have C:=fun(w:World)=>yA (P:=prog) w 139 212 A n c 0 0 underlying139;obtain⟨q,s⟩:=gB (show 0+n<=maxLen by unfold maxLen;omega) (show(0+n)*32<=140737488355328 by omega);rcases A with _|a
 ·apply cI;go_in;go_wp2;go_ret;have t:n=0:=by
   rcases qK n with h|h
   ·exact h
   ·obtain⟨_,_,h,_⟩:=b.2 h;cases h
  subst t;have x:=yP (by simpa using b.out.1);subst x;exact⟨_,rfl,World.ownsRow_nil _ _ _ _,bR _⟩
 ·apply cI;go_in;go_wp2_with (at_builtin;refine bA _ rfl (.tmp 5) (.tmp 6) 139 rfl w.heap.size 212 p _ 4 32 underlying139 hi i j m rfl (by decide) _ 0 [] rfl (jP w #[] 0 nR (zS _) rfl) _ n c xs rfl (b.below (ba _ _)) h1 q s (by simp) ?_);intro v' w1 f y D;obtain⟨g,z⟩:=gB f y;go_wp2;go_ret;refine⟨v',rfl,by simpa using g.out,(ba w _).grown z (by simp) (by intro k B;simp[Value.ownBlock]at B;omega)⟩
def FL(w0:World)(l:List be)(v:Value)(wr:World):Prop:=wr.ownsRow w0.heap.size 212 4 v l.length (a6 l)/\Below w0.heap.size w0 wr
theorem FL.nil{w0 wr:World}(h:Below w0.heap.size w0 wr):FL w0 [] (aS) wr:=⟨World.ownsRow_nil _ _ _ _,h⟩
def l2(w:World)(l:List be)(a:Ending)(w':World):Prop:=∃v,Rt a v/\FL w l v w'
def tO:=@p1 _ _ _ _ _ _ _ (Or.inl ⟨rfl,rfl,rfl,rfl,rfl,rfl,rfl⟩)
theorem aQ{P:Program}{f:FuncId}{a:Func}(hf:P.funcs[f]?=some a)(b:(a.name== "runtime.NumGoroutine")=false)(g:a.body.isSome=true) args w:
  (callFunc f args).run P w=.ok (.enter f args) w:=by
 obtain⟨c,h⟩:=Option.isSome_iff_exists.1 g;have i:a.name≠ "runtime.NumGoroutine":=by simpa using b
 simp[callFunc,hf,i,h]
def Em(w0:World)(K:Nat)(a:Array Value)(p:be->Bool):Prop:=∀t W,Below w0.heap.size w0 W->Cs K (#[.agg #[I6 t.d.nd,I6 t.d.n,I6 t.rc,I6 t.un]]++a) W fun e W'=>Rt e (.bool (p t))/\Below W.heap.size W W'
def kk(p:be->Bool):List be->Nat
 |[]=>0
 |t::l=>if p t then 0 else kk p l+1
theorem Bq(p:be->Bool)(l:List be):kk p l<=l.length:=by
 induction l with
 |nil=>exact nR
 |cons t l ih=>unfold kk;split<;>simp;omega
theorem Br(p:be->Bool)(l:List be)(k:Nat)(a:k < l.length):kk p (l.drop k)=if p l[k]then 0 else kk p (l.drop (k+1))+1:=by
 rw[wA a];rfl
def ey(k n:Nat):Int:=if k < n then k else -1
theorem k0(K:Nat) caps(p:be->Bool) A(c:Nat)(l:List be)(w:World)(hr:Sl w 4 A l.length (a6 l))(hn:l.length<=9223372036854775807)
  (hent:∀args W,(callFunc K args).run prog W=.ok (.enter K args) W) (b:Em w K caps p):
  Cs 212 #[.slice A l.length c,.func (.func K) #[] caps] w fun e w'=>Rt e (I6 (ey (kk p l) l.length))/\Below w.heap.size w w':=by
 obtain⟨q,s⟩:=gB hr b;apply cI;go_in;go_wp2;go_loopw[8] (fun i wr=>∃k:Nat,k<=l.length/\i=I6 k/\kk p l=k+kk p (l.drop k)/\Bw w wr) (fun i _=>l.length - (intOf i).toNat)
 case atStart=>exact⟨0,zS _,rfl,by simp,bR _⟩
 case round=>
  obtain⟨k,x,rfl,b,j⟩:=hrel;obtain⟨f,B⟩:=gB b j;by_cases hlt:k < l.length
  ·obtain⟨g,o,rfl,y,u,c1,c2,c3⟩:=ep (q.below B) (zA hlt);have h:=aH (Br p l k hlt);generalize hz:l[k]=t at u c1 c2 c3 h;go_wp2_with fail;refine(s t _ B).mono ?_;rintro e w2 ⟨rfl,m⟩;have n:=aH (B.trans (m.mono B.size));cases he:p t
   ·have a:Hid (kk p l=(k+1)+kk p (l.drop (k+1))):=aH (by rw[f,h,he];simp;omega);go_wp2;go_roundw
    case rel=>exact⟨k+1,by omega,by go_num,a,n⟩
    case measure=>simp[intOf];omega
   ·have a:Hid (ey (kk p l) l.length=k):=aH (by rw[f,h,he];simp[ey,hlt]);go_wp2;go_ret;exact⟨by rw[a];rfl,n⟩
  ·have a:Hid (ey (kk p l) l.length= -1):=aH (by rw[f,qH (by omega)];simp[ey,kk];omega);go_wp2;go_ret;exact⟨by rw[a];rfl,B⟩
def lW(a b:bC):Bool:=a.nd==b.nd&&a.n==b.n
theorem jb(a b:bC) w:(binOp .eql 42 (.agg #[I6 a.nd,I6 a.n]) (.agg #[I6 b.nd,I6 b.n])).run prog w=.ok (.bool (lW a b)) w:=by
 have c:prog.stoodInHeld 42=false:=by kernel_rfl
 have f:prog.underlying 42=some (.struct (prog.fieldsOf 42)):=by kernel_rfl
 have g:prog.underlying 3=some (.int .i64):=by kernel_rfl
 rw[run_eql_struct,run_equalIn_struct w 9999 _ _ _ f c];simp[Op.eqFields,go_sem];by_cases e1:a.nd=b.nd<;>by_cases e2:a.n=b.n<;>simp[e1,e2,lW]
theorem Dq(a b:bC) w:(binOp .neq 42 (.agg #[I6 a.nd,I6 a.n]) (.agg #[I6 b.nd,I6 b.n])).run prog w=.ok (.bool !(lW a b)) w:=by
 have c:prog.stoodInHeld 42=false:=by kernel_rfl
 have f:prog.underlying 42=some (.struct (prog.fieldsOf 42)):=by kernel_rfl
 have g:prog.underlying 3=some (.int .i64):=by kernel_rfl
 rw[run_neq_struct,run_equalIn_struct w 9999 _ _ _ f c];simp[Op.eqFields,go_sem];by_cases e1:a.nd=b.nd<;>by_cases e2:a.n=b.n<;>simp[e1,e2,lW]
theorem iH(c:BinOp)(x y:Operand)(a b:bC) w:(eqGuard c 42 x y (.agg #[I6 a.nd,I6 a.n]) (.agg #[I6 b.nd,I6 b.n])).run prog w=.ok () w:=run_eqGuard_agg (P:=prog) w c _ x y _ _ (by kernel_rfl)
def ei(w:World)(b:Nat)(d:bC):Prop:=am w b 42 #[I6 d.nd,I6 d.n]
theorem ei.cells{w:World}{b:Nat}{d:bC}(h:ei w b d):Ce w b 0 (I6 d.nd)/\Ce w b 1 (I6 d.n):=by
 have a:=am.cell h 0;have c:=am.cell h 1;simp only[zL,zM,zP]at a c;exact⟨a,c⟩
theorem ei.below{w w':World}{b:Nat}{d}(h:ei w b d)(a:Below w.heap.size w w'):ei w' b d:=am.below h a
theorem ei.alloc{w:World}{b:Nat}{d}(h:ei w b d)(o:Obj):ei (w.alloc o) b d:=am.alloc h o
theorem ei.new(w:World)(d:bC):ei (w.alloc (.cells #[I6 d.nd,I6 d.n] 42)) w.heap.size d:=am.new w _ _
theorem yo(b:Nat)(t:be) d(w:World)(a:ei w b d):
  Cs 341 #[.agg #[I6 t.d.nd,I6 t.d.n,I6 t.rc,I6 t.un],Pt b] w fun e w'=>Rt e (.bool (!p4 t.d d))/\Below w.heap.size w w':=by
 have g:=fun o=>(a.alloc o).cells.1;have f:=fun o=>(a.alloc o).cells.2;have c:=fun o=>aH (ba w o);apply cI;go_in;go_wp2_with fail;refine(fu t.d d _).mono ?_;rintro e w' ⟨rfl,a⟩;have B:=aH ((c _).out.trans (a.mono (by simp)));go_wp2;go_ret;exact⟨rfl,B⟩
def pos(l:List be)(d:bC):Nat:=kk (fun t=>!p4 t.d d) l
def tx(l:List be)(d:bC):Bool:=match l[pos l d]? with|some t=>lW t.d d|none=>false
theorem rJ A(c:Nat)(l:List be)(d:bC)(w:World)(hr:Sl w 4 A l.length (a6 l))(hn:l.length<=9223372036854775807):
  Cs 257 #[.slice A l.length c,.agg #[I6 d.nd,I6 d.n]] w fun e w'=>Rt e (.tuple #[I6 (pos l d),.bool (tx l d)])/\Below w.heap.size w w':=by
 have j:=aH hr;apply cI;go_in;go_wp2_with fail;refine(k0 341 #[Pt w.heap.size] (fun t=>!p4 t.d d) A c l _ (j.below (ba _ _)) hn (aQ func341 (by kernel_rfl) (by kernel_rfl)) (fun t W hW=>yo _ t d W ((ei.new w d).below hW))).mono ?_;rintro e w' ⟨rfl,m⟩;have p:Bw w w':=(ba _ _).trans (m.mono (by simp));obtain⟨s,u⟩:=((ei.new w d).below m).cells;have B:=aH p;have z:pos l d<=l.length:=Bq _ l;rw[show kk (fun t=>!p4 t.d d) l=pos l d from rfl];rcases jH (pos l d) l.length with h|h
 ·obtain⟨g,o,rfl,q,n,c1,c2,c3⟩:=ep (j.below B) (zA h);have a:Hid (tx l d=lW l[pos l d].d d):=aH (by unfold tx;rw[zA h]);have f:ey (pos l d) l.length=(pos l d:Nat):=by simp[ey,h]
  rw[f];generalize hz:l[pos l d]=t at n c1 c2 c3 a;obtain⟨k,b⟩:=nx (pos l d);have i:=aH b;rw[b]at h n c1 c2 c3 ⊢;have C:decide ((k:Int) < 0)=false:=by simp
  have D:=fun W=>jb t.d d W;have q:=fun op x y W=>iH op x y t.d d W;go_wp2;go_quiet (fail);go_wp2_with fail
  ((try simp only[Exit.inBlock,Exit.then]);refine bodyPost_ret (results_tmp2 rfl _ _ _) rfl ?_)
  exact⟨by rw[a,i];rfl,below_drewN B _⟩
 ·have f:ey (pos l d) l.length= -1:=by simp[ey];omega
  have a:Hid (tx l d=false):=aH (by unfold tx;rw[jB h]);have i:Hid (pos l d=l.length):=aH (by omega);rw[f];go_wp2_with fail
  ((try simp only[Exit.inBlock,Exit.then]);refine bodyPost_ret (results_tmp2 rfl _ _ _) rfl ?_)
  exact⟨by rw[a,i];rfl,B⟩
end Hd
def bs(l:List bC)(d:bC):Nat->Nat->Nat->Nat
 |0,a,_=>a
 |n+1,a,b=>if a < b then if(match l[(a+b) / 2]? with|some t=>p4 t d|none=>false)then bs l d n ((a+b) / 2+1) b else bs l d n a ((a+b) / 2)else a
def Dd(l:List bC)(d:bC):Nat:=bs l d l.length 0 l.length
theorem ES l d(n a:Nat):bs l d n a a=a:=by cases n<;>simp[bs]
theorem Dr l d(n a b m:Nat) t(h:a < b)(hm:(a+b) / 2=m)(ht:l[m]?=some t):bs l d (n+1) a b=if p4 t d then bs l d n (m+1) b else bs l d n a m:=by
 conv=>lhs;unfold bs
 rw[if_pos h,hm,ht]
theorem Bs l d:∀n a b,a<=b->bs l d n a b<=b
 |0,a,b,h=>h
 |n+1,a,b,h=>by
  unfold bs
  by_cases hab:a < b
  ·rw[if_pos hab]
   have c:∀q:Bool,(if q then bs l d n ((a+b) / 2+1) b else bs l d n a ((a+b) / 2))<=b:=fun q=>by
    cases q
    ·exact zD (Bs l d n a _ (by omega)) (by omega)
    ·exact Bs l d n _ b (by omega)
   exact c _
  ·rw[if_neg hab];exact h
def tP(l:List bC)(d:bC):Bool:=match l[Dd l d]? with|some t=>lW t d|none=>false
theorem pd(w:World) v(l:List bC)(d:bC)(h:Rw aJ w v l)(hl:l.length<=100000000000000):
  Cs 253 #[v,.agg #[I6 d.nd,I6 d.n]] w fun e w'=>Rt e (.tuple #[I6 (Dd l d:Nat),.bool (tP l d)])/\Below w.heap.size w w':=by
 obtain⟨A,c,rfl,hc,S⟩:=h;have H:=aH (show Rw aJ w (.slice A l.length c) l from⟨A,c,rfl,hc,S⟩);clear S;obtain⟨W0,k⟩:=nx (w.alloc (.cells #[I6 d.nd,I6 d.n] 42));have G:Bw w W0:=k▸ba _ _;have s:=am.new w 42 #[I6 d.nd,I6 d.n];rw[k]at s;obtain⟨i,O,HW⟩:=gC G s k;clear G s k;apply cI;go_in;go_wp2_with fail;rw[HW];go_step3;go_wp2_with fail;go_step3;go_wp2_with fail;go_loopg[6,7] l.length (fun gn v6 v7 wr=>∃a b n:Nat,a<=b/\b<=l.length/\b - a<=n/\bs l d n a b=Dd l d/\gn=b - a/\v6=I6 a/\v7=I6 b/\Bw w wr/\am wr w.heap.size 42 #[I6 d.nd,I6 d.n])
 case atStart=>exact⟨0,l.length,l.length,by omega,by omega,by omega,rfl,rfl,rfl,rfl,i,O⟩
 case round=>
  obtain⟨a,b,n,ha,T,he,I,rfl,rfl,rfl,q,hd⟩:=hrel;have F:=aH I;clear I;have i:=aH q;obtain⟨U,V⟩:=am.two hd;have O:=aH hd;clear q hd;by_cases hlt:a < b
  ·have d0:decide ((b:Int)<=(a:Int))=false:=by simp;omega
   obtain⟨m,X⟩:∃m:Nat,((a:Int)+(b:Int)) / 2=m:=⟨(a+b) / 2,by omega⟩;have Y:a<=m/\m < b:=by omega
   have J:m < l.length:=by omega
   obtain⟨g,o,rfl,f⟩:=(H.below i).at_ (zA J);have u:Ce wr g (o+m*2) (I6 l[m].nd):=f 0 _ rfl;have c1:Ce wr g (o+m*2+1) (I6 l[m].n):=f 1 _ rfl;have Z:=aH (fun W=>fu l[m] d W);obtain⟨n',rfl⟩:∃n',n=n'+1:=⟨n - 1,by omega⟩;have z:=Dr l d n' a b m l[m] hlt (by omega) (zA J);rw[F]at z;have L:=aH z;clear f z F;generalize l[m]=t at u c1 Z L;have r0:=fun d os=>cell_regrown U d os;have r1:=fun d os=>cell_regrown V d os;have y0:=fun d os=>cell_regrown u d os;have y1:=fun d os=>cell_regrown c1 d os;have j:=aH Y;clear U V u c1 hlt;go_wp2_with fail;rw[X];clear X;cases q:p4 t d;all_goals
    obtain⟨C5,M⟩:=gB (fun W=>by have:=Z W;rw[q]at this;exact this) (by have:=L.out;rw[q]at this;exact this.symm);clear q;refine wp_region_quiet_below (by kernel_rfl) (by kernel_rfl) ?_;repeat(go_big_quiet_step (first|(go_at_call 333;exact Calls.regrown_of (C5 _))|fail))
    refine wpQuiet_nil ?_;intro w5 p;obtain⟨⟨dq,N⟩,p⟩:=p;obtain⟨B,C⟩:=gB (i.trans ((below_regrown wr dq N).mono i.size)) (O.below (below_regrown wr dq N));rw[<-p]at B C;clear p;go_wp2_with fail
   ·go_roundg (m - a)
    case measure=>have:=j.out;omega
    case rel=>exact⟨a,m,n',j.1,by have:=j.out;omega,by have:=j.out;omega,M,rfl,rfl,rfl,B,C⟩
   ·go_roundg (b - (m+1))
    case measure=>have:=j.out;omega
    case rel=>exact⟨m+1,b,n',by have:=j.out;omega,T,by have:=j.out;omega,M,rfl,by go_num,rfl,B,C⟩
  ·obtain rfl:a=b:=by omega
   have d0:decide ((a:Int)<=(a:Int))=true:=by simp
   have R:Dd l d=a:=by rw[<-F];exact ES l d n a
   have D:Hid (tP l d=match l[a]? with|some t=>lW t d|none=>false):=aH (by unfold tP;rw[R]);have HF:=aH R;clear R F;by_cases hal:a < l.length
   ·obtain⟨g,o,rfl,f⟩:=(H.below i).at_ (zA hal);have u:Ce wr g (o+a*2) (I6 l[a].nd):=f 0 _ rfl;have c1:Ce wr g (o+a*2+1) (I6 l[a].n):=f 1 _ rfl;clear f;rw[zA hal]at D;generalize l[a]=t at u c1 D;have hq:=fun W=>jb t d W;have hf:=fun op x y W=>iH op x y t d W;have d1:decide ((a:Int) < (l.length:Int))=true:=by simp;omega
    go_wp2_with fail;go_big_quiet (fail);go_wp2_with fail;rw[qJ];go_ret2;rw[HF,D];exact⟨rfl,below_drewN i _⟩
   ·have d1:decide ((a:Int) < (l.length:Int))=false:=by simp;omega
    rw[jB (by omega)]at D;go_wp2_with fail;go_big_quiet (fail);go_wp2_with fail;rw[qJ];go_ret2;rw[HF,D];exact⟨rfl,below_drewN i _⟩
theorem b8{w}{v}{l:List α}(h:Rw E w v l):∃A c,v=.slice A l.length c:=by obtain⟨A,c,rfl,_,_⟩:=h;exact⟨A,c,rfl⟩
def fe(b:List bC)(n:Int):Int:=match b[Dd b ⟨n,0⟩]? with|some t=>if t.nd==n then t.n else 0|none=>0
theorem km(w:World) vb vc(b:List bC)(n:Int)(h:Rw aJ w vb b)(hl:b.length<=100000000000000):
  Cs 254 #[.agg #[vb,vc],I6 n] w fun e w'=>Rt e (I6 (fe b n))/\Below w.heap.size w w':=by
 obtain⟨A,c,rfl⟩:=b8 h;have H:=aH h;clear h;obtain⟨W0,f⟩:=nx (w.alloc (.cells #[.slice A b.length c,vc] 129));have p:Bw w W0:=f▸ba _ _;have i:=am.new w 129 #[.slice A b.length c,vc];rw[f]at i;obtain⟨y,z⟩:=am.two i;obtain⟨q,B,C⟩:=gC p i f;clear p i f;apply cI;go_in;go_wp2_with fail;simp only[C.out];go_wp2_with fail;refine(pd _ _ b ⟨n,0⟩ (H.below q) hl).mono ?_;have j:Hid (fe b n=match b[Dd b ⟨n,0⟩]? with|some t=>if t.nd==n then t.n else 0|none=>0):=aH rfl;have u:=Bs b ⟨n,0⟩ b.length 0 b.length (zS _);rw[show bs b ⟨n,0⟩ b.length 0 b.length=Dd b ⟨n,0⟩from rfl]at u;generalize Dd b ⟨n,0⟩=k at u j ⊢;generalize tP b ⟨n,0⟩=bo;rintro e w1 ⟨rfl,s⟩;have m:=aH (q.trans (s.mono q.size));obtain⟨y,z⟩:=am.two (B.below s);clear s;by_cases hlt:k < b.length
 ·obtain⟨g,o,rfl,a⟩:=(H.below m).at_ (zA hlt);have D:Ce w1 g (o+k*2) (I6 b[k].nd):=a 0 _ rfl;have c1:Ce w1 g (o+k*2+1) (I6 b[k].n):=a 1 _ rfl;rw[zA hlt]at j;clear a;generalize b[k]=t at D c1 j;have F:decide ((k:Int) < (b.length:Int))=true:=by simp;omega
  cases hn:(t.nd==n);all_goals
   have x:=aH (by have:=j.out;simp only[hn]at this;exact this);go_wp2_with fail;go_ret;rw[x];exact⟨rfl,m⟩
 ·have F:decide ((k:Int) < (b.length:Int))=false:=by simp;omega
  rw[jB (by omega)]at j;go_wp2_with fail;go_ret;rw[j];exact⟨rfl,m⟩
def my(b cl:List bC)(d:bC):Bool:=aO d&&(tP cl d||decide (d.n<=fe b d.nd))
theorem iI(w:World) vb vc(b cl:List bC)(d:bC)(h:Rw aJ w vb b)(h2:Rw aJ w vc cl)(hl:b.length<=100000000000000)(hl2:cl.length<=100000000000000):
  Cs 167 #[.agg #[vb,vc],.agg #[I6 d.nd,I6 d.n]] w fun e w'=>Rt e (.bool (my b cl d))/\Below w.heap.size w w':=by
 obtain⟨A,c,rfl⟩:=b8 h;obtain⟨n,c2,rfl⟩:=b8 h2;obtain⟨H,J⟩:=gB h h2;clear h h2;obtain⟨W0,a⟩:=nx ((w.alloc (.cells #[.slice A b.length c,.slice n cl.length c2] 129)).alloc (.cells #[I6 d.nd,I6 d.n] 42));have s:Bw w W0:=a▸(ba _ _).alloc (by simp) _;have i:=(am.new w 129 #[.slice A b.length c,.slice n cl.length c2]).alloc (.cells #[I6 d.nd,I6 d.n] 42);have f:=am.new (w.alloc (.cells #[.slice A b.length c,.slice n cl.length c2] 129)) 42 #[I6 d.nd,I6 d.n];rw[qA]at f;rw[a]at i f;obtain⟨x,L,M,N⟩:=gD s i f a;clear s i f a;apply cI;go_in;go_wp2_with fail;rw[N];refine(pd _ _ cl d (J.below x) hl2).mono ?_;have j:Hid (my b cl d=(aO d&&(tP cl d||decide (d.n<=fe b d.nd)))):=aH rfl;generalize Dd cl d=k;generalize tP cl d=bo at j ⊢;rintro e w1 ⟨rfl,q⟩;have m:=aH (x.trans (q.mono x.size));obtain⟨y,z⟩:=am.two (L.below q);obtain⟨B,C⟩:=am.two (M.below q);have a0:=fun d os=>cell_regrown y d os;have a1:=fun d os=>cell_regrown z d os;have a2:=fun d os=>cell_regrown B d os;have a3:=fun d os=>cell_regrown C d os;obtain⟨D,F⟩:=gB (fun p:Regrown=>(H.below m).below (below_regrown w1 p.d p.os)) (fun W=>cG d W);have G:=aH (fun(p:Regrown)=>km _ (.slice A b.length c) (.slice n cl.length c2) b d.nd (D p) hl);generalize fe b d.nd=u at G j;generalize aO d=ok at F j;clear q y z B C;cases ok<;>cases bo<;>cases hu:decide (d.n<=u)
 all_goals
  rw[hu]at j;go_wp2_with fail;refine wp_region_quiet_below (by kernel_rfl) (by kernel_rfl) ?_;repeat(go_big_quiet_step (first|(go_at_call 245;exact Calls.regrown_of (F _))|(go_at_call 254;exact Calls.regrown_of (G ⟨_,_⟩))|fail))
  refine wpQuiet_nil ?_;intro R g;obtain⟨⟨O,I⟩,g⟩:=g;have t:=aH (m.trans ((below_regrown w1 O I).mono m.size));rw[<-g]at t;clear g;go_wp2_with fail;go_ret;rw[j];exact⟨rfl,t⟩
def En(w:World)(e:Ending)(w':World):Prop:=(∃n:Int,Rt e (I6 n))/\Below w.heap.size w w'
def FM(w:World)(g:Nat)(vb vc:Value):Prop:=am w g 129 #[vb,vc]
theorem mA w vb vc(b cl:List bC)(h:Rw aJ w vb b)(h2:Rw aJ w vc cl)(hl:b.length<=100000000000000)(hl2:cl.length<=100000000000000):
  Cs 330 #[.agg #[vb,vc]] w (En w):=by
 obtain⟨A,c,rfl⟩:=b8 h;obtain⟨A2,c2,rfl⟩:=b8 h2;obtain⟨H,H2⟩:=gB h h2;clear h h2;obtain⟨W0,M⟩:=nx (w.alloc (.cells #[.slice A b.length c,.slice A2 cl.length c2] 129));have ha:Bw w W0:=M▸ba _ _;have N:=am.new w 129 #[.slice A b.length c,.slice A2 cl.length c2];rw[M]at N;obtain⟨R,S⟩:=am.two N;obtain⟨j,D,I⟩:=gC ha N M;clear ha N M;apply cI;go_in;go_wp2_with fail;simp only[I.out];go_wp2_with fail;refine(kZ _ _ b (H.below j) (by omega)).mono ?_;rintro e w1 ⟨⟨b1,rfl⟩,s⟩;obtain⟨a,T⟩:=gB (j.trans (s.mono j.size)) (D.below s);obtain⟨R,S⟩:=am.two (D.below s);clear s j D;cases b1
 ·go_wp2_with fail;go_ret;exact⟨⟨_,rfl⟩,a⟩
 ·go_wp2_with fail;refine(kZ _ _ cl (H2.below a) (by omega)).mono ?_;rintro e w2 ⟨⟨b2,rfl⟩,s⟩;obtain⟨m,G⟩:=gB (a.trans (s.mono a.size)) (T.below s);obtain⟨R,S⟩:=am.two (T.below s);clear s a T;cases b2
  ·go_wp2_with fail;go_ret;exact⟨⟨_,rfl⟩,m⟩
  ·go_wp2_with fail;go_loopg[20] b.length (fun gn v wr=>∃k:Nat,k<=b.length/\gn=b.length - k/\v=I6 k/\Bw w wr/\FM wr w.heap.size (.slice A b.length c) (.slice A2 cl.length c2))
   case atStart=>exact⟨0,by omega,rfl,rfl,m,G⟩
   case round=>
    obtain⟨k,hk,rfl,rfl,s,hd⟩:=hrel;clear R S;have j:=aH s;obtain⟨R,S⟩:=am.two hd;have D:=aH hd;clear s hd;by_cases hlt:k < b.length
    ·have F:=aH hlt;have d0:decide ((k:Int) < (b.length:Int))=true:=by simp;omega
     obtain⟨g,o,rfl,f⟩:=(H.below j).at_ (zA hlt);have c0:Ce wr g (o+k*2) (I6 b[k].nd):=f 0 _ rfl;have c1:Ce wr g (o+k*2+1) (I6 b[k].n):=f 1 _ rfl;clear f;have z:=am.new wr 42 #[I6 b[k].nd,I6 b[k].n];have a:=j.alloc j.size (.cells #[I6 b[k].nd,I6 b[k].n] 42);have n:=D.alloc (.cells #[I6 b[k].nd,I6 b[k].n] 42);obtain⟨W,L⟩:=nx (wr.alloc (.cells #[I6 b[k].nd,I6 b[k].n] 42));have I:=aH L;rw[L]at a z n;have y:∀x,k=x+1->∀h:x < b.length,Ce W g (o+x*2) (I6 b[x].nd):=fun x hk' h=>by
      obtain⟨g',o',U,f⟩:=(H.below a).at_ (zA h);injection U with U;injection U with hgo1 hgo2;subst hgo1;subst hgo2;exact f 0 (I6 b[x].nd) rfl
     have Y:=aH y;clear L y;generalize b[k]=t at c0 c1 z I a n;obtain⟨V,X⟩:=am.two z;obtain⟨Z,e3⟩:=am.two n;obtain⟨m,G,O⟩:=gC a n (fun W=>cG t W);generalize aO t=ok at O;have r0:=fun d os=>cell_regrown V d os;have r1:=fun d os=>cell_regrown X d os;have r2:=fun d os=>cell_regrown Z d os;have r3:=fun d os=>cell_regrown e3 d os;clear a z n V X Z e3 j D;rcases qK k with hk0|hk0
     ·subst hk0;rw[yG,wD]at c0 c1;clear Y;cases ok;all_goals
       go_wp2_with fail;simp only[I.out];refine wp_region_quiet_below (by kernel_rfl) (by kernel_rfl) ?_;repeat(go_big_quiet_step (first|(go_at_call 245;exact Calls.regrown_of (O _))|fail))
       refine wpQuiet_nil ?_;intro w5 i;obtain⟨⟨J,B⟩,i⟩:=i;obtain⟨q,C⟩:=gB (m.trans ((below_regrown W J B).mono m.size)) (G.below (below_regrown W J B));rw[<-i]at q C;clear i;go_wp2_with fail
      ·go_ret;exact⟨⟨_,rfl⟩,q⟩
      ·go_roundg (b.length - (0+1))
       case measure=>have:=F.out;omega
       case rel=>exact⟨0+1,F,rfl,by go_num,q,C⟩
     ·obtain⟨x,rfl⟩:∃x,k=x+1:=⟨k - 1,by omega⟩;have hf:x < b.length:=by omega
      have z0:=Y x rfl hf;generalize b[x]=t' at z0;have z1:=fun d os=>cell_regrown z0 d os;have d3:decide ((0:Int) < (x:Int)+1)=true:=decide_eq_true (by omega);clear Y z0;cases ok<;>cases hnn:(t'.nd==t.nd);all_goals
       go_wp2_with fail;simp only[I.out];refine wp_region_quiet_below (by kernel_rfl) (by kernel_rfl) ?_;repeat(go_big_quiet_step (first|(go_at_call 245;exact Calls.regrown_of (O _))|fail))
       refine wpQuiet_nil ?_;intro w5 i;obtain⟨⟨J,B⟩,i⟩:=i;obtain⟨q,C⟩:=gB (m.trans ((below_regrown W J B).mono m.size)) (G.below (below_regrown W J B));rw[<-i]at q C;clear i;go_wp2_with fail;first
        |(go_roundg (b.length - (x+1+1));(case measure=>have:=F.out;omega);(case rel=>exact⟨x+1+1,F,rfl,by go_num,q,C⟩))
        |(go_ret;exact⟨⟨_,rfl⟩,q⟩)
    ·obtain rfl:k=b.length:=by omega
     have d0:decide ((b.length:Int) < (b.length:Int))=false:=by simp
     go_wp2_with fail;have hc:=j;have he:=D;clear j D R S;go_loopg[48] cl.length (fun gn v wr=>∃k:Nat,k<=cl.length/\gn=cl.length - k/\v=I6 k/\Bw w wr/\FM wr w.heap.size (.slice A b.length c) (.slice A2 cl.length c2))
     case atStart=>exact⟨0,by omega,rfl,rfl,hc,he⟩
     case round=>
      obtain⟨k,hk,rfl,rfl,s,hd⟩:=hrel;obtain⟨j,D⟩:=gB s hd;clear s hd hc he;by_cases hlt:k < cl.length
      ·have F:=aH hlt;have d0:decide ((k:Int) < (cl.length:Int))=true:=by simp;omega
       obtain⟨g,o,rfl,f⟩:=(H2.below j).at_ (zA hlt);have c0:Ce wr g (o+k*2) (I6 cl[k].nd):=f 0 _ rfl;have c1:Ce wr g (o+k*2+1) (I6 cl[k].n):=f 1 _ rfl;clear f;have z:=am.new wr 42 #[I6 cl[k].nd,I6 cl[k].n];have a:=j.alloc j.size (.cells #[I6 cl[k].nd,I6 cl[k].n] 42);have n:=D.alloc (.cells #[I6 cl[k].nd,I6 cl[k].n] 42);obtain⟨W,L⟩:=nx (wr.alloc (.cells #[I6 cl[k].nd,I6 cl[k].n] 42));have I:=aH L;rw[L]at a z n;clear L;generalize cl[k]=t at c0 c1 z I a n;obtain⟨V,X⟩:=am.two z;obtain⟨Z,e3⟩:=am.two n;obtain⟨m,G,O⟩:=gC a n (fun W=>cG t W);generalize aO t=ok at O;have hg:=aH (fun p:Regrown=>(H.below m).below (below_regrown W p.d p.os));have C5:=aH (fun(p:Regrown)=>km _ (.slice A b.length c) (.slice (some ⟨g,o,none⟩) cl.length c2) b t.nd (hg p) hl);generalize fe b t.nd=u at C5;have r0:=fun d os=>cell_regrown V d os;have r1:=fun d os=>cell_regrown X d os;have r2:=fun d os=>cell_regrown Z d os;have r3:=fun d os=>cell_regrown e3 d os;clear a z n V X Z e3 j D;cases ok;all_goals
        go_wp2_with fail;simp only[I.out];refine wp_region_quiet_below (by kernel_rfl) (by kernel_rfl) ?_;repeat(go_big_quiet_step (first|(go_at_call 245;exact Calls.regrown_of (O _))|(go_at_call 254;exact Calls.regrown_of (C5 ⟨_,_⟩))|fail))
        refine wpQuiet_nil ?_;intro w5 i;obtain⟨⟨J,B⟩,i⟩:=i;obtain⟨q,C⟩:=gB (m.trans ((below_regrown W J B).mono m.size)) (G.below (below_regrown W J B));rw[<-i]at q C;clear i;go_wp2_with fail;all_goals first
         |(go_roundg (cl.length - (k+1));(case measure=>have:=F.out;omega);(case rel=>exact⟨k+1,F,rfl,by go_num,q,C⟩))
         |(go_ret;exact⟨⟨_,rfl⟩,q⟩)
      ·obtain rfl:k=cl.length:=by omega
       have d0:decide ((cl.length:Int) < (cl.length:Int))=false:=by simp
       go_wp2_with fail;go_ret;exact⟨⟨_,rfl⟩,j⟩
def js(l:List UInt8):Pr (List bC×List bC):=(eh dC 1000 l).bind fun x=>(eh dC 1000 x.2).map fun y=>((x.1,y.1),y.2)
def G4(w:World)(g:Nat)(a:Pr (List bC×List bC))(e:Ending)(w':World):Prop:=
 ∃res,(res=none\/res=a)/\∃vb vc,Rt e (.agg #[vb,vc])/\aK aJ w.heap.size w' vb ((res.map Prod.fst).getD ([],[])).1/\aK aJ w.heap.size w' vc ((res.map Prod.fst).getD ([],[])).2/\RS w' g (res.map Prod.snd)/\aW g w w'
theorem pe(p:List UInt8->Pr α):∀(n:Nat) (l:List UInt8) (x:List α×List UInt8),cK p n l=some x->x.1.length=n
 |0,l,x,h=>by unfold cK at h;injection h with h;subst h;rfl
 |n+1,l,x,h=>by
  unfold cK at h
  cases hp:p l with
  |none=>rw[hp]at h;cases h
  |some y=>
   rw[hp]at h
   simp only[zI]at h
   cases hm:cK p n y.2 with
   |none=>rw[hm]at h;cases h
   |some z=>rw[hm]at h;injection h with h;subst h;simp[pe p n y.2 z hm]
theorem mB(p:List UInt8->Pr α)(m:Nat) l(x:List α×List UInt8)(h:eh p m l=some x):x.1.length<=m:=by
 unfold eh at h;cases hp:bk m l with
 |none=>rw[hp]at h;cases h
 |some y=>rw[hp]at h;have:=pe p _ _ _ h;have:=(cO hp).1;omega
theorem xA(p:List UInt8->Pr α)(m:Nat)(o:Option (List UInt8))(a:Pr (List α))(h:a=none\/a=o.bind (eh p m)):((a.map Prod.fst).getD []).length<=m:=by
 rcases h with rfl|rfl
 ·simp
 ·cases o with
  |none=>simp
  |some l=>cases hp:eh p m l with
   |none=>simp[hp]
   |some x=>simp[hp];exact mB p m l x hp
theorem aK.only{w w'}{v}{l:List α}(h:aK E base w v l)(b:aW g w w'){cs}(c:am w g t cs)(a:E.ty≠t):aK E base w' v l:=bK h b c a
theorem yp(g:Nat)(o:Option (List UInt8)) w(h:RS w g o):
  Cs 239 #[Pt g] w (G4 w g (o.bind js)):=by
 have hg:=h.lt;obtain⟨H,R0,O0⟩:=gC (h.lay (.cells #[aS,aS] 129)) (am.new w 129 #[aS,aS]) ((cJ (g:=g) (w:=w)).lay (.cells #[aS,aS] 129));apply cI;go_in;go_wp2_with fail;refine(lC g 1000 o _ H (by decide)).mono ?_;rintro e w1 ⟨z,U,v1,rfl,p,q,B⟩;have Z:=xA dC 1000 o z U;obtain⟨b,I⟩:=nx ((z.map Prod.fst).getD []);obtain⟨o1,V⟩:=nx (z.map Prod.snd);rw[I]at p Z;rw[V]at q;obtain⟨f,c1,rfl⟩:=b8 p.rw;have hd:w.heap.size < w1.heap.size:=by have:=B.size;simp at this;omega
 have ha:=R0.only B (by omega);obtain⟨H1,D1,O1,R1,L1,Q1⟩:=gF (q.lay (.cells #[.slice f b.length c1,aS] 129)) (am.new w1 129 #[.slice f b.length c1,aS]) ((aA O0 B).lay (.cells #[.slice f b.length c1,aS] 129)) (ha.alloc (.cells #[.slice f b.length c1,aS] 129)) ((p.mono (base':=w.heap.size) (by simp)).grown (qN w1 (.cells #[.slice f b.length c1,aS] 129) none) (fun k e=>by cases e)) (zB U (zB I V));go_wp2_with fail;refine(lC g 1000 o1 _ H1 (by decide)).mono ?_;rintro e w2 ⟨Y,J,v2,rfl,p,q,B⟩;have hc:=xA dC 1000 o1 Y J;obtain⟨a,t⟩:=nx ((Y.map Prod.fst).getD []);obtain⟨o2,m⟩:=nx (Y.map Prod.snd);rw[t]at p hc;rw[m]at q;obtain⟨c,c2,rfl⟩:=b8 p.rw
 have HP:Hid (∀r,o2=some r->o.bind js=some ((b,a),r)):=aH (fun r hr=>by
  obtain⟨O,R,C⟩:=Q1.out;subst hr;cases o1 with
  |none=>rcases J with rfl|rfl<;>simp at m
  |some s=>
   rcases O with rfl|rfl
   ·simp at C
   ·rcases J with rfl|rfl
    ·simp at m
    ·cases o with
     |none=>simp at C
     |some l=>
      simp only[zI]at R C m t ⊢;unfold js;cases hp:eh dC 1000 l with
      |none=>rw[hp]at C;simp at C
      |some x=>
       rw[hp]at R C;simp at R C;subst R C;cases hp2:eh dC 1000 x.2 with
       |none=>rw[hp2]at m;simp at m
       |some y=>
        rw[hp2]at m t;simp at m t;subst m t;simp[hp2])
 have D:=D1.only B (by omega);obtain⟨y0,y1⟩:=am.two D;have hf:=am.frozen D 1;obtain⟨D2,R2,S,O2,L2,M2⟩:=gF (show am (w2.setCell ⟨w1.heap.size,1,none⟩ (.slice c a.length c2)) w1.heap.size 129 #[.slice f b.length c1,.slice c a.length c2]from D.I 1 _) ((R1.only B (by omega)).only (aB w2 w1.heap.size 1 (.slice c a.length c2)) (by omega)) (q.put (k:=w1.heap.size) (i:=1) (u:=.slice c a.length c2) (by omega)) ((aA O1 B).put (k:=w1.heap.size) (i:=1) (u:=.slice c a.length c2) (by omega)) (show aK aJ w.heap.size w2 (.slice f b.length c1) b from L1.grown B (fun k e=>by cases e;exact hg)) (show aK aJ w.heap.size w2 (.slice c a.length c2) a from p.mono (by simp;omega));obtain⟨L3,M3⟩:=gB (L2.only (aB w2 w1.heap.size 1 (.slice c a.length c2)) D (by decide)) (M2.only (aB w2 w1.heap.size 1 (.slice c a.length c2)) D (by decide));go_wp2_with fail;refine(er g o2 _ S).mono ?_;rintro e w3 ⟨rfl,rfl⟩;generalize w2.setCell ⟨w1.heap.size,1,none⟩ (.slice c a.length c2)=w3 at*;have A:=R2;have T:=O2;obtain⟨y0,y1⟩:=am.two D2;cases o2 with
 |none=>
  go_wp2_with fail;refine(fv g _ _ S).mono ?_;rintro e w5 ⟨rfl,p,q⟩;have F:=A.only q (by omega);obtain⟨z0,z1⟩:=am.two F;have X:=fun j=>am.frozen F j;obtain⟨L,M⟩:=gB ((p.put (k:=w.heap.size) (i:=0) (u:=aS) (by omega)).put (k:=w.heap.size) (i:=1) (u:=aS) (by omega)) (((aA T q).put (k:=w.heap.size) (i:=0) (u:=aS) nR).put (k:=w.heap.size) (i:=1) (u:=aS) nR);obtain⟨N,z⟩:=am.two (F.ax (aS) (aS));go_wp2_with fail;refine bodyPost_ret (v:=.agg #[aS,aS]) (by simp[results,results239,go_sem,N,z]) rfl ?_;exact⟨none,.inl rfl,_,_,rfl,aK.nil _ _,aK.nil _ _,L,M⟩
 |some r=>
  go_wp2_with fail;refine(mA _ _ _ b a L3.rw M3.rw (by omega) (by omega)).mono ?_;rintro e w4 ⟨⟨n,rfl⟩,G⟩;obtain⟨H3,A,T,L4,M4⟩:=gE (S.only (aG (g:=w4.heap.size) G) (by have:=S.lt;have:=G.size;simp;omega)) (R2.below G) (aA O2 (aG G)) (L3.grown (aG (g:=0) G) (fun k e=>by cases e;omega)) (M3.grown (aG (g:=0) G) (fun k e=>by cases e;omega));have hD:=D2.below G;obtain⟨y0,y1⟩:=am.two hD;by_cases hz:n=0
  ·subst hz;obtain⟨z0,z1⟩:=am.two A;have X:=fun j=>am.frozen A j;obtain⟨L,M⟩:=gB ((H3.put (k:=w.heap.size) (i:=0) (u:=.slice f b.length c1) (by omega)).put (k:=w.heap.size) (i:=1) (u:=.slice c a.length c2) (by omega)) ((T.put (k:=w.heap.size) (i:=0) (u:=.slice f b.length c1) nR).put (k:=w.heap.size) (i:=1) (u:=.slice c a.length c2) nR);have O:=A.I 0 (.slice f b.length c1);obtain⟨LF,MF⟩:=gB ((L4.only (aB w4 w.heap.size 0 (.slice f b.length c1)) A (by decide)).only (aB _ w.heap.size 1 (.slice c a.length c2)) O (by decide)) ((M4.only (aB w4 w.heap.size 0 (.slice f b.length c1)) A (by decide)).only (aB _ w.heap.size 1 (.slice c a.length c2)) O (by decide));obtain⟨N,z⟩:=am.two (A.ax (.slice f b.length c1) (.slice c a.length c2));go_wp2_with fail;refine bodyPost_ret (v:=.agg #[.slice f b.length c1,.slice c a.length c2]) (by simp[results,results239,go_sem,N,z]) rfl ?_;exact⟨some ((b,a),r),.inr (HP r rfl).symm,_,_,rfl,LF,MF,L,M⟩
  ·have he:(n != 0)=true:=by simpa using hz
   go_wp2_with fail;refine(fv g _ _ H3).mono ?_;rintro e w5 ⟨rfl,p,q⟩;have F:=A.only q (by omega);obtain⟨z0,z1⟩:=am.two F;have X:=fun j=>am.frozen F j;obtain⟨L,M⟩:=gB ((p.put (k:=w.heap.size) (i:=0) (u:=aS) (by omega)).put (k:=w.heap.size) (i:=1) (u:=aS) (by omega)) (((aA T q).put (k:=w.heap.size) (i:=0) (u:=aS) nR).put (k:=w.heap.size) (i:=1) (u:=aS) nR);obtain⟨N,z⟩:=am.two (F.ax (aS) (aS));go_wp2_with fail;refine bodyPost_ret (v:=.agg #[aS,aS]) (by simp[results,results239,go_sem,N,z]) rfl ?_;exact⟨none,.inl rfl,_,_,rfl,aK.nil _ _,aK.nil _ _,L,M⟩
def lX(b c:List bC):List UInt8:=bZ dB b++bZ dB c
theorem kl(l:List bC)(c:l.length<=100000000000000)(hd:∀d∈l,eL d):(bZ dB l).length<=10+20*l.length:=by
 have f:=(bi (n:=l.length) (by omega)).2;have g:(bW dB l).length<=20*l.length:=by
  clear f c;induction l with
  |nil=>simp[bW]
  |cons a l ih=>
   have:=ih fun d h=>hd d (qF _ h);have b:=hd a jO;have i:=fw a b.1 b.2;unfold bW at*;rw[zX,zC,zQ];omega
 unfold bZ;rw[zC];omega
theorem tQ(w:World) vb vc(b cl:List bC)(h:Rw aJ w vb b)(h2:Rw aJ w vc cl)(hl:b.length<=100000000000000)(hl2:cl.length<=100000000000000)(hd:∀d∈b,eL d)(hd2:∀d∈cl,eL d):
  Cs 158 #[.agg #[vb,vc]] w fun e w'=>Rt e (.string (aF (lX b cl)))/\Below w.heap.size w w':=by
 obtain⟨A,c,rfl⟩:=b8 h;obtain⟨m,c2,rfl⟩:=b8 h2;obtain⟨W0,a⟩:=nx (w.alloc (.cells #[.slice A b.length c,.slice m cl.length c2] 129));have f:Bw w W0:=a▸ba _ _;have i:=am.new w 129 #[.slice A b.length c,.slice m cl.length c2];rw[a]at i;obtain⟨n,p⟩:=am.two i;obtain⟨q,s⟩:=gB (fun(d:Nat) (os:Array Obj)=>xz _ _ b ((h.below f).below (below_regrown W0 d os)) hl hd) (fun(d:Nat) (os:Array Obj)=>xz _ _ cl ((h2.below f).below (below_regrown W0 d os)) hl2 hd2);have t:=kl b hl hd;have u:=kl cl hl2 hd2;have k:Hid (lX b cl=bZ dB b++bZ dB cl):=aH rfl;obtain⟨x,z⟩:=gB f a;have D:=fun d os=>cell_regrown n d os;have F:=fun d os=>cell_regrown p d os;clear h h2 f i a n p hd hd2;generalize bZ dB b=s1 at q k t;generalize bZ dB cl=s2 at s k u;have B:=fun W=>bJ s1 s2 (by omega) W;clear t u;apply cI;go_in;go_wp2_with fail;rw[z];refine wp_region_quiet_below (by kernel_rfl) (by kernel_rfl) ?_;repeat(go_big_quiet_step (first|(go_at_call 248;with_reducible exact Calls.regrown_of (q.out _ _))|(go_at_call 248;with_reducible exact Calls.regrown_of (s.out _ _))|fail))
 refine wpQuiet_nil ?_;intro G g;obtain⟨⟨C,y⟩,g⟩:=g;have j:=aH (x.trans ((below_regrown W0 C y).mono x.size));rw[<-g]at j;clear g;go_wp2;go_ret;rw[k];exact⟨rfl,j⟩
structure Mg where
 d:bC
 q:List UInt8
 b:List UInt8
 c:Int
def Bt(m:Mg):List Value:=[I6 m.d.nd,I6 m.d.n,.string (aF m.q),.string (aF m.b),I6 m.c]
abbrev yq(m:Mg):Value:=.agg #[I6 m.d.nd,I6 m.d.n,.string (aF m.q),.string (aF m.b),I6 m.c]
def aU:El Mg where
 ty:=44
 sl:=127
 s:=5
 bytes:=56
 z:=.agg #[I6 0,I6 0,Se,Se,I6 0]
 f:=Bt
 und:=underlying127
 info:=by kernel_rfl
 zs:=rfl
 pos:=by decide
 len _:=rfl
 one m u hu:=by simp[Bt]at hu;rcases hu with rfl|rfl|rfl|rfl|rfl<;>rfl
def Dt(m:Mg):Bool:=aO m.d&&!m.q.isEmpty&&decide ((m.q.length:Int)<=40)&&decide ((m.b.length:Int)<=1000)&&decide (0<=m.c)&&decide (m.c<=1048576)
theorem am.ab{x y z u v}(h:am w g t #[x,y,z,u,v]):Ce w g 0 x/\Ce w g 1 y/\Ce w g 2 z/\Ce w g 3 u/\Ce w g 4 v:=
 ⟨am.cell h 0,am.cell h 1,am.cell h 2,am.cell h 3,am.cell h 4⟩
theorem rK m(w:World):
  Cs 332 #[yq m] w fun e w'=>Rt e (.bool (Dt m))/\Below w.heap.size w w':=by
 obtain⟨W0,a⟩:=nx (w.alloc (.cells #[I6 m.d.nd,I6 m.d.n,.string (aF m.q),.string (aF m.b),I6 m.c] 44));have f:Bw w W0:=a▸ba _ _;have b:=am.new w 44 #[I6 m.d.nd,I6 m.d.n,.string (aF m.q),.string (aF m.b),I6 m.c];rw[a]at b;have h:Hid (Dt m=(aO m.d&&!m.q.isEmpty&&decide ((m.q.length:Int)<=40)&&decide ((m.b.length:Int)<=1000)&&decide (0<=m.c)&&decide (m.c<=1048576))):=aH rfl;obtain⟨i,j,k⟩:=gC f b a;obtain⟨n,p,q,s,t⟩:=am.ab b;clear f b a;apply cI;go_in;go_wp2_with fail;simp only[k.out];go_wp2_with fail;refine(cG m.d _).mono ?_;rintro e w1 ⟨rfl,c⟩;obtain⟨g,u⟩:=gB (i.trans (c.mono i.size)) (j.below c);obtain⟨n,p,q,s,t⟩:=am.ab (j.below c);clear c i j;generalize aO m.d=ok at h;cases ok
 ·go_wp2_with fail;go_ret;rw[h];exact⟨rfl,g⟩
 ·go_wp2_with fail;all_goals
   go_ret;rw[h];refine⟨?_,g⟩;congr 2;simp[*];try omega
theorem am.three{x y z}(h:am w g t #[x,y,z]):Ce w g 0 x/\Ce w g 1 y/\Ce w g 2 z:=⟨am.cell h 0,am.cell h 1,am.cell h 2⟩
theorem jt w vl vb vc(ls:List Mg)(b cl:List bC)(h0:Rw aU w vl ls)(h:Rw aJ w vb b)(h2:Rw aJ w vc cl)(hll:ls.length<=100000000000000)(hl:b.length<=100000000000000)(hl2:cl.length<=100000000000000):
  Cs 241 #[.agg #[vl,vb,vc]] w (En w):=by
 obtain⟨R,G,rfl⟩:=b8 h0;obtain⟨A,c,rfl⟩:=b8 h;obtain⟨S,c2,rfl⟩:=b8 h2;obtain⟨H0,H,H2⟩:=gC h0 h h2;clear h h2 h0;obtain⟨W0,C⟩:=nx (w.alloc (.cells #[.slice R ls.length G,.slice A b.length c,.slice S cl.length c2] 131));have N:Bw w W0:=C▸ba _ _;have D:=am.new w 131 #[.slice R ls.length G,.slice A b.length c,.slice S cl.length c2];rw[C]at D;obtain⟨T,U,V⟩:=am.three D;obtain⟨m,I,J⟩:=gC N D C;clear N D C;apply cI;go_in;go_wp2_with fail;simp only[J.out];go_wp2_with fail;refine(mA _ _ _ b cl (H.below m) (H2.below m) hl hl2).mono ?_;rintro e w1 ⟨⟨n,rfl⟩,B⟩;obtain⟨j,hc⟩:=gB (m.trans (B.mono m.size)) (I.below B);obtain⟨T,U,V⟩:=am.three (I.below B);clear B m I;by_cases hz:n=0
 ·subst hz;go_wp2_with fail;go_loopg[12] ls.length (fun gn v wr=>∃k:Nat,k<=ls.length/\gn=ls.length - k/\v=I6 k/\Bw w wr/\am wr w.heap.size 131 #[.slice R ls.length G,.slice A b.length c,.slice S cl.length c2])
  case atStart=>exact⟨0,by omega,rfl,rfl,j,hc⟩
  case round=>
   obtain⟨k,hk,rfl,rfl,B,hd⟩:=hrel;clear T U V;have m:=aH B;obtain⟨T,U,V⟩:=am.three hd;have I:=aH hd;clear B hd;by_cases hlt:k < ls.length
   ·have F:=aH hlt;have d0:decide ((k:Int) < (ls.length:Int))=true:=by simp;omega
    obtain⟨g,o,rfl,a⟩:=(H0.below m).at_ (zA hlt);have G:Ce wr g (o+k*5) (I6 ls[k].d.nd):=a 0 _ rfl;have c1:Ce wr g (o+k*5+1) (I6 ls[k].d.n):=a 1 _ rfl;have c2:Ce wr g (o+k*5+2) (.string (aF ls[k].q)):=a 2 _ rfl;have c3:Ce wr g (o+k*5+3) (.string (aF ls[k].b)):=a 3 _ rfl;have c4:Ce wr g (o+k*5+4) (I6 ls[k].c):=a 4 _ rfl;clear a;have s:=am.new wr 44 (Bt ls[k]).toArray;have j:=m.alloc m.size (.cells (Bt ls[k]).toArray 44);have u:=I.alloc (.cells (Bt ls[k]).toArray 44);obtain⟨W,X⟩:=nx (wr.alloc (.cells (Bt ls[k]).toArray 44));have J:=aH X;rw[X]at j s u;have y:∀f,k=f+1->∀h:f < ls.length,Ce W g (o+f*5) (I6 ls[f].d.nd)/\Ce W g (o+f*5+1) (I6 ls[f].d.n):=fun f hk' h=>by
     obtain⟨g',o',L,a⟩:=(H0.below j).at_ (zA h);injection L with L;injection L with hgo1 hgo2;subst hgo1;subst hgo2;exact⟨a 0 (I6 ls[f].d.nd) rfl,a 1 (I6 ls[f].d.n) rfl⟩
    have Y:=aH y;clear X y;generalize ls[k]=t at G c1 c2 c3 c4 s J j u;unfold Bt at s J;obtain⟨e0,e1,e2,e3,e4⟩:=am.ab s;obtain⟨f0,f1,f2⟩:=am.three u;obtain⟨q,O,Z⟩:=gC j u (fun W=>rK t W);have C5:=aH (fun(d:Nat) (os:Array Obj)=>iI _ _ _ b cl t.d ((H.below q).below (below_regrown W d os)) ((H2.below q).below (below_regrown W d os)) hl hl2);generalize Dt t=ok at Z;generalize my b cl t.d=has at C5;have r0:=fun d os=>cell_regrown e0 d os;have r1:=fun d os=>cell_regrown e1 d os;have r2:=fun d os=>cell_regrown e2 d os;have r3:=fun d os=>cell_regrown e3 d os;have r4:=fun d os=>cell_regrown e4 d os;have s0:=fun d os=>cell_regrown f0 d os;have s1:=fun d os=>cell_regrown f1 d os;have s2:=fun d os=>cell_regrown f2 d os;clear j s u e0 e1 e2 e3 e4 f0 f1 f2 m I;rcases qK k with hk0|hk0
    ·subst hk0;rw[yG,wD]at G c1 c2 c3 c4;clear Y;cases ok<;>cases has;all_goals
      go_wp2_with fail;simp only[J.out];refine wp_region_quiet_below (by kernel_rfl) (by kernel_rfl) ?_;repeat(go_big_quiet_step (first|(go_at_call 332;with_reducible exact Calls.regrown_of (Z.out _))|(go_at_call 167;with_reducible exact Calls.regrown_of (C5.out _ _))|fail))
      refine wpQuiet_nil ?_;intro w5 i;obtain⟨⟨M,x⟩,i⟩:=i;obtain⟨p,z⟩:=gB (q.trans ((below_regrown W M x).mono q.size)) (O.below (below_regrown W M x));rw[<-i]at p z;clear i;go_wp2_with fail;first
       |(go_roundg (ls.length - (0+1));(case measure=>have:=F.out;omega);(case rel=>exact⟨0+1,F,rfl,by go_num,p,z⟩))
       |(go_ret;exact⟨⟨_,rfl⟩,p⟩)
    ·obtain⟨f,rfl⟩:∃f,k=f+1:=⟨k - 1,by omega⟩;have ha:f < ls.length:=by omega
     obtain⟨z0,z1⟩:=Y f rfl ha;generalize ls[f]=t' at z0 z1;have C6:=aH (fun W=>fu t'.d t.d W);generalize p4 t'.d t.d=le at C6;have y0:=fun d os=>cell_regrown z0 d os;have y1:=fun d os=>cell_regrown z1 d os;have d3:decide ((0:Int) < (f:Int)+1)=true:=decide_eq_true (by omega);clear Y z0 z1;cases ok<;>cases has<;>cases le;all_goals
      go_wp2_with fail;simp only[J.out];refine wp_region_quiet_below (by kernel_rfl) (by kernel_rfl) ?_;repeat(go_big_quiet_step (first|(go_at_call 332;with_reducible exact Calls.regrown_of (Z.out _))|(go_at_call 167;with_reducible exact Calls.regrown_of (C5.out _ _))|(go_at_call 333;with_reducible exact Calls.regrown_of (C6.out _))|fail))
      refine wpQuiet_nil ?_;intro w5 i;obtain⟨⟨M,x⟩,i⟩:=i;obtain⟨p,z⟩:=gB (q.trans ((below_regrown W M x).mono q.size)) (O.below (below_regrown W M x));rw[<-i]at p z;clear i;go_wp2_with fail;first
       |(go_roundg (ls.length - (f+1+1));(case measure=>have:=F.out;omega);(case rel=>exact⟨f+1+1,F,rfl,by go_num,p,z⟩))
       |(go_ret;exact⟨⟨_,rfl⟩,p⟩)
   ·obtain rfl:k=ls.length:=by omega
    have d0:decide ((ls.length:Int) < (ls.length:Int))=false:=by simp
    go_wp2_with fail;go_ret;exact⟨⟨_,rfl⟩,m⟩
 ·have he:(n != 0)=true:=by simpa using hz
  clear hz;go_wp2_with fail;go_ret;exact⟨⟨_,rfl⟩,j⟩
def jh(l:List UInt8):Pr Mg:=(dC l).bind fun x=>(du 1000 x.2).bind fun y=>(du 1000 y.2).bind fun z=>(bk 1048576 z.2).map fun u=>(⟨x.1,y.1,z.1,(u.1:Nat)⟩,u.2)
def kn(l:List UInt8):Pr (List Mg×List bC×List bC):=(js l).bind fun x=>(eh jh 1000 x.2).map fun y=>((y.1,x.1),y.2)
def G5(w:World)(g:Nat)(a:Pr (List Mg×List bC×List bC))(e:Ending)(w':World):Prop:=
 ∃res,(res=none\/res=a)/\∃vl vb vc,Rt e (.agg #[vl,vb,vc])/\aK aU w.heap.size w' vl ((res.map Prod.fst).getD ([],[],[])).1/\aK aJ w.heap.size w' vb ((res.map Prod.fst).getD ([],[],[])).2.1/\
  aK aJ w.heap.size w' vc ((res.map Prod.fst).getD ([],[],[])).2.2/\RS w' g (res.map Prod.snd)/\aW g w w'
theorem gm{o':Option (List UInt8)}{p:List UInt8->Pr α}{d x:α}(h:(o.bind p).map Prod.snd=o')(a:((o.bind p).map Prod.fst).getD d=x) r(hr:o'=some r):∃l,o=some l/\p l=some (x,r):=by
 subst hr;cases o with
 |none=>cases h
 |some l=>
  simp only[zI]at h a;cases hp:p l with
  |none=>rw[hp]at h;cases h
  |some y=>
   rw[hp]at h a;simp at h a;exact⟨l,rfl,by rw[hp,<-h,<-a]⟩
theorem Bu{l}{x}(h:js l=some x):x.1.1.length<=1000/\x.1.2.length<=1000:=by
 unfold js at h;cases hp:eh dC 1000 l with
 |none=>rw[hp]at h;cases h
 |some y=>
  rw[hp]at h;simp only[zI]at h;cases hq:eh dC 1000 y.2 with
  |none=>rw[hq]at h;cases h
  |some z=>rw[hq]at h;injection h with h;subst h;exact⟨mB dC 1000 _ _ hp,mB dC 1000 _ _ hq⟩
theorem Bv{a:Pr (List bC×List bC)}(h:a=none\/a=o.bind js):((a.map Prod.fst).getD ([],[])).1.length<=1000/\((a.map Prod.fst).getD ([],[])).2.length<=1000:=by
 rcases h with rfl|rfl
 ·simp
 ·cases o with
  |none=>simp
  |some l=>cases hp:js l with
   |none=>simp[hp]
   |some x=>simp[hp];exact Bu hp
section
variable{β:Type}{E':El β}{base':Nat}{l:List α}{l':List β}{row:Option Nat}
theorem aK.ne(h:aK E base w v l){cs}(c:am w g t cs)(f:E.ty≠t):some g≠v.ownBlock:=by
 intro b;rcases h.2 with⟨rfl,_⟩|⟨k,cap,i,rfl,_,a,_⟩
 ·simp[Value.ownBlock]at b
 ·simp[Value.ownBlock]at b;subst b;unfold am at c;rw[c]at a;injection a with a;injection a with h1 h2;exact f h2.symm
theorem am.grown{cs}(h:am w g t cs)(a:w.grownBy w' row)(b:some g≠row):am w' g t cs:=(a.block g (ap h) b).trans h
theorem aK.own(h:aK E base w v l)(c:aK E' base' w v' l')(b:E'.ty≠E.ty)(f:w.grownBy w' v'.ownBlock):aK E base w' v l:=by
 rcases h with⟨g,a⟩;refine⟨g,?_⟩;rcases a with a|⟨k,cap,cur,rfl,hb,hl,hnc,hr2⟩
 ·exact .inl a
 ·exact .inr ⟨k,cap,cur,rfl,hb,(f.block k (ap hl) (c.ne (show am w k E.ty cur from hl) b)).trans hl,hnc,hr2⟩
end
structure rL(g:Nat)(w wr:World)(D:Nat)(v vb vc:Value)(done:List Mg)(lb lc:List bC):Prop where
 own:aK aU w.heap.size wr v done
 b:aK aJ w.heap.size wr vb lb
 c:aK aJ w.heap.size wr vc lc
 at_:am wr D 131 #[v,vb,vc]
 res:am wr w.heap.size 131 #[aS,aS,aS]
 only:aW g w wr
theorem rL.go{v vb vc}{done}{lb lc}(h:rL g w wr D v vb vc done lb lc)(b:g < w.heap.size)(c:w.heap.size < D)(a:aW g wr w'):rL g w w' D v vb vc done lb lc:=
 ⟨h.own.grown a (fun k e=>by cases e;exact b),h.b.grown a (fun k e=>by cases e;exact b),h.c.grown a (fun k e=>by cases e;exact b),h.at_.only a (by omega),h.res.only a (by omega),aA h.only a⟩
theorem rL.app{vb vc:Value}{done done'}{lb lc}(h:rL g w wr D v vb vc done lb lc)(n:w.heap.size < D)(f:aK aU w.heap.size w' v' done')(a:wr.grownBy w' v.ownBlock):
  rL g w (w'.setCell ⟨D,0,none⟩ v') D v' vb vc done' lb lc:=by
 have i:=h.b.own h.own (by decide) a;have j:=h.c.own h.own (by decide) a;have b:=h.at_.grown a (h.own.ne h.at_ (by decide));have m:=h.res.grown a (h.own.ne h.res (by decide));have c:=dx h.only a (fun k e=>(h.own.lt k e).1);exact⟨f.only (aB w' D 0 v') b (by decide),i.only (aB w' D 0 v') b (by decide),j.only (aB w' D 0 v') b (by decide),b.I 0 v',m.only (aB w' D 0 v') (by omega),c.put (by omega)⟩
theorem am.ai{x y z}(h:am w g t #[x,y,z]) a b c:am (((w.setCell ⟨g,0,none⟩ a).setCell ⟨g,1,none⟩ b).setCell ⟨g,2,none⟩ c) g t #[a,b,c]:=((h.I 0 a).I 1 b).I 2 c
theorem pf(g:Nat)(o:Option (List UInt8)) w(h:RS w g o):
  Cs 150 #[Pt g] w (G5 w g (o.bind kn)):=by
 have T:=h.lt;obtain⟨H,R0,O0⟩:=gC (h.lay (.cells #[aS,aS,aS] 131)) (am.new w 131 #[aS,aS,aS]) ((cJ (g:=g) (w:=w)).lay (.cells #[aS,aS,aS] 131));clear h;apply cI;go_in;go_wp2_with fail;refine(yp g o _ H).mono ?_;rintro e w1 ⟨I,ha,vb,vc,rfl,t,z,p,m⟩;obtain⟨k1,k2⟩:=Bv ha;obtain⟨⟨lb,lc⟩,L⟩:∃x,(I.map Prod.fst).getD ([],[])=x:=⟨_,rfl⟩;obtain⟨o1,s⟩:=nx (I.map Prod.snd);rw[L]at t z k1 k2;rw[s]at p;dsimp only at t z k1 k2;have HQ:Hid (o1≠none->o.bind kn=(o1.bind (eh jh 1000)).map fun y=>((y.1,(lb,lc)),y.2)):=aH (fun C=>by
  rcases ha with rfl|rfl
  ·exact absurd s.symm C
  ·cases o with
   |none=>exact absurd s.symm C
   |some l=>
    simp only[zI]at s L ⊢;unfold kn;cases hp:js l with
    |none=>rw[hp]at s;exact absurd s.symm C
    |some x=>rw[hp]at s L;simp at s L;subst s;simp[L])
 obtain⟨G,c1,rfl⟩:=b8 t.rw;obtain⟨J,c2,rfl⟩:=b8 z.rw;have A:w.heap.size < w1.heap.size:=by have:=m.size;simp at this;omega
 have S1:Hid (rL g w (w1.alloc (.cells #[aS,.slice G lb.length c1,.slice J lc.length c2] 131)) w1.heap.size (aS) (.slice G lb.length c1) (.slice J lc.length c2) [] lb lc):=
  aH ⟨aK.nil _ _,(t.mono (base':=w.heap.size) (by simp)).grown (qN w1 _ none) (fun k e=>by cases e),(z.mono (base':=w.heap.size) (by simp)).grown (qN w1 _ none) (fun k e=>by cases e),
   am.new _ _ _,(R0.only m (by omega)).alloc _,(aA O0 m).lay _⟩
 obtain⟨H1,K1⟩:=gB (p.lay (.cells #[aS,.slice G lb.length c1,.slice J lc.length c2] 131)) (zB k1 k2);clear t z p m H R0 O0 L s ha k1 k2;go_wp2_with fail;obtain⟨D,hD⟩:=nx w1.heap.size;rw[hD]at S1 A ⊢;clear hD;generalize w1.alloc (.cells #[aS,.slice G lb.length c1,.slice J lc.length c2] 131)=w2 at*;refine(dy g 1000 o1 _ H1 (by decide)).mono ?_;rintro e w3 ⟨rfl,t,z⟩;obtain⟨N,hN⟩:=nx (((o1.bind (bk 1000)).map Prod.fst).getD 0);obtain⟨o2,hc⟩:=nx ((o1.bind (bk 1000)).map Prod.snd);have hw:N<=1000:=by
  rw[<-hN];cases o1 with
  |none=>simp
  |some l=>cases hp:bk 1000 l with
   |none=>simp[hp]
   |some x=>simp[hp];exact(cO hp).1
 have HW:Hid (o1.bind (eh jh 1000)=o2.bind (cK jh N)/\(o2=none->N=0)):=aH (by
  rw[<-hN,<-hc];cases o1 with
  |none=>exact⟨rfl,fun _=>rfl⟩
  |some l=>
   simp only[zI];unfold eh;cases bk 1000 l with
   |none=>exact⟨rfl,fun _=>rfl⟩
   |some x=>exact⟨rfl,fun h=>by simp at h⟩)
 rw[hN];rw[hc]at t;obtain⟨H2,S2⟩:=gB t (S1.go T A z);clear t z hN hc H1 S1;go_wp2_with fail;go_loopg[10] N (fun gn v10 wr=>∃(i:Nat) (done:List Mg) (v:Value) (R:Option (List UInt8)),i<=N/\gn=N - i/\v10=I6 i/\done.length=i/\rL g w wr D v (.slice G lb.length c1) (.slice J lc.length c2) done lb lc/\RS wr g R/\
  o1.bind (eh jh 1000)=(R.bind (cK jh (N - i))).map fun y=>(done++y.1,y.2))
 case atStart=>
  refine⟨0,[],_,o2,by omega,rfl,rfl,rfl,S2,H2,?_⟩;rw[HW.1];simp
 case round=>
  obtain⟨i,done,v,R,hi,rfl,rfl,hl,S,hn,he⟩:=hrel;obtain⟨M,T2,T4,T6⟩:=gD S hn he hl;clear S hn he hl;by_cases hlt:i < N
  ·have d1:decide ((i:Int) < (N:Int))=true:=by simp;omega
   have hh:=aH hlt;go_wp2_with fail;refine(kY g R _ T2).mono ?_;rintro e w3 ⟨rfl,p,m⟩;obtain⟨d,hd⟩:=nx (((R.bind dC).map Prod.fst).getD ⟨0,0⟩);obtain⟨oa,a⟩:=nx ((R.bind dC).map Prod.snd);rw[hd];rw[a]at p;obtain⟨S3,G1,B3,H3,O3⟩:=gE (M.go T A m) (gm a hd) (am.new w3 44 #[I6 d.nd,I6 d.n,Se,Se,I6 0]) (p.lay (.cells #[I6 d.nd,I6 d.n,Se,Se,I6 0] 44)) ((cJ (g:=g) (w:=w3)).lay (.cells #[I6 d.nd,I6 d.n,Se,Se,I6 0] 44));have hx:g < w3.heap.size:=by have:=S3.only.size;omega
   clear p m hd a M T2;go_wp2_with fail;refine(l4 g 1000 oa _ H3 (by decide)).mono ?_;rintro e w4 ⟨rfl,p,m⟩;obtain⟨q,hd⟩:=nx (((oa.bind (du 1000)).map Prod.fst).getD []);obtain⟨ob,a⟩:=nx ((oa.bind (du 1000)).map Prod.snd);rw[hd];rw[a]at p;have G2:=aH (gm a hd);have B:=B3.only m (by omega);have hf:=fun j=>am.frozen B j;obtain⟨x0,x1,x2,x3,x4⟩:=am.ab B;obtain⟨B4,H4,O4⟩:=gC (show am (w4.setCell ⟨w3.heap.size,2,none⟩ (.string (aF q))) w3.heap.size 44 #[I6 d.nd,I6 d.n,.string (aF q),Se,I6 0]from B.I 2 _) (p.put (k:=w3.heap.size) (i:=2) (u:=.string (aF q)) (by omega)) ((aA O3 m).put (k:=w3.heap.size) (i:=2) (u:=.string (aF q)) nR);clear p m hd a B3 H3 O3 B;go_wp2_with fail;clear x0 x1 x2 x3 x4 hf;generalize w4.setCell ⟨w3.heap.size,2,none⟩ (.string (aF q))=w4 at*;refine(l4 g 1000 ob _ H4 (by decide)).mono ?_;rintro e w5 ⟨rfl,p,m⟩;obtain⟨b,hd⟩:=nx (((ob.bind (du 1000)).map Prod.fst).getD []);obtain⟨oc,a⟩:=nx ((ob.bind (du 1000)).map Prod.snd);rw[hd];rw[a]at p;have G3:=aH (gm a hd);have B:=B4.only m (by omega);have hf:=fun j=>am.frozen B j;obtain⟨x0,x1,x2,x3,x4⟩:=am.ab B;obtain⟨B5,H5,O5⟩:=gC (show am (w5.setCell ⟨w3.heap.size,3,none⟩ (.string (aF b))) w3.heap.size 44 #[I6 d.nd,I6 d.n,.string (aF q),.string (aF b),I6 0]from B.I 3 _) (p.put (k:=w3.heap.size) (i:=3) (u:=.string (aF b)) (by omega)) ((aA O4 m).put (k:=w3.heap.size) (i:=3) (u:=.string (aF b)) nR)
   clear p m hd a B4 H4 O4 B;go_wp2_with fail;clear x0 x1 x2 x3 x4 hf;generalize w5.setCell ⟨w3.heap.size,3,none⟩ (.string (aF b))=w5 at*;refine(dy g 1048576 oc _ H5 (by decide)).mono ?_;rintro e w6 ⟨rfl,p,m⟩;obtain⟨c,hd⟩:=nx (((oc.bind (bk 1048576)).map Prod.fst).getD 0);obtain⟨oe,a⟩:=nx ((oc.bind (bk 1048576)).map Prod.snd);rw[hd];rw[a]at p;have G4:=aH (gm a hd);have B:=B5.only m (by omega);have hf:=fun j=>am.frozen B j;obtain⟨B6,H6,O6⟩:=gC (show am (w6.setCell ⟨w3.heap.size,4,none⟩ (I6 c)) w3.heap.size 44 #[I6 d.nd,I6 d.n,.string (aF q),.string (aF b),I6 c]from B.I 4 _) (p.put (k:=w3.heap.size) (i:=4) (u:=I6 c) (by omega)) ((aA O5 m).put (k:=w3.heap.size) (i:=4) (u:=I6 c) nR);obtain⟨x0,x1,x2,x3,x4⟩:=am.ab B;obtain⟨y0,y1,y2⟩:=am.three (S3.go T A (aA O5 m)).at_;have C:¬D=w3.heap.size:=by have:=S3.at_.lt;omega
   clear p m hd a B5 H5 O5 B;obtain⟨W,hW⟩:=nx (w6.setCell ⟨w3.heap.size,4,none⟩ (I6 c));have hs:=aH hW;rw[hW]at B6 H6 O6;have S6:=aH (S3.go T A O6);have hq:w.heap.size<=W.heap.size:=S6.only.size;have hj:(done.length+1)*aU.bytes<=140737488355328:=by have:=T6.out;show(done.length+1)*56<=_;omega
   have hr:done.length < 1000000000000000000:=by have:=T6.out;omega
   have C1:=aH S6.own;have ht:Hid (w6.heap.size=W.heap.size):=aH (by rw[<-hW];simp);clear hW S3;have S:=aH S6.at_;go_wp2_with (at_builtin;simp only[hs.out,ht.out];refine b5 aU rfl (.tmp 25) (.tmp 27) rfl C1 hq ⟨d,q,b,c⟩ rfl rfl hj hr ?_;intro v' w7 V F;obtain⟨A',c',rfl⟩:=b8 V.rw;have U:=S.grown F (C1.ne S (by decide));have hu:=fun j=>am.frozen U j;obtain⟨z0,z1,z2⟩:=am.three U);obtain⟨f,O⟩:=gB (S6.app A V F) ((H6.only F (fun e=>by have:=(S6.own.lt g e.symm).1;omega)).put (k:=D) (i:=0) (u:=.slice A' (done++[(⟨d,q,b,c⟩:Mg)]).length c') (by omega));simp only[zC,zQ,qI,zR]at f O;clear V F U hu z0 z1 z2 x0 x1 x2 x3 x4 y0 y1 y2 hf hq hj hr;generalize w7.setCell ⟨D,0,none⟩ (.slice A' (done.length+1) c')=w8 at*;refine(er g oe _ O).mono ?_;rintro e w9 ⟨rfl,rfl⟩;have hk:=fun j=>am.frozen f.res j;obtain⟨z0,z1,z2⟩:=am.three f.res;cases oe with
   |none=>
    go_wp2_with fail;obtain⟨X,Y⟩:=gB (((O.put (k:=w.heap.size) (i:=0) (u:=aS) (by omega)).put (k:=w.heap.size) (i:=1) (u:=aS) (by omega)).put (k:=w.heap.size) (i:=2) (u:=aS) (by omega)) (((f.only.put (k:=w.heap.size) (i:=0) (u:=aS) nR).put (k:=w.heap.size) (i:=1) (u:=aS) nR).put (k:=w.heap.size) (i:=2) (u:=aS) nR);obtain⟨Z,I,r2⟩:=am.three (f.res.ai (aS) (aS) (aS));refine bodyPost_ret (v:=.agg #[aS,aS,aS]) (by simp[results,results150,go_sem,Z,I,r2]) rfl ?_;exact⟨none,.inl rfl,_,_,_,rfl,aK.nil _ _,aK.nil _ _,aK.nil _ _,X,Y⟩
   |some r=>
    go_wp2_with fail;go_roundg (N - (i+1))
    case measure=>have:=hh.out;omega
    case rel=>
     refine⟨i+1,done++[(⟨d,q,b,c⟩:Mg)],_,some r,hh,rfl,by go_num,by simp[T6.out],f,O,?_⟩;have hb:=hh.out;obtain⟨l3,rfl,p4⟩:=G4 r rfl;obtain⟨l2,rfl,p3⟩:=G3 l3 rfl;obtain⟨l1,rfl,p2⟩:=G2 l2 rfl;obtain⟨l0,rfl,p1⟩:=G1 l1 rfl;have hm:jh l0=some (⟨d,q,b,c⟩,r):=by simp[jh,p1,p2,p3,p4]
     rw[T4,show N - i=(N - (i+1))+1 by omega,mw jh (some l0) ⟨d,q,b,c⟩ ⟨d,q,b,c⟩ r _ (by simp[hm]) (by simp[hm])];simp[Option.map_map,Function.comp_def]
  ·obtain rfl:i=N:=by omega
   have d1:decide ((i:Int) < (i:Int))=false:=by simp
   obtain⟨A0,c0,rfl⟩:=b8 M.own.rw;go_wp2_with fail;refine(er g R _ T2).mono ?_;rintro e w5 ⟨rfl,rfl⟩;cases R with
   |none=>
    go_wp2_with fail;refine(fv g _ _ T2).mono ?_;rintro e w6 ⟨rfl,t,z⟩;obtain⟨f,O⟩:=gB (M.go T A z) t;clear t z;have hk:=fun j=>am.frozen f.res j;obtain⟨z0,z1,z2⟩:=am.three f.res;obtain⟨X,Y⟩:=gB (((O.put (k:=w.heap.size) (i:=0) (u:=aS) (by omega)).put (k:=w.heap.size) (i:=1) (u:=aS) (by omega)).put (k:=w.heap.size) (i:=2) (u:=aS) (by omega)) (((f.only.put (k:=w.heap.size) (i:=0) (u:=aS) nR).put (k:=w.heap.size) (i:=1) (u:=aS) nR).put (k:=w.heap.size) (i:=2) (u:=aS) nR);obtain⟨Z,I,r2⟩:=am.three (f.res.ai (aS) (aS) (aS));go_wp2_with fail;refine bodyPost_ret (v:=.agg #[aS,aS,aS]) (by simp[results,results150,go_sem,Z,I,r2]) rfl ?_;exact⟨none,.inl rfl,_,_,_,rfl,aK.nil _ _,aK.nil _ _,aK.nil _ _,X,Y⟩
   |some r=>
    obtain⟨y0,y1,y2⟩:=am.three M.at_;go_wp2_with fail;refine(jt _ _ _ _ done lb lc M.own.rw M.b.rw M.c.rw (by have:=T6.out;omega) (by have:=K1.1;omega) (by have:=K1.2;omega)).mono ?_;rintro e w6 ⟨⟨n,rfl⟩,hb⟩;obtain⟨O,f⟩:=gB (T2.only (aG (g:=w6.heap.size) hb) (by have:=T2.lt;have:=hb.size;simp;omega)) (M.go T A (aG hb));clear hb y0 y1 y2;by_cases hz:n=0
    ·subst hz;obtain⟨y0,y1,y2⟩:=am.three f.at_;have hk:=fun j=>am.frozen f.res j;obtain⟨z0,z1,z2⟩:=am.three f.res;have X:=aH (((O.put (k:=w.heap.size) (i:=0) (u:=.slice A0 done.length c0) (by omega)).put (k:=w.heap.size) (i:=1) (u:=.slice G lb.length c1) (by omega)).put (k:=w.heap.size) (i:=2) (u:=.slice J lc.length c2) (by omega));have P0:=f.res;have P1:=P0.I 0 (.slice A0 done.length c0);have P2:=P1.I 1 (.slice G lb.length c1);have go {α:Type} {E:El α} {v:Value} {l:List α} (ho:aK E w.heap.size w6 v l) (C:E.ty≠131):aK E w.heap.size (((w6.setCell ⟨w.heap.size,0,none⟩ (.slice A0 done.length c0)).setCell ⟨w.heap.size,1,none⟩ (.slice G lb.length c1)).setCell ⟨w.heap.size,2,none⟩ (.slice J lc.length c2)) v l:=
      ((ho.only (aB _ _ 0 _) P0 C).only (aB _ _ 1 _) P1 C).only (aB _ _ 2 _) P2 C
     obtain⟨L0,L1,L2,Y⟩:=gD (go f.own (by decide)) (go f.b (by decide)) (go f.c (by decide)) (((f.only.put (k:=w.heap.size) (i:=0) (u:=.slice A0 done.length c0) nR).put (k:=w.heap.size) (i:=1) (u:=.slice G lb.length c1) nR).put (k:=w.heap.size) (i:=2) (u:=.slice J lc.length c2) nR);obtain⟨Z,I,r2⟩:=am.three (f.res.ai (.slice A0 done.length c0) (.slice G lb.length c1) (.slice J lc.length c2));clear go P0 P1 P2;go_wp2_with fail;refine bodyPost_ret (v:=.agg #[.slice A0 done.length c0,.slice G lb.length c1,.slice J lc.length c2]) (by simp[results,results150,go_sem,Z,I,r2]) rfl ?_;refine⟨some ((done,lb,lc),r),.inr ?_,_,_,_,rfl,L0,L1,L2,X,Y⟩;have hv:=T4.out;rw[Nat.sub_self]at hv;rw[HQ (fun h=>by rw[h]at hv;simp[cK]at hv),hv];simp[cK]
    ·have hy:(n != 0)=true:=by simpa using hz
     clear hz;go_wp2_with fail;refine(fv g _ _ O).mono ?_;rintro e w7 ⟨rfl,t,z⟩;obtain⟨S8,H8⟩:=gB (f.go T A z) t;clear t z;have hk:=fun j=>am.frozen S8.res j;obtain⟨z0,z1,z2⟩:=am.three S8.res;obtain⟨X,Y⟩:=gB (((H8.put (k:=w.heap.size) (i:=0) (u:=aS) (by omega)).put (k:=w.heap.size) (i:=1) (u:=aS) (by omega)).put (k:=w.heap.size) (i:=2) (u:=aS) (by omega)) (((S8.only.put (k:=w.heap.size) (i:=0) (u:=aS) nR).put (k:=w.heap.size) (i:=1) (u:=aS) nR).put (k:=w.heap.size) (i:=2) (u:=aS) nR);obtain⟨Z,I,r2⟩:=am.three (S8.res.ai (aS) (aS) (aS));go_wp2_with fail;refine bodyPost_ret (v:=.agg #[aS,aS,aS]) (by simp[results,results150,go_sem,Z,I,r2]) rfl ?_;exact⟨none,.inl rfl,_,_,_,rfl,aK.nil _ _,aK.nil _ _,aK.nil _ _,X,Y⟩
def Bl(B b:Nat)(l:List UInt8)(w:World):Prop:=Lib.IsBuilder 250 5 B b (Lib.byteCells l) w
theorem Bl.new(w:World):Bl w.heap.size w.heap.size [] (w.alloc (.cells #[.pointer none,aS] 250)):=Lib.fresh_isBuilder _ _ w
theorem Bl.below{b:Nat}{l}(h:Bl B b l w)(c:Below w.heap.size w w'):Bl B b l w':=by
 rcases h with⟨f,v,a,g,i⟩|⟨f,v,a,g,i⟩
 ·exact .inl ⟨f,v,(c.block b (ap a)).trans a,aI g c,i⟩
 ·exact .inr ⟨f,v,(c.block b (ap a)).trans a,aI g c,i⟩
theorem rM(b:Nat)(w:World)(c:Ce w b 0 (Pt b)):
  Cs 247 #[Pt b] w fun e w'=>Rt e (.tuple #[])/\w'=w:=by
 obtain⟨j,a,_⟩:=yS.1 (show(prog.info? 250).map TypeInfo.size=some 2 by kernel_rfl);apply cI;go_in;go_wp2;try rw[Lib.run_neq_ptr_same w _ underlying247 a]
 go_wp2;go_end0;exact⟨rfl,rfl⟩
theorem p7(b:Nat)(w:World)(h:Ce w b 0 (.pointer none))(a:w.shape? b=some (250,2))(g:w.frozen? ⟨b,0,none⟩=false):
  Cs 247 #[Pt b] w fun e w'=>Rt e (.tuple #[])/\w'=w.setCell ⟨b,0,none⟩ (Pt b):=by
 obtain⟨j,c,f⟩:=yS.1 (show(prog.info? 250).map TypeInfo.size=some 2 by kernel_rfl);apply cI;go_in;go_wp2;rw[Lib.run_to_unsafe w ⟨b,0,none⟩ underlying247 underlying395 c (by rw[f];decide) a (Nat.zero_lt_succ 1)];simp only[Result.andThen];rw[Oper.upon_value];go_wp2;rw[run_callFunc_extern func339 (by kernel_rfl) (by kernel_rfl) (by kernel_rfl) (e:=Extern.AbiNoEscape.same) (by kernel_rfl)];rw[Lib.run_noEscape];simp only[Result.andThen];rw[Oper.upon_value];go_wp2;rw[Lib.run_from_unsafe w ⟨b,0,none⟩ underlying395 underlying247 c a (by kernel_rfl)];simp only[Result.andThen];rw[Oper.upon_value];go_wp2;go_end0;exact⟨rfl,rfl⟩
theorem yr(B b:Nat) bs w(h:Lib.IsBuilder 250 5 B b bs w):
  Cs 247 #[Pt b] w fun e w'=>Rt e (.tuple #[])/\(Lib.BuilderAt 250 5 B b (Pt b) bs w'/\Below B w w'):=by
 rcases h with h|h
 ·refine(p7 b w h.cell0 h.shape h.frozen0).mono ?_;rintro e w' ⟨rfl,rfl⟩;exact⟨rfl,h.used _,(Below.refl B w).setCell (p:=⟨b,0,none⟩) h.1 _⟩
 ·refine(rM b w h.cell0).mono ?_;rintro e w' ⟨rfl,rfl⟩;exact⟨rfl,h,Below.refl B w'⟩
theorem mC(B b:Nat)(l s:List UInt8)(w:World)(h:Bl B b l w)(C:l.length+s.length<=140737488355328)(I:B<=w.heap.size):
  Calls Tryz.prog 157 #[.pointer (some ⟨b,0,none⟩),.string (aF s)] w fun e w'=>Rt e (.tuple #[.int .i64 s.length,.nilIface])/\Bl B b (l++s) w'/\Below B w w':=by
 obtain⟨D,hi,n,q,t⟩:=info_parts (P:=Tryz.prog) (e:=5) (z:=.int .u8 0) (size:=1) (bytes:=1) (by kernel_rfl);go_enter Tryz.func157,Tryz.ntmps157;go_wp2_with fail;refine(yr B b _ _ h).mono ?_;rintro e w1 ⟨rfl,F,m⟩;obtain⟨u,v,c,a,x⟩:=F;have L:w1.cell? ⟨b,0,none⟩=some (.pointer (some ⟨b,0,none⟩)):=by rw[Lib.cell_of_heap c];rfl
 have c1:w1.cell? ⟨b,1,none⟩=some v:=by rw[Lib.cell_of_heap c];rfl
 rw[Lib.byteCells_length]at a;go_wp2_with (at_builtin;refine Lib.wpList_append_own_string _ rfl _ _ 248 9 rfl B 5 D Tryz.underlying248 Tryz.underlying9 hi n q t _ _ _ rfl a (aF s) rfl ?c3 ?c4 ?c5 ?_)
 case c3=>unfold maxLen;rw[e0];omega
 case c4=>rw[e0];omega
 case c5=>have:=m.size;omega
 intro v' w2 f i _;have y:=ap c;have j:w2.heap[b]?=some (.cells #[.pointer (some ⟨b,0,none⟩),v] 250 (0,0)):=by
  rw[i.block b y (fun e=>x e.symm)];exact c
 have M:w2.cell? ⟨b,0,none⟩=some (.pointer (some ⟨b,0,none⟩)):=by rw[Lib.cell_of_heap j];rfl
 have N:w2.cell? ⟨b,1,none⟩=some v:=by rw[Lib.cell_of_heap j];rfl
 have O:=Lib.frozen_of_heap j 1;obtain⟨A,n',cap,rfl⟩:∃A n' cap,v'=.slice A n' cap:=by
  rcases f.2 with⟨hv,_⟩|⟨g,cap,J,hv,_⟩
  ·exact⟨_,_,_,hv⟩
  ·exact⟨_,_,_,hv⟩
 go_wp2;go_ret2;refine⟨by simp,?_,?_⟩
 ·refine .inr (Lib.BuilderAt.put (T:=250) (e:=5) u j (bs':=Lib.byteCells (l++s)) ?_ (by decide));have G:Lib.byteCells (l++s)=Lib.byteCells l++Lib.strCells (aF s):=by simp[Lib.byteCells,Lib.strCells,aF]
  have H:(Lib.byteCells (l++s)).length=l.length+(aF s).size:=by rw[e0];simp[Lib.byteCells]
  rw[H,G];exact f
 ·exact(m.grown i (by have:=m.size;omega) (fun k hk=>(a.lt k hk).1)).setCell (p:=⟨b,1,none⟩) u _
theorem mD(B b:Nat) l(w:World)(h:Bl B b l w)(hBw:B<=w.heap.size):
  Cs 161 #[Pt b] w fun e w'=>Rt e (.string (aF l))/\Below B w w':=Tryz.Builder_String_any B b l w h hBw
section
open Go.Sort
variable{P:Program}{ops:Array Oper}{md:Region.Mode}{C:World → Prop}
def mE(P:Program)(md:Region.Mode)(ops:Array Oper)(C:World->Prop)(n:Nat)(L:Array Bool->Act->Prop):Nat->Array Bool->Act->Prop
 |0,listed,a=>L listed a
 |f+1,listed,a=>
  Region.ready md ops listed≠[]/\∀i∈Region.ready md ops listed,i < n/\qOp P ops C i (mE P md ops C n L f (listed.setIfInBounds i true)) a
theorem iJ{Q':Exit->Act->World->Prop}(b:∀listed a w,C w->L listed a->wpAny P md ops Q' g listed a w):
  ∀(f:Nat) (listed:Array Bool) (a:Act) (w:World),C w->mE P md ops C n L f listed a->wpAny P md ops Q' (f+g) listed a w
 |0,listed,a,w,hw,h=>by rw[zR];exact b _ _ _ hw h
 |f+1,listed,a,w,hw,h=>by
  rw[show f+1+g=(f+g)+1 by omega]
  exact⟨fun h0=>absurd h0 h.1,fun i hi=>wpOp_of_qOp hw (fun a' w' hw' h'=>iJ b f _ a' w' hw' h') (h.2 i hi).2⟩
theorem p8{u:Oper}{v}(hi:ops[i]?=some u)(x:∀(j:Nat) (o:Oper) cs b,ops[j]?=some o->o.op≠.select cs b)
  (M:Region.sinkB md ops n=true) (N:Region.chainB md ops n=true) (O:n < ops.size) (G:i < n)
  (B:∀c a,L c a->∀j∈Region.ready md ops c,n<=j):
  ∀(f:Nat) (c:Array Bool) (a:Act),HeadInv md ops n c->
   (∀j p,ops[j]?=some p->j≠i->c.getD j true=false->(∀e∈p.after,Region.binds md e=true->e.on≠i)->u.apart ops p=true)->
   i∈Region.ready md ops c->YieldsIn P ops C u v a->
   mE P md ops C n L f (c.setIfInBounds i true) (a.put u.dst v)->mE P md ops C n L (f+1) c a:=by
 intro f;induction f with
 |zero=>
  intro c a q _ m D H;have g:=(mem_ready.1 m).1;refine⟨fun h=>(by rw[h]at m;cases m),fun j hj=>?_⟩;have s:j < n:=by
   rcases jH j n with h|h
   ·exact h
   ·exact absurd hj (tail_waits M N O q _ i rfl G g j h)
  refine⟨s,?_⟩;by_cases hji:j=i
  ·subst hji;exact D.qOp hi H
  ·have:=B _ _ H j (ready_mono hj hji);omega
 |succ f ih=>
  intro c a q t m D H;have g:=(mem_ready.1 m).1;refine⟨fun h=>(by rw[h]at m;cases m),fun j hj=>?_⟩;have s:j < n:=by
   rcases jH j n with h|h
   ·exact h
   ·exact absurd hj (tail_waits M N O q _ i rfl G g j h)
  refine⟨s,?_⟩;by_cases hji:j=i
  ·subst hji;exact D.qOp hi H
  ·have F:=(H.2 j (ready_mono hj hji)).2;obtain⟨y,p,z,I⟩:=mem_ready.1 hj;have J:∀e∈p.after,Region.binds md e=true->e.on≠i:=fun e he hb heq=>by
    have F:=I e he hb;rw[heq,getD_both g]at F;cases F
   have R:=qOp_put z (t j p z hji y J) (fun cs b=>x i u cs b hi) (fun cs b=>x j p cs b z) D F;have A:∀k ok,ops[k]?=some ok->k≠i->(c.setIfInBounds j true).getD k true=false->
     (∀e∈ok.after,Region.binds md e=true->e.on≠i)->u.apart ops ok=true:=fun k ok hk hki g hno=>by
    refine t k ok hk hki ?_ hno;by_cases hjk:j=k
    ·subst hjk;exact y
    ·rw[getD_set_ne true hjk]at g;exact g
   refine qOp_mono (fun a' h3=>ih (c.setIfInBounds j true) a' (q.set hj s) A (ready_mono m (Ne.symm hji)) h3.1 ?_) R;rw[Array.setIfInBounds_comm _ _ hji];exact h3.2
theorem mF{m:Act->Prop}(b:Region.noSelect ops=true)(p:Region.sinkB md ops n=true)(q:Region.chainB md ops n=true)(s:n < ops.size):
  ∀(l:List Oper) (k:Nat) (listed:Array Bool) (a:Act),(∀j,j < l.length->l[j]?=ops[k+j]?)->k+l.length=n->HeadInv md ops n listed->
  Region.lexHead md ops g l.length k listed=true->wpQuiet P ops C m l a->
  mE P md ops C n (fun listed' a'=>Region.seqB md ops g n listed'=true/\m a') l.length listed a
 |[],k,listed,a,_,hk,_,hB,h=>by
  have:k=n:=by simpa using hk
  subst this
  exact⟨by simpa[Region.lexHead]using hB,h⟩
 |o::l,k,listed,a,hl,hk,inv,hB,h=>by
  have c:ops[k]?=some o:=by simpa using(hl 0 (by simp)).symm
  simp only[zQ,Region.lexHead,yE]at hB
  obtain⟨⟨x,hf⟩,t⟩:=hB
  have f:k < n:=by simp only[zQ]at hk;omega
  have i:k∈Region.ready md ops listed:=by simpa using x
  have u:qOp P ops C k (wpQuiet P ops C m l) a:=by unfold qOp;simp only[c];exact h
  obtain⟨v,y,hK⟩:=yieldsIn_of_qOp c u
  exact p8 c (Region.noSelect_spec b) p q s f (fun listed' a' hL=>seqB_ready hL.1) l.length listed a inv (Region.free_spec c hf) i y
   (mF b p q s l (k+1) _ _ (fun j hj=>by have:=hl (j+1) (by simp;omega);simpa[Nat.add_assoc,Nat.add_comm 1 j]using this) (by simp only[zQ]at hk;omega) (inv.set i f) t hK)
theorem oO{l:List Oper}(n:Nat)(s:P.follows .mixedOrders=true)(m:Region.lexTailB .any l.toArray n=true)(u:C w.drew)
  (h:wpQuiet P l.toArray C (fun a'=>∀w',C w'->wpList P l.toArray Q (l.drop n) a' w') (l.take n) a):(Code.region id l.toArray true).wp P Q a w:=by
 simp only[Region.lexTailB,yE,decide_eq_true_eq]at m;obtain⟨⟨⟨⟨f,p⟩,x⟩,y⟩,i⟩:=m;have z:n < l.length:=by simpa using p
 have b:(l.take n).length=n:=by simp;omega
 have c:(l.drop n).length=l.toArray.size - n:=by simp
 have k:HeadInv .any l.toArray n (Array.replicate l.toArray.size false):=
  ⟨by simp,fun j oj _ hl=>(by rw[getD_replicate_false]at hl;cases hl),fun t _ ht=>getD_in (by simpa using ht) (getD_replicate_false _ _)⟩
 have H:=mF (md:=.any) (g:=l.toArray.size - n) f x y p (l.take n) 0 _ a (fun j hj=>by
  have q:j < n:=by rw[b]at hj;exact hj
  simp[q]) (by simpa using b) k (by rw[b];exact i) h
 refine wp_region_any s ?_;have:=iJ (C:=C) (Q':=Q) (g:=l.toArray.size - n) (fun listed a' w' hw' hL=>by
  have:=wpAny_of_seq (md:=.any) (Q':=Q) (l.drop n) n listed a' w' (fun j=>by simp[List.getElem?_drop]) (by rw[c];exact hL.1) (hL.2 w' hw');rwa[c]at this) _ _ _ w.drew u H
 rw[b,show n+(l.toArray.size - n)=l.toArray.size by omega]at this;exact this
theorem ej{w}{l:List Oper}(n:Nat)(b:P.follows .mixedOrders=true)(c:Region.lexTailB .any l.toArray n=true)
  (h:wpQuiet P l.toArray (fun w'=>∃p:Regrown,w'=grow (redrawn w p.d) p.os) (fun a'=>∀w',(∃p:Regrown,w'=grow (redrawn w p.d) p.os)->wpList P l.toArray Q (l.drop n) a' w') (l.take n) a):(Code.region id l.toArray true).wp P Q a w:=
 oO (C:=fun w'=>∃p:Regrown,w'=grow (redrawn w p.d) p.os) n b c ⟨⟨w.drawn+1,#[]⟩,by rw[grow_empty];rfl⟩ h
end
def gp(m:Mg):List UInt8:=dB m.d++(cB m.q++(cB m.b++bG m.c.toNat))
def c6(ls:List Mg)(b cl:List bC):List UInt8:=lX b cl++bZ gp ls
def tR(m:Mg):Prop:=eL m.d/\m.q.length<=1000/\m.b.length<=1000/\m.c < 9223372036854775808
theorem gq(l:List UInt8)(h:l.length<=100000000000000):(cB l).length<=10+l.length:=by
 have:=(bi (n:=l.length) (by omega)).2;unfold cB;rw[zC];omega
theorem mG m(h:tR m):(gp m).length<=3000:=by
 obtain⟨a,b,c,f⟩:=h;have a1:=fw m.d a.1 a.2;have a2:=gq m.q (by omega);have a3:=gq m.b (by omega);have a4:=(bi (n:=m.c.toNat) (by omega)).2;unfold gp;simp only[zC];omega
theorem dz(f:α->List UInt8)(n:Nat)(l:List α)(h:∀a∈l,(f a).length<=n):(bW f l).length<=n*l.length:=by
 induction l with
 |nil=>simp[bW]
 |cons a l ih=>
  have:=ih fun d h'=>h d (qF _ h');have b:=h a jO;unfold bW at*;rw[zX,zC,zQ,Nat.mul_succ];omega
theorem ju(f:α->List UInt8)(l:List α)(k:Nat)(h:k < l.length):bW f (l.take (k+1))=bW f (l.take k)++f l[k]:=by unfold bW;rw[qE h,List.flatMap_append];simp
theorem fx(w:World) vl vb vc(ls:List Mg)(b cl:List bC)(h0:Rw aU w vl ls)(h:Rw aJ w vb b)(h2:Rw aJ w vc cl)(hll:ls.length<=10000000)(hl:b.length<=10000000)(hl2:cl.length<=10000000)
  (hm:∀m∈ls,tR m) (hd:∀d∈b,eL d) (hd2:∀d∈cl,eL d):
  Cs 81 #[.agg #[vl,vb,vc]] w fun e w'=>Rt e (.string (aF (c6 ls b cl)))/\Below w.heap.size w w':=by
 obtain⟨X,N,rfl⟩:=b8 h0;obtain⟨A,c,rfl⟩:=b8 h;obtain⟨Y,c2,rfl⟩:=b8 h2;have H0:=aH h0;obtain⟨W0,B⟩:=nx ((w.alloc (.cells #[.slice X ls.length N,.slice A b.length c,.slice Y cl.length c2] 131)).alloc (.cells #[.pointer none,aS] 250));have I:Bw w W0:=B▸(ba _ _).alloc (by simp) _;have J:=(am.new w 131 #[.slice X ls.length N,.slice A b.length c,.slice Y cl.length c2]).alloc (.cells #[.pointer none,aS] 250);have L:=Bl.new (w.alloc (.cells #[.slice X ls.length N,.slice A b.length c,.slice Y cl.length c2] 131));rw[qA]at L;have ho:w.heap.size+1<=W0.heap.size:=by rw[<-B];simp
 rw[B]at J L;obtain⟨Z,x1,x2⟩:=am.three J;have k1:=kl b (by omega) hd;have k2:=kl cl (by omega) hd2;have kc:(lX b cl).length<=500000000:=by unfold lX;rw[zC];omega
 have kn:=(bi (n:=ls.length) (by omega)).2;obtain⟨C1,C2⟩:=gB (fun(d:Nat) (os:Array Obj)=>tQ _ _ _ b cl ((h.below I).below (below_regrown W0 d os)) ((h2.below I).below (below_regrown W0 d os)) (by omega) (by omega) hd hd2) (fun W=>cQ ls.length W (by omega));have HE:Hid (c6 ls b cl=lX b cl++bG ls.length++bW gp ls):=aH (by unfold c6 bZ;simp);rw[jS]at C2;obtain⟨z,HD,O,S,HM⟩:=gE I J L B hm;clear I J B L h h2 h0 hd hd2 k1 k2 hm;generalize lX b cl=s1 at C1 HE kc;generalize bG ls.length=s2 at C2 HE kn;have hn:=fun W=>bJ s1 s2 (by omega) W;have r0:=fun d os=>cell_regrown Z d os;have r1:=fun d os=>cell_regrown x1 d os;have r2:=fun d os=>cell_regrown x2 d os;clear Z x1 x2;apply cI;go_in;go_wp2_with fail;simp only[S.out];refine ej 8 (by kernel_rfl) (by kernel_rfl) ?_;simp only[zF,zN,zG,zO];repeat(go_big_quiet_step (first|(go_at_call 158;with_reducible exact Calls.regrown_of (C1.out _ _))|(go_at_call 106;with_reducible exact Calls.regrown_of (C2.out _))|fail))
 refine wpQuiet_nil ?_;intro w5 j;obtain⟨⟨C,q⟩,j⟩:=j;obtain⟨x,T,y⟩:=gC (z.trans ((below_regrown W0 C q).mono z.size)) (HD.below (below_regrown W0 C q)) (O.below (below_regrown W0 C q));have u:=zD ho (below_regrown W0 C q).size;rw[<-j]at x T y u;clear j z HD O r0 r1 r2;go_wp2_with fail;refine(mC (w.heap.size+1) (w.heap.size+1) [] (s1++s2) w5 y (by simp;omega) u).mono ?_;rintro e w6 ⟨rfl,i,p⟩;have D:=aH (x.trans (p.mono (xD _)));have hp:Hid (am w6 w.heap.size 131 #[.slice X ls.length N,.slice A b.length c,.slice Y cl.length c2]):=aH ((p.block _ (Nat.lt_succ_self _)).trans T);have U:w.heap.size+1<=w6.heap.size:=zD u p.size;obtain⟨Z,x1,x2⟩:=am.three hp;rw[qY]at i;have M:=aH i;have ks:(s1++s2).length<=500000010:=by simp;omega
 generalize s1++s2=s0 at M HE ks;clear p i x T y C1 C2 hn kc kn;go_wp2_with fail;clear Z x1 x2;go_loopg[18] ls.length (fun gn v wr=>∃k:Nat,k<=ls.length/\gn=ls.length - k/\v=I6 k/\Bw w wr/\w.heap.size+1<=wr.heap.size/\Bl (w.heap.size+1) (w.heap.size+1) (s0++bW gp (ls.take k)) wr)
 case atStart=>exact⟨0,by omega,rfl,rfl,D,U,by simpa[bW]using M.out⟩
 case round=>
  obtain⟨k,hk,rfl,rfl,p,hc,i⟩:=hrel;obtain⟨z,O⟩:=gB p i;clear p i;by_cases hlt:k < ls.length
  ·have he:=aH hlt;have d0:decide ((k:Int) < (ls.length:Int))=true:=by simp;omega
   obtain⟨g,o,rfl,f⟩:=(H0.below z).at_ (zA hlt);have N:Ce wr g (o+k*5) (I6 ls[k].d.nd):=f 0 _ rfl;have c1:Ce wr g (o+k*5+1) (I6 ls[k].d.n):=f 1 _ rfl;have c2:Ce wr g (o+k*5+2) (.string (aF ls[k].q)):=f 2 _ rfl;have c3:Ce wr g (o+k*5+3) (.string (aF ls[k].b)):=f 3 _ rfl;have c4:Ce wr g (o+k*5+4) (I6 ls[k].c):=f 4 _ rfl;clear f;have F:=am.new wr 44 (Bt ls[k]).toArray;have G:=ba wr (.cells (Bt ls[k]).toArray 44);have s:=HM _ (zY hlt);have H:=aH (ju gp ls k hlt);have HK:Hid ((bW gp (ls.take k)).length<=30000000000):=aH (by
    have h1:=dz gp 3000 (ls.take k) (fun a ha=>mG a (HM a (qZ ha)));have h2:(ls.take k).length<=10000000:=by simp;omega
    omega)
   obtain⟨W,V⟩:=nx (wr.alloc (.cells (Bt ls[k]).toArray 44));have S:=aH V;rw[V]at F G;have HZ:=aH (zD hc G.size);have hf:=z.trans (G.mono z.size);have hg:=O.below G;clear V G;generalize ls[k]=t at N c1 c2 c3 c4 F S s H;unfold Bt at F S;obtain⟨e0,e1,e2,e3,e4⟩:=am.ab F;obtain⟨hh,hq,C4,C5,C6,C7⟩:=gF hf hg (fun W=>gU t.d W s.1.1 s.1.2) (fun W=>iF t.q W (by have:=s.2.1;unfold yj;omega)) (fun W=>iF t.b W (by have:=s.2.2.1;unfold yj;omega)) (fun W=>cQ t.c W s.2.2.2);have R:=mG t s;have hj:Hid (gp t=dB t.d++(cB t.q++(cB t.b++bG t.c.toNat))):=aH rfl;rw[hj]at R H;generalize dB t.d=u1 at C4 H R;generalize cB t.q=u2 at C5 H R;generalize cB t.b=u3 at C6 H R;generalize bG t.c.toNat=u4 at C7 H R;simp only[zC]at R;clear hj;have C8:=aH (fun(W:World) (V:Bl (w.heap.size+1) (w.heap.size+1) (s0++bW gp (ls.take k)) W) (hz:w.heap.size+1<=W.heap.size)=>mC (w.heap.size+1) (w.heap.size+1) (s0++bW gp (ls.take k)) (u1++(u2++(u3++u4))) W V (by have:=HK.out;simp only[zC];omega) hz);have hr:=fun W=>bJ u1 u2 (by omega) W;have hs:∀W,(Op.stringOp .add (aF (u1++u2)) (aF u3)).run prog W=.ok (.string (aF (u1++(u2++u3)))) W:=fun W=>by rw[<-zH];exact bJ (u1++u2) u3 (by simp;omega) W
   have ht:∀W,(Op.stringOp .add (aF (u1++(u2++u3))) (aF u4)).run prog W=.ok (.string (aF (u1++(u2++(u3++u4))))) W:=fun W=>by have:=bJ (u1++(u2++u3)) u4 (by simp;omega) W;simpa only[zH]using this
   have r0:=fun d os=>cell_regrown e0 d os;have r1:=fun d os=>cell_regrown e1 d os;have r2:=fun d os=>cell_regrown e2 d os;have r3:=fun d os=>cell_regrown e3 d os;have r4:=fun d os=>cell_regrown e4 d os;clear F hf hg e0 e1 e2 e3 e4 z O s;go_wp2_with fail;simp only[S.out];refine ej 15 (by kernel_rfl) (by kernel_rfl) ?_;simp only[zF,zN,zG,zO];repeat(go_big_quiet_step (first|(go_at_call 159;with_reducible exact Calls.regrown_of (C4.out _))|(go_at_call 160;with_reducible exact Calls.regrown_of (C5.out _))|(go_at_call 160;with_reducible exact Calls.regrown_of (C6.out _))|(go_at_call 106;with_reducible exact Calls.regrown_of (C7.out _))|fail))
   refine wpQuiet_nil ?_;intro w5 j;obtain⟨⟨C,q⟩,j⟩:=j;obtain⟨x,y⟩:=gB (hh.trans ((below_regrown W C q).mono hh.size)) (hq.below (below_regrown W C q));have u:=(below_regrown W C q).size;rw[<-j]at x y u;clear j r0 r1 r2 r3 r4;go_wp2_with fail;refine(C8 w5 y (zD (HZ) u)).mono ?_;rintro e w6 ⟨rfl,i,p⟩;rw[zH,<-H]at i;have U:=zD (zD HZ u) p.size;obtain⟨D,M⟩:=gB (x.trans (p.mono (xD _))) i;clear p i;go_wp2_with fail;go_roundg (ls.length - (k+1))
   case measure=>have:=he.out;omega
   case rel=>exact⟨k+1,he,rfl,by go_num,D,U,M⟩
  ·obtain rfl:k=ls.length:=by omega
   have d0:decide ((ls.length:Int) < (ls.length:Int))=false:=by simp
   go_wp2_with fail;refine(mD (w.heap.size+1) (w.heap.size+1) _ _ O hc).mono ?_;rintro e w6 ⟨rfl,p⟩;have D:=aH (z.trans (p.mono (xD _)));clear p;go_wp2_with fail;go_ret;rw[HE];try rw[jJ]
   exact⟨rfl,D⟩
def bO(p:α->Bool):List α->Nat
 |[]=>0
 |t::l=>if p t then 0 else bO p l+1
theorem xB(p:α->Bool)(l:List α):bO p l<=l.length:=by
 induction l with
 |nil=>exact nR
 |cons t l ih=>unfold bO;split<;>simp;omega
theorem gn(p:α->Bool)(l:List α)(k:Nat)(a:k < l.length):bO p (l.drop k)=if p l[k]then 0 else bO p (l.drop (k+1))+1:=by
 rw[wA a];rfl
def ET(w0:World)(K:Nat)(a:Array Value)(p:Mg->Bool):Prop:=∀t W,Below w0.heap.size w0 W->Cs K (#[yq t]++a) W fun e W'=>Rt e (.bool (p t))/\Below W.heap.size W W'
theorem mH{A}{c:Nat}{l}(h:Rw aU w (.slice A n c) l){t:Mg}(b:l[k]?=some t):
  ∃g o,A=some ⟨g,o,none⟩/\Ce w g (o+k*5) (I6 t.d.nd)/\Ce w g (o+k*5+1) (I6 t.d.n)/\Ce w g (o+k*5+2) (.string (aF t.q))/\
   Ce w g (o+k*5+3) (.string (aF t.b))/\Ce w g (o+k*5+4) (I6 t.c):=by
 obtain⟨g,o,rfl,a⟩:=h.at_ b;exact⟨g,o,rfl,a 0 _ rfl,a 1 _ rfl,a 2 _ rfl,a 3 _ rfl,a 4 _ rfl⟩
theorem jv(K:Nat) caps(p:Mg->Bool) A(c:Nat)(l:List Mg)(w:World)(hr:Rw aU w (.slice A l.length c) l)(hn:l.length<=9223372036854775807)
  (hent:∀args W,(callFunc K args).run prog W=.ok (.enter K args) W) (b:ET w K caps p):
  Cs 275 #[.slice A l.length c,.func (.func K) #[] caps] w fun e w'=>Rt e (I6 (ey (bO p l) l.length))/\Below w.heap.size w w':=by
 obtain⟨q,s⟩:=gB hr b;apply cI;go_in;go_wp2;go_loopw[8] (fun i wr=>∃k:Nat,k<=l.length/\i=I6 k/\bO p l=k+bO p (l.drop k)/\Bw w wr) (fun i _=>l.length - (intOf i).toNat)
 case atStart=>exact⟨0,zS _,rfl,by simp,bR _⟩
 case round=>
  obtain⟨k,x,rfl,b,j⟩:=hrel;obtain⟨f,B⟩:=gB b j;by_cases hlt:k < l.length
  ·obtain⟨g,o,rfl,u,c1,c2,c3,c4⟩:=mH (q.below B) (zA hlt);have h:=aH (gn p l k hlt);generalize hz:l[k]=t at u c1 c2 c3 c4 h;go_wp2_with fail;refine(s t _ B).mono ?_;rintro e w2 ⟨rfl,m⟩;have n:=aH (B.trans (m.mono B.size));cases he:p t
   ·have a:Hid (bO p l=(k+1)+bO p (l.drop (k+1))):=aH (by rw[f,h,he];simp;omega);go_wp2;go_roundw
    case rel=>exact⟨k+1,by omega,by go_num,a,n⟩
    case measure=>simp[intOf];omega
   ·have a:Hid (ey (bO p l) l.length=k):=aH (by rw[f,h,he];simp[ey,hlt]);go_wp2;go_ret;exact⟨by rw[a];rfl,n⟩
  ·have a:Hid (ey (bO p l) l.length= -1):=aH (by rw[f,qH (by omega)];simp[ey,bO];omega);go_wp2;go_ret;exact⟨by rw[a];rfl,B⟩
theorem tS(b:Nat)(t:Mg) d(w:World)(a:ei w b d):
  Cs 340 #[yq t,Pt b] w fun e w'=>Rt e (.bool (!p4 t.d d))/\Below w.heap.size w w':=by
 have g:=fun o=>(a.alloc o).cells.1;have f:=fun o=>(a.alloc o).cells.2;have c:=fun o=>aH (ba w o);apply cI;go_in;go_wp2_with fail;refine(fu t.d d _).mono ?_;rintro e w' ⟨rfl,a⟩;have B:=aH ((c _).out.trans (a.mono (by simp)));go_wp2;go_ret;exact⟨rfl,B⟩
def gr(l:List Mg)(d:bC):Nat:=bO (fun t=>!p4 t.d d) l
def tz(l:List Mg)(d:bC):Bool:=match l[gr l d]? with|some t=>lW t.d d|none=>false
theorem pg A(c:Nat)(l:List Mg)(d:bC)(w:World)(hr:Rw aU w (.slice A l.length c) l)(hn:l.length<=9223372036854775807):
  Cs 252 #[.slice A l.length c,.agg #[I6 d.nd,I6 d.n]] w fun e w'=>Rt e (.tuple #[I6 (gr l d),.bool (tz l d)])/\Below w.heap.size w w':=by
 have j:=aH hr;apply cI;go_in;go_wp2_with fail;refine(jv 340 #[Pt w.heap.size] (fun t=>!p4 t.d d) A c l _ (j.below (ba _ _)) hn (aQ func340 (by kernel_rfl) (by kernel_rfl)) (fun t W hW=>tS _ t d W ((ei.new w d).below hW))).mono ?_;rintro e w' ⟨rfl,m⟩;have p:Bw w w':=(ba _ _).trans (m.mono (by simp));obtain⟨q,s⟩:=((ei.new w d).below m).cells;have B:=aH p;have u:gr l d<=l.length:=xB _ l;rw[show bO (fun t=>!p4 t.d d) l=gr l d from rfl];rcases jH (gr l d) l.length with h|h
 ·obtain⟨g,o,rfl,n,c1,c2,c3,c4⟩:=mH (j.below B) (zA h);have a:Hid (tz l d=lW l[gr l d].d d):=aH (by unfold tz;rw[zA h]);have f:ey (gr l d) l.length=(gr l d:Nat):=by simp[ey,h]
  rw[f];generalize hz:l[gr l d]=t at n c1 c2 c3 c4 a;obtain⟨k,b⟩:=nx (gr l d);have i:=aH b;rw[b]at h n c1 c2 c3 c4 ⊢;have z:decide ((k:Int) < 0)=false:=by simp
  have C:=fun W=>jb t.d d W;have D:=fun op x y W=>iH op x y t.d d W;go_wp2;go_quiet (fail);go_wp2_with fail
  ((try simp only[Exit.inBlock,Exit.then]);refine bodyPost_ret (results_tmp2 rfl _ _ _) rfl ?_)
  exact⟨by rw[a,i];rfl,below_drewN B _⟩
 ·have f:ey (gr l d) l.length= -1:=by simp[ey];omega
  have a:Hid (tz l d=false):=aH (by unfold tz;rw[jB h]);have i:Hid (gr l d=l.length):=aH (by omega);rw[f];go_wp2_with fail
  ((try simp only[Exit.inBlock,Exit.then]);refine bodyPost_ret (results_tmp2 rfl _ _ _) rfl ?_)
  exact⟨by rw[a,i];rfl,B⟩
def mz:Mg:=⟨⟨0,0⟩,[],[],0⟩
def k4(l:List Mg)(d:bC):Mg:=if tz l d then(l[gr l d]?).getD mz else mz
theorem am.ay{x y z u v}(h:am w g t #[x,y,z,u,v]) a b c d e:am (((((w.setCell ⟨g,0,none⟩ a).setCell ⟨g,1,none⟩ b).setCell ⟨g,2,none⟩ c).setCell ⟨g,3,none⟩ d).setCell ⟨g,4,none⟩ e) g t #[a,b,c,d,e]:=((((h.I 0 a).I 1 b).I 2 c).I 3 d).I 4 e
theorem cU{w0}(f:Below B w0 w)(h:B<=g) a b c d e:Below B w0 (((((w.setCell ⟨g,0,none⟩ a).setCell ⟨g,1,none⟩ b).setCell ⟨g,2,none⟩ c).setCell ⟨g,3,none⟩ d).setCell ⟨g,4,none⟩ e):=
 ((((f.setCell (p:=⟨g,0,none⟩) h a).setCell (p:=⟨g,1,none⟩) h b).setCell (p:=⟨g,2,none⟩) h c).setCell (p:=⟨g,3,none⟩) h d).setCell (p:=⟨g,4,none⟩) h e
theorem mI(vl vb vc:Value)(l:List Mg)(d:bC)(w:World)(y:Rw aU w vl l)(V:vb.oneCell'=true)(X:vc.oneCell'=true)(O:l.length<=9223372036854775807):
  Cs 166 #[.agg #[vl,vb,vc],.agg #[I6 d.nd,I6 d.n]] w fun e w'=>Rt e (.tuple #[yq (k4 l d),.bool (tz l d)])/\Below w.heap.size w w':=by
 obtain⟨A,c,rfl⟩:=b8 y;obtain⟨W0,a⟩:=nx (((w.alloc (.cells #[.slice A l.length c,vb,vc] 131)).alloc (.cells #[I6 d.nd,I6 d.n] 42)).alloc (.cells #[I6 0,I6 0,Se,Se,I6 0] 44));have u:Bw w W0:=a▸((ba _ _).alloc (by simp) _).alloc (by simp;omega) _;have b:=((am.new w 131 #[.slice A l.length c,vb,vc]).alloc (.cells #[I6 d.nd,I6 d.n] 42)).alloc (.cells #[I6 0,I6 0,Se,Se,I6 0] 44);have f:=am.new ((w.alloc (.cells #[.slice A l.length c,vb,vc] 131)).alloc (.cells #[I6 d.nd,I6 d.n] 42)) 44 #[I6 0,I6 0,Se,Se,I6 0];rw[qA,qA]at f;have i:=(am.new (w.alloc (.cells #[.slice A l.length c,vb,vc] 131)) 42 #[I6 d.nd,I6 d.n]).alloc (.cells #[I6 0,I6 0,Se,Se,I6 0] 44);rw[qA]at i;rw[a]at b f i;obtain⟨z,J,L,M,R⟩:=gE u y b f a;obtain⟨S,T,U⟩:=am.three b;obtain⟨Z,y1⟩:=am.two i;clear u b f i a y;apply cI;go_in;go_wp2_with fail;simp only[R.out];go_wp2_with fail;refine(pg A c l d _ (J.below z) O).mono ?_;rintro e w1 ⟨rfl,q⟩;obtain⟨n,m⟩:=gB (z.trans (q.mono z.size)) (M.below q);have Y:=fun j=>am.frozen m j;obtain⟨S,T,U⟩:=am.three (L.below q);obtain⟨z0,z1,z2,z3,z4⟩:=am.ab m;clear q L M;cases hm:tz l d
 ·have s:Hid (k4 l d=mz):=aH (by unfold k4;rw[hm];rfl);have B:=aH (cU n (g:=w.heap.size+1+1) (by omega) (I6 0) (I6 0) (Se) (Se) (I6 0));obtain⟨C,D,F,G,H⟩:=am.ab (m.ay (I6 0) (I6 0) (Se) (Se) (I6 0));have I:=aH hm;clear hm;go_wp2_with fail;refine bodyPost_ret (v:=.tuple #[.agg #[I6 0,I6 0,Se,Se,I6 0],.bool false]) (by simp[results,results166,go_sem,C,D,F,G,H]) rfl ?_;rw[s,I];exact⟨rfl,B⟩
 ·have p:gr l d < l.length:=by
   rcases jH (gr l d) l.length with h|h
   ·exact h
   ·unfold tz at hm;rw[jB h]at hm;cases hm
  obtain⟨g,o,rfl,N,c1,c2,c3,c4⟩:=mH (J.below n) (zA p);have s:Hid (k4 l d=l[gr l d]):=aH (by unfold k4;rw[hm,zA p];rfl);generalize l[gr l d]=t at N c1 c2 c3 c4 s;obtain⟨k,x⟩:=nx (gr l d);rw[x]at p N c1 c2 c3 c4 ⊢;have B:=aH (cU n (g:=w.heap.size+1+1) (by omega) (I6 t.d.nd) (I6 t.d.n) (.string (aF t.q)) (.string (aF t.b)) (I6 t.c));obtain⟨C,D,F,G,H⟩:=am.ab (m.ay (I6 t.d.nd) (I6 t.d.n) (.string (aF t.q)) (.string (aF t.b)) (I6 t.c));have I:=aH hm;clear hm x;go_wp2_with fail;refine bodyPost_ret (v:=.tuple #[.agg #[I6 t.d.nd,I6 t.d.n,.string (aF t.q),.string (aF t.b),I6 t.c],.bool true]) (by simp[results,results166,go_sem,C,D,F,G,H]) rfl ?_;rw[s,I];exact⟨rfl,B⟩
def FD(x y:List UInt8):Bool:=decide (Lib.compareBytes x y < 0)
def jc(a b:Mg):Bool:=FD b.q a.q||(b.q==a.q&&FD b.b a.b)
def gu(a b:Mg):Mg:={(if jc a b then b else a)with c:=max a.c b.c}
theorem Du a b:(aF a==aF b)=(a==b):=by
 rw[Bool.eq_iff_iff,MapKept.bytes_beq];unfold aF;simp
theorem am.ad{cs}{u}(h:am w g t cs)(a:g≠k):am (w.setCell ⟨k,i,none⟩ u) g t cs:=h.only (aB w k i u) a
theorem Bx a b(w:World):
  Cs 338 #[yq a,yq b] w fun e w'=>Rt e (yq (gu a b))/\Below w.heap.size w w':=by
 obtain⟨W0,HW,HB,hA,hB,hR,Y⟩:=GT w #[I6 a.d.nd,I6 a.d.n,.string (aF a.q),.string (aF a.b),I6 a.c] #[I6 b.d.nd,I6 b.d.n,.string (aF b.q),.string (aF b.b),I6 b.c] #[I6 0,I6 0,Se,Se,I6 0] #[I6 a.d.nd,I6 a.d.n,.string (aF a.q),.string (aF a.b),I6 a.c] 44 44 44 44;obtain⟨x0,x1,x2,x3,x4⟩:=am.ab hA;obtain⟨y0,y1,y2,y3,y4⟩:=am.ab hB;have C:=fun j=>am.frozen hR j;have D:=fun j=>am.frozen Y j;obtain⟨z0,n,q,x,y⟩:=am.ab Y;have HC:=fun s t W=>Tryz.strings_Compare s t W;obtain⟨hS,O,Z,HO⟩:=gD (Du b.q a.q) HB hR Y;clear HB hR Y;clear hA hB;apply cI;go_in;go_wp2_with fail;simp only[HW.out];refine(HC _ _ _).mono ?_;generalize hb1:Lib.compareBytes (aF b.q).data.toList (aF a.q).data.toList=n1;have F:FD b.q a.q=decide (n1 < 0):=by unfold FD;rw[<-hb1];rfl
 rintro _e G ⟨rfl,rfl⟩;cases h1:decide (n1 < 0)
 ·cases h2:(b.q==a.q)
  ·have R:(aF b.q==aF a.q)=false:=by rw[hS];exact h2
   have H:Hid (gu a b={a with c:=max a.c b.c}):=aH (by unfold gu jc;rw[F,h1,h2];rfl);clear F hb1;go_upto_region 5 with(fail);have h:=am.I HO 4 (I6 (max a.c b.c));have f:=Z.ad (k:=w.heap.size+1+1+1) (i:=4) (u:=I6 (max a.c b.c)) (by omega);have m:=O.setCell (p:=⟨w.heap.size+1+1+1,4,none⟩) (by simp;omega) (I6 (max a.c b.c));clear C D z0 n q x y;generalize World.setCell _ _ _=W1 at h f m ⊢;have C:=fun j=>am.frozen f j;obtain⟨z0,n,q,x,y⟩:=am.ab h;obtain⟨q0,q1,q2,q3,q4⟩:=am.ab f;obtain⟨z,A⟩:=gB (cU m (g:=w.heap.size+1+1) (by omega) (I6 a.d.nd) (I6 a.d.n) (.string (aF a.q)) (.string (aF a.b)) (I6 (max a.c b.c))) (f.ay (I6 a.d.nd) (I6 a.d.n) (.string (aF a.q)) (.string (aF a.b)) (I6 (max a.c b.c)));clear h f m;go_wp2_with fail;obtain⟨I,J,L,M,N⟩:=am.ab A;refine bodyPost_ret (v:=.agg #[I6 a.d.nd,I6 a.d.n,.string (aF a.q),.string (aF a.b),I6 (max a.c b.c)]) (by simp[results,results338,go_sem,I,J,L,M,N]) rfl ?_;rw[H];exact⟨rfl,z⟩
  ·have R:(aF b.q==aF a.q)=true:=by rw[hS];exact h2
   have ha:aF b.q=aF a.q:=(MapKept.bytes_beq _ _).1 R;have hb:=aH h2;clear h2 R;go_wp2_with fail;refine(HC _ _ _).mono ?_;generalize hb2:Lib.compareBytes (aF b.b).data.toList (aF a.b).data.toList=n2;have d2:FD b.b a.b=decide (n2 < 0):=by unfold FD;rw[<-hb2];rfl
   rintro _e G ⟨rfl,rfl⟩;cases h3:decide (n2 < 0)
   ·have H:Hid (gu a b={a with c:=max a.c b.c}):=aH (by unfold gu jc;rw[F,h1,hb,d2,h3];rfl);clear F hb1 d2 hb2 ha;go_upto_region 5 with(fail);have h:=am.I HO 4 (I6 (max a.c b.c));have f:=Z.ad (k:=w.heap.size+1+1+1) (i:=4) (u:=I6 (max a.c b.c)) (by omega);have m:=O.setCell (p:=⟨w.heap.size+1+1+1,4,none⟩) (by simp;omega) (I6 (max a.c b.c));clear C D z0 n q x y;generalize World.setCell _ _ _=W1 at h f m ⊢;have C:=fun j=>am.frozen f j;obtain⟨z0,n,q,x,y⟩:=am.ab h;obtain⟨q0,q1,q2,q3,q4⟩:=am.ab f;obtain⟨z,A⟩:=gB (cU m (g:=w.heap.size+1+1) (by omega) (I6 a.d.nd) (I6 a.d.n) (.string (aF a.q)) (.string (aF a.b)) (I6 (max a.c b.c))) (f.ay (I6 a.d.nd) (I6 a.d.n) (.string (aF a.q)) (.string (aF a.b)) (I6 (max a.c b.c)));clear h f m;go_wp2_with fail;obtain⟨I,J,L,M,N⟩:=am.ab A;refine bodyPost_ret (v:=.agg #[I6 a.d.nd,I6 a.d.n,.string (aF a.q),.string (aF a.b),I6 (max a.c b.c)]) (by simp[results,results338,go_sem,I,J,L,M,N]) rfl ?_;rw[H];exact⟨rfl,z⟩
   ·have H:Hid (gu a b={b with c:=max a.c b.c}):=aH (by unfold gu jc;rw[F,h1,hb,d2,h3];rfl);clear F hb1 d2 hb2 ha;go_upto_region 4 with(fail);have h:=HO.ay (I6 b.d.nd) (I6 b.d.n) (.string (aF b.q)) (.string (aF b.b)) (I6 b.c);have f:=(((((Z.ad (k:=w.heap.size+1+1+1) (i:=0) (u:=I6 b.d.nd) (by omega)).ad (k:=w.heap.size+1+1+1) (i:=1) (u:=I6 b.d.n) (by omega)).ad (k:=w.heap.size+1+1+1) (i:=2) (u:=.string (aF b.q)) (by omega)).ad (k:=w.heap.size+1+1+1) (i:=3) (u:=.string (aF b.b)) (by omega)).ad (k:=w.heap.size+1+1+1) (i:=4) (u:=I6 b.c) (by omega));have m:=cU O (g:=w.heap.size+1+1+1) (by omega) (I6 b.d.nd) (I6 b.d.n) (.string (aF b.q)) (.string (aF b.b)) (I6 b.c);clear D z0 n q x y;have B:∀g i,g < w.heap.size+1+1+1->(World.setCell (World.setCell (World.setCell (World.setCell (World.setCell G ⟨w.heap.size+1+1+1,0,none⟩ (I6 b.d.nd)) ⟨w.heap.size+1+1+1,1,none⟩ (I6 b.d.n)) ⟨w.heap.size+1+1+1,2,none⟩ (.string (aF b.q))) ⟨w.heap.size+1+1+1,3,none⟩ (.string (aF b.b))) ⟨w.heap.size+1+1+1,4,none⟩ (I6 b.c)).cell? ⟨g,i,none⟩=G.cell? ⟨g,i,none⟩:=fun g i hg=>(cU (Below.refl (w.heap.size+1+1+1) G) nR (I6 b.d.nd) (I6 b.d.n) (.string (aF b.q)) (.string (aF b.b)) (I6 b.c)).cell (p:=⟨g,i,none⟩) hg;have S:=(B w.heap.size 4 (by omega)).trans x4;have T:=(B (w.heap.size+1) 4 (by omega)).trans y4
    clear B;generalize World.setCell (World.setCell _ _ _) _ _=W2 at h f m S T ⊢;obtain⟨z0,n,q,x,y⟩:=am.ab h;have D:=fun j=>am.frozen h j;obtain⟨U,V,X⟩:=gC h f m;clear h f m;go_upto_region 5 with(fail);have h:=am.I U 4 (I6 (max a.c b.c));have f:=V.ad (k:=w.heap.size+1+1+1) (i:=4) (u:=I6 (max a.c b.c)) (by omega);have m:=X.setCell (p:=⟨w.heap.size+1+1+1,4,none⟩) (by simp;omega) (I6 (max a.c b.c));clear C D z0 n q x y;generalize World.setCell _ _ _=W1 at h f m ⊢;have C:=fun j=>am.frozen f j;obtain⟨z0,n,q,x,y⟩:=am.ab h;obtain⟨q0,q1,q2,q3,q4⟩:=am.ab f;obtain⟨z,A⟩:=gB (cU m (g:=w.heap.size+1+1) (by omega) (I6 b.d.nd) (I6 b.d.n) (.string (aF b.q)) (.string (aF b.b)) (I6 (max a.c b.c))) (f.ay (I6 b.d.nd) (I6 b.d.n) (.string (aF b.q)) (.string (aF b.b)) (I6 (max a.c b.c)));clear h f m;go_wp2_with fail;obtain⟨I,J,L,M,N⟩:=am.ab A;refine bodyPost_ret (v:=.agg #[I6 b.d.nd,I6 b.d.n,.string (aF b.q),.string (aF b.b),I6 (max a.c b.c)]) (by simp[results,results338,go_sem,I,J,L,M,N]) rfl ?_;rw[H];exact⟨rfl,z⟩
 ·have H:Hid (gu a b={b with c:=max a.c b.c}):=aH (by unfold gu jc;rw[F,h1];rfl);clear F hb1;go_upto_region 4 with(fail);have h:=HO.ay (I6 b.d.nd) (I6 b.d.n) (.string (aF b.q)) (.string (aF b.b)) (I6 b.c);have f:=(((((Z.ad (k:=w.heap.size+1+1+1) (i:=0) (u:=I6 b.d.nd) (by omega)).ad (k:=w.heap.size+1+1+1) (i:=1) (u:=I6 b.d.n) (by omega)).ad (k:=w.heap.size+1+1+1) (i:=2) (u:=.string (aF b.q)) (by omega)).ad (k:=w.heap.size+1+1+1) (i:=3) (u:=.string (aF b.b)) (by omega)).ad (k:=w.heap.size+1+1+1) (i:=4) (u:=I6 b.c) (by omega));have m:=cU O (g:=w.heap.size+1+1+1) (by omega) (I6 b.d.nd) (I6 b.d.n) (.string (aF b.q)) (.string (aF b.b)) (I6 b.c);clear D z0 n q x y;have B:∀g i,g < w.heap.size+1+1+1->(World.setCell (World.setCell (World.setCell (World.setCell (World.setCell G ⟨w.heap.size+1+1+1,0,none⟩ (I6 b.d.nd)) ⟨w.heap.size+1+1+1,1,none⟩ (I6 b.d.n)) ⟨w.heap.size+1+1+1,2,none⟩ (.string (aF b.q))) ⟨w.heap.size+1+1+1,3,none⟩ (.string (aF b.b))) ⟨w.heap.size+1+1+1,4,none⟩ (I6 b.c)).cell? ⟨g,i,none⟩=G.cell? ⟨g,i,none⟩:=fun g i hg=>(cU (Below.refl (w.heap.size+1+1+1) G) nR (I6 b.d.nd) (I6 b.d.n) (.string (aF b.q)) (.string (aF b.b)) (I6 b.c)).cell (p:=⟨g,i,none⟩) hg;have S:=(B w.heap.size 4 (by omega)).trans x4;have T:=(B (w.heap.size+1) 4 (by omega)).trans y4
  clear B;generalize World.setCell (World.setCell _ _ _) _ _=W2 at h f m S T ⊢;obtain⟨z0,n,q,x,y⟩:=am.ab h;have D:=fun j=>am.frozen h j;obtain⟨U,V,X⟩:=gC h f m;clear h f m;go_upto_region 5 with(fail);have h:=am.I U 4 (I6 (max a.c b.c));have f:=V.ad (k:=w.heap.size+1+1+1) (i:=4) (u:=I6 (max a.c b.c)) (by omega);have m:=X.setCell (p:=⟨w.heap.size+1+1+1,4,none⟩) (by simp;omega) (I6 (max a.c b.c));clear C D z0 n q x y;generalize World.setCell _ _ _=W1 at h f m ⊢;have C:=fun j=>am.frozen f j;obtain⟨z0,n,q,x,y⟩:=am.ab h;obtain⟨q0,q1,q2,q3,q4⟩:=am.ab f;obtain⟨z,A⟩:=gB (cU m (g:=w.heap.size+1+1) (by omega) (I6 b.d.nd) (I6 b.d.n) (.string (aF b.q)) (.string (aF b.b)) (I6 (max a.c b.c))) (f.ay (I6 b.d.nd) (I6 b.d.n) (.string (aF b.q)) (.string (aF b.b)) (I6 (max a.c b.c)));clear h f m;go_wp2_with fail;obtain⟨I,J,L,M,N⟩:=am.ab A;refine bodyPost_ret (v:=.agg #[I6 b.d.nd,I6 b.d.n,.string (aF b.q),.string (aF b.b),I6 (max a.c b.c)]) (by simp[results,results338,go_sem,I,J,L,M,N]) rfl ?_;rw[H];exact⟨rfl,z⟩
structure Tg where
 nm:List UInt8
 n:Int
def a7:El Tg where
 ty:=230
 sl:=151
 s:=2
 bytes:=24
 z:=.agg #[Se,I6 0]
 f t:=[.string (aF t.nm),I6 t.n]
 und:=underlying151
 info:=by kernel_rfl
 zs:=rfl
 pos:=by decide
 len _:=rfl
 one d u hu:=by simp at hu;rcases hu with rfl|rfl<;>rfl
structure Pe where
 id:Int
 inc:Int
 st:Int
def aL:El Pe where
 ty:=121
 sl:=117
 s:=3
 bytes:=24
 z:=.agg #[I6 0,I6 0,I6 0]
 f t:=[I6 t.id,I6 t.inc,I6 t.st]
 und:=underlying117
 info:=by kernel_rfl
 zs:=rfl
 pos:=by decide
 len _:=rfl
 one d u hu:=by simp at hu;rcases hu with rfl|rfl|rfl<;>rfl
def bF:El be where
 ty:=212
 sl:=139
 s:=4
 bytes:=32
 z:=.agg #[I6 0,I6 0,I6 0,I6 0]
 f:=bI
 und:=underlying139
 info:=by kernel_rfl
 zs:=rfl
 pos:=by decide
 len _:=rfl
 one d u hu:=by simp[bI]at hu;rcases hu with rfl|rfl|rfl|rfl<;>rfl
structure Sp where
 at_:Int
 nd:Int
def bH:El Sp where
 ty:=300
 sl:=219
 s:=2
 bytes:=16
 z:=.agg #[I6 0,I6 0]
 f d:=[I6 d.at_,I6 d.nd]
 und:=underlying219
 info:=by kernel_rfl
 zs:=rfl
 pos:=by decide
 len _:=rfl
 one d u hu:=by simp at hu;rcases hu with rfl|rfl<;>rfl
def aC:El Int where
 ty:=3
 sl:=34
 s:=1
 bytes:=8
 z:=I6 0
 f d:=[I6 d]
 und:=underlying34
 info:=by kernel_rfl
 zs:=rfl
 pos:=by decide
 len _:=rfl
 one d u hu:=by simp at hu;subst hu;rfl
def fk(E:El α)(w:World)(l:List α)(e:Ending)(w':World):Prop:=∃v,Rt e v/\aK E w.heap.size w' v l/\Below w.heap.size w w'
theorem jw{v} w(h:Rw aU w v l)(hn:l.length*56<=140737488355328):Cs 109 #[v] w (fk aU w l):=by
 obtain⟨A,c,rfl,n,p⟩:=h;have g:=aH p.sl;obtain⟨q,hi,i,j,m⟩:=info_parts aU.info;have B:=fun(w:World)=>yA (P:=prog) w 127 44 A l.length c 0 0 underlying127;obtain⟨s,t,D⟩:=gC (show 0+l.length<=maxLen by unfold maxLen;omega) (show(0+l.length)*56<=140737488355328 by omega) n;rcases A with _|a
 ·apply cI;go_in;go_wp2;go_ret;have u:l=[]:=by
   cases l with
   |nil=>rfl
   |cons a l=>obtain⟨_,_,h,_⟩:=g.2 (by simp);cases h
  subst u;exact⟨_,rfl,aK.nil _ _,bR _⟩
 ·apply cI;go_in;go_wp2_with (at_builtin;refine bA _ rfl (.tmp 5) (.tmp 6) 127 rfl w.heap.size 44 q _ 5 56 underlying127 hi i j m rfl (by decide) _ 0 [] rfl (jP w #[] 0 nR (zS _) rfl) _ l.length c (aU.cells l) rfl (g.below (ba _ _)) (aU.cells_one l) s t (by simp) ?_);intro v' w1 b x C;obtain⟨f,y⟩:=gB b x;go_wp2;go_ret;exact⟨v',rfl,by have h:=f.out;first|exact h|(rw[zR,qY]at h;exact h),(ba w _).grown y (by simp) (by intro k z;simp[Value.ownBlock]at z;omega)⟩
theorem gW{v} w(h:Rw aJ w v l)(hn:l.length*16<=140737488355328):Cs 110 #[v] w (fk aJ w l):=by
 obtain⟨A,c,rfl,n,p⟩:=h;have g:=aH p.sl;obtain⟨q,hi,i,j,m⟩:=info_parts aJ.info;have B:=fun(w:World)=>yA (P:=prog) w 36 42 A l.length c 0 0 underlying36;obtain⟨s,t,D⟩:=gC (show 0+l.length<=maxLen by unfold maxLen;omega) (show(0+l.length)*16<=140737488355328 by omega) n;rcases A with _|a
 ·apply cI;go_in;go_wp2;go_ret;have u:l=[]:=by
   cases l with
   |nil=>rfl
   |cons a l=>obtain⟨_,_,h,_⟩:=g.2 (by simp);cases h
  subst u;exact⟨_,rfl,aK.nil _ _,bR _⟩
 ·apply cI;go_in;go_wp2_with (at_builtin;refine bA _ rfl (.tmp 5) (.tmp 6) 36 rfl w.heap.size 42 q _ 2 16 underlying36 hi i j m rfl (by decide) _ 0 [] rfl (jP w #[] 0 nR (zS _) rfl) _ l.length c (aJ.cells l) rfl (g.below (ba _ _)) (aJ.cells_one l) s t (by simp) ?_);intro v' w1 b x C;obtain⟨f,y⟩:=gB b x;go_wp2;go_ret;exact⟨v',rfl,by have h:=f.out;first|exact h|(rw[zR,qY]at h;exact h),(ba w _).grown y (by simp) (by intro k z;simp[Value.ownBlock]at z;omega)⟩
theorem jx{v} w(h:Rw aL w v l)(hn:l.length*24<=140737488355328):Cs 102 #[v] w (fk aL w l):=by
 obtain⟨A,c,rfl,n,p⟩:=h;have g:=aH p.sl;obtain⟨q,hi,i,j,m⟩:=info_parts aL.info;have B:=fun(w:World)=>yA (P:=prog) w 117 121 A l.length c 0 0 underlying117;obtain⟨s,t,D⟩:=gC (show 0+l.length<=maxLen by unfold maxLen;omega) (show(0+l.length)*24<=140737488355328 by omega) n;rcases A with _|a
 ·apply cI;go_in;go_wp2;go_ret;have u:l=[]:=by
   cases l with
   |nil=>rfl
   |cons a l=>obtain⟨_,_,h,_⟩:=g.2 (by simp);cases h
  subst u;exact⟨_,rfl,aK.nil _ _,bR _⟩
 ·apply cI;go_in;go_wp2_with (at_builtin;refine bA _ rfl (.tmp 5) (.tmp 6) 117 rfl w.heap.size 121 q _ 3 24 underlying117 hi i j m rfl (by decide) _ 0 [] rfl (jP w #[] 0 nR (zS _) rfl) _ l.length c (aL.cells l) rfl (g.below (ba _ _)) (aL.cells_one l) s t (by simp) ?_);intro v' w1 b x C;obtain⟨f,y⟩:=gB b x;go_wp2;go_ret;exact⟨v',rfl,by have h:=f.out;first|exact h|(rw[zR,qY]at h;exact h),(ba w _).grown y (by simp) (by intro k z;simp[Value.ownBlock]at z;omega)⟩
theorem tT{v} w(h:Rw a7 w v l)(hn:l.length*24<=140737488355328):Cs 136 #[v] w (fk a7 w l):=by
 obtain⟨A,c,rfl,n,p⟩:=h;have g:=aH p.sl;obtain⟨q,hi,i,j,m⟩:=info_parts a7.info;have B:=fun(w:World)=>yA (P:=prog) w 151 230 A l.length c 0 0 underlying151;obtain⟨s,t,D⟩:=gC (show 0+l.length<=maxLen by unfold maxLen;omega) (show(0+l.length)*24<=140737488355328 by omega) n;rcases A with _|a
 ·apply cI;go_in;go_wp2;go_ret;have u:l=[]:=by
   cases l with
   |nil=>rfl
   |cons a l=>obtain⟨_,_,h,_⟩:=g.2 (by simp);cases h
  subst u;exact⟨_,rfl,aK.nil _ _,bR _⟩
 ·apply cI;go_in;go_wp2_with (at_builtin;refine bA _ rfl (.tmp 5) (.tmp 6) 151 rfl w.heap.size 230 q _ 2 24 underlying151 hi i j m rfl (by decide) _ 0 [] rfl (jP w #[] 0 nR (zS _) rfl) _ l.length c (a7.cells l) rfl (g.below (ba _ _)) (a7.cells_one l) s t (by simp) ?_);intro v' w1 b x C;obtain⟨f,y⟩:=gB b x;go_wp2;go_ret;exact⟨v',rfl,by have h:=f.out;first|exact h|(rw[zR,qY]at h;exact h),(ba w _).grown y (by simp) (by intro k z;simp[Value.ownBlock]at z;omega)⟩
theorem tU{v} w(h:Rw bF w v l)(hn:l.length*32<=140737488355328):Cs 119 #[v] w (fk bF w l):=by
 obtain⟨A,c,rfl,n,p⟩:=h;have g:=aH p.sl;obtain⟨q,hi,i,j,m⟩:=info_parts bF.info;have B:=fun(w:World)=>yA (P:=prog) w 139 212 A l.length c 0 0 underlying139;obtain⟨s,t,D⟩:=gC (show 0+l.length<=maxLen by unfold maxLen;omega) (show(0+l.length)*32<=140737488355328 by omega) n;rcases A with _|a
 ·apply cI;go_in;go_wp2;go_ret;have u:l=[]:=by
   cases l with
   |nil=>rfl
   |cons a l=>obtain⟨_,_,h,_⟩:=g.2 (by simp);cases h
  subst u;exact⟨_,rfl,aK.nil _ _,bR _⟩
 ·apply cI;go_in;go_wp2_with (at_builtin;refine bA _ rfl (.tmp 5) (.tmp 6) 139 rfl w.heap.size 212 q _ 4 32 underlying139 hi i j m rfl (by decide) _ 0 [] rfl (jP w #[] 0 nR (zS _) rfl) _ l.length c (bF.cells l) rfl (g.below (ba _ _)) (bF.cells_one l) s t (by simp) ?_);intro v' w1 b x C;obtain⟨f,y⟩:=gB b x;go_wp2;go_ret;exact⟨v',rfl,by have h:=f.out;first|exact h|(rw[zR,qY]at h;exact h),(ba w _).grown y (by simp) (by intro k z;simp[Value.ownBlock]at z;omega)⟩
theorem fy{v} w(h:Rw aC w v l)(hn:l.length*8<=140737488355328):Cs 26 #[v] w (fk aC w l):=by
 obtain⟨A,c,rfl,n,p⟩:=h;have g:=aH p.sl;obtain⟨q,hi,i,j,m⟩:=info_parts aC.info;have B:=fun(w:World)=>yA (P:=prog) w 34 3 A l.length c 0 0 underlying34;obtain⟨s,t,D⟩:=gC (show 0+l.length<=maxLen by unfold maxLen;omega) (show(0+l.length)*8<=140737488355328 by omega) n;rcases A with _|a
 ·apply cI;go_in;go_wp2;go_ret;have u:l=[]:=by
   cases l with
   |nil=>rfl
   |cons a l=>obtain⟨_,_,h,_⟩:=g.2 (by simp);cases h
  subst u;exact⟨_,rfl,aK.nil _ _,bR _⟩
 ·apply cI;go_in;go_wp2_with (at_builtin;refine bA _ rfl (.tmp 5) (.tmp 6) 34 rfl w.heap.size 3 q _ 1 8 underlying34 hi i j m rfl (by decide) _ 0 [] rfl (jP w #[] 0 nR (zS _) rfl) _ l.length c (aC.cells l) rfl (g.below (ba _ _)) (aC.cells_one l) s t (by simp) ?_);intro v' w1 b x C;obtain⟨f,y⟩:=gB b x;go_wp2;go_ret;exact⟨v',rfl,by have h:=f.out;first|exact h|(rw[zR,qY]at h;exact h),(ba w _).grown y (by simp) (by intro k z;simp[Value.ownBlock]at z;omega)⟩
def lD(cs:List Value)(k:Nat):List Value->List Value
 |[]=>cs
 |v::vs=>lD (cs.set k v) (k+1) vs
theorem ys(a cs:List Value)(k:Nat) vs:lD (a++cs) (a.length+k) vs=a++lD cs k vs:=by
 induction vs generalizing cs k with
 |nil=>rfl
 |cons v vs ih=>
  unfold lD;rw[yW _ _ (by omega),show a.length+k - a.length=k by omega,show a.length+k+1=a.length+(k+1) by omega];exact ih _ _
theorem rN(a rest vs:List Value)(h:vs.length=a.length):lD (a++rest) 0 vs=vs++rest:=by
 have c:∀(vs a b:List Value),vs.length=a.length->lD (b++a++rest) b.length vs=b++vs++rest:=by
  intro vs;induction vs with
  |nil=>intro a b h;cases a with|nil=>rfl|cons=>simp at h
  |cons v vs ih=>
   intro a b h;cases a with
   |nil=>simp at h
   |cons o a=>
    unfold lD;have e:(b++o::a++rest).set b.length v=(b++[v])++a++rest:=by
     rw[zH,yW _ _ nR];simp
    have:=ih a (b++[v]) (by simpa using h);rw[zC]at this;rw[e];simp at this ⊢;exact this
 have:=c vs a [] h;simpa using this
theorem El.bo(E:El α)(q:List α)(i:Nat)(hi:i < q.length)(t:α) sp:lD (E.cells q++sp) (i*E.s) (E.f t)=E.cells (q.set i t)++sp:=by
 induction q generalizing i with
 |nil=>simp at hi
 |cons a q ih=>
  cases i with
  |zero=>
   simp only[yG,qL];unfold El.cells;rw[zX,zX,zH,zH];exact rN _ _ _ (by rw[E.len,E.len])
  |succ i=>
   have:=ih i (by simpa using hi);unfold El.cells at this ⊢;rw[qM,zX,zX,zH,zH,show(i+1)*E.s=(E.f a).length+i*E.s by rw[E.len,Nat.succ_mul];omega,ys,this]
def p9(E:El α)(vl:α->Value)(w0:World)(g:Nat)(K:Nat)(a:Array Value)(p:α->Bool):Prop:=∀t W,aW g w0 W->Cs K (#[vl t]++a) W fun e W'=>Rt e (.bool (p t))/\Below W.heap.size W W'
theorem gX(p:α->Bool)(l:List α)(h:l.length<=bO p l):l.filter (fun t=>!p t)=l:=by
 induction l with
 |nil=>rfl
 |cons t l ih=>
  unfold bO at h;cases hp:p t
  ·rw[hp]at h;rw[List.filter_cons,hp,ih (by simpa using h)];rfl
  ·rw[hp]at h;simp at h
theorem oP(p:α->Bool)(l:List α)(h:bO p l < l.length):(l.take (bO p l+1)).filter (fun t=>!p t)=l.take (bO p l):=by
 induction l with
 |nil=>simp at h
 |cons t l ih=>
  unfold bO at h ⊢;cases hp:p t
  ·rw[hp]at h;have:=ih (by simpa using h);simp only[jG,if_false,zF,List.filter_cons,hp,Bool.not_false,if_true];rw[this]
  ·simp[hp]
structure ji{α:Type}(p:α->Bool)(l q:List α)(i j:Nat):Prop where
 len:q.length=l.length
 lt:i < j
 le:j<=l.length
 done:q.take i=(l.take j).filter fun t=>!p t
 todo:q.drop j=l.drop j
section
variable{p:α → Bool}{l:List α}{j:Nat}
theorem ji.start(p:α->Bool)(l:List α)(h:bO p l < l.length):ji p l l (bO p l) (bO p l+1):=⟨rfl,by omega,by omega,(oP p l h).symm,rfl⟩
theorem ji.at_(h:ji p l q i j)(a:j < l.length):q[j]?=some l[j]:=by
 have:(q.drop j)[0]?=(l.drop j)[0]?:=by rw[h.todo]
 rw[List.getElem?_drop,List.getElem?_drop,wD]at this;rw[this,zA a]
theorem ko(p:α->Bool)(l:List α)(j:Nat)(a:j < l.length):(l.take (j+1)).filter (fun t=>!p t)=(l.take j).filter (fun t=>!p t)++if p l[j]then []else [l[j]]:=by
 rw[qE a,List.filter_append];congr 1;cases h:p l[j]<;>simp[h]
theorem ji.skip(h:ji p l q i j)(a:j < l.length)(b:p l[j]=true):ji p l q i (j+1):=
 ⟨h.len,by have:=h.lt;omega,by omega,by rw[ko p l j a,b,h.done];simp,by rw[<-List.drop_drop,h.todo,List.drop_drop]⟩
theorem ji.keep(h:ji p l q i j)(a:j < l.length)(b:p l[j]=false):ji p l (q.set i l[j]) (i+1) (j+1):=by
 have hi:=h.lt;refine⟨by simp[h.len],by omega,by omega,?_,?_⟩
 ·rw[ko p l j a,b,qE (by simp[h.len];omega),List.take_set_of_le (by omega),h.done];simp
 ·rw[List.drop_set_of_lt (by omega),<-List.drop_drop,h.todo,List.drop_drop]
end
theorem aK.af{w}{l:List α}{v}(h:aK E base w v l)(a:0 < l.length):
  ∃g cap sp,v=.slice (some ⟨g,0,none⟩) l.length cap/\base<=g/\aR w g E.ty (E.cells l++sp)/\l.length<=cap/\cap<=maxLen/\(E.cells l++sp).length=cap*E.s:=by
 obtain⟨g,cap,cs,hv,c,f,i,b,a,j⟩:=p0 h a;refine⟨g,cap,cs.drop (l.length*E.s),hv,c,?_,a,j,?_⟩
 ·rw[<-b,yB];exact f
 ·rw[<-b,yB];exact i
theorem aR.bl{w}{sp}(h:aR w g E.ty (E.cells q++sp)){cap:Nat}(a:q.length<=cap):Rw E w (.slice (some ⟨g,0,none⟩) q.length cap) q:=
 ⟨_,_,rfl,a,E.ae q,fun _=>⟨g,0,_,rfl,h,fun j u hu=>by
  rw[zR]
  simp only[zL]
  rw[qQ (zE.1 hu).1];exact hu⟩⟩
theorem aR.at_{sp}(h:aR w g E.ty (E.cells q++sp)){a:α}(c:q[k]?=some a):∀j u,(E.f a)[j]?=some u->Ce w g (k*E.s+j) u:=by
 obtain⟨g',o,b,f⟩:=(h.bl nR).at_ c;injection b with b;injection b with h1 h2;subst h1;subst h2;intro j u i;have:=f j u i;rwa[zR]at this
def tV(E:El α)(w:World)(base:Nat)(own:Option Nat)(m:List α)(a:Ending)(w':World):Prop:=∃v,Rt a v/\aK E base w' v m/\w.grownBy w' own
theorem El.bb(E:El α)(q:List α)(i:Nat)(hi:i<=q.length):(E.cells q).take (i*E.s)=E.cells (q.take i):=by
 induction q generalizing i with
 |nil=>simp[El.cells]
 |cons a q ih=>
  cases i with
  |zero=>simp[El.cells]
  |succ i=>
   have:=ih i (by simpa using hi);unfold El.cells at this ⊢;rw[zF,zX,zX,<-this,List.take_append,E.len,show(i+1)*E.s - E.s=i*E.s by rw[Nat.succ_mul];omega,qP (by rw[E.len,Nat.succ_mul];omega)]
theorem fm(w:World)(g:Nat) cs:w.grownBy (w.setRow g cs) (some g):=dX _ _ _
theorem mJ(K:Nat) caps(p:_->Bool) A(c:Nat)(l:List _)(w:World)(hr:Rw aJ w (.slice A l.length c) l)(hn:l.length<=9223372036854775807)
  (hent:∀args W,(callFunc K args).run prog W=.ok (.enter K args) W) (b:∀t W,Below w.heap.size w W->Cs K (#[(fun t=>.agg #[I6 t.nd,I6 t.n]) t]++caps) W fun e W'=>Rt e (.bool (p t))/\Below W.heap.size W W'):
  Cs 415 #[.slice A l.length c,.func (.func K) #[] caps] w fun e w'=>Rt e (I6 (ey (bO p l) l.length))/\Below w.heap.size w w':=by
 obtain⟨n,q⟩:=gB hr b;apply cI;go_in;go_wp2;go_loopw[8] (fun i wr=>∃k:Nat,k<=l.length/\i=I6 k/\bO p l=k+bO p (l.drop k)/\Bw w wr) (fun i _=>l.length - (intOf i).toNat)
 case atStart=>exact⟨0,zS _,rfl,by simp,bR _⟩
 case round=>
  obtain⟨k,s,rfl,b,B⟩:=hrel;have f:=aH b;by_cases hlt:k < l.length
  ·obtain⟨g,o,rfl,bI⟩:=(n.below B).at_ (zA hlt);have h:=aH (gn p l k hlt);generalize hz:l[k]=t at bI h;have u:Ce wr g (o+k*2) (I6 t.nd):=bI 0 _ rfl;have c1:Ce wr g (o+k*2+1) (I6 t.n):=bI 1 _ rfl;go_wp2_with fail;refine(q t _ B).mono ?_;rintro e w2 ⟨rfl,j⟩;have m:=B.trans (j.mono B.size);cases he:p t
   ·have a:Hid (bO p l=(k+1)+bO p (l.drop (k+1))):=aH (by rw[f,h,he];simp;omega);go_wp2;go_roundw
    case rel=>exact⟨k+1,by omega,by go_num,a,m⟩
    case measure=>simp[intOf];omega
   ·have a:Hid (ey (bO p l) l.length=k):=aH (by rw[f,h,he];simp[ey,hlt]);go_wp2;go_ret;exact⟨by rw[a];rfl,m⟩
  ·have a:Hid (ey (bO p l) l.length= -1):=aH (by rw[f,qH (by omega)];simp[ey,bO];omega);go_wp2;go_ret;exact⟨by rw[a];rfl,B⟩
theorem mK(K:Nat) caps(p:_->Bool) A(c:Nat)(l:List _)(w:World)(hr:Rw a7 w (.slice A l.length c) l)(hn:l.length<=9223372036854775807)
  (hent:∀args W,(callFunc K args).run prog W=.ok (.enter K args) W) (b:∀t W,Below w.heap.size w W->Cs K (#[(fun t=>.agg #[.string (aF t.nm),I6 t.n]) t]++caps) W fun e W'=>Rt e (.bool (p t))/\Below W.heap.size W W'):
  Cs 350 #[.slice A l.length c,.func (.func K) #[] caps] w fun e w'=>Rt e (I6 (ey (bO p l) l.length))/\Below w.heap.size w w':=by
 obtain⟨n,q⟩:=gB hr b;apply cI;go_in;go_wp2;go_loopw[8] (fun i wr=>∃k:Nat,k<=l.length/\i=I6 k/\bO p l=k+bO p (l.drop k)/\Bw w wr) (fun i _=>l.length - (intOf i).toNat)
 case atStart=>exact⟨0,zS _,rfl,by simp,bR _⟩
 case round=>
  obtain⟨k,s,rfl,b,B⟩:=hrel;have f:=aH b;by_cases hlt:k < l.length
  ·obtain⟨g,o,rfl,bI⟩:=(n.below B).at_ (zA hlt);have h:=aH (gn p l k hlt);generalize hz:l[k]=t at bI h;have u:Ce wr g (o+k*2) (.string (aF t.nm)):=bI 0 _ rfl;have c1:Ce wr g (o+k*2+1) (I6 t.n):=bI 1 _ rfl;go_wp2_with fail;refine(q t _ B).mono ?_;rintro e w2 ⟨rfl,j⟩;have m:=B.trans (j.mono B.size);cases he:p t
   ·have a:Hid (bO p l=(k+1)+bO p (l.drop (k+1))):=aH (by rw[f,h,he];simp;omega);go_wp2;go_roundw
    case rel=>exact⟨k+1,by omega,by go_num,a,m⟩
    case measure=>simp[intOf];omega
   ·have a:Hid (ey (bO p l) l.length=k):=aH (by rw[f,h,he];simp[ey,hlt]);go_wp2;go_ret;exact⟨by rw[a];rfl,m⟩
  ·have a:Hid (ey (bO p l) l.length= -1):=aH (by rw[f,qH (by omega)];simp[ey,bO];omega);go_wp2;go_ret;exact⟨by rw[a];rfl,B⟩
theorem tW(K:Nat) caps(p:_->Bool) A(c:Nat)(l:List _)(w:World)(hr:Rw bH w (.slice A l.length c) l)(hn:l.length<=9223372036854775807)
  (hent:∀args W,(callFunc K args).run prog W=.ok (.enter K args) W) (b:∀t W,Below w.heap.size w W->Cs K (#[(fun t=>.agg #[I6 t.at_,I6 t.nd]) t]++caps) W fun e W'=>Rt e (.bool (p t))/\Below W.heap.size W W'):
  Cs 217 #[.slice A l.length c,.func (.func K) #[] caps] w fun e w'=>Rt e (I6 (ey (bO p l) l.length))/\Below w.heap.size w w':=by
 obtain⟨n,q⟩:=gB hr b;apply cI;go_in;go_wp2;go_loopw[8] (fun i wr=>∃k:Nat,k<=l.length/\i=I6 k/\bO p l=k+bO p (l.drop k)/\Bw w wr) (fun i _=>l.length - (intOf i).toNat)
 case atStart=>exact⟨0,zS _,rfl,by simp,bR _⟩
 case round=>
  obtain⟨k,s,rfl,b,B⟩:=hrel;have f:=aH b;by_cases hlt:k < l.length
  ·obtain⟨g,o,rfl,bI⟩:=(n.below B).at_ (zA hlt);have h:=aH (gn p l k hlt);generalize hz:l[k]=t at bI h;have u:Ce wr g (o+k*2) (I6 t.at_):=bI 0 _ rfl;have c1:Ce wr g (o+k*2+1) (I6 t.nd):=bI 1 _ rfl;go_wp2_with fail;refine(q t _ B).mono ?_;rintro e w2 ⟨rfl,j⟩;have m:=B.trans (j.mono B.size);cases he:p t
   ·have a:Hid (bO p l=(k+1)+bO p (l.drop (k+1))):=aH (by rw[f,h,he];simp;omega);go_wp2;go_roundw
    case rel=>exact⟨k+1,by omega,by go_num,a,m⟩
    case measure=>simp[intOf];omega
   ·have a:Hid (ey (bO p l) l.length=k):=aH (by rw[f,h,he];simp[ey,hlt]);go_wp2;go_ret;exact⟨by rw[a];rfl,m⟩
  ·have a:Hid (ey (bO p l) l.length= -1):=aH (by rw[f,qH (by omega)];simp[ey,bO];omega);go_wp2;go_ret;exact⟨by rw[a];rfl,B⟩
theorem tX(K:Nat) caps(p:_->Bool) A(c:Nat)(l:List _)(w:World)(hr:Rw aC w (.slice A l.length c) l)(hn:l.length<=9223372036854775807)
  (hent:∀args W,(callFunc K args).run prog W=.ok (.enter K args) W) (b:∀t W,Below w.heap.size w W->Cs K (#[(fun t=>I6 t) t]++caps) W fun e W'=>Rt e (.bool (p t))/\Below W.heap.size W W'):
  Cs 128 #[.slice A l.length c,.func (.func K) #[] caps] w fun e w'=>Rt e (I6 (ey (bO p l) l.length))/\Below w.heap.size w w':=by
 obtain⟨q,s⟩:=gB hr b;apply cI;go_in;go_wp2;go_loopw[8] (fun i wr=>∃k:Nat,k<=l.length/\i=I6 k/\bO p l=k+bO p (l.drop k)/\Bw w wr) (fun i _=>l.length - (intOf i).toNat)
 case atStart=>exact⟨0,zS _,rfl,by simp,bR _⟩
 case round=>
  obtain⟨k,u,rfl,b,B⟩:=hrel;have f:=aH b;by_cases hlt:k < l.length
  ·obtain⟨g,o,rfl,bI⟩:=(q.below B).at_ (zA hlt);have j:=aH (gn p l k hlt);generalize hz:l[k]=t at bI j;have x:Ce wr g (o+k) (I6 t):=(by have h:=bI 0 _ rfl;rw[show aC.s=1 from rfl,wC,wD]at h;exact h);go_wp2_with fail;refine(s t _ B).mono ?_;rintro e w2 ⟨rfl,m⟩;have n:=B.trans (m.mono B.size);cases he:p t
   ·have a:Hid (bO p l=(k+1)+bO p (l.drop (k+1))):=aH (by rw[f,j,he];simp;omega);go_wp2;go_roundw
    case rel=>exact⟨k+1,by omega,by go_num,a,n⟩
    case measure=>simp[intOf];omega
   ·have a:Hid (ey (bO p l) l.length=k):=aH (by rw[f,j,he];simp[ey,hlt]);go_wp2;go_ret;exact⟨by rw[a];rfl,n⟩
  ·have a:Hid (ey (bO p l) l.length= -1):=aH (by rw[f,qH (by omega)];simp[ey,bO];omega);go_wp2;go_ret;exact⟨by rw[a];rfl,B⟩
theorem mL(K:Nat) caps(p:_->Bool)(base:Nat)(v:Value)(l:List _)(w:World)(hown:aK aU base w v l)
  (hn:l.length<=1000000000) (hent:∀args W,(callFunc K args).run prog W=.ok (.enter K args) W) (ht:∀t W,Below w.heap.size w W->Cs K (#[(fun t=>.agg #[I6 t.d.nd,I6 t.d.n,.string (aF t.q),.string (aF t.b),I6 t.c]) t]++caps) W fun e W'=>Rt e (.bool (p t))/\Below W.heap.size W W')
  (hp:∀g,v.ownBlock=some g->p9 aU (fun t=>.agg #[I6 t.d.nd,I6 t.d.n,.string (aF t.q),.string (aF t.b),I6 t.c]) w g K caps p):
  Cs 284 #[v,.func (.func K) #[] caps] w (tV aU w base v.ownBlock (l.filter fun t=>!p t)):=by
 obtain⟨R,hi,Y,Z,hD⟩:=info_parts aU.info;rcases jH (bO p l) l.length with hk|hk
 ·obtain⟨g,cap,sp,rfl,ha,G,N,hb,H⟩:=hown.af (by omega);obtain⟨HR,HP,F,HS⟩:=gD G (hp g rfl) (jv K caps p (some ⟨g,0,none⟩) cap l w (G.bl N) (by omega) hent ht) (ji.start p l hk);have S:ey (bO p l) l.length=(bO p l:Nat):=by simp[ey,hk]
  rw[S]at F;obtain⟨T,hc⟩:=nx (bO p l);rw[hc]at F HS hk;have hE:((T:Int)== -1)=false:=beq_eq_false_iff_ne.2 (by omega);obtain⟨hf,hg⟩:=gB H hb;apply cI;go_in;go_wp2_with fail;refine F.mono ?_;rintro e w1 ⟨rfl,s⟩;obtain⟨hh,hl⟩:=gB (HR.below s) (aG (g:=g) s);go_wp2;go_loopw[5,6] (fun vi vj wr=>∃(i j:Nat) (q:List _),vi=I6 i/\vj=I6 j/\ji p l q i j/\aR wr g aU.ty (aU.cells q++sp)/\aW g w wr) (fun _ vj _=>l.length - (intOf vj).toNat)
  case atStart=>exact⟨T,T+1,l,rfl,by go_num,HS,hh,hl⟩
  case round=>
   obtain⟨i,j,q,rfl,rfl,hd,hr,ho⟩:=hrel;obtain⟨HD,u,I⟩:=gC hd hr ho;have hF:=hd.lt;have hG:=hd.le;have x:=hd.len;by_cases hlt:j < l.length
   ·have bI:=u.at_ (hd.at_ hlt);obtain⟨HQ,z,C⟩:=gC x (fun hp=>HD.keep hlt hp) (fun hp=>HD.skip hlt hp);generalize hz:l[j]=t at bI z C;have c0:Ce wr g (j*5) (I6 t.d.nd):=bI 0 _ rfl;have c1:Ce wr g (j*5+1) (I6 t.d.n):=bI 1 _ rfl;have c2:Ce wr g (j*5+2) (.string (aF t.q)):=bI 2 _ rfl;have c3:Ce wr g (j*5+3) (.string (aF t.b)):=bI 3 _ rfl;have c4:Ce wr g (j*5+4) (I6 t.c):=bI 4 _ rfl;go_wp2_with fail;refine(HP t _ (aA I (aG (ba wr (.cells #[I6 t.d.nd,I6 t.d.n,.string (aF t.q),.string (aF t.b),I6 t.c] 44))))).mono ?_;rintro e w2 ⟨rfl,J⟩;obtain⟨O,D⟩:=gB (aA (aA I (aG (ba wr (.cells #[I6 t.d.nd,I6 t.d.n,.string (aF t.q),.string (aF t.b),I6 t.c] 44)))) (aG J)) (u.below ((ba wr (.cells #[I6 t.d.nd,I6 t.d.n,.string (aF t.q),.string (aF t.b),I6 t.c] 44)).trans (J.mono (ba wr (.cells #[I6 t.d.nd,I6 t.d.n,.string (aF t.q),.string (aF t.b),I6 t.c] 44)).size)));have n:=(am.new wr 44 #[I6 t.d.nd,I6 t.d.n,.string (aF t.q),.string (aF t.b),I6 t.c]).below J;have e0:=ce n;have e1:=dt n;have e2:=ed n;have e3:=ef n;have e4:=eV n;have L:i < l.length:=by omega
    have hm:i < q.length:=by rw[HQ];exact L
    have b:=D.at_ (zA hm);generalize q[i]=y at b;have f0:Ce w2 g (i*5) (I6 y.d.nd):=b 0 _ rfl;have f1:Ce w2 g (i*5+1) (I6 y.d.n):=b 1 _ rfl;have f2:Ce w2 g (i*5+2) (.string (aF y.q)):=b 2 _ rfl;have f3:Ce w2 g (i*5+3) (.string (aF y.b)):=b 3 _ rfl;have f4:Ce w2 g (i*5+4) (I6 y.c):=b 4 _ rfl;have hH:=fun j=>am.frozen (t:=aU.ty) (cs:=(aU.cells q++sp).toArray) D j;cases he:p t
    ·have U:=aH (z he);have hq:Hid (aR (((((w2.setCell ⟨g,i*5,none⟩ (I6 t.d.nd)).setCell ⟨g,i*5+1,none⟩ (I6 t.d.n)).setCell ⟨g,i*5+2,none⟩ (.string (aF t.q))).setCell ⟨g,i*5+3,none⟩ (.string (aF t.b))).setCell ⟨g,i*5+4,none⟩ (I6 t.c)) g aU.ty (aU.cells (q.set i t)++sp)):=aH (by rw[<-aU.bo q i (by rw[HQ];exact L) t sp];exact(((((D).ag (i*5) (I6 t.d.nd)).ag (i*5+1) (I6 t.d.n)).ag (i*5+2) (.string (aF t.q))).ag (i*5+3) (.string (aF t.b))).ag (i*5+4) (I6 t.c));have hs:Hid (aW g w (((((w2.setCell ⟨g,i*5,none⟩ (I6 t.d.nd)).setCell ⟨g,i*5+1,none⟩ (I6 t.d.n)).setCell ⟨g,i*5+2,none⟩ (.string (aF t.q))).setCell ⟨g,i*5+3,none⟩ (.string (aF t.b))).setCell ⟨g,i*5+4,none⟩ (I6 t.c))):=aH (aA (aA (aA (aA (aA (O) (aB _ g (i*5) (I6 t.d.nd))) (aB _ g (i*5+1) (I6 t.d.n))) (aB _ g (i*5+2) (.string (aF t.q)))) (aB _ g (i*5+3) (.string (aF t.b)))) (aB _ g (i*5+4) (I6 t.c)));go_wp2;go_roundw
     case rel=>exact⟨i+1,j+1,q.set i t,by go_num,by go_num,U,hq,hs⟩
     case measure=>simp[intOf];omega
    ·have U:=aH (C he);go_wp2;go_roundw
     case rel=>exact⟨i,j+1,q,rfl,by go_num,U,D,O⟩
     case measure=>simp[intOf];omega
   ·have V:j=l.length:=by omega
    have L:i < l.length:=by omega
    have hu:=e5 (P:=prog) 127 44 R underlying127 hi 5 Z .i64 g 0 l.length cap (i:Int) i rfl (by omega) (by omega);have hI:=eo (P:=prog) 127 44 R underlying127 hi .i64 (some ⟨g,0,none⟩) l.length cap i (by omega);rw[zR]at hu;have hB:(aU.cells q).length=l.length*5:=by rw[aU.ae,x];rfl
    have a:(aU.cells q++sp).length=cap*5:=by have:=hf;rw[zC,aU.ae]at this;rw[zC,aU.ae,x];exact this
    obtain⟨f,m⟩:=nx ((aU.cells q++sp).take (i*5)++(Builtin.zeroCells (Value.agg #[I6 0,I6 0,Se,Se,I6 0]).cells (l.length - i)).toList++(aU.cells q++sp).drop (i*5+(Builtin.zeroCells (Value.agg #[I6 0,I6 0,Se,Se,I6 0]).cells (l.length - i)).toList.length));have hw:(Builtin.zeroCells (Value.agg #[I6 0,I6 0,Se,Se,I6 0]).cells (l.length - i)).toList.length=(l.length - i)*5:=by rw[Array.length_toList,size_zeroCells];rfl
    have H:∀(ty:TypeId),(Builtin.clear_ #[127] ty #[.slice (some ⟨g,i*5,none⟩) (l.length - i) (cap - i)]).run prog wr=.ok (.tuple #[]) (wr.setRow g f.toArray):=fun ty=>by
     have h:=eZ (P:=prog) wr 127 44 ty R _ g (i*5) (l.length - i) (cap - i) (aU.cells q++sp).toArray 44 underlying127 hi Y (by omega) u
      (by simp only[qT,a];show i*5+(l.length - i)*5<=cap*5;omega) (fun v hv=>by simp[aU,Value.cells]at hv;rcases hv with rfl|rfl|rfl<;>rfl)
     rw[h];simp only[aU,m]at m ⊢
    have M:f.length=cap*5:=by
     rw[<-m];simp only[zC,zU,qB,hw];simp only[zC]at a;rw[a];omega
    have hy:f.take (i*5)=aU.cells (l.filter fun t=>!p t):=by
     rw[<-m,zH,qD (by rw[zU,a];omega),yO,Nat.min_self,qD (by omega)];have:=El.bb aU q i (by omega);rw[show i*5=i*aU.s from rfl,this,hd.done,V,qP nR]
    have hA:(l.filter fun t=>!p t).length=i:=by
     have:=congrArg List.length hd.done;rw[V,qP nR,zU,x]at this;omega
    have X:Hid (tV aU w base (some g) (l.filter fun t=>!p t) (.returned (.slice (some ⟨g,0,none⟩) i cap)) (wr.setRow g f.toArray)):=aH
     ⟨_,rfl,by unfold aK;rw[hA];exact aR.own (cs:=f) (u.set f) ha (by omega) hg M hy,aA I (fm _ _ _)⟩
    have hC:(l.length:Int)<=(cap:Int):=by omega
    subst V;go_wp2_with (refine dv _ rfl (.tmp 38) 127 rfl _ rfl (H _) ?_);go_ret;exact X
 ·have HF:=aH (gX p l hk);obtain⟨A,c,rfl,N⟩:=bV hown;have F:=aH (jv K caps p A c l w hown.rw (by omega) hent ht);have S:ey (bO p l) l.length= -1:=by simp[ey];omega
  rw[S]at F;have I:=aH hown;apply cI;go_in;go_wp2_with fail;refine F.mono ?_;rintro e w1 ⟨rfl,s⟩;have B:=aH s;go_wp2;go_ret;exact⟨_,rfl,by rw[HF];exact aI I B,⟨B.os,B.tape,B.output,B.size,fun k hk _=>B.block k hk⟩⟩
theorem rO(K:Nat) caps(p:_->Bool)(base:Nat)(v:Value)(l:List _)(w:World)(hown:aK aJ base w v l)
  (hn:l.length<=1000000000) (hent:∀args W,(callFunc K args).run prog W=.ok (.enter K args) W) (ht:∀t W,Below w.heap.size w W->Cs K (#[(fun t=>.agg #[I6 t.nd,I6 t.n]) t]++caps) W fun e W'=>Rt e (.bool (p t))/\Below W.heap.size W W')
  (hp:∀g,v.ownBlock=some g->p9 aJ (fun t=>.agg #[I6 t.nd,I6 t.n]) w g K caps p):
  Cs 387 #[v,.func (.func K) #[] caps] w (tV aJ w base v.ownBlock (l.filter fun t=>!p t)):=by
 obtain⟨R,hi,Y,Z,hD⟩:=info_parts aJ.info;rcases jH (bO p l) l.length with hk|hk
 ·obtain⟨g,cap,sp,rfl,ha,D,M,hb,F⟩:=hown.af (by omega);obtain⟨HR,HP,C,HS⟩:=gD D (hp g rfl) (mJ K caps p (some ⟨g,0,none⟩) cap l w (D.bl M) (by omega) hent ht) (ji.start p l hk);have S:ey (bO p l) l.length=(bO p l:Nat):=by simp[ey,hk]
  rw[S]at C;obtain⟨T,hc⟩:=nx (bO p l);rw[hc]at C HS hk;have hE:((T:Int)== -1)=false:=beq_eq_false_iff_ne.2 (by omega);obtain⟨hf,hg⟩:=gB F hb;apply cI;go_in;go_wp2_with fail;refine C.mono ?_;rintro e w1 ⟨rfl,m⟩;obtain⟨hh,hl⟩:=gB (HR.below m) (aG (g:=g) m);go_wp2;go_loopw[5,6] (fun vi vj wr=>∃(i j:Nat) (q:List _),vi=I6 i/\vj=I6 j/\ji p l q i j/\aR wr g aJ.ty (aJ.cells q++sp)/\aW g w wr) (fun _ vj _=>l.length - (intOf vj).toNat)
  case atStart=>exact⟨T,T+1,l,rfl,by go_num,HS,hh,hl⟩
  case round=>
   obtain⟨i,j,q,rfl,rfl,hd,hr,ho⟩:=hrel;obtain⟨HD,n,G⟩:=gC hd hr ho;have hF:=hd.lt;have hG:=hd.le;have s:=hd.len;by_cases hlt:j < l.length
   ·have bI:=n.at_ (hd.at_ hlt);obtain⟨HQ,u,x⟩:=gC s (fun hp=>HD.keep hlt hp) (fun hp=>HD.skip hlt hp);generalize hz:l[j]=t at bI u x;have c0:Ce wr g (j*2) (I6 t.nd):=bI 0 _ rfl;have c1:Ce wr g (j*2+1) (I6 t.n):=bI 1 _ rfl;go_wp2_with fail;refine(HP t _ (aA G (aG (ba wr (.cells #[I6 t.nd,I6 t.n] 42))))).mono ?_;rintro e w2 ⟨rfl,H⟩;obtain⟨N,z⟩:=gB (aA (aA G (aG (ba wr (.cells #[I6 t.nd,I6 t.n] 42)))) (aG H)) (n.below ((ba wr (.cells #[I6 t.nd,I6 t.n] 42)).trans (H.mono (ba wr (.cells #[I6 t.nd,I6 t.n] 42)).size)));have O:=(am.new wr 42 #[I6 t.nd,I6 t.n]).below H;have e0:=ce O;have e1:=dt O;have I:i < l.length:=by omega
    have hm:i < q.length:=by rw[HQ];exact I
    have J:=z.at_ (zA hm);generalize q[i]=y at J;have f0:Ce w2 g (i*2) (I6 y.nd):=J 0 _ rfl;have f1:Ce w2 g (i*2+1) (I6 y.n):=J 1 _ rfl;have hH:=fun j=>am.frozen (t:=aJ.ty) (cs:=(aJ.cells q++sp).toArray) z j;cases he:p t
    ·have U:=aH (u he);have hq:Hid (aR ((w2.setCell ⟨g,i*2,none⟩ (I6 t.nd)).setCell ⟨g,i*2+1,none⟩ (I6 t.n)) g aJ.ty (aJ.cells (q.set i t)++sp)):=aH (by rw[<-aJ.bo q i (by rw[HQ];exact I) t sp];exact((z).ag (i*2) (I6 t.nd)).ag (i*2+1) (I6 t.n));have hs:Hid (aW g w ((w2.setCell ⟨g,i*2,none⟩ (I6 t.nd)).setCell ⟨g,i*2+1,none⟩ (I6 t.n))):=aH (aA (aA (N) (aB _ g (i*2) (I6 t.nd))) (aB _ g (i*2+1) (I6 t.n)));go_wp2;go_roundw
     case rel=>exact⟨i+1,j+1,q.set i t,by go_num,by go_num,U,hq,hs⟩
     case measure=>simp[intOf];omega
    ·have U:=aH (x he);go_wp2;go_roundw
     case rel=>exact⟨i,j+1,q,rfl,by go_num,U,z,N⟩
     case measure=>simp[intOf];omega
   ·have V:j=l.length:=by omega
    have I:i < l.length:=by omega
    have hu:=e5 (P:=prog) 36 42 R underlying36 hi 2 Z .i64 g 0 l.length cap (i:Int) i rfl (by omega) (by omega);have hI:=eo (P:=prog) 36 42 R underlying36 hi .i64 (some ⟨g,0,none⟩) l.length cap i (by omega);rw[zR]at hu;have hB:(aJ.cells q).length=l.length*2:=by rw[aJ.ae,s];rfl
    have a:(aJ.cells q++sp).length=cap*2:=by have:=hf;rw[zC,aJ.ae]at this;rw[zC,aJ.ae,s];exact this
    obtain⟨b,f⟩:=nx ((aJ.cells q++sp).take (i*2)++(Builtin.zeroCells (Value.agg #[I6 0,I6 0]).cells (l.length - i)).toList++(aJ.cells q++sp).drop (i*2+(Builtin.zeroCells (Value.agg #[I6 0,I6 0]).cells (l.length - i)).toList.length));have hw:(Builtin.zeroCells (Value.agg #[I6 0,I6 0]).cells (l.length - i)).toList.length=(l.length - i)*2:=by rw[Array.length_toList,size_zeroCells];rfl
    have F:∀(ty:TypeId),(Builtin.clear_ #[36] ty #[.slice (some ⟨g,i*2,none⟩) (l.length - i) (cap - i)]).run prog wr=.ok (.tuple #[]) (wr.setRow g b.toArray):=fun ty=>by
     have h:=eZ (P:=prog) wr 36 42 ty R _ g (i*2) (l.length - i) (cap - i) (aJ.cells q++sp).toArray 42 underlying36 hi Y (by omega) n
      (by simp only[qT,a];show i*2+(l.length - i)*2<=cap*2;omega) (fun v hv=>by simp[aJ,Value.cells]at hv;subst hv;rfl)
     rw[h];simp only[aJ,f]at f ⊢
    have L:b.length=cap*2:=by
     rw[<-f];simp only[zC,zU,qB,hw];simp only[zC]at a;rw[a];omega
    have hy:b.take (i*2)=aJ.cells (l.filter fun t=>!p t):=by
     rw[<-f,zH,qD (by rw[zU,a];omega),yO,Nat.min_self,qD (by omega)];have:=El.bb aJ q i (by omega);rw[show i*2=i*aJ.s from rfl,this,hd.done,V,qP nR]
    have hA:(l.filter fun t=>!p t).length=i:=by
     have:=congrArg List.length hd.done;rw[V,qP nR,zU,s]at this;omega
    have X:Hid (tV aJ w base (some g) (l.filter fun t=>!p t) (.returned (.slice (some ⟨g,0,none⟩) i cap)) (wr.setRow g b.toArray)):=aH
     ⟨_,rfl,by unfold aK;rw[hA];exact aR.own (cs:=b) (n.set b) ha (by omega) hg L hy,aA G (fm _ _ _)⟩
    have hC:(l.length:Int)<=(cap:Int):=by omega
    subst V;go_wp2_with (refine dv _ rfl (.tmp 38) 36 rfl _ rfl (F _) ?_);go_ret;exact X
 ·have HF:=aH (gX p l hk);obtain⟨A,c,rfl,M⟩:=bV hown;have C:=aH (mJ K caps p A c l w hown.rw (by omega) hent ht);have S:ey (bO p l) l.length= -1:=by simp[ey];omega
  rw[S]at C;have G:=aH hown;apply cI;go_in;go_wp2_with fail;refine C.mono ?_;rintro e w1 ⟨rfl,m⟩;have B:=aH m;go_wp2;go_ret;exact⟨_,rfl,by rw[HF];exact aI G B,⟨B.os,B.tape,B.output,B.size,fun k hk _=>B.block k hk⟩⟩
theorem rP(K:Nat) caps(p:_->Bool)(base:Nat)(v:Value)(l:List _)(w:World)(hown:aK a7 base w v l)
  (hn:l.length<=1000000000) (hent:∀args W,(callFunc K args).run prog W=.ok (.enter K args) W) (ht:∀t W,Below w.heap.size w W->Cs K (#[(fun t=>.agg #[.string (aF t.nm),I6 t.n]) t]++caps) W fun e W'=>Rt e (.bool (p t))/\Below W.heap.size W W')
  (hp:∀g,v.ownBlock=some g->p9 a7 (fun t=>.agg #[.string (aF t.nm),I6 t.n]) w g K caps p):
  Cs 268 #[v,.func (.func K) #[] caps] w (tV a7 w base v.ownBlock (l.filter fun t=>!p t)):=by
 obtain⟨R,hi,Y,Z,hD⟩:=info_parts a7.info;rcases jH (bO p l) l.length with hk|hk
 ·obtain⟨g,cap,sp,rfl,ha,D,M,hb,F⟩:=hown.af (by omega);obtain⟨HR,HP,C,HS⟩:=gD D (hp g rfl) (mK K caps p (some ⟨g,0,none⟩) cap l w (D.bl M) (by omega) hent ht) (ji.start p l hk);have S:ey (bO p l) l.length=(bO p l:Nat):=by simp[ey,hk]
  rw[S]at C;obtain⟨T,hc⟩:=nx (bO p l);rw[hc]at C HS hk;have hE:((T:Int)== -1)=false:=beq_eq_false_iff_ne.2 (by omega);obtain⟨hf,hg⟩:=gB F hb;apply cI;go_in;go_wp2_with fail;refine C.mono ?_;rintro e w1 ⟨rfl,m⟩;obtain⟨hh,hl⟩:=gB (HR.below m) (aG (g:=g) m);go_wp2;go_loopw[5,6] (fun vi vj wr=>∃(i j:Nat) (q:List _),vi=I6 i/\vj=I6 j/\ji p l q i j/\aR wr g a7.ty (a7.cells q++sp)/\aW g w wr) (fun _ vj _=>l.length - (intOf vj).toNat)
  case atStart=>exact⟨T,T+1,l,rfl,by go_num,HS,hh,hl⟩
  case round=>
   obtain⟨i,j,q,rfl,rfl,hd,hr,ho⟩:=hrel;obtain⟨HD,n,G⟩:=gC hd hr ho;have hF:=hd.lt;have hG:=hd.le;have s:=hd.len;by_cases hlt:j < l.length
   ·have bI:=n.at_ (hd.at_ hlt);obtain⟨HQ,u,x⟩:=gC s (fun hp=>HD.keep hlt hp) (fun hp=>HD.skip hlt hp);generalize hz:l[j]=t at bI u x;have c0:Ce wr g (j*2) (.string (aF t.nm)):=bI 0 _ rfl;have c1:Ce wr g (j*2+1) (I6 t.n):=bI 1 _ rfl;go_wp2_with fail;refine(HP t _ (aA G (aG (ba wr (.cells #[.string (aF t.nm),I6 t.n] 230))))).mono ?_;rintro e w2 ⟨rfl,H⟩;obtain⟨N,z⟩:=gB (aA (aA G (aG (ba wr (.cells #[.string (aF t.nm),I6 t.n] 230)))) (aG H)) (n.below ((ba wr (.cells #[.string (aF t.nm),I6 t.n] 230)).trans (H.mono (ba wr (.cells #[.string (aF t.nm),I6 t.n] 230)).size)));have O:=(am.new wr 230 #[.string (aF t.nm),I6 t.n]).below H;have e0:=ce O;have e1:=dt O;have I:i < l.length:=by omega
    have hm:i < q.length:=by rw[HQ];exact I
    have J:=z.at_ (zA hm);generalize q[i]=y at J;have f0:Ce w2 g (i*2) (.string (aF y.nm)):=J 0 _ rfl;have f1:Ce w2 g (i*2+1) (I6 y.n):=J 1 _ rfl;have hH:=fun j=>am.frozen (t:=a7.ty) (cs:=(a7.cells q++sp).toArray) z j;cases he:p t
    ·have U:=aH (u he);have hq:Hid (aR ((w2.setCell ⟨g,i*2,none⟩ (.string (aF t.nm))).setCell ⟨g,i*2+1,none⟩ (I6 t.n)) g a7.ty (a7.cells (q.set i t)++sp)):=aH (by rw[<-a7.bo q i (by rw[HQ];exact I) t sp];exact((z).ag (i*2) (.string (aF t.nm))).ag (i*2+1) (I6 t.n));have hs:Hid (aW g w ((w2.setCell ⟨g,i*2,none⟩ (.string (aF t.nm))).setCell ⟨g,i*2+1,none⟩ (I6 t.n))):=aH (aA (aA (N) (aB _ g (i*2) (.string (aF t.nm)))) (aB _ g (i*2+1) (I6 t.n)));go_wp2;go_roundw
     case rel=>exact⟨i+1,j+1,q.set i t,by go_num,by go_num,U,hq,hs⟩
     case measure=>simp[intOf];omega
    ·have U:=aH (x he);go_wp2;go_roundw
     case rel=>exact⟨i,j+1,q,rfl,by go_num,U,z,N⟩
     case measure=>simp[intOf];omega
   ·have V:j=l.length:=by omega
    have I:i < l.length:=by omega
    have hu:=e5 (P:=prog) 151 230 R underlying151 hi 2 Z .i64 g 0 l.length cap (i:Int) i rfl (by omega) (by omega);have hI:=eo (P:=prog) 151 230 R underlying151 hi .i64 (some ⟨g,0,none⟩) l.length cap i (by omega);rw[zR]at hu;have hB:(a7.cells q).length=l.length*2:=by rw[a7.ae,s];rfl
    have a:(a7.cells q++sp).length=cap*2:=by have:=hf;rw[zC,a7.ae]at this;rw[zC,a7.ae,s];exact this
    obtain⟨b,f⟩:=nx ((a7.cells q++sp).take (i*2)++(Builtin.zeroCells (Value.agg #[Se,I6 0]).cells (l.length - i)).toList++(a7.cells q++sp).drop (i*2+(Builtin.zeroCells (Value.agg #[Se,I6 0]).cells (l.length - i)).toList.length));have hw:(Builtin.zeroCells (Value.agg #[Se,I6 0]).cells (l.length - i)).toList.length=(l.length - i)*2:=by rw[Array.length_toList,size_zeroCells];rfl
    have F:∀(ty:TypeId),(Builtin.clear_ #[151] ty #[.slice (some ⟨g,i*2,none⟩) (l.length - i) (cap - i)]).run prog wr=.ok (.tuple #[]) (wr.setRow g b.toArray):=fun ty=>by
     have h:=eZ (P:=prog) wr 151 230 ty R _ g (i*2) (l.length - i) (cap - i) (a7.cells q++sp).toArray 230 underlying151 hi Y (by omega) n
      (by simp only[qT,a];show i*2+(l.length - i)*2<=cap*2;omega) (fun v hv=>by simp[a7,Value.cells]at hv;rcases hv with rfl|rfl<;>rfl)
     rw[h];simp only[a7,f]at f ⊢
    have L:b.length=cap*2:=by
     rw[<-f];simp only[zC,zU,qB,hw];simp only[zC]at a;rw[a];omega
    have hy:b.take (i*2)=a7.cells (l.filter fun t=>!p t):=by
     rw[<-f,zH,qD (by rw[zU,a];omega),yO,Nat.min_self,qD (by omega)];have:=El.bb a7 q i (by omega);rw[show i*2=i*a7.s from rfl,this,hd.done,V,qP nR]
    have hA:(l.filter fun t=>!p t).length=i:=by
     have:=congrArg List.length hd.done;rw[V,qP nR,zU,s]at this;omega
    have X:Hid (tV a7 w base (some g) (l.filter fun t=>!p t) (.returned (.slice (some ⟨g,0,none⟩) i cap)) (wr.setRow g b.toArray)):=aH
     ⟨_,rfl,by unfold aK;rw[hA];exact aR.own (cs:=b) (n.set b) ha (by omega) hg L hy,aA G (fm _ _ _)⟩
    have hC:(l.length:Int)<=(cap:Int):=by omega
    subst V;go_wp2_with (refine dv _ rfl (.tmp 38) 151 rfl _ rfl (F _) ?_);go_ret;exact X
 ·have HF:=aH (gX p l hk);obtain⟨A,c,rfl,M⟩:=bV hown;have C:=aH (mK K caps p A c l w hown.rw (by omega) hent ht);have S:ey (bO p l) l.length= -1:=by simp[ey];omega
  rw[S]at C;have G:=aH hown;apply cI;go_in;go_wp2_with fail;refine C.mono ?_;rintro e w1 ⟨rfl,m⟩;have B:=aH m;go_wp2;go_ret;exact⟨_,rfl,by rw[HF];exact aI G B,⟨B.os,B.tape,B.output,B.size,fun k hk _=>B.block k hk⟩⟩
end Go.Proofs.YthdfgdicnplhlaaGreatDoor
