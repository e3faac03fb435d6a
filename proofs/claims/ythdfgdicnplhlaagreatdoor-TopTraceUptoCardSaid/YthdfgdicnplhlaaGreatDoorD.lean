import Derived.Test.YthdfgdicnplhlaaGreatDoorC
import Derived.Shelf.Lay
set_option maxHeartbeats 16000000
set_option maxRecDepth 100000
set_option linter.all false
namespace Go.Proofs.YthdfgdicnplhlaaGreatDoor
open Go.RowKit Hd _root_.Go.Proofs.Tryz
variable{G F sl e s b:Nat}{α:Type}{E:El α}{a:List _}{l:List α}{m:List bC}{w w':World}{g cap n base:Nat}{wr:World}{i k:Nat}{t:TypeId}{r:Nat}{ops:Array Oper}{rest:List Oper}{o:Oper}{Q:Exit->Act->World->Prop}{v v':Value}{c:List bC}{w0:World}{v2:Value}{lb lc la ld:List bC}{W0:World}{vb vc:Value}{clk:Int}
def By(G F sl e s b:Nat)(z:Value):Prop:=(G=411/\F=377/\sl=36/\e=42/\s=2/\b=16/\z=.agg #[I6 0,I6 0])\/
 (G=296/\F=194/\sl=117/\e=121/\s=3/\b=24/\z=.agg #[I6 0,I6 0,I6 0])\/
 (G=100/\F=45/\sl=34/\e=3/\s=1/\b=8/\z=I6 0)\/
 (G=233/\F=144/\sl=80/\e=104/\s=3/\b=32/\z=.agg #[I6 0,I6 0,Se])
theorem By.facts{z:Value}(h:By G F sl e s b z):prog.underlying sl=some (.slice e)/\(prog.info? e).map (fun i=>(i.zero,i.size,i.bytes))=some (some z,s,b)/\z.cells.size=s:=by
 rcases h with⟨rfl,rfl,rfl,rfl,rfl,rfl,rfl⟩|⟨rfl,rfl,rfl,rfl,rfl,rfl,rfl⟩|⟨rfl,rfl,rfl,rfl,rfl,rfl,rfl⟩|⟨rfl,rfl,rfl,rfl,rfl,rfl,rfl⟩<;>exact⟨by kernel_rfl,by kernel_rfl,by kernel_rfl⟩
theorem Bz{z}(i:By G F sl e s b z)(n:Nat)(w:World)(C:n*b<=140737488355328):
  Cs G #[aS,I6 n] w fun en w'=>∃A c,Rt en (.slice A 0 c)/\w'.ownsRow w.heap.size e s (.slice A 0 c) 0 []/\Below w.heap.size w w'/\n<=c:=by
 obtain⟨m,p,q⟩:=i.facts;obtain⟨u,hi,j,B,k⟩:=info_parts p;obtain⟨x,D,H⟩:=gC m q i;rcases i with⟨rfl,rfl,rfl,rfl,g,a,f⟩|⟨rfl,rfl,rfl,rfl,g,a,f⟩|⟨rfl,rfl,rfl,rfl,g,a,f⟩|⟨rfl,rfl,rfl,rfl,g,a,f⟩;all_goals
  rcases qK n with h0|h0
  ·subst h0;subst g a f;apply cI;go_in;go_wp2;go_ret;exact⟨none,0,rfl,World.ownsRow_nil _ _ _ _,bR _,nR⟩
  ·have I:¬((n:Int) < 0):=by(first|omega|(subst a;omega))
   have J:(0:Int) < (n:Int):=by(first|omega|(subst a;omega))
   have L:(n:Int)<=9223372036854775807:=by(first|omega|(subst a;omega))
   subst g a f;apply cI;go_in;go_wp2_with (at_builtin;refine jZ _ rfl (.tmp 20) (.tmp 21) _ 3 rfl _ _ rfl rfl _ _ (Lib.run_append_nil_zeros _ _ _ _ _ u _ _ .i64 x underlying3 hi j n h0 (by omega) (by omega) (by rw[k];omega)) ?_);go_ret;have h:=fun t=>grownCap_ge w n 0 t;have y:=fun t=>grownCap_le_maxLen w n 0 t (by unfold maxLen;(first|omega|(subst a;omega)));refine⟨_,_,rfl,jP w _ _ nR (y _) ?_,(ba _ _).drew,h _⟩;rw[xE,size_zeroCells,size_zeroCells,<-Nat.add_mul,Nat.add_sub_cancel' (h _)];rfl
theorem xC{z}(C:By G F sl e s b z)(g:Nat) A1 A2(n1 n2 c1 c2:Nat) xs ys(w:World)
  (hb:am w g sl #[.slice A1 n1 c1,.slice A2 n2 c2]) (h1:Sl w s A1 n1 xs) (h2:Sl w s A2 n2 ys)
  (o1:∀u∈xs,u.oneCell'=true) (o2:∀u∈ys,u.oneCell'=true) (hn:(n1+n2)*b<=140737488355328):
  Cs F #[.slice (some ⟨g,0,none⟩) 2 2] w fun en w'=>∃v,Rt en v/\w'.ownsRow w.heap.size e s v (n1+n2) (xs++ys)/\Below w.heap.size w w':=by
 obtain⟨R,S,T⟩:=C.facts;obtain⟨H,hi,y,A,B⟩:=info_parts S;obtain⟨I,HZ,U⟩:=gC R T C;rcases C with⟨rfl,rfl,rfl,rfl,n,a,h⟩|⟨rfl,rfl,rfl,rfl,n,a,h⟩|⟨rfl,rfl,rfl,rfl,n,a,h⟩|⟨rfl,rfl,rfl,rfl,n,a,h⟩;all_goals
  have J:=hb.cell 0;have L:=hb.cell 1;simp at J L;obtain⟨V,X,j⟩:=gC h1 h2 hb;have b1:(n1:Int)+(n2:Int)<=140737488355328:=by(subst a;omega)
  obtain⟨Y,Z,Q3,Q4,Hn⟩:=gE (show 0+n1<=maxLen by unfold maxLen;(subst a;omega)) (show(0+n1)*b<=140737488355328 by(subst a;omega)) (show n1+n2<=maxLen by unfold maxLen;(subst a;omega)) (show(n1+n2)*b<=140737488355328 by(subst a;omega)) hn;subst n a h;apply cI;go_in;go_wp2_with fail;refine wp_loop_rounds 3 ?_;rw[rounds_succ];go_wp2_with fail;rw[rounds_succ];go_wp2_with fail;rw[rounds_succ];go_wp2_with fail;rw[show(n1:Int)+(n2:Int)=((n1+n2:Nat):Int)from by omega];refine(Bz U (n1+n2) w Hn).mono ?_;rintro hd w1 ⟨A0,c0,rfl,D,c,he⟩;have k0:=(c.cell (p:=⟨g,0,none⟩) j.lt).trans J;have k1:=(c.cell (p:=⟨g,1,none⟩) j.lt).trans L;have m:=aH D;go_wp2_with fail;refine wp_loop_rounds 3 ?_;rw[rounds_succ];go_wp2_with (at_builtin;refine bA _ rfl (.tmp 31) (.tmp 32) _ rfl w.heap.size _ H _ _ _ I hi y A B rfl (by decide) _ 0 [] rfl m A1 n1 c1 xs rfl (V.below c) o1 Y Z c.size ?_);intro v1 w2 q M ha;have f:Bw w w2:=c.grown M c.size (fun k hk=>(m.lt k hk).1);have i:=aH q;have m0:=(f.cell (p:=⟨g,0,none⟩) j.lt).trans (j.cell 0);have m1:=(f.cell (p:=⟨g,1,none⟩) j.lt).trans (j.cell 1);simp at m0 m1;go_wp2_with fail;rw[rounds_succ];go_wp2_with (at_builtin;(refine bA _ rfl (.tmp 31) (.tmp 32) _ rfl w.heap.size _ H _ _ _ I hi y A B rfl (by decide) _ n1 xs rfl i A2 n2 c2 ys rfl (X.below f) o2 Q3 Q4 f.size ?_));intro v3 w3 t N hc;have O:Bw w w3:=f.grown N f.size (fun k hk=>(i.lt k hk).1)
  have x:=aH t;go_wp2_with fail;rw[rounds_succ];go_wp2_with fail;go_ret;exact⟨_,rfl,x,O⟩
def e3(c:α->α->Bool):List α->List α->Bool
 |[],[]=>true
 |a::l,b::m=>c a b&&e3 c l m
 |_,_=>false
theorem iK(a:α->α->Bool)(l m:List α)(k:Nat)(h:k < l.length)(b:k < m.length):e3 a (l.drop k) (m.drop k)=(a l[k] m[k]&&e3 a (l.drop (k+1)) (m.drop (k+1))):=by
 rw[wA h,wA b];rfl
theorem kp(c:α->α->Bool)(l m:List α)(h:l.length≠m.length):e3 c l m=false:=by
 induction l generalizing m with
 |nil=>cases m with
  |nil=>simp at h
  |cons=>rfl
 |cons a l ih=>cases m with
  |nil=>rfl
  |cons b m=>unfold e3;rw[ih m (by simpa using h)];simp
theorem EU(h:By G F E.sl E.ty E.s E.bytes E.z){v1 v2}{a b:List α}(g:Nat) w(hb:am w g E.sl #[v1,v2])(c:Rw E w v1 a)(f:Rw E w v2 b)(hn:(a.length+b.length)*E.bytes<=140737488355328):
  Cs F #[.slice (some ⟨g,0,none⟩) 2 2] w (fk E w (a++b)):=by
 obtain⟨i,c1,rfl,_,c⟩:=c;obtain⟨j,c2,rfl,_,f⟩:=f;refine(xC h g i j _ _ c1 c2 _ _ w hb c.sl f.sl (E.cells_one a) (E.cells_one b) hn).mono ?_;rintro e w' ⟨v,rfl,k,m⟩;refine⟨v,rfl,?_,m⟩;unfold aK;rw[E.al,zC];exact k
theorem mM{v1 v2}{b:List _}(g:Nat) w(hb:am w g 36 #[v1,v2])(h1:Rw aJ w v1 a)(h2:Rw aJ w v2 b)(hn:(a.length+b.length)*16<=140737488355328):
  Cs 377 #[.slice (some ⟨g,0,none⟩) 2 2] w (fk aJ w (a++b)):=EU (Or.inl ⟨rfl,rfl,rfl,rfl,rfl,rfl,rfl⟩) g w hb h1 h2 hn
theorem BA{v1 v2}{b:List _}(g:Nat) w(hb:am w g 117 #[v1,v2])(h1:Rw aL w v1 a)(h2:Rw aL w v2 b)(hn:(a.length+b.length)*24<=140737488355328):
  Cs 194 #[.slice (some ⟨g,0,none⟩) 2 2] w (fk aL w (a++b)):=EU (Or.inr (Or.inl ⟨rfl,rfl,rfl,rfl,rfl,rfl,rfl⟩)) g w hb h1 h2 hn
theorem rQ{v1 v2}{b:List _}(g:Nat) w(hb:am w g 34 #[v1,v2])(h1:Rw aC w v1 a)(h2:Rw aC w v2 b)(hn:(a.length+b.length)*8<=140737488355328):
  Cs 45 #[.slice (some ⟨g,0,none⟩) 2 2] w (fk aC w (a++b)):=EU (Or.inr (Or.inr (Or.inl ⟨rfl,rfl,rfl,rfl,rfl,rfl,rfl⟩))) g w hb h1 h2 hn
def bU(a b:bC):Bool:=lW a b
theorem xF(a b:bC) w:(binOp .neq 42 (.agg #[I6 a.nd,I6 a.n]) (.agg #[I6 b.nd,I6 b.n])).run prog w=.ok (.bool !(bU a b)) w:=by
 have c:prog.stoodInHeld 42=false:=by kernel_rfl
 have f:prog.underlying 42=some (.struct (prog.fieldsOf 42)):=by kernel_rfl
 have g:prog.underlying 3=some (.int .i64):=by kernel_rfl
 have h:prog.underlying 9=some .string:=by kernel_rfl
 rw[run_neq_struct,run_equalIn_struct w 9999 _ _ _ f c];simp[Op.eqFields,go_sem];by_cases e0:a.nd=b.nd<;>by_cases e1:a.n=b.n<;>simp[bU,lW,e0,e1]
theorem lE(c:BinOp)(x y:Operand)(a b:bC) w:(eqGuard c 42 x y (.agg #[I6 a.nd,I6 a.n]) (.agg #[I6 b.nd,I6 b.n])).run prog w=.ok () w:=run_eqGuard_agg (P:=prog) w c _ x y _ _ (by kernel_rfl)
theorem kq{v1 v2}{l:List bC}(w:World)(D:Rw aJ w v1 l)(F:Rw aJ w v2 m)(J:l.length<=9223372036854775807)(L:m.length<=9223372036854775807):
  Cs 305 #[v1,v2] w fun e w'=>Rt e (.bool (e3 bU l m))/\Below w.heap.size w w':=by
 obtain⟨A,c,rfl,_,s⟩:=D;obtain⟨B,d,rfl,_,z⟩:=F;obtain⟨G,H⟩:=gB (show Rw aJ w (.slice A l.length c) l from⟨_,_,rfl,by assumption,s⟩) (show Rw aJ w (.slice B m.length d) m from⟨_,_,rfl,by assumption,z⟩);by_cases hlen:l.length=m.length
 ·have hd:(((l.length:Int)) != (m.length:Int))=false:=by simp[hlen]
  have h:=aH hlen;apply cI;go_in;go_wp2_with fail;go_loopw[5,13] (fun _ i wr=>∃k:Nat,k<=l.length/\i=I6 k/\e3 bU l m=e3 bU (l.drop k) (m.drop k)/\Bw w wr) (fun _ i _=>l.length - (intOf i).toNat)
  case atStart=>exact⟨0,zS _,rfl,by simp,bR _⟩
  case round=>
   obtain⟨k,M,rfl,f,j⟩:=hrel;have q:=aH f;by_cases hlt:k < l.length
   ·have n:k < m.length:=by have:=h.out;omega
    obtain⟨g,o,rfl,bI⟩:=(G.below j).at_ (zA hlt);obtain⟨C,o2,rfl,a⟩:=(H.below j).at_ (zA n);have p:=aH (iK bU l m k hlt n);generalize hz:l[k]=t at bI p;generalize hz2:m[k]=u at a p;have N:Ce wr g (o+k*2) (I6 t.nd):=bI 0 _ rfl;have c1:Ce wr g (o+k*2+1) (I6 t.n):=bI 1 _ rfl;have O:Ce wr C (o2+k*2) (I6 u.nd):=a 0 _ rfl;have R:Ce wr C (o2+k*2+1) (I6 u.n):=a 1 _ rfl;have S:=fun W=>xF t u W;have T:=fun op x y W=>lE op x y t u W;cases f:bU t u
    ·have I:(!bU t u)=true:=by rw[f];rfl
     have b:Hid (e3 bU l m=false):=aH (by rw[q,p,f];rfl);go_wp2_with fail;go_quiet (fail);go_wp2_with fail;go_ret;exact⟨by rw[b];rfl,below_drewN j _⟩
    ·have I:(!bU t u)=false:=by rw[f];rfl
     have b:Hid (e3 bU l m=e3 bU (l.drop (k+1)) (m.drop (k+1))):=aH (by rw[q,p,f];rfl);go_wp2_with fail;go_quiet (fail);go_wp2_with fail;go_roundw
     case rel=>exact⟨k+1,by omega,by go_num,b,below_drewN j _⟩
     case measure=>simp[intOf];omega
   ·have b:Hid (e3 bU l m=true):=aH (by rw[q,qH (by omega),qH (by have:=h;omega)];rfl);go_wp2_with fail;go_ret;exact⟨by rw[b];rfl,j⟩
 ·have hd:(((l.length:Int)) != (m.length:Int))=true:=by rw[bne_iff_ne];omega
  have b:=aH (kp bU l m hlen);apply cI;go_in;go_wp2_with fail;go_ret;exact⟨by rw[b];rfl,bR _⟩
def dN(a b:Pe):Bool:=a.id==b.id&&a.inc==b.inc&&a.st==b.st
theorem BB(a b:Pe) w:(binOp .neq 121 (.agg #[I6 a.id,I6 a.inc,I6 a.st]) (.agg #[I6 b.id,I6 b.inc,I6 b.st])).run prog w=.ok (.bool !(dN a b)) w:=by
 have c:prog.stoodInHeld 121=false:=by kernel_rfl
 have f:prog.underlying 121=some (.struct (prog.fieldsOf 121)):=by kernel_rfl
 have g:prog.underlying 3=some (.int .i64):=by kernel_rfl
 have h:prog.underlying 9=some .string:=by kernel_rfl
 rw[run_neq_struct,run_equalIn_struct w 9999 _ _ _ f c];simp[Op.eqFields,go_sem];by_cases e0:a.id=b.id<;>by_cases e1:a.inc=b.inc<;>by_cases e2:a.st=b.st<;>simp[dN,e0,e1,e2]
theorem qa(c:BinOp)(x y:Operand)(a b:Pe) w:(eqGuard c 121 x y (.agg #[I6 a.id,I6 a.inc,I6 a.st]) (.agg #[I6 b.id,I6 b.inc,I6 b.st])).run prog w=.ok () w:=run_eqGuard_agg (P:=prog) w c _ x y _ _ (by kernel_rfl)
theorem fY{v1 v2}{l m:List Pe}(w:World)(D:Rw aL w v1 l)(F:Rw aL w v2 m)(J:l.length<=9223372036854775807)(L:m.length<=9223372036854775807):
  Cs 67 #[v1,v2] w fun e w'=>Rt e (.bool (e3 dN l m))/\Below w.heap.size w w':=by
 obtain⟨A,c,rfl,_,z⟩:=D;obtain⟨B,d,rfl,_,C⟩:=F;obtain⟨G,H⟩:=gB (show Rw aL w (.slice A l.length c) l from⟨_,_,rfl,by assumption,z⟩) (show Rw aL w (.slice B m.length d) m from⟨_,_,rfl,by assumption,C⟩);by_cases hlen:l.length=m.length
 ·have hd:(((l.length:Int)) != (m.length:Int))=false:=by simp[hlen]
  have h:=aH hlen;apply cI;go_in;go_wp2_with fail;go_loopw[5,13] (fun _ i wr=>∃k:Nat,k<=l.length/\i=I6 k/\e3 dN l m=e3 dN (l.drop k) (m.drop k)/\Bw w wr) (fun _ i _=>l.length - (intOf i).toNat)
  case atStart=>exact⟨0,zS _,rfl,by simp,bR _⟩
  case round=>
   obtain⟨k,M,rfl,f,j⟩:=hrel;have q:=aH f;by_cases hlt:k < l.length
   ·have n:k < m.length:=by have:=h.out;omega
    obtain⟨g,o,rfl,bI⟩:=(G.below j).at_ (zA hlt);obtain⟨s,o2,rfl,a⟩:=(H.below j).at_ (zA n);have p:=aH (iK dN l m k hlt n);generalize hz:l[k]=t at bI p;generalize hz2:m[k]=u at a p;have N:Ce wr g (o+k*3) (I6 t.id):=bI 0 _ rfl;have c1:Ce wr g (o+k*3+1) (I6 t.inc):=bI 1 _ rfl;have c2:Ce wr g (o+k*3+2) (I6 t.st):=bI 2 _ rfl;have O:Ce wr s (o2+k*3) (I6 u.id):=a 0 _ rfl;have R:Ce wr s (o2+k*3+1) (I6 u.inc):=a 1 _ rfl;have S:Ce wr s (o2+k*3+2) (I6 u.st):=a 2 _ rfl;have T:=fun W=>BB t u W;have U:=fun op x y W=>qa op x y t u W;cases f:dN t u
    ·have I:(!dN t u)=true:=by rw[f];rfl
     have b:Hid (e3 dN l m=false):=aH (by rw[q,p,f];rfl);go_wp2_with fail;go_quiet (fail);go_wp2_with fail;go_ret;exact⟨by rw[b];rfl,below_drewN j _⟩
    ·have I:(!dN t u)=false:=by rw[f];rfl
     have b:Hid (e3 dN l m=e3 dN (l.drop (k+1)) (m.drop (k+1))):=aH (by rw[q,p,f];rfl);go_wp2_with fail;go_quiet (fail);go_wp2_with fail;go_roundw
     case rel=>exact⟨k+1,by omega,by go_num,b,below_drewN j _⟩
     case measure=>simp[intOf];omega
   ·have b:Hid (e3 dN l m=true):=aH (by rw[q,qH (by omega),qH (by have:=h;omega)];rfl);go_wp2_with fail;go_ret;exact⟨by rw[b];rfl,j⟩
 ·have hd:(((l.length:Int)) != (m.length:Int))=true:=by rw[bne_iff_ne];omega
  have b:=aH (kp dN l m hlen);apply cI;go_in;go_wp2_with fail;go_ret;exact⟨by rw[b];rfl,bR _⟩
def dD(a b:be):Bool:=lW a.d b.d&&a.rc==b.rc&&a.un==b.un
theorem BC(a b:be) w:(binOp .neq 212 (.agg #[I6 a.d.nd,I6 a.d.n,I6 a.rc,I6 a.un]) (.agg #[I6 b.d.nd,I6 b.d.n,I6 b.rc,I6 b.un])).run prog w=.ok (.bool !(dD a b)) w:=by
 have c:prog.stoodInHeld 212=false:=by kernel_rfl
 have f:prog.underlying 212=some (.struct (prog.fieldsOf 212)):=by kernel_rfl
 have g:prog.stoodInHeld 42=false:=by kernel_rfl
 have h:prog.underlying 42=some (.struct (prog.fieldsOf 42)):=by kernel_rfl
 have i:prog.underlying 3=some (.int .i64):=by kernel_rfl
 have j:prog.underlying 9=some .string:=by kernel_rfl
 rw[run_neq_struct,run_equalIn_struct w 9999 _ _ _ f c];simp[Op.eqFields,go_sem];by_cases e0:a.d.nd=b.d.nd<;>by_cases e1:a.d.n=b.d.n<;>by_cases e2:a.rc=b.rc<;>by_cases e3:a.un=b.un<;>simp[dD,lW,e0,e1,e2,e3]
theorem qb(c:BinOp)(x y:Operand)(a b:be) w:(eqGuard c 212 x y (.agg #[I6 a.d.nd,I6 a.d.n,I6 a.rc,I6 a.un]) (.agg #[I6 b.d.nd,I6 b.d.n,I6 b.rc,I6 b.un])).run prog w=.ok () w:=run_eqGuard_agg (P:=prog) w c _ x y _ _ (by kernel_rfl)
theorem oQ{v1 v2}{l m:List be}(w:World)(D:Rw bF w v1 l)(F:Rw bF w v2 m)(J:l.length<=9223372036854775807)(L:m.length<=9223372036854775807):
  Cs 116 #[v1,v2] w fun e w'=>Rt e (.bool (e3 dD l m))/\Below w.heap.size w w':=by
 obtain⟨A,c,rfl,_,z⟩:=D;obtain⟨B,d,rfl,_,C⟩:=F;obtain⟨G,H⟩:=gB (show Rw bF w (.slice A l.length c) l from⟨_,_,rfl,by assumption,z⟩) (show Rw bF w (.slice B m.length d) m from⟨_,_,rfl,by assumption,C⟩);by_cases hlen:l.length=m.length
 ·have hd:(((l.length:Int)) != (m.length:Int))=false:=by simp[hlen]
  have h:=aH hlen;apply cI;go_in;go_wp2_with fail;go_loopw[5,13] (fun _ i wr=>∃k:Nat,k<=l.length/\i=I6 k/\e3 dD l m=e3 dD (l.drop k) (m.drop k)/\Bw w wr) (fun _ i _=>l.length - (intOf i).toNat)
  case atStart=>exact⟨0,zS _,rfl,by simp,bR _⟩
  case round=>
   obtain⟨k,M,rfl,f,j⟩:=hrel;have s:=aH f;by_cases hlt:k < l.length
   ·have n:k < m.length:=by have:=h.out;omega
    obtain⟨g,o,rfl,bI⟩:=(G.below j).at_ (zA hlt);obtain⟨p,o2,rfl,a⟩:=(H.below j).at_ (zA n);have q:=aH (iK dD l m k hlt n);generalize hz:l[k]=t at bI q;generalize hz2:m[k]=u at a q;have N:Ce wr g (o+k*4) (I6 t.d.nd):=bI 0 _ rfl;have c1:Ce wr g (o+k*4+1) (I6 t.d.n):=bI 1 _ rfl;have c2:Ce wr g (o+k*4+2) (I6 t.rc):=bI 2 _ rfl;have c3:Ce wr g (o+k*4+3) (I6 t.un):=bI 3 _ rfl;have O:Ce wr p (o2+k*4) (I6 u.d.nd):=a 0 _ rfl;have R:Ce wr p (o2+k*4+1) (I6 u.d.n):=a 1 _ rfl;have S:Ce wr p (o2+k*4+2) (I6 u.rc):=a 2 _ rfl;have T:Ce wr p (o2+k*4+3) (I6 u.un):=a 3 _ rfl;have U:=fun W=>BC t u W;have V:=fun op x y W=>qb op x y t u W;cases f:dD t u
    ·have I:(!dD t u)=true:=by rw[f];rfl
     have b:Hid (e3 dD l m=false):=aH (by rw[s,q,f];rfl);go_wp2_with fail;go_quiet (fail);go_wp2_with fail;go_ret;exact⟨by rw[b];rfl,below_drewN j _⟩
    ·have I:(!dD t u)=false:=by rw[f];rfl
     have b:Hid (e3 dD l m=e3 dD (l.drop (k+1)) (m.drop (k+1))):=aH (by rw[s,q,f];rfl);go_wp2_with fail;go_quiet (fail);go_wp2_with fail;go_roundw
     case rel=>exact⟨k+1,by omega,by go_num,b,below_drewN j _⟩
     case measure=>simp[intOf];omega
   ·have b:Hid (e3 dD l m=true):=aH (by rw[s,qH (by omega),qH (by have:=h;omega)];rfl);go_wp2_with fail;go_ret;exact⟨by rw[b];rfl,j⟩
 ·have hd:(((l.length:Int)) != (m.length:Int))=true:=by rw[bne_iff_ne];omega
  have b:=aH (kp dD l m hlen);apply cI;go_in;go_wp2_with fail;go_ret;exact⟨by rw[b];rfl,bR _⟩
def eC(a b:Tg):Bool:=(a.nm==b.nm)&&a.n==b.n
theorem Dv(a b:Tg) w:(binOp .neq 230 (.agg #[.string (aF a.nm),I6 a.n]) (.agg #[.string (aF b.nm),I6 b.n])).run prog w=.ok (.bool !(eC a b)) w:=by
 have c:prog.stoodInHeld 230=false:=by kernel_rfl
 have f:prog.underlying 230=some (.struct (prog.fieldsOf 230)):=by kernel_rfl
 have g:prog.underlying 3=some (.int .i64):=by kernel_rfl
 have h:prog.underlying 9=some .string:=by kernel_rfl
 rw[run_neq_struct,run_equalIn_struct w 9999 _ _ _ f c];simp[Op.eqFields,go_sem];by_cases e0:a.nm=b.nm<;>by_cases e1:a.n=b.n<;>simp[eC,e0,e1]
theorem rR(c:BinOp)(x y:Operand)(a b:Tg) w:(eqGuard c 230 x y (.agg #[.string (aF a.nm),I6 a.n]) (.agg #[.string (aF b.nm),I6 b.n])).run prog w=.ok () w:=run_eqGuard_agg (P:=prog) w c _ x y _ _ (by kernel_rfl)
theorem qd{v1 v2}{l m:List Tg}(w:World)(D:Rw a7 w v1 l)(F:Rw a7 w v2 m)(J:l.length<=9223372036854775807)(L:m.length<=9223372036854775807):
  Cs 174 #[v1,v2] w fun e w'=>Rt e (.bool (e3 eC l m))/\Below w.heap.size w w':=by
 obtain⟨A,c,rfl,_,s⟩:=D;obtain⟨B,d,rfl,_,z⟩:=F;obtain⟨G,H⟩:=gB (show Rw a7 w (.slice A l.length c) l from⟨_,_,rfl,by assumption,s⟩) (show Rw a7 w (.slice B m.length d) m from⟨_,_,rfl,by assumption,z⟩);by_cases hlen:l.length=m.length
 ·have hd:(((l.length:Int)) != (m.length:Int))=false:=by simp[hlen]
  have h:=aH hlen;apply cI;go_in;go_wp2_with fail;go_loopw[5,13] (fun _ i wr=>∃k:Nat,k<=l.length/\i=I6 k/\e3 eC l m=e3 eC (l.drop k) (m.drop k)/\Bw w wr) (fun _ i _=>l.length - (intOf i).toNat)
  case atStart=>exact⟨0,zS _,rfl,by simp,bR _⟩
  case round=>
   obtain⟨k,M,rfl,f,j⟩:=hrel;have q:=aH f;by_cases hlt:k < l.length
   ·have n:k < m.length:=by have:=h.out;omega
    obtain⟨g,o,rfl,bI⟩:=(G.below j).at_ (zA hlt);obtain⟨C,o2,rfl,a⟩:=(H.below j).at_ (zA n);have p:=aH (iK eC l m k hlt n);generalize hz:l[k]=t at bI p;generalize hz2:m[k]=u at a p;have N:Ce wr g (o+k*2) (.string (aF t.nm)):=bI 0 _ rfl;have c1:Ce wr g (o+k*2+1) (I6 t.n):=bI 1 _ rfl;have O:Ce wr C (o2+k*2) (.string (aF u.nm)):=a 0 _ rfl;have R:Ce wr C (o2+k*2+1) (I6 u.n):=a 1 _ rfl;have S:=fun W=>Dv t u W;have T:=fun op x y W=>rR op x y t u W;cases f:eC t u
    ·have I:(!eC t u)=true:=by rw[f];rfl
     have b:Hid (e3 eC l m=false):=aH (by rw[q,p,f];rfl);go_wp2_with fail;go_quiet (fail);go_wp2_with fail;go_ret;exact⟨by rw[b];rfl,below_drewN j _⟩
    ·have I:(!eC t u)=false:=by rw[f];rfl
     have b:Hid (e3 eC l m=e3 eC (l.drop (k+1)) (m.drop (k+1))):=aH (by rw[q,p,f];rfl);go_wp2_with fail;go_quiet (fail);go_wp2_with fail;go_roundw
     case rel=>exact⟨k+1,by omega,by go_num,b,below_drewN j _⟩
     case measure=>simp[intOf];omega
   ·have b:Hid (e3 eC l m=true):=aH (by rw[q,qH (by omega),qH (by have:=h;omega)];rfl);go_wp2_with fail;go_ret;exact⟨by rw[b];rfl,j⟩
 ·have hd:(((l.length:Int)) != (m.length:Int))=true:=by rw[bne_iff_ne];omega
  have b:=aH (kp eC l m hlen);apply cI;go_in;go_wp2_with fail;go_ret;exact⟨by rw[b];rfl,bR _⟩
def eD(a b:Mg):Bool:=lW a.d b.d&&(a.q==b.q)&&(a.b==b.b)&&a.c==b.c
theorem Dw(a b:Mg) w:(binOp .neq 44 (.agg #[I6 a.d.nd,I6 a.d.n,.string (aF a.q),.string (aF a.b),I6 a.c]) (.agg #[I6 b.d.nd,I6 b.d.n,.string (aF b.q),.string (aF b.b),I6 b.c])).run prog w=.ok (.bool !(eD a b)) w:=by
 have c:prog.stoodInHeld 44=false:=by kernel_rfl
 have f:prog.underlying 44=some (.struct (prog.fieldsOf 44)):=by kernel_rfl
 have g:prog.stoodInHeld 42=false:=by kernel_rfl
 have h:prog.underlying 42=some (.struct (prog.fieldsOf 42)):=by kernel_rfl
 have i:prog.underlying 3=some (.int .i64):=by kernel_rfl
 have j:prog.underlying 9=some .string:=by kernel_rfl
 rw[run_neq_struct,run_equalIn_struct w 9999 _ _ _ f c];simp[Op.eqFields,go_sem];by_cases e0:a.d.nd=b.d.nd<;>by_cases e1:a.d.n=b.d.n<;>by_cases e2:a.q=b.q<;>by_cases e3:a.b=b.b<;>by_cases e4:a.c=b.c<;>simp[eD,lW,e0,e1,e2,e3,e4]
theorem rS(c:BinOp)(x y:Operand)(a b:Mg) w:(eqGuard c 44 x y (.agg #[I6 a.d.nd,I6 a.d.n,.string (aF a.q),.string (aF a.b),I6 a.c]) (.agg #[I6 b.d.nd,I6 b.d.n,.string (aF b.q),.string (aF b.b),I6 b.c])).run prog w=.ok () w:=run_eqGuard_agg (P:=prog) w c _ x y _ _ (by kernel_rfl)
theorem qe{v1 v2}{l m:List Mg}(w:World)(D:Rw aU w v1 l)(F:Rw aU w v2 m)(J:l.length<=9223372036854775807)(L:m.length<=9223372036854775807):
  Cs 206 #[v1,v2] w fun e w'=>Rt e (.bool (e3 eD l m))/\Below w.heap.size w w':=by
 obtain⟨A,c,rfl,_,z⟩:=D;obtain⟨B,d,rfl,_,C⟩:=F;obtain⟨G,H⟩:=gB (show Rw aU w (.slice A l.length c) l from⟨_,_,rfl,by assumption,z⟩) (show Rw aU w (.slice B m.length d) m from⟨_,_,rfl,by assumption,C⟩);by_cases hlen:l.length=m.length
 ·have hd:(((l.length:Int)) != (m.length:Int))=false:=by simp[hlen]
  have h:=aH hlen;apply cI;go_in;go_wp2_with fail;go_loopw[5,13] (fun _ i wr=>∃k:Nat,k<=l.length/\i=I6 k/\e3 eD l m=e3 eD (l.drop k) (m.drop k)/\Bw w wr) (fun _ i _=>l.length - (intOf i).toNat)
  case atStart=>exact⟨0,zS _,rfl,by simp,bR _⟩
  case round=>
   obtain⟨k,M,rfl,f,j⟩:=hrel;have s:=aH f;by_cases hlt:k < l.length
   ·have n:k < m.length:=by have:=h.out;omega
    obtain⟨g,o,rfl,bI⟩:=(G.below j).at_ (zA hlt);obtain⟨p,o2,rfl,a⟩:=(H.below j).at_ (zA n);have q:=aH (iK eD l m k hlt n);generalize hz:l[k]=t at bI q;generalize hz2:m[k]=u at a q;have N:Ce wr g (o+k*5) (I6 t.d.nd):=bI 0 _ rfl;have c1:Ce wr g (o+k*5+1) (I6 t.d.n):=bI 1 _ rfl;have c2:Ce wr g (o+k*5+2) (.string (aF t.q)):=bI 2 _ rfl;have c3:Ce wr g (o+k*5+3) (.string (aF t.b)):=bI 3 _ rfl;have c4:Ce wr g (o+k*5+4) (I6 t.c):=bI 4 _ rfl;have O:Ce wr p (o2+k*5) (I6 u.d.nd):=a 0 _ rfl;have R:Ce wr p (o2+k*5+1) (I6 u.d.n):=a 1 _ rfl;have S:Ce wr p (o2+k*5+2) (.string (aF u.q)):=a 2 _ rfl;have T:Ce wr p (o2+k*5+3) (.string (aF u.b)):=a 3 _ rfl;have U:Ce wr p (o2+k*5+4) (I6 u.c):=a 4 _ rfl;have V:=fun W=>Dw t u W;have X:=fun op x y W=>rS op x y t u W;cases f:eD t u
    ·have I:(!eD t u)=true:=by rw[f];rfl
     have b:Hid (e3 eD l m=false):=aH (by rw[s,q,f];rfl);go_wp2_with fail;go_quiet (fail);go_wp2_with fail;go_ret;exact⟨by rw[b];rfl,below_drewN j _⟩
    ·have I:(!eD t u)=false:=by rw[f];rfl
     have b:Hid (e3 eD l m=e3 eD (l.drop (k+1)) (m.drop (k+1))):=aH (by rw[s,q,f];rfl);go_wp2_with fail;go_quiet (fail);go_wp2_with fail;go_roundw
     case rel=>exact⟨k+1,by omega,by go_num,b,below_drewN j _⟩
     case measure=>simp[intOf];omega
   ·have b:Hid (e3 eD l m=true):=aH (by rw[s,qH (by omega),qH (by have:=h;omega)];rfl);go_wp2_with fail;go_ret;exact⟨by rw[b];rfl,j⟩
 ·have hd:(((l.length:Int)) != (m.length:Int))=true:=by rw[bne_iff_ne];omega
  have b:=aH (kp eD l m hlen);apply cI;go_in;go_wp2_with fail;go_ret;exact⟨by rw[b];rfl,bR _⟩
section
open Go.Sort (flatK get_flatK HoldsK putRowK)
instance:Inhabited bC:=⟨⟨0,0⟩⟩
instance:Inhabited Sp:=⟨⟨0,0⟩⟩
instance:Inhabited Pe:=⟨⟨0,0,0⟩⟩
def e1(w w':World):Prop:=∃q os,w'=Sort.grow (w.drewN q) os
theorem e1.refl w:e1 w w:=⟨0,#[],by simp;rfl⟩
theorem e1.alloc(h:e1 w w')(o:Obj):e1 w (w'.alloc o):=by
 obtain⟨q,os,rfl⟩:=h;exact⟨q,os.push o,by simp[Sort.grow,World.alloc]⟩
theorem e1.drew(h:e1 w w'):e1 w w'.drew:=by
 obtain⟨q,os,rfl⟩:=h;exact⟨q+1,os,rfl⟩
theorem qf(b c f a:Int) w:
  Cs 375 #[.agg #[I6 b,I6 c],.agg #[I6 f,I6 a]] w fun e w'=>Rt e (I6 (ru (cH b f) (cH c a)))/\e1 w w':=by
 apply cI;go_in;go_wp2;refine aN 10 (by kernel_rfl) (by kernel_rfl) ?_;simp only[zF,zN,zG,zO];repeat still_step
 still_call ((fN _ _ _).mono fun _ _ ⟨he,hw⟩=>⟨he,hw.symm⟩);repeat still_step
 still_call ((fN _ _ _).mono fun _ _ ⟨he,hw⟩=>⟨he,hw.symm⟩);repeat still_step
 refine wpStill_nil ?_;obtain⟨W,g⟩:=nx (((w.alloc (.cells #[I6 b,I6 c] 42)).alloc (.cells #[I6 f,I6 a] 42)).drew);have j:e1 w W:=by rw[<-g];exact(((e1.refl _).alloc _).alloc _).drew
 rw[g];have k:=aH (j.alloc (.cells #[I6 (cH b f),I6 (cH c a)] 3));have h:=(am.new W 3 #[I6 (cH b f),I6 (cH c a)]).cell 0;have i:=(am.new W 3 #[I6 (cH b f),I6 (cH c a)]).cell 1;simp only[zL,zM,zP]at h i;obtain⟨m,n⟩:=gB h i;go_wp2_with fail;refine(p5 _ _ _ _ m n).mono ?_;rintro e w' ⟨rfl,rfl⟩;go_wp2;go_ret;exact⟨rfl,k⟩
theorem qg(b c f a:Int) w:
  Cs 322 #[.agg #[I6 b,I6 c],.agg #[I6 f,I6 a]] w fun e w'=>Rt e (I6 (ru (cH b f) (cH c a)))/\e1 w w':=by
 apply cI;go_in;go_wp2;refine aN 10 (by kernel_rfl) (by kernel_rfl) ?_;simp only[zF,zN,zG,zO];repeat still_step
 still_call ((fN _ _ _).mono fun _ _ ⟨he,hw⟩=>⟨he,hw.symm⟩);repeat still_step
 still_call ((fN _ _ _).mono fun _ _ ⟨he,hw⟩=>⟨he,hw.symm⟩);repeat still_step
 refine wpStill_nil ?_;obtain⟨W,g⟩:=nx (((w.alloc (.cells #[I6 b,I6 c] 300)).alloc (.cells #[I6 f,I6 a] 300)).drew);have j:e1 w W:=by rw[<-g];exact(((e1.refl _).alloc _).alloc _).drew
 rw[g];have k:=aH (j.alloc (.cells #[I6 (cH b f),I6 (cH c a)] 3));have h:=(am.new W 3 #[I6 (cH b f),I6 (cH c a)]).cell 0;have i:=(am.new W 3 #[I6 (cH b f),I6 (cH c a)]).cell 1;simp only[zL,zM,zP]at h i;obtain⟨m,n⟩:=gB h i;go_wp2_with fail;refine(p5 _ _ _ _ m n).mono ?_;rintro e w' ⟨rfl,rfl⟩;go_wp2;go_ret;exact⟨rfl,k⟩
def rT(a b:bC):Int:=ru (cH a.nd b.nd) (cH a.n b.n)
def rU(a b:Sp):Int:=ru (cH a.at_ b.at_) (cH a.nd b.nd)
theorem iL(a b c d:Int):decide (ru (cH a b) (cH c d) < 0)=(decide (a < b)||decide (a=b)&&decide (c < d)):=by
 unfold ru cH;rw[Bool.eq_iff_iff];simp;split<;>split<;>(try split)<;>omega
theorem Gy:Sort.SWO (ltOf rT):=by
 constructor
 ·intro x;unfold ltOf rT;rw[iL];simp
 ·intro x y z a b;unfold ltOf rT at*;rw[iL]at*;simp at*;omega
 ·intro x y z a b;unfold ltOf rT at*;rw[iL]at*;simp at*;omega
theorem Gz:Sort.SWO (ltOf rU):=by
 constructor
 ·intro x;unfold ltOf rU;rw[iL];simp
 ·intro x y z a b;unfold ltOf rU at*;rw[iL]at*;simp at*;omega
 ·intro x y z a b;unfold ltOf rU at*;rw[iL]at*;simp at*;omega
end
section
open Go.Sort (flatK get_flatK HoldsK putRowK)
variable[Inhabited α](E:El α)
theorem mN(l:List α):flatK E.f E.s l.toArray=(E.cells l).toArray:=by
 apply Array.ext
 ·simp[E.ae]
 ·intro t f h;have b:t < l.length*E.s:=by simpa using f
  have g:=(yV E.pos).2 b;have c:t % E.s < E.s:=Nat.mod_lt _ E.pos;have:=get_flatK E.f E.s l.toArray t (by simpa using b);rw[getElem!_pos _ t f]at this;rw[this];have a:=E.c' l (t / E.s) l[t / E.s] (zA g) (t % E.s) c;rw[show t / E.s*E.s+t % E.s=t by rw[Nat.mul_comm];exact Nat.div_add_mod _ _]at a;have i:(E.cells l)[t]?=some ((E.cells l).toArray[t]):=by rw[zA (by simpa using h)];simp
  rw[i]at a;have j:l.toArray[t / E.s]! =l[t / E.s]:=by rw[getElem!_pos _ _ (by simpa using g)];simp
  rw[j,getElem!_pos _ _ (by rw[E.len];exact c)];rw[zA (by rw[E.len];exact c)]at a;exact(jI a).symm
theorem k1{w}{sp}(h:aR w g E.ty (E.cells l++sp)):HoldsK E.f E.s w g 0 l.toArray:=by
 unfold HoldsK;rw[mN];intro j b;have a:j < (E.cells l).length:=by simpa using b
 refine⟨?_,aR.frozen h _⟩;rw[zR,h.cell,qQ a,zA a,getElem!_pos (E.cells l).toArray j b];simp
theorem iM{m:List α}{sp}{os:Array Obj}(h:aR w g E.ty (E.cells l++sp))(i:base<=g)(x:l.length<=cap)(p:cap<=maxLen)(b:(E.cells l++sp).length=cap*E.s)(a:m.length=l.length):
  aK E base (sortWorldK E.f E.s w g 0 n m.toArray os) (.slice (some ⟨g,0,none⟩) l.length cap) m/\w.grownBy (sortWorldK E.f E.s w g 0 n m.toArray os) (some g):=by
 have q:=ap h;have s:(sortWorldK E.f E.s w g 0 n m.toArray os).heap[g]?=some (.cells (Sort.putCells id 0 (E.cells m).toArray (E.cells l++sp).toArray) E.ty (0,0)):=by
  unfold sortWorldK putRowK;rw[mN,Sort.heap_grow_old _ _ (by simpa[Sort.putRow,Sort.mapBlock,Sort.ahead]using q)];have t:w.heap[g]?=some (.cells (E.cells l++sp).toArray E.ty (0,0)):=h;simp[Sort.putRow,Sort.mapBlock,Sort.ahead,yL,t,Sort.onCells]
 refine⟨?_,rfl,rfl,rfl,by simp[sortWorldK,putRowK,Sort.putRow,Sort.mapBlock,Sort.ahead,Sort.grow],fun k hk hne=>?_⟩
 ·unfold aK;rw[<-a];refine⟨E.ae m,.inr ⟨g,cap,_,rfl,i,s,by omega,p,?_,?_⟩⟩
  ·simp only[Sort.putCells,Array.size_mapIdx,qT];exact b
  ·apply yZ;intro j;have y:(E.cells m).length=m.length*E.s:=E.ae m;have c:(E.cells l).length=l.length*E.s:=E.ae l;by_cases hj:j < m.length*E.s
   ·rw[List.getElem?_take_of_lt hj,Array.getElem?_toList];have u:j < (E.cells l++sp).length:=by rw[zC,c,<-a];omega
    have f:j < (E.cells m).length:=by omega
    simp only[Sort.putCells,Array.getElem?_mapIdx,zL];rw[zA u,zA f];simp[f]
   ·rw[List.getElem?_take_eq_none (by omega),jB (by omega)]
 ·unfold sortWorldK;rw[Sort.heap_grow_old _ _ (by simpa[putRowK,Sort.putRow,Sort.mapBlock,Sort.ahead]using hk)];have:g≠k:=fun e=>hne (by rw[e]);simp[putRowK,Sort.putRow,Sort.mapBlock,Sort.ahead,yL,this]
end
section
open Go.Sort (flatK get_flatK HoldsK putRowK)
theorem yt(base:Nat)(v:Value)(l:List bC)(w:World)(h:aK aJ base w v l)(p:l.length < 4611686018427387904):
  Cs 409 #[v,.func (.func 375) #[] #[]] w fun e w'=>Rt e (.tuple #[])/\∃m,m.Perm l/\aK aJ base w' v m/\w.grownBy w' v.ownBlock:=by
 rcases qK l.length with h0|h0
 ·obtain⟨A,c,rfl,z⟩:=bV h;have s:=h;rw[h0];refine(Tryz.slices_SortFunc_none_f409 (α:=bC) A c _ w).mono ?_;rintro e w' ⟨rfl,rfl⟩;exact⟨rfl,l,List.Perm.refl _,by rw[<-h0];exact s,jQ _ _⟩
 ·obtain⟨g,cap,sp,rfl,t,f,i,u,j⟩:=h.af h0;refine(Tryz.slices_SortFunc_total_f409 (α:=bC) 2 (fun w=>Tryz.isAgg42 w) (fun w=>Tryz.sizeOf42 w) aJ.f (fun _=>rfl) aJ.one rT Gy 375 #[] g 0 cap l.toArray w (aQ func375 (by kernel_rfl) (by kernel_rfl)) ?_ (k1 aJ f) (ap f) (by simpa using p) ?_).mono ?_
  ·intro m os B _ x y;exact(qf x.nd x.n y.nd y.n _).mono fun e w' ⟨he,q,os',hw⟩=>⟨he,q,os',hw⟩
  ·intro x y a b;unfold ltOf rT at a b;rw[iL]at a b;simp at a b;obtain⟨C,D⟩:=x;obtain⟨F,G⟩:=y;simp at a b ⊢;omega
  ·rintro e w' ⟨rfl,n,os,rfl⟩;have k:(l.mergeSort fun x y=>!(ltOf rT) y x).Perm l:=yQ _ _;obtain⟨a,b⟩:=iM aJ (n:=n) (os:=os) (m:=l.mergeSort fun x y=>!(ltOf rT) y x) f t i u j k.length_eq;exact⟨rfl,_,k,a,b⟩
end
def FN(a b:Sp):Bool:=a.at_==b.at_&&a.nd==b.nd
theorem BD(a b:Sp) w:(binOp .eql 300 (.agg #[I6 a.at_,I6 a.nd]) (.agg #[I6 b.at_,I6 b.nd])).run prog w=.ok (.bool (FN a b)) w:=by
 have c:prog.stoodInHeld 300=false:=by kernel_rfl
 have f:prog.underlying 300=some (.struct (prog.fieldsOf 300)):=by kernel_rfl
 have g:prog.underlying 3=some (.int .i64):=by kernel_rfl
 rw[run_eql_struct,run_equalIn_struct w 9999 _ _ _ f c];simp[Op.eqFields,go_sem];by_cases e1:a.at_=b.at_<;>by_cases e2:a.nd=b.nd<;>simp[e1,e2,FN]
theorem BE(a b:Sp) w:(binOp .neq 300 (.agg #[I6 a.at_,I6 a.nd]) (.agg #[I6 b.at_,I6 b.nd])).run prog w=.ok (.bool (!FN a b)) w:=by
 have c:prog.stoodInHeld 300=false:=by kernel_rfl
 have f:prog.underlying 300=some (.struct (prog.fieldsOf 300)):=by kernel_rfl
 have g:prog.underlying 3=some (.int .i64):=by kernel_rfl
 rw[run_neq_struct,run_equalIn_struct w 9999 _ _ _ f c];simp[Op.eqFields,go_sem];by_cases e1:a.at_=b.at_<;>by_cases e2:a.nd=b.nd<;>simp[e1,e2,FN]
theorem qh(c:BinOp)(x y:Operand)(a b:Sp) w:(eqGuard c 300 x y (.agg #[I6 a.at_,I6 a.nd]) (.agg #[I6 b.at_,I6 b.nd])).run prog w=.ok () w:=run_eqGuard_agg (P:=prog) w c _ x y _ _ (by kernel_rfl)
theorem kr(a b:bC) w:(binOp .eql 42 (.agg #[I6 a.nd,I6 a.n]) (.agg #[I6 b.nd,I6 b.n])).run prog w=.ok (.bool (bU a b)) w:=Hd.jb a b w
theorem BF(a b:bC) w:(binOp .neq 42 (.agg #[I6 a.nd,I6 a.n]) (.agg #[I6 b.nd,I6 b.n])).run prog w=.ok (.bool (!bU a b)) w:=Hd.Dq a b w
def xG(E:El α)(w:World)(base:Nat)(own:Option Nat)(l:List α)(a:Ending)(w':World):Prop:=∃v m,Rt a v/\aK E base w' v m/\(∀x∈m,x∈l)/\m.length<=l.length/\w.grownBy w' own
theorem El.cut_own{q:List α}{sp a:List Value}(b:aR wr g E.ty (E.cells q++sp))(c:base<=g)(hi:i<=q.length)(k:q.length<=cap)(f:cap<=maxLen)(h:a.length=cap*E.s)(j:a.take (i*E.s)=E.cells (q.take i)):
  aK E base (wr.setRow g a.toArray) (.slice (some ⟨g,0,none⟩) i cap) (q.take i):=by
 unfold aK;have:(q.take i).length=i:=by rw[zU];omega
 rw[this];exact aR.own (cs:=a) (b.set a) c (by omega) f h j
def BH(F sl e:Nat):Prop:=(F=410/\sl=36/\e=42)\/(F=324/\sl=219/\e=300)
theorem BH.facts(h:BH F sl e):prog.underlying sl=some (.slice e)/\(prog.info? e).map (fun i=>(i.zero,i.size,i.bytes))=some (some (.agg #[I6 0,I6 0]),2,16):=by
 rcases h with⟨rfl,rfl,rfl⟩|⟨rfl,rfl,rfl⟩<;>exact⟨by kernel_rfl,by kernel_rfl⟩
theorem gv{a b:α->Int}{t:α}(c:∀t,E.f t=[I6 (a t),I6 (b t)])(f:E.s=2)(h:∀j u,(E.f t)[j]?=some u->Ce w g (k*E.s+j) u):
  Ce w g (k*2) (I6 (a t))/\Ce w g (k*2+1) (I6 (b t)):=by
 rw[c,f]at h;exact⟨h 0 _ rfl,h 1 _ rfl⟩
theorem rV(E:El α)(n p:α->Int)(I:α->α->Bool)(hP:BH F sl e)(hE:∀t,E.f t=[I6 (n t),I6 (p t)])(hs:E.s=2)
  (hQ:∀t u W,(binOp .eql e (.agg #[I6 (n t),I6 (p t)]) (.agg #[I6 (n u),I6 (p u)])).run prog W=.ok (.bool (I t u)) W) (hN:∀t u W,(binOp .neq e (.agg #[I6 (n t),I6 (p t)]) (.agg #[I6 (n u),I6 (p u)])).run prog W=.ok (.bool (!I t u)) W)
  (hG:∀op x y t u W,(eqGuard op e x y (.agg #[I6 (n t),I6 (p t)]) (.agg #[I6 (n u),I6 (p u)])).run prog W=.ok () W)
  (base:Nat) (v:Value) (l:List α) w (hown:aK E base w v l) (hn:l.length<=1000000000):
  Cs F #[v] w (xG E w base v.ownBlock l):=by
 obtain⟨hU,hI⟩:=hP.facts;obtain⟨S,J,hm,hp,V,f⟩:=gF hU hE hQ hN hG hs;obtain⟨T,hi,ht,X,hL⟩:=info_parts hI;clear hU hI hE hQ hN hG hs;rcases hP with⟨rfl,rfl,rfl⟩|⟨rfl,rfl,rfl⟩;all_goals
  rcases jH l.length 2 with h2|h2
  ·obtain⟨A,c,rfl,Y⟩:=bV hown;have HO:=aH hown;have hd:decide ((l.length:Int) < 2)=true:=by simp;omega
   clear hown;apply cI;go_in;go_wp2_with fail;go_ret;exact⟨_,l,rfl,HO,fun _ h=>h,nR,jQ _ _⟩
  ·obtain⟨g,cap,sp,rfl,hu,L,Y,Z,B⟩:=hown.af (by omega);rw[f]at B;have hd:decide ((l.length:Int) < 2)=false:=by simp;omega
   obtain⟨HR,HO,hy,hz⟩:=gD L hown B Z;clear hown L B Z;apply cI;go_in;go_wp2_with fail;go_loopw[3] (fun vi wr=>∃i:Nat,i+1<=l.length/\vi=I6 ((i:Int)+1)/\aR wr g E.ty (E.cells l++sp)/\aW g w wr/\aK E base wr (.slice (some ⟨g,0,none⟩) l.length cap) l) (fun vi _=>l.length - (intOf vi).toNat)
   case atStart=>exact⟨0,by omega,rfl,HR,cJ,HO⟩
   case round=>
    obtain⟨i,hM,rfl,hr,ho,hw⟩:=hrel;obtain⟨D,M,ha⟩:=gC hr ho hw;clear hr ho hw;by_cases hlt:i+1 < l.length
    ·have hO:decide ((i:Int)+1 < (l.length:Int))=true:=by simp;omega
     have bI:=D.at_ (zA hlt);have a:=D.at_ (zA (show i < l.length by omega));generalize l[i+1]=t at bI;generalize l[i]=u at a;obtain⟨c0,c1⟩:=gv J f bI;obtain⟨f0,f1⟩:=gv J f a;have hq:=fun W=>hm t u W;have hg:=fun op x y W=>V op x y t u W;clear bI a;cases he:I t u
     ·go_wp2_with fail;go_quiet (fail);go_wp2_with fail;go_roundw
      case rel=>exact⟨i+1,by omega,by go_num,D,aG (below_drewN (bR _) _) |> aA M,ha⟩
      case measure=>simp[intOf];omega
     ·have hA:=e5 (P:=prog) _ _ T S hi 2 X .i64 g 0 l.length cap ((i:Int)+1) (i+1) (by omega) (by omega) (by omega);rw[zR]at hA;go_wp2_with fail;go_quiet (fail);go_wp2_with fail;have hK:Hid (l.length - (i+1)=l.length - (i+1)):=aH rfl;go_loopw[3,5] (fun vk vj wr=>∃(k j:Nat) (q:List _),vk=I6 ((k:Int)+1)/\vj=I6 ((j:Int)+1)/\j+1<=l.length - (i+1)/\k<=i+j/\q.length=l.length/\(∀x∈q,x∈l)/\aR wr g E.ty (E.cells q++sp)/\aW g w wr) (fun _ vj _=>l.length - (intOf vj).toNat)
      case atStart=>exact⟨i,0,l,rfl,rfl,by omega,by omega,rfl,fun _ h=>h,D,aA M (aG (below_drewN (bR _) _))⟩
      case round=>
       obtain⟨k,j,q,rfl,rfl,hj,hR,hb,N,hc,hf⟩:=hrel;obtain⟨s,U,m,O⟩:=gD hb N hc hf;clear hb N hc hf c0 c1 f0 f1 hq hg;by_cases hlt2:j+1 < l.length - (i+1)
       ·have R:i+1+(j+1) < q.length:=by rw[s];omega
        have bI:=m.at_ (zA R);have a:=m.at_ (zA (show i+1+j < q.length by rw[s];omega));have C:=m.at_ (zA (show k+1 < q.length by rw[s];omega));have HT:=aH (zY R);generalize q[i+1+(j+1)]=t at bI HT;generalize q[i+1+j]=u at a;generalize q[k+1]=y at C;have e0:(i+1+(j+1))*2=(i+1)*2+(j+1)*2:=Nat.add_mul _ _ _;have e1:(i+1+j)*2=(i+1)*2+j*2:=Nat.add_mul _ _ _;obtain⟨c0,c1⟩:=gv J f bI;obtain⟨f0,f1⟩:=gv J f a;obtain⟨y0,y1⟩:=gv J f C;rw[e0]at c0 c1;rw[e1]at f0 f1;have hq:=fun W=>hp t u W;have hg:=fun op x y W=>V op x y t u W;have hS:=fun j=>am.frozen (t:=E.ty) (cs:=(E.cells q++sp).toArray) m j;clear bI a C e0 e1;cases he2:I t u
        ·have hB:(!I t u)=true:=by rw[he2];rfl
         clear he2;go_wp2_with fail;go_quiet (fail);have hC:Hid (∀dq,aR (((wr.drewN dq).setCell ⟨g,(k+1)*2,none⟩ (I6 (n t))).setCell ⟨g,(k+1)*2+1,none⟩ (I6 (p t))) g E.ty (E.cells (q.set (k+1) t)++sp)):=aH (fun dq=>by rw[<-E.bo q (k+1) (by rw[s];omega) t sp,f,J];exact((show aR (wr.drewN dq) g E.ty (E.cells q++sp)from m).ag ((k+1)*2) (I6 (n t))).ag ((k+1)*2+1) (I6 (p t)));have hD:Hid (∀dq,aW g w (((wr.drewN dq).setCell ⟨g,(k+1)*2,none⟩ (I6 (n t))).setCell ⟨g,(k+1)*2+1,none⟩ (I6 (p t)))):=aH (fun dq=>aA (aA (aA O (aG (below_drewN (bR _) dq))) (aB _ g ((k+1)*2) (I6 (n t)))) (aB _ g ((k+1)*2+1) (I6 (p t))));go_wp2_with fail;go_roundw
         case rel=>exact⟨k+1,j+1,q.set (k+1) t,by go_num,by go_num,by omega,by omega,by rw[List.length_set];exact s,fun x hx=>(yK hx).elim (U x) (fun e=>e▸U _ HT),hC _,hD _⟩
         case measure=>simp[intOf];omega
        ·have hB:(!I t u)=false:=by rw[he2];rfl
         clear he2;go_wp2_with fail;go_quiet (fail);go_wp2_with fail;go_roundw
         case rel=>exact⟨k,j+1,q,rfl,by go_num,by omega,by omega,s,U,m,aA O (aG (below_drewN (bR _) _))⟩
         case measure=>simp[intOf];omega
       ·have hF:=e5 (P:=prog) _ _ T S hi 2 X .i64 g 0 l.length cap ((k:Int)+1) (k+1) (by omega) (by omega) (by omega);have hH:=eo (P:=prog) _ _ T S hi .i64 (some ⟨g,0,none⟩) l.length cap (k+1) (by omega);rw[zR]at hF;rw[Int.natCast_add,show((1:Nat):Int)=1 from rfl]at hH;have b:(E.cells q++sp).length=cap*2:=by have:=hy.out;rw[zC,E.ae,f]at this;rw[zC,E.ae,s,f];exact this
        have hJ:(E.cells q).length=l.length*2:=by rw[E.ae,s,f]
        obtain⟨G,z⟩:=nx ((E.cells q++sp).take ((k+1)*2)++(Builtin.zeroCells (Value.agg #[I6 0,I6 0]).cells (l.length - (k+1))).toList++(E.cells q++sp).drop ((k+1)*2+(Builtin.zeroCells (Value.agg #[I6 0,I6 0]).cells (l.length - (k+1))).toList.length));have hh:(Builtin.zeroCells (Value.agg #[I6 0,I6 0]).cells (l.length - (k+1))).toList.length=(l.length - (k+1))*2:=by rw[Array.length_toList,size_zeroCells];rfl
        have B:∀(ty:TypeId),(Builtin.clear_ #[_] ty #[.slice (some ⟨g,(k+1)*2,none⟩) (l.length - (k+1)) (cap - (k+1))]).run prog wr=.ok (.tuple #[]) (wr.setRow g G.toArray):=fun ty=>by
         have h:=eZ (P:=prog) wr _ _ ty T _ g ((k+1)*2) (l.length - (k+1)) (cap - (k+1)) (E.cells q++sp).toArray E.ty S hi ht (by omega) m
          (by simp only[qT,b];show(k+1)*2+(l.length - (k+1))*2<=cap*2;omega) (fun v hv=>by simp[Value.cells]at hv;subst hv;rfl)
         rw[h];simp only[z]
        have H:G.length=cap*2:=by
         rw[<-z];simp only[zC,zU,qB,hh];simp only[zC]at b;rw[b];omega
        have hk:G.take ((k+1)*2)=E.cells (q.take (k+1)):=by
         rw[<-z,zH,qD (by rw[zU,b];omega),yO,Nat.min_self,qD (by omega)];have h9:=El.bb E q (k+1) (by rw[s];omega);rw[f]at h9;exact h9
        have hl:Hid (xG E w base (some g) l (.returned (.slice (some ⟨g,0,none⟩) (k+1) cap)) (wr.setRow g G.toArray)):=aH
         ⟨_,q.take (k+1),rfl,El.cut_own m hu (by rw[s];omega) (by rw[s];exact Y) hz (by rw[f];exact H) (by rw[f];exact hk),fun x hx=>U x (qZ hx),by rw[zU];omega,aA O (fm _ _ _)⟩
        clear z H hk b hJ hh;go_wp2_with (refine dv _ rfl (.tmp 56) _ rfl _ rfl (B _) ?_);go_ret;exact hl
    ·go_wp2_with fail;go_ret;exact⟨_,l,rfl,ha,fun _ h=>h,nR,M⟩
theorem qi(base:Nat)(v:Value)(l:List _) w(hown:aK aJ base w v l)(hn:l.length<=1000000000):Cs 410 #[v] w (xG aJ w base v.ownBlock l):=
 rV aJ bC.nd bC.n bU (.inl ⟨rfl,rfl,rfl⟩) (fun _=>rfl) rfl kr BF (fun op x y t u W=>Hd.iH op x y t u W) base v l w hown hn
theorem qj(base:Nat)(v:Value)(l:List _) w(hown:aK bH base w v l)(hn:l.length<=1000000000):Cs 324 #[v] w (xG bH w base v.ownBlock l):=
 rV bH Sp.at_ Sp.nd FN (.inr ⟨rfl,rfl,rfl⟩) (fun _=>rfl) rfl BD BE qh base v l w hown hn
structure Dk where
 sf:List UInt8
 tl:List UInt8
 room:Int
 steps:Int
 on:Bool
 armed:Bool
 left:Int
def G6(d:Dk):Array Value:=#[.string (aF d.sf),.string (aF d.tl),I6 d.room,I6 d.steps,.bool d.on,.bool d.armed,I6 d.left]
def bS(w:World)(g:Nat)(d:Dk):Prop:=am w g 95 (G6 d)
theorem bS.cells{d:Dk}(h:bS w g d):Ce w g 0 (.string (aF d.sf))/\Ce w g 1 (.string (aF d.tl))/\Ce w g 2 (I6 d.room)/\Ce w g 3 (I6 d.steps)/\
  Ce w g 4 (.bool d.on)/\Ce w g 5 (.bool d.armed)/\Ce w g 6 (I6 d.left):=
 ⟨am.cell h 0,am.cell h 1,am.cell h 2,am.cell h 3,am.cell h 4,am.cell h 5,am.cell h 6⟩
theorem mO(g:Nat)(d:Dk)(w:World)(h:bS w g d)(b:d.sf.length+d.tl.length<=1000000000):
  Cs 94 #[Pt g] w fun e w'=>Rt e (.string (aF (d.sf++d.tl)))/\Below w.heap.size w w':=by
 obtain⟨c,f,-⟩:=h.cells;have a:=fun W=>bJ d.sf d.tl (by omega) W;apply cI;go_in;go_wp2;go_quiet (fail);go_wp2;go_ret;exact⟨rfl,below_drewN (bR _) _⟩
theorem yu(g:Nat)(d:Dk)(w:World)(h:bS w g d)(b:d.sf.length+d.tl.length<=1000000000):
  Cs 303 #[Pt g] w fun e w'=>Rt e (I6 ((d.sf.length+d.tl.length:Nat):Int))/\Below w.heap.size w w':=by
 obtain⟨C,a⟩:=gB (mO g d w h b) (show(d.sf++d.tl).length=d.sf.length+d.tl.length by simp);generalize d.sf++d.tl=l at C a;rw[<-a];apply cI;go_in;go_wp2_with fail;refine C.mono ?_;rintro i w1 ⟨rfl,c⟩;have f:=aH c;go_wp2;go_ret;exact⟨rfl,f⟩
def xH(n:Int)(f k:Dk->Dk)(d:Dk)(c:Int)(d':Dk):Prop:=
 (c=0/\d.on=true/\n<=d.room/\∃s l,d'=f {d with steps:=s,left:=l})\/(c=14/\d.on=false/\d'=d)\/
 (c=14/\d.on=true/\d.armed=true/\n<=d.room/\d'=k {d with on:=false})\/(c=15/\d.on=true/\d.room < n/\d'=d)
def FE(w0:World)(K:Nat)(c:Array Value)(g:Nat)(a b:List UInt8)(f:Dk->Dk):Prop:=∀d W,d.sf=a->d.tl=b->bS W g d->aW g w0 W->Cs K c W fun e W'=>Rt e (.tuple #[])/\bS W' g (f d)/\aW g W W'
def BI(g:Nat)(w:World)(R:Int->Dk->Prop)(e:Ending)(w':World):Prop:=∃c d',Rt e (I6 c)/\R c d'/\bS w' g d'/\aW g w w'
theorem mP(g:Nat)(n:Int)(p q:Nat) caps1 caps2(f k:Dk->Dk)(d:Dk) w(h:bS w g d)
  (e1:∀args W,(callFunc p args).run prog W=.ok (.enter p args) W) (e2:∀args W,(callFunc q args).run prog W=.ok (.enter q args) W) (h1:FE w p caps1 g d.sf d.tl f) (h2:FE w q caps2 g d.sf d.tl k):
  Cs 185 #[Pt g,I6 n,.func (.func p) #[] caps1,.func (.func q) #[] caps2] w (BI g w (xH n f k d)):=by
 obtain⟨s,tl,b,a,x,armed,left⟩:=d;obtain⟨J,L,y,z,C,D,F⟩:=h.cells;have M:=fun j=>am.frozen h j;obtain⟨H,t,G⟩:=gC h h1 h2;dsimp only at y z C D F;apply cI;go_in;cases x
 ·go_wp2_with fail;go_ret;exact⟨14,_,rfl,.inr (.inl ⟨rfl,rfl,rfl⟩),H,cJ⟩
 by_cases hr:b < n
 ·have I:decide (b < n)=true:=by simpa using hr
  go_wp2_with fail;go_ret;exact⟨15,_,rfl,.inr (.inr (.inr ⟨rfl,rfl,hr,rfl⟩)),H,cJ⟩
 have I:decide (b < n)=false:=by simpa using hr
 cases armed
 ·have c:=aH (show bS (w.setCell ⟨g,3,none⟩ (I6 (wrap64 (a+1)))) g ⟨s,tl,b,wrap64 (a+1),true,false,left⟩from am.I H 3 _);go_wp2_with fail;refine(t _ _ rfl rfl c (aB _ _ _ _)).mono ?_;rintro u w2 ⟨rfl,i,m⟩;obtain⟨A,B⟩:=gB i m;go_wp2_with fail;go_ret;exact⟨0,_,rfl,.inl ⟨rfl,rfl,by omega,_,_,rfl⟩,A,aA (aB _ _ _ _) B⟩
 ·by_cases hz:left=0
  ·subst hz;have c:=aH (show bS (w.setCell ⟨g,4,none⟩ (.bool false)) g ⟨s,tl,b,a,false,true,0⟩from am.I H 4 _);go_wp2_with fail;refine(G _ _ rfl rfl c (aB _ _ _ _)).mono ?_;rintro u w2 ⟨rfl,i,m⟩;obtain⟨A,B⟩:=gB i m;go_wp2_with fail;go_ret;exact⟨14,_,rfl,.inr (.inr (.inl ⟨rfl,rfl,rfl,by omega,rfl⟩)),A,aA (aB _ _ _ _) B⟩
  ·have N:(left==0)=false:=by simpa using hz
   have c:=aH (show bS ((w.setCell ⟨g,6,none⟩ (I6 (wrap64 (left - 1)))).setCell ⟨g,3,none⟩ (I6 (wrap64 (a+1)))) g ⟨s,tl,b,wrap64 (a+1),true,true,wrap64 (left - 1)⟩from am.I (am.I H 6 _) 3 _);go_wp2_with fail;refine(t _ _ rfl rfl c (aA (aB _ _ _ _) (aB _ _ _ _))).mono ?_;rintro u w2 ⟨rfl,i,m⟩;obtain⟨A,B⟩:=gB i m;go_wp2_with fail;go_ret;exact⟨0,_,rfl,.inl ⟨rfl,rfl,by omega,_,_,rfl⟩,A,aA (aA (aB _ _ _ _) (aB _ _ _ _)) B⟩
theorem bv{W:World}{v}(h:w.cell? ⟨b,i,none⟩=some v)(c:aW g w W)(a:b≠g):W.cell? ⟨b,i,none⟩=some v:=by
 unfold World.cell? at h ⊢;cases hb:w.heap[b]? with
 |none=>simp[hb]at h
 |some x=>rw[c.block b (ap hb) (by simpa using a),hb];rw[hb]at h;exact h
theorem rW{K:Nat} w0(g:Nat) a b(h:∀W,Cs K #[] W fun e W'=>Rt e (.tuple #[])/\W=W'):FE w0 K #[] g a b id:=by
 intro d W _ _ hd _;exact(h W).mono fun e W' ⟨h1,h2⟩=>⟨h1,h2▸hd,h2▸cJ⟩
theorem FO W:Cs 187 #[] W fun e W'=>Rt e (.tuple #[])/\W=W':=by
 apply cI;go_in;go_wp2;go_end0;exact⟨rfl,rfl⟩
theorem FP W:Cs 189 #[] W fun e W'=>Rt e (.tuple #[])/\W=W':=by
 apply cI;go_in;go_wp2;go_end0;exact⟨rfl,rfl⟩
theorem b9:aW g w w.drew:=aG (bP w)
theorem rX(g b c:Nat)(s sf tl:List UInt8)(w:World)(p:Ce w b 0 (Pt g))(q:Ce w c 0 (.string (aF s)))(t:b≠g)(u:c≠g)(C:tl.length+s.length<=1000000000):
  FE w 302 #[Pt b,Pt c] g sf tl fun d=>{d with tl:=tl++s}:=by
 rintro⟨h,a,i,f,x,armed,left⟩ W k m hd n;have k:h=sf:=k;have m:a=tl:=m;subst k m;have D:=bv p n t;have F:=bv q n u;obtain⟨y,z,-⟩:=hd.cells;dsimp only at y z;have G:=fun j=>am.frozen hd j;have A:=fun W=>bJ a s (by omega) W;have B:=aH (show bS (W.drew.setCell ⟨g,1,none⟩ (.string (aF (a++s)))) g ⟨h,a++s,i,f,x,armed,left⟩from am.I (w:=W.drew) hd 1 _);apply cI;go_in;refine aN 10 (by kernel_rfl) (by kernel_rfl) ?_;simp only[zF,zN,zG,zO];repeat still_step
 refine wpStill_nil ?_;go_wp2;go_end0;exact⟨rfl,B,aA b9 (aB _ _ _ _)⟩
theorem yv(g b c:Nat) s sf tl(w:World)(h1:Ce w b 0 (Pt g))(h2:Ce w c 0 (.string (aF s)))(hb:b≠g)(hc:c≠g):
  FE w 186 #[Pt c,Pt b] g sf tl fun d=>{d with sf:=s,tl:=[]}:=by
 rintro⟨t,u,f,a,m,armed,left⟩ W h i hd k;have h:=h;have i:=i;subst h i;have x:=bv h1 k hb;have y:=bv h2 k hc;obtain⟨n,p,-⟩:=hd.cells;dsimp only at n p;have z:=fun j=>am.frozen hd j;have q:=aH (show bS ((W.setCell ⟨g,0,none⟩ (.string (aF s))).setCell ⟨g,1,none⟩ (.string (aF []))) g ⟨s,[],f,a,m,armed,left⟩from am.I (am.I hd 0 _) 1 _);apply cI;go_in;go_wp2;go_end0;exact⟨rfl,q,aA (aB _ _ _ _) (aB _ _ _ _)⟩
theorem yw(g b:Nat)(sf tl:List UInt8)(w:World)(m:Ce w b 0 (Pt g))(n:b≠g)(y:sf.length+tl.length<=1000000000):
  FE w 188 #[Pt b] g sf tl fun d=>{d with sf:=sf++tl,tl:=[]}:=by
 rintro⟨a,c,h,f,p,armed,left⟩ W i k hd q;have i:a=sf:=i;have k:c=tl:=k;subst i k;have z:=bv m q n;obtain⟨s,t,-⟩:=hd.cells;dsimp only at s t;have A:=fun j=>am.frozen hd j;have u:=fun W=>bJ a c (by omega) W;have x:=aH (show bS ((W.drew.setCell ⟨g,0,none⟩ (.string (aF (a++c)))).setCell ⟨g,1,none⟩ (.string (aF []))) g ⟨a++c,[],h,f,p,armed,left⟩from am.I (am.I (w:=W.drew) hd 0 _) 1 _);apply cI;go_in;refine aN 13 (by kernel_rfl) (by kernel_rfl) ?_;simp only[zF,zN,zG,zO];repeat still_step
 refine wpStill_nil ?_;go_wp2;go_end0;exact⟨rfl,x,aA b9 (aA (aB _ _ _ _) (aB _ _ _ _))⟩
theorem cL(w:World)(o:Obj):aW g w (w.alloc o):=(cJ (g:=g) (w:=w)).lay o
theorem bS.alloc{d:Dk}(h:bS w g d)(o:Obj):bS (w.alloc o) g d:=am.alloc h o
theorem bS.lt{d:Dk}(h:bS w g d):g < w.heap.size:=ap h
def yx(s:List UInt8)(d d':Dk)(c:Int):Prop:=xH ((d.sf.length+d.tl.length+s.length:Nat):Int) (fun x=>{x with tl:=d.tl++s}) (fun x=>{x with tl:=d.tl++s}) d c d'
def FQ(s:List UInt8)(d d':Dk)(c:Int):Prop:=xH (s.length:Int) (fun x=>{x with sf:=s,tl:=[]}) id d c d'
def ph(d d':Dk)(c:Int):Prop:=xH 0 (fun x=>{x with sf:=d.sf++d.tl,tl:=[]}) id d c d'
theorem k2(g:Nat)(d:Dk) w(h:bS w g d)(hl:d.sf.length+d.tl.length<=1000000000):
  Cs 97 #[Pt g] w (BI g w fun c d'=>ph d d' c):=by
 have q:=h.lt;obtain⟨W0,f,a,b⟩:=dW w #[Pt g] 66;obtain⟨i,j⟩:=gB (show bS W0 g d from h.below a) (show aW g w W0 from aG a);have k:=aH (mP g 0 188 189 #[Pt w.heap.size] #[] _ _ d W0 i (aQ func188 (by kernel_rfl) (by kernel_rfl)) (aQ func189 (by kernel_rfl) (by kernel_rfl))
  (yw g w.heap.size _ _ W0 (am.cell b 0) (by omega) hl) (rW W0 g _ _ FP))
 have s:=am.cell b 0;apply cI;go_in;go_wp2_with fail;simp only[f.out];go_wp2_with fail;refine k.mono ?_;rintro t w2 ⟨c,d',rfl,m,n,p⟩;obtain⟨A,B,C⟩:=gC m n p;go_wp2_with fail;go_ret;exact⟨c,d',rfl,A,B,aA j C⟩
theorem yy(g:Nat)(s:List UInt8)(d:Dk) w(h:bS w g d)(hs:s.length<=1000000000):
  Cs 96 #[Pt g,.string (aF s)] w (BI g w fun c d'=>FQ s d d' c):=by
 have t:=h.lt;obtain⟨W0,i,a,b,f⟩:=rt w #[Pt g] #[.string (aF s)] 66 9;obtain⟨j,k⟩:=gB (show bS W0 g d from h.below a) (show aW g w W0 from aG a);have m:=aH (mP g s.length 186 187 #[.pointer (some ⟨w.heap.size+1,0,none⟩),Pt w.heap.size] #[] _ _ d W0 j (aQ func186 (by kernel_rfl) (by kernel_rfl)) (aQ func187 (by kernel_rfl) (by kernel_rfl))
  (yv g w.heap.size (w.heap.size+1) s _ _ W0 (am.cell b 0) (am.cell f 0) (by omega) (by omega)) (rW W0 g _ _ FO))
 have u:=am.cell b 0;have c1:=am.cell f 0;apply cI;go_in;go_wp2_with fail;simp only[i.out];go_wp2_with fail;refine m.mono ?_;rintro x w2 ⟨c,d',rfl,n,p,q⟩;obtain⟨A,B,C⟩:=gC n p q;go_wp2_with fail;go_ret;exact⟨c,d',rfl,A,B,aA k C⟩
theorem rY(g:Nat)(s:List UInt8)(d:Dk) w(h:bS w g d)(hl:d.sf.length+d.tl.length<=100000000)(hs:s.length<=100000000):
  Cs 202 #[Pt g,.string (aF s)] w (BI g w fun c d'=>yx s d d' c):=by
 have N:=h.lt;obtain⟨W0,H,n,j,k⟩:=rt w #[Pt g] #[.string (aF s)] 66 9;obtain⟨p,I⟩:=gB (show bS W0 g d from h.below n) (show aW g w W0 from aG n);obtain⟨t,J,L⟩:=gC (fun a os=>yu g d _ (p.below (below_regrown W0 a os)) (by omega)) j k;have u:=ce j;have c1:=ce k;have O:=fun a os=>cell_regrown u a os;have R:=fun a os=>cell_regrown c1 a os;have m:Hid (∀W5,Bw W0 W5->Cs 185 #[Pt g,I6 (((d.sf.length+d.tl.length:Nat):Int)+(s.length:Int)),.func (.func 302) #[] #[Pt w.heap.size,.pointer (some ⟨w.heap.size+1,0,none⟩)],.func (.func 302) #[] #[Pt w.heap.size,.pointer (some ⟨w.heap.size+1,0,none⟩)]] W5 (BI g W5 fun c d'=>yx s d d' c)):=aH fun W5 hb=>by
  have i:=rX g w.heap.size (w.heap.size+1) s d.sf d.tl W5 (am.cell (J.below hb) 0) (am.cell (L.below hb) 0) (by omega) (by omega) (by omega);have:=mP g ((d.sf.length+d.tl.length+s.length:Nat):Int) 302 302 #[Pt w.heap.size,.pointer (some ⟨w.heap.size+1,0,none⟩)] #[Pt w.heap.size,.pointer (some ⟨w.heap.size+1,0,none⟩)] _ _ d W5 (p.below hb) (aQ func302 (by kernel_rfl) (by kernel_rfl)) (aQ func302 (by kernel_rfl) (by kernel_rfl)) i i;rw[show((d.sf.length+d.tl.length+s.length:Nat):Int)=((d.sf.length+d.tl.length:Nat):Int)+(s.length:Int) by omega]at this;exact this
 have M:d.sf.length+d.tl.length<=100000000:=hl;generalize d.sf.length+d.tl.length=q at t m M;clear h j k u c1;apply cI;go_in;go_wp2_with fail;simp only[H.out];refine ej 8 (by kernel_rfl) (by kernel_rfl) ?_;simp only[zF,zN,zG,zO];repeat(go_big_quiet_step (first|(go_at_call 303;with_reducible exact Calls.regrown_of (t.out _ _))|fail))
 refine wpQuiet_nil ?_;intro S b;obtain⟨⟨a,x⟩,b⟩:=b;have f:=below_regrown W0 a x;rw[<-b]at f;obtain⟨y,z⟩:=gB (m _ f) (aA I (aG f));clear b f m;go_wp2_with fail;refine y.mono ?_;rintro T w2 ⟨c,d',rfl,D,F,G⟩;obtain⟨A,B,C⟩:=gC D F G;clear D F G;go_wp2_with fail;go_ret;exact⟨c,d',rfl,A,B,aA z C⟩
structure cX(S:Nat->Prop)(w w':World):Prop where
 os:w'.os=w.os
 tape:w'.tape=w.tape
 output:w'.output=w.output
 size:w.heap.size<=w'.heap.size
 block:∀b,b < w.heap.size->¬S b->w'.heap[b]?=w.heap[b]?
section
variable{S S':Nat → Prop}{w1 w2:World}
theorem cX.refl:cX S w w:=⟨rfl,rfl,rfl,nR,fun _ _ _=>rfl⟩
theorem cX.trans(h:cX S w w1)(k:cX S w1 w2):cX S w w2:=⟨k.os.trans h.os,k.tape.trans h.tape,k.output.trans h.output,zD h.size k.size,fun b hb hs=>(k.block b (zT hb h.size) hs).trans (h.block b hb hs)⟩
theorem cX.J(h:Below w.heap.size w w1):cX S w w1:=⟨h.os,h.tape,h.output,h.size,fun b hb _=>h.block b hb⟩
theorem cX.U(h:aW g w w1)(a:S g):cX S w w1:=⟨h.os,h.tape,h.output,h.size,fun b hb hs=>h.block b hb (by intro e;injection e with e;subst e;exact hs a)⟩
theorem cX.blk(h:cX S w w1){cs}(a:am w g t cs)(b:¬S g):am w1 g t cs:=(h.block g (ap a) b).trans a
theorem cX.st{p}{o}(h:cX S w w1)(hf:aX o w)(a:∀b,S b->p (o b)):St p o w o w1:=
 ⟨h.os,h.tape,h.output,h.size,fun _ _=>rfl,hf.below h.size,fun b hb=>.inl (hf b hb),fun b hb hp=>h.block b hb fun x=>hp (a b x)⟩
end
theorem aT{w}{b:TypeId}{cs cs'}(h:am w r t cs)(a:am w k b cs')(c:t≠b):r≠k:=by
 rintro rfl;unfold am at h a;rw[h]at a;injection a with a;injection a with h1 h2;exact c h2
theorem aK.ch{A}(h:aK E base w (.slice A n cap) l)(c:k<=l.length):aK E base w (.slice A k cap) (l.take k):=by
 have a:(l.take k).length=k:=by simp;omega
 rcases h.2 with⟨b,u⟩|⟨g,i,f,b,j,m,t,p,q,s⟩
 ·injection b with h1 h2 h3;subst h1;subst h3;have:k=0:=by omega
  subst this;exact aK.nil _ _
 ·injection b with h1 h2 h3;subst h1;subst h3;refine⟨by rw[E.ae],.inr ⟨g,cap,f,by rw[a],j,m,by rw[a];omega,p,q,?_⟩⟩;have:=E.bb l k c;rw[a,<-this,<-s,yO,Nat.min_eq_left (Nat.mul_le_mul_right _ c)]
theorem aK.keep{row}(h:aK E base w v l)(b:w.grownBy w' row)(c:∀k,v.ownBlock=some k->row≠some k):aK E base w' v l:=by
 rcases h with⟨f,a⟩;refine⟨f,?_⟩;rcases a with a|⟨g,cap,cur,rfl,hb,hl,hrest⟩
 ·exact .inl a
 ·exact .inr ⟨g,cap,cur,rfl,hb,(b.block g (ap hl) (fun e=>c g rfl e.symm)).trans hl,hrest⟩
theorem aK.ar(h:aK E base w v l)(b:0 < l.length)(hv:v=.slice (some ⟨g,0,none⟩) n cap):∃sp,aR w g E.ty (E.cells l++sp)/\base<=g/\l.length<=cap/\cap<=maxLen/\(E.cells l++sp).length=cap*E.s/\n=l.length:=by
 obtain⟨g',c,sp,a,f,i,j,k,m⟩:=h.af b;rw[hv]at a;injection a with e1 e2 e3;injection e1 with e1;injection e1 with e1;subst e1;subst e2;subst e3;exact⟨sp,i,f,j,k,m,rfl⟩
theorem aK.cf{sp}(h:aR w g E.ty (E.cells l++sp))(a:base<=g)(b:l.length<=cap)(c:cap<=maxLen)(f:(E.cells l++sp).length=cap*E.s):aK E base w (.slice (some ⟨g,0,none⟩) l.length cap) l:=by
 refine aR.own h a b c f ?_;rw[qD (by rw[E.ae];exact nR),<-E.ae l,jJ]
theorem aK.ax(h:aK E base w v l)(hi:i < l.length)(a:α)(hv:v=.slice (some ⟨g,0,none⟩) n cap){x y}(c:E.s=2)(f:E.f a=[x,y]):
  aK E base ((w.setCell ⟨g,i*2,none⟩ x).setCell ⟨g,i*2+1,none⟩ y) v (l.set i a):=by
 obtain⟨sp,j,k,m,p,q,rfl⟩:=h.ar (by omega) hv;have b:=E.bo l i hi a sp;rw[f,c]at b;subst hv;rw[show l.length=(l.set i a).length by simp];refine aK.cf (sp:=sp) ?_ k (by simpa using m) p (by rw[zC,E.ae]at*;simpa using q);rw[<-b];exact(j.ag (i*2) x).ag (i*2+1) y
theorem aK.ai(h:aK E base w v l)(hi:i < l.length)(a:α)(hv:v=.slice (some ⟨g,0,none⟩) n cap){x y z}(c:E.s=3)(f:E.f a=[x,y,z]):
  aK E base (((w.setCell ⟨g,i*3,none⟩ x).setCell ⟨g,i*3+1,none⟩ y).setCell ⟨g,i*3+2,none⟩ z) v (l.set i a):=by
 obtain⟨sp,j,k,m,p,q,rfl⟩:=h.ar (by omega) hv;have b:=E.bo l i hi a sp;rw[f,c]at b;subst hv;rw[show l.length=(l.set i a).length by simp];refine aK.cf (sp:=sp) ?_ k (by simpa using m) p (by rw[zC,E.ae]at*;simpa using q);rw[<-b];exact((j.ag (i*3) x).ag (i*3+1) y).ag (i*3+2) z
theorem aK.cc(h:aK E base w v l)(a:0 < l.length)(hv:v=.slice (some ⟨g,0,none⟩) n cap)(j:Nat):w.frozen? ⟨g,j,none⟩=false:=by
 obtain⟨sp,b,_⟩:=h.ar a hv;exact b.frozen j
def cZ(E:El α)(o:Ow)(x:Nat×Nat)(w:World)(v:Value)(l:List α):Prop:=aK E 0 w v l/\∀k,v.ownBlock=some k->o k=x
section
variable{o o':Ow}{x:Nat × Nat}{p:Nat × Nat → Prop}
theorem cZ.nil o x w:cZ E o x w (aS) []:=⟨aK.nil _ _,fun k e=>by simp[Value.ownBlock]at e⟩
theorem cZ.rw(h:cZ E o x w v l):Rw E w v l:=h.1.rw
theorem cZ.lt(h:cZ E o x w v l):∀k,v.ownBlock=some k->k < w.heap.size:=fun k e=>(h.1.lt k e).2
theorem cZ.st(h:cZ E o x w v l)(b:St p o w o' w')(c:¬p x):cZ E o' x w' v l:=by
 refine⟨?_,fun k e=>by rw[b.old k (h.lt k e)];exact h.2 k e⟩;rcases h.1 with⟨f,a⟩;refine⟨f,?_⟩;rcases a with a|⟨g,cap,cur,rfl,hb,hl,hr⟩
 ·exact .inl a
 ·exact .inr ⟨g,cap,cur,rfl,hb,(b.block g (ap hl) (by rw[h.2 g rfl];exact c)).trans hl,hr⟩
theorem cZ.below(h:cZ E o x w v l)(a:Below w.heap.size w w'):cZ E o x w' v l:=⟨aI h.1 a,h.2⟩
theorem gY(E:El α){o:Oper}{a:Act}(f:o.guard=none)(b x:Operand)
  (q:o.op=.call {callee:=.builtin .append,args:=#[b,x],argTypes:=#[E.sl,E.sl]})
      (h:aK E base wr v l) (H:base<=wr.heap.size) (t:α) (s:a.eval b=v) (y:a.eval x=.slice (some ⟨wr.heap.size,0,none⟩) 1 1)
  (z:(l.length+1)*E.bytes<=140737488355328) (G:l.length < 1000000000000000000)
  (K:∀v' w',aK E base w' v' (l++[t])->wr.grownBy w' v.ownBlock->(v'.ownBlock=v.ownBlock\/v'.ownBlock=some (wr.heap.size+1))->wpList prog ops Q rest (a.put o.dst v') w'):wpList prog ops Q (o::rest) a (wr.alloc (.cells (E.f t).toArray E.ty)):=by
 obtain⟨A,hi,g,i,m⟩:=info_parts E.info;have n:=qN wr (.cells (E.f t).toArray E.ty) v.ownBlock;have p:Sl (wr.alloc (.cells (E.f t).toArray E.ty)) E.s (some ⟨wr.heap.size,0,none⟩) 1 (E.f t):=by
  refine⟨by rw[E.len];omega,fun _=>⟨_,_,rfl,by simp,fun j u hu=>?_⟩⟩;rw[(am.new wr _ _).cell];simpa using hu
 have c:(wr.alloc (.cells (E.f t).toArray E.ty)).ownsRow base E.ty E.s v l.length (E.cells l):=aK.grown h (qN wr _ none) (fun k e=>by cases e);obtain⟨v',w',B,C,D,F⟩:=eB (P:=prog) (wr.alloc (.cells (E.f t).toArray E.ty)) base E.sl o.type E.ty A E.z E.s E.bytes E.und hi g i m E.zs E.pos v l.length (E.cells l) c
  (some ⟨wr.heap.size,0,none⟩) 1 1 (E.f t) p (E.one t) (by unfold maxLen;omega) z (by simp;omega)
 refine jZ _ f b x E.sl E.sl q _ _ s y _ _ B (K v' w' ?_ ?_ (by simpa using F))
 ·unfold aK;rw[E.al,E.aw,zC];exact C
 ·exact n.andThen D (fun j e=>.inr e)
theorem cZ.app{t:List α}(h:cZ E o x w v l)(hf:aX o w)(i:p x)(c:aK E 0 w' v' t)(m:w.grownBy w' v.ownBlock)(f:v'.ownBlock=v.ownBlock\/∃k,v'.ownBlock=some k/\w.heap.size<=k):
  ∃o',cZ E o' x w' v' t/\St p o w o' w':=by
 have a:St p o w o w':=.da m (fun g e=>.inr (by rw[h.2 g e];exact i)) hf;rcases f with f|⟨k,hk,hkw⟩
 ·exact⟨o,⟨c,fun b e=>h.2 b (by rw[<-f];exact e)⟩,a⟩
 ·have j:=(c.lt k hk).2;exact⟨b7 o k x,⟨c,fun b e=>by rw[hk]at e;injection e with e;subst e;exact a8 _ _ _⟩,a.tag hkw j (.inr i)⟩
theorem cZ.aa(h:aK E base w' v l)(g:w.heap.size<=base)(a:St p o w o' w')(c:x=(0,0)\/p x):∃o2,cZ E o2 x w' v l/\St p o w o2 w'/\∀b,o2 b=o' b\/(w.heap.size<=b/\v.ownBlock=some b):=by
 cases hv:v.ownBlock with
 |none=>exact⟨o',⟨h.mono (zS _),fun k e=>by rw[hv]at e;cases e⟩,a,fun b=>.inl rfl⟩
 |some k=>
  obtain⟨i,f⟩:=h.lt k hv;refine⟨b7 o' k x,⟨h.mono (zS _),fun b e=>by rw[hv]at e;injection e with e;subst e;exact a8 _ _ _⟩,a.tag (by omega) f c,fun b=>?_⟩;by_cases e:b=k
  ·subst e;exact .inr ⟨by omega,rfl⟩
  ·exact .inl (bT e _)
end
def EV(w:World)(own:Option Nat)(K:Nat)(a:Array Value)(p:Int->Bool):Prop:=∀t W,(∀b,b < w.heap.size->own≠some b->W.heap[b]?=w.heap[b]?)->Cs K (#[I6 t]++a) W fun e W'=>Rt e (.bool (p t))/\W=W'
theorem dP:∀(m:List Int),aC.cells m=m.map fun z=>I6 z
 |[]=>rfl
 |a::m=>by
  have:=dP m
  unfold El.cells at this ⊢
  rw[zX,this];rfl
theorem mQ{q:Nat}{l m:List Int}{sp}(a:Int)(h:aR w g aC.ty (aC.cells l++sp))(f:base<=g)(x:l.length<=cap)(i:cap<=maxLen)(b:(aC.cells l++sp).length=cap*aC.s)(n:m.length<=l.length):
  aK aC base (Sort.putRow (fun z:Int=>I6 z) (Sort.ahead w q) g 0 (m++List.replicate (l.length - m.length) a).toArray) (.slice (some ⟨g,0,none⟩) m.length cap) m/\w.grownBy (Sort.putRow (fun z:Int=>I6 z) (Sort.ahead w q) g 0 (m++List.replicate (l.length - m.length) a).toArray) (some g):=by
 have A:=ap h;have p:w.heap[g]?=some (.cells (aC.cells l++sp).toArray aC.ty (0,0)):=h;have s:(Sort.putRow (fun z:Int=>I6 z) (Sort.ahead w q) g 0 (m++List.replicate (l.length - m.length) a).toArray).heap[g]?=some (.cells (Sort.putCells (fun z:Int=>I6 z) 0 (m++List.replicate (l.length - m.length) a).toArray (aC.cells l++sp).toArray) aC.ty (0,0)):=by
  simp[Sort.putRow,Sort.mapBlock,Sort.ahead,yL,p,Sort.onCells]
 have y:(aC.cells m).length=m.length:=by rw[aC.ae];exact wC _
 have c:(aC.cells l).length=l.length:=by rw[aC.ae];exact wC _
 refine⟨⟨aC.ae m,.inr ⟨g,cap,_,rfl,f,s,by omega,i,?_,?_⟩⟩,rfl,rfl,rfl,by simp[Sort.putRow,Sort.mapBlock,Sort.ahead],fun k hk hne=>?_⟩
 ·simp only[Sort.putCells,Array.size_mapIdx,qT];exact b
 ·apply yZ;intro j;show((_:List Value).take (m.length*1))[j]?=_;rw[wC];by_cases hj:j < m.length
  ·rw[List.getElem?_take_of_lt hj,Array.getElem?_toList];have t:j < (aC.cells l++sp).length:=by rw[zC,c];omega
   simp only[Sort.putCells,Array.getElem?_mapIdx,zL];rw[zA t];generalize(aC.cells l++sp)[j]=y0;rw[dP,qS,zA hj];simp;have u:j < m.length+(l.length - m.length):=by omega
   simp[u,getElem!_pos,hj,List.getElem_append_left hj]
  ·rw[List.getElem?_take_eq_none (by omega),jB (by omega)]
 ·have:g≠k:=fun e=>hne (by rw[e]);simp[Sort.putRow,Sort.mapBlock,Sort.ahead,yL,this]
theorem ks(K:Nat) caps(p:Int->Bool)(base:Nat)(v:Value)(l:List Int) w(hown:aK aC base w v l)(hn:l.length<=1000000000)
  (hent:∀args W,(callFunc K args).run prog W=.ok (.enter K args) W) (hp:EV w v.ownBlock K caps p):
  Cs 137 #[v,.func (.func K) #[] caps] w (tV aC w base v.ownBlock (l.filter fun t=>!p t)):=by
 rcases qK l.length with h0|h0
 ·have H:=yP h0;subst H;obtain⟨A,c,rfl,_⟩:=bV hown;obtain⟨I,J⟩:=gB hown ((Tryz.slices_IndexFunc_empty_f128 (α:=Int) A c (.func (.func K) #[] caps) w).mono (R':=fun e w'=>Rt e (I6 (-1))/\w=w') fun e w' h=>⟨h.1,h.2.symm⟩);apply cI;go_in;go_wp2_with fail;refine J.mono ?_;rintro N O ⟨rfl,rfl⟩;go_wp2;go_ret;exact⟨_,rfl,I,jQ _ _⟩
 ·obtain⟨g,cap,sp,rfl,a,u,f,L,D⟩:=hown.af h0;have y:=u.bl f;have s:∀t W,(∀b,b < w.heap.size->some g≠some b->W.heap[b]?=w.heap[b]?)->FnGives prog K caps #[I6 t] (.bool (p t)) W:=fun t W B=>(hp t W B).mono fun e W' ⟨i,k⟩=>⟨i,0,by rw[<-k];rfl⟩;refine(Tryz.slices_DeleteFunc (α:=Int) (fun z=>I6 z) (fun _=>rfl) p K caps hent 0 (fun w=>by kernel_rfl) g 0 cap l.toArray w ?_ ?_ ?_ (by simpa using(by omega:l.length<=9223372036854775807)) (by simpa using f)).mono ?_
  ·intro W x B;exact s x W fun b a _=>B.block b a
  ·intro n os R x _;refine s x _ fun b a hne=>?_;unfold sortWorld;rw[Sort.heap_grow_old _ _ (by simpa[Sort.putRow,Sort.mapBlock,Sort.ahead]using a)];have:g≠b:=fun e=>hne (by rw[e]);simp[Sort.putRow,Sort.mapBlock,Sort.ahead,yL,this]
  ·intro j F;have G:j < l.length:=by simpa using F
   obtain⟨g',o,C,M⟩:=y.at_ (zA G);injection C with C;injection C with i k;subst i;subst k;refine⟨?_,u.frozen _⟩;have:=M 0 _ rfl;rw[getElem!_pos l.toArray j F];simpa[aC]using this
  ·rintro e w' ⟨rfl,q,rfl⟩;simp only[qT];obtain⟨i,k⟩:=mQ (q:=q) (m:=l.filter fun t=>!p t) 0 u a f L D (qO _ _);exact⟨_,rfl,i,k⟩
theorem cS{v}{l:List Int}(x:Int) w(h:Rw aC w v l)(a:l.length<=9223372036854775807):Cs 130 #[v,I6 x] w fun e w'=>Rt e (.bool (l.contains x))/\w=w':=by
 obtain⟨A,c,rfl,f,i⟩:=id h;rcases qK l.length with h0|h0
 ·have a:=yP h0;subst a;exact(Tryz.slices_Contains_int_empty A c x w).mono fun e w' h=>⟨h.1,h.2.symm⟩
 ·obtain⟨g,o,rfl,_⟩:=i.sl.2 h0;refine(Tryz.slices_Contains_int g o l.length c l x w nR a fun j hj=>?_).mono fun e w' h2=>⟨by rw[h2.1,jJ],h2.2.symm⟩;obtain⟨g',o',b,f⟩:=h.at_ (zA hj);injection b with b;injection b with h1 h2;subst h1;subst h2;have:=f 0 _ rfl;rw[List.getD_eq_getElem?_getD,zA hj];simpa[aC]using this
section
open Go.Maps Go.Sort Go.Shelf
theorem qk(m:Nat):AnyZI.SortsIn prog Tryz.sortedA_ren Fence.wide m:=
 ⟨fun blk off cap ss W hH hblk hsz=>callsIn_wide.2 (AnyM.slices_Sort_int Tryz.sortA blk off cap ss W hH hblk hsz),
  fun p cap W=>callsIn_wide.2 (AnyM.slices_Sort_int_none Tryz.sortA p cap W)⟩
def bN(k:Int):Prop:= -9223372036854775808<=k/\k<=9223372036854775807
abbrev tY:Value->Option (DataW Unit×List MemPlace):=fun _=>some (.nil,[])
theorem mR{a:List MapEntry}{m:IM}(h:a.map (fun e=>(e.key,e.val))=m.map gk):a.map (fun e=>e.key)=m.map fun p=>I6 p.1:=by
 have:=congrArg (List.map Prod.fst) h;simpa[gk,Function.comp_def]using this
theorem gZ{m:IM}(h:b4 w b m)(y:∀p∈m,bN p.1)(H:m.length<=maxLen):
  ∃D:DataW Unit,w.ownsMap Tryz.prog 3 tY b m.length D/\(intKeys D).Perm (m.map Prod.fst)/\Maps.size D<=m.length:=by
 obtain⟨c,clock,z,A,q⟩:=h;have B:c.size=m.length:=by have:=congrArg List.length q;simpa using this
 have C:Tryz.prog.underlying 3=some (.int .i64):=by kernel_rfl
 have i:∀x∈c.toList,∃a,x.key=.int .i64 a/\(Lit.int .i64 a).wf=true:=by
  intro x f;have:x.key∈c.toList.map (fun e=>e.key):=zV.2 ⟨x,f,rfl⟩;rw[mR q]at this;obtain⟨p,s,t⟩:=zV.1 this;obtain⟨I,J⟩:=y p s;exact⟨p.1,t.symm,by simp[Lit.wf,show IntKind.i64.min= -9223372036854775808 from rfl,show IntKind.i64.max=9223372036854775807 from rfl];omega⟩
 have n:∀x∈c.toList,∀a,x.key=.int .i64 a->(Lit.int .i64 a).wf=true->WideElems.rd Tryz.prog 3 tY x=some (.int .i64 a,.nil):=by
  intro x f a g j;unfold WideElems.rd;rw[g,keyOf_int_mk C j];rfl
 have k:w.ownsMap Tryz.prog 3 tY b m.length (.map ((c.toList.map (WideElems.rg Tryz.prog 3 tY)).foldr DataW.insert [])):=
  ⟨c,clock,z,⟨by omega,A,fun x f=>by obtain⟨a,g,j⟩:=i x f;exact⟨_,n x f a g j⟩⟩,by omega,rfl⟩
 refine⟨_,k,?_,k.size_le⟩;have s:=(WideShapes.sorted_perm (c.toList.map (WideElems.rg Tryz.prog 3 tY))).map fun p=>_root_.Go.intOf p.1;refine s.trans ?_;have F:(c.toList.map (WideElems.rg Tryz.prog 3 tY)).map (fun p=>_root_.Go.intOf p.1)=m.map Prod.fst:=by
  have G:c.toList.map (fun x=>_root_.Go.intOf (WideElems.rg Tryz.prog 3 tY x).1)=c.toList.map (fun x=>match x.key with| .int _ a=>a|_=>0):=by
   refine List.map_congr_left fun x f=>?_;obtain⟨a,g,j⟩:=i x f;rw[WideElems.rg_of (n x f a g j),g];rfl
  rw[List.map_map];refine(show _=_ from G).trans ?_;have u:=congrArg (List.map fun v:Value=>match v with| .int _ a=>a|_=>(0:Int)) (mR q);rw[List.map_map,List.map_map]at u;exact u
 rw[F]
theorem pi(b:Nat)(w:World):Cs 221 #[.map (some b)] w fun e w'=>Rt e (.func (.func 325) #[] #[Pt w.heap.size])/\w'=w.alloc (.cells #[.map (some b)] 198):=
 (callsIn_wide (n:=5)).1 (AnyZI.keys_in Tryz.keysB Fence.wide 5 trivial rfl (some b) w)
theorem ku(B b:Nat)(m:IM) w(hB:am w B 198 #[.map (some b)])(h:b4 w b m)(hk:∀p∈m,bN p.1)(hn:m.length<=100000000):
  Cs 62 #[.func (.func 325) #[] #[Pt B]] w fun e w'=>∃l,l.Perm (m.map Prod.fst)/\fk aC w l e w':=by
 obtain⟨D,i,j,t⟩:=gZ h hk (by unfold maxLen;omega);refine(callsIn_wide (n:=5)).1 ?_;have f:SeqGives Fence.wide 2 prog 325 #[Pt B] encZ (fun c=>c.Perm (intKeys D)) (Maps.size D) w:=
  AnyZI.keys_gives (ρ:=Tryz.keysB_ren) {Tryz.keysB with} Fence.wide _ trivial rfl (by omega) B b m.length D _ hB.lt (am.cell hB 0) i
 have k:=AnyZI.sorted_in Tryz.sortedA Fence.wide 5 trivial trivial trivial trivial rfl (by omega) (qk _) (enters_of func122 (by kernel_rfl) rfl) 325 #[Pt B] trivial (enters_of func325 (by kernel_rfl) rfl) _ _ (by unfold maxLen;omega) (by omega) _ f;refine CallsIn.mono (show CallsIn _ _ prog 62 _ _ _ from k) ?_;rintro e w' ⟨v,c,rfl,q,g,_,s⟩;refine⟨c.mergeSort (fun x y=>decide (x<=y)),((yQ _ _).trans q).trans j,v,rfl,?_,s⟩;unfold aK;rw[yX];have e:aC.cells (c.mergeSort fun x y=>decide (x<=y))=(c.mergeSort fun x y=>decide (x<=y)).map encZ:=by
  generalize(c.mergeSort fun x y=>decide (x<=y))=l;induction l with
  |nil=>rfl
  |cons a l ih=>unfold El.cells at ih ⊢;rw[zX,ih];rfl
 rw[e];exact g
theorem yz(b:Nat)(w:World):Cs 141 #[.map (some b)] w fun e w'=>Rt e (.func (.func 232) #[] #[Pt w.heap.size])/\w'=w.alloc (.cells #[.map (some b)] 182):=
 (callsIn_wide (n:=5)).1 (AnyZI.keys_in Tryz.keysS Fence.wide 5 trivial rfl (some b) w)
theorem ql(B b:Nat)(m:IM) w(hB:am w B 182 #[.map (some b)])(h:b4 w b m)(hk:∀p∈m,bN p.1)(hn:m.length<=100000000):
  Cs 62 #[.func (.func 232) #[] #[Pt B]] w fun e w'=>∃l,l.Perm (m.map Prod.fst)/\fk aC w l e w':=by
 obtain⟨D,i,j,t⟩:=gZ h hk (by unfold maxLen;omega);refine(callsIn_wide (n:=5)).1 ?_;have f:SeqGives Fence.wide 2 prog 232 #[Pt B] encZ (fun c=>c.Perm (intKeys D)) (Maps.size D) w:=
  AnyZI.keys_gives (ρ:=Tryz.keysS_ren) {Tryz.keysS with} Fence.wide _ trivial rfl (by omega) B b m.length D _ hB.lt (am.cell hB 0) i
 have k:=AnyZI.sorted_in Tryz.sortedA Fence.wide 5 trivial trivial trivial trivial rfl (by omega) (qk _) (enters_of func122 (by kernel_rfl) rfl) 232 #[Pt B] trivial (enters_of func232 (by kernel_rfl) rfl) _ _ (by unfold maxLen;omega) (by omega) _ f;refine CallsIn.mono (show CallsIn _ _ prog 62 _ _ _ from k) ?_;rintro e w' ⟨v,c,rfl,q,g,_,s⟩;refine⟨c.mergeSort (fun x y=>decide (x<=y)),((yQ _ _).trans q).trans j,v,rfl,?_,s⟩;unfold aK;rw[yX];have e:aC.cells (c.mergeSort fun x y=>decide (x<=y))=(c.mergeSort fun x y=>decide (x<=y)).map encZ:=by
  generalize(c.mergeSort fun x y=>decide (x<=y))=l;induction l with
  |nil=>rfl
  |cons a l ih=>unfold El.cells at ih ⊢;rw[zX,ih];rfl
 rw[e];exact g
theorem y0(b:Nat)(w:World):Cs 326 #[.map (some b)] w fun e w'=>Rt e (.func (.func 372) #[] #[Pt w.heap.size])/\w'=w.alloc (.cells #[.map (some b)] 179):=
 (callsIn_wide (n:=5)).1 (AnyZI.keys_in Tryz.keysI Fence.wide 5 trivial rfl (some b) w)
theorem qm(B b:Nat)(m:IM) w(hB:am w B 179 #[.map (some b)])(h:b4 w b m)(hk:∀p∈m,bN p.1)(hn:m.length<=100000000):
  Cs 62 #[.func (.func 372) #[] #[Pt B]] w fun e w'=>∃l,l.Perm (m.map Prod.fst)/\fk aC w l e w':=by
 obtain⟨D,i,j,t⟩:=gZ h hk (by unfold maxLen;omega);refine(callsIn_wide (n:=5)).1 ?_;have f:SeqGives Fence.wide 2 prog 372 #[Pt B] encZ (fun c=>c.Perm (intKeys D)) (Maps.size D) w:=
  AnyZI.keys_gives (ρ:=Tryz.keysI_ren) {Tryz.keysI with} Fence.wide _ trivial rfl (by omega) B b m.length D _ hB.lt (am.cell hB 0) i
 have k:=AnyZI.sorted_in Tryz.sortedA Fence.wide 5 trivial trivial trivial trivial rfl (by omega) (qk _) (enters_of func122 (by kernel_rfl) rfl) 372 #[Pt B] trivial (enters_of func372 (by kernel_rfl) rfl) _ _ (by unfold maxLen;omega) (by omega) _ f;refine CallsIn.mono (show CallsIn _ _ prog 62 _ _ _ from k) ?_;rintro e w' ⟨v,c,rfl,q,g,_,s⟩;refine⟨c.mergeSort (fun x y=>decide (x<=y)),((yQ _ _).trans q).trans j,v,rfl,?_,s⟩;unfold aK;rw[yX];have e:aC.cells (c.mergeSort fun x y=>decide (x<=y))=(c.mergeSort fun x y=>decide (x<=y)).map encZ:=by
  generalize(c.mergeSort fun x y=>decide (x<=y))=l;induction l with
  |nil=>rfl
  |cons a l ih=>unfold El.cells at ih ⊢;rw[zX,ih];rfl
 rw[e];exact g
theorem y1(b:Nat)(w:World):Cs 63 #[.map (some b)] w fun e w'=>Rt e (.func (.func 123) #[] #[Pt w.heap.size])/\w'=w.alloc (.cells #[.map (some b)] 86):=
 (callsIn_wide (n:=5)).1 (AnyZI.keys_in Tryz.keysQ Fence.wide 5 trivial rfl (some b) w)
theorem qo(B b:Nat)(m:IM) w(hB:am w B 86 #[.map (some b)])(h:b4 w b m)(hk:∀p∈m,bN p.1)(hn:m.length<=100000000):
  Cs 62 #[.func (.func 123) #[] #[Pt B]] w fun e w'=>∃l,l.Perm (m.map Prod.fst)/\fk aC w l e w':=by
 obtain⟨D,i,j,t⟩:=gZ h hk (by unfold maxLen;omega);refine(callsIn_wide (n:=5)).1 ?_;have f:SeqGives Fence.wide 2 prog 123 #[Pt B] encZ (fun c=>c.Perm (intKeys D)) (Maps.size D) w:=
  AnyZI.keys_gives (ρ:=Tryz.keysQ_ren) {Tryz.keysQ with} Fence.wide _ trivial rfl (by omega) B b m.length D _ hB.lt (am.cell hB 0) i
 have k:=AnyZI.sorted_in Tryz.sortedA Fence.wide 5 trivial trivial trivial trivial rfl (by omega) (qk _) (enters_of func122 (by kernel_rfl) rfl) 123 #[Pt B] trivial (enters_of func123 (by kernel_rfl) rfl) _ _ (by unfold maxLen;omega) (by omega) _ f;refine CallsIn.mono (show CallsIn _ _ prog 62 _ _ _ from k) ?_;rintro e w' ⟨v,c,rfl,q,g,_,s⟩;refine⟨c.mergeSort (fun x y=>decide (x<=y)),((yQ _ _).trans q).trans j,v,rfl,?_,s⟩;unfold aK;rw[yX];have e:aC.cells (c.mergeSort fun x y=>decide (x<=y))=(c.mergeSort fun x y=>decide (x<=y)).map encZ:=by
  generalize(c.mergeSort fun x y=>decide (x<=y))=l;induction l with
  |nil=>rfl
  |cons a l ih=>unfold El.cells at ih ⊢;rw[zX,ih];rfl
 rw[e];exact g
end
theorem Rw.slice{w}{v}(h:Rw E w v l):∃A c,v=.slice A l.length c/\l.length<=c:=by obtain⟨A,c,rfl,a,_⟩:=h;exact⟨A,c,rfl,a⟩
theorem El.cz(E:El α)(l:List α)(k:Nat):E.cells (l.drop k)=(E.cells l).drop (k*E.s):=by
 induction l generalizing k with
 |nil=>simp[El.cells]
 |cons a l ih=>
  cases k with
  |zero=>simp
  |succ k=>
   rw[zG,ih];unfold El.cells;rw[zX,List.drop_append,E.len,show(k+1)*E.s - E.s=k*E.s by rw[Nat.succ_mul];omega,show List.drop ((k+1)*E.s) (E.f a)=[]from List.drop_of_length_le (by rw[E.len,Nat.succ_mul];omega)];rfl
theorem Rw.drop_{w}{A A2}{c:Nat}(h:Rw E w (.slice A l.length c) l)(f:k<=l.length)(b:fM w E.ty E.s A2 (l.length - k) ((E.cells l).drop (k*E.s))):Rw E w (.slice A2 (l.length - k) (c - k)) (l.drop k):=by
 obtain⟨g,i,a,j,_⟩:=h;injection a with a h2 h3;refine⟨A2,c - k,by rw[qB],by rw[qB];omega,?_⟩;rw[qB,E.cz];exact b
theorem aK.other{row}(h:aK E base w v l)(c:w.grownBy w' row)(b:∀k,row=some k->v.ownBlock≠some k):aK E base w' v l:=by
 rcases h with⟨f,a⟩;refine⟨f,?_⟩;rcases a with a|⟨g,cap,cur,rfl,hb,hl,hr⟩
 ·exact .inl a
 ·exact .inr ⟨g,cap,cur,rfl,hb,(c.block g (ap hl) (fun e=>b g e.symm rfl)).trans hl,hr⟩
theorem fk.below{e}(h:fk E w l e w')(a:Below w0.heap.size w0 w):fk E w0 l e w':=by
 obtain⟨v,rfl,b,c⟩:=h;exact⟨v,rfl,b.mono a.size,a.trans (c.mono a.size)⟩
theorem xI{P:Program}(t e:TypeId)(i:TypeInfo)(b:P.underlying t=some (.slice e))(hi:P.info? e=some i)(s:Nat)(f:i.size=s)(g:IntKind) A(n c:Nat)(z:Int)(k:Nat)(hz:z=k)(hk:k<=n)(hc:n<=c):
  ∃A2,(∀w,(Instr.slice t (.slice A n c) (some (.int g z)) none none).run P w=.ok (.slice A2 (n - k) (c - k)) w)/\(∀w e xs,fM w e s A n xs->fM w e s A2 (n - k) (xs.drop (k*s)))/\∀a,A2=some a->∃a',A=some a'/\a.block=a'.block:=by
 subst hz;refine⟨if c=k then A else A.map (·.add (k*s)),fun w=>?_,fun w e xs h=>?_,fun a ha=>?_⟩
 ·have j:(0:Int)<=(k:Int):=by omega
  have p:(k:Int)<=(n:Int):=by omega
  simp[Instr.slice,run_underlying b,Instr.sliceBounds,run_sliceBound,sizeOf,typeInfo,hi,f,j,p]
 ·have:=h.cut (lo:=k) (m:=n - k) (c:=c) (by omega) hc;rwa[qP (by rw[qB,h.1,<-Nat.sub_mul];exact nR)]at this
 ·cases A with
  |none=>simp at ha
  |some a'=>
   refine⟨a',rfl,?_⟩;split at ha
   ·injection ha with ha;rw[ha]
   ·simp[Addr.add]at ha;rw[<-ha];split<;>rfl
def k3(v' v:Value):Prop:=∀a m c,v'=.slice (some a) m c->∃a' m' c',v=.slice (some a') m' c'/\a.block=a'.block
theorem k3.refl v:k3 v v:=fun a m c h=>⟨a,m,c,h,rfl⟩
def GA(E:El α)(w:World)(l:List α)(e:Ending)(w':World):Prop:=∃m,(∀x∈m,x∈l)/\m.length<=l.length/\fk E w m e w'
theorem rZ{v}{l:List bC} w(h:Rw aJ w v l)(hl:l.length<=1000000000):
  Cs 376 #[v] w (GA aJ w l):=by
 have H:=aH h;apply cI;go_in;go_wp2_with fail;refine(gW _ H (by omega)).mono ?_;rintro g w1 ⟨v1,rfl,a,b⟩;go_wp2_with fail;refine(yt _ v1 l w1 a (by omega)).mono ?_;rintro g w2 ⟨rfl,m,i,c,j⟩;have f:=b.grown j b.size (fun k hk=>(a.lt k hk).1);have n:=aH i;have p:m.length<=1000000000:=by have:=i.length_eq;omega
 go_wp2_with fail;refine(qi _ v1 m w2 c p).mono ?_;rintro g w3 ⟨v3,u,rfl,q,s,z,t⟩;have y:=aH s;go_wp2;go_ret;exact⟨u,fun x hx=>(n.mem_iff).1 (y x hx),by have:=n.length_eq;omega,v3,rfl,q,f.grown t f.size (fun k hk=>(c.lt k hk).1)⟩
theorem xJ(b:Nat)(n:Int)(t:bC)(w:World)(a:Ce w b 0 (I6 n)):
  Cs 412 #[.agg #[I6 t.nd,I6 t.n],Pt b] w fun e w'=>Rt e (.bool (t.nd != n))/\Below w.heap.size w w':=by
 have c:=qX w _ a;have f:∀o,Ce (w.alloc o) b 0 (I6 n):=fun o=>(Below.cell (ba w o) (p:=⟨b,0,none⟩) c).trans a;apply cI;go_in;go_wp2;go_ret;exact⟨rfl,ba _ _⟩
def iN(l:List bC)(n:Int):List bC:=l.filter fun t=>!(t.nd != n)
theorem EW{v}{l:List bC}(n:Int) w(h:Rw aJ w v l)(hl:l.length<=1000000000):
  Cs 380 #[v,I6 n] w (fk aJ w (iN l n)):=by
 obtain⟨A,c,rfl,u⟩:=h.slice;obtain⟨x,hi,C,D,F⟩:=info_parts aJ.info;have G:=ry (P:=prog) 36 42 x underlying36 hi .i64 .i64 A l.length c l.length u;have H:=aH h;apply cI;go_in;go_wp2_with fail;have y:Rw aJ (w.alloc (.cells #[I6 n] 3)) (.slice A l.length l.length) l:=by
  obtain⟨I,J,b,_,z⟩:=H.below (ba _ (.cells #[I6 n] 3));injection b with b h2 h3;subst b;exact⟨_,_,rfl,nR,z⟩
 refine(gW _ y (by omega)).mono ?_;rintro B w1 ⟨v1,rfl,i,a⟩;have j:Bw w w1:=(ba _ _).trans (a.mono (by simp));have m:=(am.new w 3 #[I6 n]).below a;obtain⟨f,p⟩:=gB i m;go_wp2_with fail;refine(rO 412 #[Pt w.heap.size] (fun t=>t.nd != n) _ v1 l w1 f hl (aQ func412 (by kernel_rfl) (by kernel_rfl)) (fun t W hW=>xJ _ n t W (am.cell (p.below hW) 0)) (fun g hg t W hW=>xJ _ n t W (am.cell (p.only hW (by have:=(f.lt g hg).1;simp at this;omega)) 0))).mono ?_;rintro B w2 ⟨v2,rfl,q,s⟩;go_wp2;go_ret;exact⟨v2,rfl,q.mono (by simp),j.grown s j.size (fun k hk=>by have:=(f.lt k hk).1;simp at this;omega)⟩
def EX(w:World)(v:Value)(u:Int)(l:List bC)(e:Ending)(w':World):Prop:=∃(n:Int) (v':Value) (k:Nat),Rt e (.tuple #[I6 n,v'])/\k<=l.length/\Rw aJ w' v' (l.drop k)/\(n=u\/(1<=k/\∃d∈l,n=d.n))/\k3 v' v/\Below w.heap.size w w'
theorem y2{v}{l:List bC}(u:Int) w(h:Rw aJ w v l)(hl:l.length<=1000000000):
  Cs 379 #[I6 u,v] w (EX w v u l):=by
 obtain⟨S,hi,Z,D,ha⟩:=info_parts aJ.info;have H:=aH h;apply cI;go_in;go_wp2_with fail;go_step3;go_wp2_with fail;go_step3;go_wp2_with fail;go_loopw[0,1] (fun vu vv wr=>∃(n:Int) (k:Nat),k<=l.length/\vu=I6 n/\Rw aJ wr vv (l.drop k)/\(n=u\/(1<=k/\∃d∈l,n=d.n))/\k3 vv v/\Bw w wr) (fun _ vv _=>match vv with| .slice _ n _=>n|_=>0)
 case atStart=>exact⟨u,0,zS _,rfl,H,.inl rfl,k3.refl _,bR _⟩
 case round=>
  obtain⟨n,k,F,rfl,i,T,G,U⟩:=hrel;obtain⟨s,j,B,x⟩:=gD T G U i;obtain⟨A,c,rfl,hc⟩:=i.slice;have I:(l.drop k).length=l.length - k:=qB;have y:Hid ((l.drop k).length=l.length - k):=aH I;by_cases hlt:k < l.length
  ·have bI:=x.at_ (zA (show 0 < (l.drop k).length by omega));obtain⟨g,o,rfl,bI⟩:=bI;have J:Hid ((l.drop k)[0]'(by omega)∈l):=aH (jK (zY _));generalize(l.drop k)[0]'(by omega)=t at bI J;have c0:Ce wr g o (I6 t.nd):=by have:=bI 0 _ rfl;rwa[yG]at this
   have c1:Ce wr g (o+1) (I6 t.n):=by have:=bI 1 _ rfl;rwa[yG]at this
   obtain⟨L,hcut,z,C⟩:=xI (P:=prog) 36 42 S underlying36 hi 2 D .i64 (some ⟨g,o,none⟩) (l.length - k) c 1 1 rfl (by omega) (by omega);have q:=ba wr (.cells #[I6 t.nd,I6 t.n] 42);have p:=aH (x.below q);have M:Hid (Rw aJ (wr.alloc (.cells #[I6 t.nd,I6 t.n] 42)) (.slice L (l.length - k - 1) (c - 1)) (l.drop (k+1))):=aH (by
    rw[<-List.drop_drop,<-y];obtain⟨A',c',b,_,i⟩:=p.out;injection b with b f R;subst b;rw[y]at i;have:=z _ _ _ i;rw[<-y]at this;exact p.drop_ (by omega) this)
   have N:=aH (B.trans (q.mono B.size));have HL:Hid ((l.drop (k+1)).length=(l.drop k).length - 1):=aH (by rw[qB,qB];omega);have O:Hid (k3 (.slice L (l.length - k - 1) (c - 1)) v):=aH (fun a m c h=>by
    injection h with b;obtain⟨a',f,R⟩:=C a b;injection f with f;subst f;obtain⟨a2,V,c2,X,Y⟩:=j _ _ _ rfl;exact⟨a2,V,c2,X,R.trans Y⟩)
   go_wp2_with fail
   ·rw[qJ]
    ((try simp only[Exit.inBlock,Exit.then]);refine bodyPost_ret (results_tmp2 rfl _ _ _) rfl ?_)
    exact⟨n,_,k,rfl,F,p,s,j,N⟩
   ·go_roundw
    case rel=>exact⟨max n t.n,k+1,by omega,rfl,M,by
     rcases Int.le_total n t.n with hle|hle
     ·rw[Int.max_eq_right hle];exact .inr ⟨by omega,t,J,rfl⟩
     ·rw[Int.max_eq_left hle];exact s.imp id fun⟨b,f⟩=>⟨by omega,f⟩,O,N⟩
    case measure=>simp;omega
  ·have hd:decide ((0:Int) < ((l.length - k:Nat):Int))=false:=by simp;omega
   have he:decide (0 < l.length - k)=false:=by simp;omega
   go_wp2_with fail;rw[qJ]
   ((try simp only[Exit.inBlock,Exit.then]);refine bodyPost_ret (results_tmp2 rfl _ _ _) rfl ?_)
   exact⟨n,_,k,rfl,F,x,s,j,B⟩
section
variable{a1 a2 a3 a4 a5 a6:Addr}{v1 v3 v4 v5 v6:Value}
theorem aD(b:Below w.heap.size w w'){a:Addr}{v}(h:w.cell? a=some v):w'.cell? a=some v:=(b.cell (qX w _ h)).trans h
theorem BK(a:Below w.heap.size w w')(h:w.cell? a1=some v1/\w.cell? a2=some v2):w'.cell? a1=some v1/\w'.cell? a2=some v2:=⟨aD a h.1,aD a h.2⟩
theorem Eo(a:Below w.heap.size w w')(h:w.cell? a1=some v1/\w.cell? a2=some v2/\w.cell? a3=some v3):w'.cell? a1=some v1/\w'.cell? a2=some v2/\w'.cell? a3=some v3:=⟨aD a h.1,BK a h.2⟩
theorem FR(a:Below w.heap.size w w')(h:w.cell? a1=some v1/\w.cell? a2=some v2/\w.cell? a3=some v3/\w.cell? a4=some v4):w'.cell? a1=some v1/\w'.cell? a2=some v2/\w'.cell? a3=some v3/\w'.cell? a4=some v4:=⟨aD a h.1,Eo a h.2⟩
theorem Ep(a:Below w.heap.size w w')(h:w.cell? a1=some v1/\w.cell? a2=some v2/\w.cell? a3=some v3/\w.cell? a4=some v4/\w.cell? a5=some v5):w'.cell? a1=some v1/\w'.cell? a2=some v2/\w'.cell? a3=some v3/\w'.cell? a4=some v4/\w'.cell? a5=some v5:=⟨aD a h.1,FR a h.2⟩
end
structure r8(W0:World)(g:Nat)(wr:World)(vb vc:Value)(lb lc:List bC):Prop where
 box:am wr g 129 #[vb,vc]
 ob:aK aJ W0.heap.size wr vb lb
 oc:aK aJ W0.heap.size wr vc lc
 ne:∀k,vb.ownBlock=some k->vc.ownBlock≠some k
 only:aW g W0 wr
 cs0:∃cs,am W0 g 129 cs
theorem r8.below(h:r8 W0 g wr vb vc lb lc)(a:Below wr.heap.size wr w'):r8 W0 g w' vb vc lb lc:=
 ⟨h.box.below a,aI h.ob a,aI h.oc a,h.ne,aA h.only (aG a),h.cs0⟩
def BL(a b:List bC)(n:Int):Nat:=if(a.any fun t=>t.nd==n)||(b.any fun t=>t.nd==n)then 1 else 0
theorem k5{b}{n:Int}(h:fe b n≠0):∃t∈b,t.nd=n/\t.n=fe b n:=by
 unfold fe at h ⊢;cases ht:b[Dd b ⟨n,0⟩]? with
 |none=>rw[ht]at h;simp at h
 |some t=>
  rw[ht]at h;simp only at h ⊢;by_cases he:(t.nd==n)=true
  ·rw[if_pos he];exact⟨t,qC ht,by simpa using he,rfl⟩
  ·rw[if_neg he]at h;simp at h
theorem ev(d:bC):aO d=true↔1<=d.nd/\d.nd<=1099511627776/\1<=d.n/\d.n<=1099511627776:=by
 unfold aO p3;simp;constructor<;>intro h<;>omega
theorem eP(E:El α){a:Act}(g:o.guard=none)(f x:Operand)
  (m:o.op=.call {callee:=.builtin .append,args:=#[f,x],argTypes:=#[E.sl,E.sl]})
    {b:List α}  (h:aK E base w v l) (n:base<=w.heap.size) (p:a.eval f=v) (q:a.eval x=v2) (s:Rw E w v2 b)
  (t:(l.length+b.length)*E.bytes<=140737488355328) (D:l.length+b.length < 1000000000000000000)
  (K:∀v' w',aK E base w' v' (l++b)->w.grownBy w' v.ownBlock->(v'.ownBlock=v.ownBlock\/v'.ownBlock=some w.heap.size)->wpList prog ops Q rest (a.put o.dst v') w'):wpList prog ops Q (o::rest) a w:=by
 obtain⟨u,hi,i,j,k⟩:=info_parts E.info;obtain⟨A,c,rfl,F,y⟩:=s;refine bA (P:=prog) w g f x E.sl m base E.ty u E.z E.s E.bytes E.und hi i j k E.zs E.pos v l.length (E.cells l) p h A b.length c (E.cells b) q y.sl (E.cells_one b) (by unfold maxLen;omega) t n ?_;intro v' w' z B C;refine K v' w' ?_ B C;unfold aK;rw[E.al,zC];exact z
theorem dL(E:El α)(w:World)(t:α):Rw E (w.alloc (.cells (E.f t).toArray E.ty)) (.slice (some ⟨w.heap.size,0,none⟩) 1 1) [t]:=
 ⟨_,1,rfl,nR,by rw[E.aw,E.len];simp,fun _=>⟨w.heap.size,0,_,rfl,am.new w _ _,fun j u hu=>by rw[E.aw]at hu;simpa using hu⟩⟩
theorem r8.dp(h:r8 W0 g wr vb vc lb lc)(a:wr.grownBy w' vb.ownBlock):am w' g 129 #[vb,vc]:=h.box.grown a (h.ob.ne h.box (by decide))
theorem r8.ar(h:r8 W0 g wr vb vc lb lc)(a:wr.grownBy w' vc.ownBlock):am w' g 129 #[vb,vc]:=h.box.grown a (h.oc.ne h.box (by decide))
theorem r8.push0(h:r8 W0 g wr vb vc lb lc)(i:aK aJ W0.heap.size w' v' m)(c:wr.grownBy w' vb.ownBlock)(a:v'.ownBlock=vb.ownBlock\/∃n,wr.heap.size<=n/\v'.ownBlock=some n):r8 W0 g (w'.setCell ⟨g,0,none⟩ v') v' vc m lc:=by
 have b:=h.dp c;have f:=h.oc.other c (fun k hk=>by intro e;exact h.ne k hk e);refine⟨b.I 0 v',bK i (aB _ _ _ _) b (by decide),bK f (aB _ _ _ _) b (by decide),fun k hk=>?_,aA (dx h.only c (fun k hk=>(h.ob.lt k hk).1)) (aB _ _ _ _),h.cs0⟩;rcases a with a|⟨n,hn,a⟩
 ·exact h.ne k (a▸hk)
 ·intro e;have:=(h.oc.lt k e).2;rw[a]at hk;injection hk with hk;omega
theorem r8.cj(h:r8 W0 g wr vb vc lb lc)(i:aK aJ W0.heap.size w' v' m)(c:wr.grownBy w' vc.ownBlock)(a:v'.ownBlock=vc.ownBlock\/∃n,wr.heap.size<=n/\v'.ownBlock=some n):r8 W0 g (w'.setCell ⟨g,1,none⟩ v') vb v' lb m:=by
 have b:=h.ar c;have f:=h.ob.other c (fun k hk e=>h.ne k e hk);refine⟨b.I 1 v',bK f (aB _ _ _ _) b (by decide),bK i (aB _ _ _ _) b (by decide),fun k hk=>?_,aA (dx h.only c (fun k hk=>(h.oc.lt k hk).1)) (aB _ _ _ _),h.cs0⟩;rcases a with a|⟨n,hn,a⟩
 ·rw[a];exact h.ne k hk
 ·rw[a];intro e;injection e with e;have:=(h.ob.lt k hk).2;omega
theorem Rw.grown{v}{row}(h:Rw E w v l)(k:w.grownBy w' row)(i:∀a m c,v=.slice (some a) m c->0 < l.length->row≠some a.block):Rw E w' v l:=by
 obtain⟨A,c,rfl,n,p,q⟩:=h;refine⟨A,c,rfl,n,p,fun hn=>?_⟩;obtain⟨g,o,j,rfl,f,b⟩:=q hn;exact⟨g,o,j,rfl,(k.block g (ap f) (fun e=>i _ _ _ rfl hn e.symm)).trans f,b⟩
theorem qp{l}{n:Int}{d:bC}(h:d∈iN l n):d∈l/\d.nd=n:=by
 unfold iN at h;have:=qV.1 h;exact⟨this.1,by simpa using this.2⟩
theorem Dx{a b}{n:Int}(h:0 < max (fe a n) (fe b n)):BL a b n=1/\max (fe a n) (fe b n)<=1099511627776\/¬((∀d∈a,aO d=true)/\(∀d∈b,aO d=true)):=by
 by_cases hok:(∀d∈a,aO d=true)/\(∀d∈b,aO d=true)
 ·left;have g:∀c:List bC,(∀d∈c,aO d=true)->fe c n<=1099511627776:=fun c hc=>by
   by_cases h0:fe c n=0
   ·omega
   ·obtain⟨t,f,_,j⟩:=k5 h0;have:=(ev t).1 (hc t f);omega
  refine⟨?_,by have:=g a hok.1;have:=g b hok.2;omega⟩;unfold BL;by_cases h0:fe a n=0
  ·obtain⟨t,f,i,_⟩:=k5 (b:=b) (n:=n) (by omega);rw[if_pos];simp;right;exact⟨t,f,i⟩
  ·obtain⟨t,f,i,_⟩:=k5 h0;rw[if_pos];simp;left;exact⟨t,f,i⟩
 ·exact .inr hok
def FT(W0:World)(g:Nat)(wr:World)(a:Nat)(lb lc:List bC)(e:Ending)(w':World):Prop:=
 ∃vb' vc' lb' lc',Rt e (.tuple #[])/\r8 W0 g w' vb' vc' lb' lc'/\lb'.length+lc'.length<=a/\((∀d∈lb,aO d=true)/\(∀d∈lc,aO d=true)->(∀d∈lb',aO d=true)/\(∀d∈lc',aO d=true))
theorem y3 W0(g ga gb gc:Nat)(n:Int) wr{vb vc va va2 vd vd2 vcl}{cl:List bC}(hJ:r8 W0 g wr vb vc lb lc)
  (ha:am W0 ga 129 #[va,va2]) (hd:am W0 gb 129 #[vd,vd2]) (hc:am W0 gc 36 #[vcl]) (na:ga≠g) (nb:gb≠g) (nc:gc≠g)
  (ra:Rw aJ W0 va la) (rd:Rw aJ W0 vd ld) (rc:Rw aJ W0 vcl cl) (ka:la.length<=1000000000) (kd:ld.length<=1000000000) (kc:cl.length<=1000000000) (kl:lb.length+lc.length<=1000000000)
  (oa:∀d∈la,aO d=true) (od:∀d∈ld,aO d=true) (oc:∀d∈cl,aO d=true) (hn:1<=n/\n<=1099511627776):
  Cs 378 #[I6 n,Pt ga,Pt gb,Pt gc,Pt g] wr
   (FT W0 g wr (lb.length+lc.length+BL la ld n+(iN cl n).length) lb lc):=by
 have C:∀{v:Value} {l:List bC},Rw aJ W0 v l->Rw aJ wr v l:=fun h=>h.only hJ.only (cs:=hJ.cs0.choose) (t:=129) hJ.cs0.choose_spec (by decide);have a0:=am.cell (ha.only hJ.only na) 0;have a1:=am.cell (ha.only hJ.only na) 1;have b0:=am.cell (hd.only hJ.only nb) 0;have b1:=am.cell (hd.only hJ.only nb) 1;have c0:=am.cell (hc.only hJ.only nc) 0;simp only[zL,zM,zP]at a0 a1 b0 b1 c0;obtain⟨RA,RD,RC,HJ,OA,OD,Z⟩:=gG (C ra) (C rd) (C rc) hJ oa od oc;have hg:Rw aJ wr.drew va la:=RA;have hh:Rw aJ wr.drew vd ld:=RD;have hj:Rw aJ wr.drew vcl cl:=RC;have kf:(iN cl n).length<=1000000000:=zD (qO _ _) kc;have hl:la.length<=100000000000000:=by omega
 have hm:ld.length<=100000000000000:=by omega
 apply cI;go_in;go_wp2_with fail;go_region_held3 (fun w'=>w'.cell? ⟨ga,0,none⟩=some va/\w'.cell? ⟨ga,1,none⟩=some va2/\w'.cell? ⟨gb,0,none⟩=some vd/\w'.cell? ⟨gb,1,none⟩=some vd2/\w'.cell? ⟨gc,0,none⟩=some vcl)
  (first|go_keep|refine Ep (by assumption) (by assumption))
  (first
   |(go_at_call 254;(with_reducible refine(km _ va va2 la n hg hl).mono ?_);rintro _e w1 ⟨rfl,k⟩)
   |(go_at_call 254;(with_reducible refine(km _ vd vd2 ld n (hh.below k) hm).mono ?_);rintro _e w2 ⟨rfl,x⟩)
   |(go_at_call 380;(with_reducible refine(EW n _ ((hj.below k).below x) kc).mono ?_);rintro _e w3 ⟨v3,rfl,R,S⟩)
   |(go_at_call 379;(with_reducible refine(y2 _ _ R.rw kf).mono ?_);rintro _e w4 ⟨u4,v4,p,rfl,hy,T,ho,hb,hq⟩))
 all_goals
  have hB:Bw wr w4:=((((bP wr)).trans k).trans (x.mono k.size)).trans ((S.mono (zD k.size x.size)).trans (hq.mono (zD k.size (zD x.size S.size))));have y:=HJ.below hB;have hr:∀a m c,v4=.slice (some a) m c->0 < (List.drop p (iN cl n)).length->vb.ownBlock≠some a.block:=fun a m c he hp hk=>by
   obtain⟨a',m',c',h1,h2⟩:=hb a m c he;subst h1;have N:=(R.lt a'.block (by simp[Value.ownBlock])).1;have h4:=(HJ.ob.lt _ hk).2;have h5:=k.size;have h6:=x.size;have h7:wr.drew.heap.size=wr.heap.size:=rfl;omega
  have hs:=aH hr;have hx:g < w4.heap.size:=y.box.lt;obtain⟨Ab,cb,rfl,_⟩:=y.ob.rw.slice;obtain⟨Ac,cc,rfl,_⟩:=y.oc.rw.slice;obtain⟨A4,c4,U,_⟩:=T.slice;rw[qB]at U;subst U;obtain⟨HB,i,V,HU⟩:=gD hB y T ho;have ht:=y.only.size;have hz:(List.drop p (iN cl n)).length<=1000000000:=by rw[qB];omega
  have hA:Hid ((List.drop p (iN cl n)).length=(iN cl n).length - p):=aH qB;by_cases h0:0 < u4
  ·have d0:decide (0 < u4)=true:=by simpa using h0
   have hu:(u4<=1099511627776/\(BL la ld n=1\/1<=p)):=by
    rcases HU.out with h|⟨h1,d,hd,h2⟩
    ·rcases Dx (a:=la) (b:=ld) (n:=n) (by rw[<-h];exact h0)with⟨N,h4⟩|N
     ·exact⟨by rw[h];exact h4,.inl N⟩
     ·exact absurd ⟨OA,OD⟩ N
    ·have:=(ev d).1 (Z d (qp hd).1);exact⟨by omega,.inr h1⟩
   have D:Hid ((lb++[(⟨n,u4⟩:bC)]).length+(lc++List.drop p (iN cl n)).length<=lb.length+lc.length+BL la ld n+(iN cl n).length):=aH (by
    rw[zC,zC,qB];simp;omega)
   have F:Hid ((∀d∈lb,aO d=true)/\(∀d∈lc,aO d=true)->(∀d∈lb++[(⟨n,u4⟩:bC)],aO d=true)/\(∀d∈lc++List.drop p (iN cl n),aO d=true)):=aH fun hok=>
    ⟨fun d hd=>(zK.1 hd).elim (hok.1 d) fun hd=>by simp at hd;subst hd;exact(ev _).2 ⟨hn.1,hn.2,(show(1:Int)<=u4 by omega),hu.1⟩,fun d hd=>(zK.1 hd).elim (hok.2 d) fun hd=>Z d (qp (jK hd)).1⟩
   have e0:=am.cell i.box 0;have e1:=am.cell i.box 1;have ef:=fun j=>am.frozen i.box j;simp only[zL,zM,zP]at e0 e1;have G:=ba w4 (.cells #[I6 n,I6 u4] 42);have H:=aH (i.below G);go_wp2_with (at_builtin;refine eP aJ rfl (.tmp 25) (.tmp 29) rfl H.ob (zD ht G.size) rfl rfl (dL aJ w4 ⟨n,u4⟩) (by show(lb.length+1)*16<=_;omega) (by show lb.length+1 < _;omega) ?_);intro v5 w5 X I hf;obtain⟨A5,c5,Y,_⟩:=X.rw.slice;simp only[zC,zQ,qI,zR]at Y;subst Y;have O:=aH (H.push0 X I (hf.imp id fun h=>⟨_,by simp,h⟩));have f:=H.dp I;have q:=am.cell f 0;have s:=am.cell f 1;have J:=fun j=>am.frozen f j;simp only[zL,zM,zP]at q s;have u:g < w5.heap.size:=f.lt;have hw:Hid (Rw aJ (w5.setCell ⟨g,0,none⟩ (.slice A5 (lb.length+1) c5)) (.slice A4 ((iN cl n).length - p) c4) (List.drop p (iN cl n))):=aH (((V.below G).grown I hs).only (aB _ g 0 _) f (by decide));have L:=O.only.size;go_wp2_with (at_builtin;refine eP aJ rfl (.tmp 33) (.tmp 34) rfl O.oc L rfl rfl hw (by show(lc.length+_)*16<=_;omega) (by omega) ?_);intro v6 w6 z u B;obtain⟨A6,c6,A,_⟩:=z.rw.slice;simp only[zC,qB]at A;subst A;have M:=aH (O.cj z u (B.imp id fun h=>⟨_,by simp,h⟩));have f:=O.ar u;have q:=am.cell f 0;have s:=am.cell f 1;have J:=fun j=>am.frozen f j;simp only[zL,zM,zP]at q s;have q:=am.cell f 0;have s:=am.cell f 1;have J:=fun j=>am.frozen f j
   simp only[zL,zM,zP]at q s;go_wp2_with fail;go_end0;exact⟨_,_,_,_,rfl,M,D,F⟩
  ·have d0:decide (0 < u4)=false:=by simpa using h0
   have D:Hid (lb.length+(lc++List.drop p (iN cl n)).length<=lb.length+lc.length+BL la ld n+(iN cl n).length):=aH (by
    rw[zC,qB];omega)
   have F:Hid ((∀d∈lb,aO d=true)/\(∀d∈lc,aO d=true)->(∀d∈lb,aO d=true)/\(∀d∈lc++List.drop p (iN cl n),aO d=true)):=aH fun hok=>
    ⟨hok.1,fun d hd=>(zK.1 hd).elim (hok.2 d) fun hd=>Z d (qp (jK hd)).1⟩
   have L:=i.only.size;have e0:=am.cell i.box 0;have e1:=am.cell i.box 1;have ef:=fun j=>am.frozen i.box j;simp only[zL,zM,zP]at e0 e1;go_wp2_with (at_builtin;refine eP aJ rfl (.tmp 33) (.tmp 34) rfl i.oc L rfl rfl V (by show(lc.length+_)*16<=_;omega) (by omega) ?_);intro v6 w6 z u B;obtain⟨A6,c6,A,_⟩:=z.rw.slice;simp only[zC,qB]at A;subst A;have M:=aH (i.cj z u (B.imp id fun h=>⟨_,by simp,h⟩));have f:=i.ar u;have q:=am.cell f 0;have s:=am.cell f 1;have J:=fun j=>am.frozen f j;simp only[zL,zM,zP]at q s;go_wp2_with fail;go_end0;exact⟨_,_,_,_,rfl,M,D,F⟩
theorem Rw.ck{w w'}{v}{m}(h:Rw E w v l)(a:aW b w w')(f:b4 w b m):Rw E w' v l:=by
 obtain⟨A,c,rfl,g,i⟩:=h;refine⟨A,c,rfl,g,i.keep fun k hk ⟨cur,hcur⟩=>a.block k hk fun e=>?_⟩;injection e with e;subst e;exact f.cr hcur
theorem aW.ct(h:aW b w w')(c:w0.heap.size<=b)(a:Below w0.heap.size w0 w):Below w0.heap.size w0 w':=a.grown h a.size (fun k hk=>by injection hk with hk;omega)
theorem cC(t:TypeId)(W:World):(Instr.makeMap t none).run prog W=.ok (.map (some W.heap.size)) (W.alloc (.map #[] 0)):=by simp[Instr.makeMap,Result.andThen]
def EY(w:World)(L:List bC)(e:Ending)(w':World):Prop:=∃l,l.Nodup/\(∀n,n∈l->∃d∈L,d.nd=n)/\fk aC w l e w'
theorem y4{vb vc}{b:List bC} w(h1:Rw aJ w vb b)(h2:Rw aJ w vc c)(hl:b.length+c.length<=100000000)(ok1:∀d∈b,aO d=true)(ok2:∀d∈c,aO d=true):
  Cs 381 #[.agg #[vb,vc]] w (EY w (b++c)):=by
 obtain⟨Ab,f,rfl,_⟩:=h1.slice;obtain⟨Ac,h,rfl,_⟩:=h2.slice;obtain⟨H1,H2⟩:=gB h1 h2;have z:Hid (∀d∈b++c,aO d=true):=aH fun d hd=>(zK.1 hd).elim (ok1 d) (ok2 d);have ht:=fun W=>cC 198 W;obtain⟨W0,j⟩:=nM (((w.alloc (.cells #[.slice Ab b.length f,.slice Ac c.length h] 129)).alloc (.map #[] 0)).alloc (.cells #[.slice Ab b.length f,.slice Ac c.length h] 36));have M:Bw w W0:=j▸((ba _ _).alloc (by simp) _).alloc (by simp;omega) _;have N:b4 W0 (w.heap.size+1) []:=by
  have:=(b4.new (w.alloc (.cells #[.slice Ab b.length f,.slice Ac c.length h] 129))).below (ba _ (.cells #[.slice Ab b.length f,.slice Ac c.length h] 36));rw[qA]at this;rw[j]at this;exact this
 have O:am W0 (w.heap.size+1+1) 36 #[.slice Ab b.length f,.slice Ac c.length h]:=by
  have:=am.new ((w.alloc (.cells #[.slice Ab b.length f,.slice Ac c.length h] 129)).alloc (.map #[] 0)) 36 #[.slice Ab b.length f,.slice Ac c.length h];rw[qA,qA]at this;rw[<-j];exact this
 obtain⟨q,R,S⟩:=gC M N O;apply cI;go_in;go_wp2_with fail;simp only[j.out];refine(mM (w.heap.size+1+1) _ S (H1.below q) (H2.below q) (by omega)).mono ?_;rintro T w1 ⟨v1,rfl,U,A⟩;have u:=U.rw;obtain⟨A1,c1,B,_⟩:=u.slice;obtain⟨L,F⟩:=nx (b++c);have hu:L.length<=100000000:=by rw[<-F,zC];exact hl
 have HL:=aH F;rw[F]at u B z;subst B;obtain⟨V,X,Y⟩:=gC u (q.trans (A.mono q.size)) (R.below A);go_wp2_with fail;go_loopw[14] (fun vi wr=>∃(k:Nat) (m:IM),k<=L.length/\vi=I6 k/\b4 wr (w.heap.size+1) m/\(∀p∈m,∃d∈L,d.nd=p.1)/\m.length<=k/\Rw aJ wr (.slice A1 L.length c1) L/\Bw w wr) (fun vi _=>L.length - (intOf vi).toNat)
 case atStart=>exact⟨0,[],zS _,rfl,Y,by simp,by simp,V,X⟩
 case round=>
  obtain⟨k,m,hk,rfl,hm,G,hw,hr,hb⟩:=hrel;obtain⟨s,x,C,y⟩:=gD hm G hr hb;by_cases hlt:k < L.length
  ·obtain⟨g,o,rfl,bI⟩:=C.at_ (zA hlt);have Z:=aH (zY hlt);generalize L[k]=t at bI Z;have c0:Ce wr g (o+k*2) (I6 t.nd):=bI 0 _ rfl;have hx:Ce wr g (o+k*2+1) (I6 t.n):=bI 1 _ rfl;have a:=ba wr (.cells #[I6 t.nd,I6 t.n] 42);obtain⟨w5,hs,ha,D⟩:=(s.below a).update (P:=prog) (t:=198) (kt:=3) (et:=4) (by kernel_rfl) (by kernel_rfl) t.nd (.bool true);obtain⟨hc,hf,hg⟩:=gC ha ((C.below a).ck D (s.below a)) (D.ct (w0:=w) (by omega) (y.trans (a.mono y.size)));have H:Hid (∀p∈dI m t.nd (.bool true),∃d∈L,d.nd=p.1):=aH fun p i=>by
    rcases c7 i with rfl|⟨h1,_⟩
    ·exact⟨t,Z,rfl⟩
    ·exact x p h1
   have hy:=kX m t.nd (.bool true);go_wp2_with fail;go_roundw
   case rel=>exact⟨k+1,_,by omega,by go_num,hc,H,by omega,hf,hg⟩
   case measure=>simp[intOf];omega
  ·have hh:∀p∈m,bN p.1:=fun p i=>by
    obtain⟨d,hd,he⟩:=x p i;have:=(ev d).1 (z d hd);unfold bN;omega
   have hj:=aH hh;have I:m.length<=100000000:=by omega
   go_wp2_with fail;refine(pi (w.heap.size+1) _).mono ?_;rintro T w7 ⟨rfl,rfl⟩;have J:=am.new wr 198 #[.map (some (w.heap.size+1))];have a:=ba wr (.cells #[.map (some (w.heap.size+1))] 198);go_wp2_with fail;refine(ku wr.heap.size (w.heap.size+1) m _ J (s.below a) hj I).mono ?_;rintro T w8 ⟨l,i,v,rfl,ho,hq⟩;have HP:=aH i;go_wp2_with fail;go_ret;refine⟨l,(HP.nodup_iff).2 s.nodup,fun n hn=>?_,fk.below (w:=wr) ?_ y⟩
   ·obtain⟨p,i,rfl⟩:=zV.1 ((HP.mem_iff).1 hn);rw[HL];exact x p i
   ·exact fk.below (w:=wr.alloc (.cells #[.map (some (w.heap.size+1))] 198)) ⟨v,rfl,ho,hq⟩ a
theorem r0(l:List α):(l.map fun _=>0).sum=0:=by induction l with
 |nil=>rfl
 |cons a l ih=>simp only[jF,List.sum_cons,ih]
theorem Dy(l:List α)(f g:α->Nat):(l.map fun n=>f n+g n).sum=(l.map f).sum+(l.map g).sum:=by induction l with
 |nil=>rfl
 |cons a l ih=>simp only[jF,List.sum_cons,ih];omega
theorem l3(cl:List bC):∀(l:List Int),l.Nodup->(l.map fun n=>(iN cl n).length).sum<=cl.length:=by
 induction cl with
 |nil=>intro l _;simp only[iN,List.filter_nil,qI,r0];omega
 |cons t cl ih=>
  intro l b;have g:∀n,(iN (t::cl) n).length=(if t.nd=n then 1 else 0)+(iN cl n).length:=fun n=>by
   unfold iN;by_cases h:t.nd=n
   ·simp[h];omega
   ·simp[h]
  have c:(l.map fun n=>(iN (t::cl) n).length).sum=(l.map fun n=>if t.nd=n then 1 else 0).sum+(l.map fun n=>(iN cl n).length).sum:=by
   rw[<-Dy];exact congrArg List.sum (List.map_congr_left fun n _=>g n)
  have j:(l.map fun n=>if t.nd=n then 1 else 0).sum<=1:=by
   clear c;induction l with
   |nil=>simp
   |cons a l ih2=>
    have f:=List.nodup_cons.1 b;simp only[jF,List.sum_cons];by_cases h:t.nd=a
    ·have:(l.map fun n=>if t.nd=n then 1 else 0).sum=0:=by
      have i:l.map (fun n=>if t.nd=n then 1 else 0)=l.map fun _=>0:=List.map_congr_left fun n hn'=>if_neg fun e=>f.1 (by rw[<-h,e];exact hn');rw[i];exact r0 l
     rw[if_pos h,this];omega
    ·rw[if_neg h];have:=ih2 f.2;omega
  rw[c];have:=ih l b;simp;omega
theorem EZ a b(n:Int):BL a b n<=(iN a n).length+(iN b n).length:=by
 unfold BL;split
 ·rename_i h;rw[Bool.or_eq_true]at h;have f:∀c:List bC,(c.any fun t=>t.nd==n)=true->1<=(iN c n).length:=fun c hc=>by
   obtain⟨t,g,i⟩:=yM.1 hc;exact List.length_pos_of_mem (a:=t) (qV.2 ⟨g,by simpa using i⟩)
  rcases h with h|h
  ·have:=f a h;omega
  ·have:=f b h;omega
 ·omega
theorem r9(b ld cl:List bC)(l:List Int)(c:l.Nodup):(l.map fun n=>BL b ld n+(iN cl n).length).sum<=b.length+ld.length+cl.length:=by
 have f:=l3 b l c;have g:=l3 ld l c;have h:=l3 cl l c;have i:(l.map fun n=>BL b ld n+(iN cl n).length).sum<=(l.map fun n=>(iN b n).length).sum+(l.map fun n=>(iN ld n).length).sum+(l.map fun n=>(iN cl n).length).sum:=by
  clear f g h c;induction l with
  |nil=>simp
  |cons a l ih=>have:=EZ b ld a;simp only[jF,List.sum_cons];omega
 omega
theorem BM(cl:List bC)(l:List Int)(b:l.Nodup)(c:∀n,n∈l->∃d∈cl,d.nd=n):l.length<=cl.length:=by
 have f:=l3 cl l b;have h:l.length<=(l.map fun n=>(iN cl n).length).sum:=by
  clear f b;induction l with
  |nil=>simp
  |cons a l ih=>
   obtain⟨d,hd,g⟩:=c a (by simp);have:=List.length_pos_of_mem (a:=d) (l:=iN cl a) (qV.2 ⟨hd,by simpa using g⟩);have:=ih fun n hn=>c n (by simp[hn]);simp only[jF,List.sum_cons,zQ];omega
 omega
def E2(w:World)(n:Nat)(e:Ending)(w':World):Prop:=∃vb vc lb lc,Rt e (.agg #[vb,vc])/\aK aJ w.heap.size w' vb lb/\aK aJ w.heap.size w' vc lc/\(∀k,vb.ownBlock=some k->vc.ownBlock≠some k)/\lb.length+lc.length<=n/\(∀d∈lb,aO d=true)/\(∀d∈lc,aO d=true)/\Below w.heap.size w w'
theorem pj{va va2 vd vd2}{b:List bC} w(q:Rw aJ w va la)(x:Rw aJ w va2 b)(h3:Rw aJ w vd ld)(h4:Rw aJ w vd2 c)(hl:la.length+b.length+(ld.length+c.length)<=100000000)
  (o1:∀d∈la,aO d=true) (o2:∀d∈b,aO d=true) (o3:∀d∈ld,aO d=true) (o4:∀d∈c,aO d=true):
  Cs 336 #[.agg #[va,va2],.agg #[vd,vd2]] w (E2 w (la.length+b.length+(ld.length+c.length))):=by
 obtain⟨h,c1,rfl,_⟩:=q.slice;obtain⟨A2,c2,rfl,_⟩:=x.slice;obtain⟨i,c3,rfl,_⟩:=h3.slice;obtain⟨A4,c4,rfl,_⟩:=h4.slice;obtain⟨W0,HW,G,x1,x2,x3,x4⟩:=GT w #[.slice h la.length c1,.slice A2 b.length c2] #[.slice i ld.length c3,.slice A4 c.length c4] #[aS,aS] #[aS,aS] 129 129 129 129;have R1:=q.below G;have R2:=x.below G;have R3:=h3.below G;have R4:=h4.below G;have a0:=am.cell x1 0;have a1:=am.cell x1 1;have b0:=am.cell x2 0;have b1:=am.cell x2 1;simp only[zL,zM,zP]at a0 a1 b0 b1;obtain⟨OL,hj,OD,hm,X1,X2,X3,X4⟩:=gH o1 o2 o3 o4 x1 x2 x3 x4;obtain⟨M,ho,N,hp,y⟩:=gE R1 R2 R3 R4 G;apply cI;go_in;go_wp2_with fail;simp only[HW.out];go_wp2_with fail;have hq:W0.heap.size=w.heap.size+1+1+1+1:=by rw[<-HW];simp
 have hs:=am.new W0 36 #[.slice A2 b.length c2,.slice A4 c.length c4];rw[hq]at hs;have a:=ba W0 (.cells #[.slice A2 b.length c2,.slice A4 c.length c4] 36);refine(mM (w.heap.size+1+1+1+1) _ hs (ho.below a) (hp.below a) (by omega)).mono ?_;rintro J w1 ⟨v1,rfl,H,hr⟩;have B1:=aH (a.trans (hr.mono a.size));go_wp2_with fail;refine(rZ _ H.rw (by rw[zC];omega)).mono ?_;rintro J w2 ⟨kc,ht,hu,v2,rfl,z,hw⟩;rw[zC]at hu;obtain⟨A5,c5,rfl,_⟩:=z.rw.slice;obtain⟨B2,hx,OK⟩:=gC (B1.trans (hw.mono B1.size)) z.rw (fun d hd=>(zK.1 (ht d hd)).elim (hj d) (hm d));go_wp2_with fail;obtain⟨W3,A⟩:=nM (w2.alloc (.cells #[.slice A5 kc.length c5] 36));simp only[A.out];have O:Bw w2 W3:=A▸ba _ _;have R:am W3 w2.heap.size 36 #[.slice A5 kc.length c5]:=A▸am.new _ _ _;obtain⟨hZ,s,R5⟩:=gC (show W3.heap.size=w2.heap.size+1 by rw[<-A];simp) (B2.trans (O.mono B2.size)) (hx.below O);have hy:w.heap.size+1+1+1≠w2.heap.size:=by have:=B2.size;omega
 have f0:=aD s a0;have f1:=aD s b0;have f2:=am.cell R 0;simp only[zL,zM,zP]at f2;have h5:=X4.lt;have h6:=s.size;have hz:=aH R;have a:=(ba W3 (.cells #[.slice h la.length c1,.slice i ld.length c3] 36)).drew;have hA:am ((W3.alloc (.cells #[.slice h la.length c1,.slice i ld.length c3] 36)).drew) W3.heap.size 36 #[.slice h la.length c1,.slice i ld.length c3]:=(am.new W3 36 #[.slice h la.length c1,.slice i ld.length c3]).below (bD _);have hB:Rw aJ ((W3.alloc (.cells #[.slice h la.length c1,.slice i ld.length c3] 36)).drew) _ la:=(M.below s).below a;have hC:Rw aJ ((W3.alloc (.cells #[.slice h la.length c1,.slice i ld.length c3] 36)).drew) _ ld:=(N.below s).below a;have h7:la.length+ld.length<=100000000:=by omega
 have hD:(la++ld).length+kc.length<=100000000:=by rw[zC];omega
 have hE:(la.length+ld.length)*16<=140737488355328:=by omega
 have hF:(la++ld).length+kc.length<=100000000:=hD;have hG:Rw aJ ((W3.alloc (.cells #[.slice h la.length c1,.slice i ld.length c3] 36)).drew) _ kc:=R5.below a;have hf:∀d∈la++ld,aO d=true:=fun d hd=>(zK.1 hd).elim (OL d) (OD d);have I:=aH hf;go_region_held3 (fun w'=>w'.cell? ⟨w.heap.size,0,none⟩=some (.slice h la.length c1)/\w'.cell? ⟨w.heap.size+1,0,none⟩=some (.slice i ld.length c3)/\w'.cell? ⟨w2.heap.size,0,none⟩=some (.slice A5 kc.length c5))
  (first|go_keep|refine Eo (by assumption) (by assumption))
  (first
   |(go_at_call 377;(with_reducible refine(mM _ _ hA hB hC hE).mono ?_);rintro J w5 ⟨v5,rfl,S,p⟩;obtain⟨A7,c7,T,_⟩:=S.rw.slice;rw[zC]at T;subst T)
   |(go_at_call 381;(with_reducible refine(y4 _ S.rw (hG.below p) hF I.out OK.out).mono ?_);rintro J w6 ⟨l6,U,C,v6,rfl,V,X⟩;obtain⟨A8,c8,rfl,_⟩:=V.rw.slice))
 have h8:l6.length<=1000000000:=by
  have:=BM _ l6 U C;rw[zC,zC]at this;omega
 have m:=aH (s.trans ((a.trans (p.mono a.size)).trans (X.mono (zD a.size p.size)) |>.mono s.size));have Y:Bw W3 w6:=(a.trans (p.mono a.size)).trans (X.mono (zD a.size p.size));obtain⟨Y1,Y2,Y4,Y5,Q1,Q3,Q5,Q6⟩:=gH (X1.below m) (X2.below m) (X4.below m) (hz.below Y) (M.below m) (N.below m) (R5.below Y) V.rw;have HN:=aH U;have HM:Hid (∀n,n∈l6->1<=n/\n<=1099511627776):=aH fun n hn=>by
  obtain⟨d,hd,rfl⟩:=C n hn;have:=(ev d).1 ((zK.1 hd).elim (I d) (OK d));omega
 have hH:Hid (r8 w6 (w.heap.size+1+1+1) w6 (aS) (aS) [] []):=aH ⟨Y4,aK.nil _ _,aK.nil _ _,by simp[Value.ownBlock],aG (bR _),⟨_,Y4⟩⟩;have Z:Hid (la.length+ld.length+kc.length<=la.length+b.length+(ld.length+c.length)):=aH (by omega);go_wp2_with fail;go_loopw[9,28] (fun v9 vi wr=>∃(k:Nat) (vb vc:Value) (lb lc:List bC),k<=l6.length/\vi=I6 k/\r8 w6 (w.heap.size+1+1+1) wr vb vc lb lc/\lb.length+lc.length<=((l6.take k).map fun n=>BL la ld n+(iN kc n).length).sum/\(∀d∈lb,aO d=true)/\(∀d∈lc,aO d=true)) (fun _ vi _=>l6.length - (intOf vi).toNat)
 case atStart=>exact⟨0,_,_,_,_,zS _,rfl,hH,by simp,by simp,by simp⟩
 case round=>
  obtain⟨k,vb,vc,lb,lc,hk,rfl,L,hg,ob,oc⟩:=hrel;obtain⟨u,OB,OC,ha⟩:=gD L ob oc hg;have hQ:Rw aC wr (.slice A8 l6.length c8) l6:=Q6.only L.only (t:=129) Y4 (by decide);by_cases hlt:k < l6.length
  ·obtain⟨g,o,rfl,bI⟩:=hQ.at_ (zA hlt);have HT:=aH (HM _ (zY hlt));have hI:l6.take (k+1)=l6.take k++[l6[k]]:=by rw[qE hlt]
   have hb:=aH hI;generalize l6[k]=t at bI HT hb;have c0:wr.cell? ⟨g,o+k,none⟩=some (I6 t):=by have:=bI 0 _ rfl;simpa[aC]using this
   have hY:k < 1000000000:=by omega
   have hK:lb.length+lc.length<=1000000000:=by
    have q:=r9 la ld kc (l6.take k) (HN.sublist (List.take_sublist _ _));have x:=ha.out;have h3:=Z.out;omega
   go_wp2_with fail;refine(y3 w6 (w.heap.size+1+1+1) w.heap.size (w.heap.size+1) w2.heap.size t wr u Y1 Y2 Y5 (by omega) (by omega) (Ne.symm hy) Q1 Q3 Q5 (by omega) (by omega) (by omega) hK OL OD OK HT).mono ?_;rintro J w8 ⟨hL,hM,hN,hO,rfl,hP,hR,hS⟩;obtain⟨hT,hc,hU⟩:=gC hP (hS ⟨OB,OC⟩) hR;go_wp2_with fail;go_roundw
   case rel=>
    refine⟨k+1,hL,hM,hN,hO,by omega,by go_num,hT,?_,hc.1,hc.2⟩;rw[hb,yC,List.sum_append];have q:=hU.out;have x:=ha.out;simp only[jF,List.map_nil,List.sum_cons,List.sum_nil];omega
   case measure=>simp[intOf];omega
  ·have he:=u.box;have j0:=am.cell he 0;have j1:=am.cell he 1;simp only[zL,zM,zP]at j0 j1;have f:=(X3.below m).only u.only (by omega);have k0:=am.cell f 0;have k1:=am.cell f 1;have kf:=fun j=>am.frozen f j;simp only[zL,zM,zP]at k0 k1;obtain⟨Ab,D,rfl,_⟩:=L.ob.rw.slice;obtain⟨Ac,F,rfl,_⟩:=L.oc.rw.slice;have hh:lb.length+lc.length<=la.length+b.length+(ld.length+c.length):=by
    have q:=r9 la ld kc (l6.take k) (HN.sublist (List.take_sublist _ _));have x:=Z.out;omega
   have HR:Hid (am ((wr.setCell ⟨w.heap.size+1+1,0,none⟩ (.slice Ab lb.length D)).setCell ⟨w.heap.size+1+1,1,none⟩ (.slice Ac lc.length F)) (w.heap.size+1+1) 129 #[.slice Ab lb.length D,.slice Ac lc.length F]):=aH ((f.I 0 _).I 1 _);have hV:Bw w ((wr.setCell ⟨w.heap.size+1+1,0,none⟩ (.slice Ab lb.length D)).setCell ⟨w.heap.size+1+1,1,none⟩ (.slice Ac lc.length F)):=by
    have q:=m.out;have x:=u.only;have h0:=y.size;exact((((y.trans (q.mono h0)).trans ((x.below (B:=w.heap.size) (by omega) (zD h0 q.size))))).setCell (by simp;omega) _).setCell (by simp;omega) _
   obtain⟨hW,H,z⟩:=gC hV (bK (bK (dJ u.ob (zD y.size m.size)) (aB _ _ 0 (.slice Ab lb.length D)) f (by decide)) (aB _ _ 1 (.slice Ac lc.length F)) (f.I 0 _) (by decide)) (bK (bK (dJ u.oc (zD y.size m.size)) (aB _ _ 0 (.slice Ab lb.length D)) f (by decide)) (aB _ _ 1 (.slice Ac lc.length F)) (f.I 0 _) (by decide));have hX:=u.ne;go_wp2_with fail;have r0:=am.cell HR 0;have r1:=am.cell HR 1;simp only[zL,zM,zP]at r0 r1;refine bodyPost_ret (v:=.agg #[.slice Ab lb.length D,.slice Ac lc.length F]) (by simp[results,results336,go_sem,r0,r1]) rfl ?_;exact⟨_,_,lb,lc,rfl,H,z,hX,hh,OB,OC,hW⟩
structure Al where
 at_:Int
 id:Int
def dM:El Al where
 ty:=137
 sl:=134
 s:=2
 bytes:=16
 z:=.agg #[I6 0,I6 0]
 f d:=[I6 d.at_,I6 d.id]
 und:=underlying134
 info:=by kernel_rfl
 zs:=rfl
 pos:=by decide
 len _:=rfl
 one d u hu:=by simp at hu;rcases hu with rfl|rfl<;>rfl
theorem ia(b c f a:Int)(w:World):
  Cs 307 #[.agg #[I6 b,I6 c],.agg #[I6 f,I6 a]] w fun e w'=>Rt e (I6 (ru (cH b f) (cH c a)))/\Below w.heap.size w w':=by
 have g:w.heap.size<=w.heap.size:=nR;apply cI;go_in;go_wp2;refine aN 10 (by kernel_rfl) (by kernel_rfl) ?_;simp only[zF,zN,zG,zO];repeat still_step
 still_call ((fN _ _ _).mono fun _ _ ⟨he,hw⟩=>⟨he,hw.symm⟩);repeat still_step
 still_call ((fN _ _ _).mono fun _ _ ⟨he,hw⟩=>⟨he,hw.symm⟩);repeat still_step
 refine wpStill_nil ?_;obtain⟨W,h⟩:=nx (((w.alloc (.cells #[I6 b,I6 c] 137)).alloc (.cells #[I6 f,I6 a] 137)).drew);have i:Bw w W:=by rw[<-h];exact(((bR _).alloc g _).alloc (by simp) _).drew
 rw[h];have m:=aH (i.alloc i.size (.cells #[I6 (cH b f),I6 (cH c a)] 3));have j:=(am.new W 3 #[I6 (cH b f),I6 (cH c a)]).cell 0;have k:=(am.new W 3 #[I6 (cH b f),I6 (cH c a)]).cell 1;simp only[zL,zM,zP]at j k;obtain⟨n,p⟩:=gB j k;go_wp2_with fail;refine(p5 _ _ _ _ n p).mono ?_;rintro e w' ⟨rfl,rfl⟩;go_wp2;go_ret;exact⟨rfl,m⟩
structure io(w:World)(r g cap b:Nat)(clk:Int)(l:List Al)(q:IM):Prop where
 box:am w r 181 #[.slice (some ⟨g,0,none⟩) l.length cap,.map (some b),I6 clk]
 own:aK dM 0 w (.slice (some ⟨g,0,none⟩) l.length cap) l
 map:b4 w b q
def WS(r g b:Nat)(k:Nat):Prop:=k=r\/k=g\/k=b
section
variable{l:List Al}{q:IM}
theorem io.row(h:io w r g cap b clk l q)(a:0 < l.length):∃cs,am w g dM.ty cs:=by
 obtain⟨sp,c,_⟩:=h.own.ar a rfl;exact⟨_,c⟩
theorem io.rg(h:io w r g cap b clk l q)(a:0 < l.length):r≠g:=by obtain⟨cs,c⟩:=h.row a;exact aT h.box c (by decide)
theorem io.rb(h:io w r g cap b clk l q):b≠r:=h.map.ne h.box
theorem io.gb(h:io w r g cap b clk l q)(a:0 < l.length):b≠g:=by obtain⟨cs,c⟩:=h.row a;exact h.map.ne c
theorem io.below(h:io w r g cap b clk l q)(a:Below w.heap.size w w'):io w' r g cap b clk l q:=⟨h.box.below a,aI h.own a,h.map.below a⟩
theorem io.at_(h:io w r g cap b clk l q){a:Al}(j:l[i]?=some a):Ce w g (i*2) (I6 a.at_)/\Ce w g (i*2+1) (I6 a.id):=by
 obtain⟨g',o,c,f⟩:=(h.own.rw).at_ j;injection c with c;injection c with h1 h2;subst h1;subst h2;exact⟨by have:=f 0 _ rfl;simpa[dM]using this,by have:=f 1 _ rfl;simpa[dM]using this⟩
theorem io.frozen(h:io w r g cap b clk l q)(a:0 < l.length)(j:Nat):w.frozen? ⟨g,j,none⟩=false:=h.own.cc a rfl j
end
theorem DA{W2:World}{l:List Al}{q}(a:Al)(h:io W0 r g cap b clk l q)(hi:i < l.length)
  (j:b4 W2 b (dI q a.id (I6 (i:Int)))) (c:aW b ((W0.setCell ⟨g,i*2,none⟩ (I6 a.at_)).setCell ⟨g,i*2+1,none⟩ (I6 a.id)) W2):
  io W2 r g cap b clk (l.set i a) (dI q a.id (I6 (i:Int)))/\cX (WS r g b) W0 W2:=by
 have f:=h.rg (by omega);have m:=h.rb;have s:=h.gb (by omega);obtain⟨cs,t⟩:=h.row (by omega);have o1:=h.own.ax (a:=a) hi rfl rfl rfl;have p:am ((W0.setCell ⟨g,i*2,none⟩ (I6 a.at_)).setCell ⟨g,i*2+1,none⟩ (I6 a.id)) r 181 #[.slice (some ⟨g,0,none⟩) l.length cap,.map (some b),I6 clk]:=(h.box.ad f).ad f;have n:(l.set i a).length=l.length:=by simp
 refine⟨⟨by rw[n];exact p.only c m.symm,?_,j⟩,((cX.U (aB _ _ _ _) (.inr (.inl rfl))).trans (cX.U (aB _ _ _ _) (.inr (.inl rfl)))).trans (cX.U c (.inr (.inr rfl)))⟩;rw[n];exact o1.keep c (fun k e he=>by simp[Value.ownBlock]at e;injection he with he;omega)
theorem iO(r g cap b i:Nat)(clk:Int)(l:List Al) q(a:Al) w(h:io w r g cap b clk l q)(hi:i < l.length)(hl:l.length<=5000):
  Cs 207 #[Pt r,I6 (i:Nat),.agg #[I6 a.at_,I6 a.id]] w fun e w'=>Rt e (.tuple #[])/\io w' r g cap b clk (l.set i a) (dI q a.id (I6 (i:Int)))/\cX (WS r g b) w w':=by
 obtain⟨W0,s,j,n⟩:=dW w #[I6 a.at_,I6 a.id] 137;have c:=h.below j;have A:=aH c;have C:w.heap.size < W0.heap.size:=by rw[<-s];simp
 obtain⟨cs,H⟩:=c.row (by omega);have k:=c.rg (by omega);have D:=(h.own.lt g rfl).2;have m:g≠w.heap.size:=by omega
 have F:r≠w.heap.size:=(aT n (h.box.below j) (by decide)).symm;obtain⟨z0,I⟩:=c.at_ (zA hi);have J:=c.frozen (by omega);obtain⟨L,M,N⟩:=am.three (h.box.below j);obtain⟨a0,a1⟩:=am.two n;obtain⟨p,f⟩:=nM ((W0.setCell ⟨g,i*2,none⟩ (I6 a.at_)).setCell ⟨g,i*2+1,none⟩ (I6 a.id));have u:b4 p.drew.drew b q:=by rw[<-f];exact((c.map.only (aB _ _ _ _) (c.gb (by omega))).only (aB _ _ _ _) (c.gb (by omega))).drew.drew
 obtain⟨O,v1,v2⟩:=am.three (show am p r _ _ by rw[<-f];exact(c.box.ad k).ad k);obtain⟨u0,u1⟩:=am.two (show am p w.heap.size _ _ by rw[<-f];exact(n.ad m.symm).ad m.symm);obtain⟨W2,B,x,y⟩:=u.update (P:=prog) (t:=179) (kt:=3) (et:=3) (by kernel_rfl) (by kernel_rfl) a.id (I6 (i:Int));have z:=aH (DA a A hi x (by rw[f];exact aA (aA b9 b9) y));have G:(i:Int) < (l.length:Int):=by omega
 apply cI;go_in;go_wp2_with fail;simp only[s.out];refine aN 6 (by kernel_rfl) (by kernel_rfl) ?_;simp only[zF,zN,zG,zO];repeat still_step
 refine wpStill_nil ?_;go_wp2_with fail;simp only[f.out];refine aN 7 (by kernel_rfl) (by kernel_rfl) ?_;simp only[zF,zN,zG,zO];repeat still_step
 refine wpStill_nil ?_;go_wp2_with fail;go_end0;exact⟨rfl,z.1,(cX.J j).trans z.2⟩
def dE(l:List Al)(q:IM):Prop:=∀k v,bE q k=some v->∃j:Nat,v=I6 j/\∃h:j < l.length,l[j].id=k
def mS(l:List Al)(q:IM)(a:Al)(i:Nat):Prop:=∀k v,bE q k=some v->∃j:Nat,v=I6 j/\∃h:j < l.length,k=a.id\/(j≠i/\l[j].id=k)
theorem dE.hole{l:List Al}{q}(h:dE l q)(hi:i < l.length):mS l q l[i] i:=by
 intro k v b;obtain⟨j,rfl,c,a⟩:=h k v b;refine⟨j,rfl,c,?_⟩;by_cases e:j=i
 ·subst e;exact .inl a.symm
 ·exact .inr ⟨e,a⟩
theorem mS.fill{l:List Al}{q}{a:Al}(h:mS l q a i)(hi:i < l.length):dE (l.set i a) (dI q a.id (I6 (i:Int))):=by
 intro k v b;rw[eu]at b;split at b
 ·rename_i e;injection b with b;subst b;exact⟨i,rfl,by simpa using hi,by simp[e]⟩
 ·rename_i e;obtain⟨j,rfl,f,c⟩:=h k v b;refine⟨j,rfl,by simpa using f,?_⟩;rcases c with c|⟨hne,c⟩
  ·exact absurd c e
  ·rw[List.getElem_set_ne hne.symm];exact c
theorem mS.move{l:List Al}{q}{a:Al}{m:Nat}(h:mS l q a i)(hi:i < l.length)(n:m < l.length)(f:m≠i):mS (l.set i l[m]) (dI q l[m].id (I6 (i:Int))) a m:=by
 intro k v b;rw[eu]at b;split at b
 ·rename_i e;injection b with b;subst b;exact⟨i,rfl,by simpa using hi,.inr ⟨f.symm,by simp[e]⟩⟩
 ·rename_i e;obtain⟨j,rfl,g,c⟩:=h k v b;refine⟨j,rfl,by simpa using g,?_⟩;rcases c with c|⟨hji,c⟩
  ·exact .inl c
  ·refine .inr ⟨fun e2=>?_,by rw[List.getElem_set_ne hji.symm];exact c⟩;subst e2;exact e c.symm
def Gk(r g cap b:Nat)(clk:Int)(n:Nat)(w:World)(e:Ending)(w':World):Prop:=Rt e (.tuple #[])/\∃l q,l.length=n/\dE l q/\io w' r g cap b clk l q/\cX (WS r g b) w w'
theorem qq(r g cap b k:Nat)(clk:Int)(f:List Al) q0 w(h:io w r g cap b clk f q0)(hi:k < f.length)(hl:f.length<=5000)(hh:mS f q0 f[k] k):
  Cs 209 #[Pt r,I6 (k:Nat)] w (Gk r g cap b clk f.length w):=by
 obtain⟨a,I⟩:=nx (f[k]);rw[I]at hh;obtain⟨W0,T,U,V⟩:=dW w #[I6 a.at_,I6 a.id] 137;obtain⟨z0,x⟩:=h.at_ (zA hi);rw[I]at z0 x;obtain⟨J,L,M⟩:=am.three h.box;obtain⟨HH,H0,X1⟩:=gC hh (h.below U) V;have hd:=(h.own.lt g rfl).2;have he:=ap h.box;have hf:=h.map.lt;have j:(k:Int) < (f.length:Int):=by omega
 have X:=aH (cX.J (S:=WS r g b) U);have Y:w.heap.size < W0.heap.size:=by rw[<-T];simp
 clear I hh V h;apply cI;go_in;go_step3;go_wp2_with fail;simp only[T.out];go_step3;go_wp2_with fail;clear z0 x J L M;go_loopw[1,5] (fun v1 _ wr=>∃(i:Nat) (l:List Al) (q:IM),v1=I6 i/\i < l.length/\l.length=f.length/\io wr r g cap b clk l q/\mS l q a i/\am wr w.heap.size 137 #[I6 a.at_,I6 a.id]/\w.heap.size < wr.heap.size/\cX (WS r g b) w wr) (fun v1 _ _=>(intOf v1).toNat)
 case atStart=>exact⟨k,f,q0,rfl,hi,rfl,H0,HH,X1,Y,X⟩
 case round=>
  obtain⟨i,l,q,rfl,j,C,u,D,N,hj,Z⟩:=hrel;obtain⟨A,A2,A3,A4,F⟩:=gE u D N Z C;have G:l.length<=5000:=by omega
  obtain⟨c0,c1⟩:=am.two N;obtain⟨J,L,M⟩:=am.three u.box;have hk:=u.rg (by omega);have y:Hid (∀W,Bw wr W->Cs 207 #[Pt r,I6 (i:Nat),.agg #[I6 a.at_,I6 a.id]] W (Gk r g cap b clk f.length w)):=aH fun W hb=>by
   refine(iO r g cap b i clk l q a W (A.below hb) j G).mono ?_;rintro e W' ⟨rfl,h1,h2⟩;exact⟨rfl,_,_,by simpa using F.out,A2.fill j,h1,(A4.trans (cX.J hb)).trans h2⟩
  clear D N Z C;rcases i with _|m
  ·clear u;go_wp2_with fail;refine(y _ (bR _)).mono ?_;rintro O w3 ⟨rfl,z⟩;have R:=aH z;clear z;go_wp2_with fail;rw[Exit.noGoto_normal];go_end0;exact⟨rfl,R⟩
  ·have n:m / 2 < l.length:=by omega
   obtain⟨z0,x⟩:=u.at_ (zA n);obtain⟨t,s⟩:=nx (l[m / 2]);rw[s]at z0 x;obtain⟨HM,HT⟩:=gB (s▸A2.move j n (by omega)) s;have hm:((m:Int) / 2)=((m / 2:Nat):Int):=by omega
   have hc:((m / 2:Nat):Int) < (l.length:Int):=by omega
   clear s u;generalize hq2:m / 2=p at*;have hn:m+1 < l.length:=j;go_wp2_with fail;refine aN 8 (by kernel_rfl) (by kernel_rfl) ?_;simp only[zF,zN,zG,zO];repeat still_step
   refine wpStill_nil ?_;have C9:=aH (ia t.at_ t.id a.at_ a.id wr.drew);go_wp2_with fail;refine C9.mono ?_;rintro O w4 ⟨rfl,H⟩;have c:=aH ((bP wr).trans H);obtain⟨e0,e1⟩:=am.two (A3.below c);obtain⟨f0,f1,f2⟩:=am.three (A.below c).box;obtain⟨g0,g1⟩:=(A.below c).at_ (i:=p) (a:=t) (by rw[zA n,HT]);clear H z0 x c0 c1 J L M;obtain⟨bb,ho⟩:=nx (decide (ru (cH t.at_ a.at_) (cH t.id a.id) < 0));cases bb
   ·go_wp2_with fail;refine(iO r g cap b (m+1) clk l q t w4 (A.below c) j G).mono ?_;rintro O w5 ⟨rfl,h5,B⟩;obtain⟨H5,H6,H7⟩:=gC h5 ((A4.trans (cX.J c)).trans B) (cX.blk B (A3.below c) (by unfold WS;omega));have hp:=B.size;have hq:=c.size;clear h5 B f0 f1 f2 g0 g1;go_wp2_with fail;go_roundw
    case rel=>exact⟨p,_,_,rfl,by simpa using n,by simpa using F.out,H5,HM,H7,by omega,H6⟩
    case measure=>simp[intOf];omega
   ·go_wp2_with fail;refine(y _ c).mono ?_;rintro O w3 ⟨rfl,z⟩;have R:=aH z;clear z;go_wp2_with fail;rw[Exit.noGoto_normal];go_end0;exact⟨rfl,R⟩
theorem tZ(r g cap b m n i:Nat)(clk:Int)(l:List Al) q(w:World)(h:io w r g cap b clk l q)(h1:Ce w m 0 (I6 (i:Nat)))(h2:Ce w n 0 (Pt r))(hi:2*i+1 < l.length)(hl:l.length<=5000):
  Cs 306 #[Pt m,Pt n] w fun e w'=>(∃k:Nat,Rt e (I6 k)/\i < k/\k < l.length)/\Below w.heap.size w w':=by
 obtain⟨M,N,O⟩:=am.three h.box;obtain⟨p,z⟩:=nx (2*i+1);rw[z]at hi;have c:i < p:=by omega
 have R:2*(i:Int)+1=(p:Int):=by omega
 have H:(i:Int)<=5000:=by omega
 have I:(p:Int)<=5000:=by omega
 have S:IntKind.i64.wrap ((p:Int)+1)=(p:Int)+1:=zZ _ (by omega);have T:((p:Int)+1).toNat=p+1:=by omega
 have U:(0:Int)<=(p:Int)+1:=by omega
 obtain⟨z0,A⟩:=h.at_ (zA hi);obtain⟨t,s⟩:=nx (l[p]);rw[s]at z0 A;by_cases hlt:p+1 < l.length
 ·obtain⟨B,v1⟩:=h.at_ (zA hlt);obtain⟨u,x⟩:=nx (l[p+1]);rw[x]at B v1;have C:decide ((p:Int)+1 < (l.length:Int))=true:=by simp;omega
  have J:(p:Int) < (l.length:Int):=by omega
  have D:(p:Int)+1 < (l.length:Int):=by omega
  obtain⟨a,F,j⟩:=gC c hlt hi;apply cI;go_in;go_wp2_with fail;refine aN 24 (by kernel_rfl) (by kernel_rfl) ?_;simp only[zF,zN,zG,zO];repeat still_step
  refine wpStill_nil ?_;go_wp2_with fail;refine(ia u.at_ u.id t.at_ t.id w.drew).mono ?_;rintro V w4 ⟨rfl,y⟩;have f:=aH ((bP w).trans y);obtain⟨G,L⟩:=nx (decide (ru (cH u.at_ t.at_) (cH u.id t.id) < 0));cases G
  ·go_wp2_with fail;go_ret;exact⟨⟨p,rfl,a,j⟩,f⟩
  ·go_wp2_with fail;go_ret;exact⟨⟨p+1,by go_num,Nat.lt_succ_of_lt a,F⟩,f⟩
 ·have C:decide ((p:Int)+1 < (l.length:Int))=false:=by simp;omega
  obtain⟨a,j⟩:=gB c hi;apply cI;go_in;go_wp2_with fail;go_quiet (fail);go_wp2_with fail;go_ret;exact⟨⟨p,rfl,a,j⟩,below_drewN (bR _) _⟩
theorem y5(r g cap b j:Nat)(clk:Int)(f:List Al) q0 w(h:io w r g cap b clk f q0)(hi:j < f.length)(hl:f.length<=5000)(hh:mS f q0 f[j] j):
  Calls Tryz.prog 208 #[.pointer (some ⟨r,0,none⟩),.int .i64 (j:Nat)] w (Gk r g cap b clk f.length w):=by
 obtain⟨a,ha⟩:=nx (f[j]);rw[ha]at hh;obtain⟨W0,HW,O,x1,x2⟩:=rt w #[.pointer (some ⟨r,0,none⟩)] #[.int .i64 (j:Nat)] 87 3;obtain⟨z0,z1⟩:=(h.below O).at_ (zA hi);rw[ha]at z0 z1;obtain⟨R,y1,y2⟩:=am.three (h.below O).box;obtain⟨HH,H0,X1,X2⟩:=gD hh (h.below O) x1 x2;have c1:W0.cell? ⟨w.heap.size,0,none⟩=some (.pointer (some ⟨r,0,none⟩)):=am.cell x1 0;have c2:W0.cell? ⟨w.heap.size+1,0,none⟩=some (.int .i64 (j:Nat)):=am.cell x2 0;have ht:=(h.own.lt g rfl).2;have hu:=ap h.box;have hx:=h.map.lt;have p:(j:Int) < (f.length:Int):=by omega
 have Z:=aH (cX.J (S:=WS r g b) O);have hq:W0.heap.size=w.heap.size+1+1:=by rw[<-HW];simp
 clear ha hh x1 x2 h;go_enter Tryz.func208,Tryz.ntmps208;go_wp2_with fail;simp only[HW.out];go_region_held3 (fun w'=>w'.cell? ⟨w.heap.size,0,none⟩=some (.pointer (some ⟨r,0,none⟩))/\w'.cell? ⟨w.heap.size+1,0,none⟩=some (.int .i64 (j:Nat))/\w'.cell? ⟨r,0,none⟩=some (.slice (some ⟨g,0,none⟩) f.length cap)/\w'.cell? ⟨g,j*2,none⟩=some (.int .i64 a.at_)/\w'.cell? ⟨g,j*2+1,none⟩=some (.int .i64 a.id)) (first|exact⟨c1,c2,R,z0,z1⟩|go_keep) (fail);rename_i hHeld;clear hHeld;obtain⟨W1,C⟩:=nM ((W0.alloc (.cells #[.int .i64 a.at_,.int .i64 a.id] 137)).drew);have m:Below W0.heap.size W0 W1:=by rw[<-C];exact(ba W0 _).drew
 have X3:Hid (am W1 (w.heap.size+1+1) 137 #[.int .i64 a.at_,.int .i64 a.id]):=aH (by rw[<-C,<-hq];exact am.new W0 _ _);obtain⟨K0,K1,K2,KG⟩:=gD (H0.below m) (X1.below m) (X2.below m) (Z.trans (cX.J (S:=WS r g b) (m.mono nR)));have hy:=m.size;simp only[C.out];clear m z0 z1 R y1 y2 c1 c2 H0 X1 X2 Z;go_wp2_with fail;go_loopw[6] (fun _ wr=>∃(i:Nat) (l:List Al) (q:IM),i < l.length/\l.length=f.length/\io wr r g cap b clk l q/\mS l q a i/\am wr w.heap.size 87 #[.pointer (some ⟨r,0,none⟩)]/\am wr (w.heap.size+1) 3 #[.int .i64 (i:Nat)]/\am wr (w.heap.size+1+1) 137 #[.int .i64 a.at_,.int .i64 a.id]/\cX (WS r g b) w wr) (fun _ wr=>f.length - (intOf ((wr.cell? ⟨w.heap.size+1,0,none⟩).getD undef)).toNat)
 case atStart=>exact⟨j,f,q0,hi,rfl,K0,HH,K1,K2,X3,KG⟩
 case round=>
  obtain⟨i,l,q,p,hc,T,hd,D,F,hf,hg⟩:=hrel;obtain⟨x,A2,G,A4,U,A6,H⟩:=gG T hd hf hg D F hc;have I:l.length<=5000:=by omega
  have hz:(i:Int)<=5000:=by omega
  have c1:wr.cell? ⟨w.heap.size,0,none⟩=some (.pointer (some ⟨r,0,none⟩)):=am.cell D 0;have c2:wr.cell? ⟨w.heap.size+1,0,none⟩=some (.int .i64 (i:Nat)):=am.cell F 0;obtain⟨R,y1,y2⟩:=am.three T.box;have J:Hid (∀W,Below wr.heap.size wr W->Calls Tryz.prog 207 #[.pointer (some ⟨r,0,none⟩),.int .i64 (i:Nat),.agg #[.int .i64 a.at_,.int .i64 a.id]] W (Gk r g cap b clk f.length w)):=aH fun W hb=>by
   refine(iO r g cap b i clk l q a W (x.below hb) p I).mono ?_;rintro e W' ⟨rfl,h1,h2⟩;exact⟨rfl,_,_,by simpa using H.out,A2.fill p,h1,(A4.trans (cX.J hb)).trans h2⟩
  have hr:Hid ((intOf ((wr.cell? ⟨w.heap.size+1,0,none⟩).getD undef)).toNat=i):=aH (by rw[c2];simp[intOf]);have q1:IntKind.i64.wrap (2*(i:Int))=2*(i:Int):=zZ _ (by omega);have q2:IntKind.i64.wrap (2*(i:Int)+1)=2*(i:Int)+1:=zZ _ (by omega);have hA:=T.own.lt g rfl;clear hd D F hf hg hc T;by_cases hlt:2*i+1 < l.length
  ·have d1:decide (2*(i:Int)+1 < (l.length:Int))=true:=by simp;omega
   have hj:Hid (∀W,Below wr.heap.size wr W->Calls Tryz.prog 306 #[.pointer (some ⟨w.heap.size+1,0,none⟩),.pointer (some ⟨w.heap.size,0,none⟩)] W fun e w'=>(∃k:Nat,Rt e (.int .i64 k)/\i < k/\k < l.length)/\Below W.heap.size W w'):=aH fun W hb=>
    tZ r g cap b (w.heap.size+1) w.heap.size i clk l q W (x.below hb) (am.cell (A6.below hb) 0) (am.cell (U.below hb) 0) hlt I
   go_wp2_with fail;go_quiet (fail);go_wp2_with fail;refine(hj _ (below_drewN (bR _) _)).mono ?_;rintro V w4 ⟨⟨k,rfl,hk,y⟩,hm⟩;obtain⟨n,hs⟩:=gB ((below_drewN (bQ wr) _).trans hm) hk;clear hm c1 c2 R y1 y2 hj q1 q2 d1;have c1:w4.cell? ⟨w.heap.size,0,none⟩=some (.pointer (some ⟨r,0,none⟩)):=am.cell (U.below n) 0;obtain⟨X,Y⟩:=am.two (G.below n);obtain⟨f0,f1,f2⟩:=am.three (x.below n).box;obtain⟨t,z⟩:=nx (l[k]);obtain⟨g0,g1⟩:=(x.below n).at_ (i:=k) (a:=t) (by rw[zA y,z]);obtain⟨HM,HT⟩:=gB (z▸A2.move p y (by omega)) z;have hB:(k:Int) < (l.length:Int):=by omega
   clear z hk;go_wp2_with fail;refine aN 8 (by kernel_rfl) (by kernel_rfl) ?_;simp only[zF,zN,zG,zO];repeat still_step
   refine wpStill_nil ?_;go_wp2_with fail;refine(ia a.at_ a.id t.at_ t.id w4.drew).mono ?_;rintro V L ⟨rfl,hn⟩;have c:=aH (n.trans (((bP w4).trans hn).mono n.size));clear hn c1 X Y f0 f1 f2 g0 g1;have c1:L.cell? ⟨w.heap.size,0,none⟩=some (.pointer (some ⟨r,0,none⟩)):=am.cell (U.below c) 0;have c2:L.cell? ⟨w.heap.size+1,0,none⟩=some (.int .i64 (i:Nat)):=am.cell (A6.below c) 0;obtain⟨X,Y⟩:=am.two (G.below c);obtain⟨f0,f1,f2⟩:=am.three (x.below c).box;obtain⟨g0,g1⟩:=(x.below c).at_ (i:=k) (a:=t) (by rw[zA y,HT]);obtain⟨bb,hC⟩:=nx (decide (ru (cH a.at_ t.at_) (cH a.id t.id) < 0));cases bb
   ·have C7:=aH (iO r g cap b i clk l q t L.drew ((x.below c).below (bD _)) p I);go_wp2_with fail;refine aN 9 (by kernel_rfl) (by kernel_rfl) ?_;simp only[zF,zN,zG,zO];repeat still_step
    refine wpStill_nil ?_;go_wp2_with fail;refine C7.mono ?_;rintro V w6 ⟨rfl,B,h6⟩;have s:cX (WS r g b) L w6:=(cX.J (bP L)).trans h6;obtain⟨H5,M⟩:=gB B ((A4.trans (cX.J c)).trans s);have ho:=cX.blk s (U.below c) (by unfold WS;omega);have A:=cX.blk s (A6.below c) (by unfold WS;omega);have hp:=cX.blk s (G.below c) (by unfold WS;omega);have c3:w6.cell? ⟨w.heap.size+1,0,none⟩=some (.int .i64 (i:Nat)):=am.cell A 0;have cf:w6.frozen? ⟨w.heap.size+1,0,none⟩=false:=am.frozen A 0;have hD:=B.rg (by simp;omega);obtain⟨Z1,Z2,Z3⟩:=gC (ho.ad (k:=w.heap.size+1) (i:=0) (u:=.int .i64 (k:Nat)) (by omega)) (A.I 0 (.int .i64 (k:Nat))) (hp.ad (k:=w.heap.size+1) (i:=0) (u:=.int .i64 (k:Nat)) (by omega));have Z4:Hid (io (w6.setCell ⟨w.heap.size+1,0,none⟩ (.int .i64 (k:Nat))) r g cap b clk (l.set i t) (dI q t.id (.int .i64 (i:Int)))):=aH ⟨B.box.ad (by omega),B.own.keep (aB _ _ _ _) (fun b' e he=>by simp[Value.ownBlock]at e;injection he with he;omega),B.map.only (aB _ _ _ _) (by omega)⟩;have Z5:Hid (cX (WS r g b) w (w6.setCell ⟨w.heap.size+1,0,none⟩ (.int .i64 (k:Nat)))):=aH ⟨M.os,M.tape,M.output,by rw[World.size_setCell];exact M.size,fun b' hb' hs'=>by
     rw[Below.heap_setCell _ _ _ _ (by simp;omega)];exact M.block b' hb' hs'⟩
    clear B h6 s ho A hp c1 c2 X Y f0 f1 f2 g0 g1;go_wp2_with fail;go_roundw
    case rel=>exact⟨k,_,_,by simpa using y,by simpa using H.out,Z4,HM,Z1,Z2,Z3,Z5⟩
    case measure=>
     rw[hr];have:(intOf (((w6.setCell ⟨w.heap.size+1,0,none⟩ (.int .i64 (k:Nat))).cell? ⟨w.heap.size+1,0,none⟩).getD undef)).toNat=k:=by rw[am.cell Z2 0];simp[intOf]
     rw[this];have:=hs.out;have:=H.out;omega
   ·go_wp2_with fail;refine(J _ c).mono ?_;rintro V w3 ⟨rfl,N⟩;have HF:=aH N;clear N;go_wp2_with fail;go_end0;exact⟨rfl,HF⟩
  ·have d1:decide (2*(i:Int)+1 < (l.length:Int))=false:=by simp;omega
   have X:=(am.two G).1;have Y:=(am.two G).2;go_wp2_with fail;go_quiet (fail);go_wp2_with fail;refine(J _ (below_drewN (bR _) _)).mono ?_;rintro V w3 ⟨rfl,N⟩;have HF:=aH N;clear N;go_wp2_with fail;go_end0;exact⟨rfl,HF⟩
theorem dE.last{l:List Al}{q}(h:dE l q)(f:n+1=l.length):dE (l.take n) (eg q (l[n]'(by omega)).id):=by
 intro k v a;rw[lA]at a;split at a
 ·cases a
 ·rename_i e;obtain⟨j,rfl,g,b⟩:=h k v a;have c:j≠n:=fun e2=>by subst e2;exact e b.symm
  exact⟨j,rfl,by simp;omega,by rw[List.getElem_take];exact b⟩
theorem dE.mid{l:List Al}{q}(h:dE l q)(g:n+1=l.length)(hi:i < n):
  dE ((l.take n).set i (l[n]'(by omega))) (dI (eg q (l[i]'(by omega)).id) (l[n]'(by omega)).id (I6 (i:Int))):=by
 intro k v a;rw[eu]at a;split at a
 ·rename_i e;injection a with a;subst a;exact⟨i,rfl,by simp;omega,by simp[e]⟩
 ·rename_i e;rw[lA]at a;split at a
  ·cases a
  ·rename_i e2;obtain⟨j,rfl,m,b⟩:=h k v a;have f:j≠n:=fun e3=>by subst e3;exact e b.symm
   have c:j≠i:=fun e3=>by subst e3;exact e2 b.symm
   exact⟨j,rfl,by simp;omega,by rw[List.getElem_set_ne c.symm,List.getElem_take];exact b⟩
def Eq(r g cap b:Nat)(clk:Int)(n:Nat)(w:World)(e:Ending)(w':World):Prop:=(∃a:Al,Rt e (.agg #[I6 a.at_,I6 a.id]))/\∃l q,l.length=n/\dE l q/\io w' r g cap b clk l q/\cX (WS r g b) w w'
theorem io.of_chg{w w'}{l:List Al}{q}{S:Nat->Prop}(h:io w r g cap b clk l q)(a:cX S w w')(f:¬S r)(i:¬S g)(j:¬S b):io w' r g cap b clk l q:=by
 refine⟨a.blk h.box f,?_,h.map.kept (a.block b h.map.lt j)⟩;rcases h.own with⟨k,c⟩;refine⟨k,?_⟩;rcases c with c|⟨g',cap',cur,he,hb,hl,hrest⟩
 ·exact .inl c
 ·refine .inr ⟨g',cap',cur,he,hb,?_,hrest⟩;injection he with he;injection he with he;injection he with he;subst he;exact(a.block g (ap hl) i).trans hl
theorem k6(r g cap b i n:Nat)(clk:Int)(l:List Al) q w(h:io w r g cap b clk l q)(hn:n+1=l.length)(hi:i<=n)(hl:l.length<=5000)(hp:dE l q):
  Cs 112 #[Pt r,I6 (i:Nat)] w (Eq r g cap b clk n w):=by
 obtain⟨i0,hf,hK,hL,hM⟩:=info_parts dM.info;obtain⟨a,ha⟩:=nx (l[i]);obtain⟨d,hd⟩:=nx (l[n]);obtain⟨W0,HW,HB,x1,x2⟩:=rt w #[I6 0,I6 0] #[I6 a.at_,I6 a.id] 137 137;have hN:W0.heap.size=w.heap.size+1+1:=by rw[<-HW];simp
 have hO:=(h.own.lt g rfl).2;have hP:=ap h.box;have hQ:=h.map.lt;have hR:=h.rg (by omega);have hm:=h.rb;have hS:=h.gb (by omega);obtain⟨_,_,_,hT,_⟩:=h.own.ar (by omega) rfl;obtain⟨p0,p1⟩:=h.at_ (i:=i) (a:=a) (by rw[zA (by omega),ha]);obtain⟨o0,o1,o2⟩:=am.three h.box;have G:=h.below HB;obtain⟨y0,y1,y2⟩:=am.three G.box;obtain⟨b0,b1⟩:=am.two x2
 obtain⟨W1,hJ,ho,c⟩:=(G.map.drew).delete (P:=prog) (t:=179) (kt:=3) (et:=3) (by kernel_rfl) (by kernel_rfl) a.id 0;have I:=c.size;have V:io W1 r g cap b clk l (eg q a.id):=⟨(am.below G.box (bD _)).only c (by omega),aK.keep (E:=dM) (aI G.own (bD _)) c (fun b' e he=>by simp[Value.ownBlock]at e;injection he with he;omega),ho⟩;obtain⟨z0,z1,z2⟩:=am.three V.box;obtain⟨v0,v1⟩:=V.at_ (i:=n) (a:=d) (by rw[zA (by omega),hd]);have hq:am W1 w.heap.size 137 #[I6 0,I6 0]:=(am.below x1 (bD _)).only c (by omega);have hr:am W1 (w.heap.size+1) 137 #[I6 a.at_,I6 a.id]:=(am.below x2 (bD _)).only c (by omega)
 have p:=ba W1 (.cells #[I6 d.at_,I6 d.id] 137);obtain⟨W2,x⟩:=nM (W1.alloc (.cells #[I6 d.at_,I6 d.id] 137));have x3:am W2 W1.heap.size 137 #[I6 d.at_,I6 d.id]:=by rw[<-x];exact am.new _ _ _
 rw[x]at p;have y:=V.below p;obtain⟨s0,s1,s2⟩:=am.three y.box;have sf:=fun j=>am.frozen y.box j;have cut:=eo (P:=prog) 134 137 i0 underlying134 hf .i64 (some ⟨g,0,none⟩) l.length cap n (by omega);obtain⟨W3,f⟩:=nM (W2.setCell ⟨r,0,none⟩ (.slice (some ⟨g,0,none⟩) n cap));have s:(l.take n).length=n:=by simp;omega
 have k3:io W3 r g cap b clk (l.take n) (eg q a.id):=by
  rw[<-f];refine⟨by rw[s];exact am.I y.box 0 _,?_,y.map.only (aB _ _ _ _) hm⟩;have:=(y.own.ch (k:=n) (by omega)).keep (aB W2 r 0 (.slice (some ⟨g,0,none⟩) n cap)) (fun b' e he=>by simp[Value.ownBlock]at e;injection he with he;omega);rw[s];exact this
 have ht:am W3 w.heap.size 137 #[I6 0,I6 0]:=by rw[<-f];exact(am.below hq p).ad (by omega)
 have hu:am W3 (w.heap.size+1) 137 #[I6 a.at_,I6 a.id]:=by rw[<-f];exact(am.below hr p).ad (by omega)
 have J:am W3 W1.heap.size 137 #[I6 d.at_,I6 d.id]:=by rw[<-f];exact x3.ad (by simp at I;omega)
 have hw:cX (WS r g b) w W3:=by
  rw[<-f];exact((((cX.J HB).trans (cX.J (bD _))).trans (cX.U c (.inr (.inr rfl)))).trans (cX.J p)).trans (cX.U (aB _ _ _ _) (.inl rfl))
 obtain⟨K3,A,X,Y3,M⟩:=gE k3 ht hu J hw;have hU:(i:Int) < (l.length:Int):=by omega
 have hV:(n:Int) < (l.length:Int):=by omega
 have hW:(l.length:Int) - 1=(n:Int):=by omega
 obtain⟨HP,HN,HA,hx⟩:=gD hp hn ha hd;have hX:W1.heap.size < W3.heap.size:=ap J;have hY:w.heap.size+1 < W1.heap.size:=by simp at I;omega
 have HE:Hid (∀W l' q',l'.length=n->dE l' q'->io W r g cap b clk l' q'->cX (WS r g b) w W->am W w.heap.size 137 #[I6 0,I6 0]->am W (w.heap.size+1) 137 #[I6 a.at_,I6 a.id]->
   Eq r g cap b clk n w (.returned (.agg #[I6 a.at_,I6 a.id])) ((W.setCell ⟨w.heap.size,0,none⟩ (I6 a.at_)).setCell ⟨w.heap.size,1,none⟩ (I6 a.id))):=aH fun W l' q' f1 f2 f3 f4 f5 f6=>by
  have u:cX (fun b=>b=w.heap.size) W ((W.setCell ⟨w.heap.size,0,none⟩ (I6 a.at_)).setCell ⟨w.heap.size,1,none⟩ (I6 a.id)):=cX.U (aA (aB _ _ _ _) (aB _ _ _ _)) rfl;refine⟨⟨a,rfl⟩,l',q',f1,f2,f3.of_chg u (by omega) (by omega) (by omega),⟨u.os.trans f4.os,u.tape.trans f4.tape,u.output.trans f4.output,zD f4.size u.size,fun k hk hs=>(u.block k (zT hk f4.size) (by omega)).trans (f4.block k hk hs)⟩⟩
 apply cI;go_in;go_wp2_with fail;simp only[HW.out];refine aN 6 (by kernel_rfl) (by kernel_rfl) ?_;simp only[zF,zN,zG,zO];repeat still_step
 refine wpStill_nil ?_;go_upto_region 5 with(fail);simp only[x.out];go_upto_region 6 with(fail);simp only[f.out];by_cases hlt:i < n
 ·have d1:decide ((i:Int) < (n:Int))=true:=by simp;omega
  obtain⟨e0,e1⟩:=am.two Y3;have N:i < (l.take n).length:=by rw[s];exact hlt
  have O:(l.take n).length<=5000:=by rw[s];omega
  have R:((l.take n).set i d).length=n:=by simp;omega
  have B:Hid (dE ((l.take n).set i d) (dI (eg q a.id) d.id (I6 (i:Int)))):=aH (by rw[<-hx,<-HA];exact HP.mid HN hlt);generalize l.take n=L at*;generalize eg q a.id=Q at*;go_wp2_with fail;refine(iO r g cap b i clk L Q d W3 K3 N O).mono ?_;rintro _e w4 ⟨rfl,h4,m⟩;obtain⟨K4,C4,hy,hz,hA⟩:=gE h4 (M.trans m) (m.blk A (by unfold WS;omega)) (m.blk X (by unfold WS;omega)) (m.blk Y3 (by unfold WS;omega));have hZ:=m.size;have C:i < (L.set i d).length:=by simpa using N
  have Y:(L.set i d).length<=5000:=by simpa using O
  have hh:=B.hole C;generalize L.set i d=L2 at*;generalize dI Q d.id (I6 (i:Int))=Q2 at*;have HH:=aH hh;go_wp2_with fail;refine(y5 r g cap b i clk L2 Q2 w4 K4 C Y HH).mono ?_;rintro _e Z ⟨rfl,L5,Q5,S,T,m,D⟩;obtain⟨K5,C5,hB,hC,hD⟩:=gE m (C4.trans D) (D.blk hy (by unfold WS;omega)) (D.blk hz (by unfold WS;omega)) (D.blk hA (by unfold WS;omega));have h1:=D.size;obtain⟨P5,hE⟩:=gB T (S.trans R);have h2:L5.length=n:=S.trans R;obtain⟨f0,f1,f2⟩:=am.three m.box;obtain⟨e0,e1⟩:=am.two hD;have hF:=fun k=>(m.map.drew.lookup (P:=prog) (t:=179) (kt:=3) (et:=3) (by kernel_rfl) (by kernel_rfl) (z:=I6 0) (by kernel_rfl) k).2;obtain⟨j,hj,U⟩:∃j:Nat,(bE Q5 d.id).getD (I6 0)=I6 (j:Int)/\j < L5.length:=by
   cases hg:bE Q5 d.id with
   |none=>exact⟨0,rfl,by omega⟩
   |some v=>
    obtain⟨j,rfl,hj,_⟩:=T _ _ hg;exact⟨j,rfl,hj⟩
  have hb:=hF d.id;rw[hj]at hb;have C6:=aH (qq r g cap b j clk L5 Q5 Z.drew (K5.below (bD _)) U (by omega) (P5.hole U));go_wp2_with fail;refine aN 8 (by kernel_rfl) (by kernel_rfl) ?_;simp only[zF,zN,zG,zO];repeat still_step
  refine wpStill_nil ?_;go_wp2_with fail;refine C6.mono ?_;rintro _e w7 ⟨rfl,L7,Q7,hG,hH,h7,h8⟩;have F:cX (WS r g b) Z w7:=(cX.J (bP Z)).trans h8;have H:=F.blk hB (by unfold WS;omega);have X2:=F.blk hC (by unfold WS;omega);obtain⟨a0,a1⟩:=am.two X2;obtain⟨r0,r1⟩:=am.two H;have rf:=fun j=>am.frozen H j;have HF:=aH (HE w7 L7 Q7 (hG.trans hE) hH h7 (C5.trans F) H X2);obtain⟨t0,t1⟩:=am.two (show am ((w7.setCell ⟨w.heap.size,0,none⟩ (I6 a.at_)).setCell ⟨w.heap.size,1,none⟩ (I6 a.id)) w.heap.size 137 #[I6 a.at_,I6 a.id]from am.I (am.I H 0 _) 1 _);go_wp2_with fail;refine bodyPost_ret (v:=.agg #[I6 a.at_,I6 a.id]) (by simp[results,results112,go_sem,t0,t1]) rfl ?_;exact HF
 ·have d1:decide ((i:Int) < (n:Int))=false:=by simp;omega
  have hI:i=n:=by omega
  have B:Hid (dE (l.take n) (eg q a.id)):=aH (by
   have:=HP.last HN;have e:l[n]'(by omega)=a:=by rw[<-HA];simp[hI]
   rw[e]at this;exact this)
  obtain⟨a0,a1⟩:=am.two X;obtain⟨r0,r1⟩:=am.two A;have rf:=fun j=>am.frozen A j;have HF:=aH (HE W3 _ _ s B K3 M A X);obtain⟨t0,t1⟩:=am.two (show am ((W3.setCell ⟨w.heap.size,0,none⟩ (I6 a.at_)).setCell ⟨w.heap.size,1,none⟩ (I6 a.id)) w.heap.size 137 #[I6 a.at_,I6 a.id]from am.I (am.I A 0 _) 1 _);go_wp2_with fail;refine bodyPost_ret (v:=.agg #[I6 a.at_,I6 a.id]) (by simp[results,results112,go_sem,t0,t1]) rfl ?_;exact HF
end Go.Proofs.YthdfgdicnplhlaaGreatDoor
