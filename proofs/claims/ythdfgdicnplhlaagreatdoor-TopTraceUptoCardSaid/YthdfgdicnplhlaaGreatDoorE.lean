import Derived.Test.YthdfgdicnplhlaaGreatDoorD
set_option maxHeartbeats 16000000
set_option maxRecDepth 100000
set_option linter.all false
namespace Go.Proofs.YthdfgdicnplhlaaGreatDoor
open Go.RowKit Hd _root_.Go.Proofs.Tryz
variable{P:Program}{t k e:TypeId}{α:Type}{E:El α}{base:Nat}{v:Value}{l:List Int}{b g r n:Nat}{w2 w6:World}{c:Nat}{v':Value}{w wr:World}{n2:Nat}{o o':Ow}{w':World}{x:Nat × Nat}{p:Nat × Nat → Prop}{f ld:List bC}{m:List Mg}{i:List bC}{w4:World}{c1 v4 v5:Value}{xs:List α}{ldc:List bC}{h:Nat}{rc:Int}{d:bC}{bm bh:Nat}{part:Int}
theorem mT{kt et:TypeId}(b:P.underlying t=some (.map kt et))(a:P.underlying kt=some (.int .i64)){z} w(hz:(zeroValue et).run P w=.ok z w)(k:Int):
  (Instr.lookup t (.map none) (I6 k) true).run P w=.ok (.tuple #[z,.bool false]) w/\(Instr.lookup t (.map none) (I6 k) false).run P w=.ok z w:=by
 have hf:Instr.findNow (.int .i64) (I6 k) (#[]:Array MapEntry).toList 0=some none:=rfl;constructor<;>simp[Instr.lookup,run_underlying b,yD a (show MapKept.IsKey (.int .i64) (I6 k)from rfl),yJ a hf,hz,Result.andThen]
theorem oR(d:Nat)(m:Option Nat)(h:P.underlying t=some (.map k e)) w:(Op.equalIn (d+1) t (.map m) (.map none)).run P w=.ok m.isNone w:=by
 cases m<;>simp[Op.equalIn,run_underlying h]
theorem jn(m:Option Nat)(h:P.underlying t=some (.map k e)) w:(Op.equal t (.map m) (.map none)).run P w=.ok m.isNone w:=oR 9999 m h w
theorem fO(m:Option Nat)(h:P.underlying t=some (.map k e)) w:(binOp .eql t (.map m) (.map none)).run P w=.ok (.bool m.isNone) w:=by
 simp only[binOp];simp[jn m h w]
theorem aK.ak{w}{l:List α}{m}(h:aK E base w v l)(c:b4 w b m):some b≠v.ownBlock:=by
 intro a;rcases h.2 with⟨rfl,_⟩|⟨k,cap,g,rfl,_,f,_⟩
 ·simp[Value.ownBlock]at a
 ·simp[Value.ownBlock]at a;subst a;exact c.cr f
def ek(n:Nat)(o:Ow)(w:World)(r:Nat)(x:Nat×Nat):Prop:=o r=x/\
 ((∃A c m clk,n=0/\am w r 181 #[.slice A 0 c,m,I6 clk]/\cZ dM o x w (.slice A 0 c) []/\(m=.map none\/∃b q,m=.map (some b)/\o b=x/\b4 w b q/\∀k,bE q k=none))\/
  (∃g cap b clk l q,io w r g cap b clk l q/\o g=x/\o b=x/\0 < l.length/\l.length=n/\dE l q))
theorem ek.lt(h:ek n o w r x):r < w.heap.size:=by
 rcases h.2 with⟨_,_,_,_,_,h,_⟩|⟨_,_,_,_,_,_,h,_⟩
 ·exact ap h
 ·exact ap h.box
theorem ek.st(h:ek n o w r x)(a:St p o w o' w')(j:¬p x):ek n o' w' r x:=by
 refine⟨by rw[a.old r h.lt];exact h.1,?_⟩;have u:¬p (o r):=by rw[h.1];exact j
 rcases h.2 with⟨A,c,m,clk,y,f,s,i⟩|⟨g,cap,b,clk,l,q,f,s,i,z,B,C⟩
 ·refine .inl ⟨A,c,m,clk,y,f.st a u,s.st a j,?_⟩;rcases i with i|⟨b,q,e,t,hm,hq⟩
  ·exact .inl i
  ·exact .inr ⟨b,q,e,by rw[a.old b hm.lt];exact t,hm.st a (by rw[t];exact j),hq⟩
 ·have D:=(f.own.lt g rfl).2;have t:=f.map.lt;refine .inr ⟨g,cap,b,clk,l,q,⟨f.box.st a u,?_,f.map.st a (by rw[i];exact j)⟩,by rw[a.old g D];exact s,by rw[a.old b t];exact i,z,B,C⟩;exact(cZ.st (E:=dM) (x:=x) ⟨f.own,fun k e=>by simp[Value.ownBlock]at e;subst e;exact s⟩ a j).1
theorem io.close{cap:Nat}{clk:Int}{l:List Al}{q}(h:io w r g cap b clk l q)(p:o r=x)(a:o g=x)(c:o b=x)(f:l.length=n)(i:dE l q):ek n o w r x:=by
 refine⟨p,?_⟩;by_cases h0:l.length=0
 ·have m:=yP h0;subst m;refine .inl ⟨some ⟨g,0,none⟩,cap,_,clk,by rw[<-f];rfl,h.box,⟨h.own,fun k e=>by simp[Value.ownBlock]at e;subst e;exact a⟩,.inr ⟨b,q,rfl,c,h.map,fun k=>?_⟩⟩;cases hk:bE q k with
  |none=>rfl
  |some v=>obtain⟨j,_,s,_⟩:=i k v hk;simp at s
 ·exact .inr ⟨g,cap,b,clk,l,q,h,a,c,by omega,f,i⟩
theorem WS.st(h:cX (WS r g b) w w')(hf:aX o w)(a:o r=x)(c:o g=x)(f:o b=x):St (·=x) o w o w':=h.st hf fun k hk=>by
 rcases hk with rfl|rfl|rfl
 ·exact a
 ·exact c
 ·exact f
theorem BN(w:World):Cs 42 #[] w fun e w'=>Rt e (Pt w.heap.size)/\am w' w.heap.size 181 #[aS,.map none,I6 0]/\Below w.heap.size w w':=by
 obtain⟨a,b⟩:=gB (am.new w 181 #[aS,.map none,I6 0]) (ba w (.cells #[aS,.map none,I6 0] 181));apply cI;go_in;go_wp2;go_ret;exact⟨rfl,a,b⟩
theorem ek.new{o}{w}{x}(h:am w r 181 #[aS,.map none,I6 0])(a:o r=x):ek 0 o w r x:=⟨a,.inl ⟨_,_,_,_,rfl,h,cZ.nil _ _ _,.inl rfl⟩⟩
def E3(n:Nat)(o:Ow)(r:Nat)(x:Nat×Nat)(id:Int)(w:World):Prop:=∃(j:Int) (bb:Bool) (A:Option Addr) (c:Nat) (m:Value) (clk:Int),
 w.cell? ⟨r,0,none⟩=some (.slice A n c)/\w.cell? ⟨r,1,none⟩=some m/\w.cell? ⟨r,2,none⟩=some (I6 clk)/\(∀j,w.frozen? ⟨r,j,none⟩=false)/\
 (Instr.lookup 179 m (I6 id) true).run prog w=.ok (.tuple #[I6 j,.bool bb]) w/\
 Cs 211 #[Pt r,I6 id] w fun e w'=>Rt e (.bool bb)/\ek (if bb then n - 1 else n) o w' r x/\St (·=x) o w o w'
theorem k7(n:Nat) o(r:Nat) x(id:Int) w(h:ek n o w r x)(hf:aX o w)(hn:n<=4097):E3 n o r x id w:=by
 obtain⟨H,y⟩:=gB h hf;rcases h with⟨O,⟨A,c,m,clk,R,i,C,B⟩|⟨g,cap,b,clk,l,q,i,C,B,X,S,D⟩⟩
 ·subst R;obtain⟨k,p,s⟩:=am.three i;have u:=aH i;rcases B with rfl|⟨b,q,rfl,hb,hm,hq⟩
  ·have f:=(mT (P:=prog) (t:=179) (kt:=3) (et:=3) (by kernel_rfl) (by kernel_rfl) w (z:=I6 0) (by kernel_rfl) id).1;refine⟨0,false,A,c,_,clk,k,p,s,fun j=>am.frozen u j,f,?_⟩;apply cI;go_in;go_wp2;go_ret;exact⟨rfl,H,St.refl y⟩
  ·have f:=(hm.lookup (P:=prog) (t:=179) (kt:=3) (et:=3) (by kernel_rfl) (by kernel_rfl) (z:=I6 0) (by kernel_rfl) id).1;rw[hq id]at f;refine⟨0,false,A,c,_,clk,k,p,s,fun j=>am.frozen u j,f,?_⟩;apply cI;go_in;go_wp2;go_ret;exact⟨rfl,H,St.refl y⟩
 ·subst S;obtain⟨k,p,s⟩:=am.three i.box;have u:=aH i.box;have f:=(i.map.lookup (P:=prog) (t:=179) (kt:=3) (et:=3) (by kernel_rfl) (by kernel_rfl) (z:=I6 0) (by kernel_rfl) id).1;cases hg:bE q id with
  |none=>
   rw[hg]at f;refine⟨0,false,_,_,_,clk,k,p,s,fun j=>am.frozen u j,f,?_⟩;apply cI;go_in;go_wp2;go_ret;exact⟨rfl,H,St.refl y⟩
  |some v=>
   obtain⟨j,rfl,Y,_⟩:=D _ _ hg;rw[hg]at f;refine⟨j,true,_,_,_,clk,k,p,s,fun j=>am.frozen u j,f,?_⟩;obtain⟨T,F,G,I⟩:=gD (k6 r g cap b j (l.length - 1) clk l q w i (by omega) (by omega) (by omega) D) C B O;apply cI;go_in;go_wp2_with fail;refine T.mono ?_;rintro Z w2 ⟨⟨a,rfl⟩,l2,q2,J,L,M,N⟩;obtain⟨U,V⟩:=gB (M.close I F G J L) (WS.st N y I F G);go_wp2;go_ret;exact⟨rfl,U,V⟩
def GU(n:Nat)(o:Ow)(w:World)(r:Nat)(x:Nat×Nat)(A:Option Addr)(c:Nat)(b:Nat)(clk:Int):Prop:=o r=x/\o b=x/\am w r 181 #[.slice A n c,.map (some b),I6 clk]/\∃l q,l.length=n/\cZ dM o x w (.slice A n c) l/\b4 w b q/\dE l q
theorem ek.forms{o}{w}{x}(h:ek n o w r x):
  (∃A c clk,n=0/\o r=x/\am w r 181 #[.slice A 0 c,.map none,I6 clk]/\cZ dM o x w (.slice A 0 c) [])\/∃A c b clk,GU n o w r x A c b clk:=by
 rcases h with⟨i,⟨A,c,m,clk,p,a,f,j⟩|⟨g,cap,b,clk,l,q,a,f,j,u,s,t⟩⟩
 ·rcases j with rfl|⟨b,q,rfl,hb,hm,hq⟩
  ·exact .inl ⟨A,c,clk,p,i,a,f⟩
  ·subst p;exact .inr ⟨A,c,b,clk,i,hb,a,[],q,rfl,f,hm,fun k v hk=>by rw[hq k]at hk;cases hk⟩
 ·subst s;exact .inr ⟨_,cap,b,clk,i,j,a.box,l,q,rfl,⟨a.own,fun k e=>by simp[Value.ownBlock]at e;subst e;exact f⟩,a.map,t⟩
theorem sc{o}{x}{clk:Int}{A}{l:List Al}{q}(a:Al)(H:o r=x)(I:o b=x)(f:am w2 r 181 #[.slice A l.length c,.map (some b),I6 clk])(m:cZ dM o x w2 (.slice A l.length c) l)(s:b4 w2 b q)(J:dE l q)(hf:aX o w2)
  (n:aK dM 0 w6 v' (l++[a])) (y:w2.grownBy w6 (Value.slice A l.length c).ownBlock) (i:v'.ownBlock=(Value.slice A l.length c).ownBlock\/v'.ownBlock=some (w2.heap.size+1)):
  ∃g cap o',v'=.slice (some ⟨g,0,none⟩) (l.length+1) cap/\am w6 r 181 #[.slice A l.length c,.map (some b),I6 clk]/\
   io (w6.setCell ⟨r,0,none⟩ (.slice (some ⟨g,0,none⟩) (l.length+1) cap)) r g cap b clk (l++[a]) q/\mS (l++[a]) q a l.length/\o' r=x/\o' g=x/\o' b=x/\St (·=x) o w2 o' (w6.setCell ⟨r,0,none⟩ (.slice (some ⟨g,0,none⟩) (l.length+1) cap)):=by
 obtain⟨g,cap,sp,rfl,_⟩:=n.af (by simp);have h:(l++[a]).length=l.length+1:=by simp
 rw[h]at n i ⊢;have t:=f.grown y (m.1.ne f (by decide));have B:=s.kept (y.block b s.lt (m.1.ak s));obtain⟨o',L,u⟩:=m.app (p:=(·=x)) hf rfl n y (by
  rcases i with i|i
  ·exact .inl i
  ·exact .inr ⟨_,i,by omega⟩)
 have C:=ap f;have D:=s.lt;have F:o' r=x:=by rw[u.old r C];exact H
 have M:o' b=x:=by rw[u.old b D];exact I
 have G:=n.ne t (by decide);refine⟨g,cap,o',rfl,t,⟨by rw[h];exact am.I t 0 _,by rw[h];exact n.keep (aB _ _ _ _) (fun k e z=>G (z.trans e.symm)),B.only (aB _ _ _ _) (B.ne t)⟩,?_,F,L.2 g rfl,M,u.trans (St.U (aB _ _ _ _) F u.far)⟩;intro k v N;obtain⟨j,rfl,O,z⟩:=J k v N;exact⟨j,rfl,by simp;omega,.inr ⟨by omega,by rw[List.getElem_append_left O];exact z⟩⟩
theorem BO(n:Nat) o(r:Nat) x(at_ id:Int) w(h:ek n o w r x)(hf:aX o w)(hn:n<=4096):
  Cs 358 #[Pt r,I6 at_,I6 id] w fun e w'=>(∃c,Rt e (I6 c))/\∃n' o',n'<=4096/\ek n' o' w' r x/\St (·=x) o w o' w':=by
 obtain⟨H,HF⟩:=gB h hf;obtain⟨j,bb,A,c,m,clk,X,Y,Z,yf,hD,f⟩:=k7 n o r x id w h hf (by omega);have hu:=aH f;have hN:=h.lt;clear h hf f;by_cases ht:at_ < 0\/1125899906842624 < at_
 ·have h3:∃b1 N,decide (at_ < 0)=b1/\decide (1125899906842624 < at_)=N/\(b1||N)=true:=⟨_,_,rfl,rfl,by simpa using ht⟩;obtain⟨b1,N,e1,e2,e3⟩:=h3;clear ht;cases b1<;>cases N<;>first|(cases e3;done)|skip;all_goals
   apply cI;go_in;go_wp2;go_ret;exact⟨⟨_,rfl⟩,n,o,hn,H,St.refl HF⟩
 ·have e1:decide (at_ < 0)=false:=by simp;omega
  have e2:decide (1125899906842624 < at_)=false:=by simp;omega
  clear ht;by_cases hfull:bb=false/\4096<=n
  ·obtain⟨rfl,hc⟩:=hfull;have e3:decide ((4096:Int)<=(n:Int))=true:=by simp;omega
   apply cI;go_in;go_wp2;go_ret;exact⟨⟨_,rfl⟩,n,o,hn,H,St.refl HF⟩
  ·have e3:bb=false->decide ((4096:Int)<=(n:Int))=false:=fun h=>by have:¬(4096<=n):=fun C=>hfull ⟨h,C⟩;simp;omega
   have hE:(if bb then n - 1 else n)<=4095:=by
    cases bb with
    |true=>simp only[if_true];omega
    |false=>
     have:¬(4096<=n):=fun h=>hfull ⟨rfl,h⟩;simp only[jG,if_false];omega
   obtain⟨n2,hc⟩:=nx (if bb then n - 1 else n);rw[hc]at hu hE;clear hc hfull;apply cI;go_in;cases bb;all_goals
    first|(have e4:=e3 rfl;clear e3)|clear e3
    go_wp2_with fail;refine hu.mono ?_;rintro _e w2 ⟨rfl,hd,hh⟩;obtain⟨hw,hx⟩:=gB hh hh.far;clear X Y Z yf hD hh;rcases hd.forms with⟨A,c,clk,h0,i,M,C⟩|⟨A,c,b,clk,hM⟩
    ·subst h0;obtain⟨X,Y,Z⟩:=am.three M;have hy:=fun w=>fO (P:=prog) (t:=179) (k:=3) (e:=3) none (by kernel_rfl) w;have hF:=fun W=>cC 179 W;have hG:=fun j=>am.frozen M j;have hK:=ap M;have hC:∃Wq,w2.setCell ⟨r,1,none⟩ (.map (some w2.heap.size))=Wq:=⟨_,rfl⟩;have N:=am.I M 1 (.map (some w2.heap.size));have hz:(w2.setCell ⟨r,1,none⟩ (.map (some w2.heap.size))).heap.size=w2.heap.size:=by simp
     have o2:cZ dM o x (w2.setCell ⟨r,1,none⟩ (.map (some w2.heap.size))) (.slice A 0 c) []:=⟨aK.keep (E:=dM) C.1 (aB _ _ _ _) (fun k e he=>C.1.ne M (by decide) (he.trans e.symm)),C.2⟩;have s2:St (·=x) o w2 o (w2.setCell ⟨r,1,none⟩ (.map (some w2.heap.size))):=St.U (aB _ _ _ _) i hx;have m3:=b4.new (w2.setCell ⟨r,1,none⟩ (.map (some w2.heap.size)));rw[hz]at m3;obtain⟨Wq,hj⟩:=hC;rw[hj]at N hz o2 s2 m3;have hH:=aH hj;clear hj;have ha:=ba Wq (.map #[] 0);have b3:=am.below N ha;have o3:=cZ.below o2 ha;have s3:St (·=x) o w2 (b7 o w2.heap.size x) (Wq.alloc (.map #[] 0)):=(St.below s2 ha).tag nR (by simp[hz]) (.inr rfl);obtain⟨W3,hA⟩:=nM (Wq.alloc (.map #[] 0));have o4:cZ dM (b7 o w2.heap.size x) x (Wq.alloc (.map #[] 0)) (.slice A 0 c) []:=⟨o3.1,fun k e=>by rw[bT (by have h4:=C.lt k e;omega)];exact o3.2 k e⟩;rw[hA.out]at b3 m3 s3 o4;have hM:GU 0 (b7 o w2.heap.size x) W3 r x A c w2.heap.size clk:=⟨by rw[bT (by omega)];exact i,a8 _ _ _,b3,[],[],rfl,o4,m3,fun k v hk=>by cases hk⟩;obtain⟨hI,hJ⟩:=gB (hw.trans s3) s3.far;clear hd M C ha N b3 m3 o2 o3 s2 s3 o4 hz;go_upto_region 11 with(fail);simp only[hH.out,hA.out];clear X Y Z hF hG hy;obtain⟨n0,hB,hL⟩:∃n0,0=n0/\n0<=4095:=⟨0,rfl,by omega⟩;rw[hB]at hM;clear hB;obtain⟨X,Y,Z⟩:=am.three hM.2.2.1;obtain⟨i,s,D,l,q,hl,F,hm,hp⟩:=hM;subst hl;have M0:=aH (fun w6 v' M C h3=>sc (w6:=w6) (v':=v') ⟨at_,id⟩ i s D F hm hp hJ M C h3)
     have ho:(l.length+1)*dM.bytes<=140737488355328:=by show(l.length+1)*16<=_;omega
     have hq:l.length < 1000000000000000000:=by omega
     have G:=F.1;clear i s D F hm hp;go_wp2_with (at_builtin;refine gY dM rfl (.tmp 54) (.tmp 58) rfl G (zS _) ⟨at_,id⟩ rfl rfl ho hq ?_;intro v' w6 B u p;obtain⟨g,cap,o',hs,I,a,y,i,J,s,f⟩:=M0 w6 v' B u p;subst hs;have M9:=aH (zB a (zB y (zB i (zB J (zB s f)))));obtain⟨s0,s1,s2⟩:=am.three I;have sf:=fun j=>am.frozen I j;clear B u p I a y i J s f X Y Z M0 G);obtain⟨a,y,i,J,s,f⟩:=M9.out;have z:(l++[(⟨at_,id⟩:Al)]).length=l.length+1:=by simp
     have L:=qq r g cap w2.heap.size l.length clk (l++[⟨at_,id⟩]) q _ a (by simp) (by simp;omega) (by simpa using y);rw[z]at L;obtain⟨O,K1,K2,K3,K4⟩:=gE L i J s f;obtain⟨W7,R⟩:=nM (w6.setCell ⟨r,0,none⟩ (.slice (some ⟨g,0,none⟩) (l.length+1) cap));rw[R.out]at O K4 a;obtain⟨z0,z1,z2⟩:=am.three a.box;rw[z]at z0;clear a y i J s f z L M9;simp only[R.out];refine O.mono ?_;rintro _e w8 ⟨rfl,L8,Q8,S,T,U,V⟩;obtain⟨F1,F2⟩:=gB (U.close K1 K2 K3 S T) (hI.trans (K4.trans (WS.st V K4.far K1 K2 K3)));clear T U V S z0 z1 z2 s0 s1 s2 sf;go_wp2;go_ret;exact⟨⟨_,rfl⟩,l.length+1,o',by omega,F1,F2⟩
    ·clear hd;obtain⟨X,Y,Z⟩:=am.three hM.2.2.1;have hy:=fun w=>fO (P:=prog) (t:=179) (k:=3) (e:=3) (some b) (by kernel_rfl) w;obtain⟨i,s,D,l,q,hl,F,hm,hp⟩:=hM;subst hl;have M0:=aH (fun w6 v' M C h3=>sc (w6:=w6) (v':=v') ⟨at_,id⟩ i s D F hm hp hx M C h3);have ho:(l.length+1)*dM.bytes<=140737488355328:=by show(l.length+1)*16<=_;omega
     have hq:l.length < 1000000000000000000:=by omega
     have G:=F.1;clear i s D F hm hp;go_wp2_with (at_builtin;refine gY dM rfl (.tmp 54) (.tmp 58) rfl G (zS _) ⟨at_,id⟩ rfl rfl ho hq ?_;intro v' w6 B u p;obtain⟨g,cap,o',hs,I,a,y,i,J,s,f⟩:=M0 w6 v' B u p;subst hs;have M9:=aH (zB a (zB y (zB i (zB J (zB s f)))));obtain⟨s0,s1,s2⟩:=am.three I;have sf:=fun j=>am.frozen I j;clear B u p I a y i J s f X Y Z M0 G);obtain⟨a,y,i,J,s,f⟩:=M9.out;have z:(l++[(⟨at_,id⟩:Al)]).length=l.length+1:=by simp
     have L:=qq r g cap b l.length clk (l++[⟨at_,id⟩]) q _ a (by simp) (by simp;omega) (by simpa using y);rw[z]at L;obtain⟨O,K1,K2,K3,K4⟩:=gE L i J s f;obtain⟨W7,R⟩:=nM (w6.setCell ⟨r,0,none⟩ (.slice (some ⟨g,0,none⟩) (l.length+1) cap));rw[R.out]at O K4 a;obtain⟨z0,z1,z2⟩:=am.three a.box;rw[z]at z0;clear a y i J s f z L M9;simp only[R.out];refine O.mono ?_;rintro _e w8 ⟨rfl,L8,Q8,S,T,U,V⟩;obtain⟨F1,F2⟩:=gB (U.close K1 K2 K3 S T) (hw.trans (K4.trans (WS.st V K4.far K1 K2 K3)));clear T U V S z0 z1 z2 s0 s1 s2 sf;go_wp2;go_ret;exact⟨⟨_,rfl⟩,l.length+1,o',by omega,F1,F2⟩
theorem St.grown2{p}{o o'}{row}(h:St p o w o' wr)(a:wr.grownBy w6 row)(c:∀k,row=some k->w.heap.size<=k):St p o w o' w6:=
 ⟨a.os.trans h.os,a.tape.trans h.tape,a.output.trans h.output,zD h.size a.size,h.old,h.far.below a.size,h.new,fun b hb hp=>(a.block b (zT hb h.size) (fun e=>by have:=c b e.symm;omega)).trans (h.block b hb hp)⟩
theorem ek.clk{o}{x}(h:ek n o w r x)(z:Int):ek n o (w.setCell ⟨r,2,none⟩ (I6 z)) r x:=by
 rcases h with⟨j,⟨A,c,m,clk,p,a,f,i⟩|⟨g,cap,b,clk,l,q,a,f,i,s,t,u⟩⟩
 ·refine⟨j,.inl ⟨A,c,m,z,p,am.I a 2 _,⟨aK.keep (E:=dM) f.1 (aB _ _ _ _) (fun k e he=>f.1.ne a (by decide) (he.trans e.symm)),f.2⟩,?_⟩⟩;rcases i with i|⟨b,q,e,hb,hm,hq⟩
  ·exact .inl i
  ·exact .inr ⟨b,q,e,hb,hm.only (aB _ _ _ _) (hm.ne a),hq⟩
 ·exact⟨j,.inr ⟨g,cap,b,z,l,q,⟨am.I a.box 2 _,a.own.keep (aB _ _ _ _) (fun k e he=>a.own.ne a.box (by decide) (he.trans e.symm)),a.map.only (aB _ _ _ _) a.rb⟩,f,i,s,t,u⟩⟩
def oS(n:Nat)(o:Ow)(r:Nat)(x:Nat×Nat)(w:World)(v:Value)(wr:World)(n':Nat):Prop:=∃done:List Al,ek n' o wr r x/\aK dM w.heap.size wr v done/\n'+done.length<=n/\St (·=x) o w o wr
theorem oS.take{o}{x}{v}(h:oS n o r x w v wr c)(hf:aX o w)(i:x≠(0,0))(p:ek n2 o w2 r x)(f:St (·=x) o wr o w2)(q:n2+1=c):∃done:List Al,aK dM w.heap.size w2 v done/\n2+done.length+1<=n/\St (·=x) o w o w2/\w.heap.size<=w2.heap.size:=by
 obtain⟨done,s,j,t,k⟩:=h;have a:=k.trans f;refine⟨done,?_,by omega,a,a.size⟩;rcases j with⟨m,b⟩;refine⟨m,?_⟩;rcases b with b|⟨g,cap,cur,rfl,hb,hl,hrest⟩
 ·exact .inl b
 ·exact .inr ⟨g,cap,cur,rfl,hb,(f.block g (ap hl) (by rw[hf g hb];exact fun e=>i e.symm)).trans hl,hrest⟩
theorem oS.app{o}{x}{done:List Al}{a:Al}(g:aK dM w.heap.size w2 v done)(hf:aX o w)(h:x≠(0,0))(i:ek n2 o w2 r x)(b:St (·=x) o w o w2)(m:n2+done.length+1<=n)
  (j:aK dM w.heap.size w6 v' (done++[a])) (c:w2.grownBy w6 v.ownBlock):oS n o r x w v' w6 n2:=by
 have f:∀k,v.ownBlock=some k->w.heap.size<=k:=fun k e=>(g.lt k e).1;refine⟨_,i.st (p:=(·=(0,0))) (St.da c (fun k e=>.inr (hf k (f k e))) b.far) (fun e=>h e),j,by simp;omega,b.grown2 c f⟩
theorem BP(n:Nat) o(r:Nat) x(now:Int)(w:World)(h:ek n o w r x)(hf:aX o w)(hx:x≠(0,0))(hn:n<=4096):
  Cs 57 #[Pt r,I6 now] w fun e w'=>∃v l n',Rt e v/\aK dM w.heap.size w' v l/\l.length<=n/\n'<=n/\ek n' o w' r x/\St (·=x) o w o w':=by
 obtain⟨j,bb,A,c,m,clk,S,y1,y2,yf,_,_⟩:=k7 n o r x 0 w h hf (by omega);have HF:=aH hf;by_cases ht:now<=1125899906842624
 ·have e1:decide (now<=1125899906842624)=true:=by simpa using ht
  obtain⟨W1,hw⟩:=nM (w.setCell ⟨r,2,none⟩ (I6 (max clk now)));obtain⟨H1,R⟩:=gB (h.clk (max clk now)) (St.U (p:=(·=x)) (aB w r 2 (I6 (max clk now))) h.1 hf);rw[hw]at H1 R;apply cI;go_in;go_upto_region 5 with(fail);simp only[hw.out];go_wp2;go_loopw[5] (fun v wr=>∃n',oS n o r x w v wr n') (fun _ wr=>match wr.cell? ⟨r,0,none⟩with|some (.slice _ k _)=>k|_=>0)
  case atStart=>exact⟨n,[],H1,aK.nil _ _,by simp,R⟩
  case round=>
   obtain⟨n1,hd⟩:=hrel;have HD:=aH hd;obtain⟨done,F,s,T,t⟩:=hd;obtain⟨U,u,y⟩:=gC s t F;obtain⟨Ad,cd,rfl,_⟩:=(aK.rw (E:=dM) s).slice;rcases F with⟨V,⟨A,c,m,clk,h0,B,L,M⟩|⟨g,cap,b,clk,l,q,B,L,M,h4,h5,h6⟩⟩
   ·have S:=am.cell B 0;have C:done.length<=n:=by omega
    go_wp2;go_quiet (fail);go_wp2;go_ret;exact⟨_,done,n1,rfl,aI U (below_drewN (bR _) _),C,by omega,y.st (p:=fun _=>False) (St.J (below_drewN (bR _) _) u.far) id,u.below (below_drewN (bR _) _)⟩
   ·obtain⟨S,y1,y2⟩:=am.three B.box;obtain⟨a,ha⟩:=nx (l[0]);obtain⟨p0,p1⟩:=B.at_ (i:=0) (a:=a) (by rw[zA h4,ha]);simp only[yG,zR]at p0 p1;subst h5;have d0:decide ((0:Int) < (l.length:Int))=true:=by simp;omega
    have hy:(0:Int) < (l.length:Int):=by omega
    have X:Hid (∀W,Bw wr W->Cs 112 #[Pt r,I6 0] W fun e w2=>∃a2:Al,Rt e (.agg #[I6 a2.at_,I6 a2.id])/\(∃g c m z,am w2 r 181 #[.slice (some ⟨g,0,none⟩) (l.length - 1) c,m,z])/\ek (l.length - 1) o w2 r x/\∃dn:List Al,dn.length=done.length/\aK dM w.heap.size w2 (.slice Ad done.length cd) dn/\l.length - 1+dn.length+1<=n/\St (·=x) o w o w2/\w.heap.size<=w2.heap.size):=aH fun W hb=>by
     refine(k6 r g cap b 0 (l.length - 1) clk l q W (B.below hb) (by omega) (by omega) (by omega) h6).mono ?_;rintro e w2 ⟨⟨a2,rfl⟩,l2,q2,G,Y,H,Z⟩;have I:=H.close V L M G Y;have hc:St (·=x) o wr o w2:=(St.J hb t.far).trans (WS.st Z (t.far.below hb.size) V L M);obtain⟨dn,k1,k2,k3,k4⟩:=oS.take ⟨done,y,s,T,t⟩ HF hx I hc (by omega);exact⟨a2,rfl,⟨g,cap,_,_,G▸H.box⟩,I,dn,by obtain⟨_,_,N,_⟩:=bV k1;injection N with _ N _;exact N.symm,k1,k2,k3,k4⟩
    have C:done.length<=n:=by omega
    have hg:Hid ((match wr.cell? ⟨r,0,none⟩with|some (.slice _ k _)=>k|_=>0)=l.length):=aH (by rw[S]);obtain⟨bb,hz⟩:=nx (decide (a.at_<=clk));cases bb
    ·go_wp2;go_quiet (fail);go_wp2;go_ret;exact⟨_,done,l.length,rfl,aI U (below_drewN (bR _) _),C,by omega,y.st (p:=fun _=>False) (St.J (below_drewN (bR _) _) u.far) id,u.below (below_drewN (bR _) _)⟩
    ·go_wp2;go_quiet (fail);go_wp2_with fail;refine(X _ (below_drewN (bR _) _)).mono ?_;rintro _e w2 ⟨a2,rfl,⟨g2,c2,m2,z2,hh⟩,O,dn,hj,J,hk,hl,hm⟩;obtain⟨K1,K2,K3,K4,K5,K6⟩:=gF O J hk hl hh hj;have ho:(dn.length+1)*dM.bytes<=140737488355328:=by show(dn.length+1)*16<=_;omega
     have hp:dn.length < 1000000000000000000:=by omega
     go_wp2_with (at_builtin;refine b5 dM rfl (.tmp 39) (.tmp 42) rfl J hm a2 rfl rfl ho hp ?_;intro v' w6 D f);have hq:=aH (oS.app (a:=a2) K2 HF hx K1 K4 K3 D f);have hs:=am.cell (am.grown K5 f (K2.ne K5 (by decide))) 0;have hu:=aH hs;go_wp2;go_roundw
     case rel=>exact⟨l.length - 1,hq⟩
     case measure=>
      rw[hg];have:=hu;simp only[zL,zM]at this;rw[this];show l.length - 1 < l.length;omega
 ·have e1:decide (now<=1125899906842624)=false:=by simpa using ht
  obtain⟨H1,R⟩:=gB h (St.refl (p:=(·=x)) hf);apply cI;go_in;go_upto_region 5 with(fail);go_wp2;go_loopw[5] (fun v wr=>∃n',oS n o r x w v wr n') (fun _ wr=>match wr.cell? ⟨r,0,none⟩with|some (.slice _ k _)=>k|_=>0)
  case atStart=>exact⟨n,[],H1,aK.nil _ _,by simp,R⟩
  case round=>
   obtain⟨n1,hd⟩:=hrel;have HD:=aH hd;obtain⟨done,F,s,T,t⟩:=hd;obtain⟨U,u,y⟩:=gC s t F;obtain⟨Ad,cd,rfl,_⟩:=(aK.rw (E:=dM) s).slice;rcases F with⟨V,⟨A,c,m,clk,h0,B,L,M⟩|⟨g,cap,b,clk,l,q,B,L,M,h4,h5,h6⟩⟩
   ·have S:=am.cell B 0;have C:done.length<=n:=by omega
    go_wp2;go_quiet (fail);go_wp2;go_ret;exact⟨_,done,n1,rfl,aI U (below_drewN (bR _) _),C,by omega,y.st (p:=fun _=>False) (St.J (below_drewN (bR _) _) u.far) id,u.below (below_drewN (bR _) _)⟩
   ·obtain⟨S,y1,y2⟩:=am.three B.box;obtain⟨a,ha⟩:=nx (l[0]);obtain⟨p0,p1⟩:=B.at_ (i:=0) (a:=a) (by rw[zA h4,ha]);simp only[yG,zR]at p0 p1;subst h5;have d0:decide ((0:Int) < (l.length:Int))=true:=by simp;omega
    have hy:(0:Int) < (l.length:Int):=by omega
    have X:Hid (∀W,Bw wr W->Cs 112 #[Pt r,I6 0] W fun e w2=>∃a2:Al,Rt e (.agg #[I6 a2.at_,I6 a2.id])/\(∃g c m z,am w2 r 181 #[.slice (some ⟨g,0,none⟩) (l.length - 1) c,m,z])/\ek (l.length - 1) o w2 r x/\∃dn:List Al,dn.length=done.length/\aK dM w.heap.size w2 (.slice Ad done.length cd) dn/\l.length - 1+dn.length+1<=n/\St (·=x) o w o w2/\w.heap.size<=w2.heap.size):=aH fun W hb=>by
     refine(k6 r g cap b 0 (l.length - 1) clk l q W (B.below hb) (by omega) (by omega) (by omega) h6).mono ?_;rintro e w2 ⟨⟨a2,rfl⟩,l2,q2,G,Y,H,Z⟩;have I:=H.close V L M G Y;have hc:St (·=x) o wr o w2:=(St.J hb t.far).trans (WS.st Z (t.far.below hb.size) V L M);obtain⟨dn,k1,k2,k3,k4⟩:=oS.take ⟨done,y,s,T,t⟩ HF hx I hc (by omega);exact⟨a2,rfl,⟨g,cap,_,_,G▸H.box⟩,I,dn,by obtain⟨_,_,N,_⟩:=bV k1;injection N with _ N _;exact N.symm,k1,k2,k3,k4⟩
    have C:done.length<=n:=by omega
    have hg:Hid ((match wr.cell? ⟨r,0,none⟩with|some (.slice _ k _)=>k|_=>0)=l.length):=aH (by rw[S]);obtain⟨bb,hz⟩:=nx (decide (a.at_<=clk));cases bb
    ·go_wp2;go_quiet (fail);go_wp2;go_ret;exact⟨_,done,l.length,rfl,aI U (below_drewN (bR _) _),C,by omega,y.st (p:=fun _=>False) (St.J (below_drewN (bR _) _) u.far) id,u.below (below_drewN (bR _) _)⟩
    ·go_wp2;go_quiet (fail);go_wp2_with fail;refine(X _ (below_drewN (bR _) _)).mono ?_;rintro _e w2 ⟨a2,rfl,⟨g2,c2,m2,z2,hh⟩,O,dn,hj,J,hk,hl,hm⟩;obtain⟨K1,K2,K3,K4,K5,K6⟩:=gF O J hk hl hh hj;have ho:(dn.length+1)*dM.bytes<=140737488355328:=by show(dn.length+1)*16<=_;omega
     have hp:dn.length < 1000000000000000000:=by omega
     go_wp2_with (at_builtin;refine b5 dM rfl (.tmp 39) (.tmp 42) rfl J hm a2 rfl rfl ho hp ?_;intro v' w6 D f);have hq:=aH (oS.app (a:=a2) K2 HF hx K1 K4 K3 D f);have hs:=am.cell (am.grown K5 f (K2.ne K5 (by decide))) 0;have hu:=aH hs;go_wp2;go_roundw
     case rel=>exact⟨l.length - 1,hq⟩
     case measure=>
      rw[hg];have:=hu;simp only[zL,zM]at this;rw[this];show l.length - 1 < l.length;omega
theorem pk(t:bC)(w:World):Cs 386 #[.agg #[I6 t.nd,I6 t.n]] w fun e w'=>Rt e (.bool (!aO t))/\Below w.heap.size w w':=by
 obtain⟨W0,c,a,b⟩:=dW w #[I6 t.nd,I6 t.n] 42;have f:=am.cell b 0;have g:=am.cell b 1;simp only[zL,zM,zP]at f g;have h:=aH (fun W=>cG t W);apply cI;go_in;go_wp2_with fail;simp only[c.out];go_wp2_with fail;refine(h _).mono ?_;rintro j w1 ⟨rfl,i⟩;go_wp2_with fail;go_ret;exact⟨rfl,a.trans (i.mono a.size)⟩
theorem y6{va va2 vd vd2}{a b:List bC}(w:World)(m:Rw aJ w va f)(n:Rw aJ w va2 a)(p:Rw aJ w vd ld)(q:Rw aJ w vd2 b)(G:f.length+a.length+(ld.length+b.length)<=100000000):
  Cs 205 #[.agg #[va,va2],.agg #[vd,vd2]] w fun e w'=>Rt e (.bool (e3 bU f ld&&e3 bU a b))/\Below w.heap.size w w':=by
 obtain⟨W0,s,g,i,j⟩:=rt w #[va,va2] #[vd,vd2] 129 129;obtain⟨t,u,x,y⟩:=gD (m.below g) (n.below g) (p.below g) (q.below g);have a0:=am.cell i 0;have a1:=am.cell i 1;have z:=am.cell j 0;have k:=am.cell j 1;simp only[zL,zM,zP]at a0 a1 z k;apply cI;go_in;go_wp2_with fail;simp only[s.out];go_wp2_with fail;refine(kq _ t x (by omega) (by omega)).mono ?_;rintro A w1 ⟨rfl,c⟩;have D:=aD c a1;have F:=aD c k;obtain⟨h,B,C⟩:=gC (g.trans (c.mono g.size)) (u.below c) (y.below c);cases he:e3 bU f ld
 ·go_wp2_with fail;go_ret;rw[show(e3 bU f ld&&e3 bU a b)=false by rw[he];rfl];exact⟨rfl,h⟩
 ·go_wp2_with fail;refine(kq _ B C (by omega) (by omega)).mono ?_;rintro A w2 ⟨rfl,c⟩;go_wp2_with fail;go_ret;rw[show(e3 bU f ld&&e3 bU a b)=e3 bU a b by rw[he];rfl];exact⟨rfl,h.trans (c.mono h.size)⟩
theorem po{vl vm va va2 vd vd2}{l:List Mg}{g:List bC}(w:World)(p:Rw aU w vl l)(q:Rw aU w vm m)(s:Rw aJ w va i)(t:Rw aJ w va2 f)(u:Rw aJ w vd ld)(x:Rw aJ w vd2 g)(y:i.length+f.length+(ld.length+g.length)<=100000000)(R:l.length+m.length<=100000000):
  Cs 108 #[.agg #[vl,va,va2],.agg #[vm,vd,vd2]] w fun e w'=>∃b,Rt e (.bool b)/\Below w.heap.size w w':=by
 obtain⟨W0,z,a,j,k⟩:=rt w #[vl,va,va2] #[vm,vd,vd2] 131 131;obtain⟨A,B,C,D,F,G⟩:=gF (s.below a) (t.below a) (u.below a) (x.below a) (p.below a) (q.below a);have a0:=am.cell j 0;have a1:=am.cell j 1;have a2:=am.cell j 2;have n:=am.cell k 0;have H:=am.cell k 1;have I:=am.cell k 2;simp only[zL,zM,zP]at a0 a1 a2 n H I;apply cI;go_in;go_wp2_with fail;simp only[z.out];go_wp2_with fail;refine(y6 _ A B C D y).mono ?_;generalize(e3 bU i ld&&e3 bU f g)=bo;rintro J w1 ⟨rfl,c⟩;have N:=aD c a0;have O:=aD c n;obtain⟨h,L,M⟩:=gC (a.trans (c.mono a.size)) (F.below c) (G.below c);cases bo
 ·go_wp2_with fail;go_ret;exact⟨_,rfl,h⟩
 ·go_wp2_with fail;refine(qe _ L M (by omega) (by omega)).mono ?_;rintro J w2 ⟨rfl,c⟩;go_wp2_with fail;go_ret;exact⟨_,rfl,h.trans (c.mono h.size)⟩
theorem BQ{i:Value}{b c:List bC}(a:am w4 g 129 #[i,c1])(u:w.heap.size<=g)(j:Below w.heap.size w w4)(f:w.heap.size<=base)(m:aK aJ base w4 v4 b)(p:aK aJ base w4 v5 c)
  (h:∀k,v4.ownBlock=some k->v5.ownBlock≠some k) (q:b.length+c.length<=n) (s:∀d∈b,aO d=true) (t:∀d∈c,aO d=true):
  am ((w4.setCell ⟨g,0,none⟩ v4).setCell ⟨g,1,none⟩ v5) g 129 #[v4,v5]/\E2 w n (.returned (.agg #[v4,v5])) ((w4.setCell ⟨g,0,none⟩ v4).setCell ⟨g,1,none⟩ v5):=
 ⟨(a.I 0 _).I 1 _,v4,v5,b,c,rfl,
  bK (bK (dJ m f) (aB _ _ 0 v4) a (by decide)) (aB _ _ 1 v5) (a.I 0 _) (by decide),
  bK (bK (dJ p f) (aB _ _ 0 v4) a (by decide)) (aB _ _ 1 v5) (a.I 0 _) (by decide),
  h,q,s,t,(j.setCell (by simp;omega) _).setCell (by simp;omega) _⟩
theorem sd{vb vc vl}{b c l:List bC} w(h1:Rw aJ w vb b)(h2:Rw aJ w vc c)(h3:Rw aJ w vl l)(hl:b.length+c.length+l.length<=100000000)
  (o1:∀d∈b,aO d=true) (o2:∀d∈c,aO d=true):Calls Tryz.prog 347 #[.agg #[vb,vc],vl] w (E2 w (b.length+c.length+l.length)):=by
 obtain⟨G,c1,rfl,_⟩:=h1.slice;obtain⟨H,c2,rfl,_⟩:=h2.slice;obtain⟨A3,c3,rfl,_⟩:=h3.slice;obtain⟨W0,HW,p,I,y⟩:=rt w #[.slice G b.length c1,.slice H c.length c2] #[.slice none 0 0,.slice none 0 0] 129 129;have J:Rw aJ W0 _ b:=h1.below p;have L:Rw aJ W0 _ c:=h2.below p;have M:Rw aJ W0.drew _ l:=h3.below p.drew;have a0:=am.cell I 0;have a1:=am.cell I 1;have N:=am.cell y 0;have O:=am.cell y 1;have kf:=fun j=>am.frozen y j;simp only[zL,zM,zP]at a0 a1 N O;have z:l.length<=1000000000:=by omega
 have hT:∀w1:World,∀g,p9 aJ (fun t=>.agg #[.int .i64 t.nd,.int .i64 t.n]) w1 g 386 #[] fun t=>!aO t:=fun w1 g t W _=>pk t W;have HT:=aH hT;have HC:Hid (∀t W,Calls Tryz.prog 386 (#[(fun t:bC=>.agg #[.int .i64 t.nd,.int .i64 t.n]) t]++#[]) W fun e W'=>Rt e (.bool (!aO t))/\Below W.heap.size W W'):=aH fun t W=>pk t W;obtain⟨O1,O2⟩:=gB o1 o2;go_enter Tryz.func347,Tryz.ntmps347;go_wp2_with fail;simp only[HW.out];go_wp2_with fail;have A:Below W0.heap.size W0 W0.drew:=bD _;have q:=aH (aQ Tryz.func386 (by kernel_rfl) (by kernel_rfl));have HF:Hid (∀m m3:List bC,m.filter (fun t=>!(!aO t))=m3->∀x∈m3,aO x=true):=aH fun m m3 e x hx=>by subst e;simpa using(qV.1 hx).2
 have R:Hid (∀m m3:List bC,m.filter (fun t=>!(!aO t))=m3->m.length<=l.length->b.length+c.length+(([]:List bC).length+m3.length)<=100000000/\b.length+c.length+(([]:List bC).length+m3.length)<=b.length+c.length+l.length):=aH fun m m3 e hm=>by subst e;have:=qO (fun t=>!(!aO t)) m;simp only[qI];omega
 have hN:∀d,d∈([]:List bC)->aO d=true:=by simp
 have RN:∀W,Rw aJ W (.slice none 0 0) []:=fun W=>(aK.nil 0 _).rw;obtain⟨S,T⟩:=gB hN RN;go_region_held3 (fun w'=>w'.cell? ⟨w.heap.size,0,none⟩=some (.slice G b.length c1)/\w'.cell? ⟨w.heap.size,1,none⟩=some (.slice H c.length c2))
  (first|go_keep|refine⟨aD (by assumption) a0,aD (by assumption) a1⟩)
  (first
   |(go_at_call 376;(with_reducible refine(rZ _ M z).mono ?_);rintro U w2 ⟨m2,hd,f,v2,rfl,s,V⟩;have B:=A.trans (V.mono A.size);obtain⟨A5,c5,rfl,_⟩:=s.rw.slice)
   |(go_at_call 387;(with_reducible refine(rO 386 #[] (fun t=>!aO t) _ _ _ _ s (zD f z) q.out (fun t W _=>HC.out t W) (fun g _=>HT.out _ g)).mono ?_);rintro U w3 ⟨v3,rfl,u,X⟩;generalize hm3:m2.filter (fun t=>!(!aO t))=m3 at u;have h:=aH hm3;clear hm3;have a:=B.grown X B.size (fun k hk=>(s.lt k hk).1);obtain⟨A6,c6,rfl,_⟩:=u.rw.slice)
   |(go_at_call 336;(with_reducible refine(pj _ (J.below a) (L.below a) (T.out _) u.rw (R.out _ _ h.out f).1 O1.out O2.out S.out (HF.out _ _ h.out)).mono ?_);rintro U w4 ⟨v4,v5,l4,l5,rfl,D,F,Y,Z,ha,hb,hc⟩;have i:=a.trans (hc.mono a.size);have C:=y.below i;have he:=aD i N;have hf:=aD i O;have hg:=fun j=>am.frozen C j;obtain⟨A7,c7,rfl,_⟩:=D.rw.slice;obtain⟨A8,c8,rfl,_⟩:=F.rw.slice))
 have q:=BQ (w:=w) (n:=b.length+c.length+l.length) C (by omega) (p.trans (i.mono p.size)) (zD p.size a.size) D F Y (zD Z (R _ _ h f).2) ha hb;obtain⟨hR,q⟩:=q;obtain⟨HR,HE⟩:=gB hR q;go_wp2_with fail;have r0:=am.cell HR 0;have r1:=am.cell HR 1;simp only[zL,zM,zP]at r0 r1;refine bodyPost_ret (v:=.agg #[.slice A7 l4.length c7,.slice A8 l5.length c8]) (by simp[results,Tryz.results347,go_sem,r0,r1]) rfl ?_;exact HE
structure BJ(W0:World)(g:Nat)(wr:World)(vl vb vc:Value)(l:List Mg):Prop where
 box:am wr g 131 #[vl,vb,vc]
 ol:aK aU W0.heap.size wr vl l
 only:aW g W0 wr
 cs0:∃cs,am W0 g 131 cs
section
variable{W0:World}{vl vb vc:Value}{l:List Mg}
theorem BJ.below(h:BJ W0 g wr vl vb vc l)(a:Below wr.heap.size wr w'):BJ W0 g w' vl vb vc l:=⟨h.box.below a,aI h.ol a,aA h.only (aG a),h.cs0⟩
theorem BJ.row(h:BJ W0 g wr vl vb vc l)(a:wr.grownBy w' vl.ownBlock):am w' g 131 #[vl,vb,vc]:=h.box.grown a (h.ol.ne h.box (by decide))
theorem BJ.push(h:BJ W0 g wr vl vb vc l)(b:aK aU W0.heap.size w' v' m)(a:wr.grownBy w' vl.ownBlock):BJ W0 g (w'.setCell ⟨g,0,none⟩ v') v' vb vc m:=
 ⟨(h.row a).I 0 v',bK b (aB _ _ _ _) (h.row a) (by decide),aA (dx h.only a (fun k hk=>(h.ol.lt k hk).1)) (aB _ _ _ _),h.cs0⟩
theorem BJ.keep{v}(h:BJ W0 g wr vl vb vc l)(b:Rw E W0 v xs)(a:E.ty≠131):Rw E wr v xs:=b.only h.only h.cs0.choose_spec a
end
def G7(W0:World)(g:Nat)(vb vc:Value)(l:List Mg)(t:Mg)(e:Ending)(w':World):Prop:=∃v' l',Rt e (.tuple #[])/\BJ W0 g w' v' vb vc l'/\(l'=l\/l'=l++[t])
theorem ib W0(g:Nat) t wr{vl vb vc vd vd2}{l:List Mg}(hJ:BJ W0 g wr vl vb vc l)(h1:Rw aJ wr vd ld)(h2:Rw aJ wr vd2 ldc)(hl:ld.length<=100000000)(hl2:ldc.length<=100000000)(hl3:l.length<=1000000000):
  Cs 337 #[yq t,.agg #[vd,vd2],Pt g] wr (G7 W0 g vb vc l t):=by
 obtain⟨W1,A,p,q,x⟩:=rt wr #[I6 t.d.nd,I6 t.d.n,.string (aF t.q),.string (aF t.b),I6 t.c] #[vd,vd2] 44 129;have B:=aH (hJ.below p);obtain⟨A1,c1,rfl,_⟩:=hJ.ol.rw.slice;obtain⟨C,D⟩:=gB (h1.below p) (h2.below p);obtain⟨F,G,H,I,J⟩:=am.ab q;obtain⟨L,M⟩:=am.two x;have y:=aH (fun W (h:Rw aJ W vd ld) (h2:Rw aJ W vd2 ldc)=>iI W vd vd2 ld ldc t.d h h2 (by omega) (by omega));generalize my ld ldc t.d=bo at y;clear h1 h2 x hJ;apply cI;go_in;go_wp2_with fail;simp only[A.out];go_wp2_with fail;refine(y _ C D).mono ?_;rintro _e w2 ⟨rfl,s⟩;have a:=aH (B.below s);obtain⟨N,O,R⟩:=am.three a.box;have m:=q.below s;obtain⟨S,T,n2,U,V⟩:=am.ab m;have z:=a.only.size;clear s F G H I J L M q m;cases bo
 ·have c:=ba w2 (.cells #[I6 t.d.nd,I6 t.d.n,.string (aF t.q),.string (aF t.b),I6 t.c] 44);obtain⟨f,X⟩:=gB (a.below c) c;clear c;go_wp2_with (at_builtin;refine eP aU rfl (.tmp 11) (.tmp 13) rfl f.ol (zD z X.size) rfl rfl (dL aU w2 t) (by show(l.length+1)*56<=_;omega) (by show l.length+1 < _;omega) ?_);intro v5 w5 i k u;obtain⟨A5,c5,n,_⟩:=i.rw.slice;simp only[zC,zQ,qI,zR]at n;subst n;have Y:=aH (f.push i k);have b:=f.row k;obtain⟨Z,ha,hc⟩:=am.three b;have hd:=fun j=>am.frozen b j;have he:g < w5.heap.size:=b.lt;clear N O R S T n2 U V b i k u;go_wp2_with fail;go_end0;exact⟨_,_,rfl,Y,.inr rfl⟩
 ·go_wp2_with fail;go_end0;exact⟨_,_,rfl,a,.inl rfl⟩
theorem Rw.tl{W}{o:Nat}{x:α}(h:Rw E W (.slice (some ⟨g,o,none⟩) n c) (x::xs)):Rw E W (.slice (if c=1 then some ⟨g,o,none⟩else some ⟨g,o+E.s,none⟩) xs.length (c - 1)) xs:=by
 obtain⟨A,y,f,m,q,s⟩:=h;injection f with f h4 a;subst f;subst a;refine⟨_,_,rfl,by simp at m;omega,?_,fun hn=>?_⟩
 ·have a:(E.cells [x]).length=E.s:=by rw[E.aw,E.len]
  have i:=q;rw[show x::xs=[x]++xs from rfl,E.al,zC,a,zC,Nat.add_mul]at i;simp at i;exact i
 ·have a:(E.cells [x]).length=E.s:=by rw[E.aw,E.len]
  obtain⟨g',o',p,k,t,b⟩:=s (by simp);injection k with k;injection k with he1 he2;subst he1;subst he2;rw[if_neg (by simp at m;omega)];refine⟨_,_,p,rfl,t,fun j u hu=>?_⟩;have:=b (E.s+j) u (by
   rw[show x::xs=[x]++xs from rfl,E.al,jA (by omega),a,Nat.add_sub_cancel_left];exact hu)
  rw[show o+E.s+j=o+(E.s+j) by omega];exact this
def ve:Value->Nat
 | .slice _ n _=>n
 |_=>0
def pq(a b:List Mg)(m:Mg):Prop:=m∈a\/m∈b\/∃x∈a,∃y∈b,x.d=y.d/\m=gu x y
def se(w:World)(n k:Nat)(M:Mg->Prop)(e:Ending)(w':World):Prop:=∃vl vb vc l lb lc,Rt e (.agg #[vl,vb,vc])/\aK aU w.heap.size w' vl l/\aK aJ w.heap.size w' vb lb/\aK aJ w.heap.size w' vc lc/\(∀k,vb.ownBlock=some k->vc.ownBlock≠some k)/\l.length<=n/\lb.length+lc.length<=k/\(∀m∈l,M m)/\(∀d∈lb,aO d=true)/\(∀d∈lc,aO d=true)/\Below w.heap.size w w'
theorem jo{o:Nat}{x:Mg}{xs}{p q r}(i:Rw aU w (.slice (some ⟨g,o,none⟩) n c) (x::xs))(f:am w h 131 #[p,q,r]):
  Ce w g o (I6 x.d.nd)/\Ce w g (o+1) (I6 x.d.n)/\Ce w g (o+2) (.string (aF x.q))/\Ce w g (o+3) (.string (aF x.b))/\Ce w g (o+4) (I6 x.c)/\Ce w h 1 q/\Ce w h 2 r:=by
 obtain⟨g',o',b,a⟩:=i.at_ (k:=0) rfl;injection b with b;injection b with h3 h4;subst h3;subst h4;exact⟨by simpa using a 0 _ rfl,by simpa using a 1 _ rfl,by simpa using a 2 _ rfl,by simpa using a 3 _ rfl,by simpa using a 4 _ rfl,am.cell f 1,am.cell f 2⟩
theorem dQ(E:El α){ops:Array Oper}{o:Oper}{a:Act}{K:Act->World->Prop}{Q:Exit->Act->World->Prop}{F:Prop}(g:o.guard=none)(f x:Operand)
  (m:o.op=.call {callee:=.builtin .append,args:=#[f,x],argTypes:=#[E.sl,E.sl]})
    {l b:List α} {v2:Value} (h:aK E base w v l) (n:base<=w.heap.size) (p:a.eval f=v) (q:a.eval x=v2) (s:Rw E w v2 b)
  (t:(l.length+b.length)*E.bytes<=140737488355328) (D:l.length+b.length < 1000000000000000000)
  (H:∀v' w',aK E base w' v' (l++b)->w.grownBy w' v.ownBlock->(v'.ownBlock=v.ownBlock\/v'.ownBlock=some w.heap.size)->K (a.put o.dst v') w'):
  if Region.wanted o (yielded ops a.tmps)=true then Oper.wp prog o a w K Q else F:=by
 obtain⟨u,hi,i,j,k⟩:=info_parts E.info;obtain⟨A,c,rfl,G,y⟩:=s;refine lV (P:=prog) w g f x E.sl m base E.ty u E.z E.s E.bytes E.und hi i j k E.zs E.pos v l.length (E.cells l) p h A b.length c (E.cells b) q y.sl (E.cells_one b) (by unfold maxLen;omega) t n ?_;intro v' w' z B C;refine H v' w' ?_ B C;unfold aK;rw[E.al,zC];exact z
theorem BR{o g' o' n':Nat}{x y:Mg}{xs ys}(i:Rw aU w (.slice (some ⟨g,o,none⟩) n c) (x::xs))(j:Rw aU w (.slice (some ⟨g',o',none⟩) n' h) (y::ys)):
  Ce w g o (I6 x.d.nd)/\Ce w g (o+1) (I6 x.d.n)/\Ce w g (o+2) (.string (aF x.q))/\Ce w g (o+3) (.string (aF x.b))/\Ce w g (o+4) (I6 x.c)/\
  Ce w g' o' (I6 y.d.nd)/\Ce w g' (o'+1) (I6 y.d.n)/\Ce w g' (o'+2) (.string (aF y.q))/\Ce w g' (o'+3) (.string (aF y.b))/\Ce w g' (o'+4) (I6 y.c):=by
 obtain⟨_,_,f,a⟩:=i.at_ (k:=0) rfl;injection f with f;injection f with h3 h4;subst h3;subst h4;obtain⟨_,_,f,b⟩:=j.at_ (k:=0) rfl;injection f with f;injection f with h3 h4;subst h3;subst h4;exact⟨by simpa using a 0 _ rfl,by simpa using a 1 _ rfl,by simpa using a 2 _ rfl,by simpa using a 3 _ rfl,by simpa using a 4 _ rfl,by simpa using b 0 _ rfl,by simpa using b 1 _ rfl,by simpa using b 2 _ rfl,by simpa using b 3 _ rfl,by simpa using b 4 _ rfl⟩
theorem iP{k:Nat}{q c2 v3:Value}{f:List Mg}{h:List bC}{M:Mg->Prop}(a:am w4 g 131 #[q,c1,c2])(D:w.heap.size<=g)(s:Below w.heap.size w w4)(j:w.heap.size<=base)(c:w.heap.size<=b)(t:aK aU base w4 v3 f)(u:aK aJ b w4 v4 h)(x:aK aJ b w4 v5 i)
  (p:∀k,v4.ownBlock=some k->v5.ownBlock≠some k) (y:f.length<=n) (z:h.length+i.length<=k) (A:∀m∈f,M m) (B:∀d∈h,aO d=true) (C:∀d∈i,aO d=true):
  am (((w4.setCell ⟨g,0,none⟩ v3).setCell ⟨g,1,none⟩ v4).setCell ⟨g,2,none⟩ v5) g 131 #[v3,v4,v5]/\se w n k M (.returned (.agg #[v3,v4,v5])) (((w4.setCell ⟨g,0,none⟩ v3).setCell ⟨g,1,none⟩ v4).setCell ⟨g,2,none⟩ v5):=
 ⟨((a.I 0 _).I 1 _).I 2 _,v3,v4,v5,f,h,i,rfl,
  bK (bK (bK (dJ t j) (aB _ _ 0 v3) a (by decide)) (aB _ _ 1 v4) (a.I 0 _) (by decide)) (aB _ _ 2 v5) ((a.I 0 _).I 1 _) (by decide),
  bK (bK (bK (dJ u c) (aB _ _ 0 v3) a (by decide)) (aB _ _ 1 v4) (a.I 0 _) (by decide)) (aB _ _ 2 v5) ((a.I 0 _).I 1 _) (by decide),
  bK (bK (bK (dJ x c) (aB _ _ 0 v3) a (by decide)) (aB _ _ 1 v4) (a.I 0 _) (by decide)) (aB _ _ 2 v5) ((a.I 0 _).I 1 _) (by decide),
  p,y,z,A,B,C,((s.setCell (by simp;omega) _).setCell (by simp;omega) _).setCell (by simp;omega) _⟩
theorem pr{v1 v2 va va2 vd vd2}{F G:List Mg}{la lac:List bC} w(h5:Rw aU w v1 F)(h6:Rw aU w v2 G)(h1:Rw aJ w va la)(h2:Rw aJ w va2 lac)(h3:Rw aJ w vd ld)(h4:Rw aJ w vd2 ldc)
  (hl:la.length+lac.length+(ld.length+ldc.length)<=100000000) (hm:F.length+G.length<=100000000) (o1:∀d∈la,aO d=true) (o2:∀d∈lac,aO d=true) (o3:∀d∈ld,aO d=true) (o4:∀d∈ldc,aO d=true):
  Cs 246 #[.agg #[v1,va,va2],.agg #[v2,vd,vd2]] w (se w (F.length+G.length) (la.length+lac.length+(ld.length+ldc.length)) (pq F G)):=by
 obtain⟨A1,c1,rfl,_⟩:=h5.slice;obtain⟨A2,c2,rfl,_⟩:=h6.slice;obtain⟨W0,HW,H,x1,x2,x3⟩:=Ej w #[.slice A1 F.length c1,va,va2] #[.slice A2 G.length c2,vd,vd2] #[aS,aS,aS] 131 131 131;obtain⟨R1,R2,R3,R4,R5,R6⟩:=gF (h1.below H) (h2.below H) (h3.below H) (h4.below H) (h5.below H) (h6.below H);obtain⟨a0,a1,a2⟩:=am.three x1;obtain⟨b0,b1,b2⟩:=am.three x2;obtain⟨O1,O2,O3,O4⟩:=gD o1 o2 o3 o4;apply cI;go_in;go_wp2_with fail;simp only[HW.out];go_step3;go_wp2_with fail;refine(pj _ R1 R2 R3 R4 hl O1 O2 O3 O4).mono ?_;rintro _e w1 ⟨vb,vc,lb,lc,rfl,hp,hr,hF,hG,ob,oc,hh⟩;have hS:W0.heap.size=w.heap.size+1+1+1:=by rw[<-HW];simp
 obtain⟨A3,c3,rfl,_⟩:=hp.rw.slice;obtain⟨A4,c4,rfl,_⟩:=hr.rw.slice;have I:=ba w1 (.cells #[aS,.slice A3 lb.length c3,.slice A4 lc.length c4] 131);have ha:=am.new w1 131 #[aS,.slice A3 lb.length c3,.slice A4 lc.length c4];obtain⟨hs,ht,NE,OB,OC,c,B⟩:=gG (aI hp I) (aI hr I) hF ob oc (hh.trans (I.mono hh.size)) hh.size;go_wp2_with fail;obtain⟨W2,hu⟩:=nM (w1.alloc (.cells #[aS,.slice A3 lb.length c3,.slice A4 lc.length c4] 131));rw[hu]at hs ht c ha I;simp only[hu.out];have f0:=aD c a0;have f1:=aD c b0;obtain⟨HG,hb,hc,hH,Q1,Q2,T1,T2⟩:=gH (show w1.heap.size < W2.heap.size from ha.lt) (x1.below c) (x2.below c) (x3.below c) (R5.below c) (R6.below c) (R1.below c) (R2.below c);obtain⟨T3,T4⟩:=gB (R3.below c) (R4.below c);have hI:Hid (BJ W2 w1.heap.size W2 (aS) (.slice A3 lb.length c3) (.slice A4 lc.length c4) []):=aH ⟨ha,aK.nil _ _,aG (bR _),_,ha⟩;go_quiet (fail);have hK:=aH (hI.below (below_drewN (bR W2) nq));go_wp2_with fail;go_step3;go_wp2_with fail;go_loopw[6,7] (fun v6 v7 wr=>∃(B6 B7:Option Addr) (d6 d7:Nat) (m1 Z:List Mg) (vl:Value) (l:List Mg),v6=.slice B6 m1.length d6/\v7=.slice B7 Z.length d7/\Rw aU W2 v6 m1/\Rw aU W2 v7 Z/\BJ W2 w1.heap.size wr vl (.slice A3 lb.length c3) (.slice A4 lc.length c4) l/\(∀x∈m1,x∈F)/\(∀x∈Z,x∈G)/\l.length+(m1.length+Z.length)<=F.length+G.length/\∀m∈l,pq F G m) (fun v6 v7 _=>ve v6+ve v7)
 case atStart=>exact⟨_,_,_,_,F,G,_,[],rfl,rfl,Q1,Q2,hK,fun _ h=>h,fun _ h=>h,by simp,by simp⟩
 case round=>
  obtain⟨B6,B7,d6,d7,m1,Z,vl,l,rfl,rfl,r6,r7,hJ,hL,hN,C,hM⟩:=hrel;obtain⟨a,U,V,N,P6,P7,O,J⟩:=gH hJ hL hN hM (hJ.keep r6 (by decide)) (hJ.keep r7 (by decide)) r6 r7;cases m1 with
  |nil=>
   cases Z with
   |nil=>
    obtain⟨j0,j1,j2⟩:=am.three a.box;have hj:=hH.only a.only (by have:=B.out;omega);obtain⟨k0,k1,k2⟩:=am.three hj;have kf:=fun j=>am.frozen hj j;obtain⟨Al,cl,rfl,_⟩:=a.ol.rw.slice;have HE:=aH (iP (w:=w) (n:=F.length+G.length) (k:=la.length+lac.length+(ld.length+ldc.length)) (M:=pq F G) hj (by omega) ((H.trans (c.mono H.size)).trans (a.only.below (by have:=B.out;omega) (by have:=c.size;have:=H.size;omega))) (zD H.size (zD c.size nR)) H.size a.ol (bK hs a.only a.cs0.choose_spec (by decide)) (bK ht a.only a.cs0.choose_spec (by decide)) NE (by simp at C;omega) hG N OB OC);go_wp2_with fail;rw[qJ];obtain⟨s0,s1,s2⟩:=am.three HE.1;refine bodyPost_ret (v:=.agg #[.slice Al l.length cl,.slice A3 lb.length c3,.slice A4 lc.length c4]) (by simp[results,results246,go_sem,s0,s1,s2]) rfl ?_;exact HE.2
   |cons y ys=>
    obtain⟨f,g,rfl,X⟩:=P7.at_ (k:=0) rfl;have q0:wr.cell? ⟨f,g,none⟩=some (I6 y.d.nd):=by simpa using X 0 _ rfl
    have q1:wr.cell? ⟨f,g+1,none⟩=some (I6 y.d.n):=by simpa using X 1 _ rfl
    have z1:(((ys.length:Int)+1)==0)=false:=by simp;omega
    have T:=aH J.tl;have z3:decide ((0:Int) < (ys.length:Int)+1)=true:=decide_eq_true (by omega);go_wp2_with fail;go_quiet (fail);generalize nq=n1;go_wp2_with fail;go_quiet (fail);go_wp2_with fail;obtain⟨W3,Y⟩:=nM ((wr.drewN n1).drewN nq);have i:Bw wr W3:=Y▸below_drewN (below_drewN (bR wr) n1) nq;simp only[Y.out];have L:=(hb.only a.only (by have:=B.out;omega)).below i;have y':=jo (J |> fun h=>(a.keep h (by decide)).below i) L;obtain⟨y0,y1,y2,y3,y4,b1,b2⟩:=id y';have s:=(a.below i).below (bP W3);have k3:Rw aJ W3.drew va la:=((a.keep T1 (by decide)).below i).below (bP W3);have k4:Rw aJ W3.drew va2 lac:=((a.keep T2 (by decide)).below i).below (bP W3);have D:la.length<=100000000/\lac.length<=100000000/\l.length<=1000000000:=by omega
    go_region_held3 (fun w'=>w'.cell? ⟨f,g,none⟩=some (I6 y.d.nd)/\w'.cell? ⟨f,g+1,none⟩=some (I6 y.d.n)/\w'.cell? ⟨f,g+2,none⟩=some (.string (aF y.q))/\w'.cell? ⟨f,g+3,none⟩=some (.string (aF y.b))/\w'.cell? ⟨f,g+4,none⟩=some (I6 y.c)/\w'.cell? ⟨w.heap.size,1,none⟩=some va/\w'.cell? ⟨w.heap.size,2,none⟩=some va2)
     (first|go_keep|(exact jo (b.keep J (by decide)) (hb.only b.only (by have:=B.out;omega))))
     (first|(go_at_call 337;(with_reducible refine(ib W2 _ y _ s k3 k4 D.1 D.2.1 D.2.2).mono ?_);rintro _e w5 ⟨v5,l5,rfl,u,A⟩;have b:=aH u;have t:=aH A;clear u A))
    go_wp2_with fail;refine⟨⟨_,_,_,_,[],ys,v5,l5,rfl,rfl,O,T,b,U,fun m h=>V m (qF _ h),?_,?_⟩,?_⟩
    ·rcases t.out with h|h<;>rw[h]<;>simp at C ⊢<;>omega
    ·intro m h;rcases t.out with h1|h1
     ·exact N m (h1▸h)
     ·rw[h1]at h;rcases zK.1 h with h|h
      ·exact N m h
      ·simp at h;subst h;exact .inr (.inl (V _ (by simp)))
    ·simp[ve]
  |cons x xs=>
   obtain⟨p,q,rfl,hw⟩:=P6.at_ (k:=0) rfl;have p0:wr.cell? ⟨p,q,none⟩=some (I6 x.d.nd):=by simpa using hw 0 _ rfl
   have p1:wr.cell? ⟨p,q+1,none⟩=some (I6 x.d.n):=by simpa using hw 1 _ rfl
   have z0:decide ((0:Int) < (xs.length:Int)+1)=true:=decide_eq_true (by omega);have z2:(((xs.length:Int)+1)==0)=false:=by simp;omega
   have hn:=aH O.tl;cases Z with
   |nil=>
    go_wp2_with fail;go_quiet (fail);go_wp2_with fail;obtain⟨W3,Y⟩:=nM (wr.drewN nq);have i:Bw wr W3:=Y▸below_drewN (bR wr) nq;simp only[Y.out];have L:=(hc.only a.only (by have:=B.out;omega)).below i;have y':=jo (O |> fun h=>(a.keep h (by decide)).below i) L;obtain⟨y0,y1,y2,y3,y4,b1,b2⟩:=id y';have s:=(a.below i).below (bP W3);have k3:Rw aJ W3.drew vd ld:=((a.keep T3 (by decide)).below i).below (bP W3);have k4:Rw aJ W3.drew vd2 ldc:=((a.keep T4 (by decide)).below i).below (bP W3);have D:ld.length<=100000000/\ldc.length<=100000000/\l.length<=1000000000:=by omega
    go_region_held3 (fun w'=>w'.cell? ⟨p,q,none⟩=some (I6 x.d.nd)/\w'.cell? ⟨p,q+1,none⟩=some (I6 x.d.n)/\w'.cell? ⟨p,q+2,none⟩=some (.string (aF x.q))/\w'.cell? ⟨p,q+3,none⟩=some (.string (aF x.b))/\w'.cell? ⟨p,q+4,none⟩=some (I6 x.c)/\w'.cell? ⟨w.heap.size+1,1,none⟩=some vd/\w'.cell? ⟨w.heap.size+1,2,none⟩=some vd2)
     (first|go_keep|(exact jo (b.keep O (by decide)) (hc.only b.only (by have:=B.out;omega))))
     (first|(go_at_call 337;(with_reducible refine(ib W2 _ x _ s k3 k4 D.1 D.2.1 D.2.2).mono ?_);rintro _e w5 ⟨v5,l5,rfl,u,A⟩;have b:=aH u;have t:=aH A;clear u A))
    go_wp2_with fail;refine⟨⟨_,_,_,_,xs,[],v5,l5,rfl,rfl,hn,J,b,fun m h=>U m (qF _ h),V,?_,?_⟩,?_⟩
    ·rcases t.out with h|h<;>rw[h]<;>simp at C ⊢<;>omega
    ·intro m h;rcases t.out with h1|h1
     ·exact N m (h1▸h)
     ·rw[h1]at h;rcases zK.1 h with h|h
      ·exact N m h
      ·simp at h;subst h;exact .inl (U _ (by simp))
    ·simp[ve]
   |cons y ys=>
    obtain⟨f,g,rfl,X⟩:=P7.at_ (k:=0) rfl;have q0:wr.cell? ⟨f,g,none⟩=some (I6 y.d.nd):=by simpa using X 0 _ rfl
    have q1:wr.cell? ⟨f,g+1,none⟩=some (I6 y.d.n):=by simpa using X 1 _ rfl
    have z1:(((ys.length:Int)+1)==0)=false:=by simp;omega
    obtain⟨T,L5⟩:=gB J.tl (fun W=>fu x.d y.d W);have hx:Bw wr wr.drew:=bD _;cases hlt:p4 x.d y.d;all_goals
     have L6:=aH (fun W=>by have:=L5 W;rw[hlt]at this;exact this);go_wp2_with fail;go_region_held3 (fun w'=>w'.cell? ⟨p,q,none⟩=some (I6 x.d.nd)/\w'.cell? ⟨p,q+1,none⟩=some (I6 x.d.n)/\w'.cell? ⟨f,g,none⟩=some (I6 y.d.nd)/\w'.cell? ⟨f,g+1,none⟩=some (I6 y.d.n))
      (first|go_keep|exact⟨aD (by assumption) p0,aD (by assumption) p1,aD (by assumption) q0,aD (by assumption) q1⟩)
      (first|(go_at_call 333;(with_reducible refine(L6.out _).mono ?_);rintro _e W3 ⟨rfl,hy⟩;have i:=hx.trans (hy.mono hx.size);clear hy))
    ·have hT:=aD i p0;have hU:=aD i p1;have hV:=aD i q0;have hW:=aD i q1;have hq:=fun W=>xF x.d y.d W;have HE:Hid (bU x.d y.d=true->x.d=y.d):=aH fun h=>by unfold bU lW at h;revert h;cases x.d;cases y.d;simp
     cases he:bU x.d y.d;all_goals
      simp only[he,Bool.not_true,Bool.not_false]at hq;go_wp2_with fail;go_quiet (fail);obtain⟨W4,hA⟩:=nM (W3.drewN nq);have R:Bw wr W4:=hA▸below_drewN i nq;simp only[hA.out]
     ·go_wp2_with fail;have L:=(hb.only a.only (by have:=B.out;omega)).below R;have y':=jo (J |> fun h=>(a.keep h (by decide)).below R) L;obtain⟨y0,y1,y2,y3,y4,b1,b2⟩:=id y';have s:=(a.below R).below (bP W4);have k3:Rw aJ W4.drew va la:=((a.keep T1 (by decide)).below R).below (bP W4);have k4:Rw aJ W4.drew va2 lac:=((a.keep T2 (by decide)).below R).below (bP W4);have D:la.length<=100000000/\lac.length<=100000000/\l.length<=1000000000:=by omega
      go_region_held3 (fun w'=>w'.cell? ⟨f,g,none⟩=some (I6 y.d.nd)/\w'.cell? ⟨f,g+1,none⟩=some (I6 y.d.n)/\w'.cell? ⟨f,g+2,none⟩=some (.string (aF y.q))/\w'.cell? ⟨f,g+3,none⟩=some (.string (aF y.b))/\w'.cell? ⟨f,g+4,none⟩=some (I6 y.c)/\w'.cell? ⟨w.heap.size,1,none⟩=some va/\w'.cell? ⟨w.heap.size,2,none⟩=some va2)
       (first|go_keep|(exact jo (b.keep J (by decide)) (hb.only b.only (by have:=B.out;omega))))
       (first|(go_at_call 337;(with_reducible refine(ib W2 _ y _ s k3 k4 D.1 D.2.1 D.2.2).mono ?_);rintro _e w5 ⟨v5,l5,rfl,u,A⟩;have b:=aH u;have t:=aH A;clear u A))
      go_wp2_with fail;refine⟨⟨_,_,_,_,(x::xs),ys,v5,l5,rfl,rfl,O,T,b,U,fun m h=>V m (qF _ h),?_,?_⟩,?_⟩
      ·rcases t.out with h|h<;>rw[h]<;>simp at C ⊢<;>omega
      ·intro m h;rcases t.out with h1|h1
       ·exact N m (h1▸h)
       ·rw[h1]at h;rcases zK.1 h with h|h
        ·exact N m h
        ·simp at h;subst h;exact .inr (.inl (V _ (by simp)))
      ·simp[ve]
     ·have s:=a.below R;have hO:=aH (HE he);obtain⟨e0,e1,e2⟩:=am.three s.box;obtain⟨u0,u1,u2,u3,u4,_,_⟩:=jo ((a.keep O (by decide)).below R) s.box;obtain⟨v0,v1,v2,v3,v4,_,_⟩:=jo ((a.keep J (by decide)).below R) s.box;have CB:=aH (fun W=>Bx x y W);obtain⟨z,hz⟩:=nx (gu x y);rw[hz]at CB;obtain⟨HZ,hB⟩:=gB hz s;go_wp2_with fail;have hX:l.length<=100000000:=by simp at C;omega
      have hY:=BR ((a.keep O (by decide)).below R) ((a.keep J (by decide)).below R);have BD:Bw W4 W4.drew:=bD _;obtain⟨A5,c5,rfl,_⟩:=hB.ol.rw.slice;have hd:=aH (fun W (h:aW w1.heap.size W2 W)=>BR (O.only h a.cs0.choose_spec (by decide)) (J.only h a.cs0.choose_spec (by decide)));obtain⟨u0,u1,u2,u3,u4,v0,v1,v2,v3,v4⟩:=hY;go_region_law (first
        |(refine dQ aU rfl (.tmp 80) (.tmp 88) rfl S.ol hD rfl rfl (dL aU w5 z) (by show(l.length+1)*56<=_;omega) (by show l.length+1 < _;omega) ?_;intro v6 w6 ho hg hE;obtain⟨A6,c6,hC,_⟩:=ho.rw.slice;simp only[zC,zQ,qI,zR]at hC;subst hC;have HP:=aH (S.push ho hg);have hQ:=aH (dx S.only hg (fun k hk=>(S.ol.lt k hk).1));have hf:=S.row hg;obtain⟨h8,h9,xa⟩:=am.three hf;have h0:=fun j=>am.frozen hf j;have h7:w1.heap.size < w6.heap.size:=hf.lt;clear hf ho hg hE)
        |(go_simp;go_at_call 338;(with_reducible refine(CB.out _).mono ?_);rintro _e w5 ⟨rfl,hP⟩;have B5:=BD.trans (hP.mono BD.size);have b:=aH (hB.below B5);have f0:=aD B5 e0;have hZ:=b.box.lt;have I:=ba w5 (.cells #[I6 z.d.nd,I6 z.d.n,.string (aF z.q),.string (aF z.b),I6 z.c] 44);have hD:=zD b.only.size I.size;have S:=aH (b.below I)))
      all_goals
       go_wp2_with fail;go_quiet (fail);have hR:=aH (HP.below (below_drewN (bR _) nq));go_wp2_with fail;refine⟨⟨_,_,_,_,xs,ys,_,l++[z],rfl,rfl,hn,T,hR,fun m h=>U m (qF _ h),fun m h=>V m (qF _ h),?_,?_⟩,?_⟩
       ·simp at C ⊢;omega
       ·intro m h;rcases zK.1 h with h|h
        ·exact N m h
        ·simp at h;subst h;exact .inr (.inr ⟨x,U _ (by simp),y,V _ (by simp),hO,HZ.symm⟩)
       ·simp[ve];omega
    ·go_wp2_with fail;have L:=(hc.only a.only (by have:=B.out;omega)).below i;have y':=jo (O |> fun h=>(a.keep h (by decide)).below i) L;obtain⟨y0,y1,y2,y3,y4,b1,b2⟩:=id y';have s:=(a.below i).below (bP W3);have k3:Rw aJ W3.drew vd ld:=((a.keep T3 (by decide)).below i).below (bP W3);have k4:Rw aJ W3.drew vd2 ldc:=((a.keep T4 (by decide)).below i).below (bP W3);have D:ld.length<=100000000/\ldc.length<=100000000/\l.length<=1000000000:=by omega
     go_region_held3 (fun w'=>w'.cell? ⟨p,q,none⟩=some (I6 x.d.nd)/\w'.cell? ⟨p,q+1,none⟩=some (I6 x.d.n)/\w'.cell? ⟨p,q+2,none⟩=some (.string (aF x.q))/\w'.cell? ⟨p,q+3,none⟩=some (.string (aF x.b))/\w'.cell? ⟨p,q+4,none⟩=some (I6 x.c)/\w'.cell? ⟨w.heap.size+1,1,none⟩=some vd/\w'.cell? ⟨w.heap.size+1,2,none⟩=some vd2)
      (first|go_keep|(exact jo (b.keep O (by decide)) (hc.only b.only (by have:=B.out;omega))))
      (first|(go_at_call 337;(with_reducible refine(ib W2 _ x _ s k3 k4 D.1 D.2.1 D.2.2).mono ?_);rintro _e w5 ⟨v5,l5,rfl,u,A⟩;have b:=aH u;have t:=aH A;clear u A))
     go_wp2_with fail;refine⟨⟨_,_,_,_,xs,(y::ys),v5,l5,rfl,rfl,hn,J,b,fun m h=>U m (qF _ h),V,?_,?_⟩,?_⟩
     ·rcases t.out with h|h<;>rw[h]<;>simp at C ⊢<;>omega
     ·intro m h;rcases t.out with h1|h1
      ·exact N m (h1▸h)
      ·rw[h1]at h;rcases zK.1 h with h|h
       ·exact N m h
       ·simp at h;subst h;exact .inl (U _ (by simp))
     ·simp[ve]
theorem xK(b:Nat) q(t:Mg)(w:World)(hb:Ce w b 0 (.string (aF q))):
  Cs 355 #[yq t,Pt b] w fun e w'=>Rt e (.bool (!(t.q==q)))/\Below w.heap.size w w':=by
 have a:=qX w _ hb;have c:∀o,Ce (w.alloc o) b 0 (.string (aF q)):=fun o=>(Below.cell (ba w o) (p:=⟨b,0,none⟩) a).trans hb;apply cI;go_in;go_wp2;go_ret;exact⟨rfl,ba _ _⟩
theorem xL(b:Nat)(d:bC)(t:Mg)(w:World)(c:Ce w b 0 (I6 d.nd)/\Ce w b 1 (I6 d.n)):
  Cs 359 #[yq t,Pt b] w fun e w'=>Rt e (.bool (bU t.d d))/\Below w.heap.size w w':=by
 have a:=qX w _ c.1;have g:∀o,Ce (w.alloc o) b 0 (I6 d.nd):=fun o=>(Below.cell (ba w o) (p:=⟨b,0,none⟩) a).trans c.1;have f:∀o,Ce (w.alloc o) b 1 (I6 d.n):=fun o=>(Below.cell (ba w o) (p:=⟨b,1,none⟩) a).trans c.2;have h:=fun W=>kr t.d d W;apply cI;go_in;go_wp2;go_ret;exact⟨rfl,ba _ _⟩
theorem mU{vl vb vc}{l:List Mg} q w(h:Rw aU w vl l)(hl:l.length<=100000000):
  Cs 274 #[.agg #[vl,vb,vc],.string (aF q)] w (fk aU w (l.filter fun t=>!(!(t.q==q)))):=by
 obtain⟨W0,f,a,u,x⟩:=rt w #[vl,vb,vc] #[.string (aF q)] 131 9;obtain⟨a0,a1,a2⟩:=am.three u;obtain⟨y,i⟩:=gB (h.below a) (show W0.heap.size=w.heap.size+1+1 by rw[<-f];simp);apply cI;go_in;go_wp2_with fail;simp only[f.out];go_wp2_with fail;refine(jw _ y (by omega)).mono ?_;rintro z w1 ⟨v1,rfl,j,b⟩;obtain⟨c,m⟩:=gB j (x.below b);have n:=a.trans (b.mono a.size);go_wp2_with fail;refine(mL 355 #[.pointer (some ⟨w.heap.size+1,0,none⟩)] (fun t=>!(t.q==q)) _ v1 l w1 c (by omega) (aQ func355 (by kernel_rfl) (by kernel_rfl)) (fun t W hW=>xK _ q t W (am.cell (m.below hW) 0)) (fun g hg t W hW=>xK _ q t W (am.cell (m.only hW (by have:=(c.lt g hg).1;have:=i.out;omega)) 0))).mono ?_;rintro z w2 ⟨v2,rfl,p,s⟩;go_wp2_with fail;go_ret;exact⟨v2,rfl,p.mono a.size,n.grown s n.size (fun k hk=>by have:=(c.lt k hk).1;have:=a.size;omega)⟩
def E4(w:World)(n k:Nat)(M:Mg->Prop)(e:Ending)(w':World):Prop:=∃(c:Int) (v:Value),Rt e (.tuple #[v,I6 c])/\se w n k M (.returned v) w'
theorem sg{vl vb vc}{l:List Mg}{lb lc:List bC}(d:bC) w(h:Rw aU w vl l)(h2:Rw aJ w vb lb)(h3:Rw aJ w vc lc)(hl:l.length<=100000000)(hk:lb.length+lc.length<=10000000)
  (o2:∀d∈lb,aO d=true) (o3:∀d∈lc,aO d=true):
  Cs 283 #[.agg #[vl,vb,vc],.agg #[I6 d.nd,I6 d.n]] w (E4 w l.length (lb.length+lc.length+1) (fun m=>m∈l)):=by
 obtain⟨A1,c1,rfl,_⟩:=h.slice;obtain⟨A2,c2,rfl,_⟩:=h2.slice;obtain⟨A3,c3,rfl,_⟩:=h3.slice;obtain⟨W0,R,i,x1,S,x3⟩:=Ej w #[.slice A1 l.length c1,.slice A2 lb.length c2,.slice A3 lc.length c3] #[I6 d.nd,I6 d.n] #[aS,aS,aS] 131 42 131;obtain⟨d0,d1⟩:=am.two S;obtain⟨D,F,G,he,O2,O3,X1,X2⟩:=gH (h.below i) (h2.below i) (h3.below i) (show W0.heap.size=w.heap.size+1+1+1 by rw[<-R];simp) o2 o3 x1 S;obtain⟨X3,C1⟩:=gB x3 (fun W=>cG d W);apply cI;go_in;go_wp2_with fail;simp only[R.out];go_wp2_with fail;refine(C1 _).mono ?_;generalize aO d=bo;rintro H w1 ⟨rfl,a⟩;obtain⟨T,I,U,p,D,F,G⟩:=gG (X1.below a) (X2.below a) (X3.below a) (i.trans (a.mono i.size)) (D.below a) (F.below a) (G.below a);cases bo
 ·have c:=U.out;obtain⟨k0,k1,k2⟩:=am.three c;have kf:=fun j=>am.frozen c j;have q:=aH (iP (w:=w) (n:=l.length) (k:=lb.length+lc.length+1) (M:=fun m=>m∈l) c (by omega) p nR nR (aK.nil _ _) (aK.nil _ _) (aK.nil _ _) (by simp[Value.ownBlock]) (by simp) (by simp) (by simp) (by simp) (by simp));go_wp2_with fail;obtain⟨J,L,N⟩:=am.three q.1;refine bodyPost_ret (v:=.tuple #[.agg #[aS,aS,aS],I6 1]) (by simp[results,results283,go_sem,J,L,N]) rfl ?_;exact⟨_,_,rfl,q.2⟩
 ·obtain⟨e0,e1,e2⟩:=am.three T;go_wp2_with fail;refine(jw _ D (by omega)).mono ?_;rintro H w2 ⟨v2,rfl,V,x⟩;obtain⟨X,O,y,hE⟩:=gD (I.below x) V x (aQ func359 (by kernel_rfl) (by kernel_rfl));go_wp2_with fail;refine(mL 359 #[.pointer (some ⟨w.heap.size+1,0,none⟩)] (fun t=>bU t.d d) _ v2 l w2 O (by omega) hE (fun t W hW=>xL _ d t W (am.two (X.below hW))) (fun g hg t W hW=>xL _ d t W (am.two (X.only hW (by have:=(O.lt g hg).1;have:=I.lt;omega))))).mono ?_;rintro H w3 ⟨v3,rfl,s,Y⟩;have f:Bw w1 w3:=y.grown Y (y.size) (fun k hk=>(O.lt k hk).1);generalize hm3:l.filter (fun t=>!(bU t.d d))=m3 at s;have z:=aH hm3;obtain⟨A4,c4,rfl,_⟩:=s.rw.slice;obtain⟨e0,e1,e2⟩:=am.three (T.below f);obtain⟨d0,d1⟩:=am.two (I.below f);have u:=ba w3 (.cells #[I6 d.nd,I6 d.n] 42);obtain⟨hf,b,Z⟩:=gC u (f.trans (u.mono f.size)) (aI s u);go_wp2_with fail;refine(sd _ (F.below b) (G.below b) (dL aJ w3 d) (by simp;omega) O2 O3).mono ?_;rintro H w4 ⟨v5,v6,l5,l6,rfl,A,B,ha,hb,hc,hd,C⟩;obtain⟨A5,c5,rfl,_⟩:=A.rw.slice;obtain⟨A6,c6,rfl,_⟩:=B.rw.slice;have B4:=b.trans (C.mono b.size);have c:=U.below B4;obtain⟨k0,k1,k2⟩:=am.three c;have kf:=fun j=>am.frozen c j;have q:=aH (iP (w:=w) (n:=l.length) (k:=lb.length+lc.length+1) (M:=fun m=>m∈l) c (by omega) (p.trans (B4.mono p.size)) (p.size) (zD p.size b.size) (aI Z C) A B ha (by rw[<-z];exact qO _ _) (by simp at hb ⊢;omega) (fun m hm=>by rw[<-z]at hm;exact(qV.1 hm).1) hc hd)
  go_wp2_with fail;obtain⟨J,L,N⟩:=am.three q.1;refine bodyPost_ret (v:=.tuple #[.agg #[.slice A4 m3.length c4,.slice A5 l5.length c5,.slice A6 l6.length c6],I6 0]) (by simp[results,results283,go_sem,J,L,N]) rfl ?_;exact⟨_,_,rfl,q.2⟩
namespace Ms
def va:=@p1 _ _ _ _ _ _ _ (Or.inr (Or.inr ⟨rfl,rfl,rfl,rfl,rfl,rfl,rfl⟩))
end Ms
def cT(z:Int):List UInt8:=bG z.toNat
theorem cV(z:Int)(h:bN z):(cT z).length<=10:=(bi (by unfold bN at h;omega)).2
theorem BT{A}(w:World)(h:Sl w 1 A l.length (l.map (Value.int .i64)))(hl:l.length<=100000000)(hi:∀z∈l,bN z):
  Cs 230 #[.slice A l.length c] w fun e w'=>Rt e (.string (aF (bG l.length++bW cT l)))/\Below w.heap.size w w':=by
 obtain⟨H,N,B,j⟩:=gD h hi (Bl.new w) (ba w (.cells #[.pointer none,aS] 250));obtain⟨W0,C⟩:=nM (w.alloc (.cells #[.pointer none,aS] 250));rw[C]at B j;have X:=(bi (n:=l.length) (by omega)).2;have G:=aH (fun W=>cQ (l.length:Int) W (by omega));rw[jS]at G;obtain⟨I,m⟩:=nx (bG l.length);rw[m]at G X;have Y:=aH m;clear h hi m;apply cI;go_in;go_wp2_with fail;simp only[C.out];go_wp2_with fail;refine(G _).mono ?_;rintro s w1 ⟨rfl,p⟩;obtain⟨O,Z⟩:=gB (j.trans (p.mono j.size)) (B.below p);clear p;go_wp2_with fail;refine(mC w.heap.size w.heap.size [] I w1 Z (by simp;omega) O.size).mono ?_;rintro s w2 ⟨rfl,b,D⟩;obtain⟨B2,L2⟩:=gB (O.trans D) b;clear b D;go_wp2_with fail;go_loopw[5,12] (fun _ v wr=>∃k:Nat,k<=l.length/\v=I6 k/\Bw w wr/\Bl w.heap.size w.heap.size (I++bW cT (l.take k)) wr) (fun _ v _=>l.length - (intOf v).toNat)
 case atStart=>exact⟨0,by omega,rfl,B2,by simpa[bW]using L2.out⟩
 case round=>
  obtain⟨k,hk,rfl,f,b⟩:=hrel;obtain⟨x,J⟩:=gB f b;by_cases hlt:k < l.length
  ·obtain⟨g,o,rfl,_,i⟩:=(H.below f).at_ (by omega);have R:Ce wr g (o+k) (I6 l[k]):=i k _ (by rw[qS,zA hlt];rfl);have y:=N _ (zY hlt);have L:=aH (fun W=>cQ l[k] W (by unfold bN at y;omega));have S:=cV _ y;have M:=aH (ju cT l k hlt);have T:cT l[k]=bG l[k].toNat:=rfl;rw[T]at S M;generalize bG l[k].toNat=u at L M S;generalize l[k]=t at R L y;have HK:Hid ((I++bW cT (l.take k)).length<=2000000000):=aH (by
    have h1:=dz cT 10 (l.take k) (fun a ha=>cV a (N a (qZ ha)));have h2:(l.take k).length<=100000000:=by simp;omega
    rw[zC];omega)
   clear f b i T y;go_wp2_with fail;refine(L _).mono ?_;rintro s w3 ⟨rfl,q⟩;obtain⟨U,L3⟩:=gB (x.trans (q.mono x.size)) (J.below q);clear q R;go_wp2_with fail;refine(mC w.heap.size w.heap.size _ u w3 L3 (by have:=HK.out;omega) U.size).mono ?_;rintro s w4 ⟨rfl,b,F⟩;have B4:=aH (U.trans F);rw[zH,<-M]at b;have L4:=aH b;clear b F;go_wp2_with fail;go_roundw
   case rel=>exact⟨k+1,by omega,by go_num,B4,L4⟩
   case measure=>simp[intOf];omega
  ·obtain rfl:k=l.length:=by omega
   rw[jJ]at b;have J:=aH b;clear b f;go_wp2_with fail;refine(mD w.heap.size w.heap.size _ _ J x.size).mono ?_;rintro s w6 ⟨rfl,f⟩;have V:=aH (x.trans f);clear f;go_wp2_with fail;go_ret;rw[Y];exact⟨rfl,V⟩
def FU(t:Tg):Prop:=t.nm.length<=100/\bN t.n
def ic(t:Tg):List UInt8:=cB t.nm++cT t.n
def cA(t:Pe):Prop:=bN t.id/\bN t.inc/\bN t.st
def eE(t:Pe):List UInt8:=cT t.id++(cT t.inc++cT t.st)
def fA(t:be):Prop:=eL t.d/\bN t.rc/\bN t.un
def eM(t:be):List UInt8:=dB t.d++(cT t.rc++cT t.un)
theorem sh(w:World) v(l:List _)(h:Rw a7 w v l)(hl:l.length<=100000000)(hd:∀d∈l,FU d):
  Cs 231 #[v] w fun e w'=>Rt e (.string (aF (bZ ic l)))/\Below w.heap.size w w':=by
 obtain⟨A,c,rfl,hc⟩:=h.slice;obtain⟨H,S⟩:=gB h hd;clear h hd;apply cI;go_in;go_wp2_with fail;refine(cQ (l.length:Int) _ (by omega)).mono ?_;rintro e w1 ⟨rfl,m⟩;have j:=aH m;clear m;rw[jS];have T:=(bi (n:=l.length) (by omega)).2;obtain⟨U,p⟩:=nx (bG l.length);rw[p]at T ⊢;have D:=aH p;clear p;go_wp2_with fail;go_loopg[3,11] l.length (fun gn v3 v11 wr=>∃(k:Nat) (s:List UInt8),k<=l.length/\gn=l.length - k/\v11=I6 k/\v3=.string (aF s)/\s.length<=10+220*k/\Bw w wr/\s++bW ic (l.drop k)=bZ ic l)
 case atStart=>exact⟨0,U,by omega,rfl,rfl,rfl,by omega,j,by unfold bZ;rw[D];rfl⟩
 case round=>
  obtain⟨k,s,hk,rfl,rfl,rfl,x,m,hv⟩:=hrel;obtain⟨j,B⟩:=gB m hv;clear m hv;by_cases hlt:k < l.length
  ·have y:=aH hlt;have V:decide ((k:Int) < (l.length:Int))=true:=by simp;omega
   obtain⟨g,o,rfl,b⟩:=(H.below j).at_ (zA hlt);have X:Ce wr g (o+k*2) (.string (aF l[k].nm)):=b 0 _ rfl;have c1:Ce wr g (o+k*2+1) (I6 l[k].n):=b 1 _ rfl;have a:=S l[k] (zY hlt);have q:Hid (s++(ic l[k]++bW ic (l.drop (k+1)))=bZ ic l):=aH (by rw[<-B,gV _ _ _ hlt];rfl);clear b B;generalize l[k]=t at X c1 a q;have f:=am.new wr 230 #[.string (aF t.nm),I6 t.n];have u:=aH (j.alloc j.size (.cells #[.string (aF t.nm),I6 t.n] 230));obtain⟨W,C⟩:=nx (wr.alloc (.cells #[.string (aF t.nm),I6 t.n] 230));rw[C]at u f;have Y:=aH C;have r0:=fun d os=>cell_regrown (am.cell f 0) d os;have r1:=fun d os=>cell_regrown (am.cell f 1) d os;have F:=aH (fun W=>iF t.nm W (by have:=a.1;unfold yj;omega));have G:(cB t.nm).length<=200:=by have:=a.1;have:=gq t.nm (by omega);omega
   have I:=aH (fun W=>cQ t.n W (by have:=a.2;unfold bN at this;omega));have J:(bG (t.n).toNat).length<=10:=cV _ a.2;have L:Hid (ic t=cB t.nm++(bG (t.n).toNat)):=aH rfl;rw[L]at q;generalize cB t.nm=u1 at F G q;generalize bG (t.n).toNat=u2 at I J q;have O:=fun W=>bJ u1 u2 (by omega) W;have R:=fun W=>bJ s (u1++u2) (by simp;omega) W;obtain⟨Z,M⟩:=gB (show(u1++u2).length<=220 by simp;omega) x;clear x C f a L G J;go_wp2_with fail;rw[Y];refine wp_region_quiet_below (by kernel_rfl) (by kernel_rfl) ?_;repeat(go_big_quiet_step (first|(go_at_call 160;with_reducible exact Calls.regrown_of (F.out _))|(go_at_call 106;with_reducible exact Calls.regrown_of (I.out _))|fail))
   refine wpQuiet_nil ?_;intro w5 i;obtain⟨⟨dq,N⟩,i⟩:=i;have z:=aH (u.trans ((below_regrown W dq N).mono u.size));rw[<-i]at z;clear i;go_wp2_with fail;go_roundg (l.length - (k+1))
   case measure=>have:=y.out;omega
   case rel=>exact⟨k+1,s++(u1++u2),y,rfl,by go_num,rfl,by have:=Z.out;have:=M.out;rw[zC];omega,z,by rw[zH];exact q⟩
  ·obtain rfl:k=l.length:=by omega
   have V:decide ((l.length:Int) < (l.length:Int))=false:=by simp
   go_wp2_with fail;go_ret;have hv:=B.out;rw[List.drop_length]at hv;refine⟨by rw[<-hv];simp[bW],j⟩
theorem pu(w:World) v(l:List _)(h:Rw aL w v l)(hl:l.length<=100000000)(hd:∀d∈l,cA d):
  Cs 107 #[v] w fun e w'=>Rt e (.string (aF (bZ eE l)))/\Below w.heap.size w w':=by
 obtain⟨A,c,rfl,hc⟩:=h.slice;obtain⟨H,V⟩:=gB h hd;clear h hd;apply cI;go_in;go_wp2_with fail;refine(cQ (l.length:Int) _ (by omega)).mono ?_;rintro e w1 ⟨rfl,p⟩;have j:=aH p;clear p;rw[jS];have X:=(bi (n:=l.length) (by omega)).2;obtain⟨Y,q⟩:=nx (bG l.length);rw[q]at X ⊢;have D:=aH q;clear q;go_wp2_with fail;go_loopg[3,11] l.length (fun gn v3 v11 wr=>∃(k:Nat) (s:List UInt8),k<=l.length/\gn=l.length - k/\v11=I6 k/\v3=.string (aF s)/\s.length<=10+30*k/\Bw w wr/\s++bW eE (l.drop k)=bZ eE l)
 case atStart=>exact⟨0,Y,by omega,rfl,rfl,rfl,by omega,j,by unfold bZ;rw[D];rfl⟩
 case round=>
  obtain⟨k,s,hk,rfl,rfl,rfl,x,p,hv⟩:=hrel;obtain⟨j,B⟩:=gB p hv;clear p hv;by_cases hlt:k < l.length
  ·have y:=aH hlt;have Z:decide ((k:Int) < (l.length:Int))=true:=by simp;omega
   obtain⟨g,o,rfl,b⟩:=(H.below j).at_ (zA hlt);have c0:Ce wr g (o+k*3) (I6 l[k].id):=b 0 _ rfl;have c1:Ce wr g (o+k*3+1) (I6 l[k].inc):=b 1 _ rfl;have c2:Ce wr g (o+k*3+2) (I6 l[k].st):=b 2 _ rfl;have a:=V l[k] (zY hlt);have m:Hid (s++(eE l[k]++bW eE (l.drop (k+1)))=bZ eE l):=aH (by rw[<-B,gV _ _ _ hlt];rfl);clear b B;generalize l[k]=t at c0 c1 c2 a m;have f:=am.new wr 121 #[I6 t.id,I6 t.inc,I6 t.st];have u:=aH (j.alloc j.size (.cells #[I6 t.id,I6 t.inc,I6 t.st] 121));obtain⟨W,C⟩:=nx (wr.alloc (.cells #[I6 t.id,I6 t.inc,I6 t.st] 121));rw[C]at u f;have HW:=aH C;have r0:=fun d os=>cell_regrown (am.cell f 0) d os;have r1:=fun d os=>cell_regrown (am.cell f 1) d os;have r2:=fun d os=>cell_regrown (am.cell f 2) d os;have F:=aH (fun W=>cQ t.id W (by have:=a.1;unfold bN at this;omega));have G:(bG (t.id).toNat).length<=10:=cV _ a.1;have I:=aH (fun W=>cQ t.inc W (by have:=a.2.1;unfold bN at this;omega));have J:(bG (t.inc).toNat).length<=10:=cV _ a.2.1;have L:=aH (fun W=>cQ t.st W (by have:=a.2.2;unfold bN at this;omega));have M:(bG (t.st).toNat).length<=10:=cV _ a.2.2;have N:Hid (eE t=bG (t.id).toNat++(bG (t.inc).toNat++(bG (t.st).toNat))):=aH rfl;rw[N]at m;generalize bG (t.id).toNat=u1 at F G m;generalize bG (t.inc).toNat=u2 at I J m;generalize bG (t.st).toNat=u3 at L M m
   have S:=fun W=>bJ u1 u2 (by omega) W;have T:∀W,(Op.stringOp .add (aF (u1++u2)) (aF u3)).run prog W=.ok (.string (aF (u1++(u2++u3)))) W:=fun W=>by rw[<-zH];exact bJ (u1++u2) u3 (by simp;omega) W
   have U:=fun W=>bJ s (u1++(u2++u3)) (by simp;omega) W;obtain⟨HL,O⟩:=gB (show(u1++(u2++u3)).length<=30 by simp;omega) x;clear x C f a N G J M;go_wp2_with fail;rw[HW];refine wp_region_quiet_below (by kernel_rfl) (by kernel_rfl) ?_;repeat(go_big_quiet_step (first|(go_at_call 106;with_reducible exact Calls.regrown_of (F.out _))|(go_at_call 106;with_reducible exact Calls.regrown_of (I.out _))|(go_at_call 106;with_reducible exact Calls.regrown_of (L.out _))|fail))
   refine wpQuiet_nil ?_;intro w5 i;obtain⟨⟨dq,R⟩,i⟩:=i;have z:=aH (u.trans ((below_regrown W dq R).mono u.size));rw[<-i]at z;clear i;go_wp2_with fail;go_roundg (l.length - (k+1))
   case measure=>have:=y.out;omega
   case rel=>exact⟨k+1,s++(u1++(u2++u3)),y,rfl,by go_num,rfl,by have:=HL.out;have:=O.out;rw[zC];omega,z,by rw[zH];exact m⟩
  ·obtain rfl:k=l.length:=by omega
   have Z:decide ((l.length:Int) < (l.length:Int))=false:=by simp
   go_wp2_with fail;go_ret;have hv:=B.out;rw[List.drop_length]at hv;refine⟨by rw[<-hv];simp[bW],j⟩
theorem k9(w:World) v(l:List _)(h:Rw bF w v l)(hl:l.length<=100000000)(hd:∀d∈l,fA d):
  Cs 169 #[v] w fun e w'=>Rt e (.string (aF (bZ eM l)))/\Below w.heap.size w w':=by
 obtain⟨A,c,rfl,hc⟩:=h.slice;obtain⟨H,V⟩:=gB h hd;clear h hd;apply cI;go_in;go_wp2_with fail;refine(cQ (l.length:Int) _ (by omega)).mono ?_;rintro e w1 ⟨rfl,p⟩;have j:=aH p;clear p;rw[jS];have X:=(bi (n:=l.length) (by omega)).2;obtain⟨Y,q⟩:=nx (bG l.length);rw[q]at X ⊢;have D:=aH q;clear q;go_wp2_with fail;go_loopg[3,11] l.length (fun gn v3 v11 wr=>∃(k:Nat) (s:List UInt8),k<=l.length/\gn=l.length - k/\v11=I6 k/\v3=.string (aF s)/\s.length<=10+40*k/\Bw w wr/\s++bW eM (l.drop k)=bZ eM l)
 case atStart=>exact⟨0,Y,by omega,rfl,rfl,rfl,by omega,j,by unfold bZ;rw[D];rfl⟩
 case round=>
  obtain⟨k,s,hk,rfl,rfl,rfl,x,p,hv⟩:=hrel;obtain⟨j,B⟩:=gB p hv;clear p hv;by_cases hlt:k < l.length
  ·have y:=aH hlt;have Z:decide ((k:Int) < (l.length:Int))=true:=by simp;omega
   obtain⟨g,o,rfl,b⟩:=(H.below j).at_ (zA hlt);have c0:Ce wr g (o+k*4) (I6 l[k].d.nd):=b 0 _ rfl;have c1:Ce wr g (o+k*4+1) (I6 l[k].d.n):=b 1 _ rfl;have c2:Ce wr g (o+k*4+2) (I6 l[k].rc):=b 2 _ rfl;have c3:Ce wr g (o+k*4+3) (I6 l[k].un):=b 3 _ rfl;have a:=V l[k] (zY hlt);have m:Hid (s++(eM l[k]++bW eM (l.drop (k+1)))=bZ eM l):=aH (by rw[<-B,gV _ _ _ hlt];rfl);clear b B;generalize l[k]=t at c0 c1 c2 c3 a m;have f:=am.new wr 212 #[I6 t.d.nd,I6 t.d.n,I6 t.rc,I6 t.un];have u:=aH (j.alloc j.size (.cells #[I6 t.d.nd,I6 t.d.n,I6 t.rc,I6 t.un] 212));obtain⟨W,C⟩:=nx (wr.alloc (.cells #[I6 t.d.nd,I6 t.d.n,I6 t.rc,I6 t.un] 212));rw[C]at u f;have HW:=aH C;have r0:=fun d os=>cell_regrown (am.cell f 0) d os;have r1:=fun d os=>cell_regrown (am.cell f 1) d os;have r2:=fun d os=>cell_regrown (am.cell f 2) d os;have r3:=fun d os=>cell_regrown (am.cell f 3) d os;have F:=aH (fun W=>gU t.d W a.1.1 a.1.2);have G:(dB t.d).length<=20:=by have:=fw t.d a.1.1 a.1.2;omega
   have I:=aH (fun W=>cQ t.rc W (by have:=a.2.1;unfold bN at this;omega));have J:(bG (t.rc).toNat).length<=10:=cV _ a.2.1;have L:=aH (fun W=>cQ t.un W (by have:=a.2.2;unfold bN at this;omega));have M:(bG (t.un).toNat).length<=10:=cV _ a.2.2;have N:Hid (eM t=dB t.d++(bG (t.rc).toNat++(bG (t.un).toNat))):=aH rfl;rw[N]at m;generalize dB t.d=u1 at F G m;generalize bG (t.rc).toNat=u2 at I J m;generalize bG (t.un).toNat=u3 at L M m;have S:=fun W=>bJ u1 u2 (by omega) W;have T:∀W,(Op.stringOp .add (aF (u1++u2)) (aF u3)).run prog W=.ok (.string (aF (u1++(u2++u3)))) W:=fun W=>by rw[<-zH];exact bJ (u1++u2) u3 (by simp;omega) W
   have U:=fun W=>bJ s (u1++(u2++u3)) (by simp;omega) W;obtain⟨HL,O⟩:=gB (show(u1++(u2++u3)).length<=40 by simp;omega) x;clear x C f a N G J M;go_wp2_with fail;rw[HW];refine wp_region_quiet_below (by kernel_rfl) (by kernel_rfl) ?_;repeat(go_big_quiet_step (first|(go_at_call 159;with_reducible exact Calls.regrown_of (F.out _))|(go_at_call 106;with_reducible exact Calls.regrown_of (I.out _))|(go_at_call 106;with_reducible exact Calls.regrown_of (L.out _))|fail))
   refine wpQuiet_nil ?_;intro w5 i;obtain⟨⟨dq,R⟩,i⟩:=i;have z:=aH (u.trans ((below_regrown W dq R).mono u.size));rw[<-i]at z;clear i;go_wp2_with fail;go_roundg (l.length - (k+1))
   case measure=>have:=y.out;omega
   case rel=>exact⟨k+1,s++(u1++(u2++u3)),y,rfl,by go_num,rfl,by have:=HL.out;have:=O.out;rw[zC];omega,z,by rw[zH];exact m⟩
  ·obtain rfl:k=l.length:=by omega
   have Z:decide ((l.length:Int) < (l.length:Int))=false:=by simp
   go_wp2_with fail;go_ret;have hv:=B.out;rw[List.drop_length]at hv;refine⟨by rw[<-hv];simp[bW],j⟩
def cD(n a b:Int):Bool:=decide (a<=n)&&decide (n<=b)
theorem mV(n a b:Int)(w:World):Cs 191 #[I6 n,I6 a,I6 b] w fun e w'=>Rt e (.bool (cD n a b))/\Below w.heap.size w w':=by
 apply cI;go_in;cases h1:decide (a<=n)
 ·go_wp2;go_ret;exact⟨by unfold cD;rw[h1];rfl,bR _⟩
 ·go_wp2;go_ret;exact⟨by unfold cD;rw[h1];rfl,bR _⟩
def k8(p:Pe):Bool:=cD p.id 1 1099511627776&&cD p.inc 0 1073741824&&cD p.st 0 2
theorem si(p:Pe)(w:World):Cs 101 #[.agg #[I6 p.id,I6 p.inc,I6 p.st]] w fun e w'=>Rt e (.bool (k8 p))/\Below w.heap.size w w':=by
 obtain⟨W0,k,f,m⟩:=dW w #[I6 p.id,I6 p.inc,I6 p.st] 121;obtain⟨a0,a1,a2⟩:=am.three m;obtain⟨g,h,i⟩:=gC (fun W=>mV p.id 1 1099511627776 W) (fun W=>mV p.inc 0 1073741824 W) (fun W=>mV p.st 0 2 W);have c:Hid (k8 p=(cD p.id 1 1099511627776&&cD p.inc 0 1073741824&&cD p.st 0 2)):=aH rfl;generalize k8 p=v at c;generalize cD p.id 1 1099511627776=u1 at g c;generalize cD p.inc 0 1073741824=u2 at h c;generalize cD p.st 0 2=u3 at i c;apply cI;go_in;go_wp2_with fail;simp only[k.out];go_wp2_with fail;refine(g _).mono ?_;rintro j w1 ⟨rfl,a⟩;have c1:=aD a a1;have c2:=aD a a2;have b:=aH (f.trans (a.mono f.size));cases u1
 ·go_wp2_with fail;go_ret;exact⟨by rw[c];rfl,b⟩
 ·go_wp2_with fail;refine(h _).mono ?_;rintro j w2 ⟨rfl,a⟩;have c2:=aD a c2;have b:=aH (b.trans (a.mono b.size));cases u2
  ·go_wp2_with fail;go_ret;exact⟨by rw[c];rfl,b⟩
  ·go_wp2_with fail;refine(i _).mono ?_;rintro j w3 ⟨rfl,a⟩;have b:=aH (b.trans (a.mono b.size));go_wp2_with fail;go_ret;exact⟨by rw[c];rfl,b⟩
theorem kv(n:Int) w(h:n<=1000000000):Cs 251 #[I6 n] w fun e w'=>Rt e (I6 (max n 0 / 2+1))/\w=w':=by
 have a:IntKind.i64.wrap ((max n 0).tdiv 2+1)=max n 0 / 2+1:=by
  rw[Int.tdiv_eq_ediv_of_nonneg (by omega)];exact zZ _ (by omega)
 have b:IntKind.i64.wrap ((max n 0).tdiv 2)=(max n 0).tdiv 2:=by
  rw[Int.tdiv_eq_ediv_of_nonneg (by omega)];exact zZ _ (by omega)
 apply cI;go_in;go_wp2;go_ret;exact⟨rfl,rfl⟩
theorem FV(n:Int):∃k:Nat,k < 16/\bits .and .i64 n 15=k:=by
 have h:(BitVec.ofInt 64 n&&& BitVec.ofInt 64 15).toNat<=15:=by
  rw[BitVec.toNat_and];refine zD Nat.and_le_right ?_;rw[BitVec.toNat_ofInt];omega
 refine⟨_,Nat.lt_succ_of_le h,?_⟩;show IntKind.i64.wrap (((BitVec.ofInt 64 n&&& BitVec.ofInt 64 15).toNat:Nat):Int)=_;exact zZ _ (by omega)
def BU(k:Int):Prop:=1<=k/\k<=64
theorem dY:∀(n:Nat) (l:List Nat),l.Nodup->(∀a∈l,a < n)->l.length<=n
 |0,l,_,h=>by
  cases l with
  |nil=>simp
  |cons a l=>have:=h a jO;omega
 |n+1,l,hn,h=>by
  by_cases hm:n∈l
  ·have c:=dY n (l.erase n) (hn.erase n) (fun a ha=>by
    have b:=(hn.mem_erase_iff).1 ha
    have:=h a b.2
    have:=b.1
    omega)
   rw[List.length_erase_of_mem hm]at c
   omega
  ·have:=dY n l hn (fun a ha=>by
    have:=h a ha
    have:a≠n:=fun e=>hm (e▸ha)
    omega)
   omega
theorem xM{q:IM}(j:(q.map Prod.fst).Nodup)(h:∀p∈q,BU p.1):q.length<=64:=by
 have c:∀k∈q.map Prod.fst,k.toNat - 1∈List.range 64:=fun k hk=>by
  obtain⟨p,f,rfl⟩:=zV.1 hk;have:=h p f;unfold BU at this;simp;omega
 have m:((q.map Prod.fst).map fun k=>k.toNat - 1).Nodup:=by
  refine jE.2 (j.imp_of_mem ?_);intro a b n s x y;obtain⟨p,f,rfl⟩:=zV.1 n;obtain⟨p',g,rfl⟩:=zV.1 s;have t:=h p f;have c:=h p' g;unfold BU at t c;omega
 have:=dY 64 _ m (fun k hk=>by obtain⟨u,i,rfl⟩:=zV.1 hk;simpa using c u i);simpa using this
def eQ(o:Ow)(w:World)(r:Nat)(x:Nat×Nat):Prop:=o r=x/\∃(v:Value) (b:Nat) (need:Int) (l:List Int) (q:IM),am w r 297 #[v,I6 need,.map (some b)]/\cZ aC o x w v l/\l.length<=1000/\o b=x/\b4 w b q/\(∀p∈q,BU p.1/\∃t,p.2=.bool t)
theorem eQ.st(h:eQ o w r x)(a:St p o w o' w')(c:¬p x):eQ o' w' r x:=by
 obtain⟨g,v,b,f,l,q,i,m,n,j,k,s⟩:=h;exact⟨by rw[a.old r (ap i)];exact g,v,b,f,l,q,i.st a (by rw[g];exact c),m.st a c,n,by rw[a.old b k.lt];exact j,k.st a (by rw[j];exact c),s⟩
theorem eQ.below(h:eQ o w r x)(a:Below w.heap.size w w'):eQ o w' r x:=by
 obtain⟨f,v,b,c,l,q,g,i,j,k,m,n⟩:=h;exact⟨f,v,b,c,l,q,am.below g a,i.below a,j,k,m.below a,n⟩
theorem FW{w}{q}(h:b4 w b q)(f:∀p∈q,BU p.1/\∃t,p.2=.bool t)(k:Int):∃t,(Instr.lookup 198 (.map (some b)) (I6 k) false).run prog w=.ok (.bool t) w:=by
 have a:=(h.lookup (P:=prog) (t:=198) (kt:=3) (et:=4) (by kernel_rfl) (by kernel_rfl) (z:=.bool false) (by kernel_rfl) k).2;cases hg:bE q k with
 |none=>rw[hg]at a;exact⟨false,a⟩
 |some v=>
  obtain⟨_,t,c⟩:=f _ (dw hg);rw[hg]at a;exact⟨t,by rw[a];simp at c;rw[c];rfl⟩
theorem BV o(r:Nat) x(k:Int) w(h:eQ o w r x)(hf:aX o w)(hk:BU k):
  Cs 162 #[Pt r,I6 k] w fun e w'=>(∃t,Rt e (.bool t))/\eQ o w' r x/\St (·=x) o w o w':=by
 obtain⟨H,u⟩:=gB h hf;obtain⟨y,v,b,f,l,q,g,i,z,j,c,m⟩:=h;obtain⟨t,D⟩:=FW c m k;obtain⟨G,I,J⟩:=am.three g;have F:=fun w=>fO (P:=prog) (t:=198) (k:=3) (e:=4) (some b) (by kernel_rfl) w;obtain⟨w2,A,n,a⟩:=c.update (P:=prog) (t:=198) (kt:=3) (et:=4) (by kernel_rfl) (by kernel_rfl) k (.bool true);have s:=c.ne g;have B:Hid (eQ o w2 r x):=aH ⟨y,v,b,f,l,_,g.only a s.symm,⟨i.1.keep a (fun k e he=>i.1.ak c (he.trans e.symm)),i.2⟩,z,j,n,fun p hp=>by
  rcases c7 hp with rfl|⟨hp,_⟩
  ·exact⟨hk,true,rfl⟩
  ·exact m p hp⟩
 have C:=aH (St.U (p:=(·=x)) a j hf);cases t
 ·apply cI;go_in;go_wp2;go_ret;exact⟨⟨_,rfl⟩,B,C⟩
 ·apply cI;go_in;go_wp2;go_ret;exact⟨⟨_,rfl⟩,H,St.refl u⟩
theorem vd o(r:Nat) x w(h:eQ o w r x):∃n:Nat,n<=64/\Cs 249 #[Pt r] w fun e w'=>Rt e (I6 (n:Nat))/\w=w':=by
 obtain⟨j,v,b,c,l,q,f,k,m,s,a,g⟩:=h;obtain⟨u,y,z⟩:=am.three f;have i:=fun ty=>a.len (P:=prog) (t:=198) (kt:=3) (et:=4) (by kernel_rfl) ty;refine⟨q.length,xM a.nodup fun p hp=>(g p hp).1,?_⟩;apply cI;go_in;go_wp2;go_ret;exact⟨rfl,rfl⟩
theorem y7 o(r:Nat) x(w:World)(h:eQ o w r x):Cs 163 #[Pt r] w fun e w'=>(∃t,Rt e (.bool t))/\Below w.heap.size w w':=by
 obtain⟨n,i,a⟩:=vd o r x w.drew (h.below (bD _));obtain⟨j,v,b,c,l,q,f,k,m,p,s,u⟩:=h;obtain⟨y,z,A⟩:=am.three f;have g:=aH a;apply cI;go_in;go_wp2;refine aN 11 (by kernel_rfl) (by kernel_rfl) ?_;simp only[zF,zN,zG,zO];repeat still_step
 still_call (g.mono fun _ _ ⟨he,hw⟩=>⟨he,hw.symm⟩);repeat still_step
 refine wpStill_nil ?_;go_wp2;go_ret;exact⟨⟨_,rfl⟩,(bD _)⟩
theorem vf(o:Ow)(r c:Nat)(x:Nat×Nat)(k:Int)(w:World)(b:Nat)(a:Int) v q(h1:am w r 297 #[v,I6 a,.map (some b)])(h5:b4 w b q)(t:Bool)(ht:(bE q k).getD (.bool false)=.bool t)(hc:Ce w c 0 (Pt r)):
  Cs 216 #[I6 k,Pt c] w fun e w'=>Rt e (.bool t)/\w=w':=by
 have f:=(h5.lookup (P:=prog) (t:=198) (kt:=3) (et:=4) (by kernel_rfl) (by kernel_rfl) (z:=.bool false) (by kernel_rfl) k).2;rw[ht]at f;obtain⟨g,h,i⟩:=am.three h1;apply cI;go_in;go_wp2;go_ret;exact⟨rfl,rfl⟩
def b6(E:El α)(w:World)(n:Nat)(P:α->Prop)(e:Ending)(w':World):Prop:=∃l:List α,fk E w l e w'/\l.length<=n/\∀a∈l,P a
theorem kx o(r:Nat) x w(h:eQ o w r x):Cs 124 #[Pt r] w (b6 aC w 1000 fun _=>True):=by
 obtain⟨W0,i,j,m⟩:=dW w #[Pt r] 204;have G:=h.below j;obtain⟨hr,v,b,n,l,q,u,y,H,h4,p,I⟩:=G;obtain⟨y0,y1,y2⟩:=am.three u;have c0:=ce m;have X:r < w.heap.size:=by obtain⟨_,_,_,_,_,_,J,_⟩:=h;exact ap J
 have Y:b < w.heap.size:=by
  rcases jH b w.heap.size with h|h
  ·exact h
  ·have:=p.ne m;have h7:=p.lt;have:W0.heap.size=w.heap.size+1:=by rw[<-i];simp
   omega
 have Z:W0.heap.size=w.heap.size+1:=by rw[<-i];simp
 obtain⟨A,c,rfl,_⟩:=y.rw.slice;obtain⟨L,M,N,O,R⟩:=gE m u y.rw p I;apply cI;go_in;go_upto_region 1 with(fail);simp only[i.out];go_wp2_with fail;refine(fy W0 N (by omega)).mono ?_;rintro S w1 ⟨v1,rfl,a,f⟩;obtain⟨O1,z⟩:=gB a (j.trans (f.mono j.size));have B:∀g,v1.ownBlock=some g->W0.heap.size<=g:=fun g e=>(a.lt g e).1;have T:=aH (ks 216 #[Pt w.heap.size] (fun k=>match bE q k with|some (.bool true)=>true|_=>false) _ v1 l w1 a (by omega) (aQ func216 (by kernel_rfl) (by kernel_rfl)) (fun k W hW=>by
  have s:∀b',b' < W0.heap.size->W.heap[b']?=W0.heap[b']?:=fun b' hb'=>(hW b' (zT hb' f.size) (fun e=>by have:=B b' e;omega)).trans (f.block b' hb');refine vf o r w.heap.size x k W b n _ q ((s r (by omega)).trans M) (O.kept (s b (by omega))) _ ?_ (am.cell (show am W w.heap.size _ _ from(s _ (by omega)).trans L) 0);cases hgk:bE q k with
  |none=>simp[hgk]
  |some v=>
   obtain⟨_,t,C⟩:=R _ (dw hgk);simp only at C;subst C;cases t<;>simp[hgk]))
 go_wp2_with fail;refine T.mono ?_;rintro S w2 ⟨v2,rfl,D,F⟩;obtain⟨U,V⟩:=gB D (z.grown F z.size (fun k e=>by have:=B k e;omega));go_wp2_with fail;go_ret;exact⟨_,⟨v2,rfl,U.mono (by omega),V⟩,zD (qO _ _) H,fun _ _=>trivial⟩
theorem vh o(r:Nat) x(w:World)(h:eQ o w r x):Cs 250 #[Pt r] w fun e w'=>(∃n:Int,Rt e (I6 n))/\Below w.heap.size w w':=by
 have k:=aH (kx o r x w.drew (h.below (bD _)));obtain⟨u,v,b,m,l,q,f,p,y,z,B,C⟩:=h;obtain⟨A,c,rfl,_⟩:=p.rw.slice;have g:=am.cell f 0;have s:=ap f;apply cI;go_in;go_wp2;go_region_held3 (fun w'=>Ce w' r 0 (.slice A l.length c)) (first|exact g|exact aD a g) (first|(go_at_call 124;(with_reducible refine(k.out).mono ?_);rintro D w1 ⟨F,⟨v1,rfl,j,a⟩,t,_⟩;obtain⟨G,c1,rfl,_⟩:=(aK.rw (E:=aC) j).slice;have i:=aH a));all_goals
  go_wp2;go_ret;exact⟨⟨_,rfl⟩,(bP w).trans i⟩
theorem y8 o(r:Nat) x(w:World)(h:eQ o w r x):Cs 164 #[Pt r] w fun e w'=>(∃t,Rt e (.bool t))/\Below w.heap.size w w':=by
 have k:=aH (vh o r x w.drew (h.below (bD _)));obtain⟨u,v,b,m,l,q,f,n,y,z,B,C⟩:=h;obtain⟨A,c,rfl,_⟩:=n.rw.slice;have g:=am.cell f 0;have s:=ap f;have i:=fun W=>kv (l.length:Int) W (by omega);apply cI;go_in;go_wp2;go_region_held3 (fun w'=>Ce w' r 0 (.slice A l.length c)) (first|exact g|exact aD a g|assumption) (first|(go_at_call 250;(with_reducible refine(k.out).mono ?_);rintro p w1 ⟨⟨D,rfl⟩,a⟩;have j:=aH a)|(go_at_call 251;(with_reducible refine(i _).mono ?_);rintro p F ⟨rfl,rfl⟩));all_goals
  go_wp2;go_ret;exact⟨⟨_,rfl⟩,(bP w).trans j⟩
theorem BW o(r:Nat) x w(h:eQ o w r x):Cs 127 #[Pt r] w (b6 aC w 64 BU):=by
 obtain⟨H,v,b,t,l,q,u,I,J,L,j,i⟩:=h;obtain⟨M,N,O⟩:=am.three u;have y:=aH (pi b w);have R:=xM j.nodup fun p c=>(i p c).1;have f:=ba w (.cells #[.map (some b)] 198);obtain⟨z,k,A⟩:=gC (ku w.heap.size b q _ (am.new w 198 #[.map (some b)]) (j.below f) (fun p c=>by have:=(i p c).1;unfold BU at this;unfold bN;omega) (by omega)) f i;apply cI;go_in;go_wp2_with fail;refine y.mono ?_;rintro B S ⟨rfl,rfl⟩;go_wp2_with fail;refine z.mono ?_;rintro B w2 ⟨C,g,v2,rfl,m,n⟩;obtain⟨D,F,G⟩:=gC m n g;have s:=g.length_eq;rw[jD]at s;go_wp2;go_ret;exact⟨C,⟨v2,rfl,D.mono (by simp),k.trans (F.mono k.size)⟩,by omega,fun a ha=>by obtain⟨p,c,rfl⟩:=zV.1 ((G.mem_iff).1 ha);exact(A p c).1⟩
theorem BX{x}{o}{v}{a:Int}(hf:aX o w)(k:Below w.heap.size w wr)(c:am wr r 297 #[v,I6 a,.map (some b)])(g:aK aC w.heap.size wr v l)(m:l.length<=1000)(f:b4 wr b [])(n:w.heap.size<=r)(h:w.heap.size<=b):
  ∃o',eQ o' wr r x/\St (·=x) o w o' wr:=by
 have q:=((St.J (p:=(·=x)) k hf).tag (b:=r) (x:=x) n (ap c) (.inr rfl)).tag (b:=b) (x:=x) h f.lt (.inr rfl);have i:=f.ne c;obtain⟨o2,s,t,j⟩:=cZ.aa g nR q (.inr rfl);have u:o2 r=x:=by
  rcases j r with e|⟨_,e⟩
  ·rw[e,bT i.symm,a8]
  ·exact absurd e.symm (g.ne c (by decide))
 have y:o2 b=x:=by
  rcases j b with e|⟨_,e⟩
  ·rw[e,a8]
  ·exact absurd e.symm (g.ak f)
 exact⟨o2,⟨u,v,b,a,l,[],c,s,m,y,f,by simp⟩,t⟩
theorem BY{v}(f:Int)(w:World)(h:Rw aC w v l)(hl:l.length<=1000)(hn:0<=f) o(hf:aX o w)(i:Nat)(hi:i≠0):
  Cs 354 #[v,I6 f] w fun e w'=>∃r o',Rt e (Pt r)/\w.heap.size<=r/\eQ o' w' r (i,r)/\St (·=(i,r)) o w o' w':=by
 obtain⟨A,c,rfl,_⟩:=h.slice;obtain⟨H,Y⟩:=gB h hf;have ha:=fun W=>cC 198 W;have d1:decide (f < 0)=false:=by simp;omega
 have M:=(ba w (.map #[] 0)).alloc (by simp) (.cells #[aS,I6 f,.map (some w.heap.size)] 297);have N:=(b4.new w).below ((Below.refl (w.alloc (.map #[] 0)).heap.size _).alloc nR (.cells #[aS,I6 f,.map (some w.heap.size)] 297));have F:=am.new (w.alloc (.map #[] 0)) 297 #[aS,I6 f,.map (some w.heap.size)];rw[qA]at F;obtain⟨Z,M0,X0⟩:=gC M N F;apply cI;go_in;go_wp2_with fail;go_step3;go_wp2_with fail;go_step3;go_wp2_with fail;go_loopw[16] (fun vi wr=>∃(k:Nat) (v:Value) (l2:List Int),k<=l.length/\vi=I6 k/\Bw w wr/\b4 wr w.heap.size []/\am wr (w.heap.size+1) 297 #[v,I6 f,.map (some w.heap.size)]/\aK aC w.heap.size wr v l2/\l2.length<=k) (fun vi _=>l.length - (intOf vi).toNat)
 case atStart=>exact⟨0,_,[],by omega,rfl,Z,M0,X0,aK.nil _ _,by simp⟩
 case round=>
  obtain⟨k,v2,l2,hk,rfl,I,hm,O,z,hc⟩:=hrel;obtain⟨J,s,B,u⟩:=gD I hm O z;obtain⟨R,c2,rfl,_⟩:=(aK.rw (E:=aC) z).slice;obtain⟨y0,y1,y2⟩:=am.three O;have G:=I.size;by_cases hlt:k < l.length
  ·obtain⟨g,og,rfl,C⟩:=(H.below I).at_ (zA hlt);have S:Ce wr g (og+k) (I6 l[k]):=by have:=C 0 _ rfl;simpa[aC]using this
   generalize l[k]=t at S;have HC:=aH (cS t wr (aK.rw (E:=aC) z) (by omega));go_wp2_with fail;refine HC.mono ?_;rintro _e _w ⟨rfl,rfl⟩;generalize l2.contains t=bb;cases bb
   ·have T:(l2.length+1)*aC.bytes<=140737488355328:=by show(l2.length+1)*8<=_;omega
    have U:l2.length < 1000000000000000000:=by omega
    have y:aK aC w.heap.size wr (.slice R l2.length c2) l2:=z;go_wp2_with (at_builtin;refine b5 aC rfl (.tmp 30) (.tmp 32) rfl y G t rfl rfl T U ?_;intro v' w6 b a;obtain⟨D,n,hd,V,_⟩:=aK.af (E:=aC) b (by simp);subst V;have m:=am.grown B a (aK.ne (E:=aC) u B (by decide));have M6:=aH (zB b (zB a m));obtain⟨s0,s1,s2⟩:=am.three m;have sf:=fun j=>am.frozen m j;clear b a m y y0 y1 y2 S);obtain⟨b,a,m⟩:=M6.out;have L:(l2++[t]).length=l2.length+1:=by simp
    have G1:=aH (am.I m 0 (.slice (some ⟨D,0,none⟩) (l2.length+1) n));have q:=aK.keep (E:=aC) b (aB w6 (w.heap.size+1) 0 (.slice (some ⟨D,0,none⟩) (l2.length+1) n)) (fun k e he=>aK.ne (E:=aC) b m (by decide) (he.trans e.symm));rw[L]at q;have G2:=aH q;have X:b4 w6 w.heap.size []:=s.kept (a.block _ s.lt (aK.ak (E:=aC) u s));obtain⟨G3,G4⟩:=gB (X.only (aB w6 (w.heap.size+1) 0 (.slice (some ⟨D,0,none⟩) (l2.length+1) n)) (by omega)) ((J.grown a G (fun k e=>(aK.lt (E:=aC) u k e).1)).setCell (p:=⟨w.heap.size+1,0,none⟩) (by simp) (.slice (some ⟨D,0,none⟩) (l2.length+1) n));go_wp2_with fail;go_roundw
    case rel=>exact⟨k+1,_,l2++[t],by omega,by go_num,G4,G3,G1,G2,by simp;omega⟩
    case measure=>simp[intOf];omega
   ·go_wp2_with fail;go_roundw
    case rel=>exact⟨k+1,_,l2,by omega,by go_num,J,s,B,u,by omega⟩
    case measure=>simp[intOf];omega
  ·obtain⟨o',k1,k2⟩:=BX (x:=(i,w.heap.size+1)) Y J B u (by omega) s (by omega) nR;obtain⟨K1,K2⟩:=gB k1 k2;go_wp2_with fail;rw[qJ];go_ret;exact⟨_,o',rfl,by omega,K1,K2⟩
theorem lF(m:Option Nat)(h:P.underlying t=some (.map k e)) w:(binOp .neq t (.map m) (.map none)).run P w=.ok (.bool (!m.isNone)) w:=by
 simp only[binOp];simp[jn m h w]
theorem eF{w}{q}(h:b4 w b q)(f:∀p∈q,∃t,p.2=.bool t)(k:Int):∃t u,(Instr.lookup 198 (.map (some b)) (I6 k) false).run prog w=.ok (.bool t) w/\(Instr.lookup 198 (.map (some b)) (I6 k) true).run prog w=.ok (.tuple #[.bool t,.bool u]) w:=by
 have a:=h.lookup (P:=prog) (t:=198) (kt:=3) (et:=4) (by kernel_rfl) (by kernel_rfl) (z:=.bool false) (by kernel_rfl) k;cases hg:bE q k with
 |none=>rw[hg]at a;exact⟨false,false,a.2,a.1⟩
 |some v=>
  obtain⟨t,c⟩:=f _ (dw hg);simp only at c;subst c;rw[hg]at a;exact⟨t,true,a.2,a.1⟩
def cM(d:bC)(rc:Int)(o:Ow)(w:World)(r:Nat)(x:Nat×Nat):Prop:=o r=x/\∃(v:Value) (a1 a2 a3 s:Int) (b:Nat) (l:List Int) (q:IM),am w r 330 #[I6 d.nd,I6 d.n,I6 rc,v,I6 a1,I6 a2,I6 a3,.map (some b),I6 s]/\cZ aC o x w v l/\l.length<=64/\o b=x/\b4 w b q/\∀p∈q,∃t,p.2=.bool t
theorem cM.lt(h:cM d rc o w r x):r < w.heap.size:=by obtain⟨_,_,_,_,_,_,_,_,_,h,_⟩:=h;exact ap h
theorem cM.st(h:cM d rc o w r x)(a:St p o w o' w')(c:¬p x):cM d rc o' w' r x:=by
 obtain⟨f,v,a1,a2,a3,s,b,l,q,g,k,m,i,j,n⟩:=h;exact⟨by rw[a.old r (ap g)];exact f,v,a1,a2,a3,s,b,l,q,g.st a (by rw[f];exact c),k.st a c,m,by rw[a.old b j.lt];exact i,j.st a (by rw[i];exact c),n⟩
theorem cM.below(h:cM d rc o w r x)(a:Below w.heap.size w w'):cM d rc o w' r x:=by
 obtain⟨c,v,a1,a2,a3,s,b,l,q,f,g,i,j,k,m⟩:=h;exact⟨c,v,a1,a2,a3,s,b,l,q,am.below f a,g.below a,i,j,k.below a,m⟩
theorem cM.cells(h:cM d rc o w r x):∃(A:Option Addr) (c:Nat) (a1 a2 a3 s:Int) (b:Nat) (l:List Int) (q:IM),Ce w r 0 (I6 d.nd)/\Ce w r 1 (I6 d.n)/\Ce w r 2 (I6 rc)/\Ce w r 3 (.slice A l.length c)/\
  Ce w r 4 (I6 a1)/\Ce w r 5 (I6 a2)/\Ce w r 6 (I6 a3)/\Ce w r 7 (.map (some b))/\Ce w r 8 (I6 s)/\l.length<=64/\Rw aC w (.slice A l.length c) l/\b4 w b q/\(∀p∈q,∃t,p.2=.bool t)/\∀j,w.frozen? ⟨r,j,none⟩=false:=by
 obtain⟨m,v,a1,a2,a3,s,b,l,q,a,f,g,n,i,k⟩:=h;obtain⟨A,c,rfl,_⟩:=f.rw.slice;exact⟨A,c,a1,a2,a3,s,b,l,q,am.cell a 0,am.cell a 1,am.cell a 2,am.cell a 3,am.cell a 4,am.cell a 5,am.cell a 6,am.cell a 7,am.cell a 8,g,f.rw,i,k,fun j=>am.frozen a j⟩
theorem cM.state(h:cM d rc o w r x)(z:Int):cM d rc o (w.setCell ⟨r,8,none⟩ (I6 z)) r x:=by
 obtain⟨g,v,a1,a2,a3,s,b,l,q,a,c,i,j,f,m⟩:=h;exact⟨g,v,a1,a2,a3,z,b,l,q,am.I a 8 _,⟨c.1.keep (aB _ _ _ _) (fun k e he=>c.1.ne a (by decide) (he.trans e.symm)),c.2⟩,i,j,f.only (aB _ _ _ _) (f.ne a),m⟩
theorem fq{d}{o}{w}{x}(h:cM d rc o w r x):Cs 260 #[Pt r] w fun e w'=>Rt e (.bool true)/\w=w':=by
 obtain⟨A,c,a1,a2,a3,s,b,l,q,f,g,i,j,m,n,p,u,y,_,_,_,_,_⟩:=h.cells;have a:=fun w=>lF (P:=prog) (t:=198) (k:=3) (e:=4) (some b) (by kernel_rfl) w;apply cI;go_in;go_wp2;go_ret;exact⟨rfl,rfl⟩
theorem y9 w:Cs 260 #[.pointer none] w fun e w'=>Rt e (.bool false)/\w=w':=by
 apply cI;go_in;go_wp2;go_ret;exact⟨rfl,rfl⟩
theorem vi w:Cs 171 #[.pointer none] w fun e w'=>Rt e (I6 2)/\w=w':=by
 apply cI;go_in;go_wp2_with fail;refine(y9 _).mono ?_;rintro a b ⟨rfl,rfl⟩;go_wp2;go_ret;exact⟨rfl,rfl⟩
theorem fB{d}{o}{x}(h:cM d rc o w r x)(s:Int)(b:Ce w r 8 (I6 s)):Cs 171 #[Pt r] w fun e w'=>Rt e (I6 s)/\w=w':=by
 have a:=aH (fq h);apply cI;go_in;go_wp2_with fail;refine a.mono ?_;rintro c f ⟨rfl,rfl⟩;go_wp2;go_ret;exact⟨rfl,rfl⟩
theorem ie{d}{o}{w}{x}(h:cM d rc o w r x):Cs 264 #[Pt r] w fun e w'=>Rt e (I6 rc)/\w=w':=by
 have a:=aH (fq h);obtain⟨A,c,a1,a2,a3,s,b,l,q,f,g,i,_⟩:=h.cells;apply cI;go_in;go_wp2_with fail;refine a.mono ?_;rintro j k ⟨rfl,rfl⟩;go_wp2;go_ret;exact⟨rfl,rfl⟩
theorem iQ{o}{x}(h:cM d rc o w r x):Cs 261 #[Pt r] w fun e w'=>Rt e (.agg #[I6 d.nd,I6 d.n])/\Below w.heap.size w w':=by
 obtain⟨W0,k,f,a⟩:=dW w #[I6 0,I6 0] 42;have g:=h.below f;have m:=aH (fq g);obtain⟨A,c,a1,a2,a3,s,b,l,q,y,z,_⟩:=g.cells;obtain⟨z0,B⟩:=am.two a;have C:=fun j=>am.frozen a j;have n:=am.two (show am ((W0.setCell ⟨w.heap.size,0,none⟩ (I6 d.nd)).setCell ⟨w.heap.size,1,none⟩ (I6 d.n)) w.heap.size 42 #[I6 d.nd,I6 d.n]from am.I (am.I a 0 _) 1 _);have i:=aH ((f.setCell (p:=⟨w.heap.size,0,none⟩) (by simp) (I6 d.nd)).setCell (p:=⟨w.heap.size,1,none⟩) (by simp) (I6 d.n));obtain⟨u0,u1⟩:=n;obtain⟨t,u⟩:=gB u0 u1;apply cI;go_in;go_upto_region 1 with(fail);simp only[k.out];go_wp2_with fail;refine m.mono ?_;rintro D F ⟨rfl,rfl⟩;go_wp2_with fail;have u0:=t.out;have u1:=u.out;refine bodyPost_ret (v:=.agg #[I6 d.nd,I6 d.n]) (by simp[results,results261,go_sem,u0,u1]) rfl ?_;exact⟨rfl,i⟩
theorem sj{d}{o}{w}{x}(h:cM d rc o w r x):Cs 308 #[Pt r] w (b6 aC w 64 fun _=>True):=by
 have i:=aH (fq h);obtain⟨A,c,a1,a2,a3,s,b,l,q,t,u,y,z,B,C,D,F,G,j,a,_⟩:=h.cells;have k:=aH (fy w a (by omega));apply cI;go_in;go_wp2_with fail;refine i.mono ?_;rintro m H ⟨rfl,rfl⟩;go_wp2_with fail;refine k.mono ?_;rintro m w1 ⟨v1,rfl,f,g⟩;obtain⟨n,p⟩:=gB f g;go_wp2;go_ret;exact⟨l,⟨v1,rfl,n,p⟩,j,fun _ _=>trivial⟩
theorem vj{d}{o}{x}(h:cM d rc o w r x):Cs 383 #[Pt r] w fun e w'=>(∃n:Int,Rt e (I6 n))/\Below w.heap.size w w':=by
 have a:=aH (fq h);obtain⟨A,c,a1,a2,a3,s,b,l,q,f,g,i,j,k,m,_⟩:=h.cells;apply cI;go_in;go_wp2_with fail;refine a.mono ?_;rintro p t ⟨rfl,rfl⟩;go_wp2;go_quiet (fail);go_wp2;go_ret;exact⟨⟨_,rfl⟩,below_drewN (bR _) _⟩
theorem za{d}{o}{x}(h:cM d rc o w r x):Cs 345 #[Pt r] w fun e w'=>(∃n:Int,Rt e (I6 n))/\Below w.heap.size w w':=by
 have i:=aH (fq h);obtain⟨A,c,a1,a2,a3,s,b,l,q,p,t,u,y,z,B,f,_⟩:=h.cells;have j:=aH (vj (h.below (bD _)));have m:=h.lt;apply cI;go_in;go_wp2_with fail;refine i.mono ?_;rintro k C ⟨rfl,rfl⟩;go_wp2;go_region_held3 (fun w'=>Ce w' r 6 (I6 a3)) (first|exact f|exact aD a f) (first|(go_at_call 383;(with_reducible refine(j.out).mono ?_);rintro k w1 ⟨⟨D,rfl⟩,a⟩;have g:=aH a));all_goals
  go_wp2;go_ret;exact⟨⟨_,rfl⟩,(bP w).trans g⟩
theorem jy{d}{o}{x}(a:Int)(h:cM d rc o w r x):Cs 262 #[Pt r,I6 a] w fun e w'=>(∃t,Rt e (.bool t))/\Below w.heap.size w w':=by
 obtain⟨A,c,a1,a2,a3,s,b,l,q,y,z,B,C,D,F,G,H,k,_⟩:=h.cells;obtain⟨f,m⟩:=gB (fB h s k) (za h);obtain⟨n,u⟩:=nx (s==1);cases n
 ·apply cI;go_in;go_wp2_with fail;refine f.mono ?_;rintro g p ⟨rfl,rfl⟩;go_wp2;go_ret;exact⟨⟨_,rfl⟩,bR _⟩
 ·apply cI;go_in;go_wp2_with fail;refine f.mono ?_;rintro g p ⟨rfl,rfl⟩;go_wp2_with fail;refine m.mono ?_;rintro g w1 ⟨⟨I,rfl⟩,i⟩;have j:=aH i;go_wp2;go_ret;exact⟨⟨_,rfl⟩,j⟩
theorem sk{d}{o}{w}{x}(h:cM d rc o w r x)(hf:aX o w):Cs 282 #[Pt r] w fun e w'=>Rt e (.tuple #[])/\cM d rc o w' r x/\St (·=x) o w o w':=by
 obtain⟨H,f⟩:=gB h hf;obtain⟨A,c,a1,a2,a3,s,b,l,q,t,u,y,B,C,D,F,G,g,_,_,_,_,I⟩:=h.cells;obtain⟨i,a⟩:=gB (fB h s g) (fun z=>zB (h.state z) (St.U (p:=(·=x)) (aB w r 8 (I6 z)) h.1 hf));obtain⟨j,m⟩:=nx (s==1);obtain⟨k,n⟩:=nx (s==0);cases j<;>cases k;all_goals
  apply cI;go_in;go_wp2_with fail;refine i.mono ?_;rintro J L ⟨rfl,rfl⟩;go_wp2;go_end0;first|exact⟨rfl,(a _).1,(a _).2⟩|exact⟨rfl,H,St.refl f⟩
theorem ky(w:World)(os:Array Obj) row:w.grownBy (Sort.grow w os) row:=
 ⟨rfl,rfl,rfl,by show w.heap.size<=(w.heap++os).size;rw[xE];omega,fun k hk _=>Sort.heap_grow_old w os hk⟩
theorem zb(base:Nat)(v:Value)(l:List Int)(w:World)(h:aK aC base w v l)(D:l.length < 4611686018427387904):
  Cs 122 #[v] w fun e w'=>Rt e (.tuple #[])/\∃m:List Int,m.length=l.length/\aK aC base w' v m/\w.grownBy w' v.ownBlock:=by
 rcases qK l.length with h0|h0
 ·obtain⟨A,c,rfl,u⟩:=bV h;have F:=h;rw[h0];refine(Tryz.slices_Sort_int_none A c w).mono ?_;rintro e w' ⟨rfl,rfl⟩;exact⟨rfl,l,h0,by rw[<-h0];exact F,jQ _ _⟩
 ·obtain⟨g,cap,sp,rfl,G,a,i,H,z⟩:=h.af h0;have s:=a.bl i;refine(Tryz.slices_Sort_int g 0 cap l w ?_ (ap a) D).mono ?_
  ·intro j B;have C:j < l.length:=by simpa using B
   obtain⟨g',o,t,u⟩:=s.at_ (zA C);injection t with t;injection t with b f;subst b;subst f;refine⟨?_,a.frozen _⟩;have:=u 0 _ rfl;rw[getElem!_pos l.toArray j B];simpa[aC]using this
  ·rintro e w' ⟨rfl,n,os,rfl⟩;have p:(l.mergeSort fun x y=>decide (x<=y)).length=l.length:=yX _;obtain⟨b,f⟩:=mQ (q:=n) (m:=l.mergeSort fun x y=>decide (x<=y)) 0 a G i H z (by omega);rw[p,Nat.sub_self,List.replicate_zero,qU]at b f;exact⟨rfl,_,p,aK.keep (E:=aC) b (ky _ os none) (fun k _ e=>by cases e),f.andThen (ky _ os (some g)) (fun j e=>.inr e)⟩
structure sm(base:Nat)(w:World)(bo:Nat)(v:Value)(l:List Int):Prop where
 box:am w bo 34 #[v]
 own:aK aC base w v l
def BS(a:Nat)(v:Value)(b:Nat):Prop:=b=a\/v.ownBlock=some b
theorem zc{d}{o}{x}(base C D i:Nat)(k:Int)(z:Bool) v(l:List Int)(h:cM d rc o w r x)(h1:Ce w C 0 (Pt r))(h2:Ce w D 0 (.bool z))(hB:sm base w i v l)(hb:base<=w.heap.size)(hl:l.length<=1000):
  Cs 344 #[I6 k,Pt C,Pt D,Pt i] w fun e w'=>Rt e (.tuple #[])/\∃v' l',sm base w' i v' l'/\l'.length<=l.length+1/\cX (BS i v) w w':=by
 obtain⟨A,c,a1,a2,a3,s,b,Z,q,y0,y1,y2,y3,y4,y5,y6,y7,y8,T,U,J,L,yf⟩:=h.cells;obtain⟨t,u,_,V⟩:=eF J L k;obtain⟨M,c2,rfl,_⟩:=(aK.rw (E:=aC) hB.own).slice;have z0:=ce hB.box;have H:=aH hB;have m:=hB.own;obtain⟨N,X⟩:=nx (t==z);cases u
 ·clear m;apply cI;go_in;go_wp2_with fail;go_end0;exact⟨rfl,_,l,H,by omega,cX.refl⟩
 cases N
 ·clear m;apply cI;go_in;go_wp2_with fail;go_end0;exact⟨rfl,_,l,H,by omega,cX.refl⟩
 ·have F:(l.length+1)*aC.bytes<=140737488355328:=by show(l.length+1)*8<=_;omega
  have G:l.length < 1000000000000000000:=by omega
  apply cI;go_in;go_wp2_with (at_builtin;refine b5 aC rfl (.tmp 22) (.tmp 24) rfl m hb k rfl rfl F G ?_;intro v' w6 f a;obtain⟨y,n,Y,I,_⟩:=aK.af (E:=aC) f (by simp);subst I;have g:=am.grown H.box a (aK.ne (E:=aC) H.own H.box (by decide));have O:=aH (zB f (zB a g));have s0:=am.cell g 0;have sf:=fun j=>am.frozen g j;clear f a g m z0);obtain⟨f,a,g⟩:=O.out;have B:(l++[k]).length=l.length+1:=by simp
  have p:=aK.keep (E:=aC) f (aB w6 i 0 (.slice (some ⟨y,0,none⟩) (l.length+1) n)) (fun j e he=>aK.ne (E:=aC) f g (by decide) (he.trans e.symm));rw[B]at p;have R:Hid (sm base (w6.setCell ⟨i,0,none⟩ (.slice (some ⟨y,0,none⟩) (l.length+1) n)) i (.slice (some ⟨y,0,none⟩) (l.length+1) n) (l++[k])):=aH ⟨am.I g 0 _,p⟩;have S:Hid (cX (BS i (.slice M l.length c2)) w (w6.setCell ⟨i,0,none⟩ (.slice (some ⟨y,0,none⟩) (l.length+1) n))):=aH (cX.trans ⟨a.os,a.tape,a.output,a.size,fun j hj hs=>a.block j hj (fun e=>hs (.inr e.symm))⟩ (cX.U (aB _ _ _ _) (.inl rfl)));go_end0;exact⟨rfl,_,l++[k],R,by simp,S⟩
theorem sn{d}{o}{w}{x}(p:Bool)(h:cM d rc o w r x):Cs 259 #[Pt r,.bool p] w (b6 aC w 64 fun _=>True):=by
 obtain⟨W0,M,N,O,Z,x3⟩:=Ej w #[Pt r] #[.bool p] #[aS] 205 4 34;have ha:W0.heap.size=w.heap.size+1+1+1:=by rw[<-M];simp
 obtain⟨A,c,a1,a2,a3,s,b,l,q,y0,y1,y2,R,y4,y5,y6,y7,y8,hc,S,hm,hq,yf⟩:=h.cells;have y3:=aD N R;have T:=ce O;obtain⟨X1,X2,X3,H0,HR⟩:=gE O Z x3 h S;have G:aK aC w.heap.size W0 (aS) []:=aK.nil _ _;have HN:=aH G;apply cI;go_in;go_upto_region 3 with(fail);simp only[M.out];go_wp2_with fail;go_loopw[15] (fun vi wr=>∃(k:Nat) (v2:Value) (u:List Int),k<=l.length/\vi=I6 k/\Bw w wr/\sm w.heap.size wr (w.heap.size+1+1) v2 u/\u.length<=k/\am wr w.heap.size 205 #[Pt r]/\am wr (w.heap.size+1) 4 #[.bool p]) (fun vi _=>l.length - (intOf vi).toNat)
 case atStart=>exact⟨0,_,[],by omega,rfl,N,⟨X3,HN⟩,by simp,X1,X2⟩
 case round=>
  obtain⟨k,v2,u,hk,rfl,y,f,hd,B,C⟩:=hrel;obtain⟨i,n,U,V⟩:=gD y f B C;have D:=y.size;by_cases hlt:k < l.length
  ·obtain⟨g,og,rfl,z⟩:=(HR.below y).at_ (zA hlt);have T:Ce wr g (og+k) (I6 l[k]):=by have:=z 0 _ rfl;simpa[aC]using this
   generalize l[k]=t at T;have HC:=aH (zc w.heap.size w.heap.size (w.heap.size+1) (w.heap.size+1+1) t p v2 u (H0.below y) (am.cell B 0) (am.cell C 0) f D (by omega));go_wp2_with fail;refine HC.mono ?_;rintro _e w3 ⟨rfl,v3,l3,X,he,a⟩;have H:∀j,BS (w.heap.size+1+1) v2 j->w.heap.size<=j:=fun j hj=>by
    rcases hj with rfl|hj
    ·omega
    ·exact(aK.lt (E:=aC) n.own j hj).1
   have I:Hid (Bw w w3):=aH ⟨a.os.trans i.os,a.tape.trans i.tape,a.output.trans i.output,zD i.size a.size,fun j hj=>(a.block j (zT hj i.size) (fun hs=>by have:=H j hs;omega)).trans (i.block j hj)⟩;have J:=aH X;have G3:=aH (a.blk U (fun hs=>by
    rcases hs with hs|hs
    ·omega
    ·exact aK.ne (E:=aC) n.own U (by decide) hs.symm))
   have G4:=aH (a.blk V (fun hs=>by
    rcases hs with hs|hs
    ·omega
    ·exact aK.ne (E:=aC) n.own V (by decide) hs.symm))
   go_wp2_with fail;go_roundw
   case rel=>exact⟨k+1,v3,l3,by omega,by go_num,I,J,by omega,G3,G4⟩
   case measure=>simp[intOf];omega
  ·have z0:=ce f.box;have HS:=aH (zb w.heap.size v2 u wr f.own (by omega));have L:=f.own;obtain⟨A9,c9,rfl,_⟩:=(aK.rw (E:=aC) L).slice;go_wp2_with fail;refine HS.mono ?_;rintro _e w3 ⟨rfl,m,hf,Y,F⟩;obtain⟨I,J⟩:=gB Y (i.grown F D (fun j e=>(aK.lt (E:=aC) n.own j e).1));have z3:Ce w3 (w.heap.size+1+1) 0 (.slice A9 u.length c9):=am.cell (am.grown n.box F (aK.ne (E:=aC) n.own n.box (by decide))) 0;go_wp2_with fail;go_ret;exact⟨m,⟨_,rfl,I,J⟩,by omega,fun _ _=>trivial⟩
theorem so{d}{o}{w}{x}(k:Int)(m:Bool)(h:cM d rc o w r x)(hf:aX o w):Cs 170 #[Pt r,I6 k,.bool m] w fun e w'=>(∃t,Rt e (.bool t))/\cM d rc o w' r x/\St (·=x) o w o w':=by
 obtain⟨H,N⟩:=gB h hf;have G:=h.1;obtain⟨hr,v,a1,a2,a3,s,b,l,q,f,n,h3,T,C,U⟩:=id h;obtain⟨A,c,rfl,_⟩:=n.rw.slice;obtain⟨t,u,_,hh⟩:=eF C U k;obtain⟨w2,hd,V,i⟩:=C.update (P:=prog) (t:=198) (kt:=3) (et:=4) (by kernel_rfl) (by kernel_rfl) k (.bool m);have I:b≠r:=C.ne f;have X:Hid (cM d rc o w2 r x):=aH ⟨hr,_,a1,a2,a3,s,b,l,_,f.only i I.symm,⟨n.1.keep i (fun k e he=>n.1.ak C (he.trans e.symm)),n.2⟩,h3,T,V,fun p hp=>by
  rcases c7 hp with rfl|⟨hp,_⟩
  ·exact⟨m,rfl⟩
  ·exact U p hp⟩
 obtain⟨J,D,F⟩:=gC (St.U (p:=(·=x)) i T hf) (fB h s (am.cell f 8)) (cS k w n.rw (by omega));have y3:=ef f;have y7:=fb f;have z3:=ef (f.only i I.symm);obtain⟨O,Y⟩:∃O:Int,∀W,Cs 251 #[I6 l.length] W fun e w'=>Rt e (I6 O)/\W=w':=⟨_,fun W=>kv (l.length:Int) W (by omega)⟩;have Z:=ap f;obtain⟨b0,hj⟩:=nx (s != 0);cases b0;rotate_left
 ·apply cI;go_in;go_wp2_with fail;refine D.mono ?_;rintro a g ⟨rfl,rfl⟩;go_wp2_with fail;go_ret;exact⟨⟨_,rfl⟩,H,St.refl N⟩
 obtain⟨b1,ha⟩:=nx (l.contains k);rw[ha]at F;cases b1
 ·apply cI;go_in;go_wp2_with fail;refine D.mono ?_;rintro a g ⟨rfl,rfl⟩;go_wp2_with fail;refine F.mono ?_;rintro a g ⟨rfl,rfl⟩;go_wp2_with fail;go_ret;exact⟨⟨_,rfl⟩,H,St.refl N⟩
 cases u
 ·apply cI;go_in;go_wp2_with fail;refine D.mono ?_;rintro a g ⟨rfl,rfl⟩;go_wp2_with fail;refine F.mono ?_;rintro a g ⟨rfl,rfl⟩;go_wp2_with fail;refine(Y _).mono ?_;rintro a g ⟨rfl,rfl⟩;go_wp2_with fail;refine(sn true X).mono ?_;rintro a w4 ⟨l4,⟨v4,rfl,hb,j⟩,hk,_⟩;obtain⟨A4,c4,rfl,_⟩:=(aK.rw (E:=aC) hb).slice;obtain⟨y,R⟩:=gB (X.below j) (J.below j);have L:=aD j z3;have hg:r < w4.heap.size:=zT (zT Z J.size) j.size;obtain⟨_,_,_,_,_,_,_,_,_,_,_,_,_,_,_,_,_,hl,_,_,_,_,hm⟩:=y.cells;have Z4:=aH (fun z=>zB (y.state z) (R.trans (St.U (p:=(·=x)) (aB w4 r 8 (I6 z)) G R.far)));obtain⟨b5,hn⟩:=nx (decide (O<=(l4.length:Int)));cases b5
  ·have HD:=aH (sn false (y.below (bD _)));go_wp2_with fail;go_region_held3 (fun w'=>Ce w' r 3 (.slice A l.length c)) (first|exact L|exact aD M L) (first|(go_at_call 259;(with_reducible refine(HD.out).mono ?_);rintro a w6 ⟨l6,⟨v6,rfl,hc,M⟩,ho,_⟩;obtain⟨A6,c6,rfl,_⟩:=(aK.rw (E:=aC) hc).slice;have B:=aH M));all_goals
    obtain⟨_,_,_,_,_,_,_,_,_,_,_,_,_,_,_,_,_,hq,_,_,_,_,hs⟩:=(y.below ((bP w4).trans B)).cells;obtain⟨S,T6⟩:=gB (R.below ((bP w4).trans B)) (y.below ((bP w4).trans B));have Z6:=aH (fun z=>zB (T6.state z) (S.trans (St.U (p:=(·=x)) (aB _ r 8 (I6 z)) G S.far)));go_wp2_with fail;all_goals
     go_ret;first|exact⟨⟨_,rfl⟩,T6,S⟩|exact⟨⟨_,rfl⟩,(Z6 _).1,(Z6 _).2⟩
  ·go_wp2_with fail;go_ret;exact⟨⟨_,rfl⟩,(Z4 _).1,(Z4 _).2⟩
 ·apply cI;go_in;go_wp2_with fail;refine D.mono ?_;rintro a g ⟨rfl,rfl⟩;go_wp2_with fail;refine F.mono ?_;rintro a g ⟨rfl,rfl⟩;go_wp2_with fail;go_ret;exact⟨⟨_,rfl⟩,H,St.refl N⟩
theorem fP(n a b:Int) w:Cs 357 #[I6 n,I6 a,I6 b] w fun e w'=>Rt e (.bool (cD n a b))/\w=w':=by
 have c:Hid (cD n a b=(decide (a<=n)&&decide (n<=b))):=aH rfl;obtain⟨f,g⟩:=nx (decide (a<=n));obtain⟨i,h⟩:=nx (decide (n<=b));rw[g,h]at c;cases f
 ·apply cI;go_in;go_wp2;go_ret;exact⟨by rw[c];rfl,rfl⟩
 ·apply cI;go_in;go_wp2;go_ret;exact⟨by rw[c];simp,rfl⟩
theorem sr(n a b:Int) w:Cs 244 #[I6 n,I6 a,I6 b] w fun e w'=>Rt e (.bool (cD n a b))/\w=w':=by
 have c:Hid (cD n a b=(decide (a<=n)&&decide (n<=b))):=aH rfl;obtain⟨f,g⟩:=nx (decide (a<=n));obtain⟨i,h⟩:=nx (decide (n<=b));rw[g,h]at c;cases f
 ·apply cI;go_in;go_wp2;go_ret;exact⟨by rw[c];rfl,rfl⟩
 ·apply cI;go_in;go_wp2;go_ret;exact⟨by rw[c];simp,rfl⟩
theorem ew(n a b:Int) w:Cs 35 #[I6 n,I6 a,I6 b] w fun e w'=>Rt e (.bool (cD n a b))/\w=w':=by
 have c:Hid (cD n a b=(decide (a<=n)&&decide (n<=b))):=aH rfl;obtain⟨f,g⟩:=nx (decide (a<=n));obtain⟨i,h⟩:=nx (decide (n<=b));rw[g,h]at c;cases f
 ·apply cI;go_in;go_wp2;go_ret;exact⟨by rw[c];rfl,rfl⟩
 ·apply cI;go_in;go_wp2;go_ret;exact⟨by rw[c];simp,rfl⟩
theorem BZ{v} w(h:Rw aC w v l)(hl:l.length<=100000):Cs 356 #[v] w (b6 aC w l.length fun a=>a∈l):=by
 obtain⟨A,c,rfl,_⟩:=h.slice;have H:=aH h;have hc:=fun W=>cC 198 W;obtain⟨I,J⟩:=gB (b4.new w) (ba w (.map #[] 0));apply cI;go_in;go_wp2_with fail;go_step3;go_wp2_with fail;go_step3;go_wp2_with fail;go_loopw[4,10] (fun v4 vi wr=>∃(k:Nat) (l2:List Int) (q:IM),k<=l.length/\vi=I6 k/\Bw w wr/\b4 wr w.heap.size q/\(∀p∈q,∃t,p.2=.bool t)/\aK aC w.heap.size wr v4 l2/\l2.length<=k/\∀a∈l2,a∈l) (fun _ vi _=>l.length - (intOf vi).toNat)
 case atStart=>exact⟨0,[],[],by omega,rfl,J,I,by simp,aK.nil _ _,by simp,by simp⟩
 case round=>
  obtain⟨k,l2,q,hk,rfl,i,j,B,m,hd,n⟩:=hrel;obtain⟨L,Y,M,N,C⟩:=gE i j B m n;obtain⟨O,c2,rfl,_⟩:=(aK.rw (E:=aC) m).slice;have hf:=i.size;by_cases hlt:k < l.length
  ·obtain⟨g,Z,rfl,x⟩:=(H.below i).at_ (zA hlt);have c0:Ce wr g (Z+k) (I6 l[k]):=by have:=x 0 _ rfl;simpa[aC]using this
   have R:=aH (zY hlt);generalize l[k]=t at c0 R;obtain⟨tb,u,hg,_⟩:=eF j B t;obtain⟨w5,D,S,z⟩:=j.update (P:=prog) (t:=198) (kt:=3) (et:=4) (by kernel_rfl) (by kernel_rfl) t (.bool true);obtain⟨T,F⟩:=gB (z.ct (w0:=w) nR i) S;have b:=aK.keep (E:=aC) m z (fun k e he=>aK.ak (E:=aC) m j (he.trans e.symm));have Q5:Hid (∀p∈dI q t (.bool true),∃t,p.2=.bool t):=aH fun p hp=>by
    rcases c7 hp with rfl|⟨hp,_⟩
    ·exact⟨true,rfl⟩
    ·exact M p hp
   have s:=T.size;cases tb
   ·have U:(l2.length+1)*aC.bytes<=140737488355328:=by show(l2.length+1)*8<=_;omega
    have V:l2.length < 1000000000000000000:=by omega
    have X:=aH b;have G:aK aC w.heap.size w5 (.slice O l2.length c2) l2:=b;go_wp2_with (at_builtin;refine b5 aC rfl (.tmp 19) (.tmp 21) rfl G s t rfl rfl U V ?_;intro v' w6 y f);obtain⟨G1,G2⟩:=gB y (T.grown f s (fun k e=>(aK.lt (E:=aC) X k e).1));have G3:Hid (b4 w6 w.heap.size (dI q t (.bool true))):=aH (F.kept (f.block _ F.lt (aK.ak (E:=aC) X F)));go_wp2_with fail;go_roundw
    case rel=>exact⟨k+1,l2++[t],_,by omega,by go_num,G2,G3,Q5,G1,by simp;omega,fun a ha=>by
     rcases zK.1 ha with ha|ha
     ·exact C a ha
     ·rw[qR]at ha;subst ha;exact R⟩
    case measure=>simp[intOf];omega
   ·clear b D;go_wp2_with fail;go_roundw
    case rel=>exact⟨k+1,l2,q,by omega,by go_num,L,Y,M,N,by omega,C⟩
    case measure=>simp[intOf];omega
  ·clear i j B m n;go_wp2_with fail;rw[qJ];go_ret;exact⟨l2,⟨_,rfl,N,L⟩,by omega,C⟩
theorem B0{a1 a2 a3 s:Int}{x}{o}{v}(hf:aX o w)(j:Below w.heap.size w wr)(a:am wr r 330 #[I6 d.nd,I6 d.n,I6 rc,v,I6 a1,I6 a2,I6 a3,.map (some b),I6 s])(f:aK aC w.heap.size wr v l)(k:l.length<=64)(c:b4 wr b [])(m:w.heap.size<=r)(g:w.heap.size<=b):
  ∃o',cM d rc o' wr r x/\St (·=x) o w o' wr:=by
 have n:=((St.J (p:=(·=x)) j hf).tag (b:=r) (x:=x) m (ap a) (.inr rfl)).tag (b:=b) (x:=x) g c.lt (.inr rfl);have h:=c.ne a;obtain⟨o2,q,t,i⟩:=cZ.aa f nR n (.inr rfl);have u:o2 r=x:=by
  rcases i r with e|⟨_,e⟩
  ·rw[e,bT h.symm,a8]
  ·exact absurd e.symm (f.ne a (by decide))
 have y:o2 b=x:=by
  rcases i b with e|⟨_,e⟩
  ·rw[e,a8]
  ·exact absurd e.symm (f.ak c)
 exact⟨o2,⟨u,v,a1,a2,a3,s,b,l,[],a,q,k,y,c,by simp⟩,t⟩
def FX(d:bC)(rc:Int)(o:Ow)(i:Nat)(w:World)(e:Ending)(w':World):Prop:=(Rt e (.pointer none)/\Below w.heap.size w w')\/∃r o',Rt e (Pt r)/\w.heap.size<=r/\cM d rc o' w' r (i,r)/\St (·=(i,r)) o w o' w'
theorem B1{v}(d:bC)(rc a1 a2 a3:Int) w(h:Rw aC w v l)(hl:l.length<=100000) o(hf:aX o w)(i:Nat):
  Cs 279 #[.agg #[I6 d.nd,I6 d.n],I6 rc,v,I6 a1,I6 a2,I6 a3] w (FX d rc o i w):=by
 obtain⟨W0,u,f,y⟩:=dW w #[I6 d.nd,I6 d.n] 42;obtain⟨A,c,rfl,_⟩:=h.slice;obtain⟨z,B,C⟩:=gC (BZ W0 (h.below f) hl) hf y;have X:=fun W=>cC 198 W;apply cI;go_in;go_upto_region 1 with(fail);simp only[u.out];go_wp2_with fail;refine z.mono ?_;rintro g w1 ⟨b,⟨v1,rfl,j,k⟩,Y,_⟩;obtain⟨D,a⟩:=gB (j.mono f.size) (f.trans (k.mono f.size));obtain⟨Z,d1⟩:=am.two (C.below k);obtain⟨n,c1,rfl,_⟩:=(aK.rw (E:=aC) j).slice;obtain⟨t1,s⟩:=nx (cD (b.length:Int) 1 64);have F:=aH s;obtain⟨t2,G⟩:=nx (cD a1 0 1125899906842624);obtain⟨t3,H⟩:=nx (cD a2 1 1073741824);obtain⟨t4,I⟩:=nx (cD a3 0 268435456);obtain⟨J,L,M,N⟩:=gD (fun W=>s▸fP (b.length:Int) 1 64 W) (fun W=>G▸fP a1 0 1125899906842624 W) (fun W=>H▸fP a2 1 1073741824 W) (fun W=>I▸fP a3 0 268435456 W);go_wp2_with fail;refine(J _).mono ?_;rintro g p ⟨rfl,rfl⟩;cases t1
 ·go_wp2_with fail;go_ret;exact .inl ⟨rfl,a⟩
 go_wp2_with fail;refine(L _).mono ?_;rintro g p ⟨rfl,rfl⟩;cases t2
 ·go_wp2_with fail;go_ret;exact .inl ⟨rfl,a⟩
 go_wp2_with fail;refine(M _).mono ?_;rintro g p ⟨rfl,rfl⟩;cases t3
 ·go_wp2_with fail;go_ret;exact .inl ⟨rfl,a⟩
 go_wp2_with fail;refine(N _).mono ?_;rintro g p ⟨rfl,rfl⟩;cases t4
 ·go_wp2_with fail;go_ret;exact .inl ⟨rfl,a⟩
 have q:b.length<=64:=by
  have:=F.out;unfold cD at this;simp at this;omega
 have m:=(ba w1 (.map #[] 0)).alloc (by simp) (.cells #[I6 d.nd,I6 d.n,I6 rc,.slice n b.length c1,I6 a1,I6 a2,I6 a3,.map (some w1.heap.size),I6 0] 330);have O:=(b4.new w1).below ((Below.refl (w1.alloc (.map #[] 0)).heap.size _).alloc nR (.cells #[I6 d.nd,I6 d.n,I6 rc,.slice n b.length c1,I6 a1,I6 a2,I6 a3,.map (some w1.heap.size),I6 0] 330));have t:=am.new (w1.alloc (.map #[] 0)) 330 #[I6 d.nd,I6 d.n,I6 rc,.slice n b.length c1,I6 a1,I6 a2,I6 a3,.map (some w1.heap.size),I6 0];rw[qA]at t;obtain⟨o',R,S⟩:=B0 (x:=(i,w1.heap.size+1)) B (a.trans (m.mono a.size)) t (aI D m) q O (Nat.le_succ_of_le a.size) a.size;obtain⟨T,U⟩:=gB R S;have V:=a.size;obtain⟨t5,g5⟩:=nx (decide (a2<=wrap64 (2*a3)));go_wp2_with fail;all_goals
  go_ret;first|exact .inl ⟨rfl,a⟩|exact .inr ⟨_,o',rfl,by omega,T,U⟩
def xN(q:IM):Prop:=∀p∈q,∃t,p.2=.bool t
def ff(o:Ow)(w:World)(x:Nat×Nat)(bm bh:Nat)(qh:IM):Prop:=∀p∈qh,∃b2 q2,p.2=.map (some b2)/\o b2=x/\b2≠bm/\b2≠bh/\b4 w b2 q2/\xN q2
def eR(o:Ow)(w:World)(r:Nat)(x:Nat×Nat):Prop:=o r=x/\∃(bm bh:Nat) (qm qh:IM),am w r 185 #[.map (some bm),.map (some bh)]/\o bm=x/\o bh=x/\bm≠bh/\b4 w bm qm/\b4 w bh qh/\
 (∀p∈qm,(0<=p.1/\p.1 < 16)/\∃s,p.2=.string (aF s))/\ff o w x bm bh qh/\∀k,(bE qm k).isSome=true->(bE qh k).isSome=true
section
variable{qh:IM}
theorem ff.st(h:ff o w x bm bh qh)(a:St p o w o' w')(g:¬p x):ff o' w' x bm bh qh:=fun y hy=>by
 obtain⟨b,i,j,c,k,m,f,n⟩:=h y hy
 exact⟨b,i,j,by rw[a.old b f.lt];exact c,k,m,f.st a (by rw[c];exact g),n⟩
theorem ff.below(h:ff o w x bm bh qh)(a:Below w.heap.size w w'):ff o w' x bm bh qh:=fun y hy=>by
 obtain⟨b,c,f,g,i,j,k,m⟩:=h y hy
 exact⟨b,c,f,g,i,j,k.below a,m⟩
theorem ff.only(h:ff o w x bm bh qh)(a:aW g w w')(b:g=bm\/g=bh):ff o w' x bm bh qh:=fun y hy=>by
 obtain⟨c,f,i,j,k,m,n,p⟩:=h y hy
 exact⟨c,f,i,j,k,m,n.only a (by rcases b with rfl|rfl<;>assumption),p⟩
theorem ff.aj{a:Nat}{q2}(h:ff o w x bm bh qh)(j:aW a w w')(k:b4 w' a q2)(m:xN q2):ff o w' x bm bh qh:=fun y hy=>by
 obtain⟨b,n,c,f,g,i,p,q⟩:=h y hy
 by_cases e:b=a
 ·subst e;exact⟨b,q2,c,f,g,i,k,m⟩
 ·exact⟨b,n,c,f,g,i,p.only j e,q⟩
theorem eR.lt(h:eR o w r x):r < w.heap.size:=by obtain⟨_,_,_,_,_,h,_⟩:=h;exact ap h
theorem eR.st(h:eR o w r x)(a:St p o w o' w')(b:¬p x):eR o' w' r x:=by
 obtain⟨c,bm,bh,m,qh,f,g,i,n,j,k,q,s,t⟩:=h;exact⟨by rw[a.old r (ap f)];exact c,bm,bh,m,qh,f.st a (by rw[c];exact b),by rw[a.old bm j.lt];exact g,by rw[a.old bh k.lt];exact i,n,j.st a (by rw[g];exact b),k.st a (by rw[i];exact b),q,s.st a b,t⟩
end
theorem mW{w}{q}(h:b4 w b q)(f:∀p∈q,(0<=p.1/\p.1 < 16)/\∃s,p.2=.string (aF s))(k:Int):∃s,(Instr.lookup 182 (.map (some b)) (I6 k) true).run prog w=.ok (.tuple #[.string (aF s),.bool (bE q k).isSome]) w:=by
 have a:=h.lookup (P:=prog) (t:=182) (kt:=3) (et:=9) (by kernel_rfl) (by kernel_rfl) (z:=.string (aF [])) (by kernel_rfl) k;cases hg:bE q k with
 |none=>rw[hg]at a;exact⟨[],a.1⟩
 |some v=>
  obtain⟨_,s,c⟩:=f _ (dw hg);simp only at c;subst c;rw[hg]at a;exact⟨s,a.1⟩
theorem mX{o}{w}{x}{qh}(h:b4 w bh qh)(hi:ff o w x bm bh qh)(k:Int)(c:(bE qh k).isSome=true):∃a q2,(Instr.lookup 183 (.map (some bh)) (I6 k) false).run prog w=.ok (.map (some a)) w/\o a=x/\a≠bm/\a≠bh/\b4 w a q2/\xN q2:=by
 have b:=(h.lookup (P:=prog) (t:=183) (kt:=3) (et:=198) (by kernel_rfl) (by kernel_rfl) (z:=.map none) (by kernel_rfl) k).2;cases hg:bE qh k with
 |none=>rw[hg]at c;cases c
 |some v=>
  obtain⟨a,q2,f,g⟩:=hi _ (dw hg);simp only at f;subst f;rw[hg]at b;exact⟨a,q2,b,g⟩
theorem Ag(w:World):Cs 43 #[] w fun e w'=>∃r bm bh,Rt e (Pt r)/\w.heap.size<=r/\w.heap.size<=bm/\w.heap.size<=bh/\bm≠bh/\am w' r 185 #[.map (some bm),.map (some bh)]/\b4 w' bm []/\b4 w' bh []/\Below w.heap.size w w':=by
 have n:=fun W=>cC 182 W;have h:=fun W=>cC 183 W;have c:=ba w (.map #[] 0);have b:=(Below.refl (w.alloc (.map #[] 0)).heap.size (w.alloc (.map #[] 0))).alloc nR (.map #[] 0);have a:=(Below.refl ((w.alloc (.map #[] 0)).alloc (.map #[] 0)).heap.size ((w.alloc (.map #[] 0)).alloc (.map #[] 0))).alloc nR (.cells #[.map (some w.heap.size),.map (some (w.heap.size+1))] 185);have i:=aH (((b4.new w).below b).below a);have f:=(b4.new (w.alloc (.map #[] 0))).below a;have g:=am.new ((w.alloc (.map #[] 0)).alloc (.map #[] 0)) 185 #[.map (some w.heap.size),.map (some (w.heap.size+1))];rw[qA]at f;rw[qA,qA]at g;obtain⟨j,k,m⟩:=gC f g (c.trans ((b.trans (a.mono (by simp))).mono (by simp)));apply cI;go_in;go_wp2;go_ret;exact⟨_,w.heap.size,w.heap.size+1,rfl,by omega,by omega,by omega,by omega,k,i,j,m⟩
theorem ss{o}{w}{x}(h:eR o w r x):Cs 72 #[Pt r] w (b6 aC w 64 fun k=>0<=k/\k < 16):=by
 obtain⟨N,bm,bh,j,qh,m,B,n,O,q,R,f,S,T⟩:=h;obtain⟨U,V⟩:=am.two m;have C:=aH (yz bm w);have X:j.length<=16:=by
  have D:=q.nodup;have n:((j.map Prod.fst).map fun k=>k.toNat).Nodup:=jE.2 (D.imp_of_mem fun{a b} ha hb hne he=>by
   obtain⟨p,c,rfl⟩:=zV.1 ha;obtain⟨p',s,rfl⟩:=zV.1 hb;have m:=(f p c).1;have B:=(f p' s).1;omega)
  have:=dY 16 _ n (fun k hk=>by
   obtain⟨Y,t,rfl⟩:=zV.1 hk;obtain⟨p,c,rfl⟩:=zV.1 t;have:=(f p c).1;omega)
  simpa using this
 have g:=ba w (.cells #[.map (some bm)] 182);obtain⟨F,u,G⟩:=gC (ql w.heap.size bm j _ (am.new w 182 #[.map (some bm)]) (q.below g) (fun p c=>by have:=(f p c).1;unfold bN;omega) (by omega)) g f;apply cI;go_in;go_wp2_with fail;refine C.mono ?_;rintro H Z ⟨rfl,rfl⟩;go_wp2_with fail;refine F.mono ?_;rintro H w2 ⟨I,i,v2,rfl,y,z⟩;obtain⟨J,L,M⟩:=gC y z i;have A:=i.length_eq;rw[jD]at A;go_wp2;go_ret;exact⟨I,⟨v2,rfl,J.mono (by simp),u.trans (L.mono u.size)⟩,by omega,fun a ha=>by obtain⟨p,c,rfl⟩:=zV.1 ((M.mem_iff).1 ha);exact(G p c).1⟩
theorem su{o}{w}{x}(part a:Int) mark(h:eR o w r x)(hf:aX o w):Cs 82 #[Pt r,I6 part,I6 a,.string (aF mark)] w fun e w'=>(∃t,Rt e (.bool t))/\eR o w' r x/\St (·=x) o w o w':=by
 obtain⟨H,f⟩:=gB h hf;obtain⟨F,bm,bh,j,qh,g,G,I,J,k,m,n,q,y⟩:=h;obtain⟨V,X⟩:=am.two g;obtain⟨s,c⟩:=mW k n part;cases hg:(bE j part).isSome with
 |false=>
  rw[hg]at c;apply cI;go_in;go_wp2;go_ret;exact⟨⟨_,rfl⟩,H,St.refl f⟩
 |true=>
  rw[hg]at c;obtain⟨Y,L,M,N,O,R,i,z⟩:=mX m q part (y part hg);obtain⟨t,u,S,_⟩:=eF i z a;obtain⟨w2,T,A,b⟩:=i.update (P:=prog) (t:=198) (kt:=3) (et:=4) (by kernel_rfl) (by kernel_rfl) a (.bool true);have B:xN (dI L a (.bool true)):=fun p hp=>by
   rcases c7 hp with rfl|⟨hp,_⟩
   ·exact⟨true,rfl⟩
   ·exact z p hp
  have C:Hid (eR o w2 r x):=aH ⟨F,bm,bh,j,qh,g.only b (fun e=>i.ne g e.symm),G,I,J,k.only b O.symm,m.only b R.symm,n,q.aj b A B,y⟩;have D:=aH (St.U (p:=(·=x)) b N hf);obtain⟨Z,U⟩:=nx (s==mark);cases t
  ·apply cI;go_in;go_wp2_with fail;all_goals
    go_ret;first|exact⟨⟨_,rfl⟩,C,D⟩|exact⟨⟨_,rfl⟩,H,St.refl f⟩
  ·apply cI;go_in;go_wp2_with fail;all_goals
    go_ret;first|exact⟨⟨_,rfl⟩,C,D⟩|exact⟨⟨_,rfl⟩,H,St.refl f⟩
structure kz(w:World)(vl vb vc:Value)(ls:List Mg)(b cl:List bC):Prop where
 l:Rw aU w vl ls
 b:Rw aJ w vb b
 c:Rw aJ w vc cl
theorem kz.below{vl vb vc}{ls}{b cl}(h:kz w vl vb vc ls b cl)(a:Below w.heap.size w w'):kz w' vl vb vc ls b cl:=⟨h.l.below a,h.b.below a,h.c.below a⟩
structure fC(ls:List Mg)(b cl:List bC):Prop where
 l:ls.length<=10000000
 bc:b.length+cl.length<=10000000
 m:∀m∈ls,tR m
 b:∀d∈b,aO d=true
 c:∀d∈cl,aO d=true
theorem b0{d}(h:aO d=true):eL d:=by
 have:=(ev d).1 h;unfold eL;omega
theorem DB{o}{w}{x}{s}{qm qh}(hf:aX o w)(G:o r=x)(n:am w r 185 #[.map (some bm),.map (some bh)])(q:o bm=x)(H:o bh=x)(u:bm≠bh)(y:b4 w bm qm)(I:b4 w bh qh)
  (J:∀p∈qm,(0<=p.1/\p.1 < 16)/\∃s,p.2=.string (aF s)) (L:ff o w x bm bh qh) (i:∀k,(bE qm k).isSome=true->(bE qh k).isSome=true) (j:0<=part/\part < 16) (z:(bE qm part).isSome=true):
  ∃w3 w4 f,(Instr.mapUpdate 182 (.map (some bm)) (I6 part) (.string (aF s))).run prog w=.ok () w3/\(Instr.lookup 183 (.map (some bh)) (I6 part) false).run prog w3=.ok (.map (some f)) w3/\
   (Builtin.clear_ #[198] 0 #[.map (some f)]).run prog w3=.ok (.tuple #[]) w4/\am w3 r 185 #[.map (some bm),.map (some bh)]/\eR o w4 r x/\St (·=x) o w o w4:=by
 obtain⟨w3,m,A,a⟩:=y.update (P:=prog) (t:=182) (kt:=3) (et:=9) (by kernel_rfl) (by kernel_rfl) part (.string (aF s));have g:=I.only a u.symm;have h:=L.only a (.inl rfl);have c:=n.only a (fun e=>y.ne n e.symm);obtain⟨f,R,B,M,N,O,C,S⟩:=mX g h part (i part z);obtain⟨w4,D,F,b⟩:=C.clear (P:=prog) (t:=198) (kt:=3) (et:=4) (by kernel_rfl) 0;refine⟨w3,w4,f,m,B,D,c,⟨G,bm,bh,_,qh,c.only b (fun e=>C.ne c e.symm),q,H,u,A.only b N.symm,g.only b O.symm,fun p hq=>?_,h.aj b F (fun p j=>by cases j),fun k hk=>?_⟩,(St.U a q hf).trans (St.U b M (hf.below a.size))⟩
 ·rcases c7 hq with rfl|⟨hq,_⟩
  ·exact⟨j,s,rfl⟩
  ·exact J p hq
 ·rw[eu]at hk;split at hk
  ·rename_i e;subst e;exact i _ z
  ·exact i k hk
theorem B2{o}{w}{x}{s}{qm qh}(hf:aX o w)(hr:o r=x)(I:am w r 185 #[.map (some bm),.map (some bh)])(J:o bm=x)(L:o bh=x)(D:bm≠bh)(M:b4 w bm qm)(h6:b4 w bh qh)
  (h7:∀p∈qm,(0<=p.1/\p.1 < 16)/\∃s,p.2=.string (aF s)) (h8:ff o w x bm bh qh) (h9:∀k,(bE qm k).isSome=true->(bE qh k).isSome=true) (F:0<=part/\part < 16):
  ∃w3 w4 w5 w6 o',(Instr.mapUpdate 182 (.map (some bm)) (I6 part) (.string (aF s))).run prog w=.ok () w3/\w3.alloc (.map #[] 0)=w4/\
   (Instr.mapUpdate 183 (.map (some bh)) (I6 part) (.map (some w3.heap.size))).run prog w4=.ok () w5/\(Instr.lookup 183 (.map (some bh)) (I6 part) false).run prog w5=.ok (.map (some w3.heap.size)) w5/\
   (Builtin.clear_ #[198] 0 #[.map (some w3.heap.size)]).run prog w5=.ok (.tuple #[]) w6/\am w3 r 185 #[.map (some bm),.map (some bh)]/\am w5 r 185 #[.map (some bm),.map (some bh)]/\eR o' w6 r x/\St (·=x) o w o' w6:=by
 obtain⟨w3,G,n,g⟩:=M.update (P:=prog) (t:=182) (kt:=3) (et:=9) (by kernel_rfl) (by kernel_rfl) part (.string (aF s));have i:=h6.only g D.symm;have N:=h8.only g (.inl rfl);have h:=I.only g (fun e=>M.ne I e.symm);have a:=ba w3 (.map #[] 0);have hz:(w3.alloc (.map #[] 0)).heap.size=w3.heap.size+1:=by simp
 have q:=b4.new w3;obtain⟨w4,u⟩:=nx (w3.alloc (.map #[] 0));rw[u]at a hz q;have l3:=h |> ap;have lm:=n.lt;have O:=i.lt;obtain⟨w5,m,A,c⟩:=(i.below a).update (P:=prog) (t:=183) (kt:=3) (et:=198) (by kernel_rfl) (by kernel_rfl) part (.map (some w3.heap.size));have B:=(am.below h a).only c (fun e=>i.ne h e.symm);have R:=q.only c (by omega);have C:=(A.lookup (P:=prog) (t:=183) (kt:=3) (et:=198) (by kernel_rfl) (by kernel_rfl) (z:=.map none) (by kernel_rfl) part).2;rw[eu,if_pos rfl]at C;obtain⟨w6,S,T,f⟩:=R.clear (P:=prog) (t:=198) (kt:=3) (et:=4) (by kernel_rfl) 0;have U:St (·=x) o w o w3:=St.U g J hf;have V:St (·=x) o w (b7 o w3.heap.size x) w4:=(St.below U a).tag U.size (by omega) (.inr rfl);have j:∀b,b < w3.heap.size->b7 o w3.heap.size x b=o b:=fun b hb=>bT (by omega) x;have X:St (·=x) o w (b7 o w3.heap.size x) w5:=V.trans (St.U c (by rw[j bh O];exact L) V.far);have s6:St (·=x) o w (b7 o w3.heap.size x) w6:=X.trans (St.U f (a8 _ _ _) X.far);refine⟨w3,w4,w5,w6,_,G,u,m,C,S,h,B,⟨by rw[j r l3];exact hr,bm,bh,_,_,B.only f (by omega),by rw[j bm lm];exact J,by rw[j bh O];exact L,D,((n.below a).only c D).only f (by omega),A.only f (by omega),fun p hq=>?_,?_,fun k hk=>?_⟩,s6⟩
 ·rcases c7 hq with rfl|⟨hq,_⟩
  ·exact⟨F,s,rfl⟩
  ·exact h7 p hq
 ·intro y H;rcases c7 H with rfl|⟨H,_⟩
  ·exact⟨_,[],rfl,a8 _ _ _,by omega,by omega,T,fun p F=>by cases F⟩
  ·obtain⟨Y,q3,j1,j2,j3,Z,j5,j6⟩:=N y H;have l5:=j5.lt;exact⟨Y,q3,j1,by rw[j Y l5];exact j2,j3,Z,((j5.below a).only c Z).only f (by omega),j6⟩
 ·rw[eu]at hk ⊢;split
  ·rfl
  ·rename_i e;rw[if_neg e]at hk;exact h9 k hk
theorem mY{o}{w}{x}(part:Int){vl vb vc}{ls}{b cl}(h:eR o w r x)(hf:aX o w)(D:0<=part/\part < 16)(i:kz w vl vb vc ls b cl)(a:fC ls b cl):
  Cs 53 #[Pt r,I6 part,.agg #[vl,vb,vc]] w fun e w'=>(∃t,Rt e (.bool t))/\∃o',eR o' w' r x/\St (·=x) o w o' w':=by
 obtain⟨F,G,rfl,_⟩:=i.l.slice;obtain⟨Ab,cb,rfl,_⟩:=i.b.slice;obtain⟨Ac,cc,rfl,_⟩:=i.c.slice;obtain⟨W0,HW,n,I⟩:=dW w #[.slice F ls.length G,.slice Ab b.length cb,.slice Ac cl.length cc] 131;have j:=aH (St.J (p:=(·=x)) n hf);have J:eR o W0 r x:=h.st (p:=fun _=>False) (St.J n hf) id;have H:=aH J;have f:=i.below n;have q:=aH (hf.below n.size);obtain⟨L,bm,bh,qm,qh,M,N,O,R,S,h6,T,h8,h9⟩:=J;obtain⟨U,V⟩:=am.two M;obtain⟨s,X⟩:=mW S T part;obtain⟨z0,z1,z2⟩:=am.three I;obtain⟨Y,Z⟩:=gB (fx W0 _ _ _ ls b cl f.l f.b f.c a.l (by have:=a.bc;omega) (by have:=a.bc;omega) a.m (fun d hd=>b0 (a.b d hd)) (fun d hd=>b0 (a.c d hd))) (fun W hb=>po W (f.l.below hb) (aK.nil 0 W).rw (f.b.below hb) (f.c.below hb) (aK.nil 0 W).rw (aK.nil 0 W).rw (by have:=a.bc;simp;omega) (by have:=a.l;simp;omega));obtain⟨u,hu⟩:=nx ((bE qm part).isSome);rw[hu]at X;obtain⟨HU,X1,y,K5,K6,K7,K8,K9⟩:=gH hu I M S h6 T h8 h9;have hc:=fun w=>fO (P:=prog) (t:=182) (k:=3) (e:=9) (some bm) (by kernel_rfl) w;have he:=fun W=>cC 198 W;generalize c6 ls b cl=mk at Y;apply cI;go_in;go_upto_region 1 with(fail);simp only[HW.out];go_wp2_with fail;refine Y.mono ?_;rintro _e w1 ⟨rfl,m⟩;have c:=aH m;obtain⟨z0,z1,z2⟩:=am.three (X1.below m);obtain⟨U,V⟩:=am.two (am.below y m);obtain⟨b9,hg⟩:=nx (s==mk)
 cases u
 ·go_wp2_with fail;refine(Z _ c).mono ?_;rintro _e w2 ⟨b8,rfl,ha⟩;have g:=aH (c.trans (ha.mono c.size));cases b8
  ·obtain⟨w3,w4,w5,w6,o',r1,r2,r3,r4,r5,z,A,B,j4⟩:=B2 (s:=mk) (q.below g.size) L (am.below y g) N O R (K5.below g) (K6.below g) K7 (K8.below g) K9 D;obtain⟨C,J4⟩:=gB B ((j.below g).trans j4);obtain⟨U,V⟩:=am.two (am.below y g);obtain⟨v0,v1⟩:=am.two z;obtain⟨u0,u1⟩:=am.two A;go_wp2_with fail;go_ret;exact⟨⟨_,rfl⟩,o',C,J4⟩
  ·go_wp2_with fail;go_ret;exact⟨⟨_,rfl⟩,o,H.st (p:=fun _=>False) (St.J g q) id,j.below g⟩
 ·cases b9
  ·obtain⟨w3,w4,b2,r1,r2,r3,z,A,B⟩:=DB (s:=mk) (q.below c.size) L (am.below y c) N O R (K5.below c) (K6.below c) K7 (K8.below c) K9 D HU;obtain⟨J2,C⟩:=gB A ((j.below c).trans B);obtain⟨v0,v1⟩:=am.two z;go_wp2_with fail;go_ret;exact⟨⟨_,rfl⟩,o,J2,C⟩
  ·go_wp2_with fail;go_ret;exact⟨⟨_,rfl⟩,o,H.st (p:=fun _=>False) (St.J c q) id,j.below c⟩
theorem sv{o}{x}(part a:Int)(i j k:Nat){v}(h:eR o w r x)(c1:Ce w i 0 (Pt r))(c2:Ce w j 0 (I6 part))(c3:Ce w k 0 v)(hv:Rw aC w v l)(I:l.length<=100000):
  Cs 142 #[I6 a,Pt i,Pt j,Pt k] w fun e w'=>(∃t,Rt e (.bool t))/\Below w.heap.size w w':=by
 obtain⟨J,bm,bh,L,qh,u,M,N,O,R,p,S,y,T⟩:=h;obtain⟨U,V⟩:=am.two u;obtain⟨A,c,rfl,_⟩:=hv.slice;have B:=aH (cS a w.drew (hv.below (bD _)) (by omega));have q:∃m t,∀W,W.heap=w.heap->(Instr.lookup 183 (.map (some bh)) (I6 part) false).run prog W=.ok m W/\(Instr.lookup 198 m (I6 a) false).run prog W=.ok (.bool t) W:=by
  cases hg:bE qh part with
  |some v=>
   obtain⟨C,s,e,_,_,_,g,D⟩:=y _ (dw hg);simp only at e;subst e;obtain⟨t,b⟩:∃t,(bE s a).getD (.bool false)=.bool t:=by
    cases hq:bE s a with
    |none=>exact⟨false,rfl⟩
    |some v=>obtain⟨t,b⟩:=D _ (dw hq);simp only at b;subst b;exact⟨t,rfl⟩
   refine⟨.map (some C),t,fun W hW=>⟨?_,?_⟩⟩
   ·have:=((p.kept (by rw[hW])).lookup (P:=prog) (w:=W) (t:=183) (kt:=3) (et:=198) (by kernel_rfl) (by kernel_rfl) (z:=.map none) (by kernel_rfl) part).2;rw[hg]at this;exact this
   ·have:=((g.kept (by rw[hW])).lookup (P:=prog) (w:=W) (t:=198) (kt:=3) (et:=4) (by kernel_rfl) (by kernel_rfl) (z:=.bool false) (by kernel_rfl) a).2;rw[b]at this;exact this
  |none=>
   refine⟨.map none,false,fun W hW=>⟨?_,?_⟩⟩
   ·have:=((p.kept (by rw[hW])).lookup (P:=prog) (w:=W) (t:=183) (kt:=3) (et:=198) (by kernel_rfl) (by kernel_rfl) (z:=.map none) (by kernel_rfl) part).2;rw[hg]at this;exact this
   ·exact(mT (P:=prog) (t:=198) (kt:=3) (et:=4) (by kernel_rfl) (by kernel_rfl) W (z:=.bool false) (by kernel_rfl) a).2
 obtain⟨m,t,f⟩:=q;have F:=fun n=>(f (w.drewN n) rfl).1;have G:=fun n=>(f (w.drewN n) rfl).2;have H:=(f w.drew rfl).1;have g:=(f w.drew rfl).2;cases t
 ·clear F G;apply cI;go_in;go_wp2_with fail;refine aN 15 (by kernel_rfl) (by kernel_rfl) ?_;simp only[zF,zN,zG,zO];repeat still_step
  still_call (B.mono fun _ _ ⟨he,hw⟩=>⟨he,hw.symm⟩);repeat still_step
  refine wpStill_nil ?_;go_wp2_with fail;go_ret;exact⟨⟨_,rfl⟩,(bD _)⟩
 ·clear H g;apply cI;go_in;go_wp2_with fail;go_quiet (fail);go_wp2_with fail;go_ret;exact⟨⟨_,rfl⟩,below_drewN (bR _) _⟩
theorem zd{o:Ow}{r:Nat}{x:Nat×Nat}{bh:Nat}{qm}(a:b4 w bm qm)(c:∀p∈qm,(0<=p.1/\p.1 < 16)/\∃s,p.2=.string (aF s))(k:Int):∃s t,∀n,(Instr.lookup 182 (.map (some bm)) (I6 k) true).run prog (w.drewN n)=.ok (.tuple #[.string (aF s),.bool t]) (w.drewN n):=by
 have H:∀n,b4 (w.drewN n) bm qm:=fun n=>a.below (below_drewN (bR _) n);obtain⟨s,f⟩:=mW a c k;have b:=(a.lookup (P:=prog) (t:=182) (kt:=3) (et:=9) (by kernel_rfl) (by kernel_rfl) (z:=.string (aF [])) (by kernel_rfl) k).1;rw[f]at b;refine⟨s,(bE qm k).isSome,fun n=>?_⟩;have g:=((H n).lookup (P:=prog) (t:=182) (kt:=3) (et:=9) (by kernel_rfl) (by kernel_rfl) (z:=.string (aF [])) (by kernel_rfl) k).1;rw[g];have h:(Value.tuple #[Value.string (aF s),.bool (bE qm k).isSome])=.tuple #[(bE qm k).getD (.string (aF [])),.bool (bE qm k).isSome]:=by
  injection b
 rw[h]
theorem eR.below{o}{x}(h:eR o w r x)(a:Below w.heap.size w w'):eR o w' r x:=by
 obtain⟨b,bm,bh,c,qh,f,g,i,j,k,m,n,p,q⟩:=h;exact⟨b,bm,bh,c,qh,f.below a,g,i,j,k.below a,m.below a,n,p.below a,q⟩
theorem vk{o}{w}{x}(part:Int)(h:eR o w r x){v}(hv:Rw aC w v l)(hl:l.length<=1000):Calls Tryz.prog 73 #[.pointer (some ⟨r,0,none⟩),.int .i64 part,v] w (b6 aC w 1000 fun _=>True):=by
 obtain⟨W0,J,HB,X,Y⟩:=rt w #[.pointer (some ⟨r,0,none⟩)] #[.int .i64 part] 89 3;have Z:W0.heap.size=w.heap.size+1+1:=by rw[<-J];simp
 have h0:eR o W0 r x:=h.below HB;obtain⟨hr,bm,bh,qm,qh,h1,h2,h3,h4,h5,h6,h7,h8,h9⟩:=id h0;obtain⟨y0,y1⟩:=am.two h1;obtain⟨A,c,rfl,_⟩:=hv.slice;obtain⟨s,t,hg⟩:=zd (r:=r) (x:=x) (o:=o) (bh:=bh) h5 h7 part;have c0:W0.cell? ⟨w.heap.size,0,none⟩=some (.pointer (some ⟨r,0,none⟩)):=am.cell X 0;have c1:W0.cell? ⟨w.heap.size+1,0,none⟩=some (.int .i64 part):=am.cell Y 0;obtain⟨H0,HH,HV,HR,X1,X2⟩:=gF h0 h hv (hv.below HB) X Y;cases t
 ·go_enter Tryz.func73,Tryz.ntmps73;go_upto_region 1 with(fail);simp only[J.out];refine wp_scope_straight ?_;go_wp2_with fail;go_quiet (fail);go_wp2_with fail;go_ret;exact⟨[],⟨_,rfl,aK.nil _ _,below_drewN HB _⟩,by simp,fun _ _=>trivial⟩
 ·go_enter Tryz.func73,Tryz.ntmps73;go_upto_region 1 with(fail);simp only[J.out];refine wp_scope_straight ?_;go_wp2_with fail;go_quiet (fail);go_wp2_with fail;have G:(W0.drewN nq).heap.size=w.heap.size+1+1:=Z;have e1:=(below_drewN HB nq).alloc (by rw[G];omega) (.cells #[.slice none 0 0] 34);have B:=(below_drewN (bQ W0) nq).alloc nR (.cells #[.slice none 0 0] 34);have e3:=am.new (W0.drewN nq) 34 #[.slice none 0 0];rw[G]at e3;obtain⟨g1,g2,g3,g4,E1,E3⟩:=gF (X1.below B) (X2.below B) (H0.below B) (HR.below (B.mono (by omega))) e1 e3;have hh:HB=HB:=rfl;go_wp2_with (refine wp_label ?_);generalize((W0.drewN nq).alloc (Obj.cells #[Value.slice none 0 0] 34))=W1 at g1 g2 g3 g4 E1 E3 ⊢;go_loopw[29] (fun vi wr=>∃(k:Nat) (v2:Value) (f:List Int),k<=l.length/\vi=.int .i64 k/\Below w.heap.size w wr/\sm (w.heap.size+1+1+1) wr (w.heap.size+1+1) v2 f/\f.length<=k/\am wr w.heap.size 89 #[.pointer (some ⟨r,0,none⟩)]/\am wr (w.heap.size+1) 3 #[.int .i64 part]) (fun vi _=>l.length - (intOf vi).toNat)
  case atStart=>exact⟨0,_,[],by omega,rfl,E1,⟨E3,aK.nil _ _⟩,by simp,g1,g2⟩
  case round=>
   obtain⟨k,v2,f,hk,rfl,C,y,hj,H,I⟩:=hrel;obtain⟨L,M,A3,A4⟩:=gD C y H I;have hm:=C.size;by_cases hlt:k < l.length
   ·obtain⟨g,og,rfl,D⟩:=(HV.below C).at_ (zA hlt);have z0:wr.cell? ⟨g,og+k,none⟩=some (.int .i64 l[k]):=by have:=D 0 _ rfl;simpa[aC]using this
    generalize l[k]=t at z0;have HC:=aH (sv part t w.heap.size (w.heap.size+1) (w.heap.size+1+1) (HH.below C) (am.cell H 0) (am.cell I 0) (am.cell y.box 0) (aK.rw (E:=aC) y.own) (by omega));go_wp2_with fail;refine HC.mono ?_;rintro _e w3 ⟨⟨tt,rfl⟩,q⟩;have G1:=aH (L.trans (q.mono L.size));have n:=M.box.below q;have i:=aI M.own q;obtain⟨N,G4⟩:=gB (A3.below q) (A4.below q);have O:w.heap.size+1+1+1<=w3.heap.size:=ap n;cases tt
    ·obtain⟨R,S⟩:=gB n i;go_wp2_with fail;go_roundw
     case rel=>exact⟨k+1,v2,f,by omega,by go_num,G1,⟨R,S⟩,by omega,N,G4⟩
     case measure=>simp[intOf];omega
    ·obtain⟨ha,c2,rfl,_⟩:=(aK.rw (E:=aC) i).slice;have z0:w3.cell? ⟨w.heap.size+1+1,0,none⟩=some (.slice ha f.length c2):=am.cell n 0;obtain⟨F,HX⟩:=gB i n;have hc:(f.length+1)*aC.bytes<=140737488355328:=by show(f.length+1)*8<=_;omega
     have hd:f.length < 1000000000000000000:=by omega
     go_wp2_with (at_builtin;refine b5 aC rfl (.tmp 37) (.tmp 39) rfl i O t rfl rfl hc hd ?_;intro v' w6 b a;obtain⟨T,u,hn,hf,_⟩:=aK.af (E:=aC) b (by simp);subst hf;have m:=am.grown HX a (aK.ne (E:=aC) F HX (by decide));have M6:=aH (zB b (zB a m));have s0:=am.cell m 0;have sf:=fun j=>am.frozen m j;clear b a m i z0);obtain⟨b,a,m⟩:=M6.out;have U:(f++[t]).length=f.length+1:=by simp
     have V:=aB w6 (w.heap.size+1+1) 0 (.slice (some ⟨T,0,none⟩) (f.length+1) u);have z:=aK.keep (E:=aC) b V (fun j e he=>aK.ne (E:=aC) b m (by decide) (he.trans e.symm));rw[U]at z;obtain⟨R,S,G6,G7,G8⟩:=gE (am.I m 0 (.slice (some ⟨T,0,none⟩) (f.length+1) u)) z ((G1.grown a (by omega) (fun k e=>by have:=(aK.lt (E:=aC) F k e).1;omega)).setCell (p:=⟨w.heap.size+1+1,0,none⟩) (by simp only;omega) (.slice (some ⟨T,0,none⟩) (f.length+1) u)) ((am.grown N a (aK.ne (E:=aC) F N (by decide))).only V (by omega)) ((am.grown G4 a (fun e=>by have:=(aK.lt (E:=aC) F _ e.symm).1;omega)).only V (by omega));go_wp2_with fail;go_roundw
     case rel=>exact⟨k+1,_,f++[t],by omega,by go_num,G6,⟨R,S⟩,by simp;omega,G7,G8⟩
     case measure=>simp[intOf];omega
   ·have z0:wr.cell? ⟨w.heap.size+1+1,0,none⟩=some v2:=am.cell y.box 0;go_wp2_with fail;go_ret;exact⟨f,⟨_,rfl,aK.mono (E:=aC) M.own (by omega),L⟩,by omega,fun _ _=>trivial⟩
def B3(p:Pe):Value:=.agg #[I6 (if p.st=2 then 1 else 0),I6 p.inc,I6 p.st]
theorem DC(p:Pe)(w:World):Cs 294 #[.agg #[I6 p.id,I6 p.inc,I6 p.st]] w fun e w'=>Rt e (B3 p)/\Below w.heap.size w w':=by
 obtain⟨W0,q,k,m,a⟩:=rt w #[I6 p.id,I6 p.inc,I6 p.st] #[I6 0,I6 0,I6 0] 121 361;obtain⟨a0,a1,a2⟩:=am.three m;obtain⟨t,u,x⟩:=am.three a;have y:=fun j=>am.frozen a j;have n:=aH a;have s:=a.lt;clear m a;apply cI;go_in;go_upto_region 1 with(fail);simp only[q.out];cases h:(p.st==2)
 ·have hv:B3 p=.agg #[I6 0,I6 p.inc,I6 p.st]:=by unfold B3;rw[if_neg (by simpa using h)]
  have c:Hid (am (((W0.setCell ⟨w.heap.size+1,0,none⟩ (I6 0)).setCell ⟨w.heap.size+1,1,none⟩ (I6 p.inc)).setCell ⟨w.heap.size+1,2,none⟩ (I6 p.st)) (w.heap.size+1) 361 #[I6 0,I6 p.inc,I6 p.st]):=aH (((n.I 0 _).I 1 _).I 2 _);have b:=aH (((k.setCell (p:=⟨w.heap.size+1,0,none⟩) (by simp) (I6 0)).setCell (p:=⟨w.heap.size+1,1,none⟩) (by simp) (I6 p.inc)).setCell (p:=⟨w.heap.size+1,2,none⟩) (by simp) (I6 p.st));go_wp2_with fail;obtain⟨f,g,i⟩:=am.three c;rw[hv];refine bodyPost_ret (v:=.agg #[I6 0,I6 p.inc,I6 p.st]) (by simp[results,results294,go_sem,f,g,i]) rfl ?_;exact⟨rfl,b⟩
 ·have hv:B3 p=.agg #[I6 1,I6 p.inc,I6 p.st]:=by unfold B3;rw[if_pos (by simpa using h)]
  have c:Hid (am (((W0.setCell ⟨w.heap.size+1,0,none⟩ (I6 1)).setCell ⟨w.heap.size+1,1,none⟩ (I6 p.inc)).setCell ⟨w.heap.size+1,2,none⟩ (I6 p.st)) (w.heap.size+1) 361 #[I6 1,I6 p.inc,I6 p.st]):=aH (((n.I 0 _).I 1 _).I 2 _);have b:=aH (((k.setCell (p:=⟨w.heap.size+1,0,none⟩) (by simp) (I6 1)).setCell (p:=⟨w.heap.size+1,1,none⟩) (by simp) (I6 p.inc)).setCell (p:=⟨w.heap.size+1,2,none⟩) (by simp) (I6 p.st));go_wp2_with fail;obtain⟨f,g,i⟩:=am.three c;rw[hv];refine bodyPost_ret (v:=.agg #[I6 1,I6 p.inc,I6 p.st]) (by simp[results,results294,go_sem,f,g,i]) rfl ?_;exact⟨rfl,b⟩
theorem qr A B(c d:Nat)(l m:List Int) w(h1:Sl w 1 A l.length (l.map fun z=>I6 z))(h2:Sl w 1 B m.length (m.map fun z=>I6 z))(hl:l.length<=1000000000)(hm:m.length<=1000000000):
  Cs 295 #[.slice A l.length c,.slice B m.length d] w fun e w'=>(∃z,Rt e (I6 z))/\w=w':=by
 obtain⟨f,h⟩:=gB h1 h2;clear h1 h2;apply cI;go_in;go_wp2;go_loopw[5,11] (fun _ v wr=>∃k:Nat,k<=l.length/\v=I6 k/\w=wr) (fun _ v _=>l.length - (intOf v).toNat)
 case atStart=>exact⟨0,zS _,rfl,rfl⟩
 case round=>
  obtain⟨k,n,rfl,rfl⟩:=hrel;by_cases hlt:k < l.length
  ·obtain⟨g,o,rfl,_,a⟩:=f.at_ (by omega);have i:Ce w g (o+k) (I6 l[k]):=a k _ (by simp[hlt]);clear a;generalize l[k]=x at i;by_cases hlm:k < m.length
   ·obtain⟨g',o',rfl,_,a⟩:=h.at_ (by omega);have c1:Ce w g' (o'+k) (I6 m[k]):=a k _ (by simp[hlm]);clear a;generalize m[k]=y at c1;have j:decide ((m.length:Int)<=(k:Int))=false:=by simp;omega
    go_wp2_with fail;refine(Tryz.cmp_Compare_int x y w).mono ?_;rintro p q ⟨rfl,rfl⟩;generalize Lib.compareInt x y=z;cases hz:(z==0)
    ·have b:(z != 0)=true:=by simp[bne,hz]
     go_wp2;go_ret;exact⟨⟨_,rfl⟩,rfl⟩
    ·have b:(z != 0)=false:=by simp[bne,hz]
     go_wp2;go_roundw
     case rel=>exact⟨k+1,by omega,by go_num,trivial⟩
     case measure=>simp[intOf];omega
   ·have j:decide ((m.length:Int)<=(k:Int))=true:=by simp;omega
    go_wp2;go_ret;exact⟨⟨_,rfl⟩,rfl⟩
  ·cases hd:decide (l.length < m.length)
   ·go_wp2;go_ret;exact⟨⟨_,rfl⟩,rfl⟩
   ·go_wp2;go_ret;exact⟨⟨_,rfl⟩,rfl⟩
theorem jz{v}{l:List Pe}(w:World)(h:Rw aL w v l)(Y:l.length<=1000000000):
  Cs 243 #[v] w fun e w'=>(Rt e (I6 1)\/Rt e (I6 0)/\l.length<=64/\∀p∈l,k8 p=true)/\Below w.heap.size w w':=by
 obtain⟨A,c,rfl,_⟩:=h.slice;have H:=aH h;clear h;apply cI;go_in;cases hd:decide ((64:Int) < (l.length:Int))
 case true=>
  go_wp2_with fail;go_ret;exact⟨.inl rfl,bR _⟩
 have C:l.length<=64:=by simp at hd;omega
 go_wp2_with fail;go_loopw[3,10] (fun _ vi wr=>∃k:Nat,k<=l.length/\vi=I6 k/\(∀p∈l.take k,k8 p=true)/\Bw w wr) (fun _ vi _=>l.length - (intOf vi).toNat)
 case atStart=>exact⟨0,zS _,rfl,by simp,bR _⟩
 case round=>
  obtain⟨k,Z,rfl,m,D⟩:=hrel;obtain⟨F,U⟩:=gB D m;by_cases hlt:k < l.length
  ·obtain⟨g,o,rfl,bI⟩:=(H.below D).at_ (zA hlt);have M:Ce wr g (o+k*3) (I6 l[k].id):=bI 0 _ rfl;have c1:Ce wr g (o+k*3+1) (I6 l[k].inc):=bI 1 _ rfl;have c2:Ce wr g (o+k*3+2) (I6 l[k].st):=bI 2 _ rfl;have n:Hid (k8 l[k]=true->∀p∈l.take (k+1),k8 p=true):=aH fun h p hp=>by
    rw[qE hlt]at hp;rcases zK.1 hp with hp|hp
    ·exact U p hp
    ·simp at hp;subst hp;exact h
   clear bI m;generalize l[k]=t at M c1 c2 n;have s:=ba wr (.cells #[I6 t.id,I6 t.inc,I6 t.st] 121);have G:=am.new wr 121 #[I6 t.id,I6 t.inc,I6 t.st];obtain⟨W,I⟩:=nx (wr.alloc (.cells #[I6 t.id,I6 t.inc,I6 t.st] 121));rw[I]at s G;have B:=aH I;obtain⟨N,O,R⟩:=am.three G;obtain⟨f,x⟩:=gB (F.trans (s.mono F.size)) (fun W=>si t W);generalize k8 t=u at x n;have X:Bw W W.drew:=bD _;have S:=H.below f;clear I G s D;have r0:=fun d os=>cell_regrown N d os;have r1:=fun d os=>cell_regrown O d os;have r2:=fun d os=>cell_regrown R d os;clear N O R;cases u
   ·go_wp2_with fail;rw[B];refine wp_region_quiet_below (by kernel_rfl) (by kernel_rfl) ?_;repeat(go_big_quiet_step (first|(go_at_call 101;with_reducible exact Calls.regrown_of (x.out _))|fail))
    refine wpQuiet_nil ?_;intro J a;obtain⟨⟨j,i⟩,a⟩:=a;have b:=aH (f.trans ((below_regrown W j i).mono f.size));rw[<-a]at b;clear a;go_wp2_with fail;go_ret;exact⟨.inl rfl,b⟩
   ·rcases qK k with rfl|hk0
    ·simp only[yG,wD]at M c1 c2;go_wp2_with fail;rw[B];refine wp_region_quiet_below (by kernel_rfl) (by kernel_rfl) ?_;repeat(go_big_quiet_step (first|(go_at_call 101;with_reducible exact Calls.regrown_of (x.out _))|fail))
     refine wpQuiet_nil ?_;intro J a;obtain⟨⟨j,i⟩,a⟩:=a;have b:=aH (f.trans ((below_regrown W j i).mono f.size));rw[<-a]at b;clear a;go_wp2_with fail;go_roundw
     case rel=>exact⟨1,by omega,rfl,n (by trivial),b⟩
     case measure=>simp[intOf];omega
    ·obtain⟨k',rfl⟩:∃k',k=k'+1:=⟨k - 1,by omega⟩;have L:k' < l.length:=by omega
     obtain⟨g',o',y,q⟩:=S.at_ (zA L);injection y with y;injection y with hgo1 hgo2;subst hgo1;subst hgo2;have T:Ce W g (o+k'*3) (I6 l[k'].id):=q 0 _ rfl;have V:=fun d os=>cell_regrown T d os;have d3:decide ((0:Int) < (k':Int)+1)=true:=decide_eq_true (by omega);have d4:IntKind.i64.wrap ((k':Int)+1 - 1)=k':=by rw[zZ _ (by omega)];omega
     clear q S T;generalize l[k'].id=z at V;cases hz:decide (t.id<=z)
     ·go_wp2_with fail;rw[B];refine wp_region_quiet_below (by kernel_rfl) (by kernel_rfl) ?_;repeat(go_big_quiet_step (first|(go_at_call 101;with_reducible exact Calls.regrown_of (x.out _))|fail))
      refine wpQuiet_nil ?_;intro J a;obtain⟨⟨j,i⟩,a⟩:=a;have b:=aH (f.trans ((below_regrown W j i).mono f.size));rw[<-a]at b;clear a;go_wp2_with fail;go_roundw
      case rel=>exact⟨k'+1+1,by omega,by go_num,n (by trivial),b⟩
      case measure=>simp[intOf];omega
     ·go_wp2_with fail;rw[B];refine wp_region_quiet_below (by kernel_rfl) (by kernel_rfl) ?_;repeat(go_big_quiet_step (first|(go_at_call 101;with_reducible exact Calls.regrown_of (x.out _))|fail))
      refine wpQuiet_nil ?_;intro J a;obtain⟨⟨j,i⟩,a⟩:=a;have b:=aH (f.trans ((below_regrown W j i).mono f.size));rw[<-a]at b;clear a;go_wp2_with fail;go_ret;exact⟨.inl rfl,b⟩
  ·obtain rfl:k=l.length:=by omega
   rw[jJ]at m;go_wp2_with fail;go_ret;exact⟨.inr ⟨rfl,C,m⟩,F⟩
def mZ(t:Tg):Bool:=Nm.fW t.nm&&decide (1<=t.n)&&decide (t.n<=1048576)
theorem B4(s:List UInt8)(w:World)(a:s.length<=9223372036854775807):Cs 334 #[.string (aF s)] w fun e w'=>Rt e (.bool (Nm.fW s))/\Below w.heap.size w w':=(Nm.xp s w a).mono fun e w' ⟨h1,h2⟩=>⟨h1,h2▸bR _⟩
theorem jM{v}{l:List Tg}(w:World)(h:Rw a7 w v l)(hl:l.length<=1000000000)(V:∀t∈l,t.nm.length<=1000000000000):
  Cs 242 #[v] w fun e w'=>(Rt e (I6 1)\/Rt e (I6 0)/\l.length<=100/\∀p∈l,mZ p=true)/\Below w.heap.size w w':=by
 obtain⟨A,c,rfl,_⟩:=h.slice;have H:=aH h;clear h;apply cI;go_in;cases hd:decide ((100:Int) < (l.length:Int))
 case true=>
  go_wp2_with fail;go_ret;exact⟨.inl rfl,bR _⟩
 have F:l.length<=100:=by simp at hd;omega
 go_wp2_with fail;go_loopw[3,10] (fun _ vi wr=>∃k:Nat,k<=l.length/\vi=I6 k/\(∀p∈l.take k,mZ p=true)/\Bw w wr) (fun _ vi _=>l.length - (intOf vi).toNat)
 case atStart=>exact⟨0,zS _,rfl,by simp,bR _⟩
 case round=>
  obtain⟨k,hk,rfl,n,G⟩:=hrel;obtain⟨I,X⟩:=gB G n;by_cases hlt:k < l.length
  ·obtain⟨g,o,rfl,bI⟩:=(H.below G).at_ (zA hlt);have N:Ce wr g (o+k*2) (.string (aF l[k].nm)):=bI 0 _ rfl;have c1:Ce wr g (o+k*2+1) (I6 l[k].n):=bI 1 _ rfl;have O:=V _ (zY hlt);have j:Hid (mZ l[k]=true->∀p∈l.take (k+1),mZ p=true):=aH fun h p hp=>by
    rw[qE hlt]at hp;rcases zK.1 hp with hp|hp
    ·exact X p hp
    ·simp at hp;subst hp;exact h
   clear bI n;generalize l[k]=t at N c1 O j;have x:=ba wr (.cells #[.string (aF t.nm),I6 t.n] 230);have J:=am.new wr 230 #[.string (aF t.nm),I6 t.n];obtain⟨W,L⟩:=nx (wr.alloc (.cells #[.string (aF t.nm),I6 t.n] 230));rw[L]at x J;have y:=aH L;obtain⟨R,S⟩:=am.two J;obtain⟨f,s⟩:=gB (I.trans (x.mono I.size)) (fun W=>B4 t.nm W (by omega));have B:Hid (Nm.fW t.nm=true->decide (t.n < 1)=false->decide ((1048576:Int) < t.n)=false->mZ t=true):=aH fun h1 h2 h3=>by unfold mZ;simp at h2 h3;simp[h1];omega
   generalize mZ t=ot at j B;generalize Nm.fW t.nm=u at s B;have Z:Bw W W.drew:=bD _;have T:=H.below f;clear L J x G;have r0:=fun d os=>cell_regrown R d os;have r1:=fun d os=>cell_regrown S d os;clear R S;cases u
   ·go_wp2_with fail;rw[y];refine wp_region_quiet_below (by kernel_rfl) (by kernel_rfl) ?_;repeat(go_big_quiet_step (first|(go_at_call 334;with_reducible exact Calls.regrown_of (s.out _))|fail))
    refine wpQuiet_nil ?_;intro D a;obtain⟨⟨m,i⟩,a⟩:=a;have b:=aH (f.trans ((below_regrown W m i).mono f.size));rw[<-a]at b;clear a;go_wp2_with fail;go_ret;exact⟨.inl rfl,b⟩
   ·cases h1:decide (t.n < 1)
    case true=>
     go_wp2_with fail;rw[y];refine wp_region_quiet_below (by kernel_rfl) (by kernel_rfl) ?_;repeat(go_big_quiet_step (first|(go_at_call 334;with_reducible exact Calls.regrown_of (s.out _))|fail))
     refine wpQuiet_nil ?_;intro D a;obtain⟨⟨m,i⟩,a⟩:=a;have b:=aH (f.trans ((below_regrown W m i).mono f.size));rw[<-a]at b;clear a;go_wp2_with fail;go_ret;exact⟨.inl rfl,b⟩
    cases h2:decide ((1048576:Int) < t.n)
    case true=>
     go_wp2_with fail;rw[y];refine wp_region_quiet_below (by kernel_rfl) (by kernel_rfl) ?_;repeat(go_big_quiet_step (first|(go_at_call 334;with_reducible exact Calls.regrown_of (s.out _))|fail))
     refine wpQuiet_nil ?_;intro D a;obtain⟨⟨m,i⟩,a⟩:=a;have b:=aH (f.trans ((below_regrown W m i).mono f.size));rw[<-a]at b;clear a;go_wp2_with fail;go_ret;exact⟨.inl rfl,b⟩
    have j:=aH (j (B rfl h1 h2));rcases qK k with rfl|hk0
    ·simp only[yG,wD]at N c1;go_wp2_with fail;rw[y];refine wp_region_quiet_below (by kernel_rfl) (by kernel_rfl) ?_;repeat(go_big_quiet_step (first|(go_at_call 334;with_reducible exact Calls.regrown_of (s.out _))|fail))
     refine wpQuiet_nil ?_;intro D a;obtain⟨⟨m,i⟩,a⟩:=a;have b:=aH (f.trans ((below_regrown W m i).mono f.size));rw[<-a]at b;clear a;go_wp2_with fail;go_roundw
     case rel=>exact⟨1,by omega,rfl,j,b⟩
     case measure=>simp[intOf];omega
    ·obtain⟨k',rfl⟩:∃k',k=k'+1:=⟨k - 1,by omega⟩;have M:k' < l.length:=by omega
     obtain⟨g',o',C,q⟩:=T.at_ (zA M);injection C with C;injection C with hgo1 hgo2;subst hgo1;subst hgo2;have U:Ce W g (o+k'*2) (.string (aF l[k'].nm)):=q 0 _ rfl;have Y:=fun d os=>cell_regrown U d os;have d3:decide ((0:Int) < (k':Int)+1)=true:=decide_eq_true (by omega);have d4:IntKind.i64.wrap ((k':Int)+1 - 1)=k':=by rw[zZ _ (by omega)];omega
     clear q T U;generalize aF l[k'].nm=z at Y;go_wp2_with fail;rw[y];refine wp_region_quiet_below (by kernel_rfl) (by kernel_rfl) ?_;repeat(go_big_quiet_step (first|(go_at_call 334;with_reducible exact Calls.regrown_of (s.out _))|fail))
     refine wpQuiet_nil ?_;intro D a;obtain⟨⟨m,i⟩,a⟩:=a;have b:=aH (f.trans ((below_regrown W m i).mono f.size));rw[<-a]at b;clear a;go_wp2_with fail;all_goals first
      |(go_ret;exact⟨.inl rfl,b⟩)
      |(refine⟨⟨k'+1+1,by omega,by go_num,j,b⟩,by simp[intOf];omega⟩)
  ·obtain rfl:k=l.length:=by omega
   rw[jJ]at n;go_wp2_with fail;go_ret;exact⟨.inr ⟨rfl,F,n⟩,I⟩
end Go.Proofs.YthdfgdicnplhlaaGreatDoor
