import Derived.Test.YthdfgdicnplhlaaGreatDoorA
import Derived.BigQuiet
import Derived.BigRegion
import Derived.Deep.AppendLies
import Derived.Deep.DeepCutAuto
import Derived.Deep.DeepFit
import Derived.Deep.DeepMust
import Derived.Deep.DrawnRows
import Derived.Deep.Draws
import Derived.Deep.LoopGhost
import Derived.Deep.QuietTactic
import Derived.Deep.RegionHeld3
import Derived.Deep.RegionLaw
import Derived.Deep.RegionWith
import Derived.Laws.BytesArg
import Derived.Laws.Concat
import Derived.Laws.Externs
import Derived.Laws.OwnMore
import Derived.Lib.AppendZeros
import Derived.Lib.AppendZerosOnto
import Derived.Lib.Bytealg
import Derived.Lib.Hide
import Derived.Lib.Overlaps
import Derived.LoopN
import Derived.Maps.AppendAt
import Derived.Maps.Range
import Derived.Maps.RangeRun
import Derived.Outline
import Derived.StillTailTactics
import Derived.Test.YthdfgdicnplhlaaGreatDoorRows
import Derived.WalkKit
import Derived.WalkLawsBesides
import Derived.WalkMore
import Derived.WalkSpells
set_option maxHeartbeats 16000000
set_option maxRecDepth 100000
set_option linter.all false
namespace Go.Proofs.YthdfgdicnplhlaaGreatDoor
namespace Hd
end Hd
open Go.RowKit Hd _root_.Go.Proofs.Tryz
variable{w:World}{g:Nat}{o:Oper}{t:TypeId}{k:Nat}{cs:List Value}{lo m c base s n:Nat}{xs:List Value}{a:Act}{K:Act->World->Prop}{Q:Exit->Act->World->Prop}{ops:Array Oper}{E:Prop}{rest:List Oper}{e:TypeId}{w':World}{P:Program}{p:Int×Value}{α:Type}{b i F j:Nat}{v:Value}{wr:World}{q:Nat × Nat → Prop}{w1 w2:World}{l:List α}
def Sl(w:World)(s:Nat)(A:Option Addr)(n:Nat)(xs:List Value):Prop:=
 xs.length=n*s/\(0 < n->∃g o,A=some ⟨g,o,none⟩/\g < w.heap.size/\∀j u,xs[j]?=some u->w.cell? ⟨g,o+j,none⟩=some u)
def fM(w:World)(e:TypeId)(s:Nat)(A:Option Addr)(n:Nat)(xs:List Value):Prop:=
 xs.length=n*s/\(0 < n->∃g o cur,A=some ⟨g,o,none⟩/\w.heap[g]?=some (.cells cur e (0,0))/\∀j u,xs[j]?=some u->cur[o+j]?=some u)
def am(w:World)(g:Nat)(t:TypeId)(cs:Array Value):Prop:=w.heap[g]?=some (.cells cs t (0,0))
abbrev aW(g:Nat)(w w':World):Prop:=w.grownBy w' (some g)
theorem ap{o:Obj}(h:w.heap[g]?=some o):g < w.heap.size:=by
 rcases Nat.lt_or_ge g w.heap.size with hlt|hge
 ·exact hlt
 ·rw[Array.getElem?_eq_none hge]at h;cases h
section
variable{A:Option Addr}
theorem fM.sl(h:fM w e s A n xs):Sl w s A n xs:=
 ⟨h.1,fun hn=>by
  obtain⟨g,o,a,rfl,b,c⟩:=h.2 hn
  exact⟨g,o,rfl,ap b,fun j u hu=>by rw[cell_of_row w g (o+j) a e (0,0) b];exact c j u hu⟩⟩
theorem Sl.keep(h:Sl w s A n xs)(f:w.heap.size<=w'.heap.size)(a:∀g o,A=some ⟨g,o,none⟩->g < w.heap.size->w'.heap[g]?=w.heap[g]?):Sl w' s A n xs:=
 ⟨h.1,fun hn=>by
  obtain⟨g,o,rfl,b,c⟩:=h.2 hn
  refine⟨g,o,rfl,by omega,fun j u hu=>?_⟩
  rw[World.cell?_of_block (w:=w) (a g o rfl b)]
  exact c j u hu⟩
theorem fM.keep(h:fM w e s A n xs)(c:∀g,g < w.heap.size->(∃a,w.heap[g]?=some (.cells a e (0,0)))->w'.heap[g]?=w.heap[g]?):fM w' e s A n xs:=
 ⟨h.1,fun hn=>by
  obtain⟨g,o,a,rfl,b,f⟩:=h.2 hn
  exact⟨g,o,a,rfl,by rw[c g (ap b) ⟨_,b⟩];exact b,f⟩⟩
theorem Sl.below(h:Sl w s A n xs)(a:Below w.heap.size w w'):Sl w' s A n xs:=h.keep a.size fun g _ _ hg=>a.block g hg
theorem fM.below(h:fM w e s A n xs)(a:Below w.heap.size w w'):fM w' e s A n xs:=h.keep fun g hg _=>a.block g hg
theorem fM.only(h:fM w e s A n xs)(f:aW g w w'){cs}(a:am w g t cs)(b:e≠t):fM w' e s A n xs:=
 h.keep fun k hk ⟨cur,hc⟩=>f.block k hk fun heq=>by
  have c:k=g:=by simpa using heq
  subst c
  unfold am at a
  rw[a]at hc
  injection hc with hc;injection hc with _ ht
  exact b ht.symm
theorem am.lt{cs}(h:am w g t cs):g < w.heap.size:=ap h
theorem am.cell{cs}(h:am w g t cs)(i:Nat):w.cell? ⟨g,i,none⟩=cs[i]?:=cell_of_row w g i cs t (0,0) h
theorem am.frozen{cs}(h:am w g t cs)(i:Nat):w.frozen? ⟨g,i,none⟩=false:=by
 unfold am at h;simp[World.frozen?,h]
theorem am.below{cs}(h:am w g t cs)(a:Below w.heap.size w w'):am w' g t cs:=(a.block g h.lt).trans h
theorem am.only{cs}(h:am w g t cs)(b:aW k w w')(a:g≠k):am w' g t cs:=(b.block g h.lt (by simpa using a)).trans h
theorem am.new(w:World)(t:TypeId) cs:am (w.alloc (.cells cs t)) w.heap.size t cs:=heap_alloc_new w _
theorem am.alloc{cs}(h:am w g t cs)(o:Obj):am (w.alloc o) g t cs:=(Below.heap_alloc w o g h.lt).trans h
theorem am.drew{cs}(h:am w g t cs):am w.drew g t cs:=h
theorem am.I{cs:Array Value}(h:am w g t cs)(i:Nat) u:am (w.setCell ⟨g,i,none⟩ u) g t (cs.setIfInBounds i u):=by
 unfold am at h ⊢;simp[World.setCell,Array.getElem?_modify,h]
theorem fM.drew(h:fM w e s A n xs):fM w.drew e s A n xs:=h
theorem Sl.drew(h:Sl w s A n xs):Sl w.drew s A n xs:=h
theorem aB(w:World)(g i:Nat) u:aW g w (w.setCell ⟨g,i,none⟩ u):=
 ⟨rfl,rfl,rfl,by simp[World.setCell],fun k _ hk=>Below.heap_setCell w ⟨g,i,none⟩ u k (fun e=>hk (by simp[e]))⟩
theorem aG(h:Below w.heap.size w w'):aW g w w':=⟨h.os,h.tape,h.output,h.size,fun k hk _=>h.block k hk⟩
theorem aA{w''}(h:aW g w w')(k:aW g w' w''):aW g w w'':=
 ⟨k.os.trans h.os,k.tape.trans h.tape,k.output.trans h.output,Nat.le_trans h.size k.size,fun i hi hne=>(k.block i (Nat.lt_of_lt_of_le hi h.size) hne).trans (h.block i hi hne)⟩
theorem cJ:aW g w w:=aG (Below.refl _ _)
theorem aW.below{B:Nat}(h:aW g w w')(a:B<=g)(b:B<=w.heap.size):Below B w w':=⟨h.os,h.tape,h.output,h.size,fun k hk=>h.block k (by omega) (by simp;omega)⟩
theorem Sl.at_(h:Sl w s A n xs)(a:0 < n):∃g o,A=some ⟨g,o,none⟩/\g < w.heap.size/\∀j u,xs[j]?=some u->w.cell? ⟨g,o+j,none⟩=some u:=h.2 a
theorem Sl.cut(h:Sl w s A n xs)(f:lo+m<=n)(i:n<=c):
  Sl w s (if c=lo then A else A.map (·.add (lo*s))) m ((xs.drop (lo*s)).take (m*s)):=by
 refine⟨?_,fun hm0=>?_⟩
 ·rw[List.length_take,List.length_drop,h.1,<-Nat.sub_mul];exact Nat.min_eq_left (Nat.mul_le_mul_right _ (by omega))
 ·obtain⟨g,o,rfl,b,a⟩:=h.2 (by omega);rw[if_neg (by omega)];refine⟨g,o+lo*s,by simp[Addr.add],b,fun j u hu=>?_⟩;rw[List.getElem?_take]at hu;split at hu
  ·rw[Nat.add_assoc];exact a _ u (by rw[<-hu,List.getElem?_drop])
  ·cases hu
theorem fM.cut(h:fM w e s A n xs)(i:lo+m<=n)(k:n<=c):
  fM w e s (if c=lo then A else A.map (·.add (lo*s))) m ((xs.drop (lo*s)).take (m*s)):=by
 refine⟨?_,fun hm0=>?_⟩
 ·rw[List.length_take,List.length_drop,h.1,<-Nat.sub_mul];exact Nat.min_eq_left (Nat.mul_le_mul_right _ (by omega))
 ·obtain⟨g,o,b,rfl,f,a⟩:=h.2 (by omega);rw[if_neg (by omega)];refine⟨g,o+lo*s,b,by simp[Addr.add],f,fun j u hu=>?_⟩;rw[List.getElem?_take]at hu;split at hu
  ·rw[Nat.add_assoc];exact a _ u (by rw[<-hu,List.getElem?_drop])
  ·cases hu
theorem aI{v}(h:w.ownsRow base e s v n xs)(a:Below w.heap.size w w'):w'.ownsRow base e s v n xs:=
 h.kept (row:=none) ⟨a.os,a.tape,a.output,a.size,fun k hk _=>a.block k hk⟩ (by cases hv:v.ownBlock<;>simp)
theorem bK{v}(h:w.ownsRow base e s v n xs)(f:aW g w w'){cs}(a:am w g t cs)(b:e≠t):w'.ownsRow base e s v n xs:=by
 refine⟨h.1,?_⟩;rcases h.2 with hn|⟨g',cap,cur,hv,h1,hg,hr⟩
 ·exact .inl hn
 ·refine .inr ⟨g',cap,cur,hv,h1,?_,hr⟩;rw[f.block g' (ap hg) (fun heq=>?_)]
  ·exact hg
  ·have c:g'=g:=by simpa using heq
   subst c;unfold am at a;rw[a]at hg;injection hg with hg;injection hg with _ ht;exact b ht.symm
theorem bV{v}(h:w.ownsRow base e s v n xs):∃A c,v=.slice A n c/\n<=c:=by
 rcases h.2 with⟨hv,b⟩|⟨g,cap,f,hv,_,_,a,_⟩
 ·subst b;exact⟨none,0,hv,Nat.le_refl _⟩
 ·exact⟨_,cap,hv,a⟩
theorem fM.aa(h:w.ownsRow base e s (.slice A n c) n xs):fM w e s A n xs:=by
 refine⟨h.1,fun hn=>?_⟩;rcases h.2 with⟨_,k⟩|⟨g,cap,b,hv,_,f,_,_,_,a⟩
 ·omega
 ·have i:A=some ⟨g,0,none⟩:=by injection hv
  refine⟨g,0,b,i,f,fun j u hu=>?_⟩;rw[<-a,List.getElem?_take]at hu;split at hu
  ·simpa using hu
  ·cases hu
end
section
variable(w:World)
theorem Sl.cells{w:World}{A}{xs}(h:Sl w s A n xs)(a:Addr)(f:A=some a):∀j u,xs[j]?=some u->w.cell? (a.add j)=some u:=by
 intro j u c;rcases Nat.eq_zero_or_pos n with h0|h0
 ·subst h0;have:xs=[]:=List.eq_nil_of_length_eq_zero (by simpa using h.1);subst this;simp at c
 ·obtain⟨g,o,b,_,i⟩:=h.2 h0;rw[f]at b;injection b with b;subst b;have:=i j u c;simpa[Addr.add_lit]using this
theorem fU(A:Option Addr):A.map (·.add 0)=A:=by
 cases A with
 |none=>rfl
 |some a=>simp[Addr.add]
theorem eo(t e:TypeId)(i:TypeInfo)(a:P.underlying t=some (.slice e))(hi:P.info? e=some i)(b:IntKind) A(n c k:Nat)(hk:k<=c):
  ∀w,(Instr.slice t (.slice A n c) none (some (.int b (k:Int))) none).run P w=.ok (.slice A k c) w:=fun w=>by
 have f:(0:Int)<=(k:Int):=by omega
 have g:(k:Int)<=(c:Int):=by omega
 simp[Instr.slice,run_underlying a,Instr.sliceBounds,run_sliceBound,sizeOf,typeInfo,hi,f,g,fU]
theorem ry(t e:TypeId)(i:TypeInfo)(a:P.underlying t=some (.slice e))(hi:P.info? e=some i)(b f:IntKind) A(n c k:Nat)(hk:k<=c):
  ∀w,(Instr.slice t (.slice A n c) none (some (.int b (k:Int))) (some (.int f (k:Int)))).run P w=.ok (.slice A k k) w:=fun w=>by
 have g:(0:Int)<=(k:Int):=by omega
 have h:(k:Int)<=(c:Int):=by omega
 simp[Instr.slice,run_underlying a,Instr.sliceBounds,run_sliceBound,sizeOf,typeInfo,hi,g,h,fU]
theorem l8(t e:TypeId)(i:TypeInfo)(a:P.underlying t=some (.slice e))(hi:P.info? e=some i)(s:Nat)(b:i.size=s)(f:IntKind) A(n c:Nat)(z:Int)(k:Nat)(hz:z=k)(hk:k<=n)(hc:n<=c):
  ∃A2,(∀w,(Instr.slice t (.slice A n c) (some (.int f z)) none none).run P w=.ok (.slice A2 (n - k) (c - k)) w)/\
   (∀w xs,Sl w s A n xs->Sl w s A2 (n - k) (xs.drop (k*s)))/\(∀w e xs,fM w e s A n xs->fM w e s A2 (n - k) (xs.drop (k*s))):=by
 subst hz;refine⟨if c=k then A else A.map (·.add (k*s)),fun w=>?_,fun w xs h=>?_,fun w e xs h=>?_⟩
 ·have g:(0:Int)<=(k:Int):=by omega
  have j:(k:Int)<=(n:Int):=by omega
  simp[Instr.slice,run_underlying a,Instr.sliceBounds,run_sliceBound,sizeOf,typeInfo,hi,b,g,j]
 ·have:=h.cut (lo:=k) (m:=n - k) (c:=c) (by omega) hc;rwa[List.take_of_length_le (by rw[List.length_drop,h.1,<-Nat.sub_mul];exact Nat.le_refl _)]at this
 ·have:=h.cut (lo:=k) (m:=n - k) (c:=c) (by omega) hc;rwa[List.take_of_length_le (by rw[List.length_drop,h.1,<-Nat.sub_mul];exact Nat.le_refl _)]at this
theorem Sl.take{w}{A}(h:Sl w s A n xs)(a:k<=n):Sl w s A k (xs.take (k*s)):=by
 have:=h.cut (lo:=0) (m:=k) (c:=n+1) (by omega) (by omega);simpa[fU]using this
theorem e2(t ty e:TypeId)(i:TypeInfo)(f:P.underlying t=some (.slice e))(hi:P.info? e=some i)
   A (n c:Nat) (hc:n<=c) A2 (c2:Nat):
  (Builtin.append_ #[t,t] ty #[.slice A n c,.slice A2 0 c2]).run P w=.ok (.slice A n c) w:=by
 rcases A with _|a<;>rcases A2 with _|b<;>
  simp[Builtin.append_,run_underlying f,sizeOf,typeInfo,hi,Builtin.lenOf,Builtin.firstCells,hc,storeCells,loadCells,loadCellsFrom]
theorem lU(t ty e:TypeId)(i:TypeInfo) z(s bytes:Nat)(ht:P.underlying t=some (.slice e))(hi:P.info? e=some i)(hz:i.zero=some z)
  (hsize:i.size=s) (hby:i.bytes=bytes)
   A (n:Nat) xs (hr:fM w e s A n xs)
   A2 (m c2:Nat) ys (hs:Sl w s A2 m ys)
  (h63:n+m<=maxLen) (hbytes:(n+m)*bytes<=140737488355328):
  ∃A' c' w',(Builtin.append_ #[t,t] ty #[.slice A n n,.slice A2 m c2]).run P w=.ok (.slice A' (n+m) c') w'/\
   fM w' e s A' (n+m) (xs++ys)/\Below w.heap.size w w'/\n+m<=c'/\c'<=maxLen/\(A'=A/\m=0\/A'=some ⟨w.heap.size,0,none⟩):=by
 subst hsize;subst hby
 have p:n+m<=9223372036854775807:=by simp only[maxLen]at h63;omega
 rcases Nat.eq_zero_or_pos m with hm|hm
 ·subst hm;have x:=List.eq_nil_of_length_eq_zero (by simpa using hs.1);subst x;exact⟨A,n,w,e2 w t ty e i ht hi A n n (Nat.le_refl _) A2 c2,by simpa using hr,Below.refl _ _,Nat.le_refl _,h63,.inl ⟨rfl,rfl⟩⟩
 ·obtain⟨c,o2,rfl,_,_⟩:=hs.2 hm;have hcells:=hs.cells _ rfl;have f:(xs++ys).length=(n+m)*i.size:=by rw[List.length_append,hr.1,hs.1,Nat.add_mul]
  have b:∀(cap:Nat),fM (w.drew.alloc (.cells (xs.toArray++ys.toArray++Builtin.zeroCells z.cells cap) e)) e i.size (some ⟨w.heap.size,0,none⟩) (n+m) (xs++ys)/\
    Below w.heap.size w (w.drew.alloc (.cells (xs.toArray++ys.toArray++Builtin.zeroCells z.cells cap) e)):=fun cap=>
   ⟨⟨f,fun _=>⟨w.heap.size,0,_,rfl,heap_alloc_new w.drew _,fun j u hu=>by
    obtain⟨y,_⟩:=List.getElem?_eq_some_iff.1 hu;have q:0+j < (xs.toArray++ys.toArray).size:=by simpa using y
    rw[Array.getElem?_append_left q];simpa using hu⟩⟩,((Below.refl _ _).drew).alloc (Nat.le_refl _) _⟩
  rcases Nat.eq_zero_or_pos n with hn|hn
  ·subst hn;have B:=List.eq_nil_of_length_eq_zero (by simpa using hr.1);subst B;rcases A with _|a
   ·have h:=run_append_nil (P:=P) w t ty e i z ht hi hz ⟨c,o2,none⟩ m c2 ys hs.1 hcells (by omega) (by omega) (by have C:=hbytes;simp only[Nat.zero_add]at C;omega);have k:=b (grownCap w m 0 e - m);simp only[Nat.zero_add,List.nil_append,Array.empty_append]at k ⊢;exact⟨_,_,_,h,k.1,k.2,grownCap_ge w m 0 e,grownCap_le_maxLen w m 0 e (by omega),.inr rfl⟩
   ·have h:=run_append_grow (P:=P) w t ty e i z ht hi hz a 0 0 [] (by simp) (by simp) ⟨c,o2,none⟩ m c2 ys hs.1 hcells (by omega) (by omega) (growslice_fits (by omega) hbytes);exact⟨_,_,_,h,(b _).1,(b _).2,grownCap_ge w _ _ e,grownCap_le_maxLen w _ _ e h63,.inr rfl⟩
  ·obtain⟨g,o,D,rfl,F,G⟩:=hr.2 hn;have holds:∀j u,xs[j]?=some u->w.cell? ((⟨g,o,none⟩:Addr).add j)=some u:=hr.sl.cells _ rfl;have h:=run_append_grow (P:=P) w t ty e i z ht hi hz ⟨g,o,none⟩ n n xs hr.1 holds ⟨c,o2,none⟩ m c2 ys hs.1 hcells (by omega) (by omega) (growslice_fits (by omega) hbytes);exact⟨_,_,_,h,(b _).1,(b _).2,grownCap_ge w _ _ e,grownCap_le_maxLen w _ _ e h63,.inr rfl⟩
theorem l9(s x:Operand)(t:TypeId)
  (g:o.op=.call {callee:=.builtin .append,args:=#[s,x],argTypes:=#[t,t]})
  (e:TypeId) (i:TypeInfo) z (sz bytes:Nat) (ht:P.underlying t=some (.slice e)) (hi:P.info? e=some i) (hz:i.zero=some z)
  (hsize:i.size=sz) (hby:i.bytes=bytes)
   A (n:Nat) xs (hs:a.eval s=.slice A n n) (f:fM w e sz A n xs)
   A2 (m c2:Nat) ys (hx:a.eval x=.slice A2 m c2) (hy:Sl w sz A2 m ys)
  (h63:n+m<=maxLen) (hbytes:(n+m)*bytes<=140737488355328)
  (h:∀b c w',fM w' e sz b (n+m) (xs++ys)->Below w.heap.size w w'->n+m<=c->c<=maxLen->(b=A/\m=0\/b=some ⟨w.heap.size,0,none⟩)->K (a.put o.dst (.slice b (n+m) c)) w'):o.wp P a w K Q:=by
 obtain⟨b,c,w',f,j,k,p,q,u⟩:=lU (P:=P) w t o.type e i z sz bytes ht hi hz hsize hby A n xs f A2 m c2 ys hy h63 hbytes;unfold Oper.wp execOp;simp only[g,resolve,invoke,builtin,Sem.run_bind,Sem.run_pure,Result.andThen_ok,List.map_toArray,List.map_cons,List.map_nil,hs,hx,f];exact h b c w' j k p q u
theorem kS(b:o.guard=none)(s x:Operand)(t:TypeId)
  (c:o.op=.call {callee:=.builtin .append,args:=#[s,x],argTypes:=#[t,t]})
  (e:TypeId) (i:TypeInfo) z (sz bytes:Nat) (ht:P.underlying t=some (.slice e)) (hi:P.info? e=some i) (hz:i.zero=some z)
  (hsize:i.size=sz) (hby:i.bytes=bytes)
   A (n:Nat) xs (hs:a.eval s=.slice A n n) (hr:fM w e sz A n xs)
   A2 (m c2:Nat) ys (hx:a.eval x=.slice A2 m c2) (hy:Sl w sz A2 m ys)
  (h63:n+m<=maxLen) (hbytes:(n+m)*bytes<=140737488355328)
  (h:∀A' c' w',fM w' e sz A' (n+m) (xs++ys)->Below w.heap.size w w'->n+m<=c'->c'<=maxLen->(A'=A/\m=0\/A'=some ⟨w.heap.size,0,none⟩)->K (a.put o.dst (.slice A' (n+m) c')) w'):
  if Region.wanted o (yielded ops a.tmps)=true then Oper.wp P o a w K Q else E:=by
 have f:Region.wanted o (yielded ops a.tmps)=true:=by simp[Region.wanted,b]
 rw[if_pos f];exact l9 w s x t c e i z sz bytes ht hi hz hsize hby A n xs hs hr A2 m c2 ys hx hy h63 hbytes h
theorem eB(base:Nat)(t ty e:TypeId)(i:TypeInfo)(z:Value)(s bytes:Nat)(b:P.underlying t=some (.slice e))(hi:P.info? e=some i)(q:i.zero=some z)
  (a:i.size=s) (f:i.bytes=bytes) (h:z.cells.size=s) (j:0 < s)
  (v:Value) (n:Nat) xs (hown:w.ownsRow base e s v n xs)
   A (m c:Nat) ys (hs:Sl w s A m ys) (h1:∀u∈ys,u.oneCell'=true)
  (h63:n+m<=maxLen) (hbytes:(n+m)*bytes<=140737488355328) (hbase:base<=w.heap.size):
  ∃v' w',(Builtin.append_ #[t,t] ty #[v,.slice A m c]).run P w=.ok v' w'/\w'.ownsRow base e s v' (n+m) (xs++ys)/\w.grownBy w' v.ownBlock/\
   (v'.ownBlock=v.ownBlock\/v'.ownBlock=some w.heap.size):=by
 rcases Nat.eq_zero_or_pos m with h0|h0
 ·subst h0;have x:=List.eq_nil_of_length_eq_zero (by simpa using hs.1);subst x;rcases hown.2 with⟨rfl,rfl⟩|⟨g,cap,D,rfl,F,G,k,p⟩
  ·exact⟨_,w,e2 w t ty e i b hi none 0 0 (Nat.le_refl _) A c,by simpa using hown,World.grownBy.refl w _,.inl rfl⟩
  ·exact⟨_,w,e2 w t ty e i b hi _ n cap k A c,by simpa using hown,World.grownBy.refl w _,.inl rfl⟩
 ·obtain⟨g,o,rfl,_,_⟩:=hs.2 h0;obtain⟨v',w',p,y,B,_,C⟩:=run_append_own_at (P:=P) w base t ty e i z s bytes b hi q a f h j v n xs hown ⟨g,o,none⟩ m c ys hs.1 (hs.cells _ rfl) h1 h63 hbytes hbase;exact⟨v',w',p,y,B,C⟩
theorem jk(f x:Operand)(t:TypeId)
  (p:o.op=.call {callee:=.builtin .append,args:=#[f,x],argTypes:=#[t,t]})
  (base:Nat) (e:TypeId) (i:TypeInfo) (z:Value) (s bytes:Nat) (q:P.underlying t=some (.slice e)) (hi:P.info? e=some i) (y:i.zero=some z)
  (b:i.size=s) (g:i.bytes=bytes) (j:z.cells.size=s) (k:0 < s)
  (v:Value) (n:Nat) xs (hs:a.eval f=v) (hown:w.ownsRow base e s v n xs)
   A (m c:Nat) ys (hx:a.eval x=.slice A m c) (hy:Sl w s A m ys) (h1:∀u∈ys,u.oneCell'=true)
  (h63:n+m<=maxLen) (hbytes:(n+m)*bytes<=140737488355328) (hbase:base<=w.heap.size)
  (h:∀v' w',w'.ownsRow base e s v' (n+m) (xs++ys)->w.grownBy w' v.ownBlock->(v'.ownBlock=v.ownBlock\/v'.ownBlock=some w.heap.size)->K (a.put o.dst v') w'):o.wp P a w K Q:=by
 obtain⟨v',w',B,C,D,F⟩:=eB (P:=P) w base t o.type e i z s bytes q hi y b g j k v n xs hown A m c ys hy h1 h63 hbytes hbase;unfold Oper.wp execOp;simp only[p,resolve,invoke,builtin,Sem.run_bind,Sem.run_pure,Result.andThen_ok,List.map_toArray,List.map_cons,List.map_nil,hs,hx,B];exact h v' w' C D F
theorem bA(g:o.guard=none)(f x:Operand)(t:TypeId)
  (q:o.op=.call {callee:=.builtin .append,args:=#[f,x],argTypes:=#[t,t]})
  (base:Nat) (e:TypeId) (i:TypeInfo) (z:Value) (s bytes:Nat) (y:P.underlying t=some (.slice e)) (hi:P.info? e=some i) (B:i.zero=some z)
  (b:i.size=s) (j:i.bytes=bytes) (k:z.cells.size=s) (p:0 < s)
  (v:Value) (n:Nat) xs (hs:a.eval f=v) (hown:w.ownsRow base e s v n xs)
   A (m c:Nat) ys (hx:a.eval x=.slice A m c) (hy:Sl w s A m ys) (h1:∀u∈ys,u.oneCell'=true)
  (h63:n+m<=maxLen) (hbytes:(n+m)*bytes<=140737488355328) (hbase:base<=w.heap.size)
  (h:∀v' w',w'.ownsRow base e s v' (n+m) (xs++ys)->w.grownBy w' v.ownBlock->(v'.ownBlock=v.ownBlock\/v'.ownBlock=some w.heap.size)->wpList P ops Q rest (a.put o.dst v') w'):wpList P ops Q (o::rest) a w:=
 wpList_plain g fun _ hK=>jk w f x t q base e i z s bytes y hi B b j k p v n xs hs hown A m c ys hx hy h1 h63 hbytes hbase fun v' w' h2 h3 h4=>hK _ _ (h v' w' h2 h3 h4)
theorem lV(g:o.guard=none)(f x:Operand)(t:TypeId)
  (q:o.op=.call {callee:=.builtin .append,args:=#[f,x],argTypes:=#[t,t]})
  (base:Nat) (e:TypeId) (i:TypeInfo) (z:Value) (s bytes:Nat) (y:P.underlying t=some (.slice e)) (hi:P.info? e=some i) (B:i.zero=some z)
  (b:i.size=s) (j:i.bytes=bytes) (k:z.cells.size=s) (p:0 < s)
  (v:Value) (n:Nat) xs (hs:a.eval f=v) (hown:w.ownsRow base e s v n xs)
   A (m c:Nat) ys (hx:a.eval x=.slice A m c) (hy:Sl w s A m ys) (h1:∀u∈ys,u.oneCell'=true)
  (h63:n+m<=maxLen) (hbytes:(n+m)*bytes<=140737488355328) (hbase:base<=w.heap.size)
  (h:∀v' w',w'.ownsRow base e s v' (n+m) (xs++ys)->w.grownBy w' v.ownBlock->(v'.ownBlock=v.ownBlock\/v'.ownBlock=some w.heap.size)->K (a.put o.dst v') w'):
  if Region.wanted o (yielded ops a.tmps)=true then Oper.wp P o a w K Q else E:=by
 have C:Region.wanted o (yielded ops a.tmps)=true:=by simp[Region.wanted,g]
 rw[if_pos C];exact jk w f x t q base e i z s bytes y hi B b j k p v n xs hs hown A m c ys hx hy h1 h63 hbytes hbase h
theorem e5(t e:TypeId)(i:TypeInfo)(a:P.underlying t=some (.slice e))(hi:P.info? e=some i)(s:Nat)(b:i.size=s)(f:IntKind)(g o n c:Nat)(z:Int)(k:Nat)(h:z=k)(q:k<=n)(u:k < c):
  ∀w,(Instr.slice t (.slice (some ⟨g,o,none⟩) n c) (some (.int f z)) none none).run P w=.ok (.slice (some ⟨g,o+k*s,none⟩) (n - k) (c - k)) w:=fun w=>by
 subst h
 have j:(0:Int)<=(k:Int):=by omega
 have m:(k:Int)<=(n:Int):=by omega
 have p:¬c=k:=by omega
 simp[Instr.slice,run_underlying a,Instr.sliceBounds,run_sliceBound,sizeOf,typeInfo,hi,b,j,m,p,Addr.add_lit]
theorem gN(u z ty c:TypeId)(s g o f k:Nat)(a:Addr)(h n m:Nat)(b:Array Value)(t:TypeId)(cs:List Value)
  (A:P.underlying u=some (.slice c)) (i:TypeInfo) (hi:P.info? c=some i) (B:i.size=s)
  (C:w.heap[g]?=some (.cells b t (0,0))) (D:Nat.min h f=m) (F:cs.length=m*s)
  (p:∀j v,cs[j]?=some v->w.cell? (a.add j)=some v) (q:o+cs.length<=b.size) (G:∀v∈cs,v.oneCell'=true):
  (Builtin.copy_ #[u,z] ty #[.slice (some ⟨g,o,none⟩) f k,.slice (some a) h n]).run P w=
   .ok (goInt m) (w.setRow g (b.toList.take o++cs++b.toList.drop (o+cs.length)).toArray):=by
 have x:=run_loadCells_list (P:=P) w a cs p;rw[F]at x;have y:=run_storeCells_at P g o t cs 0 b w C (by simpa using q) G;simp[Builtin.copy_,run_underlying A,Builtin.lenOf,Builtin.firstCells,sizeOf,typeInfo,hi,B,D,x,y]
theorem lw(d x:Operand)(t b:TypeId)
  (c:o.op=.call {callee:=.builtin .copy,args:=#[d,x],argTypes:=#[t,b]}) v u (hd:a.eval d=v) (hx:a.eval x=u) {v'} {w'}
  (hr:(Builtin.copy_ #[t,b] o.type #[v,u]).run P w=.ok v' w') (h:K (a.put o.dst v') w'):o.wp P a w K Q:=by
 unfold Oper.wp execOp;simp only[c,resolve,invoke,builtin,Sem.run_bind,Sem.run_pure,Result.andThen_ok,List.map_toArray,List.map_cons,List.map_nil,hd,hx,hr];exact h
theorem im(c:o.guard=none)(d x:Operand)(t b:TypeId)
  (f:o.op=.call {callee:=.builtin .copy,args:=#[d,x],argTypes:=#[t,b]}) v u (hd:a.eval d=v) (hx:a.eval x=u) {v'} {w'}
  (hr:(Builtin.copy_ #[t,b] o.type #[v,u]).run P w=.ok v' w') (h:wpList P ops Q rest (a.put o.dst v') w'):wpList P ops Q (o::rest) a w:=
 wpList_plain c fun _ hK=>lw w d x t b f v u hd hx hr (hK _ _ h)
theorem jl(c:o.guard=none)(d x:Operand)(t b:TypeId)
  (f:o.op=.call {callee:=.builtin .copy,args:=#[d,x],argTypes:=#[t,b]}) v u (hd:a.eval d=v) (hx:a.eval x=u) {v'} {w'}
  (hr:(Builtin.copy_ #[t,b] o.type #[v,u]).run P w=.ok v' w') (h:K (a.put o.dst v') w'):
  if Region.wanted o (yielded ops a.tmps)=true then Oper.wp P o a w K Q else E:=by
 have g:Region.wanted o (yielded ops a.tmps)=true:=by simp[Region.wanted,c]
 rw[if_pos g];exact lw w d x t b f v u hd hx hr h
end
def aR(w:World)(g:Nat)(e:TypeId)(cs:List Value):Prop:=w.heap[g]?=some (.cells cs.toArray e (0,0))
theorem aR.cell{cs}(h:aR w g e cs)(j:Nat):w.cell? ⟨g,j,none⟩=cs[j]?:=by
 rw[cell_of_row w g j _ e (0,0) h];simp
theorem aR.below{cs}(h:aR w g e cs)(a:Below w.heap.size w w'):aR w' g e cs:=(a.block g (ap h)).trans h
theorem aR.drew{cs}(h:aR w g e cs):aR w.drew g e cs:=h
theorem aR.other{cs}(h:aR w g e cs)(a:g≠k) xs:aR (w.setRow k xs) g e cs:=(setRow_other w k g xs a).trans h
theorem aR.set{cs}(h:aR w g e cs)(xs:List Value):aR (w.setRow g xs.toArray) g e xs:=setRow_heap w g _ _ e _ h
theorem dX(w:World)(g:Nat) xs:aW g w (w.setRow g xs):=⟨rfl,rfl,rfl,by simp[World.setRow],fun k _ hk=>setRow_other w g k xs (by simpa using hk)⟩
theorem aR.own{cap:Nat}(h:aR w g e cs)(f:base<=g)(a:n<=cap)(i:cap<=maxLen)(b:cs.length=cap*s)(c:cs.take (n*s)=xs):
  w.ownsRow base e s (.slice (some ⟨g,0,none⟩) n cap) n xs:=
 ⟨by rw[<-c,List.length_take,b];exact Nat.min_eq_left (Nat.mul_le_mul_right _ a),.inr ⟨g,cap,cs.toArray,rfl,f,h,a,i,by simpa using b,by simpa using c⟩⟩
theorem eZ(w:World)(t b ty:TypeId)(i:TypeInfo)(z:Value)(g o n c:Nat)(a:Array Value)(et:TypeId)
  (s:P.underlying t=some (.slice b)) (hi:P.info? b=some i) (u:i.zero=some z) (D:0 < n)
  (x:w.heap[g]?=some (.cells a et (0,0))) (j:o+n*z.cells.size<=a.size) (y:∀v∈z.cells,v.oneCell'=true):
  (Builtin.clear_ #[t] ty #[.slice (some ⟨g,o,none⟩) n c]).run P w=
   .ok (.tuple #[]) (w.setRow g (a.toList.take o++(Builtin.zeroCells z.cells n).toList++a.toList.drop (o+(Builtin.zeroCells z.cells n).toList.length)).toArray):=by
 have A:(Builtin.zeroCells z.cells n).toList.length=n*z.cells.size:=by rw[Array.length_toList,size_zeroCells]
 have hv:∀v∈(Builtin.zeroCells z.cells n).toList,v.oneCell'=true:=fun v hv=>by
  unfold Builtin.zeroCells at hv;rw[Array.toList_map]at hv;obtain⟨k,B,rfl⟩:=List.mem_map.1 hv;have p:k < n*z.cells.size:=by simpa using B
  have C:0 < z.cells.size:=by
   rcases Nat.eq_zero_or_pos z.cells.size with h|h
   ·rw[h]at p;omega
   ·exact h
  have f:=Nat.mod_lt k C;rw[getElem!_pos z.cells _ f];exact y _ (Array.getElem_mem f)
 have q:=run_storeCells_at P g o et (Builtin.zeroCells z.cells n).toList 0 a w x (by rw[A];simpa using j) hv;obtain⟨m,rfl⟩:∃m,n=m+1:=⟨n - 1,by omega⟩;simp[Builtin.clear_,run_underlying s,zeroValue,typeInfo,hi,u,q]
theorem dv w(hgd:o.guard=none)(d:Operand)(t:TypeId)
  (ho:o.op=.call {callee:=.builtin .clear,args:=#[d],argTypes:=#[t]}) v (hd:a.eval d=v) {v'} {w'}
  (hr:(Builtin.clear_ #[t] o.type #[v]).run P w=.ok v' w') (h:wpList P ops Q rest (a.put o.dst v') w'):wpList P ops Q (o::rest) a w:=
 wpList_plain hgd fun _ hK=>by
  unfold Oper.wp execOp
  simp only[ho,resolve,invoke,builtin,Sem.run_bind,Sem.run_pure,Result.andThen_ok,List.map_toArray,List.map_cons,List.map_nil,hd,hr]
  exact hK _ _ h
theorem aN{id:Nat}{l:List Oper}(n:Nat)(b:P.follows .mixedOrders=true)(c:Region.lexTailB .any l.toArray n=true)
  (h:wpStill P l.toArray w.drew (fun a'=>wpList P l.toArray Q (l.drop n) a' w.drew) (l.take n) a):(Code.region id l.toArray true).wp P Q a w:=
 wp_region_still_tail n b c h
abbrev I6(z:Int):Value:=.int .i64 z
abbrev Pt(g:Nat):Value:=.pointer (some ⟨g,0,none⟩)
abbrev Ce(w:World)(g i:Nat)(v:Value):Prop:=w.cell? ⟨g,i,none⟩=some v
abbrev aS:Value:=.slice none 0 0
abbrev Se:Value:=.string ⟨#[]⟩
abbrev Cs(f:FuncId)(a:Array Value)(w:World)(Q:Ending→World→Prop):Prop:=Calls Tryz.prog f a w Q
abbrev Bw(w w':World):Prop:=Below w.heap.size w w'
theorem aH{p:Prop}(h:p):Hid p:=Lib.hid h
section
variable{a b c d e f g h:Prop}
theorem gB(x0:a)(x1:b):Hid a∧Hid b:=⟨aH x0,aH x1⟩
theorem gC(x0:a)(x1:b)(x2:c):Hid a∧Hid b∧Hid c:=⟨aH x0,aH x1,aH x2⟩
theorem gD(x0:a)(x1:b)(x2:c)(x3:d):Hid a∧Hid b∧Hid c∧Hid d:=⟨aH x0,aH x1,aH x2,aH x3⟩
theorem gE(x0:a)(x1:b)(x2:c)(x3:d)(x4:e):Hid a∧Hid b∧Hid c∧Hid d∧Hid e:=⟨aH x0,aH x1,aH x2,aH x3,aH x4⟩
theorem gF(x0:a)(x1:b)(x2:c)(x3:d)(x4:e)(x5:f):Hid a∧Hid b∧Hid c∧Hid d∧Hid e∧Hid f:=⟨aH x0,aH x1,aH x2,aH x3,aH x4,aH x5⟩
theorem gG(x0:a)(x1:b)(x2:c)(x3:d)(x4:e)(x5:f)(x6:g):Hid a∧Hid b∧Hid c∧Hid d∧Hid e∧Hid f∧Hid g:=⟨aH x0,aH x1,aH x2,aH x3,aH x4,aH x5,aH x6⟩
theorem gH(x0:a)(x1:b)(x2:c)(x3:d)(x4:e)(x5:f)(x6:g)(x7:h):Hid a∧Hid b∧Hid c∧Hid d∧Hid e∧Hid f∧Hid g∧Hid h:=⟨aH x0,aH x1,aH x2,aH x3,aH x4,aH x5,aH x6,aH x7⟩
end
section
variable{l:List Value}{a0 a1 a2 a3 a4 a5 a6 a7 a8 a9 a10 a11 a12 a13 a14 a15 a16 a17 a18 a19:Value}
theorem ce(h:am w k t (a0::l).toArray):w.cell? ⟨k,0,none⟩=some a0:=am.cell h 0
theorem dt(h:am w k t (a0::a1::l).toArray):w.cell? ⟨k,1,none⟩=some a1:=am.cell h 1
theorem ed(h:am w k t (a0::a1::a2::l).toArray):w.cell? ⟨k,2,none⟩=some a2:=am.cell h 2
theorem ef(h:am w k t (a0::a1::a2::a3::l).toArray):w.cell? ⟨k,3,none⟩=some a3:=am.cell h 3
theorem eV(h:am w k t (a0::a1::a2::a3::a4::l).toArray):w.cell? ⟨k,4,none⟩=some a4:=am.cell h 4
theorem e9(h:am w k t (a0::a1::a2::a3::a4::a5::l).toArray):w.cell? ⟨k,5,none⟩=some a5:=am.cell h 5
theorem fa(h:am w k t (a0::a1::a2::a3::a4::a5::a6::l).toArray):w.cell? ⟨k,6,none⟩=some a6:=am.cell h 6
theorem fb(h:am w k t (a0::a1::a2::a3::a4::a5::a6::a7::l).toArray):w.cell? ⟨k,7,none⟩=some a7:=am.cell h 7
theorem ma(h:am w k t (a0::a1::a2::a3::a4::a5::a6::a7::a8::l).toArray):w.cell? ⟨k,8,none⟩=some a8:=am.cell h 8
theorem rz(h:am w k t (a0::a1::a2::a3::a4::a5::a6::a7::a8::a9::l).toArray):w.cell? ⟨k,9,none⟩=some a9:=am.cell h 9
theorem iz(h:am w k t (a0::a1::a2::a3::a4::a5::a6::a7::a8::a9::a10::l).toArray):w.cell? ⟨k,10,none⟩=some a10:=am.cell h 10
theorem iA(h:am w k t (a0::a1::a2::a3::a4::a5::a6::a7::a8::a9::a10::a11::l).toArray):w.cell? ⟨k,11,none⟩=some a11:=am.cell h 11
theorem iB(h:am w k t (a0::a1::a2::a3::a4::a5::a6::a7::a8::a9::a10::a11::a12::l).toArray):w.cell? ⟨k,12,none⟩=some a12:=am.cell h 12
theorem jp(h:am w k t (a0::a1::a2::a3::a4::a5::a6::a7::a8::a9::a10::a11::a12::a13::l).toArray):w.cell? ⟨k,13,none⟩=some a13:=am.cell h 13
theorem ke(h:am w k t (a0::a1::a2::a3::a4::a5::a6::a7::a8::a9::a10::a11::a12::a13::a14::l).toArray):w.cell? ⟨k,14,none⟩=some a14:=am.cell h 14
theorem FK(h:am w k t (a0::a1::a2::a3::a4::a5::a6::a7::a8::a9::a10::a11::a12::a13::a14::a15::l).toArray):w.cell? ⟨k,15,none⟩=some a15:=am.cell h 15
theorem EJ(h:am w k t (a0::a1::a2::a3::a4::a5::a6::a7::a8::a9::a10::a11::a12::a13::a14::a15::a16::l).toArray):w.cell? ⟨k,16,none⟩=some a16:=am.cell h 16
theorem Gs(h:am w k t (a0::a1::a2::a3::a4::a5::a6::a7::a8::a9::a10::a11::a12::a13::a14::a15::a16::a17::l).toArray):w.cell? ⟨k,17,none⟩=some a17:=am.cell h 17
theorem Gt(h:am w k t (a0::a1::a2::a3::a4::a5::a6::a7::a8::a9::a10::a11::a12::a13::a14::a15::a16::a17::a18::l).toArray):w.cell? ⟨k,18,none⟩=some a18:=am.cell h 18
theorem Gu(h:am w k t (a0::a1::a2::a3::a4::a5::a6::a7::a8::a9::a10::a11::a12::a13::a14::a15::a16::a17::a18::a19::l).toArray):w.cell? ⟨k,19,none⟩=some a19:=am.cell h 19
end
theorem cI{f:FuncId}{a:Array Value}{Q:Ending→World→Prop}(h:Calls Tryz.prog f a w Q):Cs f a w Q:=h
abbrev Rt(e:Ending)(v:Value):Prop:=e=.returned v
theorem bR(w:World):Below n w w:=Below.refl n w
theorem bD(w:World):Below n w w.drew:=(Below.refl n w).drew
theorem bQ(w:World):Below w.heap.size w w:=Below.refl _ w
theorem bP(w:World):Below w.heap.size w w.drew:=(Below.refl _ w).drew
theorem ba(w:World)(o:Obj):Below w.heap.size w (w.alloc o):=(Below.refl w.heap.size w).alloc (Nat.le_refl _) o
theorem nR:n≤n:=Nat.le_refl n
theorem nM.{u}{α:Sort u}(x:α):∃y,Hid (x=y):=⟨x,aH rfl⟩
theorem nx.{u}{α:Sort u}(x:α):∃y,x=y:=⟨x,rfl⟩
def zA:=@List.getElem?_eq_getElem
def zB:=@And.intro
def zC:=@List.length_append
def zD:=@Nat.le_trans
def zE:=@List.getElem?_eq_some_iff
def zF:=@List.take_succ_cons
def zG:=@List.drop_succ_cons
def zH:=@List.append_assoc
def zI:=@Option.bind_some
def zJ:=@AllReadyH.cons
def zK:=@List.mem_append
def zL:=@List.getElem?_toArray
def zM:=@List.getElem?_cons_zero
def zN:=@List.take_zero
def zO:=@List.drop_zero
def zP:=@List.getElem?_cons_succ
def zQ:=@List.length_cons
def zR:=@Nat.zero_add
def zS:=@Nat.zero_le
def zT:=@Nat.lt_of_lt_of_le
def zU:=@List.length_take
def zV:=@List.mem_map
def zW:=@List.setIfInBounds_toArray
def zX:=@List.flatMap_cons
def zY:=@List.getElem_mem
def zZ:=@IntWalk.i64_in
def qA:=@World.size_alloc
def qB:=@List.length_drop
def qC:=@List.mem_of_getElem?
def qD:=@List.take_append_of_le_length
def qE:=@List.take_succ_eq_append_getElem
def qF:=@List.mem_cons_of_mem
def qG:=@AllReadyH.nil
def qH:=@List.drop_eq_nil_of_le
def qI:=@List.length_nil
def qJ:=@Exit.noGoto_ret
def qK:=@Nat.eq_zero_or_pos
def qL:=@List.set_cons_zero
def qM:=@List.set_cons_succ
def qN:=@World.grownBy_alloc
def qO:=@List.length_filter_le
def qP:=@List.take_of_length_le
def qQ:=@List.getElem?_append_left
def qR:=@List.mem_singleton
def qS:=@List.getElem?_map
def qT:=@List.size_toArray
def qU:=@List.append_nil
def qV:=@List.mem_filter
def qW:=@Array.getElem?_setIfInBounds_ne
def qX:=@World.block_lt_of_cell?
def qY:=@List.nil_append
def qZ:=@List.mem_of_mem_take
def jA:=@List.getElem?_append_right
def jB:=@List.getElem?_eq_none
def jC:=@Array.getElem?_setIfInBounds_self_of_lt
def jD:=@List.length_map
def jE:=@List.pairwise_map
def jF:=@List.map_cons
def jG:=@Bool.false_eq_true
def jH:=@Nat.lt_or_ge
def jI:=@Option.some.inj
def jJ:=@List.take_length
def jK:=@List.mem_of_mem_drop
def jL:=@Int.le_refl
def wA:=@List.drop_eq_getElem_cons
def jN:=@MapKept.run_getObj_map
def jO:=@List.mem_cons_self
def jP:=@World.ownsRow_made
def jQ:=@World.grownBy.refl
def jR:=@List.length_singleton
def jS:=@Int.toNat_natCast
def jT:=@Array.replicate_succ
def jU:=@Array.replicate_zero
def jV:=@List.mem_cons
def jW:=@List.cons_append
def jX:=@List.append_toArray
def jY:=@RowKit.Below.drew
def jZ:=@Lib.wpList_append_run
def yA:=@Lib.run_eql_slice_nil
def yB:=@List.take_append_drop
def yC:=@List.map_append
def yD:=@MapKept.run_checkKey
def yE:=@Bool.and_eq_true
def yF:=@List.getElem?_set_ne
def yG:=@Nat.zero_mul
def yH:=@List.getElem?_set_self
def yI:=@List.push_toArray
def yJ:=@MapKept.run_findKey
def yK:=@List.mem_or_eq_of_mem_set
def yL:=@Array.getElem?_modify
def yM:=@List.any_eq_true
def yN:=@Nat.le_add_right
def yO:=@List.take_take
def yP:=@List.eq_nil_of_length_eq_zero
def yQ:=@List.mergeSort_perm
def yR:=@MapKept.run_setObj_map
def yS:=@Option.map_eq_some_iff
def yT:=@List.getElem_cons_zero
def yU:=@List.getElem_cons_succ
def yV:=@Nat.div_lt_iff_lt_mul
def yW:=@List.set_append_right
def yX:=@List.length_mergeSort
def yY:=@List.mem_append_right
def yZ:=@List.ext_getElem?
def wB:=@Nat.pow_succ
def wC:=@Nat.mul_one
def wD:=@Nat.add_zero
def xD:=@Nat.le_succ
def xE:=@Array.size_append
section
variable(w:World)(c1 c2 c3 c4:Array Value)(t1 t2 t3 t4:TypeId)
theorem dW:∃W,Hid ((w.alloc (.cells c1 t1))=W)∧Below w.heap.size w W∧am W (w.heap.size) t1 c1:=by
 exact⟨_,aH rfl,ba w _,am.new w t1 c1⟩
theorem rt:∃W,Hid (((w.alloc (.cells c1 t1)).alloc (.cells c2 t2))=W)∧Below w.heap.size w W∧am W (w.heap.size) t1 c1∧am W (w.heap.size+1) t2 c2:=by
 obtain⟨_,rfl,b,h0⟩:=dW w c1 t1
 have k:=am.new (w.alloc (.cells c1 t1)) t2 c2
 rw[World.size_alloc]at k
 exact⟨_,aH rfl,b.alloc (by simp;try omega) _,h0.alloc _,k⟩
theorem Ej:∃W,Hid ((((w.alloc (.cells c1 t1)).alloc (.cells c2 t2)).alloc (.cells c3 t3))=W)∧Below w.heap.size w W∧am W (w.heap.size) t1 c1∧am W (w.heap.size+1) t2 c2∧am W (w.heap.size+1+1) t3 c3:=by
 obtain⟨_,rfl,b,h0,h1⟩:=rt w c1 c2 t1 t2
 have k:=am.new ((w.alloc (.cells c1 t1)).alloc (.cells c2 t2)) t3 c3
 rw[World.size_alloc,World.size_alloc]at k
 exact⟨_,aH rfl,b.alloc (by simp;try omega) _,h0.alloc _,h1.alloc _,k⟩
theorem GT:∃W,Hid (((((w.alloc (.cells c1 t1)).alloc (.cells c2 t2)).alloc (.cells c3 t3)).alloc (.cells c4 t4))=W)∧Below w.heap.size w W∧am W (w.heap.size) t1 c1∧am W (w.heap.size+1) t2 c2∧am W (w.heap.size+1+1) t3 c3∧am W (w.heap.size+1+1+1) t4 c4:=by
 obtain⟨_,rfl,b,h0,h1,h2⟩:=Ej w c1 c2 c3 t1 t2 t3
 have k:=am.new (((w.alloc (.cells c1 t1)).alloc (.cells c2 t2)).alloc (.cells c3 t3)) t4 c4
 rw[World.size_alloc,World.size_alloc,World.size_alloc]at k
 exact⟨_,aH rfl,b.alloc (by simp;try omega) _,h0.alloc _,h1.alloc _,h2.alloc _,k⟩
end
namespace Nm
section
variable {α : Type} (f : α → List Value) (s : Nat) (hf : ∀ a, (f a).length = s)
include hf
theorem xo(l:List α)(k:Nat):(l.drop k).flatMap f=(l.flatMap f).drop (k*s):=by
 induction l generalizing k with
 |nil=>simp
 |cons a l ih=>
  cases k with
  |zero=>simp
  |succ k=>
   rw[zG,ih,zX,List.drop_append,hf];have b:(k+1)*s - s=k*s:=by rw[Nat.succ_mul];omega
   have c:List.drop ((k+1)*s) (f a)=[]:=qH (by rw[hf,Nat.succ_mul];omega);rw[b,c,qY]
theorem Dh(l:List α)(k:Nat):(l.take k).flatMap f=(l.flatMap f).take (k*s):=by
 induction l generalizing k with
 |nil=>simp
 |cons a l ih=>
  cases k with
  |zero=>simp
  |succ k=>
   rw[zF,zX,ih,zX,List.take_append,hf];have b:(k+1)*s - s=k*s:=by rw[Nat.succ_mul];omega
   have c:List.take ((k+1)*s) (f a)=f a:=qP (by rw[hf,Nat.succ_mul];omega);rw[b,c]
theorem Ek(l:List α)(k:Nat)(a:α)(h:l[k]?=some a)(j:Nat)(c:j < s):(l.flatMap f)[k*s+j]?=(f a)[j]?:=by
 have b:=(zE.1 h).1;have hd:l.drop k=a::l.drop (k+1):=by
  rw[wA b];congr 1;rw[zA b]at h;injection h
 rw[<-List.getElem?_drop,<-xo f s hf,hd,zX,qQ (by rw[hf];exact c)]
end
def kf(l:List UInt8):ByteArray:=⟨l.toArray⟩
@[go_sem] theorem EK (l:List UInt8):(kf l).toList=l:=ByteArray.toList_mk l
@[go_sem] theorem A6 (l:List UInt8):(kf l).size=l.length:=ByteArray.size_mk_toArray l
structure dA where
 nm:List UInt8
 n:Int
def tc(t:dA):List Value:=[.string (kf t.nm),I6 t.n]
def aY(l:List dA):List Value:=l.flatMap tc
theorem mb(t:dA):(tc t).length=2:=rfl
theorem lx(l:List dA)(k:Nat):aY (l.drop k)=(aY l).drop (k*2):=xo tc 2 mb l k
theorem ly(l:List dA)(k:Nat):aY (l.take k)=(aY l).take (k*2):=Dh tc 2 mb l k
theorem fV(l m:List dA):aY (l++m)=aY l++aY m:=by unfold aY;rw[List.flatMap_append]
theorem jq(l:List dA):∀u∈aY l,u.oneCell'=true:=by
 intro u a;obtain⟨t,_,h⟩:=List.mem_flatMap.1 a;simp[tc]at h;rcases h with rfl|rfl<;>rfl
theorem fp{w:World}{A}{l:List dA}{k:Nat}{t:dA}(h:Sl w 2 A l.length (aY l))(a:l[k]?=some t):
  ∃g o,A=some ⟨g,o,none⟩/\g < w.heap.size/\Ce w g (o+k*2) (.string (kf t.nm))/\Ce w g (o+k*2+1) (I6 t.n):=by
 have f:=(zE.1 a).1;obtain⟨g,o,rfl,c,b⟩:=h.2 (by omega);refine⟨g,o,rfl,c,?_,?_⟩
 ·have:=b (k*2+0) (.string (kf t.nm)) (by rw[aY,Ek tc 2 mb l k t a 0 (by omega)];rfl);simpa using this
 ·rw[Nat.add_assoc];exact b (k*2+1) _ (by rw[aY,Ek tc 2 mb l k t a 1 (by omega)];rfl)
theorem EL(w:World)(t:dA)(h:Nat)(a:w.heap.size=h):Sl (w.alloc (.cells #[.string (kf t.nm),I6 t.n] 230)) 2 (some ⟨h,0,none⟩) 1 (aY [t]):=by
 subst a;refine⟨rfl,fun _=>⟨_,_,rfl,by simp,fun j u hu=>?_⟩⟩;rw[(am.new w _ _).cell];simpa[aY,tc]using hu
def fW(s:List UInt8):Bool:=!s.isEmpty&&decide (s.length<=40)
theorem xp(s:List UInt8) w(hs:s.length<=9223372036854775807):
  Cs 334 #[.string (kf s)] w fun e w'=>Rt e (.bool (fW s))/\w=w':=by
 have a:decide ((s.length:Int)<=40)=decide (s.length<=40):=by rw[decide_eq_decide];omega
 have E1:=aH a;cases s with
 |nil=>
  apply cI;go_in;go_wp2;go_ret;exact⟨rfl,rfl⟩
 |cons x s=>
  have H:Hid (fW (x::s)=decide ((x::s).length<=40)):=aH rfl;generalize hl:(x::s).length=k at*;have b:(kf (x::s)).size=k:=(A6 _).trans hl;apply cI;go_in;go_wp2;go_ret;exact⟨by rw[H,<-E1];rfl,rfl⟩
theorem kg:(prog.info? 230).map (fun i=>(i.zero,i.size,i.bytes))=some (some (.agg #[Se,I6 0]),2,24):=by kernel_rfl
def EM(w:World)(e:TypeId)(s n:Nat)(xs:List Value)(a:Ending)(w':World):Prop:=
 ∃v,Rt a v/\w'.ownsRow w.heap.size e s v n xs/\Below w.heap.size w w'
theorem tD A(n c:Nat) xs w(hr:Sl w 2 A n xs)(h1:∀u∈xs,u.oneCell'=true)(hn:n*24<=140737488355328):
  Cs 136 #[.slice A n c] w (EM w 230 2 n xs):=by
 have b:=aH hr;obtain⟨p,hi,i,j,m⟩:=info_parts kg;have C:=fun(w:World)=>yA (P:=prog) w 151 230 A n c 0 0 underlying151;obtain⟨q,s⟩:=gB (show 0+n<=maxLen by unfold maxLen;omega) (show(0+n)*24<=140737488355328 by omega);rcases A with _|a
 ·apply cI;go_in;go_wp2;go_ret;have t:n=0:=by
   rcases qK n with h|h
   ·exact h
   ·obtain⟨_,_,h,_⟩:=b.2 h;cases h
  subst t;have x:=yP (by simpa using b.out.1);subst x;exact⟨_,rfl,World.ownsRow_nil _ _ _ _,bR _⟩
 ·apply cI;go_in;go_wp2_with (at_builtin;refine bA _ rfl (.tmp 5) (.tmp 6) 151 rfl w.heap.size 230 p _ 2 24 underlying151 hi i j m rfl (by decide) _ 0 [] rfl (jP w #[] 0 nR (zS _) rfl) _ n c xs rfl (b.below (ba _ _)) h1 q s (by simp) ?_);intro v' w1 f y D;obtain⟨g,z⟩:=gB f y;go_wp2;go_ret;refine⟨v',rfl,by simpa using g.out,(ba w _).grown z (by simp) (by intro k B;simp[Value.ownBlock]at B;omega)⟩
end Nm
def aF(l:List UInt8):ByteArray:=⟨l.toArray⟩
abbrev Sg(l:List UInt8):Value:=.string (aF l)
@[go_sem] theorem mc (l:List UInt8):(aF l).toList=l:=ByteArray.toList_mk l
@[go_sem] theorem e0 (l:List UInt8):(aF l).size=l.length:=ByteArray.size_mk_toArray l
def fX(w:World)(g:Nat)(l:List UInt8)(t:Bool):Prop:=am w g 314 #[.string (aF l),.bool t]
theorem fX.cells{l}{t:Bool}(h:fX w g l t):Ce w g 0 (.string (aF l))/\Ce w g 1 (.bool t)/\w.frozen? ⟨g,0,none⟩=false/\w.frozen? ⟨g,1,none⟩=false:=
 ⟨am.cell h 0,am.cell h 1,am.frozen h 0,am.frozen h 1⟩
theorem fX.bj{l}{t:Bool}(h:fX w g l t):fX (w.setCell ⟨g,1,none⟩ (.bool true)) g l true:=am.I h 1 _
theorem fX.left{l}{t:Bool}(h:fX w g l t) m:fX (w.setCell ⟨g,0,none⟩ (.string (aF m))) g m t:=am.I h 0 _
def Rd(w:World)(g:Nat)(v:Value)(l:List UInt8)(t:Bool)(e:Ending)(w':World):Prop:=Rt e v/\fX w' g l t/\aW g w w'
theorem gg(g:Nat) l(t:Bool) w(h:fX w g l t):
  Cs 237 #[Pt g] w fun e w'=>Rt e (.bool !t)/\w=w':=by
 obtain⟨-,a,-,-⟩:=h.cells;apply cI;go_in;go_wp2;go_ret;exact⟨rfl,rfl⟩
theorem eO(g:Nat) l(t:Bool)(w:World)(h:fX w g l t):
  Cs 238 #[Pt g] w fun e w'=>Rt e (.tuple #[])/\w.setCell ⟨g,1,none⟩ (.bool true)=w':=by
 obtain⟨-,a,-,b⟩:=h.cells;apply cI;go_in;go_wp2;go_end0;exact⟨rfl,rfl⟩
def iu:List UInt8->Nat->Bool->Nat->Option (Nat×List UInt8)
 |c::r,k+1,f,n=>if 144115188075855872<=n||(f&&c.toNat==128)then none else if c.toNat < 128 then some (n*128+c.toNat,r)else iu r k false (n*128+c.toNat % 128)
 |_,_,_,_=>none
def gh(l:List UInt8)(t:Bool):Nat×List UInt8×Bool:=if t then(0,l,true)else match iu l 10 true 0 with
 |some (n,r)=>(n,r,false)
 |none=>(0,l,true)
theorem A8{l:List UInt8}(h:i < l.length)(hi:i < 10):iu (l.drop i) (10 - i) (decide (i=0)) n=
  if 144115188075855872<=n||(decide (i=0)&&l[i].toNat==128)then none else if l[i].toNat < 128 then some (n*128+l[i].toNat,l.drop (i+1))else iu (l.drop (i+1)) (10 - (i+1)) (decide (i+1=0)) (n*128+l[i].toNat % 128):=by
 rw[wA h,show 10 - i=(10 - (i+1))+1 by omega];conv=>lhs;unfold iu
 rw[show decide (i+1=0)=false by simp]
theorem Di{l:List UInt8}(h:l.length<=i\/10<=i):iu (l.drop i) (10 - i) (decide (i=0)) n=none:=by
 rcases h with h|h
 ·rw[qH h];unfold iu;rfl
 ·rw[show 10 - i=0 by omega];unfold iu;split<;>simp_all
theorem Dj(l:List UInt8)(i:Nat)(h:i < (aF l).size)(a:i < l.length):(aF l)[i]=l[i]:=by
 show(aF l).data[i]=l[i];simp[aF]
theorem l0(l:List UInt8)(i j:Nat)(h:j=l.length):(aF l).extract i j=aF (l.drop i):=by
 subst h;apply ByteArray.ext;simp[aF,ByteArray.data_extract,qP]
theorem gO(l:List UInt8)(j:Nat):(aF l).extract 0 j=aF (l.take j):=by
 apply ByteArray.ext;simp[aF,ByteArray.data_extract]
theorem Ba(c:Nat)(h:c < 256):bits .and .u8 (c:Int) 127=((c % 128:Nat):Int):=by
 have:∀c:Fin 256,bits .and .u8 (c.val:Int) 127=((c.val % 128:Nat):Int):=by decide+kernel
 exact this ⟨c,h⟩
theorem EN(n m:Nat)(g:n < 144115188075855872)(h:m < 128):bits .or .u64 ((n*128:Nat):Int) (m:Int)=((n*128+m:Nat):Int):=by
 have a:(BitVec.ofInt 64 ((n*128:Nat):Int)|||BitVec.ofInt 64 (m:Int)).toNat=n*128+m:=by
  rw[BitVec.toNat_or,BitVec.toNat_ofInt,BitVec.toNat_ofInt];have c:(((n*128:Nat):Int) % ((2 ^ 64:Nat):Int)).toNat=n*128:=by omega
  have f:((m:Int) % ((2 ^ 64:Nat):Int)).toNat=m:=by omega
  rw[c,f];have:=Nat.two_pow_add_eq_or_of_lt (i:=7) (b:=m) (by omega) n;rw[show n*128=2 ^ 7*n by omega];exact this.symm
 show IntKind.u64.wrap (((BitVec.ofInt 64 ((n*128:Nat):Int)|||BitVec.ofInt 64 (m:Int)).toNat:Nat):Int)=_;rw[a];unfold IntKind.wrap;rw[show IntKind.u64.bits=64 from rfl];simp[show IntKind.u64.signed=false from rfl];omega
theorem rA(g:Nat)(l:List UInt8)(t:Bool) w(h:fX w g l t)(hl:l.length<=140737488355328):
  Cs 328 #[Pt g] w (Rd w g (.int .u64 (gh l t).1) (gh l t).2.1 (gh l t).2.2):=by
 have H:=aH h;apply cI;go_in;go_wp2_with fail;go_step3;go_wp2_with fail;refine(gg g l t _ H).mono ?_;rintro e w1 ⟨rfl,rfl⟩;have HR:=aH (show gh l t=gh l t from rfl);cases t
 ·obtain⟨x0,x1,x2,x3⟩:=H.cells;clear h;have I:min (l.length:Int) 10=((min l.length 10:Nat):Int):=by omega
  go_wp2_with fail;go_step3;go_wp2_with fail;have z:Hid (gh l false=match iu l 10 true 0 with|some (n,r)=>(n,r,false)|none=>(0,l,true)):=aH rfl;clear I;generalize hM:min l.length 10=M;have p:=aH hM;clear hM;go_loopw[3,17] (fun vn vi wr=>w=wr/\∃i n:Nat,i<=M/\vi=I6 i/\vn=.int .u64 n/\n < 18446744073709551616/\iu (l.drop i) (10 - i) (decide (i=0)) n=iu l 10 true 0) (fun _ vi _=>M - (intOf vi).toNat)
  case atStart=>exact⟨rfl,0,0,zS _,rfl,rfl,by omega,rfl⟩
  case round=>
   obtain⟨rfl,i,n,hi,rfl,rfl,V,hd⟩:=hrel;have q:=aH hd;clear hd;by_cases hlt:i < M
   ·have k:i < l.length:=by have:=p.out;omega
    have X:decide ((i:Int) < (M:Int))=true:=by simp;omega
    obtain⟨c,A,J⟩:∃c:UInt8,l[i]=c/\c.toNat < 256:=⟨_,rfl,UInt8.toNat_lt _⟩;have he:(aF l)[i]'(by rw[e0];exact k)=c:=(Dj l i (by rw[e0];exact k) k).trans A;have a:Cs 373 #[.int .u64 (n:Nat),.int .u64 (128:Nat)] w fun e w'=>Rt e (.tuple #[.int .u64 ((n*128 / 18446744073709551616:Nat):Int),.int .u64 ((n*128 % 18446744073709551616:Nat):Int)])/\w=w':=(Tryz.bits_Mul64 n 128 V (by omega) w).mono fun _ _ h=>⟨h.1,h.2.symm⟩;have s:=A8 (n:=n) k (by have:=p.out;omega);rw[q,A]at s;have f:=aH s;clear s q;have HC:=aH A;clear A;generalize hy:c.toNat=y at*;by_cases hbig:144115188075855872<=n
    ·rw[show n*128 / 18446744073709551616=(n*128 / 18446744073709551616 - 1)+1 by omega]at a;generalize n*128 / 18446744073709551616 - 1=hi' at a;generalize n*128 % 18446744073709551616=lo at a;have j:Hid (iu l 10 true 0=none):=aH (by rw[f,if_pos (by simp[hbig])]);have L:decide ((0:Int) < ((hi'+1:Nat):Int))=true:=decide_eq_true (by omega);clear hbig f;go_wp2_with fail;refine a.mono ?_;rintro e w1 ⟨rfl,rfl⟩;clear a;go_wp2_with fail;refine(eO g l false _ H).mono ?_;rintro e w1 ⟨rfl,rfl⟩;go_wp2_with fail;rw[qJ];go_ret;rw[z,j];exact⟨rfl,H.bj,aB w g 1 _⟩
    ·rw[show n*128 / 18446744073709551616=0 by omega,show n*128 % 18446744073709551616=n*128 by omega]at a;have u:decide (144115188075855872<=n)=false:=by simpa using hbig
     rw[u]at f;have Y:=Ba y J;have N:bits .or .u64 ((n:Int)*128) ((y:Int) % 128)=((n*128+y % 128:Nat):Int):=by have:=EN n (y % 128) (by omega) (by omega);simpa using this
     have O:=aH N;clear N;have Z:=aH (show n*128+y % 128 < 18446744073709551616 by omega);by_cases hfirst:i=0/\y=128
     ·obtain⟨rfl,R⟩:=hfirst;have j:Hid (iu l 10 true 0=none):=aH (by rw[f,if_pos (by simp[R])]);have e1:((y:Int)==128)=true:=by simp;omega
      clear u hbig f Y;go_wp2_with fail;refine a.mono ?_;rintro e w1 ⟨rfl,rfl⟩;clear a;go_wp2_with fail;refine(eO g l false _ H).mono ?_;rintro e w1 ⟨rfl,rfl⟩;go_wp2_with fail;rw[qJ];go_ret;rw[z,j];exact⟨rfl,H.bj,aB w g 1 _⟩
     ·have B:(decide (i=0)&&y==128)=false:=by simp;omega
      rw[B]at f;simp only[Bool.or_self,jG,if_false]at f;clear u hbig B;have C:((i:Int)==0)=decide (i=0):=by rw[Bool.eq_iff_iff];simp
      have D:((y:Int)==128)=decide (y=128):=by rw[Bool.eq_iff_iff];simp;omega
      by_cases hlow:y < 128
      ·have j:Hid (iu l 10 true 0=some (n*128+y % 128,l.drop (i+1))):=aH (by rw[f,if_pos hlow,Nat.mod_eq_of_lt hlow]);have L:decide ((y:Int) < 128)=true:=by simp;omega
       have S:decide (y=128)=false:=by simp;omega
       rw[S]at D;clear f hfirst S;have T:∃b,decide (i=0)=b:=⟨_,rfl⟩;obtain⟨b,m⟩:=T;rw[m]at C;clear m;cases b;all_goals
        go_wp2_with fail;refine a.mono ?_;rintro e w1 ⟨rfl,rfl⟩;go_wp2_with fail;rw[qJ];go_ret;rw[z,j,O,l0 _ _ _ rfl];exact⟨rfl,H.left _,aB w g 0 _⟩
      ·have j:Hid (iu (l.drop (i+1)) (10 - (i+1)) (decide (i+1=0)) (n*128+y % 128)=iu l 10 true 0):=aH (by rw[f,if_neg hlow]);have L:decide ((y:Int) < 128)=false:=by simp;omega
       clear f;obtain⟨b,m⟩:=nx (decide (i=0));obtain⟨U,x⟩:=nx (decide (y=128));have F:¬(b=true/\U=true):=by rw[<-m,<-x];simpa using hfirst
       rw[m]at C;rw[x]at D;clear m x hfirst hlow;have G:=aH hlt;cases b<;>cases U<;>first|exact absurd ⟨rfl,rfl⟩ F|skip;all_goals
        clear F;go_wp2_with fail;refine a.mono ?_;rintro e w1 ⟨rfl,rfl⟩;go_wp2_with fail;go_roundw
        case rel=>exact⟨by trivial,i+1,n*128+y % 128,G,by go_num,by rw[O],Z,j⟩
        case measure=>have:=G.out;simp[intOf];omega
   ·have j:Hid (iu l 10 true 0=none):=aH (by rw[<-q];exact Di (by have:=p.out;omega));have X:decide ((i:Int) < (M:Int))=false:=by simp;omega
    go_wp2_with fail;refine(eO g l false _ H).mono ?_;rintro e w1 ⟨rfl,rfl⟩;go_wp2_with fail;rw[qJ];go_ret;rw[z,j];exact⟨rfl,H.bj,aB w g 1 _⟩
 ·clear h;go_wp2_with fail;rw[qJ];go_ret;exact⟨rfl,H,cJ⟩
theorem gi:∀(l:List UInt8) (k:Nat) (f:Bool) (n:Nat) (m:Nat) (r:List UInt8),iu l k f n=some (m,r)->m < 18446744073709551616/\r.length < l.length
 |[],_,_,_,_,_,h=>by unfold iu at h;cases h
 |c::l,0,_,_,_,_,h=>by unfold iu at h;cases h
 |c::l,k+1,f,n,m,r,h=>by
  unfold iu at h
  split at h
  ·cases h
  ·rename_i hc
   have a:¬144115188075855872<=n:=fun hh=>hc (by simp[hh])
   split at h
   ·injection h with h
    injection h with h1 h2
    subst h1 h2
    exact⟨by omega,by simp⟩
   ·have:=gi l k false _ m r h
    exact⟨this.1,by simp;omega⟩
theorem gP(l:List UInt8)(t:Bool):(gh l t).1 < 18446744073709551616/\(gh l t).2.1.length<=l.length:=by
 unfold gh;split
 ·exact⟨by omega,nR⟩
 ·cases h:iu l 10 true 0 with
  |none=>exact⟨by simp,nR⟩
  |some x=>have:=gi l 10 true 0 x.1 x.2 h;exact⟨this.1,Nat.le_of_lt this.2⟩
def eK(m:Nat)(l:List UInt8)(t:Bool):Nat×List UInt8×Bool:=if m < (gh l t).1 then(0,(gh l t).2.1,true)else gh l t
theorem ja(h:aW g w w'):aW g w (w'.setCell ⟨g,1,none⟩ (.bool true)):=aA h (aB w' g 1 _)
theorem me(g:Nat)(m:Nat)(l:List UInt8)(t:Bool) w(h:fX w g l t)(hl:l.length<=140737488355328)(hm:m < 9223372036854775808):
  Cs 236 #[Pt g,I6 m] w (Rd w g (I6 (eK m l t).1) (eK m l t).2.1 (eK m l t).2.2):=by
 have H:=aH h;apply cI;go_in;go_wp2_with fail;refine(rA g l t _ H hl).mono ?_;rintro e w1 ⟨rfl,b,j⟩;have a:Hid (eK m l t=if m < (gh l t).1 then(0,(gh l t).2.1,true)else gh l t):=aH rfl;have f:=(gP l t).1;obtain⟨⟨n,r,k⟩,p⟩:∃x,gh l t=x:=⟨_,rfl⟩;rw[p]at b f a ⊢;simp only at b f a ⊢;obtain⟨c,i⟩:=gB b j;have s:decide ((m:Int) < 0)=false:=by simp
 by_cases hlt:m < n
 ·have q:decide ((m:Int) < (n:Int))=true:=by simp;omega
  rw[if_pos hlt]at a;go_wp2_with fail;refine(eO g r k _ c).mono ?_;rintro e w2 ⟨rfl,rfl⟩;go_wp2;go_ret;rw[a];exact⟨rfl,c.bj,ja i⟩
 ·have q:decide ((m:Int) < (n:Int))=false:=by simp;omega
  rw[if_neg hlt]at a;go_wp2;go_ret;rw[a];exact⟨rfl,c,i⟩
def mf(m:Nat)(l:List UInt8)(t:Bool):List UInt8×List UInt8×Bool:=if(eK m l t).2.2||decide ((eK m l t).2.1.length < (eK m l t).1)then([],(eK m l t).2.1,true)else((eK m l t).2.1.take (eK m l t).1,(eK m l t).2.1.drop (eK m l t).1,false)
theorem tE(m:Nat)(l:List UInt8)(t:Bool):(eK m l t).1<=m/\(eK m l t).2.1.length<=l.length:=by
 unfold eK;split
 ·exact⟨zS _,(gP l t).2⟩
 ·exact⟨by omega,(gP l t).2⟩
theorem o3(g:Nat)(m:Nat)(l:List UInt8)(t:Bool) w(h:fX w g l t)(hl:l.length<=140737488355328)(hm:m < 9223372036854775808):
  Cs 149 #[Pt g,I6 m] w (Rd w g (.string (aF (mf m l t).1)) (mf m l t).2.1 (mf m l t).2.2):=by
 have H:=aH h;apply cI;go_in;go_wp2_with fail;refine(me g m l t _ H hl hm).mono ?_;rintro e w1 ⟨rfl,c,k⟩;have a:Hid (mf m l t=if(eK m l t).2.2||decide ((eK m l t).2.1.length < (eK m l t).1)then([],(eK m l t).2.1,true)else((eK m l t).2.1.take (eK m l t).1,(eK m l t).2.1.drop (eK m l t).1,false)):=aH rfl;have i:=tE m l t;obtain⟨⟨n,r,j⟩,p⟩:∃x,eK m l t=x:=⟨_,rfl⟩;rw[p]at c i a ⊢;simp only at c i a ⊢;obtain⟨b,f⟩:=gB c k;go_wp2_with fail;refine(gg g r j _ b).mono ?_;rintro e w2 ⟨rfl,rfl⟩;obtain⟨s,u,y,z⟩:=b.cells;cases j
 ·by_cases hlt:r.length < n
  ·have q:decide ((r.length:Int) < (n:Int))=true:=by simp;omega
   rw[show decide (r.length < n)=true by simpa using hlt]at a;go_wp2_with fail;refine(eO g r false _ b).mono ?_;rintro e w2 ⟨rfl,rfl⟩;go_wp2;go_ret;rw[a];exact⟨rfl,b.bj,ja f⟩
  ·have q:decide ((r.length:Int) < (n:Int))=false:=by simp;omega
   rw[show decide (r.length < n)=false by simpa using hlt]at a;go_wp2;go_ret;rw[a,gO,l0 _ _ _ rfl];exact⟨rfl,b.left _,aA f (aB _ g 0 _)⟩
 ·go_wp2_with fail;refine(eO g r true _ b).mono ?_;rintro e w2 ⟨rfl,rfl⟩;go_wp2;go_ret;rw[a];exact⟨rfl,b.bj,ja f⟩
theorem rB(g:Nat) l(t:Bool) w(h:fX w g l t):
  Cs 361 #[Pt g] w fun e w'=>Rt e (.string (aF (if t then []else l)))/\w=w':=by
 have H:=aH h;obtain⟨a,b,-,-⟩:=h.cells;apply cI;go_in;go_wp2_with fail;refine(gg g l t _ H).mono ?_;rintro e w1 ⟨rfl,rfl⟩;cases t;all_goals
  go_wp2;go_ret;exact⟨rfl,rfl⟩
theorem xq(g:Nat)(l:List UInt8)(t:Bool) w(h:fX w g l t):
  Cs 153 #[Pt g] w fun e w'=>Rt e (I6 (if t||!l.isEmpty then 10 else 0))/\w=w':=by
 have H:=aH h;obtain⟨a,b,-,-⟩:=h.cells;apply cI;go_in;go_wp2_with fail;refine(gg g l t _ H).mono ?_;rintro e w1 ⟨rfl,rfl⟩;cases t
 ·cases l with
  |nil=>go_wp2;go_ret;exact⟨rfl,rfl⟩
  |cons c l=>go_wp2;go_ret;exact⟨rfl,rfl⟩
 ·go_wp2;go_ret;exact⟨rfl,rfl⟩
theorem mg l(w:World):
  Cs 147 #[.string (aF l)] w fun e w'=>Rt e (Pt w.heap.size)/\fX w' w.heap.size l false/\Below w.heap.size w w':=by
 obtain⟨a,b⟩:=gB (am.new w 314 #[.string (aF l),.bool false]) (ba w (.cells #[.string (aF l),.bool false] 314));apply cI;go_in;go_wp2;go_ret;exact⟨rfl,a,b⟩
def tF(F sl e s b a:Nat)(z:Value):Prop:=
 (F=258/\e=212/\sl=139/\s=4/\b=32/\a=342/\z=.agg #[I6 0,I6 0,I6 0,I6 0])\/
 (F=389/\e=230/\sl=151/\s=2/\b=24/\a=416/\z=.agg #[Se,I6 0])\/
 (F=346/\e=44/\sl=127/\s=5/\b=56/\a=384/\z=.agg #[I6 0,I6 0,Se,Se,I6 0])
theorem tF.facts{sl e:Nat}{z}(h:tF F sl e s b c z):prog.underlying sl=some (.slice e)/\(prog.info? e).map (fun i=>(i.zero,i.size,i.bytes))=some (some z,s,b)/\
  (∀(a:Array Value) (w:World),(callFunc c a).run prog w=((Extern.SlicesOverlaps.overlaps #[sl,sl] #[4] a).run prog w).andThen fun v w'=>.ok (.value v) w')/\(Value.cells z).size=s/\tF F sl e s b c z:=by
 refine⟨?_,?_,?_,?_,h⟩<;>rcases h with⟨rfl,rfl,rfl,rfl,rfl,rfl,rfl⟩|⟨rfl,rfl,rfl,rfl,rfl,rfl,rfl⟩|⟨rfl,rfl,rfl,rfl,rfl,rfl,rfl⟩;any_goals kernel_rfl
 ·exact run_callFunc_extern func342 (by kernel_rfl) (by kernel_rfl) (by kernel_rfl) (by kernel_rfl)
 ·exact run_callFunc_extern func416 (by kernel_rfl) (by kernel_rfl) (by kernel_rfl) (by kernel_rfl)
 ·exact run_callFunc_extern func384 (by kernel_rfl) (by kernel_rfl) (by kernel_rfl) (by kernel_rfl)
def kT(e s:Nat)(w:World)(base:Nat)(own:Option Nat)(n:Nat)(xs:List Value)(a:Ending)(w':World):Prop:=
 ∃v,Rt a v/\w'.ownsRow base e s v (n+1) xs/\w.grownBy w' own
theorem EO{w}(h:aR w g e cs)(a:cs.length=n*s):Sl w s (some ⟨g,0,none⟩) n cs:=
 ⟨a,fun _=>⟨g,0,rfl,ap h,fun j u hu=>by rw[zR,h.cell];exact hu⟩⟩
theorem tG{sl e x:Nat}{z}(y:tF F sl e s b x z)(base:Nat) A(n c:Nat)(xs ys:List Value)(vb:Nat)(w:World)(g:w.ownsRow base e s (.slice A n c) n xs)(hvb:aR w vb e ys)(hy:ys.length=s)
  (hbase:base<=w.heap.size) (h1:∀u∈ys,u.oneCell'=true) (hb:(n+1)*b<=140737488355328) (hnc:n<=c):
  Cs F #[.slice A n c,I6 n,.slice (some ⟨vb,0,none⟩) 1 1] w (kT e s w base (Value.slice A n c).ownBlock n (xs++ys)):=by
 obtain⟨B,C,N,R,D⟩:=y.facts;rcases D with⟨rfl,j,k,f,a,hv,h⟩|⟨rfl,j,k,f,a,hv,h⟩|⟨rfl,j,k,f,a,hv,h⟩;all_goals
  obtain⟨p,hi,q,i,t⟩:=info_parts C;obtain⟨O,V,G,H⟩:=gD g (EO (s:=s) (n:=1) hvb (by(subst f a;omega))) (show n+1<=maxLen by unfold maxLen;(subst f a;omega)) hb;have S:(n:Int)<=9223372036854775807:=by(subst f a;omega)
  have T:(n:Int)<=(c:Int):=by(subst f a;omega)
  obtain⟨U,L,-,-⟩:=l8 (P:=prog) sl e p B hi s i .i64 A n c (n:Int) n rfl nR hnc;subst j k f a hv h;apply cI;go_in;go_wp2_with (at_builtin;refine bA _ rfl (.tmp 23) (.tmp 24) _ rfl base _ p _ _ _ (by kernel_rfl) hi q i t rfl (by decide) _ n xs rfl O (some ⟨vb,0,none⟩) 1 1 ys rfl V h1 G H hbase ?_);intro v' w1 g I M;obtain⟨m,J⟩:=gB g I;go_wp2;go_ret;exact⟨v',rfl,m,J⟩
theorem pZ{sl e O:Nat}{z}(R:tF F sl e s b O z)(base g n c i:Nat)(cs xs ys:List Value)(vb:Nat) w(hg:aR w g e cs)(hbg:base<=g)(hcl:cs.length=c*s)(hx:cs.take (n*s)=xs)(hvb:aR w vb e ys)(hy:ys.length=s)
  (hne:vb≠g) (h1x:∀u∈xs,u.oneCell'=true) (h1:∀u∈ys,u.oneCell'=true) (hin:i < n) (hroom:n+1<=c) (hc63:c<=9223372036854775807):
  Cs F #[.slice (some ⟨g,0,none⟩) n c,I6 i,.slice (some ⟨vb,0,none⟩) 1 1] w (kT e s w base (some g) n (xs.take (i*s)++ys++xs.drop (i*s))):=by
 obtain⟨y,S,T,hz,hc⟩:=R.facts;rcases hc with⟨rfl,J,G,f,a,hv,H⟩|⟨rfl,J,G,f,a,hv,H⟩|⟨rfl,J,G,f,a,hv,H⟩;all_goals
  obtain⟨D,hi,ha,m,hb⟩:=info_parts S;have B:xs.length=n*s:=by rw[<-hx,zU,hcl];(subst f a;omega)
  have U:∀lb cb,(callFunc O #[.slice (some ⟨vb,0,none⟩) 1 1,.slice (some ⟨g,(i+1)*s,none⟩) lb cb]).run prog w=.ok (.value (.bool false)) w:=fun lb cb=>by
   rw[T,
    Lib.run_overlaps_apart w sl 4 e y s (fun w=>by simp[sizeOf,typeInfo,hi,m]) ⟨vb,0,none⟩ ⟨g,(i+1)*s,none⟩ 1 1 lb cb hne e e ys.toArray.size cs.toArray.size
     (by have h:w.heap[vb]?=some (.cells ys.toArray e (0,0)):=hvb;simp[World.shape?,h]) (by have h:w.heap[g]?=some (.cells cs.toArray e (0,0)):=hg;simp[World.shape?,h]) (by simp;intro h;subst h;simp at hcl;(subst f a;omega))
     (by have h:w.heap[vb]?=some (.cells ys.toArray e (0,0)):=hvb;simp[World.frozen?,h]) (by have h:w.heap[vb]?=some (.cells ys.toArray e (0,0)):=hvb;simp[World.frozen?,h])]
   rfl
  have V:=eo (P:=prog) sl e D y hi .i64 (some ⟨g,0,none⟩) n c (n+1) hroom;have X:=e5 (P:=prog) sl e D y hi s m .i64 g 0 (n+1) c ((i:Int)+1) (i+1) (by(subst f a;omega)) (by(subst f a;omega)) (by(subst f a;omega));have Y:=e5 (P:=prog) sl e D y hi s m .i64 g 0 (n+1) c (i:Int) i rfl (by(subst f a;omega)) (by(subst f a;omega));have sl3:=e5 (P:=prog) sl e D y hi s m .i64 g 0 n c (i:Int) i rfl (by(subst f a;omega)) (by(subst f a;omega));rw[zR]at X Y sl3;rw[show((n+1:Nat):Int)=(n:Int)+1 from rfl]at V;obtain⟨k,q⟩:=nx (cs.take ((i+1)*s)++xs.drop (i*s)++cs.drop ((i+1)*s+(xs.drop (i*s)).length));have p:(xs.drop (i*s)).length=(n - i)*s:=by rw[qB,B];(subst f a;omega)
  have t:k.length=c*s:=by rw[<-q];simp only[zC,zU,qB,hcl,B];(subst f a;omega)
  obtain⟨A,x⟩:=nx (k.take (i*s)++ys++k.drop (i*s+ys.length));have C:A.length=c*s:=by rw[<-x];simp only[zC,zU,qB,t,hy];(subst f a;omega)
  have L:∀(W:World),aR W g e cs->∀ty dc sc,(Builtin.copy_ #[sl,sl] ty #[.slice (some ⟨g,(i+1)*s,none⟩) (n - i) dc,.slice (some ⟨g,i*s,none⟩) (n+1 - i) sc]).run prog W=.ok (goInt (n - i:Nat)) (W.setRow g k.toArray):=fun W hW ty dc sc=>by
   have h:=gN (P:=prog) W sl sl ty e s g ((i+1)*s) (n - i) dc ⟨g,i*s,none⟩ (n+1 - i) sc (n - i) cs.toArray e (xs.drop (i*s)) y D hi m hW
    (by simp only[Nat.min_def];split<;>(subst f a;omega)) p
    (fun j v hj=>by
     rw[Addr.add_lit,hW.cell];have Z:j < (xs.drop (i*s)).length:=(zE.1 hj).1;rw[List.getElem?_drop,<-hx,List.getElem?_take]at hj;rw[p]at Z;rwa[if_pos (by(subst f a;omega))]at hj)
    (by rw[p];simp[hcl];(subst f a;omega)) (fun v hv=>h1x v (jK hv))
   rw[h];simp only[q]
  have M:∀(W:World),aR W g e k->aR W vb e ys->∀ty dc,(Builtin.copy_ #[sl,sl] ty #[.slice (some ⟨g,i*s,none⟩) (n+1 - i) dc,.slice (some ⟨vb,0,none⟩) 1 1]).run prog W=.ok (goInt (1:Nat)) (W.setRow g A.toArray):=fun W hW hV ty dc=>by
   have h:=gN (P:=prog) W sl sl ty e s g (i*s) (n+1 - i) dc ⟨vb,0,none⟩ 1 1 1 k.toArray e ys y D hi m hW
    (by simp only[Nat.min_def];split<;>(subst f a;omega)) (by(subst f a;omega))
    (fun j v hj=>by rw[Addr.add_lit,hV.cell,zR];exact hj)
    (by rw[hy];simp[t];(subst f a;omega)) h1
   rw[h];simp only[x]
  have N:Hid (kT e s w base (some g) n (xs.take (i*s)++ys++xs.drop (i*s)) (.returned (.slice (some ⟨g,0,none⟩) (n+1) c)) ((w.drew.setRow g k.toArray).setRow g A.toArray)):=aH (by
   refine⟨_,rfl,aR.own (cs:=A) ((hg.drew.set k).set A) hbg hroom (by unfold maxLen;(subst f a;omega)) C ?_,?_⟩
   ·rw[<-x,<-q];have e1:(cs.take ((i+1)*s)++xs.drop (i*s)++cs.drop ((i+1)*s+(xs.drop (i*s)).length)).take (i*s)=xs.take (i*s):=by
     rw[zH,qD (by rw[zU,hcl];(subst f a;omega)),yO,<-hx,yO];congr 1;(subst f a;omega)
    have e2:((cs.take ((i+1)*s)++xs.drop (i*s)++cs.drop ((i+1)*s+(xs.drop (i*s)).length)).drop (i*s+ys.length)).take ((n - i)*s)=xs.drop (i*s):=by
     have G:(cs.take ((i+1)*s)).length=i*s+ys.length:=by rw[zU,hcl,hy];(subst f a;omega)
     rw[<-G,zH,List.drop_left,qD (by rw[p];exact nR),qP (by rw[p];exact nR)]
    have I:(xs.take (i*s)++ys).length=i*s+s:=by rw[zC,zU,B,hy];(subst f a;omega)
    rw[e1,List.take_append,I,qP (by rw[I];(subst f a;omega))];congr 1;rw[show(n+1)*s - (i*s+s)=(n - i)*s by(subst f a;omega)];exact e2
   ·exact aA (aA (show aW g w w.drew from⟨rfl,rfl,rfl,nR,fun _ _ _=>rfl⟩) (dX _ _ _)) (dX _ _ _))
  obtain⟨HG,HV,HN⟩:=gC hg hvb hne;clear hg hvb q x t C p B hx h1x h1 hcl hy hne;have k1:(n:Int)+1<=(c:Int):=by(subst f a;omega)
  have k2:(i:Int) < (n:Int):=by(subst f a;omega)
  have k3:((i:Int)==(n:Int))=false:=by simp;(subst f a;omega)
  have k4:(c:Int)<=9223372036854775807:=by(subst f a;omega)
  have k5:IntKind.i64.wrap ((i:Int)+1)=(i:Int)+1:=zZ _ (by(subst f a;omega));subst J G f a hv H;clear y S T hz R;apply cI;go_in;go_wp2_with (simp only[U]);go_region_law (refine jl _ rfl (.tmp 73) (.tmp 76) _ _ rfl _ _ (by simp[Act.eval,Act.put]) (by simp[Act.eval,Act.put]) (L _ HG.drew _ (c - (i+1)) (c - i)) ?_);go_wp2_with (refine im _ rfl (.tmp 80) (.tmp 81) _ _ rfl _ _ rfl rfl (M _ (HG.drew.set k) (HV.drew.other HN _) _ _) ?_);go_ret;exact N
theorem rC{sl e ov:Nat}{z}(hP:tF F sl e s b ov z)(base g n i:Nat)(cs xs ys:List Value)(vb:Nat)(w:World)(X:aR w g e cs)(p:cs.length=n*s)(hx:cs=xs)(O:aR w vb e ys)(Y:ys.length=s)
  (hB:base<=w.heap.size) (hk:∀u∈xs,u.oneCell'=true) (h1:∀u∈ys,u.oneCell'=true) (hD:i < n) (hb:(n+1)*b<=140737488355328):
  Cs F #[.slice (some ⟨g,0,none⟩) n n,I6 i,.slice (some ⟨vb,0,none⟩) 1 1] w (kT e s w base (some g) n (xs.take (i*s)++ys++xs.drop (i*s))):=by
 obtain⟨x,hI,hX,hz,hc⟩:=hP.facts;rcases hc with⟨rfl,he,hl,c,a,hv,D⟩|⟨rfl,he,hl,c,a,hv,D⟩|⟨rfl,he,hl,c,a,hv,D⟩;all_goals
  subst hx;obtain⟨y,hi,hm,m,R⟩:=info_parts hI;have hn:g < w.heap.size:=ap X;have ho:vb < w.heap.size:=ap O;obtain⟨G,hG⟩:=nx w.heap.size;obtain⟨K,hK⟩:=nx (grownCap w (i+(n+1 - i)) n e);have ha:n+1<=K:=by have:=grownCap_ge w (i+(n+1 - i)) n e;(subst c a;omega)
  have hC:K<=9223372036854775807:=by have:=grownCap_le_maxLen w (i+(n+1 - i)) n e (by unfold maxLen;(subst c a;omega));unfold maxLen at this;(subst c a;omega)
  have q:=Lib.run_append_grow_zeros (P:=prog) w sl 3 sl e y _ .i64 .i64 x underlying3 hi hm (some ⟨g,0,none⟩) i n (cs.take (i*s))
   (by rw[m];exact run_firstCells_some (P:=prog) w.drew s i ⟨g,0,none⟩ i n (cs.take (i*s)) (by rw[zU,p];(subst c a;omega)) (fun j v hj=>by
    rw[Addr.add_lit,zR,X.drew.cell];rw[List.getElem?_take]at hj;split at hj
    ·exact hj
    ·cases hj)) (n+1 - i) (by(subst c a;omega)) (by rw[m];subst c;decide) (by(subst c a;omega)) (by(subst c a;omega)) (by rw[R];(subst c a;omega)) (by rw[R];exact growslice_fits (by(subst c a;omega)) (by rw[show i+(n+1 - i)=n+1 by(subst c a;omega)];exact hb))
  rw[hK,hG,show i+(n+1 - i)=n+1 by(subst c a;omega),show((n+1 - i:Nat):Int)=(n:Int)+1 - (i:Int) by(subst c a;omega)]at q;obtain⟨Z,hZ⟩:∃Z:Array Value,(cs.take (i*s)).toArray++Builtin.zeroCells z.cells (n+1 - i)++Builtin.zeroCells z.cells (K - (n+1))=Z:=⟨_,rfl⟩;obtain⟨zs,H⟩:∃l:List Value,Z=l.toArray:=⟨Z.toList,by simp⟩;rw[hZ]at q;subst hZ;have I:zs.length=K*s:=by
   have:=congrArg Array.size H;simp only[xE,qT,size_zeroCells,zU,p]at this;rw[<-this];simp only[hz]
   (subst c a;omega)
  have hp:zs.take (i*s)=cs.take (i*s):=by
   have h2:zs=cs.take (i*s)++((Builtin.zeroCells z.cells (n+1 - i)).toList++(Builtin.zeroCells z.cells (K - (n+1))).toList):=by
    have:=congrArg Array.toList H;simpa[zH]using this.symm
   rw[h2,qD (by rw[zU,p];(subst c a;omega)),yO,Nat.min_self]
  rw[H]at q;obtain⟨W,J⟩:=nx (w.drew.alloc (.cells zs.toArray e));rw[J]at q;have L:aR W G e zs:=by rw[<-J,<-hG];exact heap_alloc_new w.drew _
  have hq:aR W g e cs:=by rw[<-J];exact(Below.heap_alloc w.drew _ g hn).trans X
  have S:aR W vb e ys:=by rw[<-J];exact(Below.heap_alloc w.drew _ vb ho).trans O
  have T:Bw w W:=by rw[<-J];exact((bD _)).alloc nR _
  have hr:=e5 (P:=prog) sl e y x hi s m .i64 g 0 n n (i:Int) i rfl (by(subst c a;omega)) (by(subst c a;omega));have hE:=eo (P:=prog) sl e y x hi .i64 (some ⟨g,0,none⟩) n n i (by(subst c a;omega));have ht:=e5 (P:=prog) sl e y x hi s m .i64 G 0 (n+1) K (i:Int) i rfl (by(subst c a;omega)) (by(subst c a;omega));have sl3:=e5 (P:=prog) sl e y x hi s m .i64 G 0 (n+1) K ((i:Int)+1) (i+1) (by(subst c a;omega)) (by(subst c a;omega)) (by(subst c a;omega));rw[zR]at hr ht sl3;obtain⟨f,A⟩:=nx (zs.take (i*s)++ys++zs.drop (i*s+ys.length));have C:f.length=K*s:=by rw[<-A];simp only[zC,zU,qB,I,Y];(subst c a;omega)
  have M:(cs.drop (i*s)).length=(n - i)*s:=by rw[qB,p];(subst c a;omega)
  obtain⟨t,B⟩:=nx (f.take ((i+1)*s)++cs.drop (i*s)++f.drop ((i+1)*s+(cs.drop (i*s)).length));have N:t.length=K*s:=by rw[<-B];simp only[zC,zU,qB,C,p];(subst c a;omega)
  have hu:g≠G:=by(subst c a;omega)
  have hd:∀ty dc,(Builtin.copy_ #[sl,sl] ty #[.slice (some ⟨G,i*s,none⟩) (n+1 - i) dc,.slice (some ⟨vb,0,none⟩) 1 1]).run prog W=.ok (goInt (1:Nat)) (W.setRow G f.toArray):=fun ty dc=>by
   have h:=gN (P:=prog) W sl sl ty e s G (i*s) (n+1 - i) dc ⟨vb,0,none⟩ 1 1 1 zs.toArray e ys x y hi m L
    (by simp only[Nat.min_def];split<;>(subst c a;omega)) (by(subst c a;omega))
    (fun j v hj=>by rw[Addr.add_lit,S.cell,zR];exact hj)
    (by rw[Y];simp[I];(subst c a;omega)) h1
   rw[h];simp only[A]
  have hf:∀(W':World),aR W' G e f->aR W' g e cs->∀ty dc,(Builtin.copy_ #[sl,sl] ty #[.slice (some ⟨G,(i+1)*s,none⟩) (n - i) dc,.slice (some ⟨g,i*s,none⟩) (n - i) (n - i)]).run prog W'=.ok (goInt (n - i:Nat)) (W'.setRow G t.toArray):=fun W' hW1 hW2 ty dc=>by
   have h:=gN (P:=prog) W' sl sl ty e s G ((i+1)*s) (n - i) dc ⟨g,i*s,none⟩ (n - i) (n - i) (n - i) f.toArray e (cs.drop (i*s)) x y hi m hW1
    (Nat.min_self _) M
    (fun j v hj=>by
     rw[Addr.add_lit,hW2.cell];rwa[List.getElem?_drop]at hj)
    (by rw[M];simp[C];(subst c a;omega)) (fun v hv=>hk v (jK hv))
   rw[h];simp only[B]
  have hh:Hid (kT e s w base (some g) n (cs.take (i*s)++ys++cs.drop (i*s)) (.returned (.slice (some ⟨G,0,none⟩) (n+1) K)) ((W.setRow G f.toArray).drew.setRow G t.toArray)):=aH (by
   refine⟨_,rfl,aR.own (cs:=t) ((L.set f).drew.set t) (by(subst c a;omega)) ha (by unfold maxLen;(subst c a;omega)) N ?_,?_⟩
   ·rw[<-B,<-A];have U:(zs.take (i*s)++ys).length=(i+1)*s:=by rw[zC,zU,I,Y];(subst c a;omega)
    have e1:(zs.take (i*s)++ys++zs.drop (i*s+ys.length)).take ((i+1)*s)=zs.take (i*s)++ys:=by
     rw[<-U,List.take_left]
    have hw:(zs.take (i*s)++ys++cs.drop (i*s)).length=(n+1)*s:=by rw[zC,U,M];(subst c a;omega)
    rw[e1,<-hw,List.take_left,hp]
   ·have V:Bw w (W.setRow G f.toArray).drew:=(T.grown (dX W G _) T.size (by rintro k ⟨⟩;(subst c a;omega))).drew;exact aG (V.grown (dX _ G _) V.size (by rintro k ⟨⟩;(subst c a;omega))))
  obtain⟨HG,Hg,HV,hA⟩:=gD L hq S hu;have k1:(n:Int) < (n:Int)+1:=by(subst c a;omega)
  have k2:(i:Int) < (n:Int):=by(subst c a;omega)
  have k3:((i:Int)==(n:Int))=false:=by simp;(subst c a;omega)
  have k4:(n:Int)+1<=9223372036854775807:=by(subst c a;omega)
  have k5:IntKind.i64.wrap ((i:Int)+1)=(i:Int)+1:=zZ _ (by(subst c a;omega));subst he hl c a hv D;apply cI;go_in;go_wp2_with (first|(at_builtin;refine jZ _ rfl (.tmp 34) (.tmp 39) _ 3 rfl _ _ rfl rfl _ _ q ?_)|refine im _ rfl (.tmp 43) (.tmp 44) _ _ rfl _ _ rfl rfl (hd _ _) ?_);go_region_law (refine jl _ rfl (.tmp 50) (.tmp 53) _ _ rfl _ _ (by simp[Act.eval,Act.put]) (by simp[Act.eval,Act.put]) (hf _ (HG.set f).drew (Hg.other hA _).drew _ (K - (i+1))) ?_);go_wp2_with fail;go_ret;exact hh
theorem p0{v}{xs}(h:w.ownsRow base e s v n xs)(m:0 < n):
  ∃g cap cs,v=.slice (some ⟨g,0,none⟩) n cap/\base<=g/\aR w g e cs/\cs.length=cap*s/\cs.take (n*s)=xs/\n<=cap/\cap<=maxLen:=by
 rcases h.2 with⟨_,p⟩|⟨g,cap,a,hv,i,j,b,c,f,k⟩
 ·omega
 ·exact⟨g,cap,a.toList,hv,i,by unfold aR;simpa using j,by simpa using f,k,b,c⟩
theorem p1{F sl e s b L:Nat}{z}(t:tF F sl e s b L z)(base n i:Nat)(v:Value)(xs f:List Value)(vb:Nat)(w:World)(a:w.ownsRow base e s v n xs)(j:aR w vb e f)(x:f.length=s)
  (h:base<=w.heap.size) (B:∀k,v.ownBlock=some k->vb≠k) (m:∀u∈xs,u.oneCell'=true) (y:∀u∈f,u.oneCell'=true) (M:i<=n) (C:(n+1)*b<=140737488355328):
  Cs F #[v,I6 i,.slice (some ⟨vb,0,none⟩) 1 1] w (kT e s w base v.ownBlock n (xs.take (i*s)++f++xs.drop (i*s))):=by
 have N:=a.1;rcases jH i n with hlt|hge
 ·obtain⟨g,cap,cs,rfl,D,G,p,H,q,I⟩:=p0 a (by omega);rcases jH n cap with hc|hc
  ·exact pZ t base g n cap i cs xs f vb w G D p H j x (B g rfl) m y hlt hc (by unfold maxLen at I;omega)
  ·obtain rfl:n=cap:=by omega
   have J:cs=xs:=by rw[<-H,qP (by omega)]
   exact rC t base g n i cs xs f vb w G p J j x h m y hlt C
 ·obtain rfl:i=n:=by omega
  obtain⟨A,c,rfl,q⟩:=bV a;rw[qP (by omega),qH (by omega),qU];exact tG t base A i c xs f vb w a j x h y C q
namespace Nm
def tH:=@p1 _ _ _ _ _ _ _ (Or.inr (Or.inl ⟨rfl,rfl,rfl,rfl,rfl,rfl,rfl⟩))
def lt(x y:List UInt8):Bool:=Op.bytesLess x y
def c0:List dA->List UInt8->Nat
 |[],_=>0
 |t::l,s=>if lt t.nm s then c0 l s+1 else 0
theorem xr(l:List dA) s:c0 l s<=l.length:=by
 induction l with
 |nil=>exact nR
 |cons t l ih=>unfold c0;split<;>simp;omega
theorem yc(l:List dA) s(k:Nat)(hk:k < l.length):c0 (l.drop k) s=if lt l[k].nm s then c0 (l.drop (k+1)) s+1 else 0:=by
 rw[wA hk];rfl
theorem kh a b w:Cs 348 #[.string (kf a),.string (kf b)] w fun e w'=>Rt e (I6 (Lib.compareBytes a b))/\w=w':=by
 apply cI;go_in;go_wp2;rw[run_callFunc_extern func388 (by kernel_rfl) (by kernel_rfl) (by kernel_rfl) (e:=Extern.BytealgCompare.compare) (by kernel_rfl),Lib.run_compareString];simp only[Result.andThen];rw[Oper.upon_value];go_wp2;go_ret;exact⟨by simp[kf],rfl⟩
theorem iC a b w:Cs 265 #[.string (kf a),.string (kf b)] w fun e w'=>Rt e (I6 (Lib.compareBytes a b))/\w=w':=by
 apply cI;go_in;go_wp2_with fail;refine(kh a b _).mono ?_;rintro e w' ⟨rfl,rfl⟩;go_wp2;go_ret;exact⟨rfl,rfl⟩
theorem yd(b:Nat)(t:dA) s(w:World)(hb:am w b 9 #[.string (kf s)]):
  Cs 390 #[.agg #[.string (kf t.nm),I6 t.n],Pt b] w fun e w'=>Rt e (.bool (!lt t.nm s))/\Below w.heap.size w w':=by
 have a:=fun o=>(hb.alloc o).cell 0;simp only[zL,zM]at a;have c:=fun o=>aH (ba w o);apply cI;go_in;go_wp2;go_ret;exact⟨rfl,(c _).out⟩
def Dl(k n:Nat):Int:=if k < n then k else -1
theorem ye A(c b:Nat)(l:List dA) s(w:World)(hr:Sl w 2 A l.length (aY l))(hb:am w b 9 #[.string (kf s)])(hn:l.length<=9223372036854775807):
  Cs 350 #[.slice A l.length c,.func (.func 390) #[] #[Pt b]] w fun e w'=>Rt e (I6 (Dl (c0 l s) l.length))/\Below w.heap.size w w':=by
 obtain⟨p,q⟩:=gB hr hb;apply cI;go_in;go_wp2;go_loopw[8] (fun i wr=>∃k:Nat,k<=l.length/\i=I6 k/\c0 l s=k+c0 (l.drop k) s/\Bw w wr) (fun i _=>l.length - (intOf i).toNat)
 case atStart=>exact⟨0,zS _,rfl,by simp,bR _⟩
 case round=>
  obtain⟨k,y,rfl,u,j⟩:=hrel;obtain⟨f,B⟩:=gB u j;by_cases hlt:k < l.length
  ·obtain⟨g,o,rfl,z,x,c1⟩:=fp (p.below B) (zA hlt);have h:=aH (yc l s k hlt);generalize hz:l[k]=t at x c1 h;go_wp2_with fail;refine(yd b t s _ (q.below B)).mono ?_;rintro e w2 ⟨rfl,m⟩;have n:=aH (B.trans (m.mono B.size));cases he:lt t.nm s
   ·have a:Hid (Dl (c0 l s) l.length=k):=aH (by rw[f,h,he];simp[Dl,hlt]);go_wp2;go_ret;exact⟨by rw[a];rfl,n⟩
   ·have a:Hid (c0 l s=(k+1)+c0 (l.drop (k+1)) s):=aH (by rw[f,h,he];simp;omega);go_wp2;go_roundw
    case rel=>exact⟨k+1,by omega,by go_num,a,n⟩
    case measure=>simp[intOf];omega
  ·have a:Hid (Dl (c0 l s) l.length= -1):=aH (by rw[f,qH (by omega)];simp[Dl,c0];omega);go_wp2;go_ret;exact⟨by rw[a];rfl,B⟩
def tu(l:List dA)(s:List UInt8):Bool:=match l[c0 l s]? with|some t=>t.nm==s|none=>false
theorem rD A(c:Nat)(l:List dA) s(w:World)(hr:Sl w 2 A l.length (aY l))(hn:l.length<=9223372036854775807):
  Cs 352 #[.slice A l.length c,.string (kf s)] w fun e w'=>Rt e (.tuple #[I6 (c0 l s),.bool (tu l s)])/\Below w.heap.size w w':=by
 have j:=aH hr;apply cI;go_in;go_wp2_with fail;refine(ye A c w.heap.size l s _ (j.below (ba _ _)) (am.new _ _ _) hn).mono ?_;rintro e w' ⟨rfl,m⟩;have p:Bw w w':=(ba _ _).trans (m.mono (by simp));have q:=((am.new w 9 #[.string (kf s)]).below m).cell 0;simp only[zL,zM]at q;have B:=aH p;have u:=xr l s;rcases jH (c0 l s) l.length with h|h
 ·obtain⟨g,o,rfl,x,n,c1⟩:=fp (j.below B) (zA h);have a:Hid (tu l s=(l[c0 l s].nm==s)):=aH (by unfold tu;rw[zA h]);have f:Dl (c0 l s) l.length=(c0 l s:Nat):=by simp[Dl,h]
  rw[f];generalize hz:l[c0 l s]=t at n c1 a;obtain⟨k,b⟩:=nx (c0 l s);have i:=aH b;rw[b]at h n c1 ⊢;have y:decide ((k:Int) < 0)=false:=by simp
  go_wp2;go_quiet (fail);go_wp2_with fail
  ((try simp only[Exit.inBlock,Exit.then]);refine bodyPost_ret (results_tmp2 rfl _ _ _) rfl ?_)
  exact⟨by rw[a,i];rfl,below_drewN B _⟩
 ·have f:Dl (c0 l s) l.length= -1:=by simp[Dl];omega
  have a:Hid (tu l s=false):=aH (by unfold tu;rw[jB h]);have i:Hid (c0 l s=l.length):=aH (by omega);rw[f];go_wp2_with fail
  ((try simp only[Exit.inBlock,Exit.then]);refine bodyPost_ret (results_tmp2 rfl _ _ _) rfl ?_)
  exact⟨by rw[a,i];rfl,B⟩
def kU(l:List dA)(s:List UInt8):Bool:=match l[c0 l s]? with|some t=>t.nm==s&&t.n.tmod 2==1|none=>false
theorem p2 A(c:Nat)(l:List dA) s(w:World)(hr:Sl w 2 A l.length (aY l))(hn:l.length<=9223372036854775807):
  Cs 271 #[.slice A l.length c,.string (kf s)] w fun e w'=>Rt e (.bool (kU l s))/\Below w.heap.size w w':=by
 have i:=aH hr;apply cI;go_in;go_wp2_with fail;refine(rD A c l s _ i hn).mono ?_;rintro e w' ⟨rfl,j⟩;have B:=aH j;rcases jH (c0 l s) l.length with h|h
 ·obtain⟨g,o,rfl,n,m,c1⟩:=fp (i.below B) (zA h);have b:Hid (tu l s=(l[c0 l s].nm==s)):=aH (by unfold tu;rw[zA h]);have a:Hid (kU l s=(l[c0 l s].nm==s&&l[c0 l s].n.tmod 2==1)):=aH (by unfold kU;rw[zA h]);generalize hz:l[c0 l s]=t at m c1 b a;generalize c0 l s=k at*;rw[b];cases he:(t.nm==s)
  ·have f:Hid (kU l s=false):=aH (by rw[a,he];rfl);go_wp2;go_ret;exact⟨by rw[f];rfl,B⟩
  ·have f:Hid (kU l s=(t.n.tmod 2==1)):=aH (by rw[a,he];rfl);go_wp2;go_ret;exact⟨by rw[f];rfl,B⟩
 ·have b:Hid (tu l s=false):=aH (by unfold tu;rw[jB h]);have a:Hid (kU l s=false):=aH (by unfold kU;rw[jB h]);rw[b];go_wp2;go_ret;exact⟨by rw[a];rfl,B⟩
def mh(w:World)(a:Int)(l:List dA)(b:Ending)(w':World):Prop:=
 ∃v,Rt b (.tuple #[v,I6 a])/\w'.ownsRow w.heap.size 230 2 v l.length (aY l)/\Below w.heap.size w w'
theorem iD{w w':World}(a:Int)(h:Below w.heap.size w w'):mh w a [] (.returned (.tuple #[aS,I6 a])) w':=
 ⟨_,rfl,World.ownsRow_nil _ _ _ _,h⟩
def mi(l:List dA)(s:List UInt8):Bool:=match l[c0 l s]? with|some t=>if t.nm==s then decide (t.n>=1048576)else decide (l.length>=100)|none=>decide (l.length>=100)
def yf(l:List dA)(s:List UInt8):List dA:=match l[c0 l s]? with
 |some t=>if t.nm==s then l.set (c0 l s) ⟨t.nm,t.n+1⟩else l.take (c0 l s)++[⟨s,1⟩]++l.drop (c0 l s)
 |none=>l++[⟨s,1⟩]
def e8(l:List dA)(s:List UInt8):List dA:=if mi l s then []else yf l s
def gj(l:List dA)(s:List UInt8):Int:=if mi l s then 15 else 0
theorem yg{l:List dA}{s}(h:tu l s=false):mi l s=decide (l.length>=100):=by
 unfold tu at h;unfold mi;cases hk:l[c0 l s]? with
 |none=>rfl
 |some t=>rw[hk]at h;simp only at h ⊢;rw[h];rfl
theorem Bb{l:List dA}{s}(h:tu l s=false):yf l s=l.take (c0 l s)++[⟨s,1⟩]++l.drop (c0 l s):=by
 unfold tu at h;unfold yf;cases hk:l[c0 l s]? with
 |none=>
  have:=List.getElem?_eq_none_iff.1 hk;simp only;rw[qP this,qH this,qU]
 |some t=>rw[hk]at h;simp only at h ⊢;rw[h];rfl
theorem Bc{l:List dA}{s}(h:tu l s=true):∃t,l[c0 l s]?=some t/\t.nm=s/\mi l s=decide (t.n>=1048576)/\yf l s=l.set (c0 l s) ⟨t.nm,t.n+1⟩:=by
 unfold tu at h;unfold mi yf;cases hk:l[c0 l s]? with
 |none=>rw[hk]at h;cases h
 |some t=>rw[hk]at h;simp only at h ⊢;rw[h];exact⟨t,rfl,by simpa using h,rfl,rfl⟩
theorem Dm{w:World}{base:Nat}{e:TypeId}{s n g cap:Nat}{xs:List Value}(h:w.ownsRow base e s (.slice (some ⟨g,0,none⟩) n cap) n xs)(j:Nat) u:
  (w.setCell ⟨g,j,none⟩ u).ownsRow base e s (.slice (some ⟨g,0,none⟩) n cap) n (xs.set j u):=by
 refine⟨by simp[h.1],?_⟩;rcases h.2 with⟨hv,_⟩|⟨g',f,cur,hv,i,k,a,b,c,m⟩
 ·cases hv
 ·injection hv with h1 h2 h3;injection h1 with h1;injection h1 with h1;subst h1;subst h3;have p:am w g e cur:=k;refine .inr ⟨g,cap,cur.setIfInBounds j u,rfl,i,p.I j u,a,b,by simpa using c,?_⟩;rw[<-m,Array.toList_setIfInBounds,List.take_set]
theorem Bd(l:List dA)(k:Nat)(t b:dA)(h:l[k]?=some t)(c:b.nm=t.nm):aY (l.set k b)=(aY l).set (k*2+1) (I6 b.n):=by
 induction l generalizing k with
 |nil=>cases h
 |cons a l ih=>
  cases k with
  |zero=>
   injection h with h;subst h;show tc b++aY l=(tc a++aY l).set 1 _;simp[tc,c]
  |succ k=>
   show tc a++aY (l.set k b)=(tc a++aY l).set _ _;rw[ih k h,show(k+1)*2+1=k*2+1+(tc a).length by rw[mb];omega,yW _ _ (by omega)];simp
theorem mj(l:List dA)(k:Nat)(b:k<=l.length) s(n m:Int):(aY (l.take k++[⟨s,n⟩]++l.drop k)).set (k*2+1) (I6 m)=aY (l.take k++[⟨s,m⟩]++l.drop k):=by
 have a:(l.take k).length=k:=by simp;omega
 have h:=Bd (l.take k++[⟨s,n⟩]++l.drop k) k ⟨s,n⟩ ⟨s,m⟩ (by rw[zH,jA (by omega),a];simp) rfl;rw[<-h];congr 1;rw[zH,yW _ _ (by omega),a,zH];simp
theorem rE{w w3:World}{l l':List dA}{n g cap:Nat}{a:Int}{u}{j:Nat}(h:w3.ownsRow w.heap.size 230 2 (.slice (some ⟨g,0,none⟩) n cap) n (aY l))(c:Below w.heap.size w w3)(f:l'.length=n)(i:aY l'=(aY l).set j u)(b:w.heap.size<=g):
  mh w a l' (.returned (.tuple #[.slice (some ⟨g,0,none⟩) n cap,I6 a])) (w3.setCell ⟨g,j,none⟩ u):=by
 subst f;exact⟨_,rfl,by rw[i];exact Dm h j u,c.setCell b u⟩
theorem Be{w:World}{base:Nat}{e:TypeId}{s n g o cap:Nat}{xs}(h:w.ownsRow base e s (.slice (some ⟨g,o,none⟩) n cap) n xs):o=0/\base<=g/\n<=cap:=by
 rcases h.2 with⟨hv,_⟩|⟨g',b,f,hv,c,i,a,_⟩
 ·cases hv
 ·injection hv with h1 h2 h3;injection h1 with h1;injection h1 with h1 h4;subst h1;subst h3;exact⟨h4,c,a⟩
theorem mm{w:World}{base:Nat}{e:TypeId}{s n g cap:Nat}{xs}(h:w.ownsRow base e s (.slice (some ⟨g,0,none⟩) n cap) n xs)(j:Nat):w.frozen? ⟨g,j,none⟩=false:=by
 rcases h.2 with⟨hv,_⟩|⟨g',b,a,hv,f,c,_⟩
 ·cases hv
 ·injection hv with h1 h2 h3;injection h1 with h1;injection h1 with h1;subst h1;exact am.frozen (t:=e) (cs:=a) c j
theorem gQ{w:World}{base:Nat}{e:TypeId}{s n:Nat}{v:Value}{xs}(h:w.ownsRow base e s v n xs):∀k,v.ownBlock=some k->base<=k/\k < w.heap.size:=by
 intro k a;rcases h.2 with⟨rfl,_⟩|⟨g',b,g,rfl,c,f,_⟩
 ·cases a
 ·injection a with a;subst a;exact⟨c,ap f⟩
theorem rF A(c:Nat)(l:List dA) s w(hr:Sl w 2 A l.length (aY l))(hn:l.length<=1000)(hok:∀t∈l,0<=t.n):
  Cs 349 #[.slice A l.length c,.string (kf s)] w (mh w (gj l s) (e8 l s)):=by
 obtain⟨Hr,R⟩:=gB hr hok;clear hr hok;apply cI;go_in;go_wp2_with fail;refine(tD A l.length c _ _ Hr (jq l) (by omega)).mono ?_;rintro e w1 ⟨v1,rfl,p,I⟩;obtain⟨A1,c1,rfl,J⟩:=bV p;obtain⟨q,O,hb⟩:=gC p I J;clear p I J;go_wp2_with fail;refine(rD A1 c1 l s _ (fM.aa q).sl (by omega)).mono ?_;rintro e w2 ⟨rfl,y⟩;obtain⟨u,a⟩:=gB (O.trans (y.mono O.size)) (aI q y);clear y q O;have z:=xr l s;cases hI:tu l s
 ·have m:=yg hI;have B:=aH (Bb hI);clear hI;obtain⟨k,n⟩:=nx (c0 l s);rw[n]at B z ⊢;clear n;by_cases h100:l.length>=100
  ·have hd:decide ((100:Int)<=(l.length:Int))=true:=by simp;omega
   have f:Hid (e8 l s=[]/\gj l s=15):=aH (by unfold e8 gj;rw[m];simp[h100]);clear m;go_wp2_with fail
   ((try simp only[Exit.inBlock,Exit.then]);refine bodyPost_ret (results_tmp2 rfl _ _ _) rfl ?_)
   rw[f.1,f.2];exact iD 15 u
  ·have hd:decide ((100:Int)<=(l.length:Int))=false:=by simp;omega
   have f:Hid (e8 l s=l.take k++[⟨s,1⟩]++l.drop k/\gj l s=0):=aH (by unfold e8 gj;rw[m,B];simp[h100]);clear m;have S:=fun o=>a.alloc o;go_wp2_with fail;refine(tH w.heap.size l.length k _ (aY l) [.string (kf s),I6 0] w2.heap.size _ (aI a (ba _ _)) (am.new _ _ _) rfl (by have:=u.size;simp;omega) (fun k hk=>by have:=gQ a k hk;omega) (jq l) (by simp[Value.oneCell']) z (by omega)).mono ?_;rintro e w3 ⟨v3,rfl,b,L⟩;obtain⟨L3,h⟩:=nx (l.take k++[⟨s,0⟩]++l.drop k);have C:L3.length=l.length+1:=by rw[<-h];simp;omega
   have M:(aY l).take (k*2)++[.string (kf s),I6 0]++(aY l).drop (k*2)=aY L3:=by
    rw[<-h,fV,fV,ly,lx];rfl
   have D:L3[k]?=some ⟨s,0⟩:=by
    rw[<-h,zH,jA (by simp;omega)];simp[Nat.min_eq_left z]
   have T:=aH (show(aY L3).set (k*2+1) (I6 1)=aY (l.take k++[⟨s,1⟩]++l.drop k) by rw[<-h];exact mj l k z s 0 1);rw[M,<-C]at b;have U:Bw w w3:=((u.alloc u.size _).grown L (by have:=u.size;simp;omega) (fun k hk=>(gQ a k hk).1));obtain⟨A3,c3,rfl,ha⟩:=bV b;obtain⟨g,o,rfl,hg,G,x⟩:=fp (fM.aa b).sl D;obtain⟨rfl,F,-⟩:=Be b;have V:=fun j=>mm b j;rw[zR]at G x;obtain⟨H,X⟩:=gB b U;have Y:k < L3.length:=by omega
   obtain⟨Z,hc⟩:=gB h C;clear b L U S h M D C;go_wp2_with fail
   ((try simp only[Exit.inBlock,Exit.then]);refine bodyPost_ret (results_tmp2 rfl _ _ _) rfl ?_)
   rw[f.1,f.2];exact rE H X (by rw[<-Z];simp) T.symm F
 ·obtain⟨t,i,N,m,hC⟩:=Bc hI;have B:=aH hC;clear hI hC;have h0:=R t (qC i);obtain⟨g,o,rfl,hg,G,x⟩:=fp (fM.aa a).sl i;obtain⟨rfl,F,-⟩:=Be a;have V:=fun j=>mm a j;rw[zR]at G x;obtain⟨k,n⟩:=nx (c0 l s);rw[n]at B z i G x ⊢;clear n;have Y:k < l.length:=(zE.1 i).1;obtain⟨HT,he⟩:=gB i N;clear i N;by_cases hbig:t.n>=1048576
  ·have hd:decide ((1048576:Int)<=t.n)=true:=by simpa using hbig
   have f:Hid (e8 l s=[]/\gj l s=15):=aH (by unfold e8 gj;rw[m];simp[hbig]);clear m;go_wp2_with fail
   ((try simp only[Exit.inBlock,Exit.then]);refine bodyPost_ret (results_tmp2 rfl _ _ _) rfl ?_)
   rw[f.1,f.2];exact iD 15 u
  ·have hd:decide ((1048576:Int)<=t.n)=false:=by simpa using hbig
   have f:Hid (e8 l s=l.set k ⟨t.nm,t.n+1⟩/\gj l s=0):=aH (by unfold e8 gj;rw[m,B];simp[hbig]);have hw:IntKind.i64.wrap (t.n+1)=t.n+1:=zZ _ (by omega);clear m;go_wp2_with fail
   ((try simp only[Exit.inBlock,Exit.then]);refine bodyPost_ret (results_tmp2 rfl _ _ _) rfl ?_)
   rw[f.1,f.2];exact rE a u (by simp) (Bd l k t _ HT rfl) F
theorem Bf{w:World}{base base':Nat}{e:TypeId}{s n:Nat}{v}{xs}(h:w.ownsRow base e s v n xs)(a:base'<=base):w.ownsRow base' e s v n xs:=by
 refine⟨h.1,?_⟩;rcases h.2 with hn|⟨g,cap,cur,hv,h1,hr⟩
 ·exact .inl hn
 ·exact .inr ⟨g,cap,cur,hv,by omega,hr⟩
theorem mn{w0 w w':World}{b:Int}{l:List dA}{en}(a:Below w0.heap.size w0 w)(h:mh w b l en w'):mh w0 b l en w':=by
 obtain⟨v,rfl,f,c⟩:=h;exact⟨v,rfl,Bf f a.size,a.trans (c.mono a.size)⟩
def ki(l:List dA)(s:List UInt8):List dA:=if !fW s then []else if kU l s then []else e8 l s
def mo(l:List dA)(s:List UInt8):Int:=if !fW s then 1 else if kU l s then 13 else gj l s
def mp(l:List dA)(s:List UInt8):List dA:=if !kU l s then []else e8 l s
def rG(l:List dA)(s:List UInt8):Int:=if !kU l s then 12 else gj l s
theorem Bg A(c:Nat)(l:List dA)(s:List UInt8) w(hr:Sl w 2 A l.length (aY l))(hn:l.length<=1000)(hok:∀t∈l,0<=t.n)(hs:s.length<=9223372036854775807):
  Cs 266 #[.slice A l.length c,.string (kf s)] w (mh w (mo l s) (ki l s)):=by
 obtain⟨a,b⟩:=gB hr hok;apply cI;go_in;go_wp2_with fail;refine(xp s _ hs).mono ?_;rintro e w' ⟨rfl,rfl⟩;cases h1:fW s
 ·have H:Hid (ki l s=[]/\mo l s=1):=aH (by unfold ki mo;rw[h1];exact⟨rfl,rfl⟩);go_wp2_with fail
  ((try simp only[Exit.inBlock,Exit.then]);refine bodyPost_ret (results_tmp2 rfl _ _ _) rfl ?_)
  rw[H.1,H.2];exact iD 1 (bR _)
 ·go_wp2_with fail;refine(p2 A c l s _ a (by omega)).mono ?_;rintro e w1 ⟨rfl,g⟩;have B:=aH g;cases h2:kU l s
  ·have H:Hid (ki l s=e8 l s/\mo l s=gj l s):=aH (by unfold ki mo;rw[h1,h2];exact⟨rfl,rfl⟩);go_wp2_with fail;refine(rF A c l s _ (a.below B) hn b).mono ?_;rintro e w2 ⟨v,rfl,h,f⟩;obtain⟨i,j⟩:=gB h f;go_wp2_with fail
   ((try simp only[Exit.inBlock,Exit.then]);refine bodyPost_ret (results_tmp2 rfl _ _ _) rfl ?_)
   rw[H.1,H.2];exact mn B ⟨v,rfl,i,j⟩
  ·have H:Hid (ki l s=[]/\mo l s=13):=aH (by unfold ki mo;rw[h1,h2];exact⟨rfl,rfl⟩);go_wp2_with fail
   ((try simp only[Exit.inBlock,Exit.then]);refine bodyPost_ret (results_tmp2 rfl _ _ _) rfl ?_)
   rw[H.1,H.2];exact iD 13 B
theorem Bh A(c:Nat)(l:List dA) s w(hr:Sl w 2 A l.length (aY l))(hn:l.length<=1000)(hok:∀t∈l,0<=t.n):
  Cs 267 #[.slice A l.length c,.string (kf s)] w (mh w (rG l s) (mp l s)):=by
 obtain⟨a,b⟩:=gB hr hok;apply cI;go_in;go_wp2_with fail;refine(p2 A c l s _ a (by omega)).mono ?_;rintro e w1 ⟨rfl,g⟩;have B:=aH g;cases h2:kU l s
 ·have H:Hid (mp l s=[]/\rG l s=12):=aH (by unfold mp rG;rw[h2];exact⟨rfl,rfl⟩);go_wp2_with fail
  ((try simp only[Exit.inBlock,Exit.then]);refine bodyPost_ret (results_tmp2 rfl _ _ _) rfl ?_)
  rw[H.1,H.2];exact iD 12 B
 ·have H:Hid (mp l s=e8 l s/\rG l s=gj l s):=aH (by unfold mp rG;rw[h2];exact⟨rfl,rfl⟩);go_wp2_with fail;refine(rF A c l s _ (a.below B) hn b).mono ?_;rintro e w2 ⟨v,rfl,h,f⟩;obtain⟨i,j⟩:=gB h f;go_wp2_with fail
  ((try simp only[Exit.inBlock,Exit.then]);refine bodyPost_ret (results_tmp2 rfl _ _ _) rfl ?_)
  rw[H.1,H.2];exact mn B ⟨v,rfl,i,j⟩
def mq(w0:World)(l:List dA)(v:Value)(wr:World):Prop:=wr.ownsRow w0.heap.size 230 2 v l.length (aY l)/\Below w0.heap.size w0 wr
theorem mq.nil{w0 wr:World}(h:Below w0.heap.size w0 wr):mq w0 [] (aS) wr:=⟨World.ownsRow_nil _ _ _ _,h⟩
theorem mq.below{w0 wr w':World}{l:List dA}{v}(h:mq w0 l v wr)(a:Below wr.heap.size wr w'):mq w0 l v w':=⟨aI h.1 a,h.2.trans (a.mono h.2.size)⟩
theorem mq.slice{w0 wr}{l:List dA}{v}(h:mq w0 l v wr):∃A c,v=.slice A l.length c/\Sl wr 2 A l.length (aY l)/\l.length<=c:=by
 obtain⟨A,c,rfl,a⟩:=bV h.1;exact⟨A,c,rfl,(fM.aa h.1).sl,a⟩
theorem xt{w0 wr:World}{l:List dA}{v}(h:mq w0 l v wr)(t:dA)(m:l.length<=10000)(ty:TypeId):
  ∃v' w',(Builtin.append_ #[151,151] ty #[v,.slice (some ⟨wr.heap.size,0,none⟩) 1 1]).run prog (wr.alloc (.cells #[.string (kf t.nm),I6 t.n] 230))=.ok v' w'/\mq w0 (l++[t]) v' w':=by
 obtain⟨f,hi,a,b,c⟩:=info_parts kg;obtain⟨v',w',g,i,j,_⟩:=eB (P:=prog) (wr.alloc (.cells #[.string (kf t.nm),I6 t.n] 230)) w0.heap.size 151 ty 230 f _ 2 24 underlying151 hi a b c rfl (by decide) v l.length (aY l) (h.1.alloc _)
  (some ⟨wr.heap.size,0,none⟩) 1 1 (aY [t]) (EL wr t _ rfl) (jq _) (by unfold maxLen;omega) (by omega) (by have:=h.2.size;simp;omega)
 refine⟨v',w',g,?_,(h.2.alloc h.2.size _).grown j (by have:=h.2.size;simp;omega) (fun k hk=>(gQ h.1 k hk).1)⟩;rw[fV,zC];exact i
theorem gR{ops:Array Oper}{rest:List Oper}{o:Oper}{a:Act}{Q:Exit->Act->World->Prop}(c:o.guard=none)(b x:Operand)
  (f:o.op=.call {callee:=.builtin .append,args:=#[b,x],argTypes:=#[151,151]})
  {w0 wr:World} {l:List dA} {v} (h:mq w0 l v wr) (t:dA) (g:a.eval b=v) (i:a.eval x=.slice (some ⟨wr.heap.size,0,none⟩) 1 1) (j:l.length<=10000)
  (K:∀v' w',mq w0 (l++[t]) v' w'->wpList prog ops Q rest (a.put o.dst v') w'):wpList prog ops Q (o::rest) a (wr.alloc (.cells #[.string (kf t.nm),I6 t.n] 230)):=by
 obtain⟨v',w',k,m⟩:=xt h t j o.type;exact jZ _ c b x 151 151 f _ _ g i _ _ k (K v' w' m)
def EP(w:World)(l:List dA)(a:Ending)(w':World):Prop:=∃v,Rt a v/\mq w l v w'
theorem mq.drewN{w0 wr:World}{l:List dA}{v}(h:mq w0 l v wr)(n:Nat):mq w0 l v (wr.drewN n):=h.below (below_drewN (bR _) n)
theorem Bi{w:World}{base:Nat}{e:TypeId}{s n c k:Nat}{A}{xs:List Value}(h:w.ownsRow base e s (.slice A n c) n xs)(j:k<=n):w.ownsRow base e s (.slice A k c) k (xs.take (k*s)):=by
 have a:=Nat.mul_le_mul_right s j;refine⟨by rw[zU,h.1];omega,?_⟩;rcases h.2 with⟨hv,u⟩|⟨g,cap,b,hv,m,p,t,f,i,q⟩
 ·injection hv with h1 h2 h3;subst h1;subst h3;have:k=0:=by omega
  subst this;exact .inl ⟨rfl,rfl⟩
 ·injection hv with h1 h2 h3;subst h1;subst h3;exact .inr ⟨g,c,b,rfl,m,p,by omega,f,i,by rw[<-q,yO,Nat.min_eq_left a]⟩
theorem mq.take{w0 wr}{l:List dA}{A}{c k:Nat}(h:mq w0 l (.slice A l.length c) wr)(a:k<=l.length):mq w0 (l.take k) (.slice A k c) wr:=by
 have b:(l.take k).length=k:=by simp;omega
 refine⟨?_,h.2⟩;rw[b,ly];exact Bi h.1 a
theorem Bj{ops:Array Oper}{o:Oper}{a:Act}{K:Act->World->Prop}{Q:Exit->Act->World->Prop}{E:Prop}(c:o.guard=none)(b x:Operand)
  (f:o.op=.call {callee:=.builtin .append,args:=#[b,x],argTypes:=#[151,151]})
  {w0 wr:World} {l:List dA} {v} (h:mq w0 l v wr) nm (nn:Int) (hs:a.eval b=v) (hx:a.eval x=.slice (some ⟨wr.heap.size,0,none⟩) 1 1) (hl:l.length<=10000)
  (k:∀v' w',mq w0 (l++[⟨nm,nn⟩]) v' w'->K (a.put o.dst v') w'):
  if Region.wanted o (yielded ops a.tmps)=true then Oper.wp prog o a (wr.alloc (.cells #[.string (kf nm),I6 nn] 230)) K Q else E:=by
 have g:Region.wanted o (yielded ops a.tmps)=true:=by simp[Region.wanted,c]
 rw[if_pos g];obtain⟨v',w',i,j⟩:=xt h ⟨nm,nn⟩ hl o.type;exact Lib.wp_append_run _ b x 151 151 f _ _ hs hx _ _ i (k v' w' j)
def cP:List dA->List dA->List dA
 |[],[]=>[]
 |s::a,[]=>s::cP a []
 |[],t::b=>t::cP [] b
 |s::a,t::b=>if lt s.nm t.nm then s::cP a (t::b)else if s.nm==t.nm then⟨s.nm,max s.n t.n⟩::cP a b else t::cP (s::a) b
termination_by a b => a.length + b.length
theorem o4:cP [] []=[]:=by rw[cP]
theorem mt(s:dA)(a:List dA):cP (s::a) []=s::cP a []:=by rw[cP]
theorem lz(t:dA)(b:List dA):cP [] (t::b)=t::cP [] b:=by rw[cP]
theorem jr(s t:dA)(a b:List dA):cP (s::a) (t::b)=if lt s.nm t.nm then s::cP a (t::b)else if s.nm==t.nm then⟨s.nm,max s.n t.n⟩::cP a b else t::cP (s::a) b:=by rw[cP]
theorem tI x y:decide (Lib.compareBytes x y < 0)=lt x y:=by
 induction x generalizing y with
 |nil=>cases y<;>simp[Lib.compareBytes,lt,Op.bytesLess]
 |cons a x ih=>cases y with
  |nil=>simp[Lib.compareBytes,lt,Op.bytesLess]
  |cons b y=>
   have c:=ih y;unfold lt at c ⊢;rw[Op.bytesLess,<-c];show decide ((if a < b then -1 else if b < a then 1 else Lib.compareBytes x y) < 0)=_;by_cases h1:a < b
   ·simp[h1]
   ·by_cases h2:b < a
    ·have f:(a==b)=false:=by
      simp only[beq_eq_false_iff_ne];rintro rfl;exact h1 h2
     simp[h1,h2,f]
    ·have f:a=b:=by
      apply UInt8.toNat_inj.1;rw[UInt8.lt_iff_toNat_lt]at h1 h2;omega
     subst f;simp[h1]
def xu(a b:List dA):List dA:=(cP a b).take 100
structure Mg(w:World)(a b la lb pre:List dA)(Aa Ab:Option Addr)(ca cb:Nat)(v:Value)(wr:World):Prop where
 sa:Sl w 2 Aa la.length (aY la)
 sb:Sl w 2 Ab lb.length (aY lb)
 ka:la.length<=ca
 kb:lb.length<=cb
 eq:cP a b=pre++cP la lb
 len:pre.length+la.length+lb.length<=400
 acc:mq w pre v wr
theorem Mg.step{w wr w'}{a b k lb c f g:List dA}{Aa Ab Aa' Ab'}{ca n i j:Nat}{v v'}{u:dA}(h:Mg w a b k lb g Aa Ab ca n v wr)
  (p:Sl w 2 Aa' c.length (aY c)) (q:Sl w 2 Ab' f.length (aY f)) (s:c.length<=i) (t:f.length<=j) (x:cP k lb=u::cP c f) (len:c.length+f.length+1<=k.length+lb.length)
  (m:mq w (g++[u]) v' w'):Mg w a b c f (g++[u]) Aa' Ab' i j v' w':=
 ⟨p,q,s,t,by rw[h.eq,x];simp,by have:=h.len;simp;omega,m⟩
theorem Mg.drewN{w wr:World}{a b f lb c:List dA}{Aa Ab}{ca g:Nat}{v}(h:Mg w a b f lb c Aa Ab ca g v wr)(n:Nat):Mg w a b f lb c Aa Ab ca g v (wr.drewN n):=
 ⟨h.sa,h.sb,h.ka,h.kb,h.eq,h.len,h.acc.drewN n⟩
theorem Dn{w}{A}{c:Nat}{t:dA}{l:List dA}(h:Sl w 2 A (t::l).length (aY (t::l)))(b:(t::l).length<=c):
  ∃a,(∀W,(Instr.slice 151 (.slice A (l.length+1) c) (some (I6 1)) none none).run prog W=.ok (.slice a l.length (c - 1)) W)/\Sl w 2 a l.length (aY l)/\l.length<=c - 1:=by
 obtain⟨g,hi,i,f,j⟩:=info_parts kg;obtain⟨a,e,s,_⟩:=l8 (P:=prog) 151 230 g underlying151 hi 2 f .i64 A (t::l).length c 1 1 rfl (by simp) b;refine⟨a,fun W=>e W,?_,by simp at b;omega⟩;have:=s w _ h;rw[<-lx]at this;exact this
theorem gS{w:World}{A}{t:dA}{l:List dA}(h:Sl w 2 A (t::l).length (aY (t::l))):
  ∃g o,A=some ⟨g,o,none⟩/\g < w.heap.size/\Ce w g o (.string (kf t.nm))/\Ce w g (o+1) (I6 t.n):=by
 obtain⟨g,o,e,b,a,c1⟩:=fp (l:=t::l) (k:=0) h rfl;simp only[yG,wD]at a c1;exact⟨g,o,e,b,a,c1⟩
set_option maxRecDepth 20000 in
theorem Bk(A B:Option Addr)(c d:Nat)(a b:List dA)(w:World)(Z:Sl w 2 A a.length (aY a))(hs:Sl w 2 B b.length (aY b))(hc:a.length<=c)(hd:b.length<=d)(hn:a.length<=200)(hm:b.length<=200):
  Cs 175 #[.slice A a.length c,.slice B b.length d] w (EP w (xu a b)):=by
 obtain⟨M,hi,hf,hh,hj⟩:=info_parts kg;have H0:=aH (show Mg w a b a b [] A B c d (aS) w from⟨Z,hs,hc,hd,by simp,by simp;omega,mq.nil (bR _)⟩);apply cI;go_in;go_wp2_with fail;go_step3;go_wp2_with fail;go_step3;go_wp2_with fail;go_loopw[0,1,5] (fun va vb v wr=>∃(i lb h:List dA) (Aa Ab:Option Addr) (ca J q nb:Nat),va=.slice Aa q ca/\vb=.slice Ab nb J/\q=i.length/\nb=lb.length/\Mg w a b i lb h Aa Ab ca J v wr) (fun va vb _ _=>(match va with| .slice _ n _=>n|_=>0)+(match vb with| .slice _ n _=>n|_=>0))
 case atStart=>exact⟨a,b,[],A,B,c,d,_,_,rfl,rfl,rfl,rfl,H0⟩
 case round=>
  obtain⟨i,lb,h,Aa,Ab,ca,J,q,nb,rfl,rfl,u,x,G⟩:=hrel;have f:=aH G;have ha:=G.len;have hb:h.length<=400:=by omega
  cases i with
  |nil=>
   cases lb with
   |nil=>
    have N:Hid (xu a b=h.take 100):=aH (by unfold xu;rw[f.eq,o4,qU]);obtain⟨O,cp,rfl,hk,R⟩:=f.acc.slice;obtain rfl:q=0:=u;obtain rfl:nb=0:=x;by_cases h100:h.length<=100
    ·have hcut:=eo (P:=prog) 151 230 M underlying151 hi .i64 O h.length cp h.length R;have L:min (h.length:Int) 100=(h.length:Int):=by omega
     have hl:decide ((h.length:Int)<=100)=true:=by simp;omega
     go_wp2_with fail;rw[qJ];go_ret;exact⟨_,rfl,by rw[N,qP h100];exact f.acc⟩
    ·have hcut:=eo (P:=prog) 151 230 M underlying151 hi .i64 O h.length cp 100 (by omega);have L:min (h.length:Int) 100=100:=by omega
     rw[show((100:Nat):Int)=100 from rfl]at hcut;go_wp2_with fail;rw[qJ];go_ret;exact⟨_,rfl,by rw[N];exact f.acc.take (by omega)⟩
   |cons t lb=>
    obtain⟨S,hcut,C,D⟩:=Dn f.sb f.kb;obtain⟨g,o,rfl,T,U,c1⟩:=gS (f.sb.below f.acc.2);obtain⟨y,z⟩:=gB C D;obtain rfl:q=0:=u;obtain rfl:nb=lb.length+1:=x;have z1:((lb.length:Int)+1==0)=false:=by simp;omega
    go_wp2_with fail;go_quiet (fail);go_wp2_with fail;go_quiet (fail);go_wp2_with (at_builtin;refine gR rfl (.tmp 56) (.tmp 60) rfl (f.acc.drewN _) t rfl rfl (by omega) ?_);intro v' w' k;have m:=aH (f.step f.sa y f.ka z (lz t lb) (by simp<;>omega) k);go_wp2_with fail;go_roundw
    case rel=>exact⟨[],lb,h++[t],_,_,_,_,_,_,rfl,rfl,rfl,rfl,m⟩
    case measure=>simp
  |cons s i=>
   cases lb with
   |nil=>
    obtain⟨S,hcut,C,D⟩:=Dn f.sa f.ka;obtain⟨g,o,rfl,T,U,c1⟩:=gS (f.sa.below f.acc.2);obtain⟨y,z⟩:=gB C D;obtain rfl:q=i.length+1:=u;obtain rfl:nb=0:=x;go_wp2_with fail;go_quiet (fail);go_wp2_with (at_builtin;refine gR rfl (.tmp 34) (.tmp 38) rfl (f.acc.drewN _) s rfl rfl (by omega) ?_);intro v' w' k;have m:=aH (f.step y f.sb z f.kb (mt s i) (by simp<;>omega) k);go_wp2_with fail;go_roundw
    case rel=>exact⟨i,[],h++[s],_,_,_,_,_,_,rfl,rfl,rfl,rfl,m⟩
    case measure=>simp
   |cons t lb=>
    obtain⟨S,hcut,C,D⟩:=Dn f.sa f.ka;obtain⟨B2,Y,V,X⟩:=Dn f.sb f.kb;obtain⟨g,o,rfl,T,U,c1⟩:=gS (f.sa.below f.acc.2);obtain⟨g',o',rfl,ho,e0,e1⟩:=gS (f.sb.below f.acc.2);obtain⟨y,z,H,I⟩:=gD C D V X;have F:=tI s.nm t.nm;obtain rfl:q=i.length+1:=u;obtain rfl:nb=lb.length+1:=x;have z1:((lb.length:Int)+1==0)=false:=by simp;omega
    have z2:((i.length:Int)+1==0)=false:=by simp;omega
    have z3:decide ((0:Int) < (i.length:Int)+1)=true:=by simp<;>omega
    cases hlt:lt s.nm t.nm
    ·have j:=jr s t i lb;rw[hlt]at j F;cases he:(s.nm==t.nm)
     ·rw[he]at j;have p:=aH j;go_wp2_with fail;go_quiet (exact Calls.quiet_of_same ((iC s.nm t.nm _).mono (by rintro e w' ⟨rfl,rfl⟩;exact⟨rfl,rfl⟩)));go_wp2_with fail;go_quiet (fail);go_wp2_with (at_builtin;refine gR rfl (.tmp 56) (.tmp 60) rfl (f.acc.drewN _) t rfl rfl (by omega) ?_);intro v' w' k;have m:=aH (f.step f.sa H f.ka I p (by simp<;>omega) k);go_wp2_with fail;go_roundw
      case rel=>exact⟨s::i,lb,h++[t],_,_,_,_,_,_,rfl,rfl,rfl,rfl,m⟩
      case measure=>simp
     ·rw[he]at j;have p:=aH j;have hp:(if s.n < t.n then t.n else s.n)=max s.n t.n:=by split<;>omega
      go_wp2_with fail;go_quiet (exact Calls.quiet_of_same ((iC s.nm t.nm _).mono (by rintro e w' ⟨rfl,rfl⟩;exact⟨rfl,rfl⟩)));go_wp2_with fail;go_quiet (fail);go_wp2_with fail;go_region_law (refine Bj rfl (.tmp 64) (.tmp 79) rfl (by first|exact f.acc.drewN _|exact(f.acc.drewN _).drewN _|exact((f.acc.drewN _).drewN _).drewN _) s.nm (max s.n t.n) (by rfl) (by rfl) (by omega) ?_;intro v' w' k);all_goals
       have m:=aH (f.step y H z I p (by simp<;>omega) k);go_wp2_with fail;go_quiet (fail);go_wp2_with fail;go_roundw
       case rel=>exact⟨i,lb,h++[⟨s.nm,max s.n t.n⟩],_,_,_,_,_,_,rfl,rfl,rfl,rfl,m.drewN _⟩
       case measure=>simp<;>omega
    ·have j:=jr s t i lb;rw[hlt]at j F;have p:=aH j;go_wp2_with fail;go_quiet (exact Calls.quiet_of_same ((iC s.nm t.nm _).mono (by rintro e w' ⟨rfl,rfl⟩;exact⟨rfl,rfl⟩)));go_wp2_with (at_builtin;refine gR rfl (.tmp 34) (.tmp 38) rfl (f.acc.drewN _) s rfl rfl (by omega) ?_);intro v' w' k;have m:=aH (f.step y f.sb z f.kb p (by simp<;>omega) k);go_wp2_with fail;go_roundw
     case rel=>exact⟨i,t::lb,h++[s],_,_,_,_,_,_,rfl,rfl,rfl,rfl,m⟩
     case measure=>simp
end Nm
section
open Go.MapKept Go.ChangeMaps
abbrev IM:=List (Int×Value)
def bE(m:IM)(k:Int):Option Value:=(m.find? fun p=>p.1==k).map Prod.snd
def dI(m:IM)(k:Int)(v:Value):IM:=if m.any (fun p=>p.1==k)then m.map fun p=>if p.1==k then(p.1,v)else p else m++[(k,v)]
def eg(m:IM)(k:Int):IM:=m.filter fun p=>!(p.1==k)
def gk(p:Int×Value):Value×Value:=(I6 p.1,p.2)
def b4(w:World)(b:Nat)(m:IM):Prop:=∃es clock,w.heap[b]?=some (.map es clock)/\Stamped es clock/\es.toList.map (fun e=>(e.key,e.val))=m.map gk
theorem b4.lt{m}(h:b4 w b m):b < w.heap.size:=by obtain⟨a,c,h,_⟩:=h;exact ap h
theorem b4.kept{m}(h:b4 w b m)(a:w'.heap[b]?=w.heap[b]?):b4 w' b m:=by obtain⟨f,c,g,i⟩:=h;exact⟨f,c,a.trans g,i⟩
theorem b4.below{m}(h:b4 w b m)(a:Below w.heap.size w w'):b4 w' b m:=h.kept (a.block b h.lt)
theorem b4.only{w w'}{m}(h:b4 w b m)(c:aW g w w')(a:b≠g):b4 w' b m:=h.kept (c.block b h.lt (by simpa using a))
theorem b4.new(w:World):b4 (w.alloc (.map #[] 0)) w.heap.size []:=⟨#[],0,(MapKept.heap_alloc w _).1,stamped_empty 0,rfl⟩
theorem b4.drew{m}(h:b4 w b m):b4 w.drew b m:=h
theorem b4.cr{m}(h:b4 w b m){cs}{f}(a:w.heap[b]?=some (.cells cs t f)):False:=by
 obtain⟨i,c,g,_⟩:=h;rw[g]at a;cases a
theorem b4.ne{w}{m}(h:b4 w b m){cs}(a:am w g t cs):b≠g:=fun e=>by subst e;exact h.cr a
theorem b4.nodup{w}{m:IM}(h:b4 w b m):(m.map Prod.fst).Nodup:=by
 obtain⟨a,c,k,g,i⟩:=h;have j:=((stamped_iff a c).1 g).2.2;have f:(a.toList.map (fun e=>(e.key,e.val))).Pairwise (fun x y=>x.1≠y.1):=jE.2 j;rw[i,jE]at f;exact jE.2 (f.imp fun hne e=>hne (by unfold gk;rw[e]))
theorem kV(k:Int):∀(l:List MapEntry) (m:IM) (i:Nat),l.map (fun e=>(e.key,e.val))=m.map gk->
  (Instr.findNow (.int .i64) (I6 k) l i=some none/\bE m k=none/\∀p∈m,p.1≠k)\/
  ∃j v,Instr.findNow (.int .i64) (I6 k) l i=some (some (i+j,v))/\bE m k=some v/\m[j]?=some (k,v)/\∀i < j,∀p,m[i]?=some p->p.1≠k:=by
 intro l;induction l with
 |nil=>
  intro m i h;have:m=[]:=by cases m with|nil=>rfl|cons a m=>simp at h
  subst this;exact .inl ⟨rfl,rfl,by simp⟩
 |cons e l ih=>
  intro m i h;cases m with
  |nil=>simp at h
  |cons p m=>
   simp only[jF,List.cons.injEq]at h;obtain⟨f,s⟩:=h;unfold gk at f;injection f with hk hv;by_cases hp:p.1=k
   ·refine .inr ⟨0,p.2,?_,?_,?_,by intro i hi;omega⟩
    ·unfold Instr.findNow;rw[hk];simp[Instr.sameNow,hp,hv]
    ·simp[bE,hp]
    ·simp[<-hp]
   ·have g:Instr.sameNow (.int .i64) (I6 k) e.key=some false:=by rw[hk];simp[Instr.sameNow];exact fun e=>hp e.symm
    have n:bE (p::m) k=bE m k:=by simp[bE,hp]
    rcases ih m (i+1) s with⟨a1,a2,a3⟩|⟨j,v,a1,a2,a3,a4⟩
    ·exact .inl ⟨by unfold Instr.findNow;rw[g];exact a1,by rw[n];exact a2,by intro q b;rcases jV.1 b with rfl|b;exact hp;exact a3 q b⟩
    ·refine .inr ⟨j+1,v,by unfold Instr.findNow;rw[g];simp only[];rw[a1];congr 3;omega,by rw[n];exact a2,by simpa using a3,?_⟩;intro c t q b;cases c with
     |zero=>simp at b;subst b;exact hp
     |succ c=>exact a4 c (by omega) q (by simpa using b)
end
section
open Go.MapKept Go.ChangeMaps
variable{m:IM}{kt et:TypeId}
theorem b4.lookup(h:b4 w b m)(f:P.underlying t=some (.map kt et))(a:P.underlying kt=some (.int .i64)){z}(g:(zeroValue et).run P w=.ok z w)(k:Int):
  (Instr.lookup t (.map (some b)) (I6 k) true).run P w=.ok (.tuple #[(bE m k).getD z,.bool (bE m k).isSome]) w/\(Instr.lookup t (.map (some b)) (I6 k) false).run P w=.ok ((bE m k).getD z) w:=by
 obtain⟨n,c,i,q,p⟩:=h;rcases kV k n.toList m 0 p with⟨a1,a2,_⟩|⟨j,v,a1,a2,_⟩
 ·constructor<;>simp[Instr.lookup,run_underlying f,jN i,yD a (show IsKey (.int .i64) (I6 k)from rfl),yJ a a1,g,a2,Result.andThen]
 ·constructor<;>simp[Instr.lookup,run_underlying f,jN i,yD a (show IsKey (.int .i64) (I6 k)from rfl),yJ a a1,g,a2,Result.andThen]
theorem kW(h:l.Nodup)(hi:i < l.length)(a:j < l.length)(e:l[i]=l[j]):i=j:=by
 have b:=List.pairwise_iff_getElem.1 h;rcases Nat.lt_trichotomy i j with h1|h1|h1
 ·exact absurd e (b i j hi a h1)
 ·exact h1
 ·exact absurd e.symm (b j i a hi h1)
theorem tJ{m:IM}{k:Int}{v v0}(f:(m.map Prod.fst).Nodup)(a:m[j]?=some (k,v0)):dI m k v=m.modify j fun p=>(p.1,v):=by
 have b:m.any (fun p=>p.1==k)=true:=yM.2 ⟨(k,v0),qC a,by simp⟩;unfold dI;rw[if_pos b];apply yZ;intro i;rw[qS,List.getElem?_modify];cases hi:m[i]? with
 |none=>simp
 |some p=>
  by_cases hij:j=i
  ·subst hij;rw[a]at hi;injection hi with hi;subst hi;simp
  ·have c:p.1≠k:=fun e=>hij (by
    have g:(m.map Prod.fst)[i]?=some k:=by rw[qS,hi];simp[e]
    have h:(m.map Prod.fst)[j]?=some k:=by rw[qS,a];rfl
    obtain⟨n,q⟩:=zE.1 g;obtain⟨s,t⟩:=zE.1 h;exact kW f s n (t.trans q.symm))
   simp[c,hij]
theorem b4.update(h:b4 w b m)(C:P.underlying t=some (.map kt et))(q:P.underlying kt=some (.int .i64))(k:Int) v:
  ∃w',(Instr.mapUpdate t (.map (some b)) (I6 k) v).run P w=.ok () w'/\b4 w' b (dI m k v)/\aW b w w':=by
 have F:=h.nodup;obtain⟨es,c,f,D,n⟩:=h;have g:IsKey (.int .i64) (I6 k):=rfl;rcases kV k es.toList m 0 n with⟨a1,a2,a3⟩|⟨j,G,a1,a2,a3,_⟩
 ·refine⟨setBlock w b (.map (es.push {key:=I6 k,val:=v,born:=c}) (c+1)),?_,⟨_,_,(heap_set f).1,stamped_push D ?_,?_⟩,⟨rfl,rfl,rfl,by simp[setBlock],fun r _ hr=>(heap_set f).2 r (by simpa using hr)⟩⟩
  ·simp[Instr.mapUpdate,run_underlying C,jN f,yD q g,yJ q a1,yR _ f,Result.andThen];rfl
  ·intro x H e;have:(x.key,x.val)∈es.toList.map (fun e=>(e.key,e.val)):=zV.2 ⟨x,H,rfl⟩;rw[n]at this;obtain⟨p,z,s⟩:=zV.1 this;unfold gk at s;injection s with q1 _;rw[e]at q1;injection q1 with _ q1;exact a3 p z q1
  ·have A:m.any (fun p=>p.1==k)=false:=by
    rw[List.any_eq_false];intro p z;simp;exact a3 p z
   unfold dI;rw[A];simp[n,gk]
 ·have a:j < es.size:=by
   have:=congrArg List.length n;simp at this;have:=(zE.1 a3).1;omega
  have u:es[j].key=I6 k:=by
   have B:(es.toList.map (fun e=>(e.key,e.val)))[j]?=some (I6 k,G):=by rw[n,qS,a3];rfl
   rw[qS]at B;simp[a]at B;exact B.1
  refine⟨setBlock w b (.map (es.modify j fun e=>{e with key:=I6 k,val:=v}) c),?_,⟨_,_,(heap_set f).1,stamped_modify D j (fun e=>{e with key:=I6 k,val:=v}) (fun _ _=>rfl) ?_,?_⟩,⟨rfl,rfl,rfl,by simp[setBlock],fun r _ hr=>(heap_set f).2 r (by simpa using hr)⟩⟩
  ·simp only[zR]at a1;simp[Instr.mapUpdate,run_underlying C,jN f,yD q g,yJ q a1,a,u,run_keyThatStays g,yR _ f,Result.andThen];rfl
  ·intro e _ y;simp[a]at y;subst y;exact u.symm
  ·rw[tJ F a3];apply yZ;intro i;have hi:=congrArg (fun l=>l[i]?) n;simp only[qS,Array.getElem?_toList]at hi;rw[qS,qS,List.getElem?_modify,Array.getElem?_toList,yL];by_cases hij:j=i
   ·subst hij;simp only[if_true];rw[a3]at hi ⊢;simp[a,gk]
   ·simp only[hij,if_false];simpa using hi
theorem b4.delete(h:b4 w b m)(z:P.underlying t=some (.map kt et))(s:P.underlying kt=some (.int .i64))(k:Int)(ty:TypeId):
  ∃w',(Builtin.delete_ #[t,kt] ty #[.map (some b),I6 k]).run P w=.ok (.tuple #[]) w'/\b4 w' b (eg m k)/\aW b w w':=by
 have u:=h.nodup;obtain⟨es,c,a,x,f⟩:=h;have g:IsKey (.int .i64) (I6 k):=rfl;rcases kV k es.toList m 0 f with⟨a1,a2,a3⟩|⟨j,A,a1,a2,a3,a4⟩
 ·refine⟨setBlock w b (.map es c),?_,⟨_,_,(heap_set a).1,x,?_⟩,⟨rfl,rfl,rfl,by simp[setBlock],fun r _ hr=>(heap_set a).2 r (by simpa using hr)⟩⟩
  ·simp[Builtin.delete_,run_underlying z,jN a,yD s g,yJ s a1,yR _ a,Result.andThen];rfl
  ·have:eg m k=m:=List.filter_eq_self.2 fun p y=>by simp;exact a3 p y
   rw[this];exact f
 ·refine⟨setBlock w b (.map (es.eraseIdxIfInBounds j) c),?_,⟨_,_,(heap_set a).1,stamped_erase x j,?_⟩,⟨rfl,rfl,rfl,by simp[setBlock],fun r _ hr=>(heap_set a).2 r (by simpa using hr)⟩⟩
  ·simp only[zR]at a1;simp[Builtin.delete_,run_underlying z,jN a,yD s g,yJ s a1,yR _ a,Result.andThen];rfl
  ·have n:j < es.size:=by
    have:=congrArg List.length f;simp at this;have:=(zE.1 a3).1;omega
   have hd:eg m k=m.eraseIdx j:=by
    clear f a x a1 a2 n;induction m generalizing j with
    |nil=>simp at a3
    |cons p m ih=>
     cases j with
     |zero=>
      simp at a3;subst a3;have:eg m k=m:=List.filter_eq_self.2 fun q hq=>by
       simp only[jF,List.nodup_cons]at u;simp;exact fun e=>u.1 (zV.2 ⟨q,hq,e⟩)
      unfold eg at this ⊢;simp[this]
     |succ j=>
      have y:=a4 0 (by omega) p rfl;simp only[jF,List.nodup_cons]at u;have:=ih u.2 j (by simpa using a3) (fun i hi q hq=>a4 (i+1) (by omega) q (by simpa using hq));unfold eg at this ⊢;simp[y,this]
   rw[hd];simp only[Array.eraseIdxIfInBounds,n,dif_pos,Array.toList_eraseIdx];rw[ChangeMaps.map_eraseIdx,ChangeMaps.map_eraseIdx,f]
theorem b4.clear(h:b4 w b m)(f:P.underlying t=some (.map kt et))(ty:TypeId):
  ∃w',(Builtin.clear_ #[t] ty #[.map (some b)]).run P w=.ok (.tuple #[]) w'/\b4 w' b []/\aW b w w':=by
 obtain⟨g,c,a,i,j⟩:=h;refine⟨setBlock w b (.map #[] c),?_,⟨#[],c,(heap_set a).1,stamped_empty c,rfl⟩,⟨rfl,rfl,rfl,by simp[setBlock],fun r _ hr=>(heap_set a).2 r (by simpa using hr)⟩⟩;simp[Builtin.clear_,run_underlying f,jN a,yR _ a,Result.andThen];rfl
theorem b4.len(h:b4 w b m)(a:P.underlying t=some (.map kt et))(ty:TypeId):(Builtin.len_ #[t] ty #[.map (some b)]).run P w=.ok (I6 m.length) w:=by
 obtain⟨i,c,f,j,g⟩:=h;have:=congrArg List.length g;simp at this;simp[Builtin.len_,run_underlying a,jN f,Result.andThen,this,goInt]
end
section
open Go.MapKept Go.ChangeMaps
theorem dw{m}{k:Int}{v}(h:bE m k=some v):(k,v)∈m:=by
 unfold bE at h;obtain⟨p,a,rfl⟩:=yS.1 h;have b:=List.mem_of_find?_eq_some a;have c:=List.find?_some a;have:p.1=k:=by simpa using c
 rw[<-this];exact b
theorem c7{m}{k:Int}{v}(h:p∈dI m k v):p=(k,v)\/(p∈m/\p.1≠k):=by
 unfold dI at h;split at h
 ·obtain⟨q,a,rfl⟩:=zV.1 h;by_cases hk:q.1=k
  ·simp[hk]
  ·simp[hk,a]
 ·rename_i hn;rcases zK.1 h with h|h
  ·by_cases hk:p.1=k
   ·exact absurd (yM.2 ⟨p,h,by simpa using hk⟩) hn
   ·exact .inr ⟨h,hk⟩
  ·simp at h;exact .inl h
theorem o5{m}{k:Int}(h:p∈eg m k):p∈m/\p.1≠k:=by
 unfold eg at h;have:=qV.1 h;simpa using this
theorem kX(m:IM)(k:Int) v:(dI m k v).length<=m.length+1:=by unfold dI;split<;>simp
theorem o7(m:IM)(k:Int):(eg m k).length<=m.length:=qO _ _
theorem eu m(k:Int) v(k':Int):bE (dI m k v) k'=if k'=k then some v else bE m k':=by
 unfold dI bE;split
 ·rename_i hany;induction m with
  |nil=>simp at hany
  |cons p m ih=>
   by_cases a:p.1=k
   ·by_cases hk:k'=k
    ·simp[a,hk]
    ·have:¬k=k':=fun e=>hk e.symm;simp only[jF,a,beq_self_eq_true,if_true,List.find?_cons,this,beq_iff_eq,hk,if_false];simp only[show(k==k')=false by simpa using this];by_cases b:m.any (fun p=>p.1==k)=true
     ·have:=ih b;simp only[hk,if_false]at this;simpa using this
     ·have:(m.map fun p=>if p.1==k then(p.1,v)else p)=m:=by
       rw[List.map_congr_left (g:=id)];simp;intro q c;have:¬q.1=k:=fun e=>b (yM.2 ⟨q,c,by simpa using e⟩);simp[this]
      simp only[beq_iff_eq]at this;rw[this]
   ·have b:m.any (fun p=>p.1==k)=true:=by simpa[a]using hany
    have:=ih b;simp only[jF,show(p.1==k)=false by simpa using a,jG,if_false,List.find?_cons];by_cases hpk:p.1=k'
    ·have:¬k'=k:=fun e=>a (hpk.trans e);simp[hpk,this]
    ·simp only[show(p.1==k')=false by simpa using hpk];exact this
 ·rename_i hany;rw[List.find?_append];by_cases hk:k'=k
  ·subst hk;have:m.find? (fun p=>p.1==k')=none:=by
    rw[List.find?_eq_none];intro p a f;exact hany (yM.2 ⟨p,a,f⟩)
   simp[this]
  ·have:¬k=k':=fun e=>hk e.symm;simp[hk,this]
theorem lA m(k k':Int):bE (eg m k) k'=if k'=k then none else bE m k':=by
 unfold eg bE;induction m with
 |nil=>simp
 |cons p m ih=>
  by_cases hp:p.1=k
  ·by_cases hk:k'=k
   ·subst hk;simp only[List.filter_cons,hp,beq_self_eq_true,Bool.not_true,jG,if_false];simpa using ih
   ·have:¬k=k':=fun e=>hk e.symm;simp only[List.filter_cons,hp,beq_self_eq_true,Bool.not_true,jG,if_false,List.find?_cons,show(k==k')=false by simpa using this];simpa using ih
  ·simp only[List.filter_cons,show(p.1==k)=false by simpa using hp,Bool.not_false,if_true,List.find?_cons];by_cases hpk:p.1=k'
   ·have:¬k'=k:=fun e=>hp (hpk.trans e);simp[hpk,this]
   ·simp only[show(p.1==k')=false by simpa using hpk];exact ih
end
structure El(α:Type) where
 ty:TypeId
 sl:TypeId
 s:Nat
 bytes:Nat
 z:Value
 f:α->List Value
 und:prog.underlying sl=some (.slice ty)
 info:(prog.info? ty).map (fun i=>(i.zero,i.size,i.bytes))=some (some z,s,bytes)
 zs:z.cells.size=s
 pos:0 < s
 len:∀a,(f a).length=s
 one:∀a,∀u∈f a,u.oneCell'=true
section
variable(E:El α)
def El.cells(l:List α):List Value:=l.flatMap E.f
theorem El.ae(l:List α):(E.cells l).length=l.length*E.s:=by
 induction l with
 |nil=>simp[El.cells]
 |cons a l ih=>unfold El.cells at*;rw[zX,zC,ih,E.len,zQ,Nat.succ_mul,Nat.add_comm]
theorem El.cells_one(l:List α):∀u∈E.cells l,u.oneCell'=true:=by
 intro u a;obtain⟨t,_,h⟩:=List.mem_flatMap.1 a;exact E.one t u h
theorem El.al(l m:List α):E.cells (l++m)=E.cells l++E.cells m:=by unfold El.cells;rw[List.flatMap_append]
theorem El.aw(a:α):E.cells [a]=E.f a:=by simp[El.cells]
theorem El.c'(l:List α)(k:Nat)(a:α)(h:l[k]?=some a)(j:Nat)(c:j < E.s):(E.cells l)[k*E.s+j]?=(E.f a)[j]?:=by
 induction l generalizing k with
 |nil=>simp at h
 |cons b l ih=>
  cases k with
  |zero=>
   simp at h;subst h;unfold El.cells;rw[zX,qQ (by rw[E.len];omega)];simp
  |succ k=>
   have:=ih k (by simpa using h);unfold El.cells at*;rw[zX,jA (by rw[E.len,Nat.succ_mul];omega),E.len,show(k+1)*E.s+j - E.s=k*E.s+j by rw[Nat.succ_mul];omega];exact this
def Rw(w:World)(v:Value)(l:List α):Prop:=∃A c,v=.slice A l.length c/\l.length<=c/\fM w E.ty E.s A l.length (E.cells l)
def aK(base:Nat)(w:World)(v:Value)(l:List α):Prop:=w.ownsRow base E.ty E.s v l.length (E.cells l)
end
section
variable(E:El α)
variable{E}
theorem aK.nil(base:Nat) w:aK E base w (aS) []:=World.ownsRow_nil _ _ _ _
theorem aK.rw{w}{v}(h:aK E base w v l):Rw E w v l:=by
 obtain⟨A,c,rfl,a⟩:=bV h;exact⟨A,c,rfl,a,fM.aa h⟩
theorem aK.grown{v}{row}(h:aK E base w v l)(b:w.grownBy w' row)(c:∀k,row=some k->k < base):aK E base w' v l:=by
 rcases h with⟨f,a⟩;refine⟨f,?_⟩;rcases a with a|⟨g,cap,cur,rfl,hb,hl,hnc,hr2⟩
 ·exact .inl a
 ·exact .inr ⟨g,cap,cur,rfl,hb,(b.block g (ap hl) (fun e=>by have:=c g e.symm;omega)).trans hl,hnc,hr2⟩
theorem aK.lt(h:aK E base w v l):∀k,v.ownBlock=some k->base<=k/\k < w.heap.size:=by
 intro k a;rcases h.2 with⟨rfl,_⟩|⟨g,cap,f,rfl,b,c,_⟩
 ·simp[Value.ownBlock]at a
 ·simp[Value.ownBlock]at a;subst a;exact⟨b,ap c⟩
theorem aK.mono{base':Nat}{w}{v}(h:aK E base w v l)(b:base'<=base):aK E base' w v l:=by
 rcases h with⟨c,a⟩;refine⟨c,?_⟩;rcases a with a|⟨g,cap,cur,rfl,hg,hr⟩
 ·exact .inl a
 ·exact .inr ⟨g,cap,cur,rfl,zD b hg,hr⟩
theorem Rw.below{v}(h:Rw E w v l)(a:Below w.heap.size w w'):Rw E w' v l:=by
 obtain⟨A,c,rfl,b,f⟩:=h;exact⟨A,c,rfl,b,f.below a⟩
theorem Rw.only{w w'}{v}(h:Rw E w v l)(b:aW g w w'){cs}(f:am w g t cs)(a:E.ty≠t):Rw E w' v l:=by
 obtain⟨A,c,rfl,i,j⟩:=h;exact⟨A,c,rfl,i,j.only b f a⟩
theorem Rw.at_{A}(h:Rw E w (.slice A n c) l){a:α}(f:l[k]?=some a):
  ∃g o,A=some ⟨g,o,none⟩/\∀j u,(E.f a)[j]?=some u->Ce w g (o+k*E.s+j) u:=by
 obtain⟨q,s,b,_,i⟩:=h;injection b with b h2 h3;subst b;have t:=(zE.1 f).1;obtain⟨g,o,rfl,_,m⟩:=i.sl.2 (by omega);refine⟨g,o,rfl,fun j u hu=>?_⟩;have p:j < E.s:=by have:=(zE.1 hu).1;rw[E.len]at this;exact this
 rw[Nat.add_assoc];exact m (k*E.s+j) u (by rw[E.c' l k a f j p];exact hu)
theorem b5(E:El α)(f:o.guard=none)(b x:Operand)
  (q:o.op=.call {callee:=.builtin .append,args:=#[b,x],argTypes:=#[E.sl,E.sl]})
      (h:aK E base wr v l) (G:base<=wr.heap.size) (t:α) (s:a.eval b=v) (y:a.eval x=.slice (some ⟨wr.heap.size,0,none⟩) 1 1)
  (z:(l.length+1)*E.bytes<=140737488355328) (F:l.length < 1000000000000000000)
  (K:∀v' w',aK E base w' v' (l++[t])->wr.grownBy w' v.ownBlock->wpList prog ops Q rest (a.put o.dst v') w'):wpList prog ops Q (o::rest) a (wr.alloc (.cells (E.f t).toArray E.ty)):=by
 obtain⟨A,hi,g,i,m⟩:=info_parts E.info;have n:=qN wr (.cells (E.f t).toArray E.ty) v.ownBlock;have p:Sl (wr.alloc (.cells (E.f t).toArray E.ty)) E.s (some ⟨wr.heap.size,0,none⟩) 1 (E.f t):=by
  refine⟨by rw[E.len];omega,fun _=>⟨_,_,rfl,by simp,fun j u hu=>?_⟩⟩;rw[(am.new wr _ _).cell];simpa using hu
 have c:(wr.alloc (.cells (E.f t).toArray E.ty)).ownsRow base E.ty E.s v l.length (E.cells l):=aK.grown h (qN wr _ none) (fun k e=>by cases e);obtain⟨v',w',B,C,D,_⟩:=eB (P:=prog) (wr.alloc (.cells (E.f t).toArray E.ty)) base E.sl o.type E.ty A E.z E.s E.bytes E.und hi g i m E.zs E.pos v l.length (E.cells l) c
  (some ⟨wr.heap.size,0,none⟩) 1 1 (E.f t) p (E.one t) (by unfold maxLen;omega) z (by simp;omega)
 refine jZ _ f b x E.sl E.sl q _ _ s y _ _ B (K v' w' ?_ ?_)
 ·unfold aK;rw[E.al,E.aw,zC];exact C
 ·exact n.andThen D (fun j e=>.inr e)
end
theorem dx{row}(h:aW g w wr)(a:wr.grownBy w' row)(b:∀k,row=some k->w.heap.size<=k):aW g w w':=h.andThen a (fun j e=>.inl (b j e))
abbrev Ow:=Nat->Nat×Nat
def aX(o:Ow)(w:World):Prop:=∀b,w.heap.size<=b->o b=(0,0)
structure St(p:Nat×Nat->Prop)(o:Ow)(w:World)(o':Ow)(w':World):Prop where
 os:w'.os=w.os
 tape:w'.tape=w.tape
 output:w'.output=w.output
 size:w.heap.size<=w'.heap.size
 old:∀b,b < w.heap.size->o' b=o b
 far:aX o' w'
 new:∀b,w.heap.size<=b->o' b=(0,0)\/p (o' b)
 block:∀b,b < w.heap.size->¬p (o b)->w'.heap[b]?=w.heap[b]?
section
variable{p:Nat × Nat → Prop}{o o1 o2 o':Ow}
theorem St.refl(h:aX o w):St p o w o w:=⟨rfl,rfl,rfl,nR,fun _ _=>rfl,h,fun b hb=>.inl (h b hb),fun _ _ _=>rfl⟩
theorem St.trans(h:St p o w o1 w1)(k:St p o1 w1 o2 w2):St p o w o2 w2:=
 ⟨k.os.trans h.os,k.tape.trans h.tape,k.output.trans h.output,zD h.size k.size,fun b hb=>(k.old b (zT hb h.size)).trans (h.old b hb),k.far,
  fun b hb=>by
  rcases jH b w1.heap.size with h1|h1
  ·rw[k.old b h1];exact h.new b hb
  ·exact k.new b h1,
  fun b hb hp=>(k.block b (zT hb h.size) (by rw[h.old b hb];exact hp)).trans (h.block b hb hp)⟩
theorem St.mono(h:St p o w o' w')(a:∀x,p x->q x):St q o w o' w':=
 ⟨h.os,h.tape,h.output,h.size,h.old,h.far,fun b hb=>(h.new b hb).imp id (a _),fun b hb hp=>h.block b hb fun x=>hp (a _ x)⟩
theorem aX.below(hf:aX o w)(h:w.heap.size<=w'.heap.size):aX o w':=fun b hb=>hf b (zD h hb)
theorem St.J(h:Below w.heap.size w w')(hf:aX o w):St p o w o w':=
 ⟨h.os,h.tape,h.output,h.size,fun _ _=>rfl,hf.below h.size,fun b hb=>.inl (hf b hb),fun b hb _=>h.block b hb⟩
theorem St.U(h:aW g w w')(a:p (o g))(hf:aX o w):St p o w o w':=
 ⟨h.os,h.tape,h.output,h.size,fun _ _=>rfl,hf.below h.size,fun b hb=>.inl (hf b hb),fun b hb hp=>h.block b hb (by intro e;injection e with e;subst e;exact hp a)⟩
theorem St.da{row}(h:w.grownBy w' row)(a:∀g,row=some g->w.heap.size<=g\/p (o g))(hf:aX o w):St p o w o w':=
 ⟨h.os,h.tape,h.output,h.size,fun _ _=>rfl,hf.below h.size,fun b hb=>.inl (hf b hb),fun b hb hp=>h.block b hb (by intro e;rcases a b e.symm with h1|h1;omega;exact hp h1)⟩
theorem St.below(h:St p o w o1 w1)(a:Below w1.heap.size w1 w2):St p o w o1 w2:=h.trans (.J a h.far)
def b7(o:Ow)(b:Nat)(x:Nat×Nat):Ow:=fun c=>if c=b then x else o c
theorem a8 o(b:Nat) x:b7 o b x b=x:=by simp[b7]
theorem bT(h:c≠b) x:b7 o b x c=o c:=by simp[b7,h]
theorem St.tag(h:St p o w o' w'){x}(f:w.heap.size<=b)(g:b < w'.heap.size)(a:x=(0,0)\/p x):St p o w (b7 o' b x) w':=
 ⟨h.os,h.tape,h.output,h.size,fun c hc=>by rw[bT (by omega)];exact h.old c hc,fun c hc=>by rw[bT (by omega)];exact h.far c hc,
  fun c hc=>by
  by_cases e:c=b
  ·subst e;rw[a8];exact a
  ·rw[bT e];exact h.new c hc,h.block⟩
theorem St.keep(h:St p o w o' w'){x:Obj}(a:w.heap[b]?=some x)(c:¬p (o b)):w'.heap[b]?=some x/\o' b=o b:=
 ⟨(h.block b (ap a) c).trans a,h.old b (ap a)⟩
theorem am.st{cs}(h:am w g t cs)(a:St p o w o' w')(b:¬p (o g)):am w' g t cs:=(a.keep h b).1
theorem b4.st{m}(h:b4 w g m)(a:St p o w o' w')(b:¬p (o g)):b4 w' g m:=h.kept (a.block g h.lt b)
def Im(o:Ow)(v:Value):Prop:=∀a n c,v=.slice (some a) n c->0 < n->o a.block=(0,0)
def RI(E:El α)(o:Ow)(w:World)(v:Value)(l:List α):Prop:=Rw E w v l/\Im o v
end
section
variable{p:Nat × Nat → Prop}{o o1 o2 o':Ow}
variable{E:El α}
theorem RI.rw(h:RI E o w v l):Rw E w v l:=h.1
theorem RI.st(h:RI E o w v l)(k:St p o w o' w')(m:¬p (0,0)):RI E o' w' v l:=by
 obtain⟨⟨A,c,rfl,q,i⟩,hi⟩:=h;refine⟨⟨A,c,rfl,q,i.1,fun hn=>?_⟩,fun a n c' e hn=>?_⟩
 ·obtain⟨g,x,f,rfl,j,b⟩:=i.2 hn;have:=hi _ _ _ rfl hn;exact⟨g,x,f,rfl,(k.keep j (by simp only at this;rw[this];exact m)).1,b⟩
 ·injection e with e1 e2 e3;subst e1;subst e2;obtain⟨g,x,f,e,j,_⟩:=i.2 hn;injection e with e;subst e;rw[k.old _ (ap j)];exact hi _ _ _ rfl hn
theorem RI.nil o w:RI E o w (aS) []:=⟨(aK.nil 0 w).rw,fun a n c e hn=>by cases e⟩
theorem RI.aa(h:aK E base w' v l)(hf:∀b,base<=b->o b=(0,0)):RI E o w' v l:=
 ⟨h.rw,fun a n c e hn=>by subst e;exact hf _ (h.lt a.block (by simp[Value.ownBlock])).1⟩
theorem RI.below(h:RI E o w v l)(a:Below w.heap.size w w')(hf:aX o w):RI E o w' v l:=h.st (p:=fun _=>False) (.J a hf) id
end
section
variable(w:World)(c1 c2 c3 c4 c5 c6:Array Value)(t1 t2 t3 t4 t5 t6:TypeId)
theorem Gv:Below w.heap.size w (w.alloc (.cells c1 t1))/\am (w.alloc (.cells c1 t1)) w.heap.size t1 c1:=⟨ba _ _,am.new _ _ _⟩
theorem tK:Below w.heap.size w ((w.alloc (.cells c1 t1)).alloc (.cells c2 t2))/\am ((w.alloc (.cells c1 t1)).alloc (.cells c2 t2)) w.heap.size t1 c1/\am ((w.alloc (.cells c1 t1)).alloc (.cells c2 t2)) (w.heap.size+1) t2 c2:=by
 obtain⟨a,b⟩:=Gv w c1 t1;have:=am.new (w.alloc (.cells c1 t1)) t2 c2;rw[qA]at this;exact⟨a.alloc (by simp) _,b.alloc _,this⟩
theorem Do:Below w.heap.size w (((w.alloc (.cells c1 t1)).alloc (.cells c2 t2)).alloc (.cells c3 t3))/\am (((w.alloc (.cells c1 t1)).alloc (.cells c2 t2)).alloc (.cells c3 t3)) w.heap.size t1 c1/\
  am (((w.alloc (.cells c1 t1)).alloc (.cells c2 t2)).alloc (.cells c3 t3)) (w.heap.size+1) t2 c2/\am (((w.alloc (.cells c1 t1)).alloc (.cells c2 t2)).alloc (.cells c3 t3)) (w.heap.size+1+1) t3 c3:=by
 obtain⟨a,b,c⟩:=tK w c1 c2 t1 t2;have:=am.new ((w.alloc (.cells c1 t1)).alloc (.cells c2 t2)) t3 c3;rw[qA,qA]at this;exact⟨a.alloc (by simp;omega) _,b.alloc _,c.alloc _,this⟩
end
namespace Hd
section
variable {α : Type} (f : α → List Value) (s : Nat) (hf : ∀ a, (f a).length = s)
include hf
theorem yh(l:List α):(l.flatMap f).length=l.length*s:=by
 induction l with
 |nil=>simp
 |cons a l ih=>rw[zX,zC,ih,hf,zQ,Nat.succ_mul,Nat.add_comm]
theorem xv(l:List α)(k:Nat):(l.drop k).flatMap f=(l.flatMap f).drop (k*s):=by
 induction l generalizing k with
 |nil=>simp
 |cons a l ih=>
  cases k with
  |zero=>simp
  |succ k=>
   rw[zG,ih,zX,List.drop_append,hf];have b:(k+1)*s - s=k*s:=by rw[Nat.succ_mul];omega
   have c:List.drop ((k+1)*s) (f a)=[]:=qH (by rw[hf,Nat.succ_mul];omega);rw[b,c,qY]
theorem Dp(l:List α)(k:Nat):(l.take k).flatMap f=(l.flatMap f).take (k*s):=by
 induction l generalizing k with
 |nil=>simp
 |cons a l ih=>
  cases k with
  |zero=>simp
  |succ k=>
   rw[zF,zX,ih,zX,List.take_append,hf];have b:(k+1)*s - s=k*s:=by rw[Nat.succ_mul];omega
   have c:List.take ((k+1)*s) (f a)=f a:=qP (by rw[hf,Nat.succ_mul];omega);rw[b,c]
theorem xw(l:List α)(k:Nat)(a:α)(h:l[k]?=some a)(j:Nat)(c:j < s):(l.flatMap f)[k*s+j]?=(f a)[j]?:=by
 have b:=(zE.1 h).1;have hd:l.drop k=a::l.drop (k+1):=by
  rw[wA b];congr 1;rw[zA b]at h;injection h
 rw[<-List.getElem?_drop,<-xv f s hf,hd,zX,qQ (by rw[hf];exact c)]
end
structure bC where
 nd:Int
 n:Int
deriving DecidableEq
structure be where
 d:bC
 rc:Int
 un:Int
deriving DecidableEq
def bI(h:be):List Value:=[I6 h.d.nd,I6 h.d.n,I6 h.rc,I6 h.un]
def a6(l:List be):List Value:=l.flatMap bI
theorem fi(h:be):(bI h).length=4:=rfl
theorem eW(l:List be):(a6 l).length=l.length*4:=yh bI 4 fi l
theorem rH(l:List be)(k:Nat):a6 (l.drop k)=(a6 l).drop (k*4):=xv bI 4 fi l k
theorem lB(l:List be)(k:Nat):a6 (l.take k)=(a6 l).take (k*4):=Dp bI 4 fi l k
theorem jm(l m:List be):a6 (l++m)=a6 l++a6 m:=by unfold a6;rw[List.flatMap_append]
theorem gT(l:List be):∀u∈a6 l,u.oneCell'=true:=by
 intro u a;obtain⟨t,_,h⟩:=List.mem_flatMap.1 a;simp[bI]at h;rcases h with rfl|rfl|rfl|rfl<;>rfl
theorem ep{w:World}{A}{l:List be}{k:Nat}{t:be}(h:Sl w 4 A l.length (a6 l))(a:l[k]?=some t):
  ∃g o,A=some ⟨g,o,none⟩/\g < w.heap.size/\Ce w g (o+k*4) (I6 t.d.nd)/\Ce w g (o+k*4+1) (I6 t.d.n)/\Ce w g (o+k*4+2) (I6 t.rc)/\Ce w g (o+k*4+3) (I6 t.un):=by
 have f:=(zE.1 a).1;obtain⟨g,o,rfl,c,b⟩:=h.2 (by omega);refine⟨g,o,rfl,c,?_,?_,?_,?_⟩
 ·have:=b (k*4+0) (I6 t.d.nd) (by rw[a6,xw bI 4 fi l k t a 0 (by omega)];rfl);simpa using this
 ·rw[Nat.add_assoc];exact b (k*4+1) _ (by rw[a6,xw bI 4 fi l k t a 1 (by omega)];rfl)
 ·rw[Nat.add_assoc];exact b (k*4+2) _ (by rw[a6,xw bI 4 fi l k t a 2 (by omega)];rfl)
 ·rw[Nat.add_assoc];exact b (k*4+3) _ (by rw[a6,xw bI 4 fi l k t a 3 (by omega)];rfl)
def p3(n:Int):Bool:=decide (1<=n)&&decide (n<=1099511627776)
def Dc(n:Int):Bool:=decide (1<=n)&&decide (n<=1125899906842624)
def aO(d:bC):Bool:=p3 d.nd&&p3 d.n
def p4(a b:bC):Bool:=decide (a.nd < b.nd)||(a.nd==b.nd&&decide (a.n < b.n))
theorem xx(n:Int) w:
  Cs 335 #[I6 n] w fun e w'=>Rt e (.bool (p3 n))/\w=w':=by
 apply cI;go_in;go_wp2_with fail;all_goals
  go_ret;exact⟨by simp[p3, *]<;>omega,rfl⟩
theorem iE(n:Int) w:
  Cs 255 #[I6 n] w fun e w'=>Rt e (.bool (p3 n))/\w=w':=by
 apply cI;go_in;go_wp2_with fail;all_goals
  go_ret;exact⟨by simp[p3, *]<;>omega,rfl⟩
theorem mu(n:Int) w:
  Cs 256 #[I6 n] w fun e w'=>Rt e (.bool (Dc n))/\w=w':=by
 apply cI;go_in;go_wp2_with fail;all_goals
  go_ret;exact⟨by simp[Dc, *]<;>omega,rfl⟩
theorem cG(d:bC)(w:World):
  Cs 245 #[.agg #[I6 d.nd,I6 d.n]] w fun e w'=>Rt e (.bool (aO d))/\Below w.heap.size w w':=by
 have b:=fun o=>aH (ba w o);have H:Hid (aO d=(p3 d.nd&&p3 d.n)):=aH rfl;apply cI;go_in;go_wp2_with fail;refine(xx d.nd _).mono ?_;rintro e w' ⟨rfl,rfl⟩;cases h1:p3 d.nd
 ·have a:=aH h1;go_wp2;go_ret;exact⟨by rw[H,a];rfl,(b _).out⟩
 ·have a:=aH h1;go_wp2_with fail;refine(xx d.n _).mono ?_;rintro e w' ⟨rfl,rfl⟩;go_wp2;go_ret;exact⟨by rw[H,a];rfl,(b _).out⟩
theorem yi(n:Int) w:
  Cs 300 #[I6 n] w fun e w'=>Rt e (.bool false)/\w=w':=by
 apply cI;go_in;go_wp2;go_ret;exact⟨rfl,rfl⟩
def cH(a b:Int):Int:=if a < b then -1 else if b < a then 1 else 0
theorem fN(a b:Int) w:
  Cs 198 #[I6 a,I6 b] w fun e w'=>Rt e (I6 (cH a b))/\w=w':=by
 apply cI;go_in;go_wp2_with (refine(yi _ _).mono ?_;rintro e w' ⟨rfl,rfl⟩);all_goals
  go_ret;exact⟨by simp[cH, *]<;>omega,rfl⟩
def ru(x y:Int):Int:=if x=0 then y else x
theorem p5(g:Nat)(x y:Int)(w:World)(n:Ce w g 0 (I6 x))(p:Ce w g 1 (I6 y)):
  Cs 323 #[.slice (some ⟨g,0,none⟩) 2 2] w fun e w'=>Rt e (I6 (ru x y))/\w=w':=by
 have b:Hid (ru x y=if x=0 then y else x):=aH rfl;apply cI;go_in;go_wp2;go_loop [8] (fun i=>∃k:Nat,k<=2/\i=I6 k/\(1<=k->x=0)/\(2<=k->y=0)) (fun i=>2 - (intOf i).toNat)
 case atStart=>exact⟨0,by omega,rfl,by omega,by omega⟩
 case round=>
  obtain⟨k,q,rfl,a,c⟩:=hrel;obtain rfl|rfl|rfl:k=0\/k=1\/k=2:=by omega
  ·clear a c;by_cases hz:x=0
   ·have hd:(x==0)=true:=by simpa using hz
    have h:=aH hz;clear hz;go_wp2;go_round
    case rel=>exact⟨1,by omega,rfl,fun _=>h,by omega⟩
    case measure=>simp[intOf]
   ·have hd:(x==0)=false:=by simpa using hz
    have m:Hid (ru x y=x):=aH (by rw[b,if_neg hz]);clear hz;go_wp2;go_ret;exact⟨by rw[m];rfl,rfl⟩
  ·have f:Hid (ru x y=y):=aH (by rw[b,if_pos (a (by omega))]);clear a c;by_cases hz:y=0
   ·have hd:(y==0)=true:=by simpa using hz
    obtain⟨h,j⟩:=gB hz (show 1<=2->x=0 from fun _=>by have:=f.out;rw[b]at this;split at this<;>omega);clear hz;go_wp2;go_round
    case rel=>exact⟨2,by omega,rfl,j,fun _=>h⟩
    case measure=>simp[intOf]
   ·have hd:(y==0)=false:=by simpa using hz
    clear hz;go_wp2;go_ret;exact⟨by rw[f];rfl,rfl⟩
  ·have f:Hid (ru x y=0):=aH (by rw[b,if_pos (a (by omega)),c (by omega)]);clear a c;go_wp2;go_ret;exact⟨by rw[f];rfl,rfl⟩
theorem EQ(a b:bC):decide (ru (cH a.nd b.nd) (cH a.n b.n) < 0)=p4 a b:=by
 unfold ru cH p4;rw[Bool.eq_iff_iff];simp;split<;>split<;>(try split)<;>omega
theorem rI(a b:bC)(w:World):
  Cs 375 #[.agg #[I6 a.nd,I6 a.n],.agg #[I6 b.nd,I6 b.n]] w fun e w'=>Rt e (I6 (ru (cH a.nd b.nd) (cH a.n b.n)))/\Below w.heap.size w w':=by
 apply cI;go_in;go_wp2;refine aN 10 (by kernel_rfl) (by kernel_rfl) ?_;simp only[zF,zN,zG,zO];repeat still_step
 still_call ((fN _ _ _).mono fun _ _ ⟨he,hw⟩=>⟨he,hw.symm⟩);repeat still_step
 still_call ((fN _ _ _).mono fun _ _ ⟨he,hw⟩=>⟨he,hw.symm⟩);repeat still_step
 refine wpStill_nil ?_;obtain⟨W,c⟩:=nx (((w.alloc (.cells #[I6 a.nd,I6 a.n] 42)).alloc (.cells #[I6 b.nd,I6 b.n] 42)).drew);have f:Bw w W:=by rw[<-c];exact((ba _ _).alloc (by simp) _).drew
 rw[c];have i:=aH (f.alloc f.size (.cells #[I6 (cH a.nd b.nd),I6 (cH a.n b.n)] 3));have g:=(am.new W 3 #[I6 (cH a.nd b.nd),I6 (cH a.n b.n)]).cell 0;have h:=(am.new W 3 #[I6 (cH a.nd b.nd),I6 (cH a.n b.n)]).cell 1;simp only[zL,zM,zP]at g h;obtain⟨j,k⟩:=gB g h;go_wp2_with fail;refine(p5 _ _ _ _ j k).mono ?_;rintro e w' ⟨rfl,rfl⟩;go_wp2;go_ret;exact⟨rfl,i⟩
theorem fu(a b:bC)(w:World):
  Cs 333 #[.agg #[I6 a.nd,I6 a.n],.agg #[I6 b.nd,I6 b.n]] w fun e w'=>Rt e (.bool (p4 a b))/\Below w.heap.size w w':=by
 have c:=fun o o'=>aH ((ba w o).alloc (by simp) o');have f:=aH (EQ a b);apply cI;go_in;go_wp2_with fail;refine(rI a b _).mono ?_;rintro e w' ⟨rfl,g⟩;have B:=aH ((c _ _).out.trans (g.mono (by simp;omega)));go_wp2;go_ret;exact⟨by rw[<-f];rfl,B⟩
end Hd
def yj:Nat:=140737488355328
def RS(w:World)(g:Nat)(o:Option (List UInt8)):Prop:=match o with
 |some l=>l.length<=yj/\fX w g l false
 |none=>∃l,l.length<=yj/\fX w g l true
theorem RS.only{o:Option (List UInt8)}(h:RS w g o){row}(a:w.grownBy w' row)(b:some g≠row):RS w' g o:=by
 cases o with
 |some l=>exact⟨h.1,(a.block g (ap h.2) b).trans h.2⟩
 |none=>obtain⟨l,f,c⟩:=h;exact⟨l,f,(a.block g (ap c) b).trans c⟩
theorem RS.lt{o:Option (List UInt8)}(h:RS w g o):g < w.heap.size:=by
 cases o with
 |some l=>exact ap h.2
 |none=>obtain⟨l,b,a⟩:=h;exact ap a
abbrev Pr(α:Type):=Option (α×List UInt8)
def FC(w:World)(g:Nat)(a:Pr α)(b:α->Value)(d:α)(e:Ending)(w':World):Prop:=
 Rt e (b ((a.map Prod.fst).getD d))/\RS w' g (a.map Prod.snd)/\aW g w w'
def bk(m:Nat)(l:List UInt8):Pr Nat:=(iu l 10 true 0).bind fun x=>if m < x.1 then none else some x
def du(m:Nat)(l:List UInt8):Pr (List UInt8):=(bk m l).bind fun x=>if x.2.length < x.1 then none else some (x.2.take x.1,x.2.drop x.1)
theorem cO{l:List UInt8}{x:Nat×List UInt8}(h:bk m l=some x):x.1<=m/\x.2.length < l.length:=by
 unfold bk at h;cases hd:iu l 10 true 0 with
 |none=>rw[hd]at h;cases h
 |some y=>
  rw[hd]at h;simp only[zI]at h;split at h
  ·cases h
  ·injection h with h;subst h;exact⟨by omega,(gi l 10 true 0 _ _ hd).2⟩
theorem o8(m:Nat) l:eK m l true=(0,l,true):=by unfold eK gh;simp
theorem o9(m:Nat)(l:List UInt8):∃r,r.length<=l.length/\eK m l false=match bk m l with|some x=>(x.1,x.2,false)|none=>(0,r,true):=by
 unfold eK bk gh;cases h:iu l 10 true 0 with
 |none=>exact⟨l,nR,by simp⟩
 |some x=>
  refine⟨x.2,Nat.le_of_lt (gi l 10 true 0 _ _ h).2,?_⟩;by_cases hm:m < x.1<;>simp[hm]
theorem dy(g m:Nat)(o:Option (List UInt8)) w(h:RS w g o)(hm:m < 9223372036854775808):
  Cs 236 #[Pt g,I6 m] w (FC w g (o.bind (bk m)) (fun n=>I6 (n:Nat)) 0):=by
 cases o with
 |none=>
  obtain⟨l,c,f⟩:=h;refine(me g m l true w f c hm).mono ?_;rw[o8];rintro e w' ⟨rfl,a,b⟩;exact⟨rfl,⟨l,c,a⟩,b⟩
 |some l=>
  refine(me g m l false w h.2 h.1 hm).mono ?_;obtain⟨r,j,i⟩:=o9 m l;have k:=h.1;rw[i];rintro e w' ⟨rfl,a,b⟩;show FC w g (bk m l) _ 0 _ w';cases hp:bk m l with
  |none=>rw[hp]at a;exact⟨by rfl,⟨r,by omega,a⟩,b⟩
  |some x=>rw[hp]at a;exact⟨by rfl,⟨by have:=(cO hp).2;omega,a⟩,b⟩
theorem l4(g m:Nat)(o:Option (List UInt8)) w(h:RS w g o)(hm:m < 9223372036854775808):
  Cs 149 #[Pt g,I6 m] w (FC w g (o.bind (du m)) (fun s=>.string (aF s)) []):=by
 cases o with
 |none=>
  obtain⟨l,c,f⟩:=h;refine(o3 g m l true w f c hm).mono ?_;have:mf m l true=([],l,true):=by unfold mf;rw[o8];rfl
  rw[this];rintro e w' ⟨rfl,a,b⟩;exact⟨rfl,⟨l,c,a⟩,b⟩
 |some l=>
  refine(o3 g m l false w h.2 h.1 hm).mono ?_;obtain⟨r,j,i⟩:=o9 m l;have k:=h.1;unfold mf;rw[i];rintro e w' ⟨rfl,a,b⟩;show FC w g (du m l) _ [] _ w';unfold du;cases hp:bk m l with
  |none=>
   rw[hp]at a;exact⟨rfl,⟨r,by omega,a⟩,b⟩
  |some x=>
   rw[hp]at a;have n:=(cO hp).2;by_cases hc:x.2.length < x.1
   ·simp[hc]at a ⊢;exact⟨by simp,⟨_,by omega,a⟩,b⟩
   ·simp[hc]at a ⊢;exact⟨by simp,⟨by simp;omega,a⟩,b⟩
theorem Bm(g:Nat)(l:List UInt8)(t:Bool) w(h:fX w g l t)(hl:l.length<=140737488355328):
  Cs 236 #[Pt g,I6 (-1)] w (Rd w g (I6 0) (gh l t).2.1 true):=by
 have H:=aH h;apply cI;go_in;go_wp2_with fail;refine(rA g l t _ H hl).mono ?_;rintro e w1 ⟨rfl,a,f⟩;obtain⟨⟨n,r,i⟩,b⟩:∃x,gh l t=x:=⟨_,rfl⟩;rw[b]at a ⊢;simp only at a ⊢;obtain⟨c,j,k⟩:=gC a f b;go_wp2_with fail;refine(eO g r i _ c).mono ?_;rintro e w2 ⟨rfl,rfl⟩;go_wp2;go_ret;rw[k];exact⟨rfl,c.bj,ja j⟩
theorem fv(g:Nat)(o:Option (List UInt8)) w(h:RS w g o):
  Cs 236 #[Pt g,I6 (-1)] w fun e w'=>Rt e (I6 0)/\RS w' g none/\aW g w w':=by
 have c:∃l t,l.length<=yj/\fX w g l t:=by
  cases o with
  |some l=>exact⟨l,false,h⟩
  |none=>obtain⟨l,a,b⟩:=h;exact⟨l,true,a,b⟩
 obtain⟨l,t,a,b⟩:=c;refine(Bm g l t w b a).mono ?_;rintro e w' ⟨rfl,f,i⟩;exact⟨rfl,⟨_,zD (gP l t).2 a,f⟩,i⟩
theorem kj(g:Nat)(o:Option (List UInt8)) w(h:RS w g o):
  Cs 331 #[Pt g] w fun e w'=>Rt e (.tuple #[])/\RS w' g none/\aW g w w':=by
 have H:=aH h;apply cI;go_in;go_wp2_with fail;refine(fv g o _ H).mono ?_;rintro e w1 ⟨rfl,a,b⟩;obtain⟨c,f⟩:=gB a b;go_wp2;go_end0;exact⟨rfl,c,f⟩
theorem er(g:Nat)(o:Option (List UInt8)) w(h:RS w g o):
  Cs 237 #[Pt g] w fun e w'=>Rt e (.bool o.isSome)/\w=w':=by
 cases o with
 |some l=>exact gg g l false w h.2
 |none=>obtain⟨l,b,a⟩:=h;exact gg g l true w a
def ec(n:Nat):Nat->List UInt8
 |0=>[]
 |k+1=>UInt8.ofNat (128+n / 128 ^ k % 128)::ec n k
theorem ym(n k:Nat):(ec n k).length=k:=by induction k with
 |zero=>rfl
 |succ k ih=>simp[ec,ih]
def aM(n:Nat):Nat:=max ((Lib.bitLen n+6) / 7) 1
def bG(n:Nat):List UInt8:=(ec n (aM n)).dropLast++[UInt8.ofNat (n % 128)]
def rv(l:List UInt8):List Value:=l.map fun c=>.int .u8 c.toNat
theorem gl:∀(k x:Nat),k<=64->x < 2 ^ k->Lib.bitLen x<=k
 |0,x,_,h=>by
  have:x=0:=by simpa using h
  subst this;decide
 |k+1,x,hk,h=>by
  by_cases h0:x=0
  ·subst h0;have:Lib.bitLen 0=0:=by decide
   omega
  ·have a:2 ^ (k+1)<=2 ^ 64:=Nat.pow_le_pow_right (by omega) hk
   rw[Lib.bitLen_half x h0 (by omega)]
   have:=gl k (x / 2) (by omega) (by rw[yV (by omega),<-wB];exact h)
   omega
theorem pa:∀(k x:Nat),k<=64->x < 2 ^ k->x≠0->2 ^ (Lib.bitLen x - 1)<=x/\1<=Lib.bitLen x
 |0,x,_,h,h0=>by simp at h;omega
 |k+1,x,hk,h,h0=>by
  have a:2 ^ (k+1)<=2 ^ 64:=Nat.pow_le_pow_right (by omega) hk
  rw[Lib.bitLen_half x h0 (by omega)]
  by_cases h1:x / 2=0
  ·rw[h1];have:Lib.bitLen 0=0:=by decide
   rw[this];exact⟨by simp;omega,by omega⟩
  ·have:=pa k (x / 2) (by omega) (by rw[yV (by omega),<-wB];exact h) h1
   refine⟨?_,by omega⟩
   rw[show 1+Lib.bitLen (x / 2) - 1=(Lib.bitLen (x / 2) - 1)+1 by omega,wB]
   omega
theorem aR.new(w:World)(cs:List Value)(e:TypeId):aR (w.alloc (.cells cs.toArray e)) w.heap.size e cs:=am.new w e cs.toArray
theorem aR.ag(h:aR w g e cs)(k:Nat) u:aR (w.setCell ⟨g,k,none⟩ u) g e (cs.set k u):=by
 have:=am.I (cs:=cs.toArray) h k u;simpa[aR,am]using this
theorem aR.frozen{cs}(h:aR w g e cs)(k:Nat):w.frozen? ⟨g,k,none⟩=false:=am.frozen (cs:=cs.toArray) h k
theorem yn(n M i:Nat)(h:i < M):(rv (List.replicate (M - i) 0++ec n i)).set (M - 1 - i) (.int .u8 ((128+n / 128 ^ i % 128:Nat):Int))=rv (List.replicate (M - (i+1)) 0++ec n (i+1)):=by
 obtain⟨k,b⟩:∃k,M - i=k+1:=⟨M - i - 1,by omega⟩;rw[b,show M - 1 - i=k by omega,show M - (i+1)=k by omega,List.replicate_succ',ec];unfold rv;rw[zH,yC,yW _ _ (by simp)];have a:128+n / 128 ^ i % 128 < 256:=by omega
 simp[Nat.mod_eq_of_lt a]
theorem tL(n i:Nat):bits .or .u8 (bits .and .u8 ((n:Int) / 2 ^ (7*i) % 256) 127) 128=((128+n / 128 ^ i % 128:Nat):Int):=by
 have e:(n:Int) / 2 ^ (7*i) % 256=((n / 128 ^ i % 256:Nat):Int):=by
  have:(2:Nat) ^ (7*i)=128 ^ i:=by rw[Nat.pow_mul]
  rw[<-this];simp
 rw[e,Ba _ (Nat.mod_lt _ (by omega)),Nat.mod_mod_of_dvd _ (by decide:128 ∣ 256)];have:∀c:Fin 128,bits .or .u8 (c.val:Int) 128=((128+c.val:Nat):Int):=by decide+kernel
 exact this ⟨n / 128 ^ i % 128,Nat.mod_lt _ (by omega)⟩
theorem tM(n p:Nat):∃pre,ec n (p+1)=pre++[UInt8.ofNat (128+n % 128)]/\pre.length=p/\(ec n (p+1)).dropLast=pre:=by
 induction p with
 |zero=>exact⟨[],by simp[ec],rfl,by simp[ec]⟩
 |succ p ih=>
  obtain⟨pre,a,b,c⟩:=ih;refine⟨UInt8.ofNat (128+n / 128 ^ (p+1) % 128)::pre,by rw[ec,a];rfl,by simp[b],?_⟩;rw[ec,a,List.dropLast_cons_of_ne_nil (by simp),List.dropLast_concat]
theorem oN w(b:Nat)(l:List UInt8)(c:Nat)(h:aR w b 5 (rv l)):(convert 248 9 (.slice (some ⟨b,0,none⟩) l.length c)).run prog w=.ok (.string (aF l)) w:=by
 have:=run_convert_bytes_arg (P:=prog) w 248 5 underlying248 underlying5 b 0 l.length c (l.map fun c=>(c.toNat:Int)) (by simp) (fun i hi=>by
  rw[zR,h.cell];unfold rv;simp[hi]) 9 underlying9
 rw[this];have e:strOfNums (l.map fun c=>(c.toNat:Int))=aF l:=by
  unfold strOfNums aF;congr 2;simp[Function.comp_def]
 rw[e]
theorem p6(h:n < 18446744073709551616):1<=aM n/\aM n<=10:=by
 have:=gl 64 n (by omega) h;unfold aM;omega
theorem mv(w:World)(M:Nat)(h:M<=100):(Instr.makeSlice 248 (I6 (M:Int)) (I6 (M:Int))).run prog w=.ok (.slice (some ⟨w.heap.size,0,none⟩) M M) (w.alloc (.cells (rv (List.replicate M 0)).toArray 5)):=by
 obtain⟨f,hi,b,a,c⟩:=info_parts (show(prog.info? 5).map (fun i=>(i.zero,i.size,i.bytes))=some (some (.int .u8 0),1,1) by kernel_rfl);have:=run_makeSlice (P:=prog) w 248 5 f _ underlying248 hi b .i64 .i64 M M (by omega) (by omega) (by rw[a];omega) (by rw[c];omega) (by omega);rw[a,jS,wC]at this;rw[this];have e:madeCells (Value.int .u8 0).cells M=(rv (List.replicate M 0)).toArray:=by
  apply Array.ext';rw[show(Value.int .u8 0).cells=#[.int .u8 0]from rfl,toList_madeCells_one];simp[rv]
 rw[e]
theorem xy(n:Nat)(w:World)(D:n < 18446744073709551616):
  Calls Tryz.prog 204 #[.int .u64 n] w fun e w'=>Rt e (.string (aF (bG n)))/\Below w.heap.size w w':=by
 obtain⟨X,Y⟩:=p6 D;have a:=Tryz.bits_Len64 n w (by omega) (by omega);rw[jS]at a;have m:∃q:Nat,Lib.bitLen n=q:=⟨_,rfl⟩;obtain⟨q,m⟩:=m;have F:aM n=max ((q+6) / 7) 1:=by unfold aM;rw[m]
 rw[m]at a;generalize hmm:aM n=M at*;go_enter Tryz.func204,Tryz.ntmps204;go_wp2_with fail;refine(a.mono (R':=fun e w'=>Rt e (.int .i64 (q:Nat))/\w=w') fun _ _ h=>⟨h.1,h.2.symm⟩).mono ?_;rintro e w1 ⟨rfl,rfl⟩;have O:q<=64:=by rw[<-m];exact gl 64 n (by omega) D
 have G:max (((q:Int)+7 - 1) / 7) 1=(M:Int):=by omega
 have z:=mv w M (by omega);have g:=aR.new w (rv (List.replicate M 0)) 5;have j:Below w.heap.size w (w.alloc (.cells (rv (List.replicate M 0)).toArray 5)):=ba w _;generalize w.alloc (.cells (rv (List.replicate M 0)).toArray 5)=W1 at z g j;obtain⟨R,S,HM,C⟩:=gD g j F hmm;clear a m hmm g j F;go_wp2_with fail;clear z G;go_loopg[16] M (fun gn v16 wr=>∃i:Nat,i<=M/\gn=M - i/\v16=.int .i64 i/\aR wr w.heap.size 5 (rv (List.replicate (M - i) 0++ec n i))/\Below w.heap.size w wr)
 case atStart=>exact⟨0,by omega,rfl,rfl,by simpa[ec]using R.out,S⟩
 case round=>
  obtain⟨i,hi,rfl,rfl,b,H⟩:=hrel;obtain⟨t,A⟩:=gB b H;clear b H;by_cases x:i < M
  ·have T:decide ((i:Int) < (M:Int))=true:=by simp;omega
   have U:wr.cell? ⟨w.heap.size,M - 1 - i,none⟩=some (.int .u8 0):=by
    rw[t.cell];unfold rv;rw[qS,qQ (by simp;omega),List.getElem?_replicate,if_pos (by omega)];rfl
   have hf:=t.frozen (M - 1 - i);obtain⟨V,u⟩:=gB (tL n i) x;go_wp2_with fail;go_roundg (M - (i+1))
   case measure=>have:=u.out;omega
   case rel=>
    rw[V];refine⟨i+1,u,rfl,by go_num,?_,A.setCell nR _⟩;rw[<-yn n M i u];exact t.ag _ _
  ·obtain rfl:i=M:=by omega
   have T:decide ((i:Int) < (i:Int))=false:=by simp
   obtain⟨p,rfl⟩:∃p,i=p+1:=⟨i - 1,by omega⟩;obtain⟨f,I,s,J⟩:=tM n p;have b:=t.out;rw[Nat.sub_self,List.replicate_zero,qY,I]at b;have Z:=aH b;have U:wr.cell? ⟨w.heap.size,p,none⟩=some (.int .u8 ((128+n % 128:Nat):Int)):=by
    rw[b.cell];unfold rv;have:128+n % 128 < 256:=by omega
    rw[yC,jA (by simp[s])];simp[s,Nat.mod_eq_of_lt this]
   have hf:=b.frozen p;have hv:bits .andNot .u8 (128+(n:Int) % 128) 128=((n % 128:Nat):Int):=by
    have:∀c:Fin 128,bits .andNot .u8 ((128+c.val:Nat):Int) 128=((c.val:Nat):Int):=by decide+kernel
    have:=this ⟨n % 128,Nat.mod_lt _ (by omega)⟩;simpa using this
   have k:aR (wr.setCell ⟨w.heap.size,p,none⟩ (.int .u8 ((n % 128:Nat):Int))) w.heap.size 5 (rv (f++[UInt8.ofNat (n % 128)])):=by
    have:=b.ag p (.int .u8 ((n % 128:Nat):Int));have e:(rv (f++[UInt8.ofNat (128+n % 128)])).set p (.int .u8 ((n % 128:Nat):Int))=rv (f++[UInt8.ofNat (n % 128)]):=by
     unfold rv;have x:n % 128 < 256:=by omega
     rw[yC,yW _ _ (by simp[s])];simp[s,Nat.mod_eq_of_lt x]
    rwa[e]at this
   rw[<-hv]at k;have B:=A.setCell (p:=⟨w.heap.size,p,none⟩) nR (.int .u8 (bits .andNot .u8 (128+(n:Int) % 128) 128));have y:=oN _ _ _ (p+1) k;rw[zC,s]at y;have L:=aH B;have N:Hid (bG n=f++[UInt8.ofNat (n % 128)]):=aH (by unfold bG;rw[C,J]);clear b k I s J B t hv;rw[show([UInt8.ofNat (n % 128)]:List UInt8).length=1 from rfl]at y;generalize f++[UInt8.ofNat (n % 128)]=res at y N;go_wp2_with fail;go_ret;rw[N];exact⟨rfl,L⟩
theorem bi(h:n < 18446744073709551616):1<=(bG n).length/\(bG n).length<=10:=by
 have:=p6 h;unfold bG;rw[zC,List.length_dropLast,ym];simp;omega
theorem cQ(z:Int)(w:World)(f:z < 9223372036854775808):
  Cs 106 #[I6 z] w fun e w'=>Rt e (.string (aF (bG z.toNat)))/\Below w.heap.size w w':=by
 have g:max z 0=((z.toNat:Nat):Int):=by omega
 have c:z.toNat < 9223372036854775808:=by omega
 generalize z.toNat=n at*;apply cI;go_in;go_wp2_with fail;refine(xy n _ (by omega)).mono ?_;rintro e w1 ⟨rfl,a⟩;have b:=aH a;go_wp2;go_ret;exact⟨rfl,b⟩
theorem aW.put{u}(h:aW g w wr)(a:w.heap.size<=k):aW g w (wr.setCell ⟨k,i,none⟩ u):=dx h (aB wr k i u) (fun j e=>by cases e;exact a)
theorem aW.lay(h:aW g w wr)(o:Obj):aW g w (wr.alloc o):=dx h (qN wr o none) (fun j e=>by cases e)
theorem RS.put{o:Option (List UInt8)}{u}(h:RS wr g o)(a:g≠k):RS (wr.setCell ⟨k,i,none⟩ u) g o:=h.only (aB wr k i u) (by simpa using a)
theorem RS.lay{o:Option (List UInt8)}(h:RS wr g o)(x:Obj):RS (wr.alloc x) g o:=h.only (qN wr x none) (by simp)
theorem am.two{x y}(h:am w g t #[x,y]):Ce w g 0 x/\Ce w g 1 y:=⟨am.cell h 0,am.cell h 1⟩
theorem am.ax{x y}(h:am w g t #[x,y]) a b:am ((w.setCell ⟨g,0,none⟩ a).setCell ⟨g,1,none⟩ b) g t #[a,b]:=by
 have:=(h.I 0 a).I 1 b;exact this
def MD:Nat:=1099511627776
def dC(l:List UInt8):Pr bC:=(bk MD l).bind fun x=>(bk MD x.2).bind fun y=>if aO ⟨(x.1:Int),(y.1:Int)⟩then some (⟨x.1,y.1⟩,y.2)else none
theorem Bo(o:Option (List UInt8))(a n2:Nat)(o1 o2:Option (List UInt8))(b:(o.bind (bk MD)).map Prod.snd=o1)(c:(o1.bind (bk MD)).map Prod.snd=o2)
  (f:((o.bind (bk MD)).map Prod.fst).getD 0=a) (g:((o1.bind (bk MD)).map Prod.fst).getD 0=n2):
  o.bind dC=o2.bind fun r=>if aO ⟨(a:Int),(n2:Int)⟩then some (⟨a,n2⟩,r)else none:=by
 subst b c f g;cases o with
 |none=>rfl
 |some l=>
  simp only[zI];unfold dC;cases h:bk MD l with
  |none=>rfl
  |some x=>
   simp only[zI,Option.map_some];cases h':bk MD x.2 with
   |none=>rfl
   |some y=>rfl
theorem kY(g:Nat)(o:Option (List UInt8)) w(h:RS w g o):
  Cs 240 #[Pt g] w (FC w g (o.bind dC) (fun d=>.agg #[I6 d.nd,I6 d.n]) ⟨0,0⟩):=by
 have hg:=h.lt;obtain⟨H,V,X⟩:=gC (h.lay (.cells #[I6 0,I6 0] 42)) (am.new w 42 #[I6 0,I6 0]) ((cJ (g:=g) (w:=w)).lay (.cells #[I6 0,I6 0] 42));apply cI;go_in;go_wp2_with fail;refine(dy g MD o _ H (by decide)).mono ?_;rintro e w1 ⟨rfl,c,a⟩;obtain⟨b,D⟩:=nx (((o.bind (bk MD)).map Prod.fst).getD 0);obtain⟨o1,F⟩:=nx ((o.bind (bk MD)).map Prod.snd);rw[D];rw[F]at c;have L:=V.only a (by omega);obtain⟨Y,Z,O1,R1⟩:=gD (c.lay (.cells #[I6 b,I6 0] 42)) (am.new w1 42 #[I6 b,I6 0]) ((aA X a).lay (.cells #[I6 b,I6 0] 42)) (L.alloc (.cells #[I6 b,I6 0] 42));have ha:w.heap.size < w1.heap.size:=by have:=a.size;simp at this;omega
 obtain⟨M,N⟩:=gB D F;go_wp2_with fail;refine(dy g MD o1 _ Y (by decide)).mono ?_;rintro e w2 ⟨rfl,c,a⟩;obtain⟨n2,G⟩:=nx (((o1.bind (bk MD)).map Prod.fst).getD 0);obtain⟨o2,I⟩:=nx ((o1.bind (bk MD)).map Prod.snd);rw[G];rw[I]at c;have n:=aH (Bo o b n2 o1 o2 N I M G);have s:=Z.only a (by omega);obtain⟨O,R⟩:=am.two s;have hf:=am.frozen s 1;obtain⟨S,A,B,T⟩:=gD (show am (w2.setCell ⟨w1.heap.size,1,none⟩ (I6 n2)) w1.heap.size 42 #[I6 b,I6 n2]from s.I 1 _) ((R1.only a (by omega)).only (aB w2 w1.heap.size 1 (I6 n2)) (by omega)) (c.put (k:=w1.heap.size) (i:=1) (u:=I6 n2) (by omega)) ((aA O1 a).put (k:=w1.heap.size) (i:=1) (u:=I6 n2) (by omega));go_wp2_with fail;refine(er g o2 _ B).mono ?_;rintro e w3 ⟨rfl,rfl⟩;generalize w2.setCell ⟨w1.heap.size,1,none⟩ (I6 n2)=w3 at*;obtain⟨O,R⟩:=am.two S;have t:=fun j=>am.frozen A j;obtain⟨z0,J⟩:=am.two A;have q:=A;have C:=T;cases o2 with
 |none=>
  rw[Option.bind_none]at n;go_wp2_with fail;refine(kj g _ _ B).mono ?_;rintro e w5 ⟨rfl,c,a⟩;have p:=q.only a (by omega);obtain⟨z0,J⟩:=am.two p;have t:=fun j=>am.frozen p j;obtain⟨f,m⟩:=gB (c.put (k:=w.heap.size) (i:=0) (u:=I6 0) (by omega)) ((aA C a).put (k:=w.heap.size) (i:=0) (u:=I6 0) nR);obtain⟨f,m⟩:=gB (f.put (k:=w.heap.size) (i:=1) (u:=I6 0) (by omega)) (m.put (k:=w.heap.size) (i:=1) (u:=I6 0) nR);obtain⟨x,y⟩:=am.two (p.ax (I6 0) (I6 0));go_wp2_with fail;refine bodyPost_ret (v:=.agg #[I6 0,I6 0]) (by simp[results,results240,go_sem,x,y]) rfl ?_;rw[n];exact⟨rfl,f,m⟩
 |some r=>
  rw[zI]at n;go_wp2_with fail;refine(cG ⟨b,n2⟩ _).mono ?_;rintro e w4 ⟨rfl,z⟩;obtain⟨U,q,C⟩:=gC (B.only (aG (g:=w4.heap.size) z) (by have:=B.lt;have:=z.size;simp;omega)) (A.below z) (aA T (aG z));have hD:=S.below z;obtain⟨O,R⟩:=am.two hD;cases hok:aO ⟨(b:Int),(n2:Int)⟩
  ·rw[hok]at n;go_wp2_with fail;refine(kj g _ _ U).mono ?_;rintro e w5 ⟨rfl,c,a⟩;have p:=q.only a (by omega);obtain⟨z0,J⟩:=am.two p;have t:=fun j=>am.frozen p j;obtain⟨f,m⟩:=gB (c.put (k:=w.heap.size) (i:=0) (u:=I6 0) (by omega)) ((aA C a).put (k:=w.heap.size) (i:=0) (u:=I6 0) nR);obtain⟨f,m⟩:=gB (f.put (k:=w.heap.size) (i:=1) (u:=I6 0) (by omega)) (m.put (k:=w.heap.size) (i:=1) (u:=I6 0) nR);obtain⟨x,y⟩:=am.two (p.ax (I6 0) (I6 0));go_wp2_with fail;refine bodyPost_ret (v:=.agg #[I6 0,I6 0]) (by simp[results,results240,go_sem,x,y]) rfl ?_;rw[n];exact⟨rfl,f,m⟩
  ·rw[hok]at n;obtain⟨z0,J⟩:=am.two q;have t:=fun j=>am.frozen q j;obtain⟨f,m⟩:=gB ((U.put (k:=w.heap.size) (i:=0) (u:=I6 b) (by omega)).put (k:=w.heap.size) (i:=1) (u:=I6 n2) (by omega)) ((C.put (k:=w.heap.size) (i:=0) (u:=I6 b) nR).put (k:=w.heap.size) (i:=1) (u:=I6 n2) nR);obtain⟨x,y⟩:=am.two (q.ax (I6 b) (I6 n2));go_wp2_with fail;refine bodyPost_ret (v:=.agg #[I6 b,I6 n2]) (by simp[results,results240,go_sem,x,y]) rfl ?_;rw[n];exact⟨rfl,f,m⟩
end Go.Proofs.YthdfgdicnplhlaaGreatDoor
