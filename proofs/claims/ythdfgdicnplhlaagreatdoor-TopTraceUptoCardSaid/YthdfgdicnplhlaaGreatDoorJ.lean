import Derived.Test.YthdfgdicnplhlaaGreatDoorI
import Derived.LoopIn
import Derived.LoopNIn
import Derived.Maps.OwnIn
import Derived.Maps.RangeWalk
import Derived.OwnWalkIn
import Derived.RangeFuncBound
import Derived.RangeFuncCalls
import Derived.RangeFuncLeaves
import Derived.RangeFuncNested
import Derived.Shelf.Abstract
import Derived.Shelf.RegionOpen
import Derived.TacticsInMore
set_option maxHeartbeats 16000000
set_option maxRecDepth 100000
set_option linter.all false
namespace Go.Proofs.YthdfgdicnplhlaaGreatDoor
open Go.RowKit Hd _root_.Go.Proofs.Tryz
variable{t:TypeId}{tl:List Rp}{l:List Int}{b:Nat}{E:bX}{Rf:Nat → Prop}{N:Nb}{S:cF}{T T' B B':Nat}{hand hand':Option Nat}{rsv rsv':List Int}{o o' o0:Ow}{w w' w0 w8:World}{k:Nat}{q bd:List UInt8}{cl:Cl}{g:Nat}{d:bC}{rc:Int}{c part:Nat}{a:Int}{ws:List (Int×Qg)}{p:Pl}{n f:Nat}{E':bX}{cm cl':Nat → Prop}{tv:Nat → Int}{M M' nc:Nat}{ps:List Pl}{j:Nat}{α:Type}{El_:El α}{base:Nat}{v:Value}{wr w1:World}{x:Option Nat}{z:Int}{tl':List Rp}{Q:Exit->Act->World->Prop}{F:Fence}{R:Ow->World->Prop}
section
variable{S':cF}
theorem aE.cw(h:aE E Rf N T B hand rsv o w)(a:T<=T')(f:T'<=1000000):aE E Rf N T' B hand rsv o w:=by
 obtain⟨b,a1,a2,a3,a4,a5,A,c,q,l,g⟩:=h.wt.2.ex;exact⟨h.fin,h.i0,h.i9,h.tab,h.kok,h.cs,h.due,h.hd,⟨f,(g.mono a).at_⟩,h.cfg,h.rest⟩
theorem At.cw(h:At E Rf N S T B hand rsv o0 w0 w)(a:T<=T')(b:T'<=1000000):At E Rf N S T' B hand rsv o0 w0 w:=by
 obtain⟨o,c,f,g⟩:=h;exact⟨o,c.cw a b,f,g⟩
theorem At.wrote{t:List UInt8}(h:At E Rf N S T B hand rsv o0 w0 w)(a:Below w.heap.size w w')(b:t.length<=999999):
  Cs 47 #[Pt N.nb,.slice (some ⟨w'.heap.size,0,none⟩) 1 1] (w'.alloc (.cells #[.string (aF (86::t))] 9)) fun e w'=>∃t,Rt e (.bool t)/\At E Rf N S T B hand rsv o0 w0 w':=by
 have e:=a.alloc a.size (.cells #[.string (aF (86::t))] 9);refine((h.add e (cF.ri bM (.slice (some ⟨w'.heap.size,0,none⟩) 1 1) [86::t]) (fun o ho=>CS (86::t) ho a.size)).ba fun o h' hS=>dU h' hS.2 (by simp) (fun q hq=>?_)).mono fun e w' hh=>by
  obtain⟨t,c,f⟩:=hh;exact⟨t,c,f.ao⟩
 rw[qR]at hq;subst hq;exact fI (by decide) (by decide) (by decide) b
def cF.bag(vl vb vc:Value)(ls:List Mg)(lb lc:List bC):cF:=(cF.ri aU vl ls).and ((cF.ri aJ vb lb).and (cF.ri aJ vc lc))
theorem At.sayN{vt vv v}{tl:List Tg}{pl:List Pe}(h:At E Rf N (((S.and (cF.ri a7 vt tl)).and (cF.ri aL vv pl)).and (cF.ri aC v l)) T B hand rsv o0 w0 w)(g:B<=1000000000)(i:tl.length<=100)(j:∀a∈tl,iw a)(k:pl.length<=64)(n:∀p∈pl,cA p)(q:l.length<=1000):
  Cs 68 #[Pt N.nb,.agg #[I6 6,I6 0,I6 0,I6 0,I6 0,Se,aS,aS,aS,vt,vv,I6 0,I6 0,I6 0,I6 0],v] w fun e w'=>Rt e (.tuple #[])/\At E Rf N S T (B+1000) hand rsv o0 w0 w':=by
 have c:bN 0:=by unfold bN;omega
 have f:bN 6:=by unfold bN;omega
 refine(h.nd fun o h' hS=>fH (x:=⟨6,0,0,0,0,[],0,0,0,0⟩) (ls:=[]) (b:=[]) (cl:=[]) h' g ⟨⟨(RI.nil o _).rw,(RI.nil o _).rw,(RI.nil o _).rw⟩,⟨by simp,by simp,by simp,by simp,by simp⟩,hS.1.1.2.rw,i,j,hS.1.2.rw,k,n,by simp⟩ (fun m hm=>absurd hm (by simp)) (by simp[ij,c,f]) hS.2 q).mono fun e w' hh=>⟨hh.1,hh.2.ao.ao.ao⟩
theorem At.sayP{vl vb vc v}{ls:List Mg}{lb lc:List bC}(h:At E Rf N ((S.and (cF.bag vl vb vc ls lb lc)).and (cF.ri aC v l)) T B hand rsv o0 w0 w)(j:B<=1000000000)(q:b < 16)(s:ls.length<=4194304)(t:lb.length+lc.length<=4194304)(c:∀m∈ls,fR E m)(k:∀d∈lb,aO d=true)(n:∀d∈lc,aO d=true)(p:l.length<=1000):
  Cs 68 #[Pt N.nb,.agg #[I6 1,I6 0,I6 0,I6 (b:Nat),I6 0,Se,vl,vb,vc,aS,aS,I6 0,I6 0,I6 0,I6 0],v] w fun e w'=>Rt e (.tuple #[])/\At E Rf N S T (B+1000) hand rsv o0 w0 w':=by
 have f:bN 0:=by unfold bN;omega
 have g:bN 1:=by unfold bN;omega
 have i:bN (b:Nat):=by unfold bN;omega
 refine(h.nd fun o h' hS=>fH (x:=⟨1,0,0,(b:Nat),0,[],0,0,0,0⟩) (tl:=[]) (pl:=[]) h' j ⟨⟨hS.1.2.1.rw,hS.1.2.2.1.rw,hS.1.2.2.2.rw⟩,⟨by omega,by omega,fun m hm=>(c m hm).lt,k,n⟩,(RI.nil o _).rw,by simp,(fun a ha=>absurd ha (by simp)),(RI.nil o _).rw,by simp,(fun a ha=>absurd ha (by simp)),by simp⟩ c (by simp[ij,f,g,i]) hS.2 p).mono fun e w' hh=>⟨hh.1,hh.2.ao.ao⟩
theorem At.owners(h:At E Rf N S T B hand rsv o0 w0 w)(part:Int):Cs 74 #[Pt N.nb,I6 part] w (b6 aC w 1000 fun _=>True):=by
 obtain⟨o,a,_⟩:=h;exact iX part a
theorem At.lack{v}(h:At E Rf N S T B hand rsv o0 w0 w)(part:Int)(hv:Rw aC w v l)(a:l.length<=1000):Cs 73 #[Pt N.hd,I6 part,v] w (b6 aC w 1000 fun _=>True):=by
 obtain⟨o,b,_⟩:=h;exact vk part b.hd hv a
theorem At.parts(h:At E Rf N S T B hand rsv o0 w0 w):Cs 72 #[Pt N.hd] w fun e w'=>∃l v,Rt e v/\l.length<=64/\(∀z∈l,0<=z/\z < 16)/\At E Rf N (S.and (cF.ri aC v l)) T B hand rsv o0 w0 w':=by
 have a:=h;obtain⟨o,b,_⟩:=h;refine(ss b.hd).mono ?_;rintro e w' ⟨l,⟨v,c,f,g⟩,i,j⟩;exact⟨l,v,c,i,j,a.add g (cF.ri aC v l) (fun o ho'=>RI.aa f ho')⟩
def i5:Nat:=210000000
theorem AK(V hm:Int)(h:aE E Rf N T 0 none [] o w)(hT:T<=999999):
  Cs 32 #[Pt N.nb,I6 V,I6 hm] w (lZ E Rf N (T+1) 300000000 o w):=by
 obtain⟨xK,H⟩:=gB (jf h) (At.new h);have xL:=H.cells.due;have xM:=aH (H.due V);clear h;apply cI;go_in;go_wp2_with fail;refine xK.mono ?_;rintro a _w ⟨⟨t,rfl⟩,rfl⟩;cases t
 case true=>
  go_wp2_with fail;go_ret2;exact(H.cw (by omega) (by omega)).bz
 go_wp2_with fail;refine xM.mono ?_;rintro a w3 ⟨v3,B,rfl,yn,h3⟩;obtain⟨oF,f⟩:=h3.facts;obtain⟨A3,c3,rfl,_⟩:=f.2.rw.slice;have H3:=aH h3;clear h3 f xL;go_wp2_with fail;go_loopw[26] (fun vi wr=>∃k:Nat,k<=B.length/\vi=I6 k/\At E Rf N (cF.no.and (cF.ri dM (.slice A3 B.length c3) B)) T (1000*k) none [] o w wr) (fun vi _=>B.length - (intOf vi).toNat)
 case atStart=>exact⟨0,by omega,rfl,H3⟩
 case round=>
  obtain⟨k,hk,rfl,i⟩:=hrel;have x:=aH i;by_cases hlt:k < B.length
  ·obtain⟨oF,f⟩:=i.facts;obtain⟨g,og,rfl,c⟩:=f.2.rw.at_ (zA hlt);have c0:Ce wr g (og+k*2) (I6 B[k].at_):=by have:=c 0 _ rfl;simpa[dM]using this
   have c1:Ce wr g (og+k*2+1) (I6 B[k].id):=by have:=c 1 _ rfl;simpa[dM]using this
   generalize B[k]=t at c0 c1;have e1:=ba wr (.cells #[I6 t.at_,I6 t.id] 137);have n1:=am.new wr 137 #[I6 t.at_,I6 t.id];obtain⟨W1,h8⟩:=nM (wr.alloc (.cells #[I6 t.at_,I6 t.id] 137));rw[h8]at e1 n1;have d1:=dt n1;have y:=aH ((x.below e1).late (by omega) t.id);clear i f c e1 n1;go_upto_region 6 with(fail);simp only[h8.out];go_wp2_with fail;refine y.mono ?_;rintro a w4 ⟨rfl,h4⟩;have H4:=aH (h4.more (B':=1000*(k+1)) (by omega));clear h4;go_wp2_with fail;go_roundw
   case rel=>exact⟨k+1,hlt,by go_num,H4⟩
   case measure=>simp[intOf];omega
  have H4:=aH ((x.ao).more (B':=4100000) (by omega));have n:=H4.cells.st;have HH:=aH H4.holds;clear i H3 x;go_wp2_with fail;refine HH.mono ?_;rintro a w5 ⟨l5,⟨v5,rfl,xa,xb⟩,xN,xc⟩;obtain⟨xO,H5⟩:=gB (vW V w5 xa.rw xN xc) (H4.below xb);clear xb xa xc;go_wp2_with fail;refine xO.mono ?_;rintro a w6 ⟨l6,⟨v6,rfl,xd,xe⟩,xP,xf⟩;have xQ:=aH ((H5.below xe).ba fun o h hS=>fG h xd.rw xP xf);clear xe xd xf n;go_wp2_with fail;refine xQ.mono ?_;rintro a w7 ⟨t7,rfl,h7⟩;have xg:=h7.cells.wm;have e8:=ba w7 (.cells #[.map (some N.wm)] 86);obtain⟨xR,xS⟩:=gB ((h7.below e8).sorted (am.new w7 86 #[.map (some N.wm)])) (y1 N.wm w7);clear h7 e8;go_wp2_with fail;refine xS.mono ?_;rintro a w8 ⟨rfl,rfl⟩;go_wp2_with fail;refine xR.mono ?_;rintro a w9 ⟨v9,C,m9,rfl,yo,xh,xi,h9⟩;obtain⟨oF,f⟩:=h9.facts;obtain⟨A9,c9,rfl,_⟩:=f.2.rw.slice;obtain⟨H9,M9,Z9⟩:=gC h9 xh xi;clear h9 xh xi f xg;go_wp2_with fail;go_loopw[51] (fun vi wr=>∃k:Nat,k<=C.length/\vi=I6 k/\At E Rf N (cF.no.and (cF.ri aC (.slice A9 C.length c9) C)) T (4100000+2000*k) none [] o w wr/\wr.heap[N.wm]?=w9.heap[N.wm]?) (fun vi _=>C.length - (intOf vi).toNat)
  case atStart=>exact⟨0,by omega,rfl,H9,rfl⟩
  case round=>
   obtain⟨k,hk,rfl,i,X⟩:=hrel;obtain⟨x,A2⟩:=gB i X;by_cases hlt:k < C.length
   ·obtain⟨oF,f⟩:=i.facts;obtain⟨g,og,rfl,c⟩:=f.2.rw.at_ (zA hlt);have c0:Ce wr g (og+k) (I6 C[k]):=by have:=c 0 _ rfl;simpa[aC]using this
    obtain⟨u,hu⟩:=Z9 C[k] (zY hlt);generalize C[k]=z at c0 hu;have hn:=M9.kept X;obtain⟨b,rfl,hC⟩:=i.again_ (by omega) hn hu;have xj:=(hn.lookup (P:=prog) (t:=86) (kt:=3) (et:=144) (z:=.pointer none) (by kernel_rfl) (by kernel_rfl) (by kernel_rfl) z).2;rw[hu]at xj;simp only[Option.getD_some]at xj;have y:=aH hC;have xg:=i.cells.wm;clear i X f c hn hC hu;go_wp2_with fail;refine y.mono ?_;rintro a yp ⟨rfl,xk,Y⟩;obtain⟨hp,xT⟩:=gB (xk.more (B':=4100000+2000*(k+1)) (by omega)) (Y.trans A2);clear xk Y;go_wp2_with fail;go_roundw
    case rel=>exact⟨k+1,hlt,by go_num,hp,xT⟩
    case measure=>simp[intOf];omega
   have hp:=aH ((x.ao).more (B':=i5) (by unfold i5;omega));have hq:=bP wr;have Z:=aH (hp.below hq);have hr:=Z.cells.wt;have n:=Z.cells.st;have HV:=aH Z.view;clear i X H9 x A2 M9 Z9;go_wp2_with fail;go_region_held3 (fun W=>Ce W N.nb 14 (Pt N.wt)/\Ce W N.nb 1 (Pt N.st))
    (first|exact⟨hr,n⟩|exact⟨aD A hr,aD A n⟩|exact⟨p.cells.wt,p.cells.st⟩)
    (first
     |(go_at_call 66;(with_reducible refine(HV.out).mono ?_);rintro a yq ⟨yr,⟨ys,rfl,hs,A⟩,xy,ht⟩)
     |(go_at_call 65;(with_reducible refine(Z.out.watch A hs xy ht (by omega) V hm).mono ?_);rintro a xU ⟨xl,is,yt,xm,rfl,yj,hw,p⟩))
   obtain⟨oF,f⟩:=p.facts;obtain⟨xV,xW,rfl,_⟩:=f.2.rw.slice;obtain⟨ha,xX,xY⟩:=gC p hw p.view;have hb:Hid (Rw aL xU (.slice xV xm.length xW) xm):=aH f.2.rw;have n:=p.cells.st;clear p hw f hr A hs ht hq;go_wp2_with fail;refine xY.mono ?_;rintro a xZ ⟨yu,⟨yv,rfl,hy,M⟩,yk,xz⟩;obtain⟨x0,hz⟩:=gB (fY xZ (hb.below M) hy.rw (by omega) (by omega)) M;clear hy M xz n;go_wp2_with fail;refine x0.mono ?_;rintro a w14 ⟨hB,hD⟩;obtain⟨x1,rfl⟩:∃t,a=.returned (.bool t):=⟨_,hB⟩;have s:=aH (hz.trans (hD.mono hz.size));clear hB hD hz;cases x1
   case' false=>
    have xn:=aH (oj w14 (hb.below s) (by omega) xX);go_wp2_with fail;refine xn.mono ?_;rintro a yw ⟨yx,rfl,xA,hG⟩;have xo:=aH (ha.wrote (s.trans (hG.mono s.size)) xA);clear hG;go_wp2_with fail;refine xo.mono ?_;rintro a w16 ⟨yy,rfl,xp⟩;have j:=aH xp.ao;clear xp xo xn s hb ha
   rotate_left
   case' true=>
    obtain⟨w16,hh⟩:∃W,W=w14:=⟨_,rfl⟩;subst hh;have j:=aH ((ha.ao).below s);clear s hb ha
   rotate_left
   all_goals cases is
   case' false=>
    obtain⟨hc,hh⟩:∃W,W=w16:=⟨_,rfl⟩;subst hh;have D:=aH (j.more (B':=i5+1000) (by omega));clear j
   rotate_left
   case' true=>
    have hH:bN 0:=by unfold bN;omega
    have hI:bN 7:=by unfold bN;omega
    have q:=j.bw (by unfold i5;omega) ⟨7,0,0,0,0,[],0,0,0,0⟩ xl (by simp[ij,hH,hI]) (by simp);have hx:s9 ⟨7,0,0,0,0,[],0,0,0,0⟩ (aS) (aS) (aS) (aS) (aS)=.agg #[I6 7,I6 0,I6 0,I6 0,I6 0,Se,aS,aS,aS,aS,aS,I6 0,I6 0,I6 0,I6 0]:=rfl;rw[hx]at q;have y:=aH q;clear q hx;go_wp2_with fail;with_reducible refine y.out.mono ?_
    rintro a hc ⟨rfl,F⟩;have D:=aH F;clear F j y
   rotate_left
   case' false=>
    obtain⟨hc,hh⟩:∃W,W=w16:=⟨_,rfl⟩;subst hh;have D:=aH (j.more (B':=i5+1000) (by omega));clear j
   rotate_left
   case' true=>
    have hH:bN 0:=by unfold bN;omega
    have hI:bN 7:=by unfold bN;omega
    have q:=j.bw (by unfold i5;omega) ⟨7,0,0,0,0,[],0,0,0,0⟩ xl (by simp[ij,hH,hI]) (by simp);have hx:s9 ⟨7,0,0,0,0,[],0,0,0,0⟩ (aS) (aS) (aS) (aS) (aS)=.agg #[I6 7,I6 0,I6 0,I6 0,I6 0,Se,aS,aS,aS,aS,aS,I6 0,I6 0,I6 0,I6 0]:=rfl;rw[hx]at q;have y:=aH q;clear q hx;go_wp2_with fail;with_reducible refine y.out.mono ?_
    rintro a hc ⟨rfl,F⟩;have D:=aH F;clear F j y
   rotate_left
   all_goals
    have hd:=aH (D.below (bP hc));have n:=hd.cells.st;have HT:=aH hd.tags;go_wp2_with fail;go_region_held3 (fun W=>Ce W N.nb 1 (Pt N.st))
     (first|with_reducible exact n|with_reducible exact he.cells.st|with_reducible exact hf.cells.st|with_reducible exact hL.cells.st|with_reducible exact hg.cells.st|with_reducible exact hV.cells.st|with_reducible exact G.cells.st)
     (first
      |(go_at_call 69;(with_reducible refine(HT.out).mono ?_);rintro a yz ⟨xq,⟨y0,rfl,O,hJ⟩,xB,hK⟩;obtain⟨x2,x3,rfl,_⟩:=O.rw.slice;have he:=hd.add hJ (cF.ri a7 (.slice x2 xq.length x3) xq) (fun o ho=>RI.aa O ho))
      |(go_at_call 66;(with_reducible refine(hf.view).mono ?_);rintro a x4 ⟨y2,⟨y3,rfl,hM,hN⟩,xC,hO⟩;have hL:=hf.below hN)
      |(go_at_call 66;(with_reducible refine(he.view).mono ?_);rintro a y4 ⟨xr,⟨y5,rfl,R,hP⟩,xF,hQ⟩;obtain⟨x5,x6,rfl,_⟩:=R.rw.slice;have hf:=he.add hP (cF.ri aL (.slice x5 xr.length x6) xr) (fun o ho=>RI.aa R ho))
      |(go_at_call 71;(with_reducible refine(ig x4 hM.rw xC hO).mono ?_);rintro a y6 ⟨y7,⟨y8,rfl,hR,hU⟩,yl,_⟩;have hg:=hL.below hU)
      |(go_at_call 70;(with_reducible refine(dT hg.ah hR.rw (by omega)).mono ?_);rintro a y9 ⟨xs,⟨za,rfl,S,hW⟩,xG,_⟩;obtain⟨x7,x8,rfl,_⟩:=S.rw.slice;have hV:=hg.add hW (cF.ri aC (.slice x7 xs.length x8) xs) (fun o ho=>RI.aa S ho))
      |(go_at_call 68;(with_reducible refine(hV.sayN (by unfold i5;omega) xB hK xF hQ xG).mono ?_);rintro a zb ⟨rfl,G⟩))
    obtain⟨x9,ya⟩:=gB G G.parts;have hX:=G.cells.hd;clear he hf hL hg hV G O R hM hR S hJ hP hN hU hW hK hQ hO n hd D;go_wp2_with fail;refine ya.mono ?_;rintro a zc ⟨m,zd,rfl,ym,hY,hZ⟩;obtain⟨oF,f⟩:=hZ.facts;obtain⟨yb,yc,rfl,_⟩:=f.2.rw.slice;obtain⟨xt,yd⟩:=gB hZ hY;clear hZ hY f hX x9;go_wp2_with fail;go_loopw[126] (fun vi wr=>∃k:Nat,k<=m.length/\vi=I6 k/\At E Rf N (cF.no.and (cF.ri aC (.slice yb m.length yc) m)) (T+1) (i5+2000+1000*k) none [] o w wr) (fun vi _=>m.length - (intOf vi).toNat)
    case atStart=>exact⟨0,by omega,rfl,xt⟩
    case round=>
     obtain⟨k,hk,rfl,i⟩:=hrel;have x:=aH i;by_cases hlt:k < m.length
     ·obtain⟨oF,f⟩:=i.facts;obtain⟨g,og,rfl,c⟩:=f.2.rw.at_ (zA hlt);have c0:Ce wr g (og+k) (I6 m[k]):=by have:=c 0 _ rfl;simpa[aC]using this
      obtain⟨pt,xu,xv⟩:∃pt:Nat,pt < 16/\m[k]=(pt:Nat):=by
       have:=yd _ (zY hlt);exact⟨m[k].toNat,by omega,by omega⟩
      rw[xv]at c0;have D1:=aH (i.below (bP wr));have n:=D1.cells.st;have hX:=D1.cells.hd;have ye:=aH (D1.bag pt xu);clear i f c xv;go_wp2_with fail;go_region_held3 (fun W=>Ce W N.nb 1 (Pt N.st)/\Ce W N.nb 13 (Pt N.hd))
       (first|with_reducible exact⟨n,hX⟩|with_reducible exact⟨I.cells.st,I.cells.hd⟩|with_reducible exact⟨J.cells.st,J.cells.hd⟩|with_reducible exact⟨L.cells.st,L.cells.hd⟩|with_reducible exact⟨hj.cells.st,hj.cells.hd⟩|with_reducible exact⟨hl.cells.st,hl.cells.hd⟩)
       (first
        |(go_at_call 54;(with_reducible refine(ye.out).mono ?_);rintro a ze ⟨vl,vb,vc,ls,lb,lc,rfl,r1,r2,r3,r4,r5,r6,r7,r8,r9,xw⟩;obtain⟨Aa,ca,rfl,_⟩:=r1.rw.slice;obtain⟨Ab,cb,rfl,_⟩:=r2.rw.slice;obtain⟨Ac,cc,rfl,_⟩:=r3.rw.slice;have I:=D1.add xw (cF.bag (.slice Aa ls.length ca) (.slice Ab lb.length cb) (.slice Ac lc.length cc) ls lb lc) (fun o ho=>⟨RI.aa r1 ho,RI.aa r2 ho,RI.aa r3 ho⟩))
        |(go_at_call 74;(with_reducible refine(I.owners (pt:Nat)).mono ?_);rintro a zf ⟨zg,⟨zh,rfl,h0,h1⟩,xH,_⟩;have J:=I.below h1)
        |(go_at_call 70;(with_reducible refine(dT J.ah h0.rw xH).mono ?_);rintro a zi ⟨zj,⟨zk,rfl,h2,h5⟩,xI,_⟩;have L:=J.below h5)
        |(go_at_call 73;(with_reducible refine(L.lack (pt:Nat) h2.rw xI).mono ?_);rintro a zl ⟨xx,⟨zm,rfl,U,h6⟩,xJ,_⟩;obtain⟨yf,yg,rfl,_⟩:=U.rw.slice;have hj:=L.add h6 (cF.ri aC (.slice yf xx.length yg) xx) (fun o ho=>RI.aa U ho))
        |(go_at_call 68;(with_reducible refine(hj.sayP (by unfold i5;omega) xu r5 r6 r7 r8 r9 xJ).mono ?_);rintro a zn ⟨rfl,hl⟩))
      have yh:=aH (hl.more (B':=i5+2000+1000*(k+1)) (by omega));clear I J L hj hl r1 r2 r3 r4 r5 r6 r7 r8 r9 xw h0 h2 U h1 h5 h6;go_wp2_with fail;go_roundw
      case rel=>exact⟨k+1,hlt,by go_num,yh⟩
      case measure=>simp[intOf];omega
     have HE:=aH ((x.ao).more (B':=300000000) (by unfold i5;omega)).out;clear i x xt;go_wp2_with fail;refine HE.mono ?_;rintro a wE ⟨v1,v2,reps,lets,oE,rfl,hE⟩;have yi:=aH hE;clear hE;go_wp2_with fail;go_ret2;exact⟨v1,v2,reps,lets,oE,rfl,yi⟩
end
theorem kK(b:Nat) s(t:Tg)(w:World)(hb:Ce w b 1 (.string (aF s))):
  Cs 269 #[.agg #[.string (aF t.nm),I6 t.n],Pt b] w fun e w'=>Rt e (.bool (!(t.nm==s)))/\Below w.heap.size w w':=by
 have a:=qX w _ hb;have c:∀o,Ce (w.alloc o) b 1 (.string (aF s)):=fun o=>(Below.cell (ba w o) (p:=⟨b,1,none⟩) a).trans hb;apply cI;go_in;go_wp2;go_ret;exact⟨rfl,ba _ _⟩
theorem CX(M hx hC:Int)(h:aE E Rf N T B (some k) rsv o w)(hD:E.cs[k]?=some cl)(J:cl.op≠3)(h4:cl.op≠4)(hq:q.length<=100):
  Cs 178 #[Pt N.nb,I6 (k:Nat),.agg #[I6 M,.string (aF q),.string (aF bd),I6 hx],I6 hC] w (Nd E Rf N T B none rsv o w (.tuple #[])):=by
 obtain⟨W0,HW,HB,x0⟩:=dW w #[I6 M,.string (aF q),.string (aF bd),I6 hx] 48;obtain⟨j,S0,hy⟩:=gC (h.below HB) (Sk.J (N:=N) HB h.fin) hD;have a0:=ce x0;have a1:=dt x0;have y1:=j.cells.st;obtain⟨L,A⟩:=gB x0 (fun W (hb:Bw W0 W)=>show Ce W N.nb 1 (Pt N.st)/\Ce W w.heap.size 1 (.string (aF q))from⟨aD hb y1,aD hb a1⟩);obtain⟨n0,hI,hJ,hE⟩:=j.state;have hz:Bw W0 W0.drew:=bD _;obtain⟨HC,y⟩:=gB (lh (hE.below hz j.fin)) hz;apply cI;go_in;go_upto_region 1 with(fail);simp only[HW.out];by_cases hop:M=2
 ·have d0:(M==2)=true:=by simpa using hop
  go_upto_region 4 with(fail);go_region_held3 (fun w'=>Ce w' N.nb 1 (Pt N.st)/\Ce w' w.heap.size 1 (.string (aF q)))
   (first|exact A _ (bR _)|exact A _ y|exact A _ b|exact A _ (b.trans (n.mono b.size)))
   (first
    |(go_at_call 69;(with_reducible refine(HC.out).mono ?_);rintro m w1 ⟨l1,⟨v1,rfl,O,C⟩,R,S⟩;have b:=aH (y.trans (C.mono y.size));clear C)
    |(go_at_call 267;(with_reducible refine(zi q w1 O.rw R S hq).mono ?_);rintro m U ⟨v7,G,V,rfl,i,X,Y,n⟩))
  all_goals
   obtain⟨A7,k7,rfl,_⟩:=i.rw.slice;have c:=aH (b.trans (n.mono b.size));have hA:=n;by_cases hc7:G=0
   case neg=>
    have d8:(G != 0)=true:=by simpa using hc7
    obtain⟨Z,S7⟩:=gB (bY (j.below c) G hc7) (S0.trans (.J c j.fin));go_wp2_with fail;refine Z.mono ?_;rintro m w8 ⟨rfl,o8,h8,s8⟩;obtain⟨H8,S8⟩:=gB h8 (S7.trans s8);go_wp2_with fail;go_end0;exact⟨rfl,o8,H8,S8⟩
   subst hc7;have hc:∀t W,Bw U W->Cs 269 (#[(fun t:Tg=>.agg #[.string (aF t.nm),I6 t.n]) t]++#[Pt w.heap.size]) W fun e W'=>Rt e (.bool (!(t.nm==q)))/\Bw W W':=fun t W hW=>kK _ q t W (am.cell ((L.below c).below hW) 1);obtain⟨hd,he,H⟩:=gC (rP 269 #[Pt w.heap.size] (fun t=>!(t.nm==q)) _ _ V U i (by omega) (aQ func269 (by kernel_rfl) (by kernel_rfl)) hc (fun g hg t W hW=>kK _ q t W (am.cell ((L.below c).only hW (by have h1:=(i.lt g hg).1;have h2:=ap L;have J:=b.size;omega)) 1))) i Y;go_wp2_with fail;refine hd.mono ?_;rintro m w8 ⟨v8,rfl,p,hf⟩;have D:=aH (c.grown hf c.size (fun k hk=>by have h1:=(he.lt k hk).1;have J:=b.size;omega));obtain⟨l8,s⟩:=nx (V.filter (fun t=>!(!(t.nm==q))));have hB:l8.length<=100:=by rw[<-s];exact zD (qO _ _) X
   have I:∀a∈l8,iw a:=fun a ha=>by rw[<-s]at ha;exact H a (qV.1 ha).1
   rw[s]at p;obtain⟨A8,k8,rfl,_⟩:=p.rw.slice;have hh:=aH (j0 w8 p.rw (by omega) I);go_wp2_with fail;refine hh.mono ?_;rintro m w9 ⟨z,rfl,hF,hj⟩;have f:=D.trans (hj.mono D.size);have u:=f.alloc f.size (.cells #[.string (aF (78::z))] 9);have hl:=aH (dU (rs:=[78::z]) (j.below u) (j6 bM _ j.fin f.size) (by simp) (fun r hr=>by
    rw[qR]at hr;subst hr;have h0:ix (78::z)=0/\fh (78::z)=0:=en (by decide) (by decide);exact⟨gw (by decide),.inl h0.1,by omega,by simp;omega⟩))
   have S9:=aH (S0.trans (.J u j.fin));go_wp2_with fail;refine hl.mono ?_;rintro m hG ⟨t,rfl,hm,x,hn⟩;have F:=aH (S9.trans hn);cases t
   ·have ho:=aH x.bf;go_wp2_with fail;go_end0;exact⟨rfl,hm,ho,F⟩
   have HR:=aH (dH x ⟨0,0,0,⟨⟨0,0⟩,[],[],0⟩,0⟩ (x.other hy J h4));go_wp2_with fail;refine HR.mono ?_;rintro m hH ⟨rfl,hp,hs,ht⟩;obtain⟨hu,hw⟩:=gB hs (F.trans ht);go_wp2_with fail;go_end0;exact⟨rfl,hp,hu,hw⟩
 ·have d0:(M==2)=false:=by simpa using hop
  go_upto_region 4 with(fail);go_region_held3 (fun w'=>Ce w' N.nb 1 (Pt N.st)/\Ce w' w.heap.size 1 (.string (aF q)))
   (first|exact A _ (bR _)|exact A _ y|exact A _ b|exact A _ (b.trans (n.mono b.size)))
   (first
    |(go_at_call 69;(with_reducible refine(HC.out).mono ?_);rintro m w1 ⟨l1,⟨v1,rfl,O,C⟩,R,S⟩;have b:=aH (y.trans (C.mono y.size));clear C)
    |(go_at_call 266;(with_reducible refine(zh q w1 O.rw R S hq).mono ?_);rintro m U ⟨v7,G,V,rfl,i,X,Y,n⟩))
  all_goals
   obtain⟨A7,k7,rfl,_⟩:=i.rw.slice;have c:=aH (b.trans (n.mono b.size));have hA:=n;by_cases hc7:G=0
   case neg=>
    have d8:(G != 0)=true:=by simpa using hc7
    obtain⟨Z,S7⟩:=gB (bY (j.below c) G hc7) (S0.trans (.J c j.fin));go_wp2_with fail;refine Z.mono ?_;rintro m w8 ⟨rfl,o8,h8,s8⟩;obtain⟨H8,S8⟩:=gB h8 (S7.trans s8);go_wp2_with fail;go_end0;exact⟨rfl,o8,H8,S8⟩
   subst hc7;have hc:∀t W,Bw U W->Cs 269 (#[(fun t:Tg=>.agg #[.string (aF t.nm),I6 t.n]) t]++#[Pt w.heap.size]) W fun e W'=>Rt e (.bool (!(t.nm==q)))/\Bw W W':=fun t W hW=>kK _ q t W (am.cell ((L.below c).below hW) 1);obtain⟨hd,he,H⟩:=gC (rP 269 #[Pt w.heap.size] (fun t=>!(t.nm==q)) _ _ V U i (by omega) (aQ func269 (by kernel_rfl) (by kernel_rfl)) hc (fun g hg t W hW=>kK _ q t W (am.cell ((L.below c).only hW (by have h1:=(i.lt g hg).1;have h2:=ap L;have J:=b.size;omega)) 1))) i Y;go_wp2_with fail;refine hd.mono ?_;rintro m w8 ⟨v8,rfl,p,hf⟩;have D:=aH (c.grown hf c.size (fun k hk=>by have h1:=(he.lt k hk).1;have J:=b.size;omega));obtain⟨l8,s⟩:=nx (V.filter (fun t=>!(!(t.nm==q))));have hB:l8.length<=100:=by rw[<-s];exact zD (qO _ _) X
   have I:∀a∈l8,iw a:=fun a ha=>by rw[<-s]at ha;exact H a (qV.1 ha).1
   rw[s]at p;obtain⟨A8,k8,rfl,_⟩:=p.rw.slice;have hh:=aH (j0 w8 p.rw (by omega) I);go_wp2_with fail;refine hh.mono ?_;rintro m w9 ⟨z,rfl,hF,hj⟩;have f:=D.trans (hj.mono D.size);have u:=f.alloc f.size (.cells #[.string (aF (78::z))] 9);have hl:=aH (dU (rs:=[78::z]) (j.below u) (j6 bM _ j.fin f.size) (by simp) (fun r hr=>by
    rw[qR]at hr;subst hr;have h0:ix (78::z)=0/\fh (78::z)=0:=en (by decide) (by decide);exact⟨gw (by decide),.inl h0.1,by omega,by simp;omega⟩))
   have S9:=aH (S0.trans (.J u j.fin));go_wp2_with fail;refine hl.mono ?_;rintro m hG ⟨t,rfl,hm,x,hn⟩;have F:=aH (S9.trans hn);cases t
   ·have ho:=aH x.bf;go_wp2_with fail;go_end0;exact⟨rfl,hm,ho,F⟩
   have HR:=aH (dH x ⟨0,0,0,⟨⟨0,0⟩,[],[],0⟩,0⟩ (x.other hy J h4));go_wp2_with fail;refine HR.mono ?_;rintro m hH ⟨rfl,hp,hs,ht⟩;obtain⟨hu,hw⟩:=gB hs (F.trans ht);go_wp2_with fail;go_end0;exact⟨rfl,hp,hu,hw⟩
section
variable{g:Qg}{seq:Int}
theorem aE.boxed(h:aE E Rf N T B hand rsv o w) cs:aE E Rf N T B hand rsv (b7 o w.heap.size (N.i,w.heap.size)) (w.alloc (.cells cs 207))/\Sk N o w (b7 o w.heap.size (N.i,w.heap.size)) (w.alloc (.cells cs 207))/\St (·=(N.i,w.heap.size)) o w (b7 o w.heap.size (N.i,w.heap.size)) (w.alloc (.cells cs 207)):=by
 have a:St (·=(N.i,w.heap.size)) o w (b7 o w.heap.size (N.i,w.heap.size)) (w.alloc (.cells cs 207)):=(St.J (ba _ _) h.fin).tag nR (by simp) (.inr rfl);obtain⟨b,c⟩:=h.bu nR a;exact⟨b,c,a⟩
abbrev FI:Rp:=⟨0,0,0,⟨⟨0,0⟩,[],[],0⟩,0⟩
theorem CY{q bd}(j C D:Int)(h:aE E Rf N T B (some k) rsv o w)(hB:B<=900000000)(ha:E.cs[k]?=some cl)(h3:cl.op≠3)(h4:cl.op≠4):
  Cs 181 #[Pt N.nb,I6 (k:Nat),.agg #[I6 j,.string (aF q),.string (aF bd),I6 C],I6 D] w (Ns E Rf N T (B+1000) none rsv o w (.tuple #[])):=by
 obtain⟨W0,HW,HB,x0⟩:=dW w #[I6 j,.string (aF q),.string (aF bd),I6 C] 48;have a3:=ef x0;obtain⟨x,S0⟩:=gB (h.below HB) (Sk.J (N:=N) HB h.fin);obtain⟨HL,hd,X0,hF⟩:=gD (oH C D x) ha x0 h.fin;have p:¬((0,0):Nat×Nat).1=N.i:=fun e=>h.i0 e.symm;apply cI;go_in;go_upto_region 1 with(fail);simp only[HW.out];go_wp2_with fail;refine HL.mono ?_;rintro m w1 ⟨he,v,er,rfl,hf⟩;have F:=aH he;rcases hf with⟨G,rfl⟩|⟨rfl,c,part,d,rc,rfl,hp,hc⟩
 ·have e1:=ba w1 (.cells #[.pointer none,I6 0] 353);have f:=F.trans (e1.mono F.size);obtain⟨H,S2⟩:=gB (bY (x.below f) er G) (S0.trans (.J f x.fin));have hx:(er==0)=false:=by simpa using G
  have hw:(er != 0)=true:=by simpa using G
  go_wp2_with fail;refine H.mono ?_;rintro m w3 ⟨rfl,a,h3,g⟩;obtain⟨R,S⟩:=gB h3 (S2.trans g);go_wp2_with fail;go_end0;exact⟨rfl,a,R.more (T':=0) (by omega),S.s⟩
 obtain⟨W2,hg,e1,n1⟩:=dW w1 #[Pt c,I6 (part:Nat)] 353;have f:=F.trans (e1.mono F.size);obtain⟨hh,S2,N2,C2,HP,X2,OL,OX⟩:=gH (fS (x.below f)) (S0.trans (.J f x.fin)) n1 (hc.below f) hp (X0.below f) (show o w1.heap.size=(0,0)from x.fin _ F.size) (show o w.heap.size=(0,0)from hF _ nR);go_upto_region 2 with(fail);simp only[hg.out];go_wp2_with fail;refine hh.mono ?_;rintro m w3 ⟨z,t,a,rfl,X,g,hz⟩;obtain⟨S,C3,L3,X3,hj,hk⟩:=gF (S2.trans g) (g.k.cla _ _ _ C2) (N2.st g.s (by rw[OL];exact p)) (X2.st g.s (by rw[OX];exact p)) (show a w.heap.size=(0,0) by rw[g.s.old _ (ap X2)];exact OX) (show a w1.heap.size=(0,0) by rw[g.s.old _ (ap N2)];exact OL);cases t
 ·have H:=aH (bY (show aE E Rf N T B (some k) rsv a w3 from X) 15 (by decide));go_wp2_with fail;refine H.mono ?_;rintro m w4 ⟨rfl,o4,h4,s4⟩;obtain⟨y,S4⟩:=gB h4 (S.trans s4);go_wp2_with fail;go_end0;exact⟨rfl,o4,y.more (T':=0) (by omega),S4.s⟩
 have hy:=hz rfl;have R:=aH (show aE E Rf N T B (some k) (z::rsv) a w3 from X);have hl:=aH (sk C3 R.fin);have l0:=ce L3;go_wp2_with fail;refine hl.mono ?_;rintro m w4 ⟨rfl,I,J⟩;have L:Sk N a w3 a w4:=⟨gz J,cN.cn J C3 I⟩;obtain⟨y,S4,C4,L4,X4⟩:=gE (R.cx C3 J I) (S.trans L) I (L3.st L.s (by rw[hk];exact p)) (X3.st L.s (by rw[hj];exact p));have hA:=ce L4;have hm:=aH (iQ C4);go_wp2_with fail;refine hm.mono ?_;rintro m w5 ⟨rfl,hn⟩;obtain⟨B5,ho⟩:=gB hn (sg (vl:=aS) (vb:=aS) (vc:=aS) (l:=[]) (lb:=[]) (lc:=[]) d w5 (RI.nil a _).rw (RI.nil a _).rw (RI.nil a _).rw (by simp) (by simp) (by simp) (by simp));go_wp2_with fail;refine ho.mono ?_;rintro m w6 ⟨cd,v6,rfl,vl,vb,vc,l6,Y,lc6,M,p1,p2,p3,_,hq,n,hC,hr,hs,i⟩;injection M with M;subst M;obtain⟨Aa,ca,rfl,_⟩:=p1.rw.slice;obtain⟨Ab,cb,rfl,_⟩:=p2.rw.slice;obtain⟨Ac,cc,rfl,_⟩:=p3.rw.slice;obtain rfl:l6=[]:=yP (by simpa using hq);obtain⟨W7,ht,U,n7⟩:=dW w6 #[.slice Aa 0 ca,.slice Ab Y.length cb,.slice Ac lc6.length cc] 131;have s:=B5.trans ((i.trans (U.mono i.size)).mono B5.size);have h7:=y.below s;obtain⟨d0,d1,d2⟩:=am.three n7;have x1:=ce (X4.below s);have x2:=dt (L4.below s);obtain⟨h8,s8,V⟩:=h7.boxed (eY j k part (.pointer none) FI fj);have n8:=am.new W7 207 (eY j k part (.pointer none) FI fj);have A:∀b,w5.heap.size<=b->a b=(0,0):=fun b hb=>y.fin b (zD B5.size hb)
 have O:=ci (r:=W7.heap.size) y.i0;have q1:=((RI.aa (o:=a) p1 A).below U (fun b hb=>A b (zD i.size hb))).st V O;have q2:=((RI.aa (o:=a) p2 A).below U (fun b hb=>A b (zD i.size hb))).st V O;have q3:=((RI.aa (o:=a) p3 A).below U (fun b hb=>A b (zD i.size hb))).st V O;have Z:fC ([]:List Mg) Y lc6:=⟨by simp,by simp at n;omega,by simp,hr,hs⟩;obtain⟨W8,u⟩:=nM (W7.alloc (.cells #[I6 j,I6 (k:Nat),I6 (part:Nat),.pointer none,.pointer none,I6 0,I6 0,I6 0,I6 0,I6 0,Se,Se,I6 0,I6 0,I6 0,I6 0,I6 0,I6 0,I6 0,Se,aS,aS,aS,aS,aS,I6 0,I6 0,I6 0,I6 0] 207));have bI:eY j k part (.pointer none) FI fj=#[I6 j,I6 (k:Nat),I6 (part:Nat),.pointer none,.pointer none,I6 0,I6 0,I6 0,I6 0,I6 0,Se,Se,I6 0,I6 0,I6 0,I6 0,I6 0,I6 0,I6 0,Se,aS,aS,aS,aS,aS,I6 0,I6 0,I6 0,I6 0]:=rfl;rw[bI,u]at h8 s8 V;rw[bI,u,<-bI]at n8;rw[bI,u]at q1 q2 q3;obtain⟨hu,S8⟩:=gB (lP (seq:=z) D h8 hB (a8 _ _ _) n8 HP.1 (h8.other hd h3 h4) q1 q2 q3 Z ⟨by simp,by simp at n;omega⟩ (by simp) (by have:=kI Z;simp at this n;omega) (by unfold bN;omega)) ((S4.trans (.J s y.fin)).trans s8);go_upto_region 9 with(fail);simp only[ht.out];go_wp2_with fail;simp only[u.out];refine hu.mono ?_;rintro m w9 ⟨rfl,o9,h9,s9⟩;obtain⟨H9,S9⟩:=gB (h9.drop (rsv':=rsv) (List.sublist_cons_self z rsv)) (S8.s.trans s9);go_wp2_with fail;go_end0;exact⟨rfl,o9,H9,S9⟩
end
def lv(E:bX)(d:bC)(k:Nat):bX:=⟨E.cs,fun x=>if x=d then some k else E.K x⟩
theorem D0{d}(h:E.K d=none):E.Le (lv E d k):=by
 refine⟨⟨[],by simp[lv]⟩,fun x j hx=>?_⟩;unfold lv;by_cases e:x=d
 ·subst e;rw[h]at hx;cases hx
 ·simp[e,hx]
theorem D1{c:Cl}(h:pB E)(hc:E.cs[k]?=some c)(h3:c.op=3)(hn:c.nd=d.nd)(hK:∀x,E.K x≠some k)(hd:aO d=true):pB (lv E d k):=by
 have hx:∀x j,(lv E d k).K x=some j->x=d/\j=k\/x≠d/\E.K x=some j:=by
  intro x j hj;unfold lv at hj;by_cases e:x=d
  ·simp[e]at hj;exact .inl ⟨e,hj.symm⟩
  ·simp[e]at hj;exact .inr ⟨e,hj⟩
 refine⟨fun x j hj=>?_,fun x y j hj hy=>?_,fun x j hj=>?_⟩
 ·rcases hx x j hj with⟨rfl,rfl⟩|⟨_,h0⟩
  ·exact⟨c,hc,h3,hn⟩
  ·exact h.call x j h0
 ·rcases hx x j hj with⟨rfl,rfl⟩|⟨_,h0⟩<;>rcases hx y _ hy with⟨rfl,e⟩|⟨_,h1⟩
  ·rfl
  ·exact absurd h1 (hK y)
  ·subst e;exact absurd h0 (hK x)
  ·exact h.one x y j h0 h1
 ·rcases hx x j hj with⟨rfl,rfl⟩|⟨_,h0⟩
  ·exact hd
  ·exact h.ok x j h0
def iy(E:bX)(Rf:Nat->Prop)(N:Nb)(T B:Nat)(o:Ow)(w:World)(v:Value)(e:Ending)(w':World):Prop:=Rt e v/\∃E' o',E.Le E'/\E'.cs=E.cs/\(∀x j,E'.K x=some j->E.K x=some j\/x.nd=(N.i:Nat))/\aE E' Rf N T B none [] o' w'/\St (fun y=>y.1=N.i) o w o' w'
theorem Ns.e{v}{e}(h:Ns E Rf N T B none [] o w v e w'):iy E Rf N T B o w v e w':=by
 obtain⟨a,o',b,c⟩:=h;exact⟨a,E,o',.refl E,rfl,fun x j hj=>.inl hj,b,c⟩
theorem CZ{a:List UInt8}(hC hD:Int)(h:aE E Rf N T B (some k) [] o w)(hB:B<=900000000)(ha:E.cs[k]?=some cl)(h3:cl.op=3)(hE:cl.q=q)(hG:cl.b=a)(hK:∀x,E.K x≠some k)(hq:q.length<=100)(xH:a.length<=1000000000):
  Cs 179 #[Pt N.nb,I6 (k:Nat),.agg #[I6 3,.string (aF q),.string (aF a),I6 hC],I6 hD] w (iy E Rf N T (B+1000) o w (.tuple #[])):=by
 have hH:cl.nd=(N.i:Nat):=by obtain⟨c,e1,e2⟩:=h.cg;rw[ha]at e1;obtain rfl:=jI e1;exact e2
 obtain⟨W0,HW,HB,x0⟩:=dW w #[I6 3,.string (aF q),.string (aF a),I6 hC] 48;obtain⟨y,S0,xe⟩:=gC (h.below HB) (Sk.J (N:=N) HB h.fin) (zB ha (zB h3 (zB hE (zB hG (zB hK hH)))));have a1:=dt x0;have a2:=ed x0;have y1:=y.cells.st;obtain⟨X0,KS,KB,xf,HP⟩:=gE x0 (fun W (hb:Bw W0 W)=>show Ce W N.nb 1 (Pt N.st)/\Ce W w.heap.size 1 (.string (aF q))from⟨aD hb y1,aD hb a1⟩) (fun W (hb:Bw W0 W)=>show Ce W w.heap.size 2 (.string (aF a))from aD hb a2) h.fin (ll N.tv q W0 y.tab.1 (by omega));have hc:Bw W0 W0.drew:=bD _;obtain⟨n0,xI,xJ,he⟩:=y.state;obtain⟨HC,xg,hf⟩:=gC (lh (he.below hc y.fin)) (fun W (hb:Bw W0 W) p hp=>eH (he.below hb y.fin) p hp (by omega)) hc;clear h x0 he ha hc h3 hE hG hK hH;apply cI;go_in;go_upto_region 1 with(fail);simp only[HW.out];go_wp2_with fail;refine HP.mono ?_;rintro n _w ⟨⟨Y,hI,rfl⟩,rfl⟩;go_upto_region 2 with(fail);go_region_held3 (fun w'=>Ce w' N.nb 1 (Pt N.st)/\Ce w' w.heap.size 1 (.string (aF q)))
  (first|exact KS _ (bR _)|exact KS _ hf|exact KS _ G|exact KS _ (G.trans (hg.mono G.size)))
  (first
   |(go_at_call 69;(with_reducible refine(HC.out).mono ?_);rintro n w1 ⟨l1,⟨v1,rfl,hJ,hM⟩,xh,xi⟩;have G:=aH (hf.trans (hM.mono hf.size));clear hM)
   |(go_at_call 271;(with_reducible refine(B6 q w1 hJ.rw (zD xh (by decide))).mono ?_);rintro n w2 ⟨xj,hg⟩;obtain⟨t2,rfl⟩:∃t,n=.returned (.bool t):=xj))
 have s:=aH (G.trans (hg.mono G.size));have k2:=KB _ s;have Z:=KS _ s;obtain⟨xk,xl⟩:=Z;clear hJ xi hg a1 a2 y1 G;cases t2
 ·obtain⟨f,u⟩:=gB (bY (y.below s) 12 (by decide)) (S0.trans (.J s y.fin));go_wp2_with fail;refine f.mono ?_;rintro n wF ⟨rfl,A,g,i⟩;obtain⟨C,D⟩:=gB (g.more (B':=B+1000) (T':=0) (by omega)) (u.trans i);clear g i;go_wp2_with fail;go_end0;exact Ns.e ⟨rfl,A,C,D.s⟩
 by_cases hbl:(1000:Int) < a.length
 ·have d2:decide ((a.length:Int) > 1000)=true:=by simpa using hbl
  obtain⟨f,u⟩:=gB (bY (y.below s) 11 (by decide)) (S0.trans (.J s y.fin));go_wp2_with fail;refine f.mono ?_;rintro n wF ⟨rfl,A,g,i⟩;obtain⟨C,D⟩:=gB (g.more (B':=B+1000) (T':=0) (by omega)) (u.trans i);clear g i;go_wp2_with fail;go_end0;exact Ns.e ⟨rfl,A,C,D.s⟩
 have d2:decide ((a.length:Int) > 1000)=false:=by simpa using hbl
 have xm:=aH (xg _ s Y hI);clear xl;go_wp2_with fail;refine xm.mono ?_;rintro n w3 ⟨xn,xo,xp,l3,hO,hP,rfl,o1,o2,o3,_,xq,xd,hQ,hR,hS,hT⟩;have hU:=aH (fx w3 xn xo xp l3 hO hP o1.rw o2.rw o3.rw (by omega) (by omega) (by omega) (fun m hm=>(hQ m hm).lt) (fun d hd=>b0 (hR d hd)) (fun d hd=>b0 (hS d hd)));obtain⟨sb,hV⟩:=nx (c6 l3 hO hP);rw[hV]at hU;have hW:=aH (s.trans (hT.mono s.size));clear o1 o2 o3 hQ hR hS hT hV xk k2 xq xd;go_wp2_with fail;refine hU.mono ?_;rintro n w4 ⟨rfl,hX⟩;have hh:=aH (hW.trans (hX.mono hW.size));obtain⟨S4,H4,X4,hY⟩:=gD (S0.trans (.J hh y.fin)) (y.below hh) (X0.below hh) (show o w.heap.size=(0,0)from xf _ nR);have hZ:¬((0,0):Nat×Nat).1=N.i:=fun e=>y.i0 e.symm;clear hX;by_cases hsl:(6000:Int) < sb.length
 ·have d3:decide ((sb.length:Int) > 6000)=true:=by simpa using hsl
  obtain⟨f,u⟩:=gB (bY H4 15 (by decide)) (S4);go_wp2_with fail;refine f.mono ?_;rintro n wF ⟨rfl,A,g,i⟩;obtain⟨C,D⟩:=gB (g.more (B':=B+1000) (T':=0) (by omega)) (u.trans i);clear g i;go_wp2_with fail;go_end0;exact Ns.e ⟨rfl,A,C,D.s⟩
 have d3:decide ((sb.length:Int) > 6000)=false:=by simpa using hsl
 have xr:=aH (fS H4);go_wp2_with fail;refine xr.mono ?_;rintro n w5 ⟨z,t,o5,rfl,h0,s5,hz⟩;obtain⟨xs,S5,X5,h1,HZ⟩:=gE (fS h0) (S4.trans s5) (X4.st s5.s (by rw[hY];exact hZ)) (show o5 w.heap.size=(0,0) by rw[s5.s.old _ (ap X4)];exact hY) hz;clear h0 s5 hz;go_wp2_with fail;refine xs.mono ?_;rintro n w6 ⟨z2,t2,o6,rfl,R,s6,h2⟩;obtain⟨S6,X6,xK,xt⟩:=gD (S5.trans s6) (X5.st s6.s (by rw[h1];exact hZ)) (show o6 w.heap.size=(0,0) by rw[s6.s.old _ (ap X5)];exact h1) h2;clear s6 h2;by_cases hbt:t=true/\t2=true
 case neg=>
  have M:=aH (R.drop (rsv':=[]) (List.nil_sublist _));clear R;cases t
  ·obtain⟨f,u⟩:=gB (bY M 15 (by decide)) (S6);go_wp2_with fail;refine f.mono ?_;rintro n wF ⟨rfl,A,g,i⟩;obtain⟨C,D⟩:=gB (g.more (B':=B+1000) (T':=0) (by omega)) (u.trans i);clear g i;go_wp2_with fail;go_end0;exact Ns.e ⟨rfl,A,C,D.s⟩
  cases t2
  ·obtain⟨f,u⟩:=gB (bY M 15 (by decide)) (S6);go_wp2_with fail;refine f.mono ?_;rintro n wF ⟨rfl,A,g,i⟩;obtain⟨C,D⟩:=gB (g.more (B':=B+1000) (T':=0) (by omega)) (u.trans i);clear g i;go_wp2_with fail;go_end0;exact Ns.e ⟨rfl,A,C,D.s⟩
  ·exact absurd ⟨rfl,rfl⟩ hbt
 obtain⟨rfl,rfl⟩:=hbt;have M:=aH (show aE E Rf N T B (some k) [z2,z] o6 w6 from R);have xu:=HZ rfl;have xF:=xt rfl;have c1:=dt X6;have c2:=ed X6;obtain⟨KC,xv⟩:=gB (fun W (hb:Bw w6 W)=>show Ce W w.heap.size 1 (.string (aF q))/\Ce W w.heap.size 2 (.string (aF a))from⟨aD hb c1,aD hb c2⟩) (fun W (hb:Bw w6 W)=>eI (M.ah.below hb));clear R c1 c2;go_upto_region 12 with(fail);go_region_held3 (fun W=>Ce W w.heap.size 1 (.string (aF q))/\Ce W w.heap.size 2 (.string (aF a)))
  (exact KC _ (by with_reducible repeat(first|exact bR _|refine eJ ?_|refine ir ?_ nR|refine jY ?_)))
  (first
   |(go_at_call 52;(with_reducible refine(xv.out _ (by with_reducible repeat(first|exact bR _|refine eJ ?_|refine jY ?_))).mono ?_);rintro n _w ⟨rfl,rfl⟩
     try(have xC:am (w6.drew.alloc (.cells #[I6 0,I6 0,Se,Se,I6 0] 44)) w6.heap.size 44 #[I6 0,I6 0,Se,Se,I6 0]:=am.new w6.drew 44 #[I6 0,I6 0,Se,Se,I6 0];obtain⟨z0,z1,xw,z3,z4⟩:=am.ab xC;have zf:=fun j=>am.frozen xC j)))
 all_goals
  try clear z0 z1 xw z3 z4 zf xC
  obtain⟨W7,h4⟩:=nM ((w6.alloc (.cells #[I6 (N.i:Nat),I6 z,.string (aF q),.string (aF a),I6 0] 44)).drew);have e7:Bw w6 (w6.alloc (.cells #[I6 (N.i:Nat),I6 z,.string (aF q),.string (aF a),I6 0] 44)).drew:=(ba w6 _).drew;have n7:am (w6.alloc (.cells #[I6 (N.i:Nat),I6 z,.string (aF q),.string (aF a),I6 0] 44)).drew w6.heap.size 44 #[I6 (N.i:Nat),I6 z,.string (aF q),.string (aF a),I6 0]:=am.new w6 44 #[I6 (N.i:Nat),I6 z,.string (aF q),.string (aF a),I6 0];rw[h4]at e7 n7;obtain⟨y0,y1,y2,y3,y4⟩:=am.ab n7;have B7:=aH e7;have OZ:Hid (∀b,w6.heap.size<=b->o6 b=(0,0)):=aH M.fin;obtain⟨m,hm⟩:∃m:Mg,m=⟨⟨(N.i:Nat),z⟩,q,a,0⟩:=⟨_,rfl⟩;have HP:Hid (Cs 263 #[.agg #[aS,aS,aS],.agg #[I6 (N.i:Nat),I6 z,.string (aF q),.string (aF a),I6 0]] W7 (E4 W7 1 1 (fun x=>x=m))):=aH (by rw[hm];exact th ⟨⟨(N.i:Nat),z⟩,q,a,0⟩ W7);have HM:=aH hm;clear e7 n7 hm;go_upto_region 13 with(fail);simp only[h4.out];go_wp2_with fail;refine HP.mono ?_;rintro n w8 ⟨c8,v8,rfl,vl,vb,vc,l8,h5,lc8,hj,p1,p2,p3,_,xL,xG,S,hk,hl,I⟩;injection hj with hj;subst hj;obtain⟨Aa,ca,rfl,_⟩:=p1.rw.slice;obtain⟨Ab,cb,rfl,_⟩:=p2.rw.slice;obtain⟨Ac,cc,rfl,_⟩:=p3.rw.slice;obtain⟨W9,h6,e9,n9⟩:=dW w8 #[.slice Aa l8.length ca,.slice Ab h5.length cb,.slice Ac lc8.length cc] 131;have O:=I.trans (e9.mono I.size);have F:=B7.trans (O.mono B7.size)
  obtain⟨J,S9⟩:=gB (M.below F) (S6.trans (.J F M.fin));by_cases hc8:c8=0
  case neg=>
   have d8:(c8 != 0)=true:=by simpa using hc8
   have f:=aH (bY (J.drop (rsv':=[]) (List.nil_sublist _)) c8 hc8);clear p1 p2 p3 S hk hl I e9 n9 O F y0 y1 y2 y3 y4;go_upto_region 14 with(fail);simp only[h6.out];go_wp2_with fail;refine f.mono ?_;rintro n wF ⟨rfl,A,g,i⟩;obtain⟨C,D⟩:=gB (g.more (B':=B+1000) (T':=0) (by omega)) (S9.trans i);clear g i;go_wp2_with fail;go_end0;exact Ns.e ⟨rfl,A,C,D.s⟩
  subst hc8;have h7:E.K ⟨(N.i:Nat),z⟩=none:=by obtain⟨next,hL,hN⟩:=J.rest;exact(hN.rsv1 z (by simp)).2.2
  have i8:=J.i9;have i0:=J.i0;have ho:aO ⟨((N.i:Nat):Int),z⟩=true:=(ev _).2 ⟨by show(1:Int)<=((N.i:Nat):Int);omega,by show((N.i:Nat):Int)<=1099511627776;omega,xu.1,by show z<=1099511627776;omega⟩;obtain⟨Z,k3,kq,kb,kK,kn⟩:=xe.out;have hr:=D0 (k:=k) h7;have h8:=D1 J.kok Z k3 (d:=⟨(N.i:Nat),z⟩) kn kK ho;have hs:(lv E ⟨(N.i:Nat),z⟩ k).K ⟨(N.i:Nat),z⟩=some k:=by unfold lv;simp
  have h9:aE (lv E ⟨(N.i:Nat),z⟩ k) Rf N T B (some k) [] o6 W9:=J.env hr h8 J.cs.1 (fun x j hx hn=>by
   unfold lv at hx;by_cases e:x=⟨(N.i:Nat),z⟩
   ·subst e;exact .inr (by simp)
   ·simp[e]at hx;exact .inl hx) (List.nil_sublist _) (fun z hz=>by cases hz)
  have U:fR (lv E ⟨(N.i:Nat),z⟩ k) m:=by rw[HM];exact⟨ho,hq,by show a.length<=1000;omega,jL 0,by show(0:Int)<=1048576;decide,k,cl,hs,Z,kq,kb⟩
  have LE:=aH hr;obtain⟨E',V⟩:=nx (lv E ⟨(N.i:Nat),z⟩ k);have HX:Hid (E'.cs=E.cs/\∀x j,E'.K x=some j->E.K x=some j\/x.nd=(N.i:Nat)):=aH (by
   rw[<-V];refine⟨rfl,fun x j hx=>?_⟩;unfold lv at hx;by_cases e:x=⟨(N.i:Nat),z⟩
   ·subst e;exact .inr rfl
   ·simp[e]at hx;exact .inl hx)
  have xa:fE E' N.i {(⟨0,0,z,⟨⟨0,0⟩,[],[],0⟩,0⟩:Rp)with ref:=(k:Nat)}:=by rw[<-V];exact⟨⟨k,cl,rfl,Z,kn,fun _=>⟨fun _=>hs,fun h=>by omega⟩⟩⟩
  rw[V]at h9 U LE;obtain⟨ht,hu,L⟩:=h9.boxed (eY 3 k Y (.pointer none) ⟨0,0,z,⟨⟨0,0⟩,[],[],0⟩,0⟩ fj);have hw:=am.new W9 207 (eY 3 k Y (.pointer none) ⟨0,0,z,⟨⟨0,0⟩,[],[],0⟩,0⟩ fj);have hy:=ci (r:=W9.heap.size) J.i0;have fi:∀b,w8.heap.size<=b->o6 b=(0,0):=fun b hb=>OZ b (zD (zD B7.size I.size) hb);have X:∀b,W7.heap.size<=b->o6 b=(0,0):=fun b hb=>OZ b (zD B7.size hb);have q1:=((RI.aa (o:=o6) p1 X).below e9 fi).st L hy;have q2:=((RI.aa (o:=o6) p2 X).below e9 fi).st L hy;have q3:=((RI.aa (o:=o6) p3 X).below e9 fi).st L hy;have hA:fC l8 h5 lc8:=⟨by omega,by omega,fun x hx=>by rw[S x hx];exact U.lt,hk,hl⟩;obtain⟨xM,H⟩:=nM (W9.alloc (.cells #[I6 3,I6 (k:Nat),I6 (Y:Nat),.pointer none,.pointer none,I6 0,I6 0,I6 z,I6 0,I6 0,Se,Se,I6 0,I6 0,I6 0,I6 0,I6 0,I6 0,I6 0,Se,aS,aS,aS,aS,aS,I6 0,I6 0,I6 0,I6 0] 207));have bI:eY 3 k Y (.pointer none) ⟨0,0,z,⟨⟨0,0⟩,[],[],0⟩,0⟩ fj=#[I6 3,I6 (k:Nat),I6 (Y:Nat),.pointer none,.pointer none,I6 0,I6 0,I6 z,I6 0,I6 0,Se,Se,I6 0,I6 0,I6 0,I6 0,I6 0,I6 0,I6 0,Se,aS,aS,aS,aS,aS,I6 0,I6 0,I6 0,I6 0]:=rfl;rw[bI,H]at ht hu L;rw[bI,H,<-bI]at hw;rw[bI,H]at q1 q2 q3;obtain⟨xx,xy⟩:=gB (lP (seq:=z2) hD ht hB (a8 _ _ _) hw hI xa q1 q2 q3 hA ⟨by omega,by omega⟩ (fun x hx=>by rw[S x hx];exact U) (by have:=kI hA;omega) (by unfold bN;omega)) (S9.trans hu)
  obtain⟨d0,d1,d2⟩:=am.three n9;have x0:=ce (X6.below F);clear p1 p2 p3 S hk hl I e9 n9 O F y0 y1 y2 y3 y4 ht hu L hw q1 q2 q3 hA bI fi X h9 U xa V hs h8 hr Z k3 kq kb kK kn h7 ho;go_upto_region 16 with(fail);simp only[h6.out];go_wp2_with fail;simp only[H.out];refine xx.mono ?_;rintro n xN ⟨rfl,xz,xb,xc⟩;obtain⟨xA,xB⟩:=gB xb (xy.s.trans xc);clear xb xc;go_wp2_with fail;go_end0;exact⟨rfl,E',xz,LE,HX.1,HX.2,xA,xB⟩
section
open Go.Maps
structure G1(ws:List (Int×Qg)) where
 b:Nat
 ok:∃p∈ws,p.2.blk=b
def Fq(ws:List (Int×Qg)):Value->Option (DataW Unit×List MemPlace)
 | .pointer (some ⟨b,0,none⟩)=>if ws.any (fun p=>p.2.blk==b)then some (.nil,[])else none
 |_=>none
theorem Fr{p:Int×Qg}(h:p∈ws):Fq ws (td p.2.blk)=some (.nil,[]):=by
 show(if ws.any (fun q=>q.2.blk==p.2.blk)then _ else _)=_;rw[if_pos (yM.2 ⟨p,h,by simp⟩)]
theorem D2(ws:List (Int×Qg)):∀v y,Fq ws v=some y->∃c:G1 ws,v=td c.b:=by
 intro v y h;unfold Fq at h;split at h
 ·split at h
  ·rename_i hb;obtain⟨p,a,b⟩:=yM.1 hb;exact⟨⟨_,p,a,by simpa using b⟩,rfl⟩
  ·cases h
 ·cases h
theorem Fs{reps:List Rp}(h:gy Rf ws reps hand)(f:b4 w N.wm (lY ws))(g:∀p∈ws,p.2.ref < n):ws.length<=n:=by
 have c:=f.nodup;unfold lY at c;rw[List.map_map]at c;have i:(ws.map fun p=>p.2.ref).Nodup:=by
  rw[List.nodup_iff_pairwise_ne,jE]at c ⊢;exact(List.Pairwise.and_mem.1 c).imp fun{a b} hab e=>hab.2.2 (h.one a hab.1 b hab.2.1 e)
 have j:=dY n _ i (fun a ha=>by obtain⟨p,k,rfl⟩:=zV.1 ha;exact g p k);simpa using j
theorem xd(d:bC)(h:aE E Rf N T B hand rsv o w):
  Cs 278 #[Pt N.nb,.agg #[I6 d.nd,I6 d.n]] w fun e w'=>(∃t,Rt e (.bool t))/\Below w.heap.size w w':=by
 obtain⟨W0,HW,j,x0⟩:=dW w #[I6 d.nd,I6 d.n] 42;have C:=h.below j;have ht:=C.cells.wm;obtain⟨next,hL,hN⟩:=C.rest;obtain⟨dead,vr,vl,reps,lets,ws,qc,hv⟩:=hN.v;have bI:=C.cs;have hl:ws.length<=100000:=Fs hv.refs hv.wm (fun p hp=>by
  obtain⟨c,hc,_⟩:=bI.2 _ (hv.wok p hp).2.rf;have:=(zE.1 hc).1;omega)
 obtain⟨D,O,hu⟩:=lL (R:=Fq ws) hv.wm (fun p hp=>by
  obtain⟨q,S,rfl⟩:=zV.1 hp;exact⟨(hv.wok q S).1,Fr S⟩) (by unfold maxLen;simp[lY];omega)
 obtain⟨HQ,H0,X0⟩:=gC hv.wok C x0;apply cI;go_in;go_upto_region 1 with(fail);simp only[HW.out];go_wp2_with (first
  |(at_range;refine wpList_range_own _ rfl _ 86 rfl 3 144 (int_keyed underlying3) underlying86 _ N.wm _ D rfl O ?_;intro w0 U hd hw)
  |fail)
 go_frame;have G0:=aH (Below.grown (bQ W0) hd nR (fun k e=>by cases e));obtain⟨r,hr⟩:=nM W0.heap.size;go_loopw[6] (fun _ wr=>∃(left:Lit->Bool) (b:Nat),wr.ranges prog 3 (Fq ws) N.wm W0.heap.size (lY ws).length D left b/\Bw W0 wr) (fun _ wr=>wr.rangeLeft N.wm W0.heap.size)
 case atStart=>exact⟨_,_,U,G0⟩
 case round=>
  obtain⟨left,b,G,m⟩:=hrel;go_wp2_with (first
   |(at_next;refine wpList_next_ranges _ rfl _ rfl 3 (int_keyed underlying3) (Fq ws) (Value.int .i64) (fun c:G1 ws=>td c.b) (fun key kl hkey=>by obtain⟨x,rfl,_⟩:=Maps.keyOf_int_inv underlying3 hkey;exact⟨x,rfl⟩) (D2 ws) N.wm W0.heap.size _ _ _ _ rfl G ?_ ?_)
   |fail)
  ·intro _ _;have B1:=aH (j.trans (m.mono j.size));go_wp2_with fail;go_ret;exact⟨⟨_,rfl⟩,B1⟩
  ·intro x c kl y yy w1 hm hx hy hz hn V X he hA ho;have a:=m.grown he m.size (fun k e=>by cases e;exact nR);obtain⟨⟨ki,g⟩,hf,hg⟩:=c.ok;have H:=(HQ _ hf).2;obtain⟨r_,hs,I,_⟩:=H.cells;have Y:g.blk=c.b:=hg;rw[Y]at I;have F:=eV (I.below a);have J:=am.two (X0.below a);obtain⟨s,f,ha⟩:=gC (zB V (zB X G)) a H;have Z:Hid (∀W,Bw w1 W->(∃(left:Lit->Bool) (b:Nat),W.ranges prog 3 (Fq ws) N.wm W0.heap.size (lY ws).length D left b/\Bw W0 W)/\W.rangeLeft N.wm W0.heap.size < wr.rangeLeft N.wm W0.heap.size):=aH fun W hb=>by
    have h1:=s.1.kept (row:=none) ⟨hb.os,hb.tape,hb.output,hb.size,fun i hi _=>hb.block i hi⟩ (by simp) (by simp);exact⟨⟨_,_,h1,f.trans (hb.mono f.size)⟩,by rw[h1.left_eq,s.2.2.left_eq];exact s.2.1⟩
   cases hcl:g.cl with
   |none=>
    rw[hcl]at F;have u:Ce w1 c.b 4 (.pointer none):=F;have k4:=fun n=>show Ce (w1.drewN n) c.b 4 (.pointer none)from u;go_upto_region 4 with(fail);go_quiet (fail);go_wp2_with fail;exact Z _ ⟨rfl,rfl,rfl,nR,fun _ _=>rfl⟩
   |some z=>
    obtain⟨A,dd,rc⟩:=z;rw[hcl]at F;have u:Ce w1 c.b 4 (Pt A):=F;have hD:Bw w1 w1.drew:=bD _;have hh:=aH (iQ ((ha.cla A dd rc hcl).1.below (a.trans (hD.mono a.size))));have hj:Ce w1.drew c.b 4 (Pt A):=u;have d0:Ce w1.drew w.heap.size 0 (I6 d.nd):=J.1;have d1:Ce w1.drew w.heap.size 1 (I6 d.n):=J.2;have KS:=aH (fun W (hb:Below w1.drew.heap.size w1.drew W)=>show Ce W c.b 4 (Pt A)/\Ce W w.heap.size 0 (I6 d.nd)/\Ce W w.heap.size 1 (I6 d.n)from⟨aD hb hj,aD hb d0,aD hb d1⟩);have S:=fun W=>kr dd d W;have L:=aH hD;go_upto_region 4 with(fail);go_region_held3 (fun W=>Ce W c.b 4 (Pt A)/\Ce W w.heap.size 0 (I6 d.nd)/\Ce W w.heap.size 1 (I6 d.n))
     (first|exact KS _ (bR _)|exact KS _ M)
     (first
      |(go_at_call 261;(with_reducible refine(hh.out).mono ?_);rintro _e w5 ⟨rfl,M⟩))
    all_goals
     have B5:=aH (L.trans (M.mono L.size));have hk:=aH (j.trans ((f.trans (B5.mono f.size)).mono j.size));generalize bU dd d=tt;cases tt
     ·go_wp2_with fail;go_roundw
      case rel=>exact(Z _ B5).1
      case measure=>exact(Z _ B5).2
     ·go_wp2_with fail;go_ret;exact⟨⟨_,rfl⟩,hk⟩
end
def EF(w:World)(e:Ending)(w':World):Prop:=(∃b,Rt e (.bool b))/\Below w.heap.size w w'
def GN(w0:World)(K:Nat)(a:Array Value):Prop:=∀t W,Below w0.heap.size w0 W->Cs K (#[yq t]++a) W (EF W)
theorem zy(K:Nat) caps A(c:Nat)(l:List Mg)(w:World)(hr:Rw aU w (.slice A l.length c) l)(hn:l.length<=9223372036854775807)
  (hent:∀args W,(callFunc K args).run prog W=.ok (.enter K args) W) (hp:GN w K caps):
  Cs 275 #[.slice A l.length c,.func (.func K) #[] caps] w fun e w'=>(Rt e (I6 (-1))\/∃k:Nat,k < l.length/\Rt e (I6 k))/\Below w.heap.size w w':=by
 obtain⟨j,m⟩:=gB hr hp;apply cI;go_in;go_wp2;go_loopw[8] (fun i wr=>∃k:Nat,k<=l.length/\i=I6 k/\Bw w wr) (fun i _=>l.length - (intOf i).toNat)
 case atStart=>exact⟨0,zS _,rfl,bR _⟩
 case round=>
  obtain⟨k,p,rfl,a⟩:=hrel;have B:=aH a;by_cases hlt:k < l.length
  ·obtain⟨g,o,rfl,n,c1,c2,c3,c4⟩:=mH (j.below B) (zA hlt);generalize hz:l[k]=t at n c1 c2 c3 c4;go_wp2_with fail;refine(m t _ B).mono ?_;rintro e w2 ⟨⟨b,rfl⟩,f⟩;have h:=aH (B.trans (f.mono B.size));cases b
   ·go_wp2;go_roundw
    case rel=>exact⟨k+1,by omega,by go_num,h⟩
    case measure=>simp[intOf];omega
   ·go_wp2;go_ret;exact⟨.inr ⟨k,hlt,rfl⟩,h⟩
  ·go_wp2;go_ret;exact⟨.inl rfl,B⟩
theorem AL(C M:Nat)(q:Int) t(h:aE E Rf N T B hand rsv o w)(c1:Ce w C 0 (Pt N.nb))(c2:Ce w M 0 (I6 q)):
  Cs 276 #[yq t,Pt C,Pt M] w (EF w):=by
 have D:=qX w _ c1;have ha:=qX w _ c2;obtain⟨W0,HW,b,x0⟩:=dW w #[I6 t.d.nd,I6 t.d.n,.string (aF t.q),.string (aF t.b),I6 t.c] 44;have F:=aH (h.below b);obtain⟨X,Y,m2,m3,m4⟩:=am.ab x0;have y1:=F.cells.st;have y7:=F.cells.most;have Z:=aD b c1;have d2:=aD b c2;obtain⟨KS,K2⟩:=gB (fun W (hb:Bw W0 W)=>show Ce W C 0 (Pt N.nb)/\Ce W N.nb 1 (Pt N.st)/\Ce W w.heap.size 0 (I6 t.d.nd)/\Ce W w.heap.size 1 (I6 t.d.n)from⟨aD hb Z,aD hb y1,aD hb X,aD hb Y⟩) (fun W (hb:Bw W0 W)=>show Ce W C 0 (Pt N.nb)/\Ce W N.nb 7 (I6 5)/\Ce W M 0 (I6 q)/\Ce W w.heap.size 0 (I6 t.d.nd)/\Ce W w.heap.size 1 (I6 t.d.n)/\Ce W w.heap.size 4 (I6 t.c)from⟨aD hb Z,aD hb y7,aD hb d2,aD hb X,aD hb Y,aD hb m4⟩);obtain⟨n0,hd,he,R⟩:=F.state;obtain⟨HC,S⟩:=gB (fun W (hb:Bw W0 W)=>eS (R.below hb F.fin)) (fun W (hb:Bw W0 W)=>xd t.d (F.below hb));clear h x0 R c1 c2 X Y m2 m3 m4 y1 y7 Z d2 D ha;apply cI;go_in;go_upto_region 1 with(fail);simp only[HW.out];go_region_held3 (fun W=>Ce W C 0 (Pt N.nb)/\Ce W N.nb 1 (Pt N.st)/\Ce W w.heap.size 0 (I6 t.d.nd)/\Ce W w.heap.size 1 (I6 t.d.n))
  (exact KS _ (by with_reducible repeat(first|exact bR _|exact s|exact f|refine eJ ?_|refine ir ?_ g|refine jY ?_)))
  (first
   |(go_at_call 61;(with_reducible refine(HC.out _ (by repeat(first|exact bR _|refine eJ ?_|refine jY ?_))).mono ?_);rintro _e w1 ⟨l1,⟨v1,rfl,G,A⟩,D,hc⟩
     have f:Bw W0 w1:=(by(first|exact(eJ ((bP W0))).trans (A.mono (by simp))|exact((bP W0)).trans (A.mono (by simp))))
     (try(have xA:am w1 W0.heap.size 212 #[I6 0,I6 0,I6 0,I6 0]:=am.below (am.new W0.drew 212 #[I6 0,I6 0,I6 0,I6 0]) A)))
   |(go_at_call 277
     refine Calls.mono (AA t.d _ (by with_reducible first|exact G.rw|exact G.rw.below (eJ (bQ w1))) (zD D (by decide))) ?_;rintro _e w2 ⟨⟨a,is,rfl⟩,u⟩;have s:Bw W0 w2:=(by(first|exact f.trans (u.mono f.size)|exact(eJ f).trans (u.mono (eJ f).size)))
     (try first
      |(have y:=xA.below u;obtain⟨bb,H⟩:=nx W0.heap.size;rw[H]at y ⊢;have g:W0.heap.size<=bb:=Nat.le_of_eq H;clear H)
      |(have y:am w2 w1.heap.size 212 #[I6 0,I6 0,I6 0,I6 0]:=am.below (am.new w1 212 #[I6 0,I6 0,I6 0,I6 0]) u;have g:W0.heap.size<=w1.heap.size:=f.size;generalize w1.heap.size=bb at y g ⊢))
     (try(obtain⟨z0,z1,z2,z3⟩:=am.four y;have zf:=fun j=>am.frozen y j))))
 all_goals
  first
   |(have z:am ((((w2.setCell ⟨bb,0,none⟩ (I6 a.d.nd)).setCell ⟨bb,1,none⟩ (I6 a.d.n)).setCell ⟨bb,2,none⟩ (I6 a.rc)).setCell ⟨bb,3,none⟩ (I6 a.un)) bb 212 #[I6 a.d.nd,I6 a.d.n,I6 a.rc,I6 a.un]:=(((y.I 0 (I6 a.d.nd)).I 1 (I6 a.d.n)).I 2 (I6 a.rc)).I 3 (I6 a.un)
     have k:=ir (i:=3) (v:=I6 a.un) (ir (i:=2) (v:=I6 a.rc) (ir (i:=1) (v:=I6 a.d.n) (ir (i:=0) (v:=I6 a.d.nd) s g) g) g) g;clear y;generalize((((w2.setCell ⟨bb,0,none⟩ (I6 a.d.nd)).setCell ⟨bb,1,none⟩ (I6 a.d.n)).setCell ⟨bb,2,none⟩ (I6 a.rc)).setCell ⟨bb,3,none⟩ (I6 a.un))=W4 at z k ⊢)
   |(have z:=am.new w2 212 #[I6 a.d.nd,I6 a.d.n,I6 a.rc,I6 a.un]
     have k:=eJ (o:=.cells #[I6 a.d.nd,I6 a.d.n,I6 a.rc,I6 a.un] 212) s;generalize(w2.alloc (.cells #[I6 a.d.nd,I6 a.d.n,I6 a.rc,I6 a.un] 212))=W4 at z k ⊢;generalize w2.heap.size=bb at z ⊢)
  have O:=aH k;have f3:=ef z;have N4:=aH z;obtain⟨g1,g2,g3,g4,g5,g6⟩:=K2 _ k;have p1:=fun n=>show Ce (W4.drewN n) C 0 (Pt N.nb)from g1;have p2:=fun n=>show Ce (W4.drewN n) N.nb 7 (I6 5)from g2;have p3:=fun n=>show Ce (W4.drewN n) M 0 (I6 q)from g3;have p4:=fun n=>show Ce (W4.drewN n) bb 3 (I6 a.un)from f3;have p6:=fun n=>show Ce (W4.drewN n) w.heap.size 4 (I6 t.c)from g6;have U:=fun n=>show Bw w (W4.drewN n)from⟨(b.trans (k.mono b.size)).os,(b.trans (k.mono b.size)).tape,(b.trans (k.mono b.size)).output,(b.trans (k.mono b.size)).size,(b.trans (k.mono b.size)).block⟩;have V:=aH U;have r1:=fun d os=>cell_regrown g1 d os;have r2:=fun d os=>cell_regrown g2 d os;have r3:=fun d os=>cell_regrown g3 d os;have r4:=fun d os=>cell_regrown g4 d os;have r5:=fun d os=>cell_regrown g5 d os;have r6:=fun d os=>cell_regrown g6 d os;have r7:=fun d os=>cell_regrown f3 d os;clear A u f s G hc z k g1 g2 g3 g4 g5 g6 f3 U;by_cases hc5:t.c < 5
  case neg=>
   have d5:decide (t.c < 5)=false:=by simpa using hc5
   go_upto_region 2 with(fail);go_quiet (fail);go_wp2_with fail;go_ret;exact⟨⟨_,rfl⟩,V _⟩
  have d5:decide (t.c < 5)=true:=by simpa using hc5
  clear hc5;cases is
  ·clear p1 p2 p3 p4 p6;go_upto_region 2 with(fail);refine ej 22 (by kernel_rfl) (by kernel_rfl) ?_;simp only[zF,zN,zG,zO];repeat(go_big_quiet_step (fail))
   refine wpQuiet_nil ?_;intro w5 c;obtain⟨⟨dq,I⟩,c⟩:=c;have m:=below_regrown W4 dq I;rw[<-c]at m;have p:=aH (O.trans (m.mono O.size));have J:=aH (S _ p);clear c m r1 r2 r3 r4 r5 r6 r7;go_wp2_with fail;refine(J).mono ?_;rintro _e w9 ⟨⟨t9,rfl⟩,x⟩;have L:=aH (b.trans ((p.trans (x.mono p.size)).mono b.size));clear x;go_wp2_with fail;go_ret;exact⟨⟨_,rfl⟩,L⟩
  by_cases hun:a.un<=q
  case neg=>
   have d6:decide (a.un<=q)=false:=by simpa using hun
   go_upto_region 2 with(fail);go_quiet (fail);go_wp2_with fail;go_ret;exact⟨⟨_,rfl⟩,V _⟩
  have d6:decide (a.un<=q)=true:=by simpa using hun
  clear p1 p2 p3 p4 p6 hun;go_upto_region 2 with(fail);refine ej 22 (by kernel_rfl) (by kernel_rfl) ?_;simp only[zF,zN,zG,zO];repeat(go_big_quiet_step (fail))
  refine wpQuiet_nil ?_;intro w5 c;obtain⟨⟨dq,I⟩,c⟩:=c;have m:=below_regrown W4 dq I;rw[<-c]at m;have p:=aH (O.trans (m.mono O.size));have J:=aH (S _ p);clear c m r1 r2 r3 r4 r5 r6 r7;go_wp2_with fail;refine(J).mono ?_;rintro _e w9 ⟨⟨t9,rfl⟩,x⟩;have L:=aH (b.trans ((p.trans (x.mono p.size)).mono b.size));clear x;go_wp2_with fail;go_ret;exact⟨⟨_,rfl⟩,L⟩
theorem aE.lend(h:aE E Rf N T B hand rsv o w)(j:Int){d}(f:Ev part d rc)(s:cM d rc o w c (N.i,c)):
  ∃w',(Instr.mapUpdate 88 (.map (some N.cm)) (I6 j) (.agg #[Pt c,I6 (part:Nat)])).run prog w=.ok () w'/\aE E Rf N T B hand rsv o w'/\aW N.cm w w'/\St (·=(N.i,N.nb)) o w o w'/\cN N.i o w o w':=by
 obtain⟨next,u,g⟩:=h.rest;obtain⟨dead,vr,vl,reps,lets,ws,qc,hv⟩:=g.v;obtain⟨w',n,x,b⟩:=hv.cm.update (P:=prog) (t:=88) (kt:=3) (et:=353) (by kernel_rfl) (by kernel_rfl) j (.agg #[Pt c,I6 (part:Nat)]);have a:St (·=(N.i,N.nb)) o w o w':=.U b g.ocm h.fin;have y:=ci (r:=N.nb) h.i0;have i:cN N.i o w o w':=cN.an a h.roots.nb (by decide) (by decide) (by decide);have m:cX (·=N.cm) w w':=cX.U b rfl;refine⟨w',n,h.bx a u (g.of a ⟨hv.blk.only b (dG hv.cm hv.blk).symm,hv.rep.av m a fun k e ek=>?_,hv.let_.av m a fun k e ek=>?_,hv.len,hv.rok,hv.lok,hv.refs,hv.wm.only b g.ne,fun p f=>⟨(hv.wok p f).1,(hv.wok p f).2.st a y i⟩,x,fun p hpm=>?_⟩),b,a,i⟩
 ·subst ek;obtain⟨cs,q⟩:=hv.rep.1.ty e;exact dG hv.cm q rfl
 ·subst ek;obtain⟨cs,q⟩:=hv.let_.1.ty e;exact dG hv.cm q rfl
 ·rcases c7 hpm with rfl|⟨hpm,_⟩
  ·exact⟨c,part,d,rc,rfl,f,i.cla d rc c s⟩
  ·obtain⟨c,part,d,rc,z,A,C⟩:=hv.cok p hpm;exact⟨c,part,d,rc,z,A,i.cla d rc c C⟩
theorem iV.len{cs:List Value}(h:iV E o w cs):cs.length=15:=by obtain⟨_,_,_,_,_,_,_,_,_,_,_,rfl,_⟩:=h;rfl
theorem aE.resaid{said}(h:aE E Rf N T B hand rsv o w)(A:dK w b 207)(p:iV E o w said)(C:o b=(N.i,b)):aE E Rf N T B hand rsv o (bB w b 14 said)/\St (·=(N.i,b)) o w o (bB w b 14 said):=by
 have a:St (·=(N.i,b)) o w o (bB w b 14 said):=.U (eb _ _ _) C h.fin;have R:=h.roots;have k:=ci (r:=b) h.i0;obtain⟨n,u,x⟩:=h.due;obtain⟨next,D,g⟩:=h.rest;have i:∀{r t},dK w r t->t≠207->¬((N.i,r)=(N.i,b)):=fun hr hne=>aV (hr.ne A hne);refine⟨⟨a.far,h.i0,h.i9,eN.st h.tab a k,h.kok,h.cs,⟨n,u,x.st a (i R.due (by decide))⟩,h.hd.st a (i R.hd (by decide)),⟨h.wt.1,h.wt.2.st a (i R.wt (by decide)) k⟩,h.cfg,next,D.st a k (i R.lg (by decide)) (i R.dk (by decide)) (i R.st (by decide)),?_⟩,a⟩;obtain⟨dead,vr,vl,reps,lets,ws,qc,a1,a2,a3,a4,a5,a6,a7,a8,a9,a10,a11⟩:=g.all;have m:=i R.nb (by decide);refine⟨by rw[a.old _ (ap a1)];exact g.onb,by rw[a.old _ a8.lt];exact g.owm,by rw[a.old _ a10.lt];exact g.ocm,g.ne,g.num,g.rsv1,g.rsvN,g.pos,dead,vr,vl,reps,lets,ws,qc,a1.st a (by rw[g.onb];exact m),a2.st a m,a3.st a m,a4,a5,a6,a7,
  a8.st a (by rw[g.owm];exact m),fun q hq2=>⟨(a9 q hq2).1,?_⟩,a10.st a (by rw[g.ocm];exact m),fun q hq2=>?_⟩
 ·have f:=(a9 q hq2).2;obtain⟨r,y,c1,c2,c3⟩:=f.cells;have j:(∀t,q.2.tl=some t->eQ o (bB w b 14 said) t (N.i,t))/\∀c d rc,q.2.cl=some (c,d,rc)->cM d rc o (bB w b 14 said) c (N.i,c)/\Eu E q.2.ref d rc:=⟨fun t e=>(f.tal t e).st a (i (f.tal t e).ty (by decide)),fun c d rc e=>⟨(f.cla c d rc e).1.st a (i (f.cla c d rc e).1.ty (by decide)),(f.cla c d rc e).2⟩⟩;by_cases e:q.2.blk=b
  ·have s:=am.au (post:=[]) said y ([I6 q.2.op,I6 (q.2.ref:Nat),I6 (q.2.part:Nat),dS q.2.tl,dS (q.2.cl.map (·.1))]++oM r) w (by rw[c2.len,p.len]) (by rw[qU];exact c1);rw[qU]at s;rw[e]at s;exact⟨by rw[a.old _ (ap c1)];exact f.own,f.part,f.rf,⟨r,said,by rw[e];exact s,p.st a k,c3⟩,j.1,j.2,f.one⟩
  ·exact⟨by rw[a.old _ (ap c1)];exact f.own,f.part,f.rf,⟨r,y,c1.st a (by rw[f.own];exact aV e),c2.st a k,c3⟩,j.1,j.2,f.one⟩
 ·obtain⟨c,part,d,rc,F,G,z⟩:=a11 q hq2;exact⟨c,part,d,rc,F,G,z.st a (i z.ty (by decide))⟩
def l7(c f g h nb:Nat)(q i:List UInt8)(a b:Int)(d:bC):cF:=(cF.box c 65 #[Pt nb]).and ((cF.box f 48 #[I6 4,.string (aF q),.string (aF i),I6 a]).and ((cF.box g 3 #[I6 b]).and (cF.box h 42 #[I6 d.nd,I6 d.n])))
theorem l7.cells{nb:Nat}{q bd}{i:Int}{o}(h:(l7 c f g b nb q bd i a d).F o w):Ce w c 0 (Pt nb)/\Ce w f 0 (I6 4)/\Ce w g 0 (I6 a)/\Ce w b 0 (I6 d.nd)/\Ce w b 1 (I6 d.n):=
 ⟨am.cell h.1.2 0,am.cell h.2.1.2 0,am.cell h.2.2.1.2 0,am.cell h.2.2.2.2 0,am.cell h.2.2.2.2 1⟩
theorem cF.below{o}(h:S.F o w)(a:Below w.heap.size w w')(hf:aX o w):S.F o w':=S.st (p:=fun _=>False) h (.J a hf) _root_.id
theorem AM{v}(d:bC)(rc a1 a2 a3:Int)(h:aE E Rf N T B hand rsv o w)(hv:Rw aC w v l)(c:l.length<=1000):
  Cs 279 #[.agg #[I6 d.nd,I6 d.n],I6 rc,v,I6 a1,I6 a2,I6 a3] w fun e w'=>∃(p:Option Nat) (o':Ow),Rt e (dS p)/\aE E Rf N T B hand rsv o' w'/\Sk N o w o' w'/\(p=none\/∃r,p=some r/\cM d rc o' w' r (N.i,r)):=by
 refine(B1 d rc a1 a2 a3 w hv (by omega) o h.fin N.i).mono ?_;rintro e w' (⟨rfl,hb⟩|⟨r,o',rfl,hr,hc,hs⟩)
 ·exact⟨none,o,rfl,h.below hb,.J hb h.fin,.inl rfl⟩
 ·obtain⟨a,b⟩:=h.bu hr hs;exact⟨some r,o',rfl,a,b,.inr ⟨r,rfl,hc⟩⟩
def kL(k part:Nat)(p:Option Nat)(a:List Value):Array Value:=([I6 4,I6 (k:Nat),I6 (part:Nat),.pointer none,dS p]++oM FI++a).toArray
theorem Ft{m:Mg}{q}(p:pB E)(s:fR E m)(f:m.q=q)(a:E.cs[k]?=some cl)(t:cl.op=4)(g:cl.q=q)(u:E.cs.length=k+1)(h:bN rc):Eu E k m.d rc:=by
 obtain⟨_,_,_,_,_,i,x,j,b,y,_⟩:=s;have z:=(zE.1 b).1;obtain⟨c,n,B,_⟩:=p.call _ _ j;rw[b]at n;obtain rfl:=jI n;have A:i≠k:=fun e=>by subst e;rw[b]at a;obtain rfl:=jI a;omega
 exact⟨h,i,x,cl,j,by omega,b,a,t,by rw[y,f,g]⟩
theorem AN(hQ C:Int)(h:aE E Rf N T B (some k) [] o w)(hB:B<=800000000)(xn:E.cs[k]?=some cl)(h4:cl.op=4)(xo:cl.q=q)(hR:E.cs.length=k+1)(hq:q.length<=1000000000):
  Calls Tryz.prog 180 #[.pointer (some ⟨N.nb,0,none⟩),.int .i64 (k:Nat),.agg #[.int .i64 4,.string (aF q),.string (aF bd),.int .i64 hQ],.int .i64 C] w (Ns E Rf N T (B+2000) none [] o w (.tuple #[])):=by
 obtain⟨W0,HW,HB,x0,x1,x2⟩:=Ej w #[.pointer (some ⟨N.nb,0,none⟩)] #[.int .i64 4,.string (aF q),.string (aF bd),.int .i64 hQ] #[.int .i64 C] 65 48 3;have hS:Below W0.heap.size W0 W0.drew:=bD _;have U:=aH (h.below HB);have S0:=aH (Sk.J (N:=N) HB h.fin).s;obtain⟨x3,hs⟩:=gB h.fin (zB xn (zB h4 (zB xo hR)));have a0:W0.cell? ⟨w.heap.size,0,none⟩=some (.pointer (some ⟨N.nb,0,none⟩)):=am.cell x0 0;have a1:W0.cell? ⟨w.heap.size+1,1,none⟩=some (.string (aF q)):=am.cell x1 1;have y1:=U.cells.st;obtain⟨X,KS⟩:=gB (zB x0 (zB x1 x2)) (fun W (hb:Below W0.heap.size W0 W)=>show W.cell? ⟨w.heap.size,0,none⟩=some (.pointer (some ⟨N.nb,0,none⟩))/\W.cell? ⟨N.nb,1,none⟩=some (.pointer (some ⟨N.st,0,none⟩))/\W.cell? ⟨w.heap.size+1,1,none⟩=some (.string (aF q))from⟨aD hb a0,aD hb y1,aD hb a1⟩);obtain⟨n0,zf,zg,xp⟩:=U.state;obtain⟨HC,HP,hT⟩:=gC (fun p hp=>eH (xp.below hS U.fin) p hp (by omega)) (ll N.tv q W0 U.tab.1 hq) hS;clear h x0 x1 x2 xp xn hS h4 xo hR;go_enter Tryz.func180,Tryz.ntmps180;go_upto_region 1 with(fail);simp only[HW.out];go_wp2_with fail;refine HP.mono ?_;rintro D _w ⟨⟨A,ht,rfl⟩,rfl⟩;go_upto_region 2 with(fail);go_region_held3 (fun w'=>w'.cell? ⟨w.heap.size,0,none⟩=some (.pointer (some ⟨N.nb,0,none⟩))/\w'.cell? ⟨N.nb,1,none⟩=some (.pointer (some ⟨N.st,0,none⟩))/\w'.cell? ⟨w.heap.size+1,1,none⟩=some (.string (aF q)))
  (first|exact KS _ (bR _)|exact KS _ hT|exact KS _ hU|exact KS _ L)
  (first
   |(go_at_call 54;(with_reducible refine(HC.out A ht).mono ?_);rintro D w1 ⟨zh,zi,zj,l2,zk,zl,rfl,o1,o2,o3,_,x4,xO,xq,x5,x6,xr⟩;have hU:=aH (hT.trans (xr.mono hT.size));clear xr)
   |(go_at_call 274;(with_reducible refine(mU q w1 o1.rw (by omega)).mono ?_);rintro D w2 ⟨v2,rfl,hu,xs⟩;have L:=aH (hU.trans (xs.mono hU.size));clear xs))
 obtain⟨l3,hw⟩:=nx (l2.filter (fun t=>!(!(t.q==q))));rw[hw]at hu;have zm:l3.length<=10000000:=by rw[<-hw];exact zD (qO _ _) (by omega)
 have x7:Hid (∀m∈l3,fR E m/\m.q=q):=aH fun m hm=>by
  rw[<-hw]at hm;obtain⟨m1,m2⟩:=qV.1 hm;exact⟨xq m m1,by simpa using m2⟩
 obtain⟨A2,k2,rfl,_⟩:=hu.rw.slice;have O2:=aH hu.rw;have c0:∀W,Below w2.heap.size w2 W->W.cell? ⟨w.heap.size,0,none⟩=some (.pointer (some ⟨N.nb,0,none⟩))/\W.cell? ⟨w.heap.size+1+1,0,none⟩=some (.int .i64 C):=fun W hb=>⟨am.cell (X.1.below (L.trans (hb.mono L.size))) 0,am.cell (X.2.2.below (L.trans (hb.mono L.size))) 0⟩;have x8:=aH (zy 276 #[.pointer (some ⟨w.heap.size,0,none⟩),.pointer (some ⟨w.heap.size+1+1,0,none⟩)] A2 k2 l3 w2 O2 (by omega) (aQ Tryz.func276 (by kernel_rfl) (by kernel_rfl)) (fun t W hW=>AL _ _ C t ((U.below L).below hW) (c0 W hW).1 (c0 W hW).2));clear hu o1 o2 o3 xq x5 x6 a0 a1 y1 hw x4 xO c0;go_wp2_with fail;refine x8.mono ?_;rintro D w3 ⟨hy,hV⟩;obtain⟨M,O3⟩:=gB (L.trans (hV.mono L.size)) (O2.below hV);obtain⟨H3,S3,X3⟩:=gC (U.below M) (S0.trans (St.J (p:=fun y=>y.1=N.i) M U.fin)) (zB (X.1.below M) (zB (X.2.1.below M) (X.2.2.below M)));have b0:w3.cell? ⟨w.heap.size,0,none⟩=some (.pointer (some ⟨N.nb,0,none⟩)):=am.cell X3.1 0;clear hV;rcases hy with rfl|⟨ix,hy,rfl⟩
 ·obtain⟨hf,hg⟩:=gB (bY H3 12 (by decide)) (S3);go_wp2_with fail;refine hf.mono ?_;rintro D wF ⟨rfl,oF,hF,sF⟩;obtain⟨HF,SF⟩:=gB (hF.more (B':=B+2000) (T':=0) (by omega)) (hg.trans sF.s);clear hF sF;go_wp2_with fail;go_end0;exact⟨rfl,oF,HF,SF⟩
 obtain⟨g,og,rfl,e0,e1,_,_,_⟩:=mH O3 (zA hy);have hA:=aH (x7 _ (zY hy));generalize l3[ix]=m at e0 e1 hA;obtain⟨d,hd⟩:=nx m.d;rw[hd]at e0 e1;have HD:=aH hd;clear hd;obtain⟨W4,x9,e4,n4⟩:=dW w3 #[.int .i64 d.nd,.int .i64 d.n] 42;obtain⟨hX,N4,H4,S4⟩:=gD (M.trans (e4.mono M.size)) n4 (H3.below e4) (S3.trans (St.J (p:=fun y=>y.1=N.i) e4 H3.fin));have ya:=aH (fS H4);have zn:W4.cell? ⟨w.heap.size,0,none⟩=some (.pointer (some ⟨N.nb,0,none⟩)):=aD e4 b0;clear e4 n4;go_upto_region 7 with(fail);simp only[x9.out];clear e0 e1 b0;go_wp2_with fail;refine ya.mono ?_;rintro D w5 ⟨z,t,o5,rfl,hC,s5,hz⟩;have G:¬((0,0):Nat×Nat).1=N.i:=fun e=>U.i0 e.symm;have hh:∀b,w.heap.size<=b->o b=(0,0):=x3;have K4:Hid ((l7 w.heap.size (w.heap.size+1) (w.heap.size+1+1) w3.heap.size N.nb q bd hQ C d).F o W4):=aH ⟨⟨hh _ nR,X.1.below hX⟩,⟨hh _ (by omega),X.2.1.below hX⟩,⟨hh _ (by omega),X.2.2.below hX⟩,⟨hh _ (by have h1:=HB.size;have h2:=M.size;omega),N4⟩⟩;obtain⟨K5,S5,HZ⟩:=gC (cF.st _ K4 s5.s G) (S4.trans s5.s) hz;clear hh s5 hz;cases t
 ·have H5:=aH (show aE E Rf N T B (some k) [] o5 w5 from hC);clear hC;have b5:=(l7.cells K5).1;obtain⟨hf,hg⟩:=gB (bY H5 15 (by decide)) (S5);go_wp2_with fail;refine hf.mono ?_;rintro D wF ⟨rfl,oF,hF,sF⟩;obtain⟨HF,SF⟩:=gB (hF.more (B':=B+2000) (T':=0) (by omega)) (hg.trans sF.s);clear hF sF;go_wp2_with fail;go_end0;exact⟨rfl,oF,HF,SF⟩
 have H5:=aH (show aE E Rf N T B (some k) [z] o5 w5 from hC);have zo:=HZ rfl;have b5:=(l7.cells K5).1;have yb:=aH (iX (A:Int) H5);clear hC;go_wp2_with fail;refine yb.mono ?_;rintro D w6 ⟨l6,⟨v6,rfl,hY,hD⟩,xt,_⟩;obtain⟨H6,V6⟩:=gB (H5.below hD) (RI.aa (o:=o5) hY H5.fin);obtain⟨A6,c6,rfl,_⟩:=hY.rw.slice;obtain⟨K6,S6⟩:=gB (cF.below K5 hD H5.fin) (S5.trans (St.J (p:=fun y=>y.1=N.i) hD H5.fin));have b6:=(l7.cells K6).1;have yc:=aH (eI H6.ah);have i9:=H6.i9;have yd:IntKind.i64.wrap (z*65536)=z*65536:=zZ _ (by omega);have ye:((N.i:Nat):Int) % 65536=(N.i:Nat):=by omega
 obtain⟨rc,xu⟩:=nx (z*65536+((N.i:Nat):Int));have yf:IntKind.i64.wrap (z*65536+((N.i:Nat):Int))=rc:=by rw[<-xu];exact zZ _ (by omega)
 have hE:Hid (bN rc):=aH (by unfold bN;omega);clear hY hD b5 xu;go_wp2_with fail;refine yc.mono ?_;rintro D _w ⟨rfl,rfl⟩;have hj:Below w6.heap.size w6 w6.drew:=bD _;obtain⟨H7,K7,V7,S7⟩:=gD (H6.below hj) (cF.below K6 hj H6.fin) (V6.below hj H6.fin) (S6.trans (St.J (p:=fun y=>y.1=N.i) hj H6.fin));obtain⟨hZ,h0,h3,h5,h6⟩:=l7.cells K7;have y3:=H7.cells.c3;have y4:=H7.cells.c4;have yg:=aH (AM d rc C N.c3 N.c4 H7 V7.rw xt);clear hj b6;go_upto_region 12 with(fail);clear yd ye yf;go_region_held3 (fun W=>W.cell? ⟨w.heap.size,0,none⟩=some (.pointer (some ⟨N.nb,0,none⟩))/\W.cell? ⟨w.heap.size+1,0,none⟩=some (.int .i64 4)/\W.cell? ⟨w.heap.size+1+1,0,none⟩=some (.int .i64 C)/\W.cell? ⟨w3.heap.size,0,none⟩=some (.int .i64 d.nd)/\W.cell? ⟨w3.heap.size,1,none⟩=some (.int .i64 d.n)/\W.cell? ⟨N.nb,4,none⟩=some (.int .i64 N.c3)/\W.cell? ⟨N.nb,5,none⟩=some (.int .i64 N.c4))
  (first|exact⟨hZ,h0,h3,h5,h6,y3,y4⟩|exact KF _ (bR _)|exact KF _ (eJ (bR _)))
  (first
   |(go_at_call 279;(refine(yg).mono ?_);rintro D w8 ⟨p,o8,rfl,h8,s8,yh⟩;obtain⟨pp,xv⟩:∃pp,dS p=.pointer pp:=⟨_,rfl⟩;rw[xv];have k8:=cF.st _ K7 s8.s G;have O:=l7.cells k8;have KF:=aH (fun W (hb:Below w8.heap.size w8 W)=>show W.cell? ⟨w.heap.size,0,none⟩=some (.pointer (some ⟨N.nb,0,none⟩))/\W.cell? ⟨w.heap.size+1,0,none⟩=some (.int .i64 4)/\W.cell? ⟨w.heap.size+1+1,0,none⟩=some (.int .i64 C)/\W.cell? ⟨w3.heap.size,0,none⟩=some (.int .i64 d.nd)/\W.cell? ⟨w3.heap.size,1,none⟩=some (.int .i64 d.n)/\W.cell? ⟨N.nb,4,none⟩=some (.int .i64 N.c3)/\W.cell? ⟨N.nb,5,none⟩=some (.int .i64 N.c4)from⟨aD hb O.1,aD hb O.2.1,aD hb O.2.2.1,aD hb O.2.2.2.1,aD hb O.2.2.2.2,aD hb h8.cells.c3,aD hb h8.cells.c4⟩)))
 obtain⟨W9,h7⟩:=nM (w8.alloc (.cells #[.int .i64 4,.int .i64 (k:Nat),.int .i64 (A:Nat),.pointer none,.pointer pp,.int .i64 0,.int .i64 0,.int .i64 0,.int .i64 0,.int .i64 0,.string ⟨#[]⟩,.string ⟨#[]⟩,.int .i64 0,.int .i64 0,.int .i64 0,.int .i64 0,.int .i64 0,.int .i64 0,.int .i64 0,.string ⟨#[]⟩,.slice none 0 0,.slice none 0 0,.slice none 0 0,.slice none 0 0,.slice none 0 0,.int .i64 0,.int .i64 0,.int .i64 0,.int .i64 0] 207));obtain⟨h9,s9,t9⟩:=h8.boxed (kL k A p fj);have n9:=am.new w8 207 (kL k A p fj);have bI:kL k A p fj=#[.int .i64 4,.int .i64 (k:Nat),.int .i64 (A:Nat),.pointer none,.pointer pp,.int .i64 0,.int .i64 0,.int .i64 0,.int .i64 0,.int .i64 0,.string ⟨#[]⟩,.string ⟨#[]⟩,.int .i64 0,.int .i64 0,.int .i64 0,.int .i64 0,.int .i64 0,.int .i64 0,.int .i64 0,.string ⟨#[]⟩,.slice none 0 0,.slice none 0 0,.slice none 0 0,.slice none 0 0,.slice none 0 0,.int .i64 0,.int .i64 0,.int .i64 0,.int .i64 0]:=by rw[<-xv];rfl
 rw[bI,h7]at h9 s9 t9;rw[bI,h7,<-bI]at n9;have hG:¬((0,0)=(N.i,w8.heap.size)):=ci U.i0;obtain⟨K9,V9,S9,H9⟩:=gD (cF.st _ k8 t9 hG) ((V7.st s8.s G).st t9 hG) ((S7.trans s8.s).trans s9.s) h9;have b9:=(l7.cells K9).1;have xa:Hid (aO d=true):=aH (by rw[<-HD];exact hA.1.1);have yi:Hid (Eu E k d rc):=aH (by rw[<-HD];exact Ft H9.kok hA.1 hA.2 hs.1 hs.2.1 hs.2.2.1 hs.2.2.2 hE);have hH:W9.cell? ⟨w8.heap.size,4,none⟩=some (dS p):=am.cell n9 4;have xb:bN z:=by unfold bN;omega
 go_upto_region 13 with(fail);simp only[h7.out];rcases yh with rfl|⟨c,rfl,hc8⟩
 ·have xc:W9.cell? ⟨w8.heap.size,4,none⟩=some (.pointer none):=hH;clear hH n9 t9 s9 h9 bI k8 O h8 s8 hZ h0 h3 h5 h6 y3 y4;obtain⟨hf,hg⟩:=gB (bY (H9.drop (rsv':=[]) (List.nil_sublist _)) 18 (by decide)) (S9);go_wp2_with fail;refine hf.mono ?_;rintro D wF ⟨rfl,oF,hF,sF⟩;obtain⟨HF,SF⟩:=gB (hF.more (B':=B+2000) (T':=0) (by omega)) (hg.trans sF.s);clear hF sF;go_wp2_with fail;go_end0;exact⟨rfl,oF,HF,SF⟩
 have xc:W9.cell? ⟨w8.heap.size,4,none⟩=some (.pointer (some ⟨c,0,none⟩)):=hH;have xd:=hc8.st t9 (aV (by have:=hc8.lt;omega));have xw:eT E Rf N.i (b7 o8 w8.heap.size (N.i,w8.heap.size)) W9 ⟨w8.heap.size,4,k,A,none,some (c,d,rc)⟩:=by
  obtain⟨next,hL,hN⟩:=h9.rest;obtain⟨dead,vr,vl,reps,lets,ws,qc,hv⟩:=hN.v;refine⟨a8 _ _ _,ht,(hv.refs.hw k rfl).1,⟨FI,fj,n9,⟨0,0,0,0,_,_,_,0,0,0,0,rfl,⟨[],[],[],RI.nil _ _,RI.nil _ _,RI.nil _ _,by simp,by simp,by simp,by simp,by simp⟩,fun z hz=>by simp at hz;subst hz;unfold bN;omega⟩,fun h=>by cases h⟩,(fun t e=>by cases e),(fun c' d' rc' e=>by injection e with e;injection e with e1 e;injection e with e2 e3;subst e1;subst e2;subst e3;exact⟨xd,yi⟩),fun h=>by cases h⟩
 obtain⟨yj,N9,yk⟩:=gC (pQ (g:=⟨w8.heap.size,4,k,A,none,some (c,d,rc)⟩) C h9 xw xb) n9 xd;have yl:=(l7.cells K9).2.2.1;clear hH n9 t9 s9 h9 bI k8 O h8 s8 xw hc8 xd hZ h0 h3 h5 h6 y3 y4;go_wp2_with fail;refine yj.mono ?_;rintro D w10 ⟨rfl,R,hk,hI,xe⟩;obtain⟨xf,xx⟩:=xe.que _ _ (a8 _ _ _) N9;have F:Below w10.heap.size w10 w10.drew:=bD _;obtain⟨xy,xz,OB,ym,xA,yn,yo⟩:=gG (hk.below F) (xx.below F) xf ((xe.cla _ _ _ yk).below F) (cF.below (cF.st _ K9 hI G) F hk.fin) ((V9.st hI G).below F hk.fin) ((S9.trans hI).trans (St.J F hk.fin));obtain⟨w12,xP,xB,xQ,he,xg⟩:=xy.lend rc ⟨ht,xa,hE⟩ ym;have yp:=xy.cells.cm;have yq:=(l7.cells xA).1;have yr:w10.drew.cell? ⟨w8.heap.size,4,none⟩=some (.pointer (some ⟨c,0,none⟩)):=am.cell xz 4;have xC:¬((0,0)=(N.i,N.nb)):=ci U.i0;obtain⟨V,ys,yt,yu,yv⟩:=gE xB ((xg.que _ _ OB xz).2) (cF.st _ xA he xC) (yn.st he xC) (yo.trans (gz he));clear hk hI xe xf xx F xB xQ he xg b9 xc yl;go_wp2_with fail;refine aN 11 (by kernel_rfl) (by kernel_rfl) ?_;simp only[zF,zN,zG,zO];repeat still_step
 refine wpStill_nil ?_;go_wp2_with fail;have H:Below w12.heap.size w12 w12.drew:=bD _;obtain⟨xF,xh,xi,yw,yx⟩:=gE (V.below H) (ys.below H) (cF.below yt H V.fin) (yu.below H V.fin) (yv.trans (St.J H V.fin));have xG:iV E R w12.drew [.int .i64 3,.int .i64 0,.int .i64 z,.int .i64 (A:Nat),.int .i64 0,.string (aF []),.slice none 0 0,.slice none 0 0,.slice none 0 0,.slice none 0 0,.slice none 0 0,.int .i64 d.nd,.int .i64 d.n,.int .i64 rc,.int .i64 N.c3]:=⟨3,0,z,(A:Nat),_,_,_,d.nd,d.n,rc,N.c3,rfl,⟨[],[],[],RI.nil _ _,RI.nil _ _,RI.nil _ _,by simp,by simp,by simp,by simp,by simp⟩,fun x hx=>by
  have hl:=oG xa;simp at hx;rcases hx with rfl|rfl|rfl|rfl|rfl|rfl|rfl|rfl
  ·unfold bN;omega
  ·unfold bN;omega
  ·exact xb
  ·unfold bN;omega
  ·exact hl.1
  ·exact hl.2
  ·exact hE
  ·exact V.cfg.2.2⟩
 obtain⟨Y,hn⟩:=xF.resaid ⟨_,xh⟩ xG OB;have xj:am (bB w12.drew w8.heap.size 14 [.int .i64 3,.int .i64 0,.int .i64 z,.int .i64 (A:Nat),.int .i64 0,.string (aF []),.slice none 0 0,.slice none 0 0,.slice none 0 0,.slice none 0 0,.slice none 0 0,.int .i64 d.nd,.int .i64 d.n,.int .i64 rc,.int .i64 N.c3]) w8.heap.size 207 (kL k A (some c) [.int .i64 3,.int .i64 0,.int .i64 z,.int .i64 (A:Nat),.int .i64 0,.string (aF []),.slice none 0 0,.slice none 0 0,.slice none 0 0,.slice none 0 0,.slice none 0 0,.int .i64 d.nd,.int .i64 d.n,.int .i64 rc,.int .i64 N.c3]):=by
  have:=am.au (post:=[]) [.int .i64 3,.int .i64 0,.int .i64 z,.int .i64 (A:Nat),.int .i64 0,.string (aF []),.slice none 0 0,.slice none 0 0,.slice none 0 0,.slice none 0 0,.slice none 0 0,.int .i64 d.nd,.int .i64 d.n,.int .i64 rc,.int .i64 N.c3] fj ([.int .i64 4,.int .i64 (k:Nat),.int .i64 (A:Nat),.pointer none,dS (some c)]++oM FI) w12.drew rfl (by rw[qU];exact xh);rw[qU]at this;exact this
 obtain⟨d0,d1⟩:=(l7.cells xi).2.2.2;have yy:=(l7.cells xi).1;have yz:=xF.cells.c3;clear xP yp yq yr H xG;refine aN 13 (by kernel_rfl) (by kernel_rfl) ?_;simp only[zF,zN,zG,zO];repeat still_step
 refine wpStill_nil ?_;refine dV (vs:=[.int .i64 3,.int .i64 0,.int .i64 z,.int .i64 (A:Nat),.int .i64 0,.string (aF []),.slice none 0 0,.slice none 0 0,.slice none 0 0,.slice none 0 0,.slice none 0 0,.int .i64 d.nd,.int .i64 d.n,.int .i64 rc,.int .i64 N.c3]) rfl 153 118 116 rfl rfl rfl rfl (fun w=>by kernel_rfl) xh (by simp[Value.oneCell']) (by simp[kL,oM,fj]) ?_;obtain⟨W14,xR⟩:=nM (bB w12.drew w8.heap.size 14 [.int .i64 3,.int .i64 0,.int .i64 z,.int .i64 (A:Nat),.int .i64 0,.string (aF []),.slice none 0 0,.slice none 0 0,.slice none 0 0,.slice none 0 0,.slice none 0 0,.int .i64 d.nd,.int .i64 d.n,.int .i64 rc,.int .i64 N.c3]);rw[xR]at Y hn xj ⊢;have I:Below W14.heap.size W14 W14.drew:=bD _;obtain⟨hJ,n,xH,xI,y0⟩:=gE (Y.below I) (xj.below I) (cF.below (cF.st _ xi hn hG) I Y.fin) ((yw.st hn hG).below I Y.fin) ((yx.trans (hn.mono fun y e=>by rw[e])).trans (St.J (p:=fun y=>y.1=N.i) I Y.fin));have y2:=aH (dT hJ.ah xI.rw xt);have xJ:=(l7.cells xH).1;have hr:Hid (∀b,W14.drew.heap.size<=b->R b=(0,0)):=aH hJ.fin;have y5:Hid (∀zz∈ij ⟨3,0,z,(A:Nat),0,[],d.nd,d.n,rc,N.c3⟩,bN zz):=aH (EE (fun x hx=>by
  have hl:=oG xa;simp at hx;rcases hx with rfl|rfl|rfl|rfl|rfl|rfl|rfl|rfl
  ·unfold bN;omega
  ·unfold bN;omega
  ·exact xb
  ·unfold bN;omega
  ·exact hl.1
  ·exact hl.2
  ·exact hE
  ·exact V.cfg.2.2))
 clear Y hn xj I d0 d1 yy yz;go_wp2_with fail;go_region_held3
  (fun W=>(W.cell? ⟨w8.heap.size,14,none⟩=some (.int .i64 3)/\W.cell? ⟨w8.heap.size,15,none⟩=some (.int .i64 0)/\W.cell? ⟨w8.heap.size,16,none⟩=some (.int .i64 z)/\W.cell? ⟨w8.heap.size,17,none⟩=some (.int .i64 (A:Nat))/\W.cell? ⟨w8.heap.size,18,none⟩=some (.int .i64 0)/\W.cell? ⟨w8.heap.size,19,none⟩=some (.string (aF []))/\W.cell? ⟨w8.heap.size,20,none⟩=some (.slice none 0 0)/\W.cell? ⟨w8.heap.size,21,none⟩=some (.slice none 0 0)/\W.cell? ⟨w8.heap.size,22,none⟩=some (.slice none 0 0)/\W.cell? ⟨w8.heap.size,23,none⟩=some (.slice none 0 0)/\W.cell? ⟨w8.heap.size,24,none⟩=some (.slice none 0 0)/\W.cell? ⟨w8.heap.size,25,none⟩=some (.int .i64 d.nd)/\W.cell? ⟨w8.heap.size,26,none⟩=some (.int .i64 d.n)/\W.cell? ⟨w8.heap.size,27,none⟩=some (.int .i64 rc)/\W.cell? ⟨w8.heap.size,28,none⟩=some (.int .i64 N.c3))/\W.cell? ⟨w.heap.size,0,none⟩=some (.pointer (some ⟨N.nb,0,none⟩)))
  (first|exact⟨⟨am.cell n 14,am.cell n 15,am.cell n 16,am.cell n 17,am.cell n 18,am.cell n 19,am.cell n 20,am.cell n 21,am.cell n 22,am.cell n 23,am.cell n 24,am.cell n 25,am.cell n 26,am.cell n 27,am.cell n 28⟩,xJ⟩|exact⟨⟨am.cell f 14,am.cell f 15,am.cell f 16,am.cell f 17,am.cell f 18,am.cell f 19,am.cell f 20,am.cell f 21,am.cell f 22,am.cell f 23,am.cell f 24,am.cell f 25,am.cell f 26,am.cell f 27,am.cell f 28⟩,(l7.cells xk).1⟩|exact⟨⟨am.cell i 14,am.cell i 15,am.cell i 16,am.cell i 17,am.cell i 18,am.cell i 19,am.cell i 20,am.cell i 21,am.cell i 22,am.cell i 23,am.cell i 24,am.cell i 25,am.cell i 26,am.cell i 27,am.cell i 28⟩,(l7.cells ho).1⟩)
  (first
   |(go_at_call 70;(with_reducible refine(y2.out).mono ?_);rintro D zp ⟨zq,⟨zr,rfl,xl,J⟩,xS,_⟩;have f:=n.below J;have xk:=cF.below xH J hJ.fin)
   |(go_at_call 68;(with_reducible refine(fH (x:=⟨3,0,z,(A:Nat),0,[],d.nd,d.n,rc,N.c3⟩) (hJ.out.below J) (by omega) (ls:=[]) (b:=[]) (cl:=[]) (tl:=[]) (pl:=[]) ⟨⟨(RI.nil R _).rw,(RI.nil R _).rw,(RI.nil R _).rw⟩,⟨by simp,by simp,by simp,by simp,by simp⟩,(RI.nil R _).rw,by simp,(fun a ha=>absurd ha (by simp)),(RI.nil R _).rw,by simp,(fun a ha=>absurd ha (by simp)),by simp⟩ (fun m hm=>absurd hm (by simp)) y5.out (RI.aa xl (fun bb hbb=>hr.out bb hbb)) xS).mono ?_);rintro D w17 ⟨rfl,y6,Z,hc⟩;have i:=(hc.k.que _ _ OB f).2;have ho:=cF.st _ xk hc.s G))
 obtain⟨y7,zs,zt⟩:=gC Z ho i;have xT:=aH (hc.k.que _ _ OB f).1;obtain⟨xK,y8⟩:=gB (y0.trans ((St.J (p:=fun y=>y.1=N.i) J (fun bb hbb=>hr bb hbb)).trans hc.s)) ((xI.below J (fun bb hbb=>hr bb hbb)).st hc.s G);have y9:=(l7.cells ho).1;obtain⟨xU,za⟩:=gB (eI Z.ah) (cS (N.i:Nat) w17 y8.rw (by omega));have S:Below w17.heap.size w17 w17.drew:=bD _;obtain⟨xL,hK,s,zb⟩:=gD (Z.below S) (cF.below ho S Z.fin) (i.below S) (xK.trans (St.J S Z.fin));clear Z hc i ho xl J f xk xJ S;go_wp2_with fail;refine xU.mono ?_;rintro D _w ⟨rfl,rfl⟩;go_wp2_with fail;refine za.mono ?_;rintro D _w ⟨rfl,rfl⟩;generalize l6.contains ((N.i:Nat):Int)=ct;cases ct
 ·have xV:=aH ((y7.drop (rsv':=[]) (List.nil_sublist _)).more (B':=B+2000) (T':=0) (by omega));go_wp2_with fail;go_end0;exact⟨rfl,y6,xV,xK⟩
 have zu:=(l7.cells hK).1;obtain⟨xW,xX⟩:=gB (eI xL.ah) (oJ (x:=⟨3,0,z,(A:Nat),0,[],d.nd,d.n,rc,N.c3⟩) (vl:=.slice none 0 0) (vb:=.slice none 0 0) (vc:=.slice none 0 0) (vt:=.slice none 0 0) (vv:=.slice none 0 0) C xL ht rfl);clear y9;go_wp2_with fail;go_region_held3
  (fun W=>(W.cell? ⟨w8.heap.size,14,none⟩=some (.int .i64 3)/\W.cell? ⟨w8.heap.size,15,none⟩=some (.int .i64 0)/\W.cell? ⟨w8.heap.size,16,none⟩=some (.int .i64 z)/\W.cell? ⟨w8.heap.size,17,none⟩=some (.int .i64 (A:Nat))/\W.cell? ⟨w8.heap.size,18,none⟩=some (.int .i64 0)/\W.cell? ⟨w8.heap.size,19,none⟩=some (.string (aF []))/\W.cell? ⟨w8.heap.size,20,none⟩=some (.slice none 0 0)/\W.cell? ⟨w8.heap.size,21,none⟩=some (.slice none 0 0)/\W.cell? ⟨w8.heap.size,22,none⟩=some (.slice none 0 0)/\W.cell? ⟨w8.heap.size,23,none⟩=some (.slice none 0 0)/\W.cell? ⟨w8.heap.size,24,none⟩=some (.slice none 0 0)/\W.cell? ⟨w8.heap.size,25,none⟩=some (.int .i64 d.nd)/\W.cell? ⟨w8.heap.size,26,none⟩=some (.int .i64 d.n)/\W.cell? ⟨w8.heap.size,27,none⟩=some (.int .i64 rc)/\W.cell? ⟨w8.heap.size,28,none⟩=some (.int .i64 N.c3))/\W.cell? ⟨w.heap.size,0,none⟩=some (.pointer (some ⟨N.nb,0,none⟩))/\W.cell? ⟨w.heap.size+1+1,0,none⟩=some (.int .i64 C))
  (first|exact⟨⟨am.cell s 14,am.cell s 15,am.cell s 16,am.cell s 17,am.cell s 18,am.cell s 19,am.cell s 20,am.cell s 21,am.cell s 22,am.cell s 23,am.cell s 24,am.cell s 25,am.cell s 26,am.cell s 27,am.cell s 28⟩,(l7.cells hK).1,(l7.cells hK).2.2.1⟩|exact⟨⟨am.cell j 14,am.cell j 15,am.cell j 16,am.cell j 17,am.cell j 18,am.cell j 19,am.cell j 20,am.cell j 21,am.cell j 22,am.cell j 23,am.cell j 24,am.cell j 25,am.cell j 26,am.cell j 27,am.cell j 28⟩,(l7.cells hM).1,(l7.cells hM).2.2.1⟩|exact⟨⟨am.cell u 14,am.cell u 15,am.cell u 16,am.cell u 17,am.cell u 18,am.cell u 19,am.cell u 20,am.cell u 21,am.cell u 22,am.cell u 23,am.cell u 24,am.cell u 25,am.cell u 26,am.cell u 27,am.cell u 28⟩,(l7.cells xm).1,(l7.cells xm).2.2.1⟩)
  (first
   |(go_at_call 52;(with_reducible refine(xW.out).mono ?_);rintro D _w ⟨rfl,rfl⟩)
   |(go_at_call 84;(with_reducible refine(xX.out).mono ?_);rintro D zv ⟨zc,rfl,zw,xM,hO⟩;obtain⟨xY,j⟩:=hO.k.que _ _ xT s;have hM:=cF.st _ hK hO.s G)
   |(go_at_call 85;(with_reducible refine(pT (seq:=z) (N.i:Nat) C zc xM (by omega)).mono ?_);rintro D zx ⟨rfl,zd,xN,hP⟩;have u:=(hP.k.que _ _ xY j).2;have xm:=cF.st _ hM hP.s G))
 obtain⟨xZ,ze⟩:=gB (xN.drop (rsv':=[]) (List.nil_sublist _)) ((zb.trans hO.s).trans hP.s);clear xM hO xN hP j u hM xm;go_end0;exact⟨rfl,zd,xZ,ze⟩
section
variable{e:Ending}
def Gd(E:bX)(Rf:Nat->Prop)(N:Nb)(T B:Nat)(o:Ow)(w:World)(e:Ending)(w':World):Prop:=∃E',E.Le E'/\E'.cs=E.cs/\(∀x j,E'.K x=some j->E.K x=some j\/x.nd=(N.i:Nat))/\lZ E' Rf N T B o w e w'
theorem kM(h:iy E Rf N T B o w (.tuple #[]) (.returned (.tuple #[])) w'):Cs 75 #[Pt N.nb] w' (Gd E Rf N T B o w):=by
 obtain⟨_,E',o',a,b,c,f,g⟩:=h;refine(tf f).mono ?_;rintro e i ⟨v1,v2,reps,lets,o2,a1,a2,a3,a4,a5,a6,a7,a8,a9,a10⟩;exact⟨E',a,b,c,v1,v2,reps,lets,o2,a1,a2,a3,a4,a5,a6,a7,a8,a9,g.trans a10⟩
theorem iy.of(h:Ns E Rf N T B none [] o w (.tuple #[]) e w')(a:B<=B'):iy E Rf N T B' o w (.tuple #[]) e w':=by
 obtain⟨b,o',c,f⟩:=h;exact⟨b,E,o',bX.Le.refl E,rfl,fun x j e=>.inl e,c.more (T':=0) a,f⟩
theorem iy.le(h:iy E Rf N T B o w (.tuple #[]) e w')(a:B<=B'):iy E Rf N T B' o w (.tuple #[]) e w':=by
 obtain⟨b,E',o',c,f,g,i,j⟩:=h;exact⟨b,E',o',c,f,g,i.more (T':=0) a,j⟩
theorem iy.from_{w1}(h:iy E Rf N T B o w1 (.tuple #[]) e w')(a:St (fun y=>y.1=N.i) o w o w1):iy E Rf N T B o w (.tuple #[]) e w':=by
 obtain⟨b,E',o',c,f,g,i,j⟩:=h;exact⟨b,E',o',c,f,g,i,a.trans j⟩
def gL(a:Int):Nat:=if a=1\/a=2 then 178 else if a=3 then 179 else if a=4 then 180 else if a=5 then 181 else if a=6 then 182 else if a=7\/a=8 then 183 else 177
theorem Fu{g:List UInt8}(a b:Int)(h:aE E Rf N T 0 (some k) [] o w)(c:E.cs[k]?=some cl)(f:cl.q=q)(j:cl.b=g)(i:E.cs.length=k+1)(hK:∀x,E.K x≠some k)(m:q.length<=100)(n:g.length<=1000000000):
  Cs (gL cl.op) #[Pt N.nb,I6 (k:Nat),.agg #[I6 cl.op,.string (aF q),.string (aF g),I6 a],I6 b] w (iy E Rf N T 2000 o w (.tuple #[])):=by
 unfold gL;by_cases h1:cl.op=1\/cl.op=2
 ·rw[if_pos h1];exact(CX (cl:=cl) cl.op a b h c (by omega) (by omega) m).mono fun _ _ h=>iy.of h.ns (by omega)
 rw[if_neg h1];by_cases h3:cl.op=3
 ·rw[if_pos h3,h3];exact(CZ (cl:=cl) a b h (by omega) c h3 f j hK m n).mono fun _ _ h=>h.le (by omega)
 rw[if_neg h3];by_cases h4:cl.op=4
 ·rw[if_pos h4,h4];exact(AN (cl:=cl) a b h (by omega) c h4 f i (by omega)).mono fun _ _ h=>iy.of h (by omega)
 rw[if_neg h4];by_cases h5:cl.op=5
 ·rw[if_pos h5];exact(CY (cl:=cl) cl.op a b h (by omega) c h3 h4).mono fun _ _ h=>iy.of h (by omega)
 rw[if_neg h5];by_cases h6:cl.op=6
 ·rw[if_pos h6];exact(AF (cl:=cl) cl.op a b h (by omega) c h3 h4).mono fun _ _ h=>iy.of h.ns (by omega)
 rw[if_neg h6];by_cases h7:cl.op=7\/cl.op=8
 ·rw[if_pos h7];exact(vZ (cl:=cl) cl.op a b h c h3 h4 (by omega)).mono fun _ _ h=>iy.of h.ns (by omega)
 rw[if_neg h7];exact(rm cl.op a b h).mono fun _ _ h=>iy.of h.ns (by omega)
theorem C0{D:List UInt8}(c s A:Int)(h:aE E Rf N T 0 none [] o w)(U:¬Rf k)(G:E.cs[k]?=some cl)(M:cl.op=c)(H:cl.nd=N.i)(O:cl.q=q)(R:cl.b=D)(I:E.cs.length=k+1)(hK:∀x,E.K x≠some k)(hq:q.length<=100)(V:D.length<=1000000000):
  Cs 89 #[Pt N.nb,I6 (k:Nat),.agg #[I6 c,.string (aF q),.string (aF D),I6 s],I6 A] w (Gd E (fun j=>Rf j\/j=k) N T 2000 o w):=by
 obtain⟨W0,HW,S,J⟩:=dW w #[I6 c,.string (aF q),.string (aF D),I6 s] 48;have L:=aH (h.below S);have F:Hid (St (fun y=>y.1=N.i) o w o W0):=aH (.J S h.fin);have X:=aH (jf L);have Y:=L.hand_ (ref:=k) U ⟨cl,G,H⟩;have p:=aH (Fu s A Y G O R I hK hq V);rw[M]at p;have a0:=ce J;have a1:=dt J;have a2:=ed J;have a3:=ef J;have Z:Hid (lZ E (fun j=>Rf j\/j=k) N T 2000 o w (.returned (.tuple #[aS,aS])) W0):=aH (by
  obtain⟨v1,v2,reps,lets,u,q1⟩:=((At.new h).below S).bz (B:=2000);refine⟨_,_,[],[],o,rfl,(RI.nil o _).rw,(RI.nil o _).rw,by simp,by simp,by simp,by simp,by simp,?_,F⟩;refine L.a' (fun j hj=>⟨.inl hj,fun r hr=>by cases hr⟩) (fun j hj=>?_);rcases hj.1 with hj|rfl
  ·exact L.cs.2 j hj
  ·exact⟨cl,G,H⟩)
 clear h J Y G O R I hK H U M;apply cI;go_in;go_upto_region 1 with(fail);simp only[HW.out];go_wp2_with fail;refine X.mono ?_;rintro z _w ⟨⟨t,rfl⟩,rfl⟩;cases t
 case true=>
  go_wp2_with fail;go_ret2;exact⟨E,bX.Le.refl E,rfl,fun x j e=>.inl e,Z⟩
 by_cases c1:c=1
 ·have f:(c==1)=true:=by simpa using c1
  have m:Hid (Cs 178 #[Pt N.nb,I6 (k:Nat),.agg #[I6 c,.string (aF q),.string (aF D),I6 s],I6 A] W0 (iy E (fun j=>Rf j\/j=k) N T 2000 o W0 (.tuple #[]))):=aH (by have:=p.out;rwa[show gL c=178 by unfold gL;simp[c1]]at this);clear p;clear c1;go_wp2_with fail;refine m.mono ?_;rintro z w3 b;obtain rfl:=b.1;have C:=aH (kM (iy.from_ (w:=w) b F));clear b;go_wp2_with fail;refine C.mono ?_;rintro z w4 ⟨E',f,g,i,v1,v2,reps,lets,u,rfl,n⟩;have a:=aH (zB f (zB g (zB i n)));clear f g i n;go_wp2_with fail;go_ret2;exact⟨E',a.1,a.2.1,a.2.2.1,v1,v2,reps,lets,u,rfl,a.2.2.2⟩
 have f:(c==1)=false:=by simpa using c1
 by_cases c2:c=2
 ·have g:(c==2)=true:=by simpa using c2
  have m:Hid (Cs 178 #[Pt N.nb,I6 (k:Nat),.agg #[I6 c,.string (aF q),.string (aF D),I6 s],I6 A] W0 (iy E (fun j=>Rf j\/j=k) N T 2000 o W0 (.tuple #[]))):=aH (by have:=p.out;rwa[show gL c=178 by unfold gL;simp[c1,c2]]at this);clear p;clear c1 c2;go_wp2_with fail;refine m.mono ?_;rintro z w3 b;obtain rfl:=b.1;have C:=aH (kM (iy.from_ (w:=w) b F));clear b;go_wp2_with fail;refine C.mono ?_;rintro z w4 ⟨E',f,g,i,v1,v2,reps,lets,u,rfl,n⟩;have a:=aH (zB f (zB g (zB i n)));clear f g i n;go_wp2_with fail;go_ret2;exact⟨E',a.1,a.2.1,a.2.2.1,v1,v2,reps,lets,u,rfl,a.2.2.2⟩
 have g:(c==2)=false:=by simpa using c2
 by_cases c3:c=3
 ·have i:(c==3)=true:=by simpa using c3
  have m:Hid (Cs 179 #[Pt N.nb,I6 (k:Nat),.agg #[I6 c,.string (aF q),.string (aF D),I6 s],I6 A] W0 (iy E (fun j=>Rf j\/j=k) N T 2000 o W0 (.tuple #[]))):=aH (by have:=p.out;rwa[show gL c=179 by unfold gL;simp[c1,c2,c3]]at this);clear p;clear c1 c2 c3;go_wp2_with fail;refine m.mono ?_;rintro z w3 b;obtain rfl:=b.1;have C:=aH (kM (iy.from_ (w:=w) b F));clear b;go_wp2_with fail;refine C.mono ?_;rintro z w4 ⟨E',f,g,i,v1,v2,reps,lets,u,rfl,n⟩;have a:=aH (zB f (zB g (zB i n)));clear f g i n;go_wp2_with fail;go_ret2;exact⟨E',a.1,a.2.1,a.2.2.1,v1,v2,reps,lets,u,rfl,a.2.2.2⟩
 have i:(c==3)=false:=by simpa using c3
 by_cases c4:c=4
 ·have e4:(c==4)=true:=by simpa using c4
  have m:Hid (Cs 180 #[Pt N.nb,I6 (k:Nat),.agg #[I6 c,.string (aF q),.string (aF D),I6 s],I6 A] W0 (iy E (fun j=>Rf j\/j=k) N T 2000 o W0 (.tuple #[]))):=aH (by have:=p.out;rwa[show gL c=180 by unfold gL;simp[c1,c2,c3,c4]]at this);clear p;clear c1 c2 c3 c4;go_wp2_with fail;refine m.mono ?_;rintro z w3 b;obtain rfl:=b.1;have C:=aH (kM (iy.from_ (w:=w) b F));clear b;go_wp2_with fail;refine C.mono ?_;rintro z w4 ⟨E',f,g,i,v1,v2,reps,lets,u,rfl,n⟩;have a:=aH (zB f (zB g (zB i n)));clear f g i n;go_wp2_with fail;go_ret2;exact⟨E',a.1,a.2.1,a.2.2.1,v1,v2,reps,lets,u,rfl,a.2.2.2⟩
 have e4:(c==4)=false:=by simpa using c4
 by_cases c5:c=5
 ·have e5:(c==5)=true:=by simpa using c5
  have m:Hid (Cs 181 #[Pt N.nb,I6 (k:Nat),.agg #[I6 c,.string (aF q),.string (aF D),I6 s],I6 A] W0 (iy E (fun j=>Rf j\/j=k) N T 2000 o W0 (.tuple #[]))):=aH (by have:=p.out;rwa[show gL c=181 by unfold gL;simp[c1,c2,c3,c4,c5]]at this);clear p;clear c1 c2 c3 c4 c5;go_wp2_with fail;refine m.mono ?_;rintro z w3 b;obtain rfl:=b.1;have C:=aH (kM (iy.from_ (w:=w) b F));clear b;go_wp2_with fail;refine C.mono ?_;rintro z w4 ⟨E',f,g,i,v1,v2,reps,lets,u,rfl,n⟩;have a:=aH (zB f (zB g (zB i n)));clear f g i n;go_wp2_with fail;go_ret2;exact⟨E',a.1,a.2.1,a.2.2.1,v1,v2,reps,lets,u,rfl,a.2.2.2⟩
 have e5:(c==5)=false:=by simpa using c5
 by_cases c6:c=6
 ·have e6:(c==6)=true:=by simpa using c6
  have m:Hid (Cs 182 #[Pt N.nb,I6 (k:Nat),.agg #[I6 c,.string (aF q),.string (aF D),I6 s],I6 A] W0 (iy E (fun j=>Rf j\/j=k) N T 2000 o W0 (.tuple #[]))):=aH (by have:=p.out;rwa[show gL c=182 by unfold gL;simp[c1,c2,c3,c4,c5,c6]]at this);clear p;clear c1 c2 c3 c4 c5 c6;go_wp2_with fail;refine m.mono ?_;rintro z w3 b;obtain rfl:=b.1;have C:=aH (kM (iy.from_ (w:=w) b F));clear b;go_wp2_with fail;refine C.mono ?_;rintro z w4 ⟨E',f,g,i,v1,v2,reps,lets,u,rfl,n⟩;have a:=aH (zB f (zB g (zB i n)));clear f g i n;go_wp2_with fail;go_ret2;exact⟨E',a.1,a.2.1,a.2.2.1,v1,v2,reps,lets,u,rfl,a.2.2.2⟩
 have e6:(c==6)=false:=by simpa using c6
 by_cases c7:c=7
 ·have e7:(c==7)=true:=by simpa using c7
  have m:Hid (Cs 183 #[Pt N.nb,I6 (k:Nat),.agg #[I6 c,.string (aF q),.string (aF D),I6 s],I6 A] W0 (iy E (fun j=>Rf j\/j=k) N T 2000 o W0 (.tuple #[]))):=aH (by have:=p.out;rwa[show gL c=183 by unfold gL;simp[c1,c2,c3,c4,c5,c6,c7]]at this);clear p;clear c1 c2 c3 c4 c5 c6 c7;go_wp2_with fail;refine m.mono ?_;rintro z w3 b;obtain rfl:=b.1;have C:=aH (kM (iy.from_ (w:=w) b F));clear b;go_wp2_with fail;refine C.mono ?_;rintro z w4 ⟨E',f,g,i,v1,v2,reps,lets,u,rfl,n⟩;have a:=aH (zB f (zB g (zB i n)));clear f g i n;go_wp2_with fail;go_ret2;exact⟨E',a.1,a.2.1,a.2.2.1,v1,v2,reps,lets,u,rfl,a.2.2.2⟩
 have e7:(c==7)=false:=by simpa using c7
 by_cases c8:c=8
 ·have e8:(c==8)=true:=by simpa using c8
  have m:Hid (Cs 183 #[Pt N.nb,I6 (k:Nat),.agg #[I6 c,.string (aF q),.string (aF D),I6 s],I6 A] W0 (iy E (fun j=>Rf j\/j=k) N T 2000 o W0 (.tuple #[]))):=aH (by have:=p.out;rwa[show gL c=183 by unfold gL;simp[c1,c2,c3,c4,c5,c6,c7,c8]]at this);clear p;clear c1 c2 c3 c4 c5 c6 c7 c8;go_wp2_with fail;refine m.mono ?_;rintro z w3 b;obtain rfl:=b.1;have C:=aH (kM (iy.from_ (w:=w) b F));clear b;go_wp2_with fail;refine C.mono ?_;rintro z w4 ⟨E',f,g,i,v1,v2,reps,lets,u,rfl,n⟩;have a:=aH (zB f (zB g (zB i n)));clear f g i n;go_wp2_with fail;go_ret2;exact⟨E',a.1,a.2.1,a.2.2.1,v1,v2,reps,lets,u,rfl,a.2.2.2⟩
 have e8:(c==8)=false:=by simpa using c8
 have m:Hid (Cs 177 #[Pt N.nb,I6 (k:Nat),.agg #[I6 c,.string (aF q),.string (aF D),I6 s],I6 A] W0 (iy E (fun j=>Rf j\/j=k) N T 2000 o W0 (.tuple #[]))):=aH (by have:=p.out;rwa[show gL c=177 by unfold gL;simp[c1,c2,c3,c4,c5,c6,c7,c8]]at this);clear p;clear c1 c2 c3 c4 c5 c6 c7 c8;go_wp2_with fail;refine m.mono ?_;rintro z w3 b;obtain rfl:=b.1;have C:=aH (kM (iy.from_ (w:=w) b F));clear b;go_wp2_with fail;refine C.mono ?_;rintro z w4 ⟨E',f,g,i,v1,v2,reps,lets,u,rfl,n⟩;have a:=aH (zB f (zB g (zB i n)));clear f g i n;go_wp2_with fail;go_ret2;exact⟨E',a.1,a.2.1,a.2.2.1,v1,v2,reps,lets,u,rfl,a.2.2.2⟩
end
def jj(E:bX)(cm cl:Nat->Prop)(tv:Nat->Int)(nc:Nat)(a b:Int)(M:Nat)(o:Ow)(w:World)(g:Nat)(ps:List Pl)(tl:List Rp)(j:Nat)(e:Ending)(w':World):Prop:=
 ∃(E':bX) (cl':Nat->Prop) (v1 v2:Value) (reps:List Rp) (lets:List Lt) (o':Ow),Rt e (.tuple #[v1,v2])/\E.Le E'/\E'.cs=E.cs/\Rw cW w' v1 reps/\Rw cY w' v2 lets/\lets.length<=1000000000/\(∀l∈lets,el E' l.b)/\q7 E' cm cl' reps/\((tl++reps).map Rp.ref).Nodup/\
  e6 E' cm cl' tv nc a b o' w' g ps tl/\lK E' cl' tv M none o' w' ps/\St (fun y=>y.1=j+1) o w o' w'
section
variable{cl:Nat → Prop}{b:Int}{q:Nat × Nat → Prop}{e:Ending}
theorem D3(f:e6 E cm cl tv nc a b o w g ps tl)(t:lK E cl tv M none o w ps)(h:ps[j]?=some p)(m:E.Le E')(bI:E'.cs=E.cs)(n:pB E')(u:∀d k,E'.K d=some k->E.K d=some k\/d.nd=((j+1:Nat):Int))(q:St (fun y=>y.1=j+1) o w o' w')(z:M<=M')
  (A:∀k,cm k->cl' k) (B:∀r∈tl,∀k:Nat,r.ref=(k:Nat)->cl k->cl' k) (C:∀k c,E.cs[k]?=some c->c.nd≠((j+1:Nat):Int)->¬cl k->¬cl' k) (D:gA E' cl' tv M' (j+1) o' w' p):
  e6 E' cm cl' tv nc a b o' w' g ps tl/\lK E' cl' tv M' none o' w' ps:=by
 have G:=(zE.1 h).1;have F:=f.len.2;have s:¬(((0,0):Nat×Nat).1=j+1):=by simp
 refine⟨(f.st q s (by simp;omega)).env m n (by rw[bI];exact f.cs) A B,?_⟩;refine lK.back (((t.but (x:=some j)).st q s (fun i _ hne r e=>hne (by congr 1;simp at e;omega))).env m n (by rw[bI];have:=f.cs;omega) (fun d k e1=>(u d k e1).imp _root_.id fun e2=>⟨j,rfl,e2⟩) (fun k c e1 e2 e3=>C k c e1 (e2 j rfl) e3) z) h D
theorem lZ.cs(u:e6 E cm cl tv nc a b o w g ps tl)(S:lK E cl tv M none o w ps)(U:ps[j]?=some p)(V:p.nd=some N)(hi:N.i=j+1)(hd:N.dk=p.dk)(X:N.tv=tv)(Y:T<=M')(Z:M<=M')(ha:B<=1000000000)(F:E.Le E')(bI:E'.cs=E.cs)(G:∀d k,E'.K d=some k->E.K d=some k\/d.nd=((j+1:Nat):Int))
  (hb:∀k,Gl E cl (j+1) k->Rf k) (s:∀k,Rf k->Gl E cl (j+1) k\/(tl=[]/\(∃c,E.cs[k]?=some c/\c.nd=((j+1:Nat):Int))/\¬cm k)) (h:lZ E' Rf N T B o w e w'):jj E cm cl tv nc a b M' o w g ps tl j e w':=by
 obtain⟨v1,v2,reps,lets,o',rfl,r1,r2,r3,r4,r5,r6,r7,H,I⟩:=h;rw[hi]at I;have z:∀r∈reps,∃(k:Nat) (c:Cl),r.ref=(k:Nat)/\E.cs[k]?=some c/\c.nd=((j+1:Nat):Int)/\¬cm k/\(cl k->tl=[])/\Rf k:=fun r hr=>by
  obtain⟨k,i,f⟩:=r7 r hr;rcases s k f with⟨⟨c,n,q⟩,A⟩|⟨n,⟨c,q,A⟩,L⟩
  ·exact⟨k,c,i,n,q,fun h=>A (u.cmcl k h),fun h=>absurd h A,f⟩
  ·exact⟨k,c,i,q,A,L,fun _=>n,f⟩
 obtain⟨cl',m⟩:∃cl':Nat->Prop,cl'=fun k=>(cl k/\¬Rf k)\/∃r∈reps,r.ref=(k:Nat):=⟨_,rfl⟩;have h1:∀k,cm k->cl' k:=fun k hk=>by
  rw[m];by_cases e:Rf k
  ·rcases s k e with h|⟨_,_,h⟩
   ·exact absurd (u.cmcl k hk) h.2
   ·exact absurd hk h
  ·exact .inl ⟨u.cmcl k hk,e⟩
 have h2:∀r∈tl,∀k:Nat,r.ref=(k:Nat)->cl k->cl' k:=fun r hr k i f=>by
  rw[m];refine .inl ⟨f,fun n=>?_⟩;rcases s k n with h|⟨h,_⟩
  ·exact h.2 f
  ·rw[h]at hr;cases hr
 have h3:∀k c,E.cs[k]?=some c->c.nd≠((j+1:Nat):Int)->¬cl k->¬cl' k:=fun k c i f n=>by
  rw[m];rintro(h|⟨r,hr,q⟩)
  ·exact n h.1
  ·obtain⟨J,c',f1,D,f3,_⟩:=z r hr;have:J=k:=by omega
   subst this;rw[i]at D;injection D with D;subst D;exact f f3
 have O:gA E' cl' tv M' (j+1) o' w' p:=by
  refine .inr ⟨N,T,V,hi,hd,X,Y,H.a' (fun k hk=>⟨?_,?_⟩) (fun k hk=>by rw[hi];exact hk.1)⟩
  ·obtain⟨c,i,f⟩:=H.cs.2 k hk;rw[hi]at f;exact⟨c,i,f⟩
  ·rw[m];rintro(h|⟨r,hr,e⟩)
   ·exact h.2 hk.1
   ·exact hk.2 r hr e
 obtain⟨q1,q2⟩:=D3 u S U F bI H.kok G I Z h1 h2 h3 O;refine⟨E',cl',v1,v2,reps,lets,o',rfl,F,bI,r1,r2,by omega,r5,fun r hr=>?_,?_,q1,q2,I⟩
 ·obtain⟨k,c,i,f,n,q,A,L⟩:=z r hr;exact⟨k,c,i,F.at_ f,by rw[n,<-hi];exact r4 r hr,by rw[m];exact .inr ⟨r,hr,i⟩,q⟩
 ·rw[yC,List.nodup_append];refine⟨u.tn,r6,fun x G y hy e=>?_⟩;subst e;obtain⟨t,C,hc⟩:=zV.1 G;obtain⟨r,R,he⟩:=zV.1 hy;obtain⟨k,c,i,_,_,q,_⟩:=u.told t C;obtain⟨J,c',f1,_,_,_,f5,f6⟩:=z r R;have:J=k:=by omega
  subst this;have:=f5 q;rw[this]at C;cases C
theorem jj.none_(f:e6 E cm cl tv nc a b o w g ps tl)(i:lK E cl tv M none o w ps)(m:M<=M')(h:Below w.heap.size w w'):jj E cm cl tv nc a b M' o w g ps tl j (.returned (.tuple #[aS,aS])) w':=
 ⟨E,cl,_,_,[],[],o,rfl,bX.Le.refl E,rfl,(RI.nil o _).rw,(RI.nil o _).rw,by simp,(fun l hl=>by cases hl),(fun r hr=>by cases hr),by simpa using f.tn,f.below h,(i.below f.fin h).env (bX.Le.refl E) f.kok (by have:=f.cs;omega) (fun d k e=>.inl e) (fun k c _ _ e=>e) m,.J h f.fin⟩
end
theorem xe{w}{l:List α}(h:aK El_ base w v l)(a:v.ownBlock=some k):∃cs,am w k El_.ty cs:=by
 rcases h.2 with⟨b,_⟩|⟨g,cap,c,b,_,f,_⟩
 ·rw[b]at a;simp[Value.ownBlock]at a
 ·rw[b]at a;injection a with a;subst a;exact⟨c,f⟩
section
variable{w3 w4:World}{x y:Nat × Nat}{vl vg:Value}{ls:List Lt}
theorem RI.bq{l:List α}(h:RI El_ (b7 o b y) w v l)(g:y≠(0,0)):RI El_ o w v l:=⟨h.1,fun a n c e hn=>by
 have f:=h.2 a n c e hn
 by_cases e2:a.block=b
 ·rw[e2,a8]at f;exact absurd f g
 ·rwa[bT e2]at f⟩
theorem dO.bq(h:dO E (b7 o b y) w g x)(a:y≠(0,0))(f:y≠x):dO E o w g x:=by
 obtain⟨c,vl,vg,ls,i,j,k,m,n,p,q,s⟩:=h;refine⟨?_,vl,vg,ls,i,j.bq a,k,m,n,p.bq a,q,fun z hz=>by obtain⟨l,t,u⟩:=s z hz;exact⟨l,t.bq a,u⟩⟩;by_cases e:g=b
 ·rw[e,a8]at c;exact absurd c f
 ·rwa[bT e]at c
theorem tk(a:aW g w w3)(b:aW k w3 w4)(c:w.heap.size<=k):aW g w w4:=dx a b (fun j e=>by injection e with e;omega)
def Hc(E:bX)(e:Ending):Prop:=∃(f t:Int) (s:List UInt8) (is:Bool),Rt e (.tuple #[.agg #[I6 f,I6 t,.string (aF s)],.bool is])/\(is=true->el E s)
theorem xf(i:Int)(h:dO E o w g x)(hx:x≠(0,0))(L:x.1≠13)(hf:aX o w):Cs 33 #[Pt g,I6 i] w (Fb E o w g x fun e _=>Hc E e):=by
 have M:((13,0):Nat×Nat)≠(0,0):=by simp
 have a:((13,0):Nat×Nat)≠x:=fun e=>L (by rw[<-e]);obtain⟨W0,N,z,B⟩:=dW w #[I6 0,I6 0,Se] 104;have m:St (·=(13,0)) o w (b7 o w.heap.size (13,0)) W0:=(St.J z hf).tag nR (ap B) (.inr rfl);have O:=h.st m (by simp) (fun e=>a e.symm);obtain⟨A,c,ls,vg,n⟩:=O.ex;have C:=aH (gI i n);obtain⟨a0,a1,a2⟩:=am.three B;have af:=fun j=>am.frozen B j;have S0:=aH m;by_cases hi:0<=i/\i < (ls.length:Int)
 case neg=>
  have hd:decide (0<=i/\i < (ls.length:Int))=false:=by simpa using hi
  rw[hd]at C;have p:Hid (dO E o (((W0.setCell ⟨w.heap.size,0,none⟩ (I6 0)).setCell ⟨w.heap.size,1,none⟩ (I6 0)).setCell ⟨w.heap.size,2,none⟩ (Se)) g x/\aW g w (((W0.setCell ⟨w.heap.size,0,none⟩ (I6 0)).setCell ⟨w.heap.size,1,none⟩ (I6 0)).setCell ⟨w.heap.size,2,none⟩ (Se))):=aH (by
   have s:=aA (aA (aB W0 w.heap.size 0 (I6 0)) (aB _ w.heap.size 1 (I6 0))) (aB _ w.heap.size 2 (Se));have u:St (·=(13,0)) (b7 o w.heap.size (13,0)) W0 (b7 o w.heap.size (13,0)) _:=.U s (a8 _ _ _) m.far;exact⟨(O.st u (by simp) (fun e=>a e.symm)).bq M a,tk (aG z) s nR⟩)
  apply cI;go_in;go_upto_region 1 with(fail);simp only[N.out];go_wp2_with fail;refine C.mono ?_;rintro F _w ⟨rfl,rfl⟩;go_wp2_with fail;refine bodyPost_ret (v:=.tuple #[.agg #[I6 0,I6 0,Se],.bool false]) (by simp[results,results33,go_sem,a0,a1,a2]) rfl ?_;exact⟨⟨0,0,[],false,rfl,fun e=>by cases e⟩,p.1,p.2⟩
 obtain⟨k,rfl⟩:∃k:Nat,i=(k:Nat):=⟨i.toNat,by omega⟩;have G:k < ls.length:=by omega
 have hd:decide (0<=(k:Int)/\(k:Int) < (ls.length:Int))=true:=by simpa using hi
 rw[hd]at C;have k0:(0:Int)<=(k:Int):=by omega
 have k1:(k:Int) < (ls.length:Int):=by omega
 obtain⟨H,I,rfl,f⟩:=n.row.rw.at_ (zA G);have c0:Ce W0 H (I+k*3) (I6 ls[k].f):=by have:=f 0 _ rfl;simpa[cY]using this
 have c1:Ce W0 H (I+k*3+1) (I6 ls[k].t):=by have:=f 1 _ rfl;simpa[cY]using this
 have c2:Ce W0 H (I+k*3+2) (.string (aF ls[k].b)):=by have:=f 2 _ rfl;simpa[cY]using this
 have R:=aH (n.ok ls[k] (zY G));generalize ls[k]=l at c0 c1 c2 R;have y0:=ce n.blk;have y:=ba W0 (.cells #[I6 l.f,I6 l.t,.string (aF l.b)] 104);have S:=am.new W0 104 #[I6 l.f,I6 l.t,.string (aF l.b)];obtain⟨W1,D⟩:=nM (W0.alloc (.cells #[I6 l.f,I6 l.t,.string (aF l.b)] 104));rw[D]at y S;have T:aX (b7 o w.heap.size (13,0)) W1:=m.far.below y.size;obtain⟨U,N1,X1,E1,F1⟩:=gE (j4 (n.below m.far y) hx T G) S (B.below y) y T;have ha:g < W0.heap.size:=ap n.blk;have V:w.heap.size≠g:=fun e=>by have:=n.ow;rw[<-e,a8]at this;exact a this
 apply cI;go_in;go_upto_region 1 with(fail);simp only[N.out];go_wp2_with fail;refine C.mono ?_;rintro F _w ⟨rfl,rfl⟩;go_upto_region 4 with(fail);simp only[D.out];go_wp2_with fail;refine U.mono ?_;rintro F w2 ⟨rfl,X,q⟩;have n2:=N1.only q (by omega);have x2:=X1.only q V;have m0:=ce n2;have m1:=dt n2;obtain⟨HM,H2,S2⟩:=gC (Ai l.f l.t X) X q;have Y:aX (b7 o w.heap.size (13,0)) w2:=F1.below q.size;obtain⟨N2,Z⟩:=gB n2 x2;go_wp2_with fail;refine HM.mono ?_;rintro F w3 ⟨⟨t,rfl⟩,b⟩;have S3:=aH (aA S2 (aG b));have F3:=Y.below b.size;have H3:=aH (H2.below b Y);obtain⟨a0,a1,a2⟩:=am.three (Z.below b);have af:=fun j=>am.frozen (Z.below b) j;have J:=N2.below b;have m0:=ce J;have m1:=dt J;have m2:=ed J;have p:Hid (∀u0 u1 u2,dO E o (((w3.setCell ⟨w.heap.size,0,none⟩ u0).setCell ⟨w.heap.size,1,none⟩ u1).setCell ⟨w.heap.size,2,none⟩ u2) g x/\aW g w (((w3.setCell ⟨w.heap.size,0,none⟩ u0).setCell ⟨w.heap.size,1,none⟩ u1).setCell ⟨w.heap.size,2,none⟩ u2)):=aH (fun u0 u1 u2=>by
  have s:=aA (aA (aB w3 w.heap.size 0 u0) (aB _ w.heap.size 1 u1)) (aB _ w.heap.size 2 u2);have u:St (·=(13,0)) (b7 o w.heap.size (13,0)) w3 (b7 o w.heap.size (13,0)) _:=.U s (a8 _ _ _) F3;exact⟨(H3.st u (by simp) (fun e=>a e.symm)).bq M a,tk (aA (aG (z.trans (E1.mono z.size))) S3) s nR⟩)
 cases t
 ·go_wp2_with fail;refine bodyPost_ret (v:=.tuple #[.agg #[I6 0,I6 0,Se],.bool false]) (by simp[results,results33,go_sem,a0,a1,a2]) rfl ?_;exact⟨⟨0,0,[],false,rfl,fun e=>by cases e⟩,(p _ _ _).1,(p _ _ _).2⟩
 ·go_wp2_with fail;refine bodyPost_ret (v:=.tuple #[.agg #[I6 l.f,I6 l.t,.string (aF l.b)],.bool true]) (by simp[results,results33,go_sem,a0,a1,a2]) rfl ?_;exact⟨⟨l.f,l.t,l.b,true,rfl,fun _=>R⟩,(p _ _ _).1,(p _ _ _).2⟩
theorem xg(i:Int)(h:dO E o w g x)(b:x≠(0,0))(hf:aX o w):Cs 77 #[Pt g,I6 i] w (Fb E o w g x fun e _=>∃t,Rt e (.bool t)):=by
 obtain⟨A,c,ls,vg,a⟩:=h.ex;by_cases hi:0<=i/\i < (ls.length:Int)
 ·obtain⟨k,rfl⟩:∃k:Nat,i=(k:Nat):=⟨i.toNat,by omega⟩;exact(j4 a b hf (by omega)).mono fun e w' hh=>⟨⟨_,hh.1⟩,hh.2⟩
 ·refine(z6 i a hi).mono ?_;rintro e w' ⟨f,rfl⟩;exact⟨⟨_,f⟩,h,cJ⟩
theorem C1{l:Lt}(W:World):Rw cY (W.alloc (.cells #[I6 l.f,I6 l.t,.string (aF l.b)] 104)) (.slice (some ⟨W.heap.size,0,none⟩) 1 1) [l]:=dL cY W l
theorem tm(i:Int)(h:dO E o w g x)(B:x≠(0,0))(hf:aX o w):Cs 91 #[Pt g,I6 i] w (Fb E o w g x fun e _=>∃t,Rt e (.bool t)):=by
 obtain⟨A,c,ls,vg,f⟩:=h.ex;obtain⟨j,H,M⟩:=gC (gI i f) h hf;by_cases hi:0<=i/\i < (ls.length:Int)
 case neg=>
  have hd:decide (0<=i/\i < (ls.length:Int))=false:=by simpa using hi
  rw[hd]at j;apply cI;go_in;go_wp2_with fail;refine j.mono ?_;rintro u C ⟨rfl,rfl⟩;go_wp2;go_ret;exact⟨⟨_,rfl⟩,H,cJ⟩
 obtain⟨k,rfl⟩:∃k:Nat,i=(k:Nat):=⟨i.toNat,by omega⟩;have y:k < ls.length:=by omega
 have hd:decide (0<=(k:Int)/\(k:Int) < (ls.length:Int))=true:=by simpa using hi
 rw[hd]at j;have N:(0:Int)<=(k:Int):=by omega
 have O:(k:Int) < (ls.length:Int):=by omega
 obtain⟨p,q,rfl,b⟩:=f.row.rw.at_ (zA y);have D:Ce w p (q+k*3) (I6 ls[k].f):=by have:=b 0 _ rfl;simpa[cY]using this
 have c1:Ce w p (q+k*3+1) (I6 ls[k].t):=by have:=b 1 _ rfl;simpa[cY]using this
 have c2:Ce w p (q+k*3+2) (.string (aF ls[k].b)):=by have:=b 2 _ rfl;simpa[cY]using this
 have m:=f.ok ls[k] (zY y);generalize ls[k]=l at D c1 c2 m;have R:=am.cell f.blk 0;have s:=ba w (.cells #[I6 l.f,I6 l.t,.string (aF l.b)] 104);obtain⟨F,G⟩:=gB (j3 (h.below s hf) B (hf.below s.size) (C1 (l:=l) w) (by simp) (fun a ha=>by simp at ha;subst ha;exact m)) (aG (g:=g) s);apply cI;go_in;go_wp2_with fail;refine j.mono ?_;rintro u C ⟨rfl,rfl⟩;go_wp2_with fail;refine F.mono ?_;rintro u w2 ⟨⟨n,rfl⟩,I,z⟩;obtain⟨J,L⟩:=gB I (aA G z);go_wp2;go_ret;exact⟨⟨_,rfl⟩,J,L⟩
theorem xh(i:Int)(h:dO E o w g x)(C:x≠(0,0))(hf:aX o w):Cs 92 #[Pt g,I6 i] w (Fb E o w g x fun e _=>∃t,Rt e (.bool t)):=by
 obtain⟨A,c,ls,vg,f⟩:=h.ex;obtain⟨p,H,HF⟩:=gC (gI i f) h hf;by_cases hi:0<=i/\i < (ls.length:Int)
 case neg=>
  have hd:decide (0<=i/\i < (ls.length:Int))=false:=by simpa using hi
  rw[hd]at p;apply cI;go_in;go_wp2_with fail;refine p.mono ?_;rintro s L ⟨rfl,rfl⟩;go_wp2_with fail;go_ret;exact⟨⟨_,rfl⟩,H,cJ⟩
 obtain⟨k,rfl⟩:∃k:Nat,i=(k:Nat):=⟨i.toNat,by omega⟩;have u:k < ls.length:=by omega
 have hd:decide (0<=(k:Int)/\(k:Int) < (ls.length:Int))=true:=by simpa using hi
 rw[hd]at p;have k0:(0:Int)<=(k:Int):=by omega
 have k1:(k:Int) < (ls.length:Int):=by omega
 obtain⟨y,z,rfl,b⟩:=f.row.rw.at_ (zA u);have M:Ce w y (z+k*3) (I6 ls[k].f):=by have:=b 0 _ rfl;simpa[cY]using this
 have c1:Ce w y (z+k*3+1) (I6 ls[k].t):=by have:=b 1 _ rfl;simpa[cY]using this
 have c2:Ce w y (z+k*3+2) (.string (aF ls[k].b)):=by have:=b 2 _ rfl;simpa[cY]using this
 have D:=aH (f.ok ls[k] (zY u));generalize ls[k]=l at M c1 c2 D;have y0:=ce f.blk;have j:=ba w (.cells #[I6 l.f,I6 l.t,.string (aF l.b)] 104);have F:=am.new w 104 #[I6 l.f,I6 l.t,.string (aF l.b)];obtain⟨W1,q⟩:=nM (w.alloc (.cells #[I6 l.f,I6 l.t,.string (aF l.b)] 104));rw[q]at j F;obtain⟨G,N⟩:=gB (j4 (f.below hf j) C (hf.below j.size) u) F;have O:Hid (aW g w W1):=aH (aG (g:=g) j);have Z:g < w.heap.size:=ap f.blk;have R:aX o W1:=hf.below j.size;apply cI;go_in;go_wp2_with fail;refine p.mono ?_;rintro s L ⟨rfl,rfl⟩;go_upto_region 4 with(fail);simp only[q.out];go_wp2_with fail;refine G.mono ?_;rintro s w2 ⟨rfl,S,m⟩;have n2:=N.only m (by omega);have I:aX o w2:=R.below m.size;obtain⟨m0,m1,m2⟩:=am.three n2;have B:=ba w2 (.cells #[I6 l.f,I6 l.t,.string (aF l.b)] 104);obtain⟨T,U⟩:=gB (j3 (S.below B I) C (I.below B.size) (C1 (l:=l) w2) (by simp) (fun a ha=>by simp at ha;subst ha;exact D)) (aA O (aA m (aG B)));go_wp2_with fail;refine T.mono ?_;rintro s w3 ⟨⟨n,rfl⟩,V,J⟩;obtain⟨X,Y⟩:=gB V (aA U J);go_wp2_with fail;go_ret;exact⟨⟨_,rfl⟩,X,Y⟩
def EG(w:World)(g:Nat)(vl:Value)(k:Nat)(wr:World):Prop:=∃(Ag:Option Addr) (cg:Nat) (gs:List Gr),gs.length=k/\am wr g 82 #[vl,.slice Ag k cg]/\aK j2 w.heap.size wr (.slice Ag k cg) gs/\aW g w wr/\∀y∈gs,∃l:List Int,aK aC w.heap.size wr y.v l/\l.length<=1000
theorem i6{v}{l:List α}{row}(h:aK El_ base w v l)(b:w.grownBy w' row)(c:∀k,row=some k->∃t cs,am w k t cs/\El_.ty≠t):aK El_ base w' v l:=
 aK.keep (E:=El_) h b fun k e eq=>by
  obtain⟨cs,f⟩:=xe h e
  obtain⟨t,i,g,a⟩:=c k eq
  exact aT f g a rfl
theorem AO{A1 A6 Ag}{c1 c6:Nat}{a:List Gr}{w6:World}(u:am wr g 82 #[vl,.slice Ag a.length f])(n:aK j2 w.heap.size wr (.slice Ag a.length f) a)(p:aW g w wr)(x:∀y∈a,∃l:List Int,aK aC w.heap.size wr y.v l/\l.length<=1000)
  (z:Below wr.drew.heap.size wr.drew w1) (A:aK aC wr.drew.heap.size w1 (.slice A1 l.length c1) l) (F:l.length<=1000) (B:aK j2 w.heap.size w6 (.slice A6 (a.length+1) c6) (a++[⟨A1,l.length,c1⟩])) (q:(w1.alloc (.cells #[.slice A1 l.length c1] 34)).grownBy w6 (Value.slice Ag a.length f).ownBlock):
  EG w g vl (a.length+1) (w6.setCell ⟨g,1,none⟩ (.slice A6 (a.length+1) c6)):=by
 have b:∀{W:World},Bw wr W->∀k,(Value.slice Ag a.length f).ownBlock=some k->∃t cs,am W k t cs/\(t=j2.ty/\w.heap.size<=k):=fun hw k e=>by
  obtain⟨cs,c⟩:=xe n e;exact⟨_,cs,c.below hw,rfl,(aK.lt (E:=j2) n k e).1⟩
 have C:Bw wr w1:=(bD _).trans (z.mono nR);have h:Bw wr (w1.alloc (.cells #[.slice A1 l.length c1] 34)):=C.alloc C.size _;have s:wr.grownBy w6 (Value.slice Ag a.length f).ownBlock:=World.grownBy.trans ⟨h.os,h.tape,h.output,h.size,fun k hk _=>h.block k hk⟩ q;have D:am w6 g 82 #[vl,.slice Ag a.length f]:=am.grown u s (fun e=>by
  obtain⟨t,cs,c,i,_⟩:=b (bR _) g e.symm;subst i;exact aT u c (by decide) rfl)
 have m:=aB w6 g 1 (.slice A6 (a.length+1) c6);have j:∀{α:Type} (El_:El α),El_.ty≠82->∀k,(some g:Option Nat)=some k->∃t cs,am w6 k t cs/\El_.ty≠t:=fun El_ hne k e=>by
  injection e with e;subst e;exact⟨_,_,D,hne⟩
 refine⟨A6,c6,a++[⟨A1,l.length,c1⟩],by simp,am.I D 1 _,i6 B m (j j2 (by decide)),aA (dx p s fun k e=>(b (bR _) k e).choose_spec.choose_spec.2.2) m,fun y hy=>?_⟩;rcases zK.1 hy with hy|hy
 ·obtain⟨l,G,H⟩:=x y hy;exact⟨l,i6 (i6 G s (fun k e=>by obtain⟨t,cs,c,i,_⟩:=b (bR _) k e;exact⟨t,cs,c,by rw[i];decide⟩)) m (j aC (by decide)),H⟩
 ·rw[qR]at hy;subst hy;refine⟨l,i6 (i6 (aI (aK.mono (E:=aC) A p.size) (ba _ _)) q (fun k e=>by obtain⟨t,cs,c,i,_⟩:=b h k e;exact⟨t,cs,c,by rw[i];decide⟩)) m (j aC (by decide)),F⟩
theorem j8(h:dO E o w g x)(hx:x≠(0,0))(hf:aX o w)(hv:tA o w v):Cs 11 #[Pt g,v] w (Fb E o w g x fun e _=>Rt e (.tuple #[])):=by
 obtain⟨A,c,ls,vg,q⟩:=h.ex;obtain⟨gs0,H,hh,Y⟩:=hv;obtain⟨Ap,cp,rfl,_⟩:=H.rw.slice;have y1:=dt q.blk;have f1:=am.frozen q.blk 1;obtain⟨D,S,HR,HG⟩:=gD q hf H Y;have hj:g < w.heap.size:=ap q.blk;have I:o g=x:=q.ow;have k4:(gs0.length:Int)<=1000000:=by omega
 apply cI;go_in;go_wp2_with fail;go_loopw[13] (fun i wr=>∃k:Nat,k<=gs0.length/\i=I6 k/\EG w g (.slice A ls.length c) k wr) (fun i _=>gs0.length - (intOf i).toNat)
 case atStart=>
  refine⟨0,zS _,rfl,none,0,[],rfl,?_,aK.nil _ _,aB _ _ _ _,fun y z=>by cases z⟩;exact am.I D.blk 1 (aS)
 case round=>
  obtain⟨k,hk,rfl,T,U,f,Z,p,b,m,J⟩:=hrel;have n:St (·=x) o w o wr:=.U m I S;obtain⟨L,A2,A3,A4,A5⟩:=gE p b m J n;have s:¬((0,0)=x):=fun e=>hx e.symm;by_cases hlt:k < gs0.length
  ·obtain⟨ga,oa,rfl,F⟩:=(HR.st n s).rw.at_ (zA hlt);have c0:Ce wr ga (oa+k) (.slice gs0[k].a gs0[k].n gs0[k].c):=by have:=F 0 _ rfl;simpa[j2]using this
   obtain⟨l,ha,hc⟩:=HG gs0[k] (zY hlt);have u:=(ha.st n s).rw;unfold Gr.v at u;generalize gs0[k]=t at c0 u;subst Z;have z0:=ce p;have z1:=dt p;have HC:=aH (fy wr.drew (u.below (bD _)) (by omega));have G:∀j,(Value.slice T f.length U).ownBlock=some j->g≠j:=fun j e=>by
    obtain⟨cs,z⟩:=xe (El_:=j2) b e;exact aT p z (by decide)
   have M:=aH G;have hl:w.heap.size<=wr.heap.size:=m.size;have hm:g < wr.heap.size:=ap p;have HO:=aH b;go_wp2_with fail;show(Code.region _ (_::_::_::_::Ll _::_).toArray _).wp _ _ _ _;go_region_held3 (fun w'=>Ce w' g 0 (.slice A ls.length c))
    (first|exact z0|exact aD a z0|exact aD (ba w1 _) (aD a z0)|exact am.cell b9 0|exact am.cell X 0)
    (first
     |(go_at_call 26;(with_reducible refine(HC.out).mono ?_);rintro _e w1 ⟨v1,rfl,N,a⟩;obtain⟨V,c1,rfl,_⟩:=N.rw.slice;have k1:=aD a z1;have n1:=aD (ba w1 (.cells #[.slice V l.length c1] 34)) (aD a z1))
     |(refine dQ j2 rfl (.tmp 21) (.tmp 24) rfl (aI (aI HO ((bD _).trans (a.mono nR))) (ba _ _)) (by have:=a.size;simp at this ⊢;omega) rfl rfl (dL j2 w1 ⟨V,l.length,c1⟩) (by show(f.length+1)*24<=140737488355328;omega) (by show f.length+1 < _;omega) ?_;intro v6 w6 O B hg;obtain⟨A6,c6,R,_⟩:=O.rw.slice;simp only[zC,zQ,qI,zR]at R;subst R
       have m6:Ce w6 g 1 (.slice T f.length U):=B.cell n1 (fun e=>M _ e.symm rfl);have X:=am.grown (((L.below ((bD _).trans (a.mono nR))).alloc (.cells #[.slice V l.length c1] 34))) B (fun e=>M _ e.symm rfl);have f6:=am.frozen X 1;have b9:=am.I X 1 (.slice A6 (f.length+1) c6)))
   all_goals
    have hP:=AO L A2 A3 A4 a N hc O B;have hd:=aH hP;go_wp2_with fail;go_roundw
    case rel=>exact⟨f.length+1,hlt,by go_num,hd⟩
    case measure=>simp[intOf];omega
  ·obtain rfl:k=gs0.length:=by omega
   obtain⟨A9,c9,e9,_⟩:=b.rw.slice;have he:tA o wr (.slice T gs0.length U):=⟨f,RI.aa b S,by omega,fun y z=>by obtain⟨l,k1,k2⟩:=J y z;exact⟨l,RI.aa k1 S,k2⟩⟩;have C:Hid (dO E o wr g x/\aW g w wr):=aH ⟨⟨I,_,_,ls,p,D.row.st n s,D.len,D.ok,he⟩,m⟩;go_wp2_with fail;go_end0;exact⟨rfl,C.1,C.2⟩
end
def fJ(n:Nat)(y:Nat×Nat):Prop:=(1<=y.1/\y.1<=9)\/(y.1=13/\n<=y.2)
def eA(E:bX)(cm cl:Nat->Prop)(tv:Nat->Int)(M nc:Nat)(a b:Int)(o:Ow)(w:World)(g:Nat)(ps:List Pl)(tl:List Rp):Prop:=e6 E cm cl tv nc a b o w g ps tl/\lK E cl tv M none o w ps
def kR(E:bX)(cm:Nat->Prop)(tv:Nat->Int)(M nc:Nat)(a b:Int)(o:Ow)(w:World)(g n:Nat)(w':World):Prop:=
 ∃(E':bX) (cl':Nat->Prop) (ps':List Pl) (tl':List Rp) (o':Ow),E.Le E'/\E'.cs=E.cs/\ps'.length=n/\eA E' cm cl' tv M nc a b o' w' g ps' tl'/\St (fJ w.heap.size) o w o' w'
section
variable{cl:Nat → Prop}{b:Int}{q:Nat × Nat → Prop}{e:Ending}
theorem D4:¬fJ n (0,0):=fun h=>by unfold fJ at h;simp at h
theorem it{y}(h:y=(9,0)):fJ n y:=by subst h;exact .inl ⟨by decide,by decide⟩
theorem fJ.le{n':Nat}(h:n<=n'){y}(a:fJ n' y):fJ n y:=a.imp _root_.id fun e=>⟨e.1,zD h e.2⟩
theorem yb{y:Nat×Nat}(a:j < 8)(h:y.1=j+1):fJ n y:=.inl (by omega)
theorem eA.below(h:eA E cm cl tv M nc a b o w g ps tl)(c:Below w.heap.size w w'):eA E cm cl tv M nc a b o w' g ps tl:=⟨h.1.below c,h.2.below h.1.fin c⟩
theorem eA.nine(h:eA E cm cl tv M nc a b o w g ps tl)(c:St (·=(9,0)) o w o' w')(f:e6 E cm cl tv nc a b o' w' g ps tl'):eA E cm cl tv M nc a b o' w' g ps tl':=
 ⟨f,h.2.st c (by simp) (fun j hj _ r e=>by have:=h.1.len.2;injection e;omega)⟩
theorem eA.r(h:eA E' cm cl' tv M nc a b o' w' g ps tl')(c:E.Le E')(f:E'.cs=E.cs)(i:ps.length=n)(j:St (fJ w.heap.size) o w o' w'):kR E cm tv M nc a b o w g n w':=⟨E',cl',ps,tl',o',c,f,i,h,j⟩
theorem kR.from_{o1}(h:kR E' cm tv M nc a b o1 w1 g n w')(k:E.Le E')(m:E'.cs=E.cs)(c:St (fJ w.heap.size) o w o1 w1):kR E cm tv M nc a b o w g n w':=by
 obtain⟨p,f,i,j,o2,q,s,t,u,x⟩:=h;exact⟨p,f,i,j,o2,k.trans q,s.trans m,t,u,c.trans (x.mono fun y hy=>hy.le c.size)⟩
theorem kR.below_(h:kR E cm tv M nc a b o w1 g n w')(c:Below w.heap.size w w1)(hf:aX o w):kR E cm tv M nc a b o w g n w':=h.from_ (bX.Le.refl E) rfl (.J c hf)
theorem e6.count(h:e6 E cm cl tv nc a b o w g ps tl):e6 E cm cl tv (nc+1) a b o (w.setCell ⟨g,8,none⟩ (I6 ((nc+1:Nat):Int))) g ps tl/\St (·=(9,0)) o w o (w.setCell ⟨g,8,none⟩ (I6 ((nc+1:Nat):Int))):=by
 have f:¬((0,0):Nat×Nat)=(9,0):=by simp
 obtain⟨A,ca,s,vt,i,u,x,m⟩:=h.all;have j:=aB w g 8 (I6 ((nc+1:Nat):Int));have c:St (·=(9,0)) o w o (w.setCell ⟨g,8,none⟩ (I6 ((nc+1:Nat):Int))):=.U j h.own h.fin;refine⟨⟨h.own,c.far,eN.st h.tab c f,h.kok,h.cs,h.len,⟨A,ca,s,vt,am.I i 8 _,u.st c f,?_,⟨aK.keep m.1 j fun k e eq=>?_,m.2⟩⟩,fun p hm=>?_,h.pn,h.cmcl,h.told,h.tn,h.cfg⟩,c⟩
 ·obtain⟨y,vl,vg,ls,n,B,C,D,F⟩:=x;exact⟨y,vl,vg,ls,n.only j (aT n i (by decide)),B.st c f,C,D,F.st c f⟩
 ·injection eq with eq;subst eq;obtain⟨cs,G⟩:=m.1.ty e;exact aT G i (by decide) rfl
 ·obtain⟨H,z,t,q⟩:=h.pl p hm;exact⟨H,z,t,q.only j (aT q i (by decide))⟩
theorem tp{a pb:Nat}{c:Int}(b:am w a 3 #[I6 z])(g:Ce w pb 2 (I6 c)):
  Cs 111 #[Pt pb,Pt a] w fun e w'=>Rt e (.tuple #[])/\(∃z,am w' a 3 #[I6 z])/\aW a w w':=by
 have h:=am.cell b 0;have i:=am.frozen b 0;have f:=aH b;apply cI;go_in;refine aN 6 (by kernel_rfl) (by kernel_rfl) ?_;simp only[zF,zN,zG,zO];repeat still_step
 refine wpStill_nil ?_;go_wp2;go_end0;exact⟨rfl,⟨_,(am.I f 0 _).below (bD _)⟩,aA (aB w a 0 _) b9⟩
theorem xi(f:e6 E cm cl tv nc a b o w g ps tl):Cs 55 #[Pt g] w fun e w'=>(∃z,Rt e (I6 z))/\Below w.heap.size w w':=by
 obtain⟨A,ca,Z,At,ct,hv⟩:=f.v;have G:=f.len;obtain⟨p0,h⟩:∃p0,ps[0]?=some p0:=⟨_,zA (by omega)⟩;have t:(ps.map Pl.pb)[0]?=some p0.pb:=by rw[qS,h];rfl
 obtain⟨j,m,rfl,c⟩:=hv.row.rw.at_ t;obtain⟨_,z0,t0,u⟩:=f.pl p0 (qC h);have y0:=ed u;have c0:Ce w j m (Pt p0.pb):=by have:=c 0 _ rfl;simpa[iq]using this
 have H:=fa hv.blk;have x:=ba w (.cells #[I6 z0] 3);have I:=am.new w 3 #[I6 z0];have k1:(0:Int) < (ps.length:Int):=by omega
 obtain⟨J,L,y,M⟩:=gD x I f hv;have V:(w.alloc (.cells #[I6 z0] 3)).cell? ⟨g,6,none⟩=some (.slice (some ⟨j,m,none⟩) ps.length ca):=aD x H;apply cI;go_in;go_wp2_with fail;go_loopw[22] (fun v W=>∃(k:Nat) (z:Int),k<=ps.length/\v=I6 k/\Bw w W/\am W w.heap.size 3 #[I6 z]) (fun v _=>ps.length - (intOf v).toNat)
 case atStart=>exact⟨0,z0,by omega,rfl,J,L⟩
 case round=>
  obtain⟨k,z,n,rfl,p,q⟩:=hrel;obtain⟨s,A2⟩:=gB p q;by_cases hlt:k < ps.length
  ·obtain⟨pk,i⟩:∃pk,ps[k]?=some pk:=⟨_,zA hlt⟩;have B:(ps.map Pl.pb)[k]?=some pk.pb:=by rw[qS,i];rfl
   have ck:Ce wr j (m+k) (Pt pk.pb):=aD p (by
    obtain⟨X,Y,e,N⟩:=M.row.rw.at_ B;injection e with e;injection e with e1 e2;subst e1;subst e2;have:=N 0 _ rfl;simpa[iq]using this)
   obtain⟨_,O,tk,C⟩:=y.pl pk (qC i);have R:=aH (tp q (show Ce wr pk.pb 2 (I6 O)from aD p (am.cell C 2)));go_wp2_with fail;refine R.mono ?_;rintro _e w3 ⟨rfl,⟨S,D⟩,F⟩;obtain⟨T,U⟩:=gB D (s.grown F s.size (fun k n=>by injection n with n;omega));go_wp2_with fail;go_roundw
   case rel=>exact⟨k+1,S,hlt,by go_num,U,T⟩
   case measure=>simp[intOf];omega
  have yn:=ce q;go_wp2_with fail;go_ret;exact⟨⟨_,rfl⟩,s⟩
theorem e6.clock{t:Bool}(h:e6 E cm cl tv nc a b o w g ps tl)(c:ps[j]?=some p)(i:am w p.pb 68 (FF p z t))(v:Int):e6 E cm cl tv nc a b o (w.setCell ⟨p.pb,2,none⟩ (I6 v)) g ps tl/\St (·=(9,0)) o w o (w.setCell ⟨p.pb,2,none⟩ (I6 v)):=by
 have f:=h.place c (aB w p.pb 2 (I6 v)) (nd:=p.nd) (z:=v) (t:=t) (am.I i 2 _);rw[show({p with nd:=p.nd}:Pl)=p from rfl,sS c]at f;exact f
theorem e6.armed{t:Bool}(h:e6 E cm cl tv nc a b o w g ps tl)(c:ps[j]?=some p)(i:am w p.pb 68 (FF p z t))(v:Bool):e6 E cm cl tv nc a b o (w.setCell ⟨p.pb,3,none⟩ (.bool v)) g ps tl/\St (·=(9,0)) o w o (w.setCell ⟨p.pb,3,none⟩ (.bool v)):=by
 have f:=h.place c (aB w p.pb 3 (.bool v)) (nd:=p.nd) (z:=z) (t:=v) (am.I i 3 _);rw[show({p with nd:=p.nd}:Pl)=p from rfl,sS c]at f;exact f
theorem D5(q:Int)(h:e6 E cm cl tv nc a b o w g ps tl)(k:ps[j]?=some p):Cs 30 #[Pt g,Pt p.pb,I6 q] w fun e w'=>Rt e (.tuple #[])/\e6 E cm cl tv nc a b o w' g ps tl/\St (·=(9,0)) o w o w':=by
 obtain⟨A,ca,F,At,G,hv⟩:=h.v;have B:=qC k;obtain⟨_,z,t,s⟩:=h.pl p B;have u:=am.cell s 2;have x:=am.cell hv.blk 3;have hd:Bw w w.drew:=bD _;obtain⟨C,f,D⟩:=gC (xi (h.below hd)) h s;apply cI;go_in;go_wp2;go_region_held3 (fun W=>Ce W g 3 (I6 3)/\Ce W p.pb 2 (I6 z))
  (first|exact⟨x,u⟩|exact⟨aD c x,aD c u⟩)
  (first|(go_at_call 55;(with_reducible refine C.out.mono ?_);rintro H w3 ⟨⟨I,rfl⟩,y⟩;have c:=hd.trans (y.mono hd.size)))
 all_goals
  have m:=aH c;have n:=D.below c;have J:=am.cell n 2;have L:=am.frozen n 2;have i:=aH n;go_wp2;go_end0;exact⟨rfl,((f.below m).clock k i _).1,(St.J m f.fin).trans ((f.below m).clock k i _).2⟩
theorem AP s(now:Int)(w:World):Cs 34 #[.pointer none,s,I6 now] w fun e w'=>Rt e (.tuple #[aS,aS])/\Below w.heap.size w w':=by
 have a:=aH je;apply cI;go_in;go_wp2_with fail;refine(a _).mono ?_;rintro b c ⟨rfl,rfl⟩;go_wp2;go_ret2;exact⟨rfl,bR _⟩
theorem AQ(b a:Int)(w:World):Cs 32 #[.pointer none,I6 b,I6 a] w fun e w'=>Rt e (.tuple #[aS,aS])/\Below w.heap.size w w':=by
 have c:=aH je;apply cI;go_in;go_wp2_with fail;refine(c _).mono ?_;rintro f g ⟨rfl,rfl⟩;go_wp2;go_ret2;exact⟨rfl,bR _⟩
theorem C2(k:Int)(b a c:Int) q bd(w:World):Cs 89 #[.pointer none,I6 k,.agg #[I6 b,.string (aF q),.string (aF bd),I6 a],I6 c] w fun e w'=>Rt e (.tuple #[aS,aS])/\Below w.heap.size w w':=by
 obtain⟨W0,f,g,i⟩:=dW w #[I6 b,.string (aF q),.string (aF bd),I6 a] 48;have h:=aH je;apply cI;go_in;go_upto_region 1 with(fail);simp only[f.out];go_wp2_with fail;refine(h _).mono ?_;rintro j m ⟨rfl,rfl⟩;go_wp2;go_ret2;exact⟨rfl,g⟩
theorem AR{s}(c:Int)(f:eA E cm cl tv M nc a b o w g ps tl)(k:ps[j]?=some p)(m:el E s):
  Cs 34 #[dS (p.nd.map Nb.nb),.string (aF s),I6 c] w (jj E cm cl tv nc a b M o w g ps tl j):=by
 rcases f.2 j p k (by simp)with⟨i,_⟩|⟨N,T,i,n,q,t,u,x⟩
 ·rw[i];exact(AP _ c w).mono fun e w' ⟨h,hb⟩=>h▸jj.none_ f.1 f.2 nR hb
 ·rw[i];exact(AJ c x m (by have:=m.1;omega)).mono fun e w' h=>lZ.cs f.1 f.2 k i n q t u nR (by omega) (bX.Le.refl E) rfl (fun _ _ e=>.inl e) (fun _ h=>h) (fun _ h=>.inl h) h
theorem AS(f c:Int)(i:eA E cm cl tv M nc a b o w g ps tl)(u:M<=999999)(m:ps[j]?=some p):
  Cs 32 #[dS (p.nd.map Nb.nb),I6 f,I6 c] w (jj E cm cl tv nc a b (M+1) o w g ps tl j):=by
 rcases i.2 j p m (by simp)with⟨k,_⟩|⟨N,T,k,n,q,s,x,t⟩
 ·rw[k];exact(AQ f c w).mono fun e w' ⟨h,hb⟩=>h▸jj.none_ i.1 i.2 (by omega) hb
 ·rw[k];exact(AK f c t (by omega)).mono fun e w' h=>lZ.cs i.1 i.2 m k n q s (by omega) (by omega) (by omega) (bX.Le.refl E) rfl (fun _ _ e=>.inl e) (fun _ h=>h) (fun _ h=>.inl h) h
theorem C3{q s:List UInt8}{c:Cl}(t f m:Int)(n:eA E cm cl tv M nc a b o w g ps [])(C:ps[j]?=some p)(R:cl k)(D:¬cm k)(y:E.cs[k]?=some c)(F:c.op=t)(z:c.nd=((j+1:Nat):Int))(G:c.q=q)(H:c.b=s)(A:E.cs.length=k+1)(hK:∀x,E.K x≠some k)(S:q.length<=100)(I:s.length<=1000000000):
  Cs 89 #[dS (p.nd.map Nb.nb),I6 (k:Nat),.agg #[I6 t,.string (aF q),.string (aF s),I6 f],I6 m] w (jj E cm cl tv nc a b M o w g ps [] j):=by
 rcases n.2 j p C (by simp)with⟨u,_⟩|⟨N,T,u,B,U,V,X,Y⟩
 ·rw[u];exact(C2 _ t f m q s w).mono fun e w' ⟨h,hb⟩=>h▸jj.none_ n.1 n.2 nR hb
 ·rw[u];refine(C0 (k:=k) t f m Y (fun h=>h.2 R) y F (by rw[z,B]) G H A hK S I).mono fun e w' ⟨E',e1,e2,e3,h⟩=>?_;obtain⟨Z,cl',v1,v2,reps,lets,o',r1,r2,r3,r4,r5,r6,r7,r8,r9,J,L,O⟩:=lZ.cs (M':=M) n.1 n.2 C u B U V X nR (by omega) e1 e2 (fun d k' e=>(e3 d k' e).imp _root_.id fun e=>by rw[e,B]) (fun _ h=>.inl h) (fun i h=>h.elim .inl fun e=>.inr ⟨rfl,⟨c,by rw[e];exact y,z⟩,by rw[e];exact D⟩) h;exact⟨Z,cl',v1,v2,reps,lets,o',r1,r2,r3,r4,r5,r6,r7,r8,r9,J,L,O⟩
theorem jj.cu(z:j < ps.length)(A:ps.length<=8)(h:jj E cm cl tv nc a b M o w g ps tl j e w1):∃v1 v2,Rt e (.tuple #[v1,v2])/\Cs 31 #[Pt g,v1,v2] w1 fun e w'=>Rt e (.tuple #[])/\kR E cm tv M nc a b o w g ps.length w':=by
 obtain⟨E',cl',v1,v2,reps,lets,o',m,n,p,q,s,t,u,f,x,c,i,k⟩:=h;refine⟨v1,v2,m,(vP c q s t u f x).mono fun e w' ⟨k1,o2,k2,k3⟩=>⟨k1,?_⟩⟩;exact(eA.nine (tl:=tl) ⟨c,i⟩ k3 k2).r n p rfl ((k.mono fun y hy=>yb (by omega) hy).trans (k3.mono fun y hy=>it hy))
end
structure Mv where
 kd:Int
 nd:Int
 at_:Int
 n:Int
 op:Int
 q:List UInt8
 b:List UInt8
 rc:Int
abbrev tq(m:Mv):Array Value:=#[I6 m.kd,I6 m.nd,I6 m.at_,I6 m.n,I6 m.op,.string (aF m.q),.string (aF m.b),I6 m.rc]
section
variable{cl:Nat → Prop}{b:Int}{q:Nat × Nat → Prop}{e:Ending}{m:Mv}
theorem rp{cs}(h:am w k t cs)(a:o k=(0,0))(b:St (fJ n) o w o' w'):am w' k t cs:=h.st b (by rw[a];exact D4)
theorem jj.box{cs}(h:jj E cm cl tv nc a b M o w g ps tl j e w')(c:am w k t cs)(f:o k=(0,0)):am w' k t cs:=by
 obtain⟨_,_,_,_,_,_,_,_,_,_,_,_,_,_,_,_,_,_,i⟩:=h;exact c.st i (by rw[f];simp)
theorem kR.box{cs}(h:kR E cm tv M nc a b o w g n w')(c:am w k t cs)(f:o k=(0,0)):am w' k t cs:=by
 obtain⟨_,_,_,_,_,_,_,_,_,i⟩:=h;exact rp c f i
theorem pU(s:eA E cm cl tv M nc a b o w g ps tl)(L:M<=999999)(f:ps[j]?=some p):
  Cs 17 #[Pt g,.agg (tq m),Pt p.pb] w fun e w'=>Rt e (.tuple #[])/\kR E cm tv (M+1) nc a b o w g ps.length w':=by
 obtain⟨N,nd,at_,n,O,q,R,rc⟩:=m;obtain⟨W0,S,A,t⟩:=dW w #[I6 N,I6 nd,I6 at_,I6 n,I6 O,.string (aF q),.string (aF R),I6 rc] 53;have B:=s.below A;have hf:=s.1.fin;have u:o w.heap.size=(0,0):=hf _ nR;have T:Hid (St (fJ w.heap.size) o w o W0):=aH (.J A hf);have C:=aH (D5 n B.1 f);have a2:=ed t;have a3:=ef t;have x:=s.1.len.2;have D:=(zE.1 f).1;obtain⟨F,U⟩:=gB B t;apply cI;go_in;go_upto_region 1 with(fail);simp only[S.out];go_wp2_with fail;refine C.mono ?_;rintro G w1 ⟨rfl,h,c⟩;have V:=F.nine c h;obtain⟨_,H,t1,i⟩:=h.pl p (qC f);have hd:Bw w1 w1.drew:=bD _;have X:=aH (AS H at_ (V.below hd) L f);have Y:=ce i;have Z:=ed i;obtain⟨z,S1⟩:=gB (am.st U c (by rw[u];simp)) (T.trans (c.mono fun y hy=>it hy));have SD:=aH (S1.below hd);have b2:=ed z;have z0:Ce w1.drew p.pb 0 (dS (p.nd.map Nb.nb)):=Y;have z2:Ce w1.drew p.pb 2 (I6 H):=Z;go_wp2;show(Code.region _ (_::_::_::_::Ll _::_::_::_::Ll _::_).toArray _).wp _ _ _ _;go_region_held3 (fun W=>Ce W w.heap.size 2 (I6 at_))
  (first|exact b2|assumption)
  (first
   |(go_at_call 32;(with_reducible refine X.out.mono ?_);rintro G w3 I;have ha:Ce w3 w.heap.size 2 (I6 at_):=(am.cell (I.box z u) 2);obtain⟨v1,v2,rfl,J⟩:=jj.cu D x I)
   |(go_at_call 31;(with_reducible refine J.mono ?_);rintro G w4 ⟨rfl,k⟩;have hb:Ce w4 w.heap.size 2 (I6 at_):=(am.cell (k.box z u) 2)))
 all_goals
  go_end0;exact⟨rfl,k.from_ (bX.Le.refl _) rfl SD⟩
end
section
open Go.Shelf
def x8(B:Nat)(I:World->Prop):Prop:=∀W W' row,I W->W.grownBy W' row->(∀r,row=some r->r=B\/r=B+1)->I W'
def D6(B:Nat)(W a:World):Prop:=a.heap[B]?=W.heap[B]?/\a.heap[B+1]?=W.heap[B+1]?
def D7(B:Nat)(I:World->Prop)(W:World):Exit->Act->World->Prop
 | .normal,_,W'=>D6 B W W'/\I W'
 |_,_,_=>False
end
section
open Go.Shelf
variable{P:Program}
theorem fK{g:Operand}{p:Tmp}{assign body:Code}{a:Act}(N:Nat)
  (hro:F.round=none) (h1:1<=n) {gf:Nat} {lb} (hg:a.eval g=.func (.func gf) #[] lb) (hFg:F.fn gf) (eg:∀args w,(callFunc gf args).run P w=.ok (.enter gf args) w)
  (hseq:∀(J:Nat->World->Prop) (l:Nat) (W:World),w.grownBy W none->
   (∀i W1,J i W1->i < N->YieldAt F (n - 1 - 1) P l #[I6 ((i:Int)+1)] W1 fun e W'=>Rt e (.bool true)/\J (i+1) W')->J 0 W->
   CallsIn F (n - 1) P gf (#[.func (.yield l) #[] #[]]++lb) W fun e W'=>(∃v,Rt e v)/\J N W')
  (I:Nat->World->Prop) (hI:∀i,x8 w.heap.size (I i)) (h0:I 0 w) (a₁:Nat->Act)
  (hassign:∀(l i:Nat) (W:World) (K:Act->World->Prop),K (a₁ i) W->
   assign.wpIn (F.inRound l) (n - 1 - 1) P (Exit.then K (fun _ _ _=>False)) {tmps:=(#[p].zip #[I6 ((i:Int)+1)]).foldl (fun t (p,v)=>t.setIfInBounds p v) a.tmps,defers:=[]} W)
  (hbody:∀(l i:Nat) (W:World),I i W->i < N->w.heap.size+1 < W.heap.size->body.wpIn (F.inRound l) (n - 1 - 1) P (D7 w.heap.size (I (i+1)) W) (a₁ i) W)
  (hdone:∀W:World,I N W->W.heap[w.heap.size]?=some (.deferred (some []))->Q .normal {a with defers:={target:=.collected w.heap.size,args:=#[]}::a.defers} W):
  (Code.rangeFunc g #[p] assign body).wpIn F n P Q a w:=by
 refine wpIn_rangeFunc fun fn hfn=>?_;rw[hro];let rec0:LoopState->Loop:=fun st=>{state:=st,pending:=none,fn,tmps:=a.tmps,params:=#[p],assign,body,defers:=w.heap.size};have A:=run_enterLoop_outer (P:=P) (w:=w) fn a.tmps #[p] assign body;have h:w.grownBy ((w.alloc (.deferred (some []))).alloc (.loop (rec0 .ready))) none:=by
  have:=(qN w (.deferred (some [])) none);exact⟨rfl,rfl,rfl,by simp;omega,fun k f hn=>((qN (w.alloc (.deferred (some []))) (.loop (rec0 .ready)) none).block k (by simp;omega) hn).trans (this.block k f hn)⟩
 have B:((w.alloc (.deferred (some []))).alloc (.loop (rec0 .ready))).heap[w.heap.size+1]?=some (.loop (rec0 .ready)):=by
  have:=World.alloc_heap_new (w.alloc (.deferred (some []))) (.loop (rec0 .ready));rwa[qA]at this
 have C:((w.alloc (.deferred (some []))).alloc (.loop (rec0 .ready))).heap[w.heap.size]?=some (.deferred (some [])):=
  (Below.heap_alloc _ _ _ (by simp)).trans (World.alloc_heap_new w _)
 have s:I 0 ((w.alloc (.deferred (some []))).alloc (.loop (rec0 .ready))):=hI 0 _ _ none h0 h (fun r e=>by cases e);refine⟨w.heap.size+1,[{target:=.collected w.heap.size,args:=#[]}],((w.alloc (.deferred (some []))).alloc (.loop (rec0 .ready))),{target:=.fn (.func gf) lb,args:=#[.func (.yield (w.heap.size+1)) #[] #[]]},((w.alloc (.deferred (some []))).alloc (.loop (rec0 .ready))),gf,#[.func (.yield (w.heap.size+1)) #[] #[]]++lb,((w.alloc (.deferred (some []))).alloc (.loop (rec0 .ready))),A,?_,?_,?_,fun _=>h1,?_⟩
 ·simp only[resolve,hg];simp[go_sem]
 ·intro M j;simp[Target.leads]at j;subst j;exact hFg
 ·simp[invoke,go_sem,eg]
 refine(hseq (fun i W=>I i W/\W.heap[w.heap.size+1]?=some (.loop (rec0 .ready))/\W.heap[w.heap.size]?=some (.deferred (some []))) _ _ h ?_ ⟨s,B,C⟩).mono ?_
 ·rintro i W ⟨hi,c,f⟩ q;have u:w.heap.size+1 < W.heap.size:=(Array.getElem?_eq_some_iff.1 c).1;have D:=run_yield (P:=P) (args:=#[I6 ((i:Int)+1)]) c rfl;refine⟨fn,_,assign,body,D,roundIn_of_wpIn hfn ?_⟩;refine hassign _ i W _ ?_;refine⟨_,run_beginRound c rfl,?_⟩;have x:(W.putObj (w.heap.size+1) (.loop (rec0 .busy))).heap[w.heap.size+1]?=some (.loop (rec0 .busy)):=World.putObj_heap_same u;have y:(W.putObj (w.heap.size+1) (.loop (rec0 .busy))).heap[w.heap.size]?=some (.deferred (some [])):=(World.putObj_heap_other (by omega)).trans f;refine wpIn_mono (hbody _ i _ (hI i _ _ _ hi (grownBy_putObj' W _ _) (fun r e=>by cases e;exact .inr rfl)) q (by simp;omega)) ?_;rintro e a3 G b;cases e with
  |normal=>
   obtain⟨⟨H,L⟩,z⟩:=b;have m:=L.trans x;refine⟨_,_,run_endRound none m,rfl,hI _ _ _ _ z (grownBy_putObj' G _ _) (fun r e=>by cases e;exact .inr rfl),World.putObj_heap_same (Array.getElem?_eq_some_iff.1 m).1,(World.putObj_heap_other (by omega)).trans (H.trans y)⟩
  |ret=>exact b.elim
  |exit id=>exact b.elim
  |goto t=>exact b.elim
  |panic ch=>exact b.elim
  |outgrown=>exact b.elim
 ·rintro e W2 ⟨⟨v,rfl⟩,hi,c,f⟩;exact⟨none,_,run_endLoop c (by simp[rec0]),hdone _ (hI _ _ _ _ hi (grownBy_putObj' W2 _ _) (fun r e=>by cases e;exact .inr rfl)) ((World.putObj_heap_other (by omega)).trans f)⟩
end
section
open Go.Shelf
attribute [local go_sem] Oper.semAt_some
theorem kN(F:Fence)(n:Nat)(k:F.fn 27)(a:F.round=none)(u:1<=n)(l b f:Nat) A(N c:Nat)(hN:N<=1000)(J:Nat->World->Prop)
  (hY:∀i W1,J i W1->i < N->YieldAt F (n - 1) prog l #[I6 ((i:Int)+1)] W1 fun e W'=>Rt e (.bool true)/\J (i+1) W')
  (W:World) (h1:Ce W b 0 (Pt f)) (h2:Ce W f 6 (.slice A N c)) (h0:J 0 W):
  CallsIn F n prog 27 #[.func (.yield l) #[] #[],Pt b] W fun e W'=>(∃v,Rt e v)/\J N W':=by
 refine callsIn_of_wp func27 rfl k ?_ a;simp only[ntmps27,qT,zQ,qI,Nat.reduceAdd,Nat.reduceSub,jT,jU,yI,jX,qY,jW];gi_wp2;gi_loopw [9] (fun p wr=>∃i:Nat,i<=N/\p=I6 i/\J i wr) (fun p _=>N - (intOf p).toNat)
 case atStart=>exact⟨0,zS _,rfl,h0⟩
 case round=>
  obtain⟨i,hi,rfl,g⟩:=hrel;by_cases hlt:i < N
  ·obtain⟨x,m,h,q,y,s⟩:=hY i wr g hlt;have t:decide ((i:Int) < (N:Int))=true:=by simp;omega
   gi_wp2;refine s.mono ?_;rintro e z ⟨rfl,j⟩;gi_wp2;go_roundw
   case rel=>exact⟨i+1,by omega,by go_num,j⟩
   case measure=>simp[intOf];omega
  ·obtain rfl:i=N:=by omega
   have t:decide ((i:Int) < (i:Int))=false:=by simp
   gi_wp2;go_end0;exact⟨⟨_,rfl⟩,g⟩
end
def Jm(B:Nat)(R:Ow->World->Prop)(W:World):Prop:=∃o,R o W/\aX o W/\∀b,(b=B\/b=B+1)->b < W.heap.size->o b=(13,b)
theorem Jm.spare(j:∀o W o' W',R o W->St (fun y=>y.1=13/\B<=y.2) o W o' W'->R o' W'):x8 B (Jm B R):=by
 rintro W W' row ⟨o,k,h,i⟩ c f;obtain⟨o',a⟩:∃o':Ow,o'=fun b=>if(b=B\/b=B+1)/\W.heap.size<=b/\b < W'.heap.size then(13,b)else o b:=⟨_,rfl⟩;have g:St (fun y=>y.1=13/\B<=y.2) o W o' W':=by
  refine⟨c.os,c.tape,c.output,c.size,fun b hb=>?_,fun b hb=>?_,fun b hb=>?_,fun b hb hp=>c.block b hb fun e=>?_⟩
  ·rw[a];exact if_neg (by omega)
  ·rw[a];show(if _ then _ else _)=_;rw[if_neg (by omega)];exact h b (zD c.size hb)
  ·rw[a];show(if(b=B\/b=B+1)/\W.heap.size<=b/\b < W'.heap.size then(13,b)else o b)=(0,0)\/(if(b=B\/b=B+1)/\W.heap.size<=b/\b < W'.heap.size then(13,b)else o b).1=13/\B<=(if(b=B\/b=B+1)/\W.heap.size<=b/\b < W'.heap.size then(13,b)else o b).2;split
   ·exact .inr ⟨rfl,by simp only;omega⟩
   ·exact .inl (h b hb)
  ·exact hp (by rw[i b (f b e.symm) hb];exact⟨rfl,by have:=f b e.symm;simp only;omega⟩)
 refine⟨o',j o W o' W' k g,g.far,fun b hb hlt=>?_⟩;by_cases e:W.heap.size<=b
 ·rw[a];exact if_pos ⟨hb,e,hlt⟩
 ·rw[g.old b (by omega)];exact i b hb (by omega)
theorem Jm.out{p}{o o'}{W W':World}(a:St p o W o' W')(f:∀b,(b=B\/b=B+1)->¬p (13,b))(h:∀b,(b=B\/b=B+1)->b < W.heap.size->o b=(13,b))(c:B+1 < W.heap.size)(g:R o' W'):D6 B W W'/\Jm B R W':=
 ⟨⟨a.block B (by omega) (by rw[h B (.inl rfl) (by omega)];exact f B (.inl rfl)),a.block (B+1) c (by rw[h (B+1) (.inr rfl) c];exact f (B+1) (.inr rfl))⟩,o',g,a.far,fun b hb hb2=>by rw[a.old b (by omega)];exact h b hb (by omega)⟩
theorem ik(E:El α){ops:Array Oper}{rest:List Oper}{o:Oper}{a:Act}(f:o.guard=none)(b x:Operand)
  (q:o.op=.call {callee:=.builtin .append,args:=#[b,x],argTypes:=#[E.sl,E.sl]})
    {l:List α}  (h:aK E base wr v l) (D:base<=wr.heap.size) (t:α) (s:a.eval b=v) (y:a.eval x=.slice (some ⟨wr.heap.size,0,none⟩) 1 1)
  (z:(l.length+1)*E.bytes<=140737488355328) (C:l.length < 1000000000000000000)
  (K:∀v' w',aK E base w' v' (l++[t])->wr.grownBy w' v.ownBlock->(v'.ownBlock=v.ownBlock\/v'.ownBlock=some (wr.heap.size+1))->wpListIn F n prog ops Q rest (a.put o.dst v') w'):wpListIn F n prog ops Q (o::rest) a (wr.alloc (.cells (E.f t).toArray E.ty)):=by
 obtain⟨A,hi,g,i,m⟩:=info_parts E.info;have p:=qN wr (.cells (E.f t).toArray E.ty) v.ownBlock;have c:(wr.alloc (.cells (E.f t).toArray E.ty)).ownsRow base E.ty E.s v l.length (E.cells l):=aK.grown h (qN wr _ none) (fun k e=>by cases e);refine wpListIn_append_own_at (P:=prog) (w:=wr.alloc (.cells (E.f t).toArray E.ty)) f b x E.sl q base E.ty A E.z E.s E.bytes E.und hi g i m E.zs E.pos v l.length (E.cells l) s c
  ⟨wr.heap.size,0,none⟩ 1 1 (E.f t) y (by rw[E.len];omega) (fun j u hu=>?_) (E.one t) (by unfold maxLen;omega) z (by simp;omega) (fun v' w' h2 h3 _ h4=>K v' w' ?_ ?_ (by simpa using h4))
 ·have B:(⟨wr.heap.size,0,none⟩:Addr).add j=⟨wr.heap.size,0+j,none⟩:=by simp[Addr.add];intro h;exact h.symm
  rw[B,(am.new wr _ _).cell];simpa using hu
 ·unfold aK;rw[E.al,E.aw,zC];exact h2
 ·exact p.andThen h3 (fun j e=>.inr e)
structure oY(E:bX)(tv:Nat->Int)(i:Nat)(d:Dk)(rs:List (List UInt8)):Prop where
 room:d.room=4194304
 on:d.on=true
 armed:d.armed=false
 tl:d.tl=[]
 sf:∃t,d.sf=aP tv rs++t/\ga tv t=none
 size:d.sf.length<=4194304
 ok:∀r∈rs,lJ E i r
 num:∀x k,E.K x=some k->x.nd=i->x.n<=dZ rs
section
variable{i:Nat}{d d':Dk}{rs rs1 rs2:List (List UInt8)}{up u0:Int}{br:Bool}
theorem gd.dj(h:gd E tv i d rs1 rs2)(j:Nat):∃rs,oY E tv i {d with sf:=d.sf++d.tl.take j,tl:=[],on:=true,armed:=false} rs:=by
 obtain⟨k,t,a,b⟩:=zq (tv:=tv) rs1 rs2 j (fun x hx=>(h.ok x (List.mem_append_left _ hx)).len) (fun x hx=>(h.ok x (yY _ hx)).len);refine⟨rs1++rs2.take k,h.room,rfl,rfl,rfl,⟨t,?_,b⟩,?_,fun r hr=>h.ok r ?_,fun x k' e1 e2=>Int.le_trans (h.num x k' e1 e2) (kG _ _)⟩
 ·show d.sf++d.tl.take j=_;rw[h.sf,h.tl,a]
 ·show(d.sf++d.tl.take j).length<=_;rw[zC,zU];have:=h.size;omega
 ·rcases zK.1 hr with hr|hr
  ·exact List.mem_append_left _ hr
  ·exact yY _ (qZ hr)
theorem D8(tv:Nat->Int):ga tv []=none:=by
 cases h:ga tv []with
 |none=>rfl
 |some x=>have:=l6 (b:=x.1) (n:=x.2) h;simp at this;omega
theorem oY.new(h:∀x,E.K x=none):oY E tv i ⟨[],[],4194304,0,true,false,0⟩ []:=
 ⟨rfl,rfl,rfl,rfl,⟨[],by simp[aP],D8 tv⟩,by simp,(fun r hr=>by cases hr),(fun x k e _=>by rw[h x]at e;cases e)⟩
theorem oY.all(h:oY E tv i d rs):em tv ((d.sf++d.tl).length+1) (d.sf++d.tl)=(rs,(aP tv rs).length):=by
 obtain⟨t,a,c⟩:=h.sf;rw[h.tl,qU,a];refine oy c rs _ (fun b hb=>(h.ok b hb).len) ?_;have:=oz (tv:=tv) rs;rw[zC];omega
theorem oY.opened(h:oY E tv i d rs)(f:d'.sf=(d.sf++d.tl).take (aP tv rs).length)(a:d'.tl=[])(g:d'.room=d.room):gd E tv i d' rs []:=by
 obtain⟨t,b,j⟩:=h.sf;have c:d'.sf=aP tv rs:=by rw[f,h.tl,qU,b,List.take_left]
 refine⟨g.trans h.room,c,by rw[a];rfl,?_,by simpa using h.ok,h.num⟩;have:=h.size;rw[b,zC]at this;rw[c,a];simp;omega
theorem C4{rs}(h:∀r∈rs,lJ E i r):dZ rs<=33554432:=DU (by omega) fun r hr=>(h r hr).up
theorem aE.start{next:Int}(a:pK E N N.i up br d rs1 rs2 n o w)(hi:N.i≠0/\N.i<=8)(b:pB E)(bI:E.cs.length<=100000)(h:∀k,Rf k->∃c,E.cs[k]?=some c/\c.nd=N.i)(B:next=up+1)(y:∀x k,E.K x=some k->x.nd=N.i->x.n<=u0)(C:u0<=up)
  (f:ek 0 o w N.due (N.i,N.due)) (i:eR o w N.hd (N.i,N.hd)) (j:ee 0 o w N.wt (N.i,N.wt)) (g:0<=N.c2/\0<=N.c1/\bN N.c3)
  (m:o N.nb=(N.i,N.nb)) (owm:o N.wm=(N.i,N.nb)) (q:o N.cm=(N.i,N.nb)) (s:N.wm≠N.cm) (A:am w N.nb 92 (oB N next false (aS) (aS))) (t:b4 w N.wm []) (u:b4 w N.cm []):
  aE E Rf N 0 0 none [] o w:=by
 refine⟨a.fin,hi.1,hi.2,a.tab,b,⟨bI,h⟩,⟨0,by omega,f⟩,i,⟨by omega,j⟩,g,next,FG.ld (R:=dZ rs1) ⟨br,d,rs1,rs2,up,n,a,jL _,jL _⟩ (by omega) (fun z hz=>by cases hz),?_⟩;have D:=a.up0;have F:=a.upm;refine⟨m,owm,q,s,fun x k e1 e2=>by have:=y x k e1 e2;omega,(fun z hz=>by cases hz),List.nodup_nil,by omega,false,aS,aS,[],[],[],[],A,cZ.nil _ _ _,cZ.nil _ _ _,nR,(fun r hr=>by cases hr),(fun r hr=>by cases hr),
  ⟨(fun p hp=>by cases hp),List.nodup_nil,(fun p hp=>by cases hp),(fun r hr=>by cases hr),(fun k b=>by cases b)⟩,t,(fun p hp=>by cases hp),u,(fun p hp=>by cases hp)⟩
end
theorem pV(a c1 c2 c3 c4 c5:Int)(w:World)(g:cD a 1 64=true)(h:cD c1 1 a=true)(i:cD c2 1 1048576=true)(j:cD c3 0 262144=true)(k:cD c4 1 1048576=true)(m:cD c5 1 1000=true)(z:IntKind.i64.wrap (2*c3)=2*c3)(hd:decide (c2<=2*c3)=false):
  Cs 21 #[.agg #[I6 a,I6 c1,I6 c2,I6 c3,I6 c4,I6 c5]] w fun e w'=>Rt e (I6 0)/\Below w.heap.size w w':=by
 obtain⟨W0,n,p,b⟩:=dW w #[I6 a,I6 c1,I6 c2,I6 c3,I6 c4,I6 c5] 32;obtain⟨q,s,t,u,x,y⟩:=gF (fun W=>g▸ew a 1 64 W) (fun W=>h▸ew c1 1 a W) (fun W=>i▸ew c2 1 1048576 W) (fun W=>j▸ew c3 0 262144 W) (fun W=>k▸ew c4 1 1048576 W) (fun W=>m▸ew c5 1 1000 W);have a0:=am.cell b 0;have a1:=am.cell b 1;have a2:=am.cell b 2;have a3:=am.cell b 3;have a4:=am.cell b 4;have a5:=am.cell b 5;apply cI;go_in;go_upto_region 2 with(fail);simp only[n.out];go_wp2_with fail;refine((q).out _).mono ?_;rintro c f ⟨rfl,rfl⟩;go_wp2_with fail;refine((s).out _).mono ?_;rintro c f ⟨rfl,rfl⟩;go_wp2_with fail;refine((t).out _).mono ?_;rintro c f ⟨rfl,rfl⟩;go_wp2_with fail;refine((u).out _).mono ?_;rintro c f ⟨rfl,rfl⟩;go_wp2_with fail;refine((x).out _).mono ?_;rintro c f ⟨rfl,rfl⟩;go_wp2_with fail;refine((y).out _).mono ?_;rintro c f ⟨rfl,rfl⟩;go_wp2;go_ret;exact⟨rfl,p⟩
end Go.Proofs.YthdfgdicnplhlaaGreatDoor
