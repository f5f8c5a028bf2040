/- The walk of BeagleFails, part 46. Walk of the parser's chain. The parser's item, part, query at any tokens. Walk of package query's Parse at any text. Walk of stream.New at any tree. -/
import Derived.Test.YtjfkmoinldlmaaaGreatFa45
import Derived.Deep.LoopGhost
import Derived.Test.YtjfkmoinldlmaaaGreatFa35
import Derived.Test.YtjfkmoinldlmaaaGreatFa42
namespace Go.Proofs.YtjfkmoinldlmaaaGreat
open Go.Proofs.Tryz
section
set_option maxRecDepth 100000
set_option maxHeartbeats 4000000
open Go.RowKit Go.Shelf
structure CLp(w0 wr:World)(P:Nat)(en:Int)(m:PM)(c:QT->PM)(toks:List gq)(r:Value)(ns:List QN)(vs:List Value)(toks':List gq)(a' no':Int):Prop where
 own:wr.ownsRow w0.heap.size 81 4 r ns.length vs
 recs:f9 (ju wr) ns vs
 ex:Ex [P] w0 wr
 pa:ic wr P toks' en a' no'
 le:ns.length+toks'.length<=toks.length
 no:no'=0\/0<no'/\no'<200
 cps:no'=0->∃T,ns=ew T/\∀T' l,PR (c T) toks' T' l->PR m toks T' l
theorem ah9(P:Nat)(toks:List gq)(en a:Int)
 (ih0:∀w,ic w P toks en a 0->Calls prog 210 #[.pointer (some ⟨P,0,none⟩)] w (lp w P en .item toks))
 (ih:∀l,l.length<toks.length->∀a w,ic w P l en a 0->Calls prog 210 #[.pointer (some ⟨P,0,none⟩)] w (lp w P en .item l)) (w:World) (h:ic w P toks en a 0):
 Calls prog 157 #[.pointer (some ⟨P,0,none⟩),(.func (.func 210) #[.pointer (some ⟨P,0,none⟩)] #[]),.int .i64 3,.int .i64 2] w (lp w P en .part toks):=by
 have q0:Hid (Calls prog 210 #[.pointer (some ⟨P,0,none⟩)] w (lp w P en .item toks)):=aa (ih0 w h);have qi:=aa ih;have HPl:=aa h.lt;have Hlen:=aa h.len;clear h ih0 ih;go_enter func157,ntmps157;go_wp2_with fail
 go_at_call 210;refine q0.out.mono ?_;rintro e w1⟨r,ns,vs,toks1,a1,no1,rfl,g1,g2,g3,g4,g5,g6,g7⟩;have H0:Hid (CLp w w1 P en .part .ands toks r ns vs toks1 a1 no1):=aa ⟨g1,g2,g3,g4,g5,g6,fun hb=>by
  obtain⟨T,hT,hP⟩:=g7 hb
  exact⟨T,hT,fun T' l hc=>.part _ T _ T' l hP hc⟩⟩
 clear g1 g2 g3 g4 g5 g6 g7;go_wp2_with fail
 go_loopg[9] toks1.length (fun k r wr=>∃ns vs toks' a' no',toks'.length<=k/\CLp w wr P en .part .ands toks r ns vs toks' a' no')
 case atStart=>exact⟨_,_,_,_,_,ac,H0.out⟩
 case round=>
  clear H0;obtain⟨ns,vs,toks',a',no',hgk,H⟩:=hrel;obtain⟨a,c,rfl⟩:=ey H.own;have HH:=aa H;have hgk':=aa hgk;obtain⟨⟨ad',cap',hPc,-,-⟩,-⟩:=H.pa;have p3:=hPc.cell 3;have pl:=hPc.lt;simp only[ak,am,au]at p3;clear H hPc hgk;by_cases hno:no'=0
  ·subst hno
   by_cases hk:∃t l,toks'=t::l/\t.kind=3
   ·obtain⟨t,l,rfl,ht⟩:=hk
    have q2:Hid (Calls prog 208 #[.pointer (some ⟨P,0,none⟩),.int .i64 3] wr (pk wr P t l en a' 0)):=aa (by have:=mh P t l en a' 0 wr HH.out.pa;rw[ht]at this;exact this);have ht':=aa ht;have HLL:Hid (ns.length+(l.length+1)<=toks.length):=aa HH.out.le;clear ht;have q3:Hid (∀w,ic w P l en a' 0->Calls prog 210 #[.pointer (some ⟨P,0,none⟩)] w (lp w P en .item l)):=aa fun w h=>qi.out l (by have:=HLL.out;omega) a' w h
    go_wp2_with(go_at_call 208;(with_reducible refine q2.out.mono ?_);rintro e w2⟨pa,pc,rfl,he2,hp2,-⟩;have P2:=aa (hp2.below ((aw _ w2).alloc ac (om t pa pc)));have E2:Hid (Ex [P] wr (w2.alloc (om t pa pc))):=aa (he2.alloc _);clear he2 hp2 p3 pl)
    have S2:Hid ((w2.alloc (om t pa pc)).heap.size=w2.heap.size+1):=aa (by simp);generalize w2.alloc (om t pa pc)=W2 at *;have P3:Hid (ic (W2.alloc (fw 2 0 (.slice none 0 0) 0)) P l en a' 0):=aa (P2.out.below ((aw _ W2).alloc ac (fw 2 0 (.slice none 0 0) 0)));go_at_call 210;refine(q3.out _ P3.out).mono ?_;rintro e w3⟨r3,ns3,vs3,toks3,a3,no3,rfl,g1,g2,g3,g4,g5,g6,g7⟩;obtain⟨b3,c3,rfl⟩:=ey g1;have G2:=aa g2;have G4:=aa g4;have G5:=aa g5;have G6:=aa g6;have G7:=aa g7;have E3:Hid (Ex [P] wr w3):=aa (((E2.out.alloc (fw 2 0 (.slice none 0 0) 0)).trans g3).mono (by intro x hx;left;simpa using hx));have T1:Hid (ft w3 81 (some ⟨w2.heap.size+1,0,none⟩) 1 [.int .i64 2,.int .i64 0,.slice none 0 0,.int .i64 0]):=aa (by
     have:=(ft.own (World.ownsRow_lit (base:=W2.heap.size) (e:=81) (size:=4) W2 #[.int .i64 2,.int .i64 0,.slice none 0 0,.int .i64 0] 1 ac (by unfold maxLen;omega) rfl)).keep (P3.out.kt g3 81 (by decide))
     rw[S2.out]at this
     exact this)
    have T2:Hid (ft w3 81 a ns.length vs):=aa ((ft.own HH.out.own).keep (HH.out.pa.kt E3.out 81 (by decide)));have T3:Hid (ft w3 81 b3 ns3.length vs3):=aa (ft.own g1);have V2:Hid (f9 (ju w3) ns vs):=aa (gw HH.out.recs (HH.out.pa.kt E3.out 100 (by decide)));clear g1 g2 g3 g4 g5 g6 g7;have Q4:Hid (Calls prog 209 #[.slice (some ⟨w3.heap.size,0,none⟩) 3 3] (w3.alloc (.cells #[.slice (some ⟨w2.heap.size+1,0,none⟩) 1 1,.slice a ns.length c,.slice b3 ns3.length c3] 29)) fun e w'=>∃v,e=.returned v/\w'.ownsRow (w3.alloc (.cells #[.slice (some ⟨w2.heap.size+1,0,none⟩) 1 1,.slice a ns.length c,.slice b3 ns3.length c3] 29)).heap.size 81 4 v (1+ns.length+ns3.length) ([.int .i64 2,.int .i64 0,.slice none 0 0,.int .i64 0]++vs++vs3)/\Below (w3.alloc (.cells #[.slice (some ⟨w2.heap.size+1,0,none⟩) 1 1,.slice a ns.length c,.slice b3 ns3.length c3] 29)).heap.size (w3.alloc (.cells #[.slice (some ⟨w2.heap.size+1,0,none⟩) 1 1,.slice a ns.length c,.slice b3 ns3.length c3] 29)) w'):=aa (by
     have hbA:=(aw w3.heap.size w3).alloc ac (.cells #[.slice (some ⟨w2.heap.size+1,0,none⟩) 1 1,.slice a ns.length c,.slice b3 ns3.length c3] 29)
     exact abl w3.heap.size 3 (some ⟨w2.heap.size+1,0,none⟩) a b3 1 ns.length ns3.length 1 c c3 _ vs vs3 (by decide) (by have:=G5.out;have:=HLL.out;have:=Hlen.out;omega) _ (At.new _ _) (T1.out.keep (Kt.below hbA)) (T2.out.keep (Kt.below hbA)) (T3.out.keep (Kt.below hbA)) rfl (V2.out.len (fun _ _ h=>h.len)) (G2.out.len (fun _ _ h=>h.len)) (by decide) (jy V2.out jo) (jy G2.out jo))
    go_wp2_with(go_at_call 209;(with_reducible refine Q4.out.mono ?_);rintro e w4⟨v,rfl,ho4,hb4⟩;have O4:=aa ho4;have B4:=aa (((aw w3.heap.size w3).alloc ac (.cells #[.slice (some ⟨w2.heap.size+1,0,none⟩) 1 1,.slice a ns.length c,.slice b3 ns3.length c3] 29)).trans (hb4.mono (by rw[bg];exact dt _)));clear ho4 hb4)
    go_roundg toks3.length
    case rel=>
     refine⟨⟨2,0,[],0⟩::(ns++ns3),_,toks3,a3,no3,ac,?_,(f9.cons (jv w3 2 0) (V2.out.append G2.out)).mono fun _ _ h=>h.keep (Kt.below B4.out),((HH.out.ex.trans E3.out).mono (by intro x hx;left;simpa using hx)).far B4.out (ba HH.out.ex.size E3.out.size),G4.out.below B4.out,by have:=HLL.out;have:=G5.out;simp;omega,G6.out,fun hb=>?_⟩
     ·rw[show(⟨2,0,[],0⟩::(ns++ns3):List QN).length=1+ns.length+ns3.length by simp;omega]
      have:=fx O4.out (show w.heap.size<=_ from ba HH.out.ex.size (ba E3.out.size (by rw[bg];exact dt _)));rw[dc]at this;exact this
     ·obtain⟨T,hT,hP⟩:=HH.out.cps rfl
      obtain⟨U,hU,hQ⟩:=G7.out hb;exact⟨.and T U,by rw[hT,hU];rfl,fun T' l' hc=>hP T' l' (.andOn T t l U toks3 T' l' ht'.out hQ hc)⟩
    case measure=>have h:=hgk'.out;have g:=G5.out;simp at h;omega
   ·have hn:xu toks' 3:=fun u r e hu=>hk ⟨u,r,e,hu⟩
    have hn':=aa hn;have q2:Hid (Calls prog 208 #[.pointer (some ⟨P,0,none⟩),.int .i64 3] wr (kx wr)):=aa (j4 P toks' 3 hn en a' 0 wr HH.out.pa);clear hn hk;go_wp2_with(go_at_call 208;(with_reducible refine q2.out.mono ?_);rintro e w2⟨rfl,hb2⟩;have B2:=aa (hb2.alloc hb2.size (kp 0 0 0 (.slice none 0 0)));clear hb2 p3 pl)
    go_ret;obtain⟨T,hT,hP⟩:=HH.out.cps rfl;exact⟨_,ns,vs,toks',a',0,rfl,fe HH.out.own B2.out,gw HH.out.recs (Kt.below B2.out),(HH.out.ex.trans (Ex.of (S:=[P]) B2.out)).mono (by intro x hx;left;simpa using hx),HH.out.pa.below B2.out,HH.out.le,.inl rfl,fun _=>⟨T,hT,hP T toks' (.andEnd T toks' hn'.out)⟩⟩
  ·have hno':=aa hno
   go_wp2_with fail
   go_ret;exact⟨_,ns,vs,toks',a',no',rfl,HH.out.own,HH.out.recs,HH.out.ex,HH.out.pa,HH.out.le,HH.out.no,fun h=>absurd h hno'.out⟩
theorem amq(P:Nat)(toks:List gq)(en a:Int)
 (ih0:∀w,ic w P toks en a 0->Calls prog 158 #[.pointer (some ⟨P,0,none⟩)] w (lp w P en .part toks))
 (ih:∀l,l.length<toks.length->∀a w,ic w P l en a 0->Calls prog 158 #[.pointer (some ⟨P,0,none⟩)] w (lp w P en .part l)) (w:World) (h:ic w P toks en a 0):
 Calls prog 157 #[.pointer (some ⟨P,0,none⟩),(.func (.func 158) #[.pointer (some ⟨P,0,none⟩)] #[]),.int .i64 4,.int .i64 3] w (lp w P en .query toks):=by
 have q0:Hid (Calls prog 158 #[.pointer (some ⟨P,0,none⟩)] w (lp w P en .part toks)):=aa (ih0 w h);have qi:=aa ih;have HPl:=aa h.lt;have Hlen:=aa h.len;clear h ih0 ih;go_enter func157,ntmps157;go_wp2_with fail
 go_at_call 158;refine q0.out.mono ?_;rintro e w1⟨r,ns,vs,toks1,a1,no1,rfl,g1,g2,g3,g4,g5,g6,g7⟩;have H0:Hid (CLp w w1 P en .query .ors toks r ns vs toks1 a1 no1):=aa ⟨g1,g2,g3,g4,g5,g6,fun hb=>by
  obtain⟨T,hT,hP⟩:=g7 hb
  exact⟨T,hT,fun T' l hc=>.query _ T _ T' l hP hc⟩⟩
 clear g1 g2 g3 g4 g5 g6 g7;go_wp2_with fail
 go_loopg[9] toks1.length (fun k r wr=>∃ns vs toks' a' no',toks'.length<=k/\CLp w wr P en .query .ors toks r ns vs toks' a' no')
 case atStart=>exact⟨_,_,_,_,_,ac,H0.out⟩
 case round=>
  clear H0;obtain⟨ns,vs,toks',a',no',hgk,H⟩:=hrel;obtain⟨a,c,rfl⟩:=ey H.own;have HH:=aa H;have hgk':=aa hgk;obtain⟨⟨ad',cap',hPc,-,-⟩,-⟩:=H.pa;have p3:=hPc.cell 3;have pl:=hPc.lt;simp only[ak,am,au]at p3;clear H hPc hgk;by_cases hno:no'=0
  ·subst hno
   by_cases hk:∃t l,toks'=t::l/\t.kind=4
   ·obtain⟨t,l,rfl,ht⟩:=hk
    have q2:Hid (Calls prog 208 #[.pointer (some ⟨P,0,none⟩),.int .i64 4] wr (pk wr P t l en a' 0)):=aa (by have:=mh P t l en a' 0 wr HH.out.pa;rw[ht]at this;exact this);have ht':=aa ht;have HLL:Hid (ns.length+(l.length+1)<=toks.length):=aa HH.out.le;clear ht;have q3:Hid (∀w,ic w P l en a' 0->Calls prog 158 #[.pointer (some ⟨P,0,none⟩)] w (lp w P en .part l)):=aa fun w h=>qi.out l (by have:=HLL.out;omega) a' w h
    go_wp2_with(go_at_call 208;(with_reducible refine q2.out.mono ?_);rintro e w2⟨pa,pc,rfl,he2,hp2,-⟩;have P2:=aa (hp2.below ((aw _ w2).alloc ac (om t pa pc)));have E2:Hid (Ex [P] wr (w2.alloc (om t pa pc))):=aa (he2.alloc _);clear he2 hp2 p3 pl)
    have S2:Hid ((w2.alloc (om t pa pc)).heap.size=w2.heap.size+1):=aa (by simp);generalize w2.alloc (om t pa pc)=W2 at *;have P3:Hid (ic (W2.alloc (fw 3 0 (.slice none 0 0) 0)) P l en a' 0):=aa (P2.out.below ((aw _ W2).alloc ac (fw 3 0 (.slice none 0 0) 0)));go_at_call 158;refine(q3.out _ P3.out).mono ?_;rintro e w3⟨r3,ns3,vs3,toks3,a3,no3,rfl,g1,g2,g3,g4,g5,g6,g7⟩;obtain⟨b3,c3,rfl⟩:=ey g1;have G2:=aa g2;have G4:=aa g4;have G5:=aa g5;have G6:=aa g6;have G7:=aa g7;have E3:Hid (Ex [P] wr w3):=aa (((E2.out.alloc (fw 3 0 (.slice none 0 0) 0)).trans g3).mono (by intro x hx;left;simpa using hx));have T1:Hid (ft w3 81 (some ⟨w2.heap.size+1,0,none⟩) 1 [.int .i64 3,.int .i64 0,.slice none 0 0,.int .i64 0]):=aa (by
     have:=(ft.own (World.ownsRow_lit (base:=W2.heap.size) (e:=81) (size:=4) W2 #[.int .i64 3,.int .i64 0,.slice none 0 0,.int .i64 0] 1 ac (by unfold maxLen;omega) rfl)).keep (P3.out.kt g3 81 (by decide))
     rw[S2.out]at this
     exact this)
    have T2:Hid (ft w3 81 a ns.length vs):=aa ((ft.own HH.out.own).keep (HH.out.pa.kt E3.out 81 (by decide)));have T3:Hid (ft w3 81 b3 ns3.length vs3):=aa (ft.own g1);have V2:Hid (f9 (ju w3) ns vs):=aa (gw HH.out.recs (HH.out.pa.kt E3.out 100 (by decide)));clear g1 g2 g3 g4 g5 g6 g7;have Q4:Hid (Calls prog 209 #[.slice (some ⟨w3.heap.size,0,none⟩) 3 3] (w3.alloc (.cells #[.slice (some ⟨w2.heap.size+1,0,none⟩) 1 1,.slice a ns.length c,.slice b3 ns3.length c3] 29)) fun e w'=>∃v,e=.returned v/\w'.ownsRow (w3.alloc (.cells #[.slice (some ⟨w2.heap.size+1,0,none⟩) 1 1,.slice a ns.length c,.slice b3 ns3.length c3] 29)).heap.size 81 4 v (1+ns.length+ns3.length) ([.int .i64 3,.int .i64 0,.slice none 0 0,.int .i64 0]++vs++vs3)/\Below (w3.alloc (.cells #[.slice (some ⟨w2.heap.size+1,0,none⟩) 1 1,.slice a ns.length c,.slice b3 ns3.length c3] 29)).heap.size (w3.alloc (.cells #[.slice (some ⟨w2.heap.size+1,0,none⟩) 1 1,.slice a ns.length c,.slice b3 ns3.length c3] 29)) w'):=aa (by
     have hbA:=(aw w3.heap.size w3).alloc ac (.cells #[.slice (some ⟨w2.heap.size+1,0,none⟩) 1 1,.slice a ns.length c,.slice b3 ns3.length c3] 29)
     exact abl w3.heap.size 3 (some ⟨w2.heap.size+1,0,none⟩) a b3 1 ns.length ns3.length 1 c c3 _ vs vs3 (by decide) (by have:=G5.out;have:=HLL.out;have:=Hlen.out;omega) _ (At.new _ _) (T1.out.keep (Kt.below hbA)) (T2.out.keep (Kt.below hbA)) (T3.out.keep (Kt.below hbA)) rfl (V2.out.len (fun _ _ h=>h.len)) (G2.out.len (fun _ _ h=>h.len)) (by decide) (jy V2.out jo) (jy G2.out jo))
    go_wp2_with(go_at_call 209;(with_reducible refine Q4.out.mono ?_);rintro e w4⟨v,rfl,ho4,hb4⟩;have O4:=aa ho4;have B4:=aa (((aw w3.heap.size w3).alloc ac (.cells #[.slice (some ⟨w2.heap.size+1,0,none⟩) 1 1,.slice a ns.length c,.slice b3 ns3.length c3] 29)).trans (hb4.mono (by rw[bg];exact dt _)));clear ho4 hb4)
    go_roundg toks3.length
    case rel=>
     refine⟨⟨3,0,[],0⟩::(ns++ns3),_,toks3,a3,no3,ac,?_,(f9.cons (jv w3 3 0) (V2.out.append G2.out)).mono fun _ _ h=>h.keep (Kt.below B4.out),((HH.out.ex.trans E3.out).mono (by intro x hx;left;simpa using hx)).far B4.out (ba HH.out.ex.size E3.out.size),G4.out.below B4.out,by have:=HLL.out;have:=G5.out;simp;omega,G6.out,fun hb=>?_⟩
     ·rw[show(⟨3,0,[],0⟩::(ns++ns3):List QN).length=1+ns.length+ns3.length by simp;omega]
      have:=fx O4.out (show w.heap.size<=_ from ba HH.out.ex.size (ba E3.out.size (by rw[bg];exact dt _)));rw[dc]at this;exact this
     ·obtain⟨T,hT,hP⟩:=HH.out.cps rfl
      obtain⟨U,hU,hQ⟩:=G7.out hb;exact⟨.or T U,by rw[hT,hU];rfl,fun T' l' hc=>hP T' l' (.orOn T t l U toks3 T' l' ht'.out hQ hc)⟩
    case measure=>have h:=hgk'.out;have g:=G5.out;simp at h;omega
   ·have hn:xu toks' 4:=fun u r e hu=>hk ⟨u,r,e,hu⟩
    have hn':=aa hn;have q2:Hid (Calls prog 208 #[.pointer (some ⟨P,0,none⟩),.int .i64 4] wr (kx wr)):=aa (j4 P toks' 4 hn en a' 0 wr HH.out.pa);clear hn hk;go_wp2_with(go_at_call 208;(with_reducible refine q2.out.mono ?_);rintro e w2⟨rfl,hb2⟩;have B2:=aa (hb2.alloc hb2.size (kp 0 0 0 (.slice none 0 0)));clear hb2 p3 pl)
    go_ret;obtain⟨T,hT,hP⟩:=HH.out.cps rfl;exact⟨_,ns,vs,toks',a',0,rfl,fe HH.out.own B2.out,gw HH.out.recs (Kt.below B2.out),(HH.out.ex.trans (Ex.of (S:=[P]) B2.out)).mono (by intro x hx;left;simpa using hx),HH.out.pa.below B2.out,HH.out.le,.inl rfl,fun _=>⟨T,hT,hP T toks' (.orEnd T toks' hn'.out)⟩⟩
  ·have hno':=aa hno
   go_wp2_with fail
   go_ret;exact⟨_,ns,vs,toks',a',no',rfl,HH.out.own,HH.out.recs,HH.out.ex,HH.out.pa,HH.out.le,HH.out.no,fun h=>absurd h hno'.out⟩
end
section
set_option maxRecDepth 100000
set_option maxHeartbeats 4000000
open Go.RowKit Go.Shelf
theorem ah1(P:Nat)(en:Int)(toks:List gq)(w:World)
 (q:Calls prog 157 #[.pointer (some ⟨P,0,none⟩),.func (.func 210) #[.pointer (some ⟨P,0,none⟩)] #[],.int .i64 3,.int .i64 2] w (lp w P en .part toks)):
 Calls prog 158 #[.pointer (some ⟨P,0,none⟩)] w (lp w P en .part toks):=by
 have q':=aa q;clear q;go_enter func158,ntmps158;go_wp2_with fail
 go_at_call 157;refine q'.out.mono ?_;rintro e w1⟨r,ns,vs,toks',a',no',rfl,g⟩;have G:=aa g;clear g;go_wp2_with fail
 go_ret;exact⟨r,ns,vs,toks',a',no',rfl,G.out⟩
theorem afk(P:Nat)(en:Int)(toks:List gq)(w:World)
 (q:Calls prog 157 #[.pointer (some ⟨P,0,none⟩),.func (.func 158) #[.pointer (some ⟨P,0,none⟩)] #[],.int .i64 4,.int .i64 3] w (lp w P en .query toks)):
 Calls prog 103 #[.pointer (some ⟨P,0,none⟩)] w (lp w P en .query toks):=by
 have q':=aa q;clear q;go_enter func103,ntmps103;go_wp2_with fail
 go_at_call 157;refine q'.out.mono ?_;rintro e w1⟨r,ns,vs,toks',a',no',rfl,g⟩;have G:=aa g;clear g;go_wp2_with fail
 go_ret;exact⟨r,ns,vs,toks',a',no',rfl,G.out⟩
theorem pall(P:Nat)(en:Int):∀(n:Nat)(toks:List gq),toks.length=n->∀a,
 (∀w,ic w P toks en a 0->Calls prog 210 #[.pointer (some ⟨P,0,none⟩)] w (lp w P en .item toks))∧
 (∀w,ic w P toks en a 0->Calls prog 158 #[.pointer (some ⟨P,0,none⟩)] w (lp w P en .part toks))∧
 (∀w,ic w P toks en a 0->Calls prog 103 #[.pointer (some ⟨P,0,none⟩)] w (lp w P en .query toks)):=by
 intro n;induction n using Nat.strongRecOn with
 |ind n ih=>
  intro toks hn a;have hi:=fun w(h:ic w P toks en a 0)=>aml P en toks (fun l hl a=>(ih l.length (by omega) l rfl a).1) (fun l hl a=>(ih l.length (by omega) l rfl a).2.2) a w h
  have hp:=fun w(h:ic w P toks en a 0)=>ah1 P en toks w (ah9 P toks en a hi (fun l hl a=>(ih l.length (by omega) l rfl a).1) w h)
  exact⟨hi,hp,fun w h=>afk P en toks w (amq P toks en a hp (fun l hl a=>(ih l.length (by omega) l rfl a).2.1) w h)⟩
theorem ah0(P:Nat)(toks:List gq)(en a:Int)(w:World)(h:ic w P toks en a 0):
 Calls prog 103 #[.pointer (some ⟨P,0,none⟩)] w (lp w P en .query toks):=(pall P en toks.length toks rfl a).2.2 w h
end
section
set_option maxRecDepth 100000
set_option maxHeartbeats 4000000
open Go.RowKit Go.Shelf
def aog(s:ByteArray)(w:World)(e:Ending)(w':World):Prop:=
 ∃(v:Value)(a no:Int),e=.returned (.tuple #[v,.int .i64 a,.int .i64 no])/\Below w.heap.size w w'∧
  ((0<no/\no<200)\/(no=0/\∃T vs,ov s T/\(ew T).length<=64/\jt T<=16/\w'.ownsRow w.heap.size 81 4 v (ew T).length vs/\f9 (ju w') (ew T) vs))
theorem o8{w:World}{base:Nat}{e:TypeId}{size n m cap:Nat}{ad:Option Addr}{xs:List Value}(h:w.ownsRow base e size (.slice ad m cap) n xs):n<=cap:=by
 rcases h.2 with⟨hv,hn⟩|⟨g,cap',cur,hv,hbb,hg,h1,-⟩
 ·omega
 ·cases hv;exact h1
theorem ams(s:ByteArray)(w:World):Calls prog 57 #[.string s] w (aog s w):=by
 have q1:=aa (lex_any s w);go_enter func57,ntmps57;go_wp2_with fail
 go_at_call 102;refine q1.out.mono ?_;rintro e w1⟨v1,a1,no1,rfl,hb1,hres⟩;by_cases hno:no1=0
 ·subst hno
  obtain⟨l,vs,hL,hl,hV,hO⟩:∃l vs,qx s 0 l/\l.length<=1000/\f9 (rt w1) l vs/\w1.ownsRow w.heap.size 217 4 v1 l.length vs:=by
   rcases hres with h|⟨_,h⟩
   ·exact absurd h.1 (by decide)
   ·exact h
  obtain⟨ad1,c1,rfl⟩:=ey hO;have HL:=aa hL;have hTk:il w1 217 ad1 l:=⟨vs,ft.own hO,hV⟩;have hb0:=(aw w1.heap.size w1).alloc ac (psC (.slice ad1 l.length c1) (s.size:Nat) 0 0);have HP0:=aa (show ic (w1.alloc (psC (.slice ad1 l.length c1) (s.size:Nat) 0 0)) w1.heap.size l (s.size:Nat) 0 0 from⟨⟨ad1,c1,At.new _ _,hTk.below hb0,o8 hO⟩,hl⟩);have HB0:=aa (hb1.alloc hb1.size (psC (.slice ad1 l.length c1) (s.size:Nat) 0 0));have HB1:=aa hb1;have q2:=aa (ah0 w1.heap.size l (s.size:Nat) 0 _ HP0.out);clear hres hL hV hO hTk hb1 hb0 q1;go_wp2_with fail
  go_at_call 103;refine q2.out.mono ?_;rintro e w2⟨r2,ns,vs2,toks2,a2,no2,rfl,g1,g2,g3,g4,g5,g6,g7⟩;obtain⟨b2,c2,rfl⟩:=ey g1;have HZ1:=aa HB1.out.size;have HZ2:=aa (show w.heap.size<=(w1.alloc (psC (.slice ad1 l.length c1) (s.size:Nat) 0 0)).heap.size from HB0.out.size);have HB2:Hid (Below w.heap.size w w2):=aa (HB0.out.trans (g3.below HB0.out.size (by have:=HZ1.out;simp;omega)));have G1:=aa (fx g1 HZ2.out);have G2:=aa g2;have G4:=aa g4;have G5:=aa (show ns.length<=1000 by have:=HP0.out.len;omega);have G6:=aa g6;have G7:=aa g7;have HP:Hid (w.heap.size<=w1.heap.size):=HZ1;clear g1 g2 g3 g4 g5 g6 g7 HB0 HP0 q2 HZ2;go_upto_region 6 with fail
  generalize w1.heap.size=P at *;cases toks2 with
  |cons t2 l2=>
   have q4:=aa (sa P (t2::l2) (s.size:Nat) a2 no2 w2 G4.out);obtain⟨⟨ad3,cp3,hA3,-,-⟩,-⟩:=G4.out;have c0:=hA3.cell 0;have pl:=hA3.lt;have hlen:(0:Int)<((l2.length:Int)+1):=by omega
   simp only[ak,am,bz]at c0;clear hA3;go_wp2_with fail
   go_at_call 104;refine q4.out.mono ?_;rintro e w4⟨rfl,he4,a4,hp4⟩;obtain⟨⟨ad5,cp5,hA5,-,-⟩,-⟩:=hp4;have HB4:Hid (Below w.heap.size w w4):=aa (HB2.out.trans (he4.below HB2.out.size (by have:=HP.out;simp;omega)));have hn4:Hid (0<(if no2=0 then 140 else no2:Int)/\(if no2=0 then 140 else no2:Int)<200):=aa (by
    rcases G6.out with h|h
    ·rw[if_pos h];decide
    ·rw[if_neg (by omega)];exact h)
   have hne:((if no2=0 then 140 else no2:Int) !=0)=true:=by rw[bne_iff_ne];have:=hn4.out;omega
   generalize (if no2=0 then 140 else no2:Int)=n4 at *;clear c0 pl;have c2:=hA5.cell 2;have c3:=hA5.cell 3;have pl:=hA5.lt;simp only[ak,am,au]at c2 c3;clear hA5 he4;go_wp2_with fail
   go_region;go_wp2_with fail
   refine ay (v:=.tuple #[.slice none 0 0,.int .i64 a4,.int .i64 n4]) (by first|rfl|simp[results,results57,go_sem]) rfl ⟨_,_,_,rfl,HB4.out.drew,.inl hn4.out⟩
  |nil=>
   obtain⟨⟨ad3,cp3,hA3,-,-⟩,-⟩:=G4.out;have e0:=hA3.cell 0;have e2:=hA3.cell 2;have e3:=hA3.cell 3;have pl:=hA3.lt;simp only[ak,am,au,List.length_nil]at e0 e2 e3;clear hA3;by_cases h0:no2=0
   ·obtain⟨T,hT,hP⟩:=G7.out h0
    subst hT;subst h0;have HPr:=aa hP;clear hP;have q5:=aa (yi T (by have:=G5.out;omega) b2 c2 (o8 G1.out) w2 ⟨vs2,ft.own G1.out,G2.out⟩);have hF5:(ew T).length<=1000:=G5.out;have hdl:=xj T;generalize hF:(ew T).length=F at *;have HF:=aa hF;have hD5:jt T<=1000:=by omega
    generalize hDD:jt T=D at *;have HD:=aa hDD;clear hF hDD hdl;by_cases h64:(64:Int)<F
    ·go_wp2_with fail
     refine ay (v:=.tuple #[.slice none 0 0,.int .i64 0,.int .i64 142]) (by first|rfl|simp[results,results57,go_sem]) rfl ⟨_,_,_,rfl,HB2.out,.inl ⟨by decide,by decide⟩⟩
    ·have HF64:Hid (F<=64):=aa (by omega)
     by_cases h16:(16:Int)<D
     ·go_wp2_with(go_at_call 105;(with_reducible refine q5.out.mono ?_);rintro e w6⟨rfl,hb6⟩;have HB6:=aa (HB2.out.trans (hb6.mono HB2.out.size));clear hb6)
      refine ay (v:=.tuple #[.slice none 0 0,.int .i64 0,.int .i64 141]) (by first|rfl|simp[results,results57,go_sem]) rfl ⟨_,_,_,rfl,HB6.out,.inl ⟨by decide,by decide⟩⟩
     ·have HD16:Hid (D<=16):=aa (by omega)
      go_wp2_with(go_at_call 105;(with_reducible refine q5.out.mono ?_);rintro e w6⟨rfl,hb6⟩;have HB6:=aa (HB2.out.trans (hb6.mono HB2.out.size));have K6:=aa hb6;clear hb6)
      refine ay (v:=.tuple #[.slice b2 F c2,.int .i64 (s.size:Nat),.int .i64 0]) (by first|rfl|simp[results,results57,go_sem]) rfl ⟨_,_,_,rfl,HB6.out,.inr ⟨rfl,T,vs2,⟨l,HL.out,HPr.out⟩,by rw[HF.out];exact HF64.out,by rw[HD.out];exact HD16.out,by rw[HF.out];exact fe G1.out K6.out,gw G2.out (Kt.below K6.out)⟩⟩
   ·have hne:(no2 !=0)=true:=by rw[bne_iff_ne];exact h0
    have hn4:Hid (0<no2/\no2<200):=aa (G6.out.resolve_left h0);clear h0;go_wp2_with fail
    go_region;go_wp2_with fail
    refine ay (v:=.tuple #[.slice none 0 0,.int .i64 a2,.int .i64 no2]) (by first|rfl|simp[results,results57,go_sem]) rfl ⟨_,_,_,rfl,HB2.out.drew,.inl hn4.out⟩
 ·have hne:(no1 !=0)=true:=by rw[bne_iff_ne];exact hno
  have Hno:=aa (show 0<no1/\no1<200 from by
   rcases hres with h|h
   ·exact h
   ·exact absurd h.1 hno)
  have HB1:=aa hb1;clear hno hres hb1;go_wp2_with fail
  refine ay (v:=.tuple #[.slice none 0 0,.int .i64 a1,.int .i64 no1]) (by first|rfl|simp[results,results57,go_sem]) rfl ⟨_,_,_,rfl,HB1.out,.inl Hno.out⟩
end
section
set_option maxRecDepth 100000
set_option maxHeartbeats 8000000
open Go.RowKit Go.Shelf
theorem make84n(n:Nat)(hn:n<=100000)(w:World):(Instr.makeSlice 84 (.int .i64 (n:Nat)) (.int .i64 (n:Nat))).run prog w=.ok (.slice (some ⟨w.heap.size,0,none⟩) n n) (w.alloc (.cells (List.replicate n (Value.slice none 0 0)).toArray 24)):=by
 obtain⟨i,hi,h1,h2,h3⟩:=info_parts (P:=prog) (show(prog.info? 24).map (fun i=>(i.zero,i.size,i.bytes))=some (some (.slice none 0 0),1,24)from by kernel_rfl);have h:=run_make (P:=prog) w 84 24 i (.slice none 0 0) underlying84 hi h1 .i64 .i64 n n (by omega) (by omega) (by rw[h3];omega) (by omega);rw[h2,Nat.mul_one]at h;have e:madeCells #[Value.slice none 0 0] n=(List.replicate n (Value.slice none 0 0)).toArray:=by
  apply Array.ext';rw[toList_madeCells_one]
 rw[<-e];exact h
theorem ft.rdF{w:World}{ty:TypeId}{ad:Option Addr}{n:Nat}{xs:List Value}(h:ft w ty ad n xs):n=0\/∃b o,ad=some ⟨b,o,none⟩/\b<w.heap.size/\∀(j:Nat)u,xs[j]?=some u->w.cell? ⟨b,o+j,none⟩=some u:=by
 by_cases h0:n=0
 ·exact .inl h0
 ·exact .inr (h.cell (by omega))
theorem SrK.kt{w w':World}{S k own sb nx kb:Nat}{ad:Option Addr}{cap:Nat}{p:List (Nat->Bool)×Nat}{next:Nat}(h:SrK w S k own sb nx kb ad cap p next)(k1:Kt 52 w w')(k2:Kt 72 w w')(k3:Kt 3 w w')(k4:Kt 100 w w'):SrK w' S k own sb nx kb ad cap p next:=
 ⟨k1 _ _ _ h.own_,k2 _ _ _ h.sb_,k3 _ _ _ h.nx_,k3 _ _ _ h.kb_,h.row.keep k4⟩
theorem SrI.kt{w w':World}{S N0 N0':Nat}{Ls:List (List (Nat->Bool)×Nat)}{sps:List Sp}{ν:Nat->Nat}(h:SrI w S N0 Ls sps ν)(k1:Kt 52 w w')(k2:Kt 72 w w')(k3:Kt 3 w w')(k4:Kt 100 w w')(hN:N0<=N0'):SrI w' S N0' Ls sps ν:=
 ⟨h.len,fun k p s hp hs=>by
  obtain⟨h1,h2,h3,h4⟩:=h.one k p s hp hs
  exact⟨h1.kt k1 k2 k3 k4,h2,by omega,by omega⟩,h.dis⟩
theorem SrI.snoc{w:World}{S N0 M:Nat}{Ls:List (List (Nat->Bool)×Nat)}{sps:List Sp}{ν:Nat->Nat}{p:List (Nat->Bool)×Nat}{s:Sp}(h:SrI w S M Ls sps ν)(hp:Ls[sps.length]?=some p)(hC:SrK w S sps.length s.own s.sb s.nx s.kb s.ad s.cap p (ν sps.length))(hne:s.nx≠s.kb)(hn:s.nx<N0)(hk:s.kb<N0)(hf:M<=s.nx/\M<=s.kb):SrI w S N0 Ls (sps++[s]) ν:=by
 have hlt:=(cy.1 hp).1;have old:∀(i:Nat)(t:Sp),sps[i]?=some t->t.nx<M/\t.kb<M:=fun i t ht=>by
  have hi:=(cy.1 ht).1;obtain⟨q,hq⟩:∃q,Ls[i]?=some q:=⟨_,bs (by omega)⟩;exact(h.one i q t hq ht).2.2
 have get:∀(i:Nat)(t:Sp),(sps++[s])[i]?=some t->(i<sps.length/\sps[i]?=some t)\/(i=sps.length/\t=s):=fun i t ht=>by
  rcases Nat.lt_or_ge i sps.length with hi|hi
  ·rw[ek hi]at ht
   exact .inl ⟨hi,ht⟩
  ·rw[ef hi]at ht
   have hi2:=(cy.1 ht).1;simp at hi2;obtain rfl:i=sps.length:=by omega
   simp at ht;exact .inr ⟨rfl,ht.symm⟩
 refine⟨by simp;omega,fun k q t hq ht=>?_,fun i j t u hij ht hu=>?_⟩
 ·rcases get k t ht with⟨hi,ht⟩|⟨rfl,rfl⟩
  ·obtain⟨h1,h2,h3,h4⟩:=h.one k q t hq ht
   exact⟨h1,h2,by omega,by omega⟩
  ·rw[hp]at hq
   cases hq;exact⟨hC,hne,hn,hk⟩
 ·rcases get i t ht with⟨hi,ht2⟩|⟨hi,ht2⟩
  ·rcases get j u hu with⟨hj,hu2⟩|⟨hj,hu2⟩
   ·exact h.dis i j t u hij ht2 hu2
   ·have:=old i t ht2
    rw[hu2];omega
  ·rcases get j u hu with⟨hj,hu2⟩|⟨hj,hu2⟩
   ·have:=old j u hu2
    rw[ht2];omega
   ·omega
theorem Ex.trans1{S:List Nat}{a b c:World}(h:Ex S a b)(k:Ex S b c):Ex S a c:=(h.trans k).mono (by intro x hx;left;simpa using hx)
theorem alx(t:ByteArray)(Ls:List (List (Nat->Bool)×Nat)):adc t Ls (fun _=>0)=fun _=>[]:=by
 funext k;unfold adc;split
 ·simp[qm,qz,kh]
 ·rfl
def NewPost(T:QT)(t:ByteArray)(F sz limit:Int)(w:World)(e:Ending)(w':World):Prop:=
 ∃(v:Value)(c:Int),e=.returned (.tuple #[v,.int .i64 c])/\Below w.heap.size w w'∧
  ((0<c/\c≠200/\¬(F=0/\sz=0/\ir T=true/\(te (fy (ew T)):Int)<=limit/\limit<=10000))\/(c=0/\ir T=true/\∃S FD sps,v=.pointer (some ⟨S,0,none⟩)/\tu w' S FD w.heap.size w'.heap.size T t F sz limit sps 0 0 0 ⟨#[]⟩ fun _=>0))
structure NwL(W6 w:World)(S FD:Nat)(T:QT)(F sz limit:Int)(aq:Option Addr)(cq:Nat)(q:Nat)(sps:List Sp)(asr:Option Addr)(csr:Nat):Prop where
 at_:At w S (zk 0 0 (.slice aq (ew T).length cq) F sz limit (te (fy (ew T)):Nat) ⟨#[]⟩ 0 (.slice asr q csr) (.slice (some ⟨FD,0,none⟩) (fy (ew T)).length (fy (ew T)).length))
 sl:sps.length=q
 sr:SrI w S w.heap.size (fy (ew T)) sps fun _=>0
 own:w.ownsRow W6.heap.size 140 1 (.slice asr q csr) q (sps.map Sp.fn)
 lo:∀s∈sps,FD<s.nx
 ex:Ex [S] W6 w
theorem aam(T:QT)(t:ByteArray)(hl:(ew T).length<=64)(hE2:∀x∈ew T,x.els.length<=2000)(adn:Option Addr)(cn:Nat)(hcn:(ew T).length<=cn)(F sz limit:Int)(w:World)(hN:gd w adn (ew T)):
 Calls prog 58 #[.slice adn (ew T).length cn,.agg #[.int .i64 F,.int .i64 sz],.int .i64 limit] w (NewPost T t F sz limit w):=by
 have TN:=aa fun w'(hb:Below w.heap.size w w')=>hN.below hb
 have h1:=aa fun w' h=>an1 T (by omega) hE2 adn cn hcn F sz w' h
 have h2:=aa fun w' h=>yw (ew T) (by omega) hE2 adn cn w' h
 have h4:=aa fun w' h=>vy (ew T) (by omega) adn cn w' h
 have h5:=aa fun(S k cap K:Nat)(l:List (Nat->Bool))(hl:l.length<=1000)(ad:Option Addr)w' hT=>apc S k cap K l hl ad w' hT
 have h3:Hid (∀w',gd w' adn (ew T)->Calls prog 108 #[.slice adn (ew T).length cn] w' fun e w''=>∃aq cq,e=.returned (.slice aq (ew T).length cq)/\(ew T).length<=cq/\gd w'' aq (ew T)/\Below w'.heap.size w' w''):=aa fun w' h=>by
  obtain⟨vs,hT,hV⟩:=h;refine(aeo adn (ew T).length cn vs (by omega) (hV.len fun _ _ h=>h.len) (jy hV jo) w' hT.rdF).mono ?_;rintro e w''⟨v,rfl,ho,hb⟩;obtain⟨aq,cq,rfl⟩:=ey ho;exact⟨aq,cq,rfl,o8 ho,⟨vs,ft.own ho,gw hV (Kt.below hb)⟩,hb⟩
 have hll:=se (ew T);have hLl:((fy (ew T)).length:Int)<=64:=by omega
 have hmk:=make84n (fy (ew T)).length (by omega);have hA:Below w.heap.size w (w.alloc (.cells #[.int .i64 F,.int .i64 sz] 35)):=ae.alloc ac _;have hbox:At (w.alloc (.cells #[.int .i64 F,.int .i64 sz] 35)) w.heap.size (.cells #[.int .i64 F,.int .i64 sz] 35):=At.new _ _;have a0:=hbox.cell 0;have a1:=hbox.cell 1;have al:=hbox.lt;simp only[ak,am,au]at a0 a1;have HBX:=aa hbox;have HA:=aa hA;clear hN hE2 hA hbox;go_enter func58,ntmps58;go_wp2_with fail
 go_at_call 106;refine(h1.out _ (TN.out _ HA.out)).mono ?_;rintro e w1⟨c,rfl,hb1,hc⟩;have B1:=aa (HA.out.trans (hb1.mono HA.out.size));have X1:=aa (HBX.out.below hb1 al);clear hb1 a0 a1 al h1 HBX;rcases hc with⟨hc0,hc2,hc3⟩|⟨rfl,hrT⟩
 ·have hcn:(c==0)=false:=by rw[ax];omega
  have hcn2:c≠0:=by omega
  go_wp2_with fail
  go_ret2
  exact⟨_,c,rfl,B1.out,.inl ⟨hc0,by omega,fun k=>hc3 ⟨k.1,k.2.1,k.2.2.1⟩⟩⟩
 have HRT:=aa hrT;have HLv:Hid (∀p∈fy (ew T),p.1.length<=1000):=aa fun p hp=>by
  have:=j6 hrT (show(p.1,p.2)∈_ from hp);unfold fv at this;simp only[ce,cg]at this;omega
 clear hrT;obtain⟨LN,hLN⟩:∃LN:Int,LN=((te (fy (ew T)):Nat):Int):=⟨_,rfl⟩;rw[<-hLN]at h2;by_cases hlim:limit<LN
 ·go_wp2_with(go_at_call 107;refine(h2.out _ (TN.out _ B1.out)).mono ?_;rintro e w2⟨rfl,hb2⟩;have B2:=aa (B1.out.trans (hb2.mono B1.out.size)))
  go_ret2
  exact⟨_,201,rfl,B2.out,.inl ⟨by omega,by omega,fun k=>by omega⟩⟩
 by_cases hlim2:10000<limit
 ·go_wp2_with(go_at_call 107;refine(h2.out _ (TN.out _ B1.out)).mono ?_;rintro e w2⟨rfl,hb2⟩;have B2:=aa (B1.out.trans (hb2.mono B1.out.size)))
  go_ret2
  exact⟨_,201,rfl,B2.out,.inl ⟨by omega,by omega,fun k=>by omega⟩⟩
 go_wp2_with(go_at_call 107;refine(h2.out _ (TN.out _ B1.out)).mono ?_;rintro e w2⟨rfl,hb2⟩;have B2:=aa (B1.out.trans (hb2.mono B1.out.size));have X2:=X1.out.below hb2 X1.out.lt;have d0:=X2.cell 0;have d1:=X2.cell 1;have dl:=X2.lt;clear X2 hb2;simp only[ak,am,au]at d0 d1)
 go_region_held3 (fun w'=>fo w2 w') (first|with_reducible assumption|with_reducible exact fo.start _|with_reducible exact fo.alloc (by with_reducible assumption) _) (first|(go_at_call 108;refine(h3.out w2.drew (TN.out _ B2.out.drew)).mono ?_;rintro e w3⟨aq,cq,rfl,hcq,hnq,hb3⟩;have O3:=fo.calld (fo.refl w2) hb3;have HNQ:=aa hnq;have HCQ:=aa hcq;clear hnq hcq))
 subst hLN;have hS3:=At.new w3 (zk 0 0 (.slice aq (ew T).length cq) F sz limit (te (fy (ew T)):Nat) ⟨#[]⟩ 0 (.slice none 0 0) (.slice none 0 0));have hbA:Below w3.heap.size w3 (w3.alloc (zk 0 0 (.slice aq (ew T).length cq) F sz limit (te (fy (ew T)):Nat) ⟨#[]⟩ 0 (.slice none 0 0) (.slice none 0 0))):=ae.alloc ac _;have HNQ4:=aa (HNQ.out.below hbA);have B4:=aa ((B2.out.trans (O3.2.2.2.mono B2.out.size)).trans (hbA.mono (ba B2.out.size O3.2.2.2.size)));have zS:w.heap.size<=w3.heap.size:=ba B2.out.size O3.2.2.2.size;have zl:=hS3.lt;have HS4:=aa hS3;clear hbA O3 hb3 B1 X1 HA d0 d1 dl HNQ hS3;generalize w3.alloc (zk 0 0 (.slice aq (ew T).length cq) F sz limit (te (fy (ew T)):Nat) ⟨#[]⟩ 0 (.slice none 0 0) (.slice none 0 0))=W4 at *;generalize w3.heap.size=S at *;go_wp2_with(go_at_call 109;refine(h4.out _ (TN.out _ B4.out)).mono ?_;rintro e w5⟨v5,vs5,rfl,ho5,hv5,hb5⟩;obtain⟨lad,lcap,rfl⟩:=ey ho5;have hS5:=HS4.out.below hb5 zl;have s5:=hS5.lt;have fz5:=hS5.free 10;have e10:=hS5.cell 10;simp only[ak,am,au]at e10;have HS5:=aa hS5;have HB5:=aa hb5;have HLf:=aa (show ub w5 lad (fy (ew T))from⟨vs5,ft.own ho5,hv5⟩);clear hS5 hb5 ho5 hv5)
 have hS6:=(HS5.out.set 10 (.slice (some ⟨w5.heap.size,0,none⟩) (fy (ew T)).length (fy (ew T)).length)).alloc (.cells (Array.replicate (fy (ew T)).length (Value.slice none 0 0)) 24);have hF6:=At.new (w5.setCell ⟨S,10,none⟩ (.slice (some ⟨w5.heap.size,0,none⟩) (fy (ew T)).length (fy (ew T)).length)) (.cells (Array.replicate (fy (ew T)).length (Value.slice none 0 0)) 24);have hz6:(w5.setCell ⟨S,10,none⟩ (.slice (some ⟨w5.heap.size,0,none⟩) (fy (ew T)).length (fy (ew T)).length)).heap.size=w5.heap.size:=by simp
 rw[hz6]at hF6;have e6:Ex [S] w5 ((w5.setCell ⟨S,10,none⟩ (.slice (some ⟨w5.heap.size,0,none⟩) (fy (ew T)).length (fy (ew T)).length)).alloc (.cells (Array.replicate (fy (ew T)).length (Value.slice none 0 0)) 24)):=((Ex.refl [S] w5).set S 10 _ (by simp)).alloc _;have k6:∀ty,ty≠137->Kt ty w5 ((w5.setCell ⟨S,10,none⟩ (.slice (some ⟨w5.heap.size,0,none⟩) (fy (ew T)).length (fy (ew T)).length)).alloc (.cells (Array.replicate (fy (ew T)).length (Value.slice none 0 0)) 24)):=fun ty hty=>Kt.at1 e6 HS5.out (fun e=>hty e.symm)
 have HNQ6:=aa (((HNQ4.out.below HB5.out).keep (k6 81 (by decide)) (k6 100 (by decide))));have HLf6:=aa (HLf.out.keep (k6 52 (by decide)) (k6 100 (by decide)));have B6:=aa (B4.out.trans ((HB5.out.mono B4.out.size).trans (e6.below (ba B4.out.size HB5.out.size) (by intro x hx;rw[cd.1 hx];exact zS))));have HF6:=aa hF6;have zF:S<w5.heap.size:=s5;have HL6:=aa hS6;have HW6:Hid (NwL ((w5.setCell ⟨S,10,none⟩ (.slice (some ⟨w5.heap.size,0,none⟩) (fy (ew T)).length (fy (ew T)).length)).alloc (.cells (Array.replicate (fy (ew T)).length (Value.slice none 0 0)) 24)) ((w5.setCell ⟨S,10,none⟩ (.slice (some ⟨w5.heap.size,0,none⟩) (fy (ew T)).length (fy (ew T)).length)).alloc (.cells (Array.replicate (fy (ew T)).length (Value.slice none 0 0)) 24)) S w5.heap.size T F sz limit aq cq 0 [] none 0):=aa ⟨hS6,rfl,⟨cx _,fun k p s _ h=>by simp at h,fun i j s t _ h _=>by simp at h⟩,bj _ _ _ _,fun s h=>by simp at h,Ex.refl _ _⟩;have z6:w5.heap.size<((w5.setCell ⟨S,10,none⟩ (.slice (some ⟨w5.heap.size,0,none⟩) (fy (ew T)).length (fy (ew T)).length)).alloc (.cells (Array.replicate (fy (ew T)).length (Value.slice none 0 0)) 24)).heap.size:=hF6.lt;clear hS6 hF6 hz6 e6 k6 HS5 HB5 HS4 HNQ4 HLf B4 fz5 e10 s5 zl hmk h2 h3 h4 B2 TN;generalize ((w5.setCell ⟨S,10,none⟩ (.slice (some ⟨w5.heap.size,0,none⟩) (fy (ew T)).length (fy (ew T)).length)).alloc (.cells (Array.replicate (fy (ew T)).length (Value.slice none 0 0)) 24))=W6 at *;generalize w5.heap.size=FD at *;have HF6:Hid (At W6 FD (.cells (List.replicate (fy (ew T)).length (Value.slice none 0 0)).toArray 24)):=aa (by have:=HF6.out;rwa[<-List.toArray_replicate]at this);go_loopw[46] (fun i wr=>∃(q:Nat)(sps:List Sp)(asr:Option Addr)(csr:Nat),q<=(fy (ew T)).length/\i=.int .i64 (q:Nat)/\NwL W6 wr S FD T F sz limit aq cq q sps asr csr) (fun i _=>(fy (ew T)).length-(intOf i).toNat)
 case atStart=>exact⟨0,[],none,0,cx _,rfl,HW6.out⟩
 case round=>
  clear HW6;obtain⟨q,sps,asr,csr,hq,rfl,hL⟩:=hrel;have HL:=aa hL;clear hL;have zz:W6.heap.size<=wr.heap.size:=HL.out.ex.size;by_cases hlt:q<(fy (ew T)).length
  ·obtain⟨p,hp⟩:∃p,(fy (ew T))[q]?=some p:=⟨_,bs hlt⟩
   have hlti:(q:Int)<(fy (ew T)).length:=by omega
   have hq0:(0:Int)<=q:=by omega
   have HKr:Hid (∀ty,ty≠137->Kt ty W6 wr):=aa fun ty hty=>Kt.at1 HL.out.ex HL6.out (fun e=>hty e.symm)
   obtain⟨lb,lo,pa,pc,rfl,hlbl,f0,f1,hpT⟩:=(HLf6.out.keep (HKr.out 52 (by decide)) (HKr.out 100 (by decide))).at hp;have HPT:=aa hpT;have HP:=aa hp;have HPl:=aa (HLv.out p (dm hp));clear hp hpT;go_wp2_with fail
   have hA7:=(aw wr.heap.size wr).alloc ac (.cells #[.slice pa p.1.length pc,.int .i64 (p.2:Nat)] 52);have hX7:=At.new wr (.cells #[.slice pa p.1.length pc,.int .i64 (p.2:Nat)] 52);have HX7:=aa hX7;have c0:=hX7.cell 0;have c1:=hX7.cell 1;have cl:=hX7.lt;have HS7:=aa (HL.out.at_.below hA7 HL.out.at_.lt);have HO7:=aa (fe HL.out.own hA7);have HR7:=aa (HL.out.sr.below hA7 ac);have HE7:=aa (HL.out.ex.then hA7);have HT7:=aa (HPT.out.keep (Kt.below hA7));have HLo:=aa HL.out.lo;have hsl:=HL.out.sl;clear hA7 hX7 f0 f1;simp only[ak,am,au]at c0 c1;generalize hL5:wr.heap.size=L5 at *;generalize wr.alloc (.cells #[.slice pa p.1.length pc,.int .i64 (p.2:Nat)] 52)=W7 at *;have e9:=HS7.out.cell 9;have l7:=HS7.out.lt;simp only[ak,am,au]at e9;have dA:W7.drew.cell? ⟨L5,0,none⟩=some (.slice pa p.1.length pc)/\W7.drew.cell? ⟨L5,1,none⟩=some (.int .i64 (p.2:Nat)):=⟨c0,c1⟩;have h5q:=aa (h5.out S q pc p.2 p.1 HPl.out pa W7.drew (HT7.out.keep (Kt.below ae.drew)));refine wp_region_held_drew (S:=fun w'=>w'.cell? ⟨L5,0,none⟩=some (.slice pa p.1.length pc)/\w'.cell? ⟨L5,1,none⟩=some (.int .i64 (p.2:Nat))) (by kernel_rfl) dA (fun hS=>?_);refine tk 0 51 (.pointer (some ⟨S,0,none⟩)) hS ?_;refine tk 1 52 (.pointer (some ⟨S,0,none⟩)) hS ?_;refine tk 2 53 (.pointer (some ⟨S,0,none⟩)) hS ?_;refine tk 3 54 (.pointer (some ⟨S,9,none⟩)) hS ?_;refine tk 5 56 (.pointer (some ⟨S,0,none⟩)) hS ?_;refine tk 6 57 (.int .i64 (q:Nat)) hS ?_;refine tk 7 58 (.agg #[.slice pa p.1.length pc,.int .i64 (p.2:Nat)]) hS ?_;refine wpAnyH_ready (rs:=[4,8]) (by kernel_rfl) (by simp) ?_;refine AllReadyH.cons rfl (fun Kc hK=>?_) (AllReadyH.cons rfl (fun Kc hK=>?_) AllReadyH.nil);go_simp;refine hK.out _ _ hS (fun hH=>?_);try simp only[Act.put,ag,ai,aj]
   clear hK Kc;refine mw 8 (fun Kc hK=>?_);all_goals
    go_simp;go_at_call 110;refine h5q.out.mono ?_;rintro e w8⟨own,sb,nx,kb,adp,capp,rfl,hC8,⟨z1,z2,z3,z4⟩,hnk,hb8⟩;dsimp only;have l8:L5<w8.heap.size:=az cl hb8.size;have hb78:Below W7.heap.size W7 w8:=(aw W7.heap.size W7).drew.trans hb8;have HX8:=aa (HX7.out.below hb78 HX7.out.lt);have dB:w8.cell? ⟨L5,0,none⟩=some (.slice pa p.1.length pc)/\w8.cell? ⟨L5,1,none⟩=some (.int .i64 (p.2:Nat)):=⟨HX8.out.cell 0,HX8.out.cell 1⟩;have HS8:=aa (HS7.out.below hb78 l7);have HO8:=aa (fe HO7.out hb78);have HR8:=aa (HR7.out.below hb78 ac);have HE8:=aa (HE7.out.then hb78);have HC8:=aa hC8;have e98:=HS8.out.cell 9;have ls8:=HS8.out.lt;simp only[ak,am,au]at e98;have bA:=(aw w8.heap.size w8).alloc ac (.cells #[s7 own sb nx kb] 140);have dD:(w8.alloc (.cells #[s7 own sb nx kb] 140)).cell? ⟨L5,0,none⟩=some (.slice pa p.1.length pc)/\(w8.alloc (.cells #[s7 own sb nx kb] 140)).cell? ⟨L5,1,none⟩=some (.int .i64 (p.2:Nat)):=⟨(bA.cell (p:=⟨L5,0,none⟩) l8).trans dB.1,(bA.cell (p:=⟨L5,1,none⟩) l8).trans dB.2⟩;have e9A:(w8.alloc (.cells #[s7 own sb nx kb] 140)).cell? ⟨S,9,none⟩=some (.slice asr q csr):=(bA.cell (p:=⟨S,9,none⟩) ls8).trans e98;have hz7:W7.drew.heap.size=W7.heap.size:=rfl;have hW8:W6.heap.size<=(w8.alloc (.cells #[s7 own sb nx kb] 140)).heap.size:=by have:=hb78.size;rw[bg];omega
    have h78:W7.heap.size<=w8.heap.size:=hb78.size;have HNw:Hid (ag0 (w8.alloc (.cells #[s7 own sb nx kb] 140)) (some ⟨w8.heap.size,0,none⟩) 1 [s7 own sb nx kb]):=aa (.inr ⟨w8.heap.size,0,rfl,fun i u hi=>by
     cases i with
     |zero=>simp at hi;subst hi;simp[go_sem]
     |succ i=>simp at hi⟩)
    have hml:(sps.map Sp.fn).length=q:=by rw[List.length_map];exact hsl
    clear hC8 hb8 hb78 bA;refine hK.out _ _ dB (fun hH=>?_);try simp only[Act.put,ag,ai,aj]
    clear hK Kc
   refine mw 9 (fun Kc hK=>?_);go_simp;refine hK.out _ _ dD (fun hH=>?_);try simp only[Act.put,ag,ai,aj]
   clear hK Kc;rotate_left 1
   refine wpAnyH_ready (rs:=[4,9]) (by kernel_rfl) (by simp) ?_;refine(AllReadyH.cons rfl (fun Kc hK=>?_) (AllReadyH.cons rfl (fun Kc hK=>?_) AllReadyH.nil));go_simp;refine hK.out _ _ dB (fun hH=>?_);try simp only[Act.put,ag,ai,aj]
   clear hK Kc;refine mw 9 (fun Kc hK=>?_);go_simp;refine hK.out _ _ dD (fun hH=>?_);try simp only[Act.put,ag,ai,aj]
   clear hK Kc;rotate_left 1
   go_simp;refine hK.out _ _ dD (fun hH=>?_);try simp only[Act.put,ag,ai,aj]
   clear hK Kc;refine mw 4 (fun Kc hK=>?_);go_simp;refine hK.out _ _ dD (fun hH=>?_);try simp only[Act.put,ag,ai,aj]
   clear hK Kc;all_goals
    refine mw 10 (o:={dst:=some 61,op:=.call {callee:=.builtin .append,args:=#[.tmp 55,.tmp 60],argTypes:=#[135,135]},type:=135,pos:= "stream.go:48",after:=_,guard:=none}) (fun Kc hK=>?_);refine ij elem135 (by with_reducible rfl) (.tmp 55) (.tmp 60) (by with_reducible rfl) (by rfl) (HO8.out.alloc _) (by rfl) HNw.out (by rfl) (by simp[Value.oneCell']) (by unfold maxLen;omega) (by omega) hW8 ?_;intro v9 w9 hown' hb9' hk9 hg9 hv9;obtain⟨asr',csr',rfl⟩:=ey hown';have K9:Hid (∀ty,140≠ty->Kt ty w8 w9):=aa fun ty h=>(((Kt.refl ty w8).alloc _).trans (hk9 ty h))
    have hb9:Below W6.heap.size w8 w9:=((aw W6.heap.size w8).alloc (by omega) _).trans hb9';have HX9:Hid (At w9 L5 (.cells #[.slice pa p.1.length pc,.int .i64 (p.2:Nat)] 52)):=aa (K9.out 52 (by decide) _ _ _ HX8.out);have hS9:At w9 S _:=K9.out 137 (by decide) _ _ _ HS8.out;have HS9:=aa hS9;have fz9:=hS9.free 9;have e99:=hS9.cell 9;have ls9:=hS9.lt;simp only[ak,am,au]at e99;have x9:Ex [S] w9 (w9.setCell ⟨S,9,none⟩ (.slice asr' (q+1) csr')):=(Ex.refl [S] w9).set S 9 _ (by simp);have dF:(w9.setCell ⟨S,9,none⟩ (.slice asr' (q+1) csr')).cell? ⟨L5,0,none⟩=some (.slice pa p.1.length pc)/\(w9.setCell ⟨S,9,none⟩ (.slice asr' (q+1) csr')).cell? ⟨L5,1,none⟩=some (.int .i64 (p.2:Nat)):=by
     have hx:=HX9.out.ex x9 (by simp;omega);exact⟨hx.cell 0,hx.cell 1⟩
    have HB9:=aa hb9;have HX:=aa x9;have HO9:=aa hown';have hs9:w8.heap.size<=w9.heap.size:=hb9.size;clear hown' hS9 x9 hb9 hb9' hk9 hg9 hv9;refine hK.out _ _ (show w9.cell? ⟨L5,0,none⟩=some (.slice pa p.1.length pc)/\w9.cell? ⟨L5,1,none⟩=some (.int .i64 (p.2:Nat))from⟨HX9.out.cell 0,HX9.out.cell 1⟩) (fun hH=>?_);try simp only[Act.put,ag,ai,aj]
    clear hK Kc;refine tk 11 62 (.pointer (some ⟨S,0,none⟩)) hH ?_;refine tk 12 63 (.pointer (some ⟨S,9,none⟩)) hH ?_;refine mw 13 (fun Kc hK=>?_);go_simp;refine hK.out _ _ dF (fun hH=>?_);try simp only[Act.put,ag,ai,aj]
    clear hK Kc;refine wpAnyH_done (by kernel_rfl) ?_ _;clear dA dB dD dF e98 e9A e99 hS c0 c1;go_wp2_with fail
    go_roundw
    case rel=>
     have hS10:=HS9.out.set 9 (.slice asr' (q+1) csr');have k1:=K9.out 52 (by decide);have k2:=K9.out 72 (by decide);have k3:=K9.out 3 (by decide);have k4:=K9.out 100 (by decide);have hz10:(w9.setCell ⟨S,9,none⟩ (.slice asr' (q+1) csr')).heap.size=w9.heap.size:=by simp
     have n3:=HC8.out.nx_.lt;have n4:=HC8.out.kb_.lt;have hR9:=((HR8.out.snoc (N0:=w8.heap.size) (s:=⟨own,sb,nx,kb,adp,capp⟩) (by rw[hsl];exact HP.out) (by rw[hsl];exact HC8.out) hnk n3 n4 ⟨ba (by omega) z3,ba (by omega) z4⟩).kt k1 k2 k3 k4 hs9).ex HX.out HS9.out;refine⟨q+1,sps++[⟨own,sb,nx,kb,adp,capp⟩],asr',csr',by omega,by go_num,hS10,by simp[hsl],by rw[hz10];exact hR9,?_,fun t ht=>?_,(HE8.out.far HB9.out ac).trans1 HX.out⟩
     ·rw[ep]
      exact nk HO9.out HX.out (fun x hx cur h=>by
       rw[cd.1 hx]at h
       have h2:w9.heap[S]?=_:=HS9.out
       rw[h2]at h
       injection h with h
       injection h with h3 h4
       exact absurd h4 (by decide))
     ·rcases List.mem_append.1 ht with ht|ht
      ·exact HLo.out t ht
      ·rw[cd.1 ht]
       show FD<nx;omega
    case measure=>simp[intOf];omega
  ·obtain rfl:q=(fy (ew T)).length:=by omega
   go_wp2_with fail
   go_ret2
   have hB:=B6.out.trans (HL.out.ex.below B6.out.size (by intro x hx;rw[cd.1 hx];exact zS));have k6:∀ty,ty≠137->Kt ty W6 wr:=fun ty hty=>Kt.at1 HL.out.ex HL6.out (fun e=>hty e.symm)
   have hF:=FdI.of wr FD wr.heap.size (fy (ew T)).length (HF6.out.ex HL.out.ex (by simp;omega));rw[<-alx t (fy (ew T))]at hF;exact⟨_,0,rfl,hB,.inr ⟨rfl,HRT.out,S,FD,sps,rfl,⟨⟨aq,cq,asr,csr,HL.out.at_,HCQ.out,HNQ6.out.keep (k6 81 (by decide)) (k6 100 (by decide)),ft.own HL.out.own⟩,HL.out.sl,HL.out.sr,⟨_,hF⟩,⟨zS,by omega,fun s hs=>by have:=HL.out.lo s hs;omega,hB.size⟩,ac⟩⟩⟩
end
end Go.Proofs.YtjfkmoinldlmaaaGreat
