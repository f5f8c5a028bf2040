/- The walk of BeagleFails, part 33. Walks of Leaves, the program's and the reference's, at any nodes. Walks of package query's Longest at any nodes. Walks of the parser at any tokens: next, fails. Walk of the parser's find at any tokens. Walk of the scanner's class at any text. -/
import Derived.Test.YtjfkmoinldlmaaaGreatFa32
import Derived.Test.YtjfkmoinldlmaaaGreatFa31
namespace Go.Proofs.YtjfkmoinldlmaaaGreat
open Go.Proofs.Tryz
section
set_option maxRecDepth 100000
set_option maxHeartbeats 4000000
open Go.RowKit Go.Shelf
def ud(w:World)(p:List (Nat->Bool)×Nat)(vs:List Value):Prop:=
 ∃ad cap,vs=[.slice ad p.1.length cap,.int .i64 (p.2:Nat)]/\ft w 100 ad p.1.length (ji p.1)
theorem ud.len{w:World}{t:List (Nat->Bool)×Nat}{vs:List Value}(h:ud w t vs):vs.length=2:=by obtain⟨ad,cap,rfl,_⟩:=h;rfl
theorem ud.keep{w w':World}{t:List (Nat->Bool)×Nat}{vs:List Value}(h:ud w t vs)(k:Kt 100 w w'):ud w' t vs:=by
 obtain⟨ad,cap,h1,h2⟩:=h;exact⟨ad,cap,h1,h2.keep k⟩
theorem p7{w w':World}{l:List (List (Nat->Bool)×Nat)}{xs:List Value}(h:f9 (ud w) l xs)(k:Kt 100 w w'):f9 (ud w') l xs:=h.mono fun _ _ h=>h.keep k
def ub(w:World)(ad:Option Addr)(ls:List (List (Nat->Bool)×Nat)):Prop:=∃vs,ft w 52 ad ls.length vs/\f9 (ud w) ls vs
theorem ub.keep{w w':World}{ad:Option Addr}{ns:List (List (Nat->Bool)×Nat)}(h:ub w ad ns)(k:Kt 52 w w')(k':Kt 100 w w'):ub w' ad ns:=by
 obtain⟨vs,h1,h2⟩:=h;exact⟨vs,h1.keep k,p7 h2 k'⟩
theorem ub.below{w w':World}{ad:Option Addr}{ns:List (List (Nat->Bool)×Nat)}(h:ub w ad ns)(hb:Below w.heap.size w w'):ub w' ad ns:=h.keep (.below hb) (.below hb)
theorem ub.at{w:World}{ad:Option Addr}{ns:List (List (Nat->Bool)×Nat)}(h:ub w ad ns){j:Nat}{t:List (Nat->Bool)×Nat}(hj:ns[j]?=some t):∃b o pa pc,ad=some ⟨b,o,none⟩/\b<w.heap.size∧
 w.cell? ⟨b,o+j*2,none⟩=some (.slice pa t.1.length pc)/\w.cell? ⟨b,o+j*2+1,none⟩=some (.int .i64 (t.2:Nat))/\ft w 100 pa t.1.length (ji t.1):=by
 obtain⟨vs,h1,h2⟩:=h;have hlt:j<ns.length:=by
  rcases Nat.lt_or_ge j ns.length with h|h
  ·exact h
  ·rw[eb h]at hj;cases hj
 obtain⟨b,o,rfl,hb,hc⟩:=h1.cell (by omega);obtain⟨us,hu,hx⟩:=h2.at (fun _ _ h=>h.len) j t hj;obtain⟨pa,pc,rfl,hr⟩:=hu;refine⟨b,o,pa,pc,rfl,hb,?_,?_,hr⟩
 ·exact hc (j*2) _ (hx 0 (by omega))
 ·rw[dy];exact hc (j*2+1) _ (hx 1 (by omega))
theorem aa7(l:List QN)(q:Nat)(x:QN)(h:l[q]?=some x):fy (l.take (q+1))=fy (l.take q)++(if x.kind=1 then[(x.els,x.k)]else[]):=by
 obtain⟨hlt,he⟩:=cy.1 h;rw[da hlt,pf,he];split
 ·rw[aj9 _ _ (by assumption),akb]
 ·rw[mf _ _ (by assumption),akb]
def ak0(ns:List QN)(w:World)(e:Ending)(w':World):Prop:=
 ∃v vs,e=.returned v/\w'.ownsRow w.heap.size 52 2 v (fy ns).length vs/\f9 (ud w') (fy ns) vs/\Below w.heap.size w w'
theorem vy(ns:List QN)(hl:ns.length<=2000)(ad:Option Addr)(cap:Nat)(w:World)(hN:gd w ad ns):
 Calls prog 109 #[.slice ad ns.length cap] w (ak0 ns w):=by
 have HN:=aa hN;have hnI:(ns.length:Int)<=2000:=by omega
 clear hN;go_enter func109,ntmps109;go_wp2_with fail
 go_loopw[3,8] (fun v i wr=>∃(q:Nat)(vs:List Value),q<=ns.length/\i=.int .i64 q/\wr.ownsRow w.heap.size 52 2 v (fy (ns.take q)).length vs/\f9 (ud wr) (fy (ns.take q)) vs/\Below w.heap.size w wr) (fun _ i _=>ns.length-(intOf i).toNat)
 case atStart=>exact⟨0,[],by omega,rfl,bj _ _ _ _,.nil,ae⟩
 case round=>
  obtain⟨q,vs,hq,rfl,ho,hv,hb⟩:=hrel;obtain⟨a,c,rfl⟩:=ey ho;have Hb:=aa hb;have HO:=aa ho;have HV:=aa hv;clear hb ho hv;by_cases hlt:q<ns.length
  ·have hlti:(q:Int)<ns.length:=by omega
   have hq0:(0:Int)<=q:=by omega
   obtain⟨x,hx⟩:∃x,ns[q]?=some x:=⟨_,bs hlt⟩;obtain⟨b,o,pa,pc,rfl,hbm,e0,e1,e2,e3,hr⟩:=(HN.out.below Hb.out).at hx;have HR:=aa hr;have HS:=aa (aa7 ns q x hx);have hL:=aa (se (ns.take q));have hL2:=aa (show(ns.take q).length<=2000 by rw[List.length_take];omega);clear hx hr;generalize fy (ns.take q)=L at *;have B1:=aa ((aw wr.heap.size wr).alloc ac (fw x.kind x.num (.slice pa x.els.length pc) x.k));by_cases hk:x.kind=1
   ·have hk1:((x.kind:Int)==1)=true:=by rw[beq_iff_eq];omega
    have HK:=aa hk;have B2:=aa (B1.out.alloc B1.out.size (.cells #[.slice pa x.els.length pc,.int .i64 (x.k:Nat)] 52));have HO1:=aa (fe HO.out B2.out);have LIT:=aa (World.ownsRow_lit (base:=(wr.alloc (fw x.kind x.num (.slice pa x.els.length pc) x.k)).heap.size) (e:=52) (size:=2) (wr.alloc (fw x.kind x.num (.slice pa x.els.length pc) x.k)) #[.slice pa x.els.length pc,.int .i64 (x.k:Nat)] 1 ac (by unfold maxLen;omega) rfl);have HT:=aa (ft.own LIT.out).news;clear hk;have hsz:(wr.alloc (fw x.kind x.num (.slice pa x.els.length pc) x.k)).heap.size=wr.heap.size+1:=by simp
    have ZB:=aa (show w.heap.size<=((wr.alloc (fw x.kind x.num (.slice pa x.els.length pc) x.k)).alloc (.cells #[.slice pa x.els.length pc,.int .i64 (x.k:Nat)] 52)).heap.size from ba Hb.out.size B2.out.size);try rw[hsz]at HT
    clear hsz;go_wp2_with(at_builtin;(with_reducible refine jb ar2 rfl (.tmp 15) (.tmp 18) rfl rfl HO1.out rfl HT.out rfl (by simp[Value.oneCell']) (by have:=hL.out;have:=hL2.out;unfold maxLen;omega) (by have:=hL.out;have:=hL2.out;omega) ZB.out ?_);intro v9 w9 hown9 hb9 hk9 hg9 hv9;have HO9:=aa hown9;have HB9:=aa hb9;have HK9:=aa hk9;clear hown9 hb9 hk9 hg9 hv9)
    refine⟨⟨q+1,vs++[.slice pa x.els.length pc,.int .i64 (x.k:Nat)],by omega,by go_num,?_,?_,?_⟩,by simp[intOf];omega⟩
    ·rw[HS.out,if_pos HK.out,bd]
     exact HO9.out
    ·rw[HS.out,if_pos HK.out]
     refine(f9.append (p7 HV.out (Kt.below B2.out)) (.one ⟨pa,pc,rfl,HR.out.keep (Kt.below B2.out)⟩)).mono fun _ _ h=>h.keep (HK9.out 100 (by decide))
    ·exact(Hb.out.trans (B2.out.mono Hb.out.size)).trans HB9.out
   ·have hk1:((x.kind:Int)==1)=false:=by rw[ax];omega
    have HK:=aa hk;clear hk;go_wp2_with fail
    refine⟨⟨q+1,vs,by omega,by go_num,?_,?_,?_⟩,by simp[intOf];omega⟩
    ·rw[HS.out,if_neg HK.out,dh]
     exact fe HO.out B1.out
    ·rw[HS.out,if_neg HK.out,dh]
     exact p7 HV.out (Kt.below B1.out)
    ·exact Hb.out.trans (B1.out.mono Hb.out.size)
  ·obtain rfl:q=ns.length:=by omega
   rw[dr]at HO HV⊢;go_wp2_with fail
   go_ret;exact⟨_,vs,rfl,HO.out,HV.out,Hb.out⟩
theorem yr(ns:List QN)(hl:ns.length<=2000)(ad:Option Addr)(cap:Nat)(w:World)(hN:gd w ad ns):
 Calls prog 30 #[.slice ad ns.length cap] w (ak0 ns w):=by
 have HN:=aa hN;have hnI:(ns.length:Int)<=2000:=by omega
 clear hN;go_enter func30,ntmps30;go_wp2_with fail
 go_loopw[3,4] (fun v i wr=>∃(q:Nat)(vs:List Value),q<=ns.length/\i=.int .i64 q/\wr.ownsRow w.heap.size 52 2 v (fy (ns.take q)).length vs/\f9 (ud wr) (fy (ns.take q)) vs/\Below w.heap.size w wr) (fun _ i _=>ns.length-(intOf i).toNat)
 case atStart=>exact⟨0,[],by omega,rfl,bj _ _ _ _,.nil,ae⟩
 case round=>
  obtain⟨q,vs,hq,rfl,ho,hv,hb⟩:=hrel;obtain⟨a,c,rfl⟩:=ey ho;have Hb:=aa hb;have HO:=aa ho;have HV:=aa hv;clear hb ho hv;by_cases hlt:q<ns.length
  ·have hlti:(q:Int)<ns.length:=by omega
   have hq0:(0:Int)<=q:=by omega
   obtain⟨x,hx⟩:∃x,ns[q]?=some x:=⟨_,bs hlt⟩;obtain⟨b,o,pa,pc,rfl,hbm,e0,e1,e2,e3,hr⟩:=(HN.out.below Hb.out).at hx;have HR:=aa hr;have HS:=aa (aa7 ns q x hx);have hL:=aa (se (ns.take q));have hL2:=aa (show(ns.take q).length<=2000 by rw[List.length_take];omega);clear hx hr;generalize fy (ns.take q)=L at *;have B1:=aa (aw wr.heap.size wr);by_cases hk:x.kind=1
   ·have hk1:((x.kind:Int)==1)=true:=by rw[beq_iff_eq];omega
    have HK:=aa hk;have B2:=aa (B1.out.alloc B1.out.size (.cells #[.slice pa x.els.length pc,.int .i64 (x.k:Nat)] 52));have HO1:=aa (fe HO.out B2.out);have LIT:=aa (World.ownsRow_lit (base:=wr.heap.size) (e:=52) (size:=2) wr #[.slice pa x.els.length pc,.int .i64 (x.k:Nat)] 1 ac (by unfold maxLen;omega) rfl);have HT:=aa (ft.own LIT.out).news;clear hk;have hsz:wr.heap.size=wr.heap.size:=by rfl
    have ZB:=aa (show w.heap.size<=(wr.alloc (.cells #[.slice pa x.els.length pc,.int .i64 (x.k:Nat)] 52)).heap.size from ba Hb.out.size B2.out.size);try rw[hsz]at HT
    clear hsz;go_wp2_with(at_builtin;(with_reducible refine jb ar2 rfl (.tmp 17) (.tmp 23) rfl rfl HO1.out rfl HT.out rfl (by simp[Value.oneCell']) (by have:=hL.out;have:=hL2.out;unfold maxLen;omega) (by have:=hL.out;have:=hL2.out;omega) ZB.out ?_);intro v9 w9 hown9 hb9 hk9 hg9 hv9;have HO9:=aa hown9;have HB9:=aa hb9;have HK9:=aa hk9;clear hown9 hb9 hk9 hg9 hv9)
    refine⟨⟨q+1,vs++[.slice pa x.els.length pc,.int .i64 (x.k:Nat)],by omega,by go_num,?_,?_,?_⟩,by simp[intOf];omega⟩
    ·rw[HS.out,if_pos HK.out,bd]
     exact HO9.out
    ·rw[HS.out,if_pos HK.out]
     refine(f9.append (p7 HV.out (Kt.below B2.out)) (.one ⟨pa,pc,rfl,HR.out.keep (Kt.below B2.out)⟩)).mono fun _ _ h=>h.keep (HK9.out 100 (by decide))
    ·exact(Hb.out.trans (B2.out.mono Hb.out.size)).trans HB9.out
   ·have hk1:((x.kind:Int)==1)=false:=by rw[ax];omega
    have HK:=aa hk;clear hk;go_wp2_with fail
    refine⟨⟨q+1,vs,by omega,by go_num,?_,?_,?_⟩,by simp[intOf];omega⟩
    ·rw[HS.out,if_neg HK.out,dh]
     exact fe HO.out B1.out
    ·rw[HS.out,if_neg HK.out,dh]
     exact p7 HV.out (Kt.below B1.out)
    ·exact Hb.out.trans (B1.out.mono Hb.out.size)
  ·obtain rfl:q=ns.length:=by omega
   rw[dr]at HO HV⊢;go_wp2_with fail
   go_ret;exact⟨_,vs,rfl,HO.out,HV.out,Hb.out⟩
end
section
set_option maxRecDepth 100000
set_option maxHeartbeats 4000000
open Go.RowKit Go.Shelf
theorem aq3(l:List (List (Nat->Bool)×Nat))(q:Nat)(x:List (Nat->Bool)×Nat)(h:l[q]?=some x):te (l.take (q+1))=max (te (l.take q)) x.1.length:=by
 obtain⟨hlt,he⟩:=cy.1 h;rw[da hlt,lng_app,he];simp[te]
theorem yw(ns:List QN)(hl:ns.length<=2000)(hE:∀x∈ns,x.els.length<=2000)(ad:Option Addr)(cap:Nat)(w:World)(hN:gd w ad ns):
 Calls prog 107 #[.slice ad ns.length cap] w fun e w'=>e=.returned (.int .i64 (te (fy ns):Nat))/\Below w.heap.size w w':=by
 have Q:=aa (vy ns hl ad cap w hN);have HL:=aa (show(fy ns).length<=2000 from ba (se ns) hl);have HE:=aa (show∀x∈fy ns,x.1.length<=2000 from fun⟨e,k⟩hx=>by
  obtain⟨y,hy,_,rfl,rfl⟩:=akc hx
  exact hE y hy)
 clear hE hN;go_enter func107,ntmps107;go_wp2_with fail
 go_at_call 109;refine Q.out.mono ?_;rintro e w1⟨v,vs,rfl,ho,hv,hb1⟩;obtain⟨a,c,rfl⟩:=ey ho;have HI:Hid (ub w1 a (fy ns)):=aa ⟨vs,ft.own ho,hv⟩;have B1:=aa hb1;clear ho hv hb1 Q;generalize hG:fy ns=L at *;have HG:=aa hG;clear hG;have hLi:(L.length:Int)<=2000:=by have:=HL.out;omega
 go_wp2_with fail
 go_loopw[3,9] (fun m i wr=>∃q:Nat,q<=L.length/\i=.int .i64 q/\m=.int .i64 (te (L.take q):Nat)/\Below w1.heap.size w1 wr) (fun _ i _=>L.length-(intOf i).toNat)
 case atStart=>exact⟨0,by omega,rfl,rfl,ae⟩
 case round=>
  obtain⟨q,hq,rfl,rfl,hb⟩:=hrel;have Hb:=aa hb;clear hb;by_cases hlt:q<L.length
  ·have hlti:(q:Int)<L.length:=by omega
   have hq0:(0:Int)<=q:=by omega
   obtain⟨x,hx⟩:∃x,L[q]?=some x:=⟨_,bs hlt⟩;obtain⟨b,o,pa,pc,rfl,hbm,e0,e1,-⟩:=(HI.out.below Hb.out).at hx;have HS:=aa (aq3 L q x hx);have B2:=aa (Hb.out.alloc Hb.out.size (.cells #[.slice pa x.1.length pc,.int .i64 (x.2:Nat)] 52));clear hx;go_wp2_with fail
   refine⟨⟨q+1,by omega,by go_num,?_,B2.out⟩,by simp[intOf];omega⟩;rw[HS.out];first|rfl|(congr 1;omega)
  ·obtain rfl:q=L.length:=by omega
   rw[dr]at *;go_wp2_with fail
   go_ret;exact⟨by rw[HG.out];rfl,B1.out.trans (Hb.out.mono B1.out.size)⟩
end
section
set_option maxRecDepth 100000
set_option maxHeartbeats 4000000
open Go.RowKit Go.Shelf
abbrev psC(l:Value)(en a no:Int):Obj:=.cells #[l,.int .i64 en,.int .i64 a,.int .i64 no] 171
structure ic(w:World)(P:Nat)(toks:List gq)(en a no:Int):Prop where
 at_:∃ad cap,At w P (psC (.slice ad toks.length cap) en a no)/\il w 217 ad toks/\toks.length<=cap
 len:toks.length<=1000
theorem ic.below{w w':World}{P:Nat}{toks:List gq}{en a no:Int}(h:ic w P toks en a no)(hb:Below w.heap.size w w'):ic w' P toks en a no:=by
 obtain⟨⟨ad,cap,h1,h2,h3⟩,h4⟩:=h;exact⟨⟨ad,cap,h1.below hb h1.lt,h2.below hb,h3⟩,h4⟩
theorem ic.lt{w:World}{P:Nat}{toks:List gq}{en a no:Int}(h:ic w P toks en a no):P<w.heap.size:=by
 obtain⟨⟨ad,cap,h1,h2,h3⟩,h4⟩:=h;exact h1.lt
theorem ic.kt{w w':World}{P:Nat}{toks:List gq}{en a no:Int}(h:ic w P toks en a no)(he:Ex [P] w w')(ty:TypeId)(hne:171≠ty):Kt ty w w':=by
 obtain⟨⟨ad,cap,h1,h2,h3⟩,h4⟩:=h;exact Kt.at1 he h1 hne
theorem il.tail{w:World}{ty:TypeId}{b o:Nat}{t:gq}{l:List gq}(h:il w ty (some ⟨b,o,none⟩) (t::l))(c:Nat)(hc:l.length+1<=c):il w ty (if c=1 then some ⟨b,o,none⟩else some ⟨b,o+4,none⟩) l:=by
 obtain⟨vs,h1,h2⟩:=h;obtain⟨us,ys,rfl,hu,hr⟩:=h2.cons_inv;refine⟨ys,?_,hr⟩;have hl:=hu.len;split
 ·exact .inl (by omega)
 ·have:=ft.tail (x:=us) (xs:=ys) h1
  rw[hl]at this;exact this
abbrev tkv(t:gq)(pa:Option Addr)(pc:Nat):Value:=.agg #[.int .i64 (t.kind:Nat),.int .i64 (t.place:Nat),.int .i64 (t.num:Nat),.slice pa t.els.length pc]
theorem ic.adv{w:World}{P b o cap:Nat}{t:gq}{l:List gq}{en a no:Int}(h:At w P (psC (.slice (some ⟨b,o,none⟩) (t::l).length cap) en a no))(hT:il w 217 (some ⟨b,o,none⟩) (t::l))(hcap:l.length+1<=cap)(hl:l.length+1<=1000)(x y:Obj)(a':Option Addr)(c':Nat)(ha:a'=if cap=1 then some ⟨b,o,none⟩else some ⟨b,o+4,none⟩)(hc:c'=cap-1):
 ic (((w.setCell ⟨P,0,none⟩ (.slice a' l.length c')).alloc x).alloc y) P l en a no:=by
 subst ha hc;have hA:=((h.set 0 (.slice (if cap=1 then some ⟨b,o,none⟩else some ⟨b,o+4,none⟩) l.length (cap-1))).alloc x).alloc y;simp only[ag,ai]at hA;refine⟨⟨_,_,hA,?_,by omega⟩,by omega⟩;have hE:Ex [P] w (w.setCell ⟨P,0,none⟩ (.slice (if cap=1 then some ⟨b,o,none⟩else some ⟨b,o+4,none⟩) l.length (cap-1))):=(Ex.refl [P] w).set P 0 _ (by simp);exact(hT.tail cap hcap).keep (((Kt.at1 hE h).alloc x).alloc y) (((Kt.at1 hE h).alloc x).alloc y)
def kx(w:World)(e:Ending)(w':World):Prop:=e=.returned (.tuple #[tz,.bool false])/\Below w.heap.size w w'
def pk(w:World)(P:Nat)(t:gq)(l:List gq)(en a no:Int)(e:Ending)(w':World):Prop:=
 ∃pa pc,e=.returned (.tuple #[tkv t pa pc,.bool true])/\Ex [P] w w'/\ic w' P l en a no/\ft w' 100 pa t.els.length (ji t.els)
theorem ack(P:Nat)(k en a no:Int)(w:World)(h:ic w P [] en a no):
 Calls prog 208 #[.pointer (some ⟨P,0,none⟩),.int .i64 k] w (kx w):=by
 obtain⟨⟨ad,cap,hP,-,-⟩,-⟩:=h;have c0:=hP.cell 0;have pl:=hP.lt;simp only[ak,am,List.length_nil]at c0;have hA:Below w.heap.size w (w.alloc (kp 0 0 0 (.slice none 0 0))):=ae.alloc ac _;clear hP;go_enter func208,ntmps208;go_wp2_with fail
 refine ay (v:=.tuple #[tz,.bool false]) ?_ rfl ⟨rfl,hA⟩;simp[results,results208,go_sem, *]
theorem acj(P:Nat)(k:Int)(t:gq)(l:List gq)(hk:(t.kind:Int)≠k)(en a no:Int)(w:World)(h:ic w P (t::l) en a no):
 Calls prog 208 #[.pointer (some ⟨P,0,none⟩),.int .i64 k] w (kx w):=by
 obtain⟨⟨ad,cap,hP,hT,-⟩,-⟩:=h;have c0:=hP.cell 0;have pl:=hP.lt;simp only[ak,am]at c0;obtain⟨b,o,pa,pc,rfl,hb,t0,t1,t2,t3,-⟩:=hT.at (j:=0) (t:=t) rfl;simp only[Nat.zero_mul,Nat.add_zero]at t0 t1 t2 t3;have hne:((t.kind:Int) !=k)=true:=by rw[bne_iff_ne];exact hk
 have hA:Below w.heap.size w (w.alloc (kp 0 0 0 (.slice none 0 0))):=ae.alloc ac _;clear hP hT hk;go_enter func208,ntmps208;go_wp2_with fail
 refine ay (v:=.tuple #[tz,.bool false]) ?_ rfl ⟨rfl,hA⟩;simp[results,results208,go_sem, *]
theorem mh(P:Nat)(t:gq)(l:List gq)(en a no:Int)(w:World)(h:ic w P (t::l) en a no):
 Calls prog 208 #[.pointer (some ⟨P,0,none⟩),.int .i64 (t.kind:Nat)] w (pk w P t l en a no):=by
 obtain⟨⟨ad,cap,hP,hT,hcap⟩,hlen⟩:=h;have HP:=aa hP;have HT:=aa hT;have c0:=hP.cell 0;have fz:=hP.free 0;have pl:=hP.lt;obtain⟨b,o,pa,pc,rfl,hb,t0,t1,t2,t3,hrow⟩:=hT.at (j:=0) (t:=t) rfl;simp only[Nat.zero_mul,Nat.add_zero]at t0 t1 t2 t3;simp only[ak,am]at c0;have HR:=aa hrow;have hll:(t::l).length=l.length+1:=rfl;have hcap':l.length+1<=cap:=hcap;have hlen':=aa (show l.length+1<=1000 from hlen);have hli:(l.length:Int)+1<=1000:=by have:=hlen'.out;omega
 have hne:P≠b:=by
  intro e;obtain⟨vs,hv,-⟩:=hT;exact hv.ne (by simp) hP (by decide) ⟨b,o,none⟩ rfl e.symm
 have hne2:b≠P:=fun h=>hne h.symm
 clear hP hT hrow hlen hcap;go_enter func208,ntmps208;go_wp2_with fail
 all_goals(refine ay (v:=.tuple #[tkv t pa pc,.bool true]) (by simp[results,results208,go_sem, *]) rfl ?_)
 ·exact⟨pa,pc,rfl,(((Ex.refl [P] w).set P 0 _ (by simp)).alloc _).alloc _,ic.adv HP.out HT.out hcap' hlen'.out _ _ _ _ (by simp[*]) (by omega),HR.out.keep (((Kt.set HP.out 0 _).alloc _).alloc _)⟩
 ·exact⟨pa,pc,rfl,(((Ex.refl [P] w).set P 0 _ (by simp)).alloc _).alloc _,ic.adv HP.out HT.out hcap' hlen'.out _ _ _ _ (by simp[*]) rfl,HR.out.keep (((Kt.set HP.out 0 _).alloc _).alloc _)⟩
def aoh(w:World)(P:Nat)(toks:List gq)(en no:Int)(e:Ending)(w':World):Prop:=
 e=.returned (.slice none 0 0)/\Ex [P] w w'/\∃a',ic w' P toks en a' (if no=0 then 140 else no)
theorem sa(P:Nat)(toks:List gq)(en a no:Int)(w:World)(h:ic w P toks en a no):
 Calls prog 104 #[.pointer (some ⟨P,0,none⟩)] w (aoh w P toks en no):=by
 have HH:=aa h;obtain⟨⟨ad,cap,hP,hT,hcap⟩,hlen⟩:=h;have HP:=aa hP;have HT:=aa hT;have c0:=hP.cell 0;have c1:=hP.cell 1;have c2:=hP.cell 2;have c3:=hP.cell 3;have f2:=hP.free 2;have f3:=hP.free 3;have pl:=hP.lt;simp only[ak,am,au]at c0 c1 c2 c3;have Hcap:=aa hcap;have Hlen:=aa hlen;by_cases hno:no=0
 ·subst hno
  cases toks with
  |nil=>
   clear hP hT hcap hlen;go_enter func104,ntmps104;go_wp2_with fail
   go_ret;have hA:=(HP.out.set 2 (.int .i64 en)).set 3 (.int .i64 140);simp only[ag,ai,aj]at hA;have hE:=((Ex.refl [P] w).set P 2 (.int .i64 en) (by simp)).set P 3 (.int .i64 140) (by simp);exact⟨rfl,hE,en,⟨_,_,hA,HT.out.keep (Kt.at1 hE HP.out) (Kt.at1 hE HP.out),Hcap.out⟩,Hlen.out⟩
  |cons t l=>
   obtain⟨b,o,pa,pc,rfl,hb,t0,t1,t2,t3,hrow⟩:=hT.at (j:=0) (t:=t) rfl;simp only[Nat.zero_mul,Nat.add_zero]at t0 t1 t2 t3;have hne:P≠b:=by
    intro e;obtain⟨vs,hv,-⟩:=hT;exact hv.ne (by simp) hP (by decide) ⟨b,o,none⟩ rfl e.symm
   have hne2:b≠P:=fun h=>hne h.symm
   clear hP hT hcap hlen hrow;go_enter func104,ntmps104;go_wp2_with fail
   go_ret;have hA:=((HP.out.set 2 (.int .i64 en)).set 3 (.int .i64 140)).set 2 (.int .i64 (t.place:Nat));simp only[ag,ai,aj]at hA;have hE:=(((Ex.refl [P] w).set P 2 (.int .i64 en) (by simp)).set P 3 (.int .i64 140) (by simp)).set P 2 (.int .i64 (t.place:Nat)) (by simp);exact⟨rfl,hE,_,⟨_,_,hA,HT.out.keep (Kt.at1 hE HP.out) (Kt.at1 hE HP.out),Hcap.out⟩,Hlen.out⟩
 ·have hne:(no==0)=false:=by rw[ax];exact hno
  have Hno:=aa hno;clear hP hT hcap hlen hno;go_enter func104,ntmps104;go_wp2_with fail
  go_ret;exact⟨rfl,Ex.refl _ _,a,by rw[if_neg Hno.out];exact HH.out⟩
end
section
set_option maxRecDepth 100000
set_option maxHeartbeats 4000000
open Go.RowKit Go.Shelf
def lp(w0:World)(P:Nat)(en:Int)(m:PM)(toks:List gq)(e:Ending)(w':World):Prop:=
 ∃(r:Value)(ns:List QN)(vs:List Value)(toks':List gq)(a' no':Int),e=.returned r/\w'.ownsRow w0.heap.size 81 4 r ns.length vs/\f9 (ju w') ns vs/\Ex [P] w0 w'/\ic w' P toks' en a' no'/\ns.length+toks'.length<=toks.length/\(no'=0\/0<no'/\no'<200)/\(no'=0->∃T,ns=ew T/\PR m toks T toks')
abbrev om(t:gq)(pa:Option Addr)(pc:Nat):Obj:=.cells #[.int .i64 (t.kind:Nat),.int .i64 (t.place:Nat),.int .i64 (t.num:Nat),.slice pa t.els.length pc] 217
theorem yu(w:World)(pa:Option Addr)(pc:Nat)(els:List (Nat->Bool))(k:Nat)(h:ft w 100 pa els.length (ji els)):ju w ⟨1,0,els,k⟩ [.int .i64 1,.int .i64 0,.slice pa els.length pc,.int .i64 (k:Nat)]:=⟨pa,pc,rfl,h⟩
theorem aqg(P:Nat)(t:gq)(ht:t.kind=8)(pa:Option Addr)(pc:Nat)(l:List gq)(hl:∀u r',l=u::r'->u.kind≠7)(en a:Int)(w:World)(h:ic w P l en a 0)(hR:ft w 100 pa t.els.length (ji t.els)):
 Calls prog 231 #[.pointer (some ⟨P,0,none⟩),tkv t pa pc] w (lp w P en .item (t::l)):=by
 have hb1:=(aw w.heap.size w).alloc ac (om t pa pc);have h1:=h.below hb1;have hA:=At.new w (om t pa pc);have q1:Hid (Calls prog 208 #[.pointer (some ⟨P,0,none⟩),.int .i64 7] (w.alloc (om t pa pc)) (kx (w.alloc (om t pa pc)))):=aa (by
  cases l with
  |nil=>exact ack P 7 en a 0 _ h1
  |cons u l=>exact acj P 7 u l (by have:=hl u l rfl;omega) en a 0 _ h1)
 have HA:=aa hA;have HB1:=aa hb1;have HP:=aa h1;have HR1:=aa (hR.keep (Kt.below hb1));have HT:=aa ht;have HL:=aa hl;obtain⟨⟨ad,cap,hP,hT,-⟩,-⟩:=h1;have c0:=hP.cell 0;have pl:=hP.lt;simp only[ak,am]at c0;have fin:Hid (∀w2,Below (w.alloc (om t pa pc)).heap.size (w.alloc (om t pa pc)) w2->lp w P en .item (t::l) (.returned (.slice (some ⟨(w2.alloc (kp 0 0 0 (.slice none 0 0))).heap.size,0,none⟩) 1 1)) ((w2.alloc (kp 0 0 0 (.slice none 0 0))).alloc (fw 1 0 (.slice pa t.els.length pc) 0))):=aa fun w2 hb2=>by
  have hb3:=((hb2.alloc hb2.size (kp 0 0 0 (.slice none 0 0))).alloc (ba hb2.size (by simp)) (fw 1 0 (.slice pa t.els.length pc) 0));have hO:=World.ownsRow_lit (base:=w.heap.size) (e:=81) (size:=4) (w2.alloc (kp 0 0 0 (.slice none 0 0))) #[.int .i64 1,.int .i64 0,.slice pa t.els.length pc,.int .i64 0] 1 (by have:=hb2.size;simp at *;omega) (by unfold maxLen;omega) rfl;exact⟨_,[⟨1,0,t.els,0⟩],_,l,a,0,rfl,hO,f9.one (yu _ pa pc t.els 0 (HR1.out.keep (Kt.below hb3))),Ex.of (HB1.out.trans (hb3.mono HB1.out.size)),HP.out.below hb3,by simp;omega,.inl rfl,fun _=>⟨.find t.els 0,rfl,.find t l HT.out HL.out⟩⟩
 cases l with
 |nil=>
  clear h hb1 hA hP hT hR ht hl;go_enter func231,ntmps231;go_upto_region 1 with fail
  generalize w.alloc (om t pa pc)=W1 at *;have a3:=HA.out.cell 3;have al:=HA.out.lt;simp only[ak,am,au]at a3;have d0:∀w2,Below W1.heap.size W1 w2->w2.cell? ⟨w.heap.size,3,none⟩=some (.slice pa t.els.length pc):=fun w2 hb=>(HA.out.below hb HA.out.lt).cell 3
  have D0:=aa d0;clear d0;go_wp2_with(go_at_call 208;(with_reducible refine q1.out.mono ?_);rintro e w2⟨rfl,hb2⟩;have e3:=D0.out w2 hb2;have el:=az al hb2.size;have F:=aa (fin.out w2 hb2);clear hb2)
  go_ret;have F':=F.out;rw[bg]at F';exact F'
 |cons u l=>
  obtain⟨b,o,ua,uc,rfl,hb,u0,u1,u2,u3,-⟩:=hT.at (j:=0) (t:=u) rfl;simp only[Nat.zero_mul,Nat.add_zero]at u0 u1 u2 u3;have hu7:((u.kind:Int)==7)=false:=by rw[ax];have:=hl u l rfl;omega
  clear h hb1 hA hP hT hR ht hl;go_enter func231,ntmps231;go_upto_region 1 with fail
  generalize w.alloc (om t pa pc)=W1 at *;have a3:=HA.out.cell 3;have al:=HA.out.lt;simp only[ak,am,au]at a3;have d0:∀w2,Below W1.heap.size W1 w2->w2.cell? ⟨w.heap.size,3,none⟩=some (.slice pa t.els.length pc):=fun w2 hb=>(HA.out.below hb HA.out.lt).cell 3
  have D0:=aa d0;clear d0;go_wp2_with(go_at_call 208;(with_reducible refine q1.out.mono ?_);rintro e w2⟨rfl,hb2⟩;have e3:=D0.out w2 hb2;have el:=az al hb2.size;have F:=aa (fin.out w2 hb2);clear hb2)
  go_ret;have F':=F.out;rw[bg]at F';exact F'
theorem amn(P:Nat)(t:gq)(ht:t.kind=8)(pa:Option Addr)(pc:Nat)(u:gq)(l:List gq)(hu:u.kind=7)(en a:Int)(w:World)(h:ic w P (u::l) en a 0)(hR:ft w 100 pa t.els.length (ji t.els)):
 Calls prog 231 #[.pointer (some ⟨P,0,none⟩),tkv t pa pc] w (lp w P en .item (t::u::l)):=by
 have hb1:=(aw w.heap.size w).alloc ac (om t pa pc);have h1:=h.below hb1;have hA:=At.new w (om t pa pc);have HA:=aa hA;have HB1:=aa hb1;have HP:=aa h1;have HR1:=aa (hR.keep (Kt.below hb1));have HT:=aa ht;have HU:=aa hu;have q1:Hid (Calls prog 208 #[.pointer (some ⟨P,0,none⟩),.int .i64 7] (w.alloc (om t pa pc)) (pk (w.alloc (om t pa pc)) P u l en a 0)):=aa (by have:=mh P u l en a 0 _ h1;rw[hu]at this;exact this);have q2:=aa (sa P (u::l) en a 0 _ h1);have HPl:=aa h.lt;obtain⟨⟨ad,cap,hP,hT,-⟩,-⟩:=h1;have c0:=hP.cell 0;have pl:=hP.lt;simp only[ak,am]at c0;obtain⟨b,o,ua,uc,rfl,hb,u0,u1,u2,u3,-⟩:=hT.at (j:=0) (t:=u) rfl;simp only[Nat.zero_mul,Nat.add_zero]at u0 u1 u2 u3;rw[hu]at u0;clear h hb1 hA hP hT hR ht hu;go_enter func231,ntmps231;go_upto_region 1 with fail
 generalize w.alloc (om t pa pc)=W1 at *;by_cases hbig:(64:Int)<u.num
 ·go_wp2_with(go_at_call 104;(with_reducible refine q2.out.mono ?_);rintro e w2⟨rfl,he2,a',hp2⟩;have HE2:=aa he2;have HP2:=aa hp2;clear he2 hp2)
  go_ret;have hE:Ex [P] w w2:=((Ex.of (S:=[P]) HB1.out).trans HE2.out).mono (by intro x hx;left;simpa using hx);exact⟨_,[],[],u::l,a',140,rfl,bj _ _ _ _,.nil,hE,HP2.out,by simp,.inr ⟨by decide,by decide⟩,fun h=>absurd h (by decide)⟩
 ·have a3:=HA.out.cell 3
  have al:=HA.out.lt;simp only[ak,am,au]at a3;have hPne:w.heap.size≠P:=by have:=HPl.out;omega
  have hPne':=aa hPne;go_wp2_with(go_at_call 208;(with_reducible refine q1.out.mono ?_);rintro e w2⟨va,vc,rfl,he2,hp2,-⟩;have e3:=(HA.out.ex he2 (by simpa using hPne'.out)).cell 3;have el:=az al he2.size;have HE2:=aa he2;have HP2:=aa hp2;clear he2 hp2;simp only[ak,am,au]at e3)
  go_ret;have hb3:=(((aw w2.heap.size w2).alloc ac (om u va vc)).alloc (by simp) (fw 1 0 (.slice pa t.els.length pc) (u.num:Nat)));have hE:Ex [P] w w2:=((Ex.of (S:=[P]) HB1.out).trans HE2.out).mono (by intro x hx;left;simpa using hx);have hO:=World.ownsRow_lit (base:=w.heap.size) (e:=81) (size:=4) (w2.alloc (om u va vc)) #[.int .i64 1,.int .i64 0,.slice pa t.els.length pc,.int .i64 (u.num:Nat)] 1 (by have:=hE.size;simp at *;omega) (by unfold maxLen;omega) rfl;have hF:lp w P en .item (t::u::l) (.returned (.slice (some ⟨(w2.alloc (om u va vc)).heap.size,0,none⟩) 1 1)) ((w2.alloc (om u va vc)).alloc (fw 1 0 (.slice pa t.els.length pc) (u.num:Nat))):=
   ⟨_,[⟨1,0,t.els,u.num⟩],_,l,a,0,rfl,hO,f9.one (yu _ pa pc t.els u.num ((HR1.out.keep (HP.out.kt HE2.out 100 (by decide))).keep (Kt.below hb3))),hE.then hb3,HP2.out.below hb3,by simp;omega,.inl rfl,fun _=>⟨.find t.els u.num,rfl,.fuzz t u l HT.out HU.out (by omega)⟩⟩
  rw[bg]at hF;exact hF
end
section
set_option maxRecDepth 100000
set_option maxHeartbeats 8000000
open Go.RowKit Go.Shelf
theorem arn(C:Nat)(s:ByteArray)(p:Nat)(e:Int)(hs:s.size<=1000)(b:Nat)(w:World)(hC:At w C (mj s p e)):
 Calls prog 155 #[.pointer (some ⟨C,0,none⟩),.int .u8 (b:Nat)] w fun e' w'=>∃q:Nat,e'=.returned (.bool (decide (p<s.size)&&(tb s p==b)))/\q=(if(decide (p<s.size)&&(tb s p==b))=true then p+1 else p)/\Ex [C] w w'/\At w' C (mj s (q:Nat) e):=by
 by_cases h:p<s.size/\tb s p=b
 ·have hb:(decide (p<s.size)&&(tb s p==b))=true:=by simp[h.1,h.2]
  rw[hb];exact(qb C s p e hs h.1 b h.2 w hC).mono fun _ _ ⟨h1,h2,h3⟩=>⟨p+1,h1,rfl,h2,h3⟩
 ·have hb:(decide (p<s.size)&&(tb s p==b))=false:=by
   cases k:(decide (p<s.size)&&(tb s p==b))with
   |false=>rfl
   |true=>simp only[ce,cg,beq_iff_eq]at k;exact absurd k h
  rw[hb];exact(sf C s p e b h w hC).mono fun _ _ ⟨h1,h2⟩=>⟨p,h1,rfl,Ex.of h2,hC.below h2 hC.lt⟩
theorem fc.ex{w w':World}{B:Nat}{X:Nat->Bool}{S:List Nat}(h:fc w B X)(hb:Ex S w w')(hn:B∉S):fc w' B X:=by
 obtain⟨⟨c0,c1,c2,c3⟩,⟨f0,f1,f2,f3⟩,hl⟩:=h;have e:=hb.block B hl hn;have hc:=fun o=>World.cell?_of_block (a:=⟨B,o,none⟩) e
 have hf:=fun o=>World.frozen?_of_block (a:=⟨B,o,none⟩) e
 exact⟨⟨(hc 0).trans c0,(hc 1).trans c1,(hc 2).trans c2,(hc 3).trans c3⟩,⟨(hf 0).trans f0,(hf 1).trans f1,(hf 2).trans f2,(hf 3).trans f3⟩,az hl hb.size⟩
theorem Ex.new{S:List Nat}{a b:World}(h:Ex S a b)(B o:Nat)(v:Value)(hB:a.heap.size<=B):Ex S a (b.setCell ⟨B,o,none⟩ v):=by
 have g:=pn b B o v;exact⟨g.os.trans h.os,g.tape.trans h.tape,g.output.trans h.output,ba h.size g.size,fun i hi hn=>(g.block i (az hi h.size) (fun e=>by cases e;omega)).trans (h.block i hi hn)⟩
theorem Ex.setC{S:List Nat}{a b:World}(h:Ex S a b)(B:Nat)(T:Nat->Bool)(hB:a.heap.size<=B):Ex S a (setC b B T):=
 (((h.new B 0 _ hB).new B 1 _ hB).new B 2 _ hB).new B 3 _ hB
theorem Ex.two{S:List Nat}{a b c:World}(h:Ex S a b)(k:Ex S b c):Ex S a c:=(h.trans k).mono (by intro x hx;left;simpa using hx)
theorem At.setC{w:World}{B C:Nat}{o:Obj}(h:At w C o)(T:Nat->Bool)(hn:B≠C):At (setC w B T) C o:=
 (((h.far (p:=⟨B,0,none⟩) hn _).far (p:=⟨B,1,none⟩) hn _).far (p:=⟨B,2,none⟩) hn _).far (p:=⟨B,3,none⟩) hn _
theorem fc.setC{w:World}{B D:Nat}{X:Nat->Bool}(h:fc w D X)(T:Nat->Bool)(hn:D≠B):fc (setC w B T) D X:=
 h.ex ((((Ex.refl [B] w).set B 0 _ (by simp)).set B 1 _ (by simp)).set B 2 _ (by simp)|>.set B 3 _ (by simp)) (by simpa using hn)
abbrev setZ(w:World)(B:Nat):World:=(((w.setCell ⟨B,0,none⟩ (.int .u64 0)).setCell ⟨B,1,none⟩ (.int .u64 0)).setCell ⟨B,2,none⟩ (.int .u64 0)).setCell ⟨B,3,none⟩ (.int .u64 0)
theorem Ex.setZ{S:List Nat}{a b:World}(h:Ex S a b)(B:Nat)(hB:a.heap.size<=B):Ex S a (setZ b B):=
 (((h.new B 0 _ hB).new B 1 _ hB).new B 2 _ hB).new B 3 _ hB
theorem At.setZ{w:World}{B C:Nat}{o:Obj}(h:At w C o)(hn:B≠C):At (setZ w B) C o:=
 (((h.far (p:=⟨B,0,none⟩) hn _).far (p:=⟨B,1,none⟩) hn _).far (p:=⟨B,2,none⟩) hn _).far (p:=⟨B,3,none⟩) hn _
theorem At.drew'{w:World}{C:Nat}{o:Obj}(h:At w C o):At w.drew C o:=h
theorem ahy(f:Nat)(hf:f<=255)(w:World):Calls prog 238 #[.int .u8 (f:Nat),.int .u8 0] w fun e w'=>e=.returned (cv (ez f 0))/\Below w.heap.size w w':=by
 have h:=aci f 0 (by omega) (by omega) (by omega) (by omega) w;rwa[Int.toNat_natCast]at h
theorem ya(f t:Nat)(hf:f<=255)(ht:t<=255)(w:World):Calls prog 238 #[.int .u8 (f:Nat),.int .u8 (t:Nat)] w fun e w'=>e=.returned (cv (ez f t))/\Below w.heap.size w w':=by
 have h:=aci f t (by omega) (by omega) (by omega) (by omega) w;rwa[Int.toNat_natCast,Int.toNat_natCast]at h
structure CSt(w0 w:World)(C R O:Nat)(s:ByteArray)(o q n:Nat)(acc:Nat->Bool):Prop where
 c:At w C (mj s (q:Nat) 0)
 ql:q<=s.size
 nl:n<=q
 hO:fc w O acc
 hR:fc w R fu
 ex:Ex [C] w0 w
 ne:O≠C/\R≠C/\R≠O
 ge:w0.heap.size<=R/\w0.heap.size<=O
 cps:∀out m p',sy s q acc n out m p'->sy s (if od s o=true then o+2 else o+1) fu 0 out m p'
structure CEn(w0 w:World)(C R O:Nat)(s:ByteArray)(o q n:Nat)(acc:Nat->Bool):Prop where
 c:At w C (mj s ((q+1:Nat):Int) 0)
 hO:fc w O acc
 hR:fc w R fu
 ex:Ex [C] w0 w
 ne:O≠C/\R≠C/\R≠O
 ge:w0.heap.size<=R/\w0.heap.size<=O
 fin:sy s (if od s o=true then o+2 else o+1) fu 0 acc n q
def ClsPost(C:Nat)(s:ByteArray)(o:Nat)(w:World)(e:Ending)(w':World):Prop:=
 ∃S,e=.returned (cv S)/\Ex [C] w w'/\(lu w' C s\/∃q:Nat,At w' C (mj s (q:Nat) 0)/\ue s o S q)
def farO(C:Nat)(s:ByteArray)(w:World):Nat:=s.size-(intOf ((w.cell? ⟨C,1,none⟩).getD undef)).toNat
theorem uo{C:Nat}{s:ByteArray}{q:Nat}{e:Int}{w:World}(h:At w C (mj s (q:Nat) e)):farO C s w=s.size-q:=by
 unfold farO;rw[h.cell 1];simp[intOf]
def acr(C R O o n:Nat)(nb:Bool)(u:Nat->Value):Act:={tmps:=#[.pointer (some ⟨C,0,none⟩),u 1,.pointer (some ⟨R,0,none⟩),.int .i64 (o:Nat),.bool nb,.pointer (some ⟨O,0,none⟩),.int .i64 (n:Nat),u 7,u 8,u 9,u 10,u 11,u 12,u 13,u 14,u 15,u 16,u 17,u 18,u 19,u 20,u 21,u 22,u 23,u 24,u 25,u 26,u 27,u 28,u 29,u 30,u 31,u 32,u 33,u 34,u 35,u 36,u 37,u 38,u 39,u 40,u 41,u 42,u 43,u 44,u 45,u 46,u 47,u 48,u 49,u 50,u 51,u 52,u 53,u 54,u 55,u 56,u 57,u 58,u 59,u 60,u 61,u 62,u 63,u 64,u 65,u 66,u 67,u 68,u 69,u 70,u 71,u 72,u 73,u 74,u 75,u 76,u 77,u 78,u 79,u 80,u 81],defers:=[]}
theorem xm{C R O o n:Nat}{nb:Bool}{a:Act}(hs:a.tmps.size=82)(hd:a.defers=[])(h0:a.tmps.getD 0 undef=.pointer (some ⟨C,0,none⟩))(h2:a.tmps.getD 2 undef=.pointer (some ⟨R,0,none⟩))(h3:a.tmps.getD 3 undef=.int .i64 (o:Nat))(h4:a.tmps.getD 4 undef=.bool nb)(h5:a.tmps.getD 5 undef=.pointer (some ⟨O,0,none⟩))(h6:a.tmps.getD 6 undef=.int .i64 (n:Nat))(_:True=True):∃u,a=acr C R O o n nb u:=by
 refine⟨fun i=>a.tmps.getD i undef,?_⟩;unfold acr;rw[<-h0,<-h2,<-h3,<-h4,<-h5,<-h6];have h:=ut a.tmps 82 hs;obtain⟨t,d⟩:=a;cases hd;exact congrArg (fun x=>({tmps:=x,defers:=[]}:Act)) h
theorem anv(C:Nat)(s:ByteArray)(o:Nat)(hs:s.size<=1000)(ho:o<s.size)(w:World)(hC:At w C (mj s ((o+1:Nat):Int) 0)):
 Calls prog 227 #[.pointer (some ⟨C,0,none⟩)] w (ClsPost C s o w):=by
 have HC:=aa hC;have cl:=hC.lt;clear hC;have H1:=aa fun q b w' h=>arn C s q 0 hs b w' h
 have hoi:(o:Int)<s.size:=by omega
 have hsi:(s.size:Int)<=1000:=by omega
 go_enter func227,ntmps227;go_wp2_with fail
 refine wm 1 0 (fun a' w'=>∃(O q n:Nat)(acc:Nat->Bool),(∃u,a'=acr C w.heap.size O o n (od s o) u)/\CSt w w' C w.heap.size O s o q n acc) (fun a' w'=>∃(O q n:Nat)(acc:Nat->Bool),(∃u,a'=acr C w.heap.size O o n (od s o) u)/\CEn w w' C w.heap.size O s o q n acc) (fun _ w'=>farO C s w') ?round ?done ?first
 case first=>
  intro hrest;have HRest:=aa hrest;clear hrest;have hA:=HC.out.alloc (.cells #[.int .u64 0,.int .u64 0,.int .u64 0,.int .u64 0] 100);have hR0:=fc.new0 w;have E0:Ex [C] w (w.alloc (.cells #[.int .u64 0,.int .u64 0,.int .u64 0,.int .u64 0] 100)):=(Ex.refl [C] w).alloc _;generalize w.alloc (.cells #[.int .u64 0,.int .u64 0,.int .u64 0,.int .u64 0] 100)=W1 at *;have c1:W1.cell? ⟨C,1,none⟩=some (.int .i64 ((o:Int)+1)):=hA.cell 1;have cl1:=hA.lt;have HA:=aa hA;have HR0:=aa hR0;have HE0:=aa E0;have hne:=aa (show C≠w.heap.size by omega);clear hA hR0 E0;go_wp2_with(go_at_call 155;refine(H1.out (o+1) 94 W1 HA.out).mono ?_;rintro e w2⟨q,rfl,hq,he2,hC2⟩)
  go_step3;refine yo ?_;rename_i hK;refine hK _ _ ?_;refine HRest.out _ rfl _ _ ⟨w2.heap.size,q,0,fu,xm rfl rfl rfl rfl rfl rfl rfl rfl rfl,?_⟩;have hwz:=he2.size;have hW1:w.heap.size<W1.heap.size:=HR0.out.2.2;have hnb:od s o=(decide (o+1<s.size)&&(tb s (o+1)==94)):=rfl;rw[<-hnb]at hq;have hOn:=fc.new0 w2;refine⟨hC2.alloc _,?_,cx _,hOn,?_,(HE0.out.two he2).alloc _,⟨by have:=hC2.lt;omega,fun e=>hne.out e.symm,by omega⟩,⟨ac,by omega⟩,?_⟩
  ·rw[hq]
   split
   ·next hh=>rw[hnb]at hh;simp only[ce,cg]at hh;omega
   ·omega
  ·exact(HR0.out.ex he2 (by simpa using fun e=>hne.out e.symm)).ex ((Ex.refl [] w2).alloc _) (by simp)
  ·intro out m p' h
   rw[hq]at h;split
   ·next hh=>rw[if_pos hh]at h;exact h
   ·next hh=>rw[if_neg hh]at h;exact h
 case round=>
  rintro a' wr⟨O,q,n,acc,⟨u,rfl⟩,H⟩;refine⟨_,rfl,?_⟩;unfold acr;rw[uo H.c];have HH:=aa H;have HCr:=aa H.c;have c0:=H.c.cell 0;have c1:=H.c.cell 1;have c2:=H.c.cell 2;have clr:=H.c.lt;simp only[ak,am,au]at c0 c1 c2;clear H;by_cases h93:q<s.size/\tb s q=93
  ·have H2:=aa fun w' h=>qb C s q 0 hs h93.1 93 h93.2 w' h
   have H93:=aa h93;clear h93;go_wp2_with(go_at_call 155;refine(H2.out wr HCr.out).mono ?_;rintro e w1⟨rfl,he,hC1⟩)
   go_step3;refine Or.inr ⟨rfl,O,q,n,acc,xm rfl rfl rfl rfl rfl rfl rfl rfl rfl,?_⟩;exact⟨hC1,HH.out.hO.ex he (by simpa using HH.out.ne.1),HH.out.hR.ex he (by simpa using HH.out.ne.2.1),HH.out.ex.two he,HH.out.ne,HH.out.ge,HH.out.cps _ _ _ (.done _ _ _ H93.out.1 H93.out.2)⟩
  ·have H2:=aa fun w' h=>sf C s q 0 93 h93 w' h
   have H93:=aa h93;clear h93;cases hit:lq s q with
   |none=>
    have H3:=aa fun w' h=>acu C s q hs HH.out.ql hit w' h
    clear hit;go_wp2_with(first|(go_at_call 155;refine(H2.out wr HCr.out).mono ?_;rintro e w1⟨rfl,hb1⟩;have HC1:=aa (HCr.out.below hb1 HCr.out.lt);have E1:Hid (Ex [C] wr w1):=aa (Ex.of hb1);clear hb1))
    go_at_call 236;refine(H3.out w1 HC1.out).mono ?_;rintro e w2⟨rfl,he2,q2,e2,hC2,hq2,he0,he200⟩;have E2:=aa (E1.out.two he2);have d2:=hC2.cell 2;have dl:=hC2.lt;have HC2:=aa hC2;have hne2:(e2==0)=false:=by rw[ax];omega
    simp only[ak,am,au]at d2;clear hC2 he2;obtain⟨⟨r0,r1,r2,r3⟩,⟨z0,z1,z2,z3⟩,rl⟩:=HH.out.hR.ex E2.out (by simpa using HH.out.ne.2.1);simp only[je]at r0 r1 r2 r3;go_wp2_with fail
    refine ay (v:=.agg #[.int .u64 0,.int .u64 0,.int .u64 0,.int .u64 0]) (by simp[results,results227,go_sem,r0,r1,r2,r3]) rfl ?_;rw[<-cv0];exact⟨fu,rfl,(HH.out.ex.two E2.out).setZ _ ac,.inl ⟨q2,e2,HC2.out.setZ HH.out.ne.2.1,hq2,he0,he200⟩⟩
   |some bq=>
    obtain⟨b,q1⟩:=bq;have H3:=aa fun w' h=>abo C s q b q1 hs hit w' h
    have hlt:=p9 hit;have Hit:=aa hit;clear hit;go_wp2_with(first|(go_at_call 155;refine(H2.out wr HCr.out).mono ?_;rintro e w1⟨rfl,hb1⟩;have HC1:=aa (HCr.out.below hb1 HCr.out.lt);have E1:Hid (Ex [C] wr w1):=aa (Ex.of hb1);clear hb1))
    go_at_call 236;refine(H3.out w1 HC1.out).mono ?_;rintro e w2⟨rfl,he2,hC2⟩;have E2:=aa (E1.out.two he2);have d1:=hC2.cell 1;have d2:=hC2.cell 2;have dl:=hC2.lt;have HC2:=aa hC2;simp only[ak,am,au]at d1 d2;clear hC2 he2 c0 c1 c2 clr HC1 E1;go_wp2_with fail
    go_quiet(fail)
    have hni:(n:Int)<=1000:=by have:=HH.out.nl;have:=HH.out.ql;omega
    have E3:=aa (E2.out.two (Ex.of (cu (aw w2.heap.size w2) nq)));have HC3:=aa (HC2.out.drewN nq);by_cases hd:q1<s.size/\tb s q1=45
    ·have H4:=aa fun w' h=>qb C s q1 0 hs hd.1 45 hd.2 w' h
     have Hd:=aa hd;clear hd;go_wp2_with(go_at_call 155;refine(H4.out _ HC3.out).mono ?_;rintro e w4⟨rfl,he4,hC4⟩;have Ew4:=aa (E3.out.two he4);have HCw4:=aa hC4;clear he4 hC4)
     cases hit2:lq s (q1+1)with
     |none=>
      have H5:=aa fun w' h=>acu C s (q1+1) hs (by have:=Hd.out.1;omega) hit2 w' h
      clear hit2;go_at_call 236;refine(H5.out w4 HCw4.out).mono ?_;rintro e w5⟨rfl,he5,q5,e5,hC5,hq5,h50,h5200⟩;have Ew5:=aa (Ew4.out.two he5);have d2:=hC5.cell 2;have dl:=hC5.lt;have HCw5:=aa hC5;have hne2:(e5==0)=false:=by rw[ax];omega
      simp only[ak,am,au]at d2;clear hC5 he5;go_wp2_with fail
      have hrg:=aa fun w'=>ahy b hlt.1 w'
      have hor:=aa fun w'=>ads acc (ez b 0) w'
      have HOx:=aa (HH.out.hO.ex Ew5.out (by simpa using HH.out.ne.1));obtain⟨⟨o0,o1,o2,o3⟩,-,ol⟩:=HOx.out;go_region_with(first|(go_at_call 238;refine(hrg.out _).mono ?_;rintro e wa⟨rfl,hba⟩;have hOa:=fc.below (w:=w5.drew) HOx.out hba ol;have Hba:=aa hba;have HOa:=aa hOa;obtain⟨⟨a0,a1,a2,a3⟩,-,al⟩:=hOa;clear hba)|(go_at_call 237;refine(hor.out _).mono ?_;rintro e wb⟨rfl,hbw⟩;have hOb:=HOa.out.below hbw HOa.out.2.2;have Hbb:=aa hbw;have HOb:=aa hOb;obtain⟨⟨p0,p1,p2,p3⟩,⟨x0,x1,x2,x3⟩,xl⟩:=hOb;clear hbw))
      all_goals
       have E5:=aa (((Ew5.out.drew).two (Ex.of Hba.out)).two (Ex.of Hbb.out));have hE6:Ex [C] w ((((wb.setCell ⟨O,0,none⟩ (.int .u64 (wd (fun n=>acc n||ez b 0 n) 0:Nat))).setCell ⟨O,1,none⟩ (.int .u64 (wd (fun n=>acc n||ez b 0 n) 1:Nat))).setCell ⟨O,2,none⟩ (.int .u64 (wd (fun n=>acc n||ez b 0 n) 2:Nat))).setCell ⟨O,3,none⟩ (.int .u64 (wd (fun n=>acc n||ez b 0 n) 3:Nat))):=(HH.out.ex.two E5.out).setC O (fun n=>acc n||ez b 0 n) HH.out.ge.2;have hO6:fc ((((wb.setCell ⟨O,0,none⟩ (.int .u64 (wd (fun n=>acc n||ez b 0 n) 0:Nat))).setCell ⟨O,1,none⟩ (.int .u64 (wd (fun n=>acc n||ez b 0 n) 1:Nat))).setCell ⟨O,2,none⟩ (.int .u64 (wd (fun n=>acc n||ez b 0 n) 2:Nat))).setCell ⟨O,3,none⟩ (.int .u64 (wd (fun n=>acc n||ez b 0 n) 3:Nat))) O (fun n=>acc n||ez b 0 n):=HOb.out.set (fun n=>acc n||ez b 0 n);have hR6:fc ((((wb.setCell ⟨O,0,none⟩ (.int .u64 (wd (fun n=>acc n||ez b 0 n) 0:Nat))).setCell ⟨O,1,none⟩ (.int .u64 (wd (fun n=>acc n||ez b 0 n) 1:Nat))).setCell ⟨O,2,none⟩ (.int .u64 (wd (fun n=>acc n||ez b 0 n) 2:Nat))).setCell ⟨O,3,none⟩ (.int .u64 (wd (fun n=>acc n||ez b 0 n) 3:Nat))) w.heap.size fu:=(HH.out.hR.ex E5.out (by simpa using HH.out.ne.2.1)).setC (fun n=>acc n||ez b 0 n) HH.out.ne.2.2;have hC6:At ((((wb.setCell ⟨O,0,none⟩ (.int .u64 (wd (fun n=>acc n||ez b 0 n) 0:Nat))).setCell ⟨O,1,none⟩ (.int .u64 (wd (fun n=>acc n||ez b 0 n) 1:Nat))).setCell ⟨O,2,none⟩ (.int .u64 (wd (fun n=>acc n||ez b 0 n) 2:Nat))).setCell ⟨O,3,none⟩ (.int .u64 (wd (fun n=>acc n||ez b 0 n) 3:Nat))) C (mj s q5 e5):=((HCw5.out.drew'.below Hba.out HCw5.out.lt).below Hbb.out (az HCw5.out.lt Hba.out.size)).setC (fun n=>acc n||ez b 0 n) HH.out.ne.1;generalize (((wb.setCell ⟨O,0,none⟩ (.int .u64 (wd (fun n=>acc n||ez b 0 n) 0:Nat))).setCell ⟨O,1,none⟩ (.int .u64 (wd (fun n=>acc n||ez b 0 n) 1:Nat))).setCell ⟨O,2,none⟩ (.int .u64 (wd (fun n=>acc n||ez b 0 n) 2:Nat))).setCell ⟨O,3,none⟩ (.int .u64 (wd (fun n=>acc n||ez b 0 n) 3:Nat))=W6 at *;clear o0 o1 o2 o3 ol a0 a1 a2 a3 al p0 p1 p2 p3 x0 x1 x2 x3 xl hrg hor HOx HOa HOb Hba Hbb E5;have HE6:=aa hE6;have HO6:=aa hO6;have HR6:=aa hR6;have HC6:=aa hC6;have f2:=hC6.cell 2;have fl:=hC6.lt;simp only[ak,am,au]at f2;clear hE6 hO6 hR6 hC6;obtain⟨⟨r0,r1,r2,r3⟩,⟨z0,z1,z2,z3⟩,rl⟩:=HR6.out;simp only[je]at r0 r1 r2 r3;go_wp2_with fail
       refine ay (v:=.agg #[.int .u64 0,.int .u64 0,.int .u64 0,.int .u64 0]) (by simp[results,results227,go_sem,r0,r1,r2,r3]) rfl ?_;rw[<-cv0];exact⟨fu,rfl,HE6.out.setZ _ ac,.inl ⟨q5,e5,HC6.out.setZ HH.out.ne.2.1,hq5,h50,h5200⟩⟩
     |some cq=>
      obtain⟨c,q2⟩:=cq;have H5:=aa fun w' h=>abo C s (q1+1) c q2 hs hit2 w' h
      have hlt2:=p9 hit2;have Hit2:=aa hit2;clear hit2;go_at_call 236;refine(H5.out w4 HCw4.out).mono ?_;rintro e w5⟨rfl,he5,hC5⟩;have Ew5:=aa (Ew4.out.two he5);have d2:=hC5.cell 2;have dl:=hC5.lt;have HCw5:=aa hC5;simp only[ak,am,au]at d2;clear hC5 he5;by_cases hcb:(c:Int)<b
      ·have H6:=aa fun w' h=>i9 C s q2 0 q1 132 w' h
       go_wp2_with(go_at_call 206;refine(H6.out _ HCw5.out).mono ?_;rintro e w6⟨rfl,he6,hC6⟩;have Ew6:=aa (Ew5.out.two he6);have HCw6:=aa hC6;have k2:=hC6.cell 2;have kl:=hC6.lt;simp only[ak,am,au]at k2;clear he6 hC6)
       have hrg:=aa fun w'=>ya b c hlt.1 hlt2.1 w'
       have hor:=aa fun w'=>ads acc (ez b c) w'
       have HOx:=aa (HH.out.hO.ex Ew6.out (by simpa using HH.out.ne.1));obtain⟨⟨o0,o1,o2,o3⟩,-,ol⟩:=HOx.out;go_region_with(first|(go_at_call 238;refine(hrg.out _).mono ?_;rintro e wa⟨rfl,hba⟩;have hOa:=fc.below (w:=w6.drew) HOx.out hba ol;have Hba:=aa hba;have HOa:=aa hOa;obtain⟨⟨a0,a1,a2,a3⟩,-,al⟩:=hOa;clear hba)|(go_at_call 237;refine(hor.out _).mono ?_;rintro e wb⟨rfl,hbw⟩;have hOb:=HOa.out.below hbw HOa.out.2.2;have Hbb:=aa hbw;have HOb:=aa hOb;obtain⟨⟨p0,p1,p2,p3⟩,⟨x0,x1,x2,x3⟩,xl⟩:=hOb;clear hbw))
       all_goals
        have E5:=aa (((Ew6.out.drew).two (Ex.of Hba.out)).two (Ex.of Hbb.out));have hE6:Ex [C] w ((((wb.setCell ⟨O,0,none⟩ (.int .u64 (wd (fun n=>acc n||ez b c n) 0:Nat))).setCell ⟨O,1,none⟩ (.int .u64 (wd (fun n=>acc n||ez b c n) 1:Nat))).setCell ⟨O,2,none⟩ (.int .u64 (wd (fun n=>acc n||ez b c n) 2:Nat))).setCell ⟨O,3,none⟩ (.int .u64 (wd (fun n=>acc n||ez b c n) 3:Nat))):=(HH.out.ex.two E5.out).setC O (fun n=>acc n||ez b c n) HH.out.ge.2;have hO6:fc ((((wb.setCell ⟨O,0,none⟩ (.int .u64 (wd (fun n=>acc n||ez b c n) 0:Nat))).setCell ⟨O,1,none⟩ (.int .u64 (wd (fun n=>acc n||ez b c n) 1:Nat))).setCell ⟨O,2,none⟩ (.int .u64 (wd (fun n=>acc n||ez b c n) 2:Nat))).setCell ⟨O,3,none⟩ (.int .u64 (wd (fun n=>acc n||ez b c n) 3:Nat))) O (fun n=>acc n||ez b c n):=HOb.out.set (fun n=>acc n||ez b c n);have hR6:fc ((((wb.setCell ⟨O,0,none⟩ (.int .u64 (wd (fun n=>acc n||ez b c n) 0:Nat))).setCell ⟨O,1,none⟩ (.int .u64 (wd (fun n=>acc n||ez b c n) 1:Nat))).setCell ⟨O,2,none⟩ (.int .u64 (wd (fun n=>acc n||ez b c n) 2:Nat))).setCell ⟨O,3,none⟩ (.int .u64 (wd (fun n=>acc n||ez b c n) 3:Nat))) w.heap.size fu:=(HH.out.hR.ex E5.out (by simpa using HH.out.ne.2.1)).setC (fun n=>acc n||ez b c n) HH.out.ne.2.2;have hC6:At ((((wb.setCell ⟨O,0,none⟩ (.int .u64 (wd (fun n=>acc n||ez b c n) 0:Nat))).setCell ⟨O,1,none⟩ (.int .u64 (wd (fun n=>acc n||ez b c n) 1:Nat))).setCell ⟨O,2,none⟩ (.int .u64 (wd (fun n=>acc n||ez b c n) 2:Nat))).setCell ⟨O,3,none⟩ (.int .u64 (wd (fun n=>acc n||ez b c n) 3:Nat))) C (mj s (q1:Nat) 132):=((HCw6.out.drew'.below Hba.out HCw6.out.lt).below Hbb.out (az HCw6.out.lt Hba.out.size)).setC (fun n=>acc n||ez b c n) HH.out.ne.1;generalize (((wb.setCell ⟨O,0,none⟩ (.int .u64 (wd (fun n=>acc n||ez b c n) 0:Nat))).setCell ⟨O,1,none⟩ (.int .u64 (wd (fun n=>acc n||ez b c n) 1:Nat))).setCell ⟨O,2,none⟩ (.int .u64 (wd (fun n=>acc n||ez b c n) 2:Nat))).setCell ⟨O,3,none⟩ (.int .u64 (wd (fun n=>acc n||ez b c n) 3:Nat))=W6 at *;clear o0 o1 o2 o3 ol a0 a1 a2 a3 al p0 p1 p2 p3 x0 x1 x2 x3 xl hrg hor HOx HOa HOb Hba Hbb E5;have HE6:=aa hE6;have HO6:=aa hO6;have HR6:=aa hR6;have HC6:=aa hC6;have f2:=hC6.cell 2;have fl:=hC6.lt;simp only[ak,am,au]at f2;clear hE6 hO6 hR6 hC6;obtain⟨⟨r0,r1,r2,r3⟩,⟨z0,z1,z2,z3⟩,rl⟩:=HR6.out;simp only[je]at r0 r1 r2 r3;go_wp2_with fail
        refine ay (v:=.agg #[.int .u64 0,.int .u64 0,.int .u64 0,.int .u64 0]) (by simp[results,results227,go_sem,r0,r1,r2,r3]) rfl ?_;rw[<-cv0];exact⟨fu,rfl,HE6.out.setZ _ ac,.inl ⟨q1,132,HC6.out.setZ HH.out.ne.2.1,⟨by omega,by have:=Hd.out.1;omega⟩,by decide,by decide⟩⟩
      ·go_wp2_with fail
       have hrg:=aa fun w'=>ya b c hlt.1 hlt2.1 w'
       have hor:=aa fun w'=>ads acc (ez b c) w'
       have HOx:=aa (HH.out.hO.ex Ew5.out (by simpa using HH.out.ne.1));obtain⟨⟨o0,o1,o2,o3⟩,-,ol⟩:=HOx.out;go_region_with(first|(go_at_call 238;refine(hrg.out _).mono ?_;rintro e wa⟨rfl,hba⟩;have hOa:=fc.below (w:=w5.drew) HOx.out hba ol;have Hba:=aa hba;have HOa:=aa hOa;obtain⟨⟨a0,a1,a2,a3⟩,-,al⟩:=hOa;clear hba)|(go_at_call 237;refine(hor.out _).mono ?_;rintro e wb⟨rfl,hbw⟩;have hOb:=HOa.out.below hbw HOa.out.2.2;have Hbb:=aa hbw;have HOb:=aa hOb;obtain⟨⟨p0,p1,p2,p3⟩,⟨x0,x1,x2,x3⟩,xl⟩:=hOb;clear hbw))
       all_goals
        have E5:=aa (((Ew5.out.drew).two (Ex.of Hba.out)).two (Ex.of Hbb.out));have hE6:Ex [C] w ((((wb.setCell ⟨O,0,none⟩ (.int .u64 (wd (fun n=>acc n||ez b c n) 0:Nat))).setCell ⟨O,1,none⟩ (.int .u64 (wd (fun n=>acc n||ez b c n) 1:Nat))).setCell ⟨O,2,none⟩ (.int .u64 (wd (fun n=>acc n||ez b c n) 2:Nat))).setCell ⟨O,3,none⟩ (.int .u64 (wd (fun n=>acc n||ez b c n) 3:Nat))):=(HH.out.ex.two E5.out).setC O (fun n=>acc n||ez b c n) HH.out.ge.2;have hO6:fc ((((wb.setCell ⟨O,0,none⟩ (.int .u64 (wd (fun n=>acc n||ez b c n) 0:Nat))).setCell ⟨O,1,none⟩ (.int .u64 (wd (fun n=>acc n||ez b c n) 1:Nat))).setCell ⟨O,2,none⟩ (.int .u64 (wd (fun n=>acc n||ez b c n) 2:Nat))).setCell ⟨O,3,none⟩ (.int .u64 (wd (fun n=>acc n||ez b c n) 3:Nat))) O (fun n=>acc n||ez b c n):=HOb.out.set (fun n=>acc n||ez b c n);have hR6:fc ((((wb.setCell ⟨O,0,none⟩ (.int .u64 (wd (fun n=>acc n||ez b c n) 0:Nat))).setCell ⟨O,1,none⟩ (.int .u64 (wd (fun n=>acc n||ez b c n) 1:Nat))).setCell ⟨O,2,none⟩ (.int .u64 (wd (fun n=>acc n||ez b c n) 2:Nat))).setCell ⟨O,3,none⟩ (.int .u64 (wd (fun n=>acc n||ez b c n) 3:Nat))) w.heap.size fu:=(HH.out.hR.ex E5.out (by simpa using HH.out.ne.2.1)).setC (fun n=>acc n||ez b c n) HH.out.ne.2.2;have hC6:At ((((wb.setCell ⟨O,0,none⟩ (.int .u64 (wd (fun n=>acc n||ez b c n) 0:Nat))).setCell ⟨O,1,none⟩ (.int .u64 (wd (fun n=>acc n||ez b c n) 1:Nat))).setCell ⟨O,2,none⟩ (.int .u64 (wd (fun n=>acc n||ez b c n) 2:Nat))).setCell ⟨O,3,none⟩ (.int .u64 (wd (fun n=>acc n||ez b c n) 3:Nat))) C (mj s (q2:Nat) 0):=((HCw5.out.drew'.below Hba.out HCw5.out.lt).below Hbb.out (az HCw5.out.lt Hba.out.size)).setC (fun n=>acc n||ez b c n) HH.out.ne.1;generalize (((wb.setCell ⟨O,0,none⟩ (.int .u64 (wd (fun n=>acc n||ez b c n) 0:Nat))).setCell ⟨O,1,none⟩ (.int .u64 (wd (fun n=>acc n||ez b c n) 1:Nat))).setCell ⟨O,2,none⟩ (.int .u64 (wd (fun n=>acc n||ez b c n) 2:Nat))).setCell ⟨O,3,none⟩ (.int .u64 (wd (fun n=>acc n||ez b c n) 3:Nat))=W6 at *;clear o0 o1 o2 o3 ol a0 a1 a2 a3 al p0 p1 p2 p3 x0 x1 x2 x3 xl hrg hor HOx HOa HOb Hba Hbb E5;have HE6:=aa hE6;have HO6:=aa hO6;have HR6:=aa hR6;have HC6:=aa hC6;have f2:=hC6.cell 2;have fl:=hC6.lt;simp only[ak,am,au]at f2;clear hE6 hO6 hR6 hC6;go_wp2_with fail
        go_step3;refine Or.inl ⟨rfl,⟨O,q2,n+1,_,xm rfl rfl rfl rfl rfl rfl rfl rfl rfl,HC6.out,hlt2.2.1,by have:=HH.out.nl;omega,HO6.out,HR6.out,HE6.out,HH.out.ne,HH.out.ge,fun out m p' h=>HH.out.cps _ _ _ (.two _ _ _ b q1 c q2 _ _ _ Hit.out Hd.out.1 Hd.out.2 Hit2.out (by omega) h)⟩,?_⟩;rw[uo HC6.out];omega
    ·have H4:=aa fun w' h=>sf C s q1 0 45 hd w' h
     have hbb:¬(b:Int)<b:=by omega
     have Hd:=aa hd;clear hd;go_wp2_with(go_at_call 155;refine(H4.out _ HC3.out).mono ?_;rintro e w4⟨rfl,hb4⟩;have HCw4:=aa (HC3.out.below hb4 HC3.out.lt);have Ew4:=aa (E3.out.two (Ex.of (S:=[C]) hb4));have d2:w4.cell? ⟨C,2,none⟩=some (.int .i64 0):=HCw4.out.cell 2;have dl:=HCw4.out.lt;clear hb4)
     have hrg:=aa fun w'=>ya b b hlt.1 hlt.1 w'
     have hor:=aa fun w'=>ads acc (ez b b) w'
     have HOx:=aa (HH.out.hO.ex Ew4.out (by simpa using HH.out.ne.1));obtain⟨⟨o0,o1,o2,o3⟩,-,ol⟩:=HOx.out;go_region_with(first|(go_at_call 238;refine(hrg.out _).mono ?_;rintro e wa⟨rfl,hba⟩;have hOa:=fc.below (w:=w4.drew) HOx.out hba ol;have Hba:=aa hba;have HOa:=aa hOa;obtain⟨⟨a0,a1,a2,a3⟩,-,al⟩:=hOa;clear hba)|(go_at_call 237;refine(hor.out _).mono ?_;rintro e wb⟨rfl,hbw⟩;have hOb:=HOa.out.below hbw HOa.out.2.2;have Hbb:=aa hbw;have HOb:=aa hOb;obtain⟨⟨p0,p1,p2,p3⟩,⟨x0,x1,x2,x3⟩,xl⟩:=hOb;clear hbw))
     all_goals
      have E5:=aa (((Ew4.out.drew).two (Ex.of Hba.out)).two (Ex.of Hbb.out));have hE6:Ex [C] w ((((wb.setCell ⟨O,0,none⟩ (.int .u64 (wd (fun n=>acc n||ez b b n) 0:Nat))).setCell ⟨O,1,none⟩ (.int .u64 (wd (fun n=>acc n||ez b b n) 1:Nat))).setCell ⟨O,2,none⟩ (.int .u64 (wd (fun n=>acc n||ez b b n) 2:Nat))).setCell ⟨O,3,none⟩ (.int .u64 (wd (fun n=>acc n||ez b b n) 3:Nat))):=(HH.out.ex.two E5.out).setC O (fun n=>acc n||ez b b n) HH.out.ge.2;have hO6:fc ((((wb.setCell ⟨O,0,none⟩ (.int .u64 (wd (fun n=>acc n||ez b b n) 0:Nat))).setCell ⟨O,1,none⟩ (.int .u64 (wd (fun n=>acc n||ez b b n) 1:Nat))).setCell ⟨O,2,none⟩ (.int .u64 (wd (fun n=>acc n||ez b b n) 2:Nat))).setCell ⟨O,3,none⟩ (.int .u64 (wd (fun n=>acc n||ez b b n) 3:Nat))) O (fun n=>acc n||ez b b n):=HOb.out.set (fun n=>acc n||ez b b n);have hR6:fc ((((wb.setCell ⟨O,0,none⟩ (.int .u64 (wd (fun n=>acc n||ez b b n) 0:Nat))).setCell ⟨O,1,none⟩ (.int .u64 (wd (fun n=>acc n||ez b b n) 1:Nat))).setCell ⟨O,2,none⟩ (.int .u64 (wd (fun n=>acc n||ez b b n) 2:Nat))).setCell ⟨O,3,none⟩ (.int .u64 (wd (fun n=>acc n||ez b b n) 3:Nat))) w.heap.size fu:=(HH.out.hR.ex E5.out (by simpa using HH.out.ne.2.1)).setC (fun n=>acc n||ez b b n) HH.out.ne.2.2;have hC6:At ((((wb.setCell ⟨O,0,none⟩ (.int .u64 (wd (fun n=>acc n||ez b b n) 0:Nat))).setCell ⟨O,1,none⟩ (.int .u64 (wd (fun n=>acc n||ez b b n) 1:Nat))).setCell ⟨O,2,none⟩ (.int .u64 (wd (fun n=>acc n||ez b b n) 2:Nat))).setCell ⟨O,3,none⟩ (.int .u64 (wd (fun n=>acc n||ez b b n) 3:Nat))) C (mj s (q1:Nat) 0):=((HCw4.out.drew'.below Hba.out HCw4.out.lt).below Hbb.out (az HCw4.out.lt Hba.out.size)).setC (fun n=>acc n||ez b b n) HH.out.ne.1;generalize (((wb.setCell ⟨O,0,none⟩ (.int .u64 (wd (fun n=>acc n||ez b b n) 0:Nat))).setCell ⟨O,1,none⟩ (.int .u64 (wd (fun n=>acc n||ez b b n) 1:Nat))).setCell ⟨O,2,none⟩ (.int .u64 (wd (fun n=>acc n||ez b b n) 2:Nat))).setCell ⟨O,3,none⟩ (.int .u64 (wd (fun n=>acc n||ez b b n) 3:Nat))=W6 at *;clear o0 o1 o2 o3 ol a0 a1 a2 a3 al p0 p1 p2 p3 x0 x1 x2 x3 xl hrg hor HOx HOa HOb Hba Hbb E5;have HE6:=aa hE6;have HO6:=aa hO6;have HR6:=aa hR6;have HC6:=aa hC6;have f2:=hC6.cell 2;have fl:=hC6.lt;simp only[ak,am,au]at f2;clear hE6 hO6 hR6 hC6;go_wp2_with fail
      go_step3;refine Or.inl ⟨rfl,⟨O,q1,n+1,_,xm rfl rfl rfl rfl rfl rfl rfl rfl rfl,HC6.out,hlt.2.1,by have:=HH.out.nl;omega,HO6.out,HR6.out,HE6.out,HH.out.ne,HH.out.ge,fun out m p' h=>HH.out.cps _ _ _ (.one _ _ _ b q1 _ _ _ Hit.out Hd.out h)⟩,?_⟩;rw[uo HC6.out];omega
 case done=>
  rintro a' wr⟨O,q,n,acc,⟨u,rfl⟩,H⟩;refine⟨_,rfl,?_⟩;unfold acr;have HH:=aa H;have HCwr:=aa H.c;have HOwr:=aa H.hO;have HRwr:=aa H.hR;have HEwr:=aa H.ex;clear H;cases hnb:od s o with
  |false=>
   have Hnb:=aa hnb;clear hnb;obtain⟨⟨o0,o1,o2,o3⟩,-,ol⟩:=HOwr.out;obtain⟨⟨r0,r1,r2,r3⟩,⟨z0,z1,z2,z3⟩,rl⟩:=HRwr.out;simp only[je]at r0 r1 r2 r3;by_cases hn:n=0
   ·have hn0:((n:Int)==0)=true:=by rw[hn];rfl
    have H6:=aa fun w' h=>i9 C s ((q+1:Nat):Int) 0 o 132 w' h
    clear hn;go_wp2_with(go_at_call 206;refine(H6.out _ HCwr.out).mono ?_;rintro e w8⟨rfl,he8,hC8⟩;have HC8:=aa hC8;have E8:=aa (HEwr.out.two he8);have HO8:=HOwr.out.ex he8 (by simpa using HH.out.ne.1);have HR8:=HRwr.out.ex he8 (by simpa using HH.out.ne.2.1);have HRx:=aa HR8;obtain⟨⟨o0,o1,o2,o3⟩,-,ol⟩:=HO8;obtain⟨⟨r0,r1,r2,r3⟩,⟨z0,z1,z2,z3⟩,rl⟩:=HR8;simp only[je]at r0 r1 r2 r3;clear hC8 he8)
    obtain⟨⟨e0,e1,e2,e3⟩,-,-⟩:=HRx.out.set (acc);exact ay (v:=cv (acc)) (by simp[results,results227,go_sem,e0,e1,e2,e3]) rfl ⟨acc,rfl,E8.out.setC _ _ ac,.inl ⟨o,132,HC8.out.setC _ HH.out.ne.2.1,⟨by omega,by omega⟩,by decide,by decide⟩⟩
   ·have hn0:((n:Int)==0)=false:=by rw[ax];omega
    have Hn:=aa hn;clear hn;cases hq:fj (acc) fu with
    |true=>
     have H6:=aa fun w' h=>i9 C s ((q+1:Nat):Int) 0 o 132 w' h
     go_wp2_with(go_at_call 206;refine(H6.out _ HCwr.out).mono ?_;rintro e w8⟨rfl,he8,hC8⟩;have HC8:=aa hC8;have E8:=aa (HEwr.out.two he8);have HO8:=HOwr.out.ex he8 (by simpa using HH.out.ne.1);have HR8:=HRwr.out.ex he8 (by simpa using HH.out.ne.2.1);have HRx:=aa HR8;obtain⟨⟨o0,o1,o2,o3⟩,-,ol⟩:=HO8;obtain⟨⟨r0,r1,r2,r3⟩,⟨z0,z1,z2,z3⟩,rl⟩:=HR8;simp only[je]at r0 r1 r2 r3;clear hC8 he8)
     obtain⟨⟨e0,e1,e2,e3⟩,-,-⟩:=HRx.out.set (acc);exact ay (v:=cv (acc)) (by simp[results,results227,go_sem,e0,e1,e2,e3]) rfl ⟨acc,rfl,E8.out.setC _ _ ac,.inl ⟨o,132,HC8.out.setC _ HH.out.ne.2.1,⟨by omega,by omega⟩,by decide,by decide⟩⟩
    |false=>
     go_wp2_with fail
     obtain⟨⟨e0,e1,e2,e3⟩,-,-⟩:=HRwr.out.set (acc);exact ay (v:=cv (acc)) (by simp[results,results227,go_sem,e0,e1,e2,e3]) rfl ⟨acc,rfl,HEwr.out.setC _ _ ac,.inr ⟨q+1,HCwr.out.setC _ HH.out.ne.2.1,acc,n,q,HH.out.fin,Hn.out,by rw[Hnb.out];rfl,rfl⟩⟩
  |true=>
   have Hnb:=aa hnb;clear hnb;have hno:=aa fun w'=>aj5 acc w'
   obtain⟨⟨o0,o1,o2,o3⟩,⟨y0,y1,y2,y3⟩,ol⟩:=HOwr.out;go_upto_region 19 with(go_at_call 151;refine(hno.out _).mono ?_;rintro e w7⟨rfl,hb7⟩;have HO7:=aa (HOwr.out.below hb7 HOwr.out.2.2);have Hb7:=aa hb7;obtain⟨⟨p0,p1,p2,p3⟩,⟨x0,x1,x2,x3⟩,xl⟩:=HO7.out;clear hb7)
   have hE8:Ex [C] w ((((w7.setCell ⟨O,0,none⟩ (.int .u64 (wd (fun n=> !acc n) 0:Nat))).setCell ⟨O,1,none⟩ (.int .u64 (wd (fun n=> !acc n) 1:Nat))).setCell ⟨O,2,none⟩ (.int .u64 (wd (fun n=> !acc n) 2:Nat))).setCell ⟨O,3,none⟩ (.int .u64 (wd (fun n=> !acc n) 3:Nat))):=(HEwr.out.two (Ex.of Hb7.out)).setC O (fun n=> !acc n) HH.out.ge.2;have hO8:fc ((((w7.setCell ⟨O,0,none⟩ (.int .u64 (wd (fun n=> !acc n) 0:Nat))).setCell ⟨O,1,none⟩ (.int .u64 (wd (fun n=> !acc n) 1:Nat))).setCell ⟨O,2,none⟩ (.int .u64 (wd (fun n=> !acc n) 2:Nat))).setCell ⟨O,3,none⟩ (.int .u64 (wd (fun n=> !acc n) 3:Nat))) O (fun n=> !acc n):=HO7.out.set (fun n=> !acc n);have hR8:fc ((((w7.setCell ⟨O,0,none⟩ (.int .u64 (wd (fun n=> !acc n) 0:Nat))).setCell ⟨O,1,none⟩ (.int .u64 (wd (fun n=> !acc n) 1:Nat))).setCell ⟨O,2,none⟩ (.int .u64 (wd (fun n=> !acc n) 2:Nat))).setCell ⟨O,3,none⟩ (.int .u64 (wd (fun n=> !acc n) 3:Nat))) w.heap.size fu:=(HRwr.out.below Hb7.out HRwr.out.2.2).setC (fun n=> !acc n) HH.out.ne.2.2;have hC8:At ((((w7.setCell ⟨O,0,none⟩ (.int .u64 (wd (fun n=> !acc n) 0:Nat))).setCell ⟨O,1,none⟩ (.int .u64 (wd (fun n=> !acc n) 1:Nat))).setCell ⟨O,2,none⟩ (.int .u64 (wd (fun n=> !acc n) 2:Nat))).setCell ⟨O,3,none⟩ (.int .u64 (wd (fun n=> !acc n) 3:Nat))) C (mj s ((q+1:Nat):Int) 0):=(HCwr.out.below Hb7.out HCwr.out.lt).setC (fun n=> !acc n) HH.out.ne.1;generalize (((w7.setCell ⟨O,0,none⟩ (.int .u64 (wd (fun n=> !acc n) 0:Nat))).setCell ⟨O,1,none⟩ (.int .u64 (wd (fun n=> !acc n) 1:Nat))).setCell ⟨O,2,none⟩ (.int .u64 (wd (fun n=> !acc n) 2:Nat))).setCell ⟨O,3,none⟩ (.int .u64 (wd (fun n=> !acc n) 3:Nat))=W8 at *;clear o0 o1 o2 o3 y0 y1 y2 y3 ol p0 p1 p2 p3 x0 x1 x2 x3 xl HO7 Hb7 hno;have HEW8:=aa hE8;have HOW8:=aa hO8;have HRW8:=aa hR8;have HCW8:=aa hC8;clear hE8 hO8 hR8 hC8;obtain⟨⟨o0,o1,o2,o3⟩,-,ol⟩:=HOW8.out;obtain⟨⟨r0,r1,r2,r3⟩,⟨z0,z1,z2,z3⟩,rl⟩:=HRW8.out;simp only[je]at r0 r1 r2 r3;by_cases hn:n=0
   ·have hn0:((n:Int)==0)=true:=by rw[hn];rfl
    have H6:=aa fun w' h=>i9 C s ((q+1:Nat):Int) 0 o 132 w' h
    clear hn;go_wp2_with(go_at_call 206;refine(H6.out _ HCW8.out).mono ?_;rintro e w8⟨rfl,he8,hC8⟩;have HC8:=aa hC8;have E8:=aa (HEW8.out.two he8);have HO8:=HOW8.out.ex he8 (by simpa using HH.out.ne.1);have HR8:=HRW8.out.ex he8 (by simpa using HH.out.ne.2.1);have HRx:=aa HR8;obtain⟨⟨o0,o1,o2,o3⟩,-,ol⟩:=HO8;obtain⟨⟨r0,r1,r2,r3⟩,⟨z0,z1,z2,z3⟩,rl⟩:=HR8;simp only[je]at r0 r1 r2 r3;clear hC8 he8)
    obtain⟨⟨e0,e1,e2,e3⟩,-,-⟩:=HRx.out.set (fun n=> !acc n);exact ay (v:=cv (fun n=> !acc n)) (by simp[results,results227,go_sem,e0,e1,e2,e3]) rfl ⟨fun n=> !acc n,rfl,E8.out.setC _ _ ac,.inl ⟨o,132,HC8.out.setC _ HH.out.ne.2.1,⟨by omega,by omega⟩,by decide,by decide⟩⟩
   ·have hn0:((n:Int)==0)=false:=by rw[ax];omega
    have Hn:=aa hn;clear hn;cases hq:fj (fun n=> !acc n) fu with
    |true=>
     have H6:=aa fun w' h=>i9 C s ((q+1:Nat):Int) 0 o 132 w' h
     go_wp2_with(go_at_call 206;refine(H6.out _ HCW8.out).mono ?_;rintro e w8⟨rfl,he8,hC8⟩;have HC8:=aa hC8;have E8:=aa (HEW8.out.two he8);have HO8:=HOW8.out.ex he8 (by simpa using HH.out.ne.1);have HR8:=HRW8.out.ex he8 (by simpa using HH.out.ne.2.1);have HRx:=aa HR8;obtain⟨⟨o0,o1,o2,o3⟩,-,ol⟩:=HO8;obtain⟨⟨r0,r1,r2,r3⟩,⟨z0,z1,z2,z3⟩,rl⟩:=HR8;simp only[je]at r0 r1 r2 r3;clear hC8 he8)
     obtain⟨⟨e0,e1,e2,e3⟩,-,-⟩:=HRx.out.set (fun n=> !acc n);exact ay (v:=cv (fun n=> !acc n)) (by simp[results,results227,go_sem,e0,e1,e2,e3]) rfl ⟨fun n=> !acc n,rfl,E8.out.setC _ _ ac,.inl ⟨o,132,HC8.out.setC _ HH.out.ne.2.1,⟨by omega,by omega⟩,by decide,by decide⟩⟩
    |false=>
     go_wp2_with fail
     obtain⟨⟨e0,e1,e2,e3⟩,-,-⟩:=HRW8.out.set (fun n=> !acc n);exact ay (v:=cv (fun n=> !acc n)) (by simp[results,results227,go_sem,e0,e1,e2,e3]) rfl ⟨fun n=> !acc n,rfl,HEW8.out.setC _ _ ac,.inr ⟨q+1,HCW8.out.setC _ HH.out.ne.2.1,acc,n,q,HH.out.fin,Hn.out,by rw[Hnb.out];rfl,rfl⟩⟩
end
end Go.Proofs.YtjfkmoinldlmaaaGreat
