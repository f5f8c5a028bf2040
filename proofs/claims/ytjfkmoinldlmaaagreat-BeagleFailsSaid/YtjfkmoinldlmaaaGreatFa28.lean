/- The walk of BeagleFails, part 28. Walks of package query at a tree of one node. Walks of package eval at a query of one leaf, and a row of two places. Walks of eval.Check and of feed, where all is read at once. Walks of a stream's search, and of the function that it makes, at a leaf of two elements that is found twice. Walks of feed.New and feed.Read at any pieces, where the text fails. -/
import Derived.Test.YtjfkmoinldlmaaaGreatFa27
import Derived.Handy
namespace Go.Proofs.YtjfkmoinldlmaaaGreat
open Go.Proofs.Tryz
section
set_option maxRecDepth 100000
set_option maxHeartbeats 4000000
open Go.RowKit Go.Shelf
structure One(w:World)(Q:Nat)(ad:Option Addr)(n cap:Nat)(K:Int):Prop where
 c0:w.cell? ⟨Q,0,none⟩=some (.int .i64 1)
 c1:w.cell? ⟨Q,1,none⟩=some (.int .i64 0)
 c2:w.cell? ⟨Q,2,none⟩=some (.slice ad n cap)
 c3:w.cell? ⟨Q,3,none⟩=some (.int .i64 K)
 lt:Q<w.heap.size
theorem One.below{w w':World}{Q:Nat}{ad:Option Addr}{n cap m:Nat}{K:Int}(h:One w Q ad n cap K)(hb:Below m w w')(hm:Q<m):One w' Q ad n cap K:=by
 obtain⟨h0,h1,h2,h3,h4⟩:=h;exact⟨(hb.cell (p:=⟨Q,0,none⟩) hm).trans h0,(hb.cell (p:=⟨Q,1,none⟩) hm).trans h1,(hb.cell (p:=⟨Q,2,none⟩) hm).trans h2,(hb.cell (p:=⟨Q,3,none⟩) hm).trans h3,az h4 hb.size⟩
theorem One.new(w:World)(ad:Option Addr)(n cap:Nat)(K:Int):One (w.alloc (.cells #[.int .i64 1,.int .i64 0,.slice ad n cap,.int .i64 K] 81)) w.heap.size ad n cap K:=by
 refine⟨?_,?_,?_,?_,by simp⟩<;>simp
theorem yd{w:World}{base:Nat}{e:TypeId}{size n:Nat}{v:Value}{xs:List Value}(h:w.ownsRow base e size v n xs)(hn:0<n)(hx:xs.length=n*size):∃g cap,v=.slice (some ⟨g,0,none⟩) n cap/\base<=g/\g<w.heap.size/\∀(j:Nat)u,xs[j]?=some u->w.cell? ⟨g,j,none⟩=some u:=by
 obtain⟨g,cap,hv,hb,hl⟩:=oa h hn;subst hv;refine⟨g,cap,rfl,hb,hl,fun j u hj=>?_⟩;have hi:j<xs.length:=by
  rcases Nat.lt_or_ge j xs.length with h|h
  ·exact h
  ·rw[eb h]at hj;cases hj
 rw[h.cellAt j (by omega)];exact hj
theorem ar2:mi 82 52 2 32:=lj (z:=.agg #[.slice none 0 0,.int .i64 0]) underlying82 (by kernel_rfl) rfl (by decide)
end
section
set_option maxRecDepth 100000
set_option maxHeartbeats 4000000
open Go.RowKit Go.Shelf Go.Maps
structure Ex(S:List Nat)(w w':World):Prop where
 os:w'.os=w.os
 tape:w'.tape=w.tape
 output:w'.output=w.output
 size:w.heap.size<=w'.heap.size
 block:∀k,k<w.heap.size->k∉S->w'.heap[k]?=w.heap[k]?
theorem Ex.refl(S:List Nat)(w:World):Ex S w w:=⟨rfl,rfl,rfl,ac,fun _ _ _=>rfl⟩
theorem Ex.trans{S T:List Nat}{a b c:World}(h:Ex S a b)(k:Ex T b c):Ex (S++T) a c:=
 ⟨k.os.trans h.os,k.tape.trans h.tape,k.output.trans h.output,ba h.size k.size,fun i hi hn=>(k.block i (az hi h.size) (fun e=>hn (List.mem_append_right _ e))).trans (h.block i hi (fun e=>hn (List.mem_append_left _ e)))⟩
theorem Ex.mono{S T:List Nat}{a b:World}(h:Ex S a b)(hs:∀x∈S,x∈T\/a.heap.size<=x):Ex T a b:=
 ⟨h.os,h.tape,h.output,h.size,fun i hi hn=>h.block i hi (fun e=>(hs i e).elim hn (fun h=>by omega))⟩
theorem Ex.of{S:List Nat}{w w':World}(h:Below w.heap.size w w'):Ex S w w':=⟨h.os,h.tape,h.output,h.size,fun i hi _=>h.block i hi⟩
theorem Ex.below{S:List Nat}{w w':World}{m:Nat}(h:Ex S w w')(hm:m<=w.heap.size)(hs:∀x∈S,m<=x):Below m w w':=
 ⟨h.os,h.tape,h.output,h.size,fun i hi=>h.block i (by omega) (fun e=>by have:=hs i e;omega)⟩
theorem Ex.alloc{S:List Nat}{a b:World}(h:Ex S a b)(o:Obj):Ex S a (b.alloc o):=(h.trans (Ex.of (S:=[]) (ae.alloc ac o))).mono (by intro x hx;left;simpa using hx)
theorem Ex.drew{S:List Nat}{a b:World}(h:Ex S a b):Ex S a b.drew:=⟨h.os,h.tape,h.output,h.size,h.block⟩
theorem Ex.then{S:List Nat}{a b c:World}(h:Ex S a b)(k:Below b.heap.size b c):Ex S a c:=(h.trans (Ex.of (S:=[]) k)).mono (by intro x hx;left;simpa using hx)
theorem Ex.set{S:List Nat}{a b:World}(h:Ex S a b)(B o:Nat)(v:Value)(hB:B∈S):Ex S a (b.setCell ⟨B,o,none⟩ v):=by
 have g:=pn b B o v;exact⟨g.os.trans h.os,g.tape.trans h.tape,g.output.trans h.output,ba h.size g.size,fun i hi hn=>(g.block i (az hi h.size) (fun e=>hn (by cases e;exact hB))).trans (h.block i hi hn)⟩
theorem At.ex{w w':World}{B:Nat}{o:Obj}{S:List Nat}(h:At w B o)(hb:Ex S w w')(hn:B∉S):At w' B o:=(hb.block B h.lt hn).trans h
theorem Ex.cell{w w':World}{S:List Nat}(hb:Ex S w w'){B:Nat}(hB:B<w.heap.size)(hn:B∉S)(j:Nat):w'.cell? ⟨B,j,none⟩=w.cell? ⟨B,j,none⟩:=World.cell?_of_block (hb.block B hB hn)
theorem One.ex{w w':World}{Q:Nat}{ad:Option Addr}{n cap:Nat}{K:Int}{S:List Nat}(h:One w Q ad n cap K)(hb:Ex S w w')(hn:Q∉S):One w' Q ad n cap K:=by
 obtain⟨h0,h1,h2,h3,h4⟩:=h;exact⟨(hb.cell h4 hn 0).trans h0,(hb.cell h4 hn 1).trans h1,(hb.cell h4 hn 2).trans h2,(hb.cell h4 hn 3).trans h3,az h4 hb.size⟩
structure Two(w:World)(g:Nat)(a b:Int):Prop where
 c0:w.cell? ⟨g,0,none⟩=some (.int .i64 a)
 c1:w.cell? ⟨g,1,none⟩=some (.int .i64 b)
 lt:g<w.heap.size
theorem Two.ex{w w':World}{g:Nat}{a b:Int}{S:List Nat}(h:Two w g a b)(hb:Ex S w w')(hn:g∉S):Two w' g a b:=by
 obtain⟨h0,h1,h4⟩:=h;exact⟨(hb.cell h4 hn 0).trans h0,(hb.cell h4 hn 1).trans h1,az h4 hb.size⟩
structure Row1(w:World)(F:Nat)(v:Value):Prop where
 c0:w.cell? ⟨F,0,none⟩=some v
 lt:F<w.heap.size
theorem Row1.ex{w w':World}{F:Nat}{v:Value}{S:List Nat}(h:Row1 w F v)(hb:Ex S w w')(hn:F∉S):Row1 w' F v:=
 ⟨(hb.cell h.lt hn 0).trans h.c0,az h.lt hb.size⟩
theorem zero177(w:World):(zeroValue 177).run prog w=.ok .nilFunc w:=by kernel_rfl
def sp(w:World)(b n:Nat)(p:Int->Value):Prop:=
 ∃D:DataW Value,w.ownsMap prog 3 asIs b n D/\IsMap D/\∀x,1<=x->x<=5->D.atKey (.int .i64 x) (.held .nilFunc)=.held (p x)
theorem sp.made(w:World):sp (w.alloc (.map #[] 0)) w.heap.size 0 fun _=>.nilFunc:=
 ⟨.map [],World.ownsMap_made _ _ _ _,⟨[],rfl⟩,fun _ _ _=>rfl⟩
theorem sp.kept{w w':World}{b n:Nat}{p:Int->Value}{row:Option Nat}(h:sp w b n p)(hg:w.grownBy w' row)(hne:some b≠row):sp w' b n p:=by
 obtain⟨D,h1,h2,h3⟩:=h;exact⟨D,h1.kept hg hne,h2,h3⟩
theorem sp.below{w w':World}{b n:Nat}{p:Int->Value}(h:sp w b n p)(hb:Below w.heap.size w w'):sp w' b n p:=h.kept (gn hb none) (by simp)
theorem sp.lt{w:World}{b n:Nat}{p:Int->Value}(h:sp w b n p):b<w.heap.size:=by
 obtain⟨D,h1,_⟩:=h;exact h1.lt
theorem sp.look{w:World}{b n:Nat}{p:Int->Value}(h:sp w b n p)(x:Int)(h1:1<=x)(h5:x<=5):(Instr.lookup 180 (.map (some b)) (.int .i64 x) false).run prog w=.ok (p x) w:=by
 obtain⟨D,g1,g2,g3⟩:=h;obtain⟨v,ps,hrun,hv⟩:=g1.lookup law3 underlying180 (zero177 w) (zd:=.held .nilFunc) (zp:=[]) rfl (key3 x h1 h5);rw[g3 x h1 h5]at hv;obtain rfl:v=p x:=by
  unfold asIs at hv;simp at hv;exact hv.1
 exact hrun
theorem sp.store{w:World}{b n:Nat}{p:Int->Value}(h:sp w b n p)(hn:n<maxLen)(x:Int)(h1:1<=x)(h5:x<=5)(F:Value):∃w',(Instr.mapUpdate 180 (.map (some b)) (.int .i64 x) F).run prog w=.ok () w'/\sp w' b (n+1) (fun y=>if y=x then F else p y)/\w.grownBy w' (some b):=by
 obtain⟨D,g1,g2,g3⟩:=h;obtain⟨w',hrun,r1,r2⟩:=g1.update law3 underlying180 hn (key3 x h1 h5) (d:=.held F) (ps:=[]) rfl;refine⟨w',hrun,⟨_,r1,g2.put _ _,fun y y1 y5=>?_⟩,r2⟩;by_cases he:y=x
 ·subst he
  rw[atKey_put_same g2 (law3.key (key3 y y1 y5))];show _=DataW.held (if y=y then F else p y);rw[if_pos rfl]
 ·have hne:(Lit.int .i64 y)≠(Lit.int .i64 x):=fun e=>he (by cases e;rfl)
  rw[atKey_put_other hne,g3 y y1 y5];show _=DataW.held (if y=x then F else p y);rw[if_neg he]
theorem nw(w:World){ops:Array Oper}{rest:List Oper}{o:Oper}{a:Act}{Q:Exit->Act->World->Prop}(hg:o.guard=none)(m x v:Operand)(hop:o.op=Op.mapUpdate 180 m x v\/o.op=Op.insert 180 m x v)
 {b n:Nat} {p:Int->Value} (hm:a.eval m=.map (some b)) (hM:sp w b n p) (hn:n<maxLen) (y:Int) (h1:1<=y) (h5:y<=5) (F:Value) (hx:a.eval x=.int .i64 y) (hv:a.eval v=F)
 (hK:∀w',sp w' b (n+1) (fun z=>if z=y then F else p z)->w.grownBy w' (some b)->wpList prog ops Q rest (a.put o.dst undef) w'):
 wpList prog ops Q (o::rest) a w:=by
 refine wpList_plain hg fun K' hK'=>?_
 obtain⟨w',hrun,r1,r2⟩:=hM.store hn y h1 h5 F;unfold Oper.wp;rcases hop with hop|hop
 all_goals
  simp only[execOp,hop,hm,hx,hv,hrun,Result.andThen,Sem.run_bind,Sem.run_pure];exact hK' _ _ (hK w' r1 r2)
abbrev af2(f p:Value)(n:Int):Obj:=.cells #[f,p,.int .i64 n] 183
theorem Ex.grow{S:List Nat}{a b c:World}{r:Nat}(h:Ex S a b)(k:b.grownBy c (some r))(hr:r∈S:=by simp):Ex S a c:=
 ⟨k.os.trans h.os,k.tape.trans h.tape,k.output.trans h.output,ba h.size k.size,fun i hi hn=>(k.block i (az hi h.size) (fun e=>hn (by cases e;exact hr))).trans (h.block i hi hn)⟩
end
section
set_option maxRecDepth 100000
set_option maxHeartbeats 4000000
open Go.RowKit Go.Shelf
structure SrchC(w:World)(S own sb nx kb:Nat)(ad:Option Addr)(n cap:Nat)(K:Int):Prop where
 own_:At w own (.cells #[.slice ad n cap,.int .i64 K] 52)
 sb_:At w sb (.cells #[.pointer (some ⟨S,0,none⟩)] 72)
 nx_:At w nx (.cells #[.int .i64 0] 3)
 kb_:At w kb (.cells #[.int .i64 0] 3)
 d1:own≠nx
 d2:sb≠nx
 d3:kb≠nx
theorem aqj{w:World}{base:Nat}{e:TypeId}{size n cap:Nat}{ad:Option Addr}{xs:List Value}(h:w.ownsRow base e size (.slice ad n cap) n xs):∀a,ad=some a->base<=a.block:=by
 intro a ha;rcases h.2 with⟨hv,_⟩|⟨g,c,cur,hv,hb,_⟩
 ·cases hv;cases ha
 ·cases hv;cases ha;exact hb
theorem fm.ex{w w':World}{ad:Option Addr}{n:Nat}{L:Nat->Nat->Bool}{T:List Nat}(h:fm w ad n L w.heap.size)(hb:Ex T w w')(hn:∀a,ad=some a->a.block∉T):fm w' ad n L w'.heap.size:=by
 rcases h with h|⟨b,o,ha,hlt,hc⟩
 ·exact .inl h
 ·refine .inr ⟨b,o,ha,az hlt hb.size,fun j hj=>?_⟩
  obtain⟨e0,e1,e2,e3⟩:=hc j hj;have k:=fun i=>hb.cell hlt (hn _ ha) i
  exact⟨(k _).trans e0,(k _).trans e1,(k _).trans e2,(k _).trans e3⟩
theorem SrchC.ex{w w':World}{S own sb nx kb:Nat}{ad:Option Addr}{n cap:Nat}{K:Int}{T:List Nat}(h:SrchC w S own sb nx kb ad n cap K)(hb:Ex T w w')(hn:own∉T/\sb∉T/\nx∉T/\kb∉T):SrchC w' S own sb nx kb ad n cap K:=
 ⟨h.own_.ex hb hn.1,h.sb_.ex hb hn.2.1,h.nx_.ex hb hn.2.2.1,h.kb_.ex hb hn.2.2.2,h.d1,h.d2,h.d3⟩
end
section
set_option maxRecDepth 100000
set_option maxHeartbeats 8000000
open Go.RowKit Go.Shelf
theorem gg.rd{w:World}{ad:Option Addr}{l:List Int}{m:Nat}(h:gg w ad l.length (gi l) m)(hm:m<=w.heap.size):l.length=0\/∃b o,ad=some ⟨b,o,none⟩/\b<w.heap.size/\∀(j:Nat)u,(ga l)[j]?=some u->w.cell? ⟨b,o+j,none⟩=some u:=by
 rcases h with h|⟨b,o,ha,hlt,hc⟩
 ·exact .inl h
 ·refine .inr ⟨b,o,ha,by omega,fun j u hj=>?_⟩
  have hlt:j<l.length:=by
   rcases Nat.lt_or_ge j l.length with h|h
   ·exact h
   ·rw[eb (by rw[iw];exact h)]at hj;cases hj
  rw[acp l j hlt]at hj;cases hj;exact hc j hlt
theorem gg.tl{w:World}{b o m:Nat}{x:Int}{l:List Int}(h:gg w (some ⟨b,o,none⟩) (x::l).length (gi (x::l)) m):gg w (some ⟨b,o+1,none⟩) l.length (gi l) m:=by
 rcases h with h|⟨b',o',ha,hlt,hc⟩
 ·simp at h
 ·cases ha
  refine .inr ⟨b,o+1,rfl,hlt,fun j hj=>?_⟩;have:=hc (j+1) (by simp;omega);rw[show o+1+j=o+(j+1) by omega];exact this
structure qr(w:World)(lo fp:Nat)(t:ByteArray)(ps:List Int)(fr to:Nat)(en:Int):Prop where
 st:abw w fp t ps fr to en
 at_:∃ad cap,At w fp (feedC t ad ps.length cap fr to en)/\(ps.length=0\/∃b o,ad=some ⟨b,o,none⟩/\lo<=b)
 le:lo<=fp
theorem qr.keep{w w':World}{lo fp:Nat}{t:ByteArray}{ps:List Int}{fr to:Nat}{en:Int}(h:qr w lo fp t ps fr to en)(hb:∀i,lo<=i->i<=fp->w'.heap[i]?=w.heap[i]?):qr w' lo fp t ps fr to en:=by
 obtain⟨⟨⟨ad,cap,hA,hR,hc⟩,h4,h5⟩,⟨ad2,cap2,hA2,hlo⟩,hle⟩:=h;have hA':At w' fp (feedC t ad ps.length cap fr to en):=(hb fp hle ac).trans hA;have he:ad2=ad:=by
  unfold At at hA hA2;rw[hA]at hA2;injection hA2 with e;injection e with e1 e2;injection e1 with e1;injection e1 with e3 e4;injection e4 with e5 e6;injection e5 with e7 e8 e9;exact e7.symm
 subst he;refine⟨⟨⟨ad2,cap,hA',?_,hc⟩,h4,h5⟩,⟨ad2,cap,hA',hlo⟩,hle⟩;rcases hlo with h0|⟨b,o,rfl,hb1⟩
 ·exact .inl h0
 ·rcases hR with h0|⟨b',o',ha,hlt,hc⟩
  ·exact .inl h0
  ·cases ha
   refine .inr ⟨b,o,rfl,hlt,fun j hj=>?_⟩;rw[World.cell?_of_block (hb b hb1 (dj hlt))];exact hc j hj
theorem qr.below{w w':World}{lo fp:Nat}{t:ByteArray}{ps:List Int}{fr to:Nat}{en:Int}(h:qr w lo fp t ps fr to en)(hb:Below w.heap.size w w'):qr w' lo fp t ps fr to en:=
 h.keep fun i _ hi=>hb.block i (Nat.lt_of_le_of_lt hi (by obtain⟨ad,cap,h1,_⟩:=h.at_;exact h1.lt))
theorem aek(t:ByteArray)(ht:t.size<=1000)(ps:List Int)(hp:ps.length<=1000)(fl en:Int)(to:Nat)(hf:to<=t.size)(hc:(en=2/\fl=(to:Nat))\/(en=1/\fl= -1/\to=t.size))(ad:Option Addr)(cap:Nat)(w:World)(hR:gg w ad ps.length (gi ps) w.heap.size):
 Calls prog 27 #[.string t,.slice ad ps.length cap,.int .i64 fl] w fun e w'=>∃fp,e=.returned (.pointer (some ⟨fp,0,none⟩))/\qr w' w.heap.size fp t ps 0 to en/\Below w.heap.size w w':=by
 have h1:=aa (za ad ps.length cap (ga ps) (by omega) (by rw[iw];omega) (by intro u hu;obtain⟨x,_,rfl⟩:=List.mem_map.1 hu;rfl) w (hR.rd ac));have htI:(t.size:Int)<=1000:=by omega
 have hfI:(to:Int)<=t.size:=by omega
 have hf0:(0:Int)<=to:=by omega
 clear hR;rcases hc with⟨rfl,rfl⟩|⟨rfl,rfl,rfl⟩
 all_goals(go_enter func27,ntmps27)
 all_goals(go_wp2_with(go_at_call 59;refine h1.out.mono ?_;rintro e w1⟨v1,rfl,ho1,hb1⟩;have hcap:=ho1.2;obtain⟨ad1,cap1,rfl⟩:=ey ho1;have HO1:=aa ho1;have HC:=aa hcap;have HB1:=aa hb1;clear ho1 hcap hb1))
 all_goals go_ret
 all_goals
  have hb:=fun o=>(aw w1.heap.size w1).alloc ac o
  have hcc:ps.length<=cap1:=by
   rcases HC.out with⟨h,h0⟩|⟨g,c,cur,h,_,_,hn,_⟩
   ·omega
   ·cases h;exact hn
  refine⟨w1.heap.size,rfl,⟨⟨⟨ad1,cap1,At.new w1 _,(kc HO1.out).below (hb _) ac,hcc⟩,cx _,hf⟩,⟨ad1,cap1,At.new w1 _,?_⟩,HB1.out.size⟩,HB1.out.trans ((hb _).mono HB1.out.size)⟩;rcases HC.out with⟨h,h0⟩|⟨g,c,cur,h,hg,_,hn,_⟩
  ·exact .inl h0
  ·cases h;exact .inr ⟨g,0,rfl,hg⟩
theorem apy(lo fp:Nat)(t:ByteArray)(ht:t.size<=1000)(ps:List Int)(hp:ps.length<=1000)(fr to:Nat)(hlt:fr<to)(en:Int)(w:World)(h:qr w lo fp t ps fr to en):
 Calls prog 60 #[.pointer (some ⟨fp,0,none⟩)] w fun e w'=>e=.returned (.tuple #[.string (t.extract fr (fr+rdN ps (to-fr))),.int .i64 0])/\qr w' lo fp t ps.tail (fr+rdN ps (to-fr)) to en/\Ex [fp] w w':=by
 obtain⟨⟨⟨ad,cap,ha,hR,hcap⟩,-,hto⟩,⟨ad2,cap2,hA2,hlo⟩,hlf⟩:=h;have he:ad2=ad:=by
  unfold At at ha hA2;rw[ha]at hA2;injection hA2 with e;injection e with e1 e2;injection e1 with e1;injection e1 with e3 e4;injection e4 with e5 e6;injection e5 with e7 e8 e9;exact e7.symm
 subst he;clear hA2;have htI:(t.size:Int)<=1000:=by omega
 have hfI:(fr:Int)<=1000:=by omega
 have htoI:(to:Int)<=t.size:=by omega
 have hltI:((fr:Int)==to)=false:=by rw[ax];omega
 have c0:=ha.cell 0;have c1:=ha.cell 1;have c2:=ha.cell 2;have c3:=ha.cell 3;have c4:=ha.cell 4;have fz1:=ha.free 1;have fz:=ha.free 2;have hl:=ha.lt;simp only[ak,am,au]at c0 c1 c2 c3 c4;have heq:=akr;have hd1:(to:Int)-fr=((to-fr:Nat):Int):=by omega
 cases ps with
 |nil=>
  have hn:fr+rdN [] (to-fr)=to:=by simp only[rdN];omega
  rw[hn];have haA:=(ha.set 2 (.int .i64 (to:Nat))).alloc (.cells #[.int .i64 to,.int .i64 to] 130);have hE:=((Ex.refl [fp] w).set fp 2 (.int .i64 (to:Nat)) (by simp)).alloc (.cells #[.int .i64 to,.int .i64 to] 130);have HA:=aa haA;have HE:=aa hE;have hs:(fr:Int)+((to-fr:Nat):Int)=(to:Nat):=by omega
  clear ha haA hE hR;go_enter func60,ntmps60;go_wp2_with fail
  go_region;go_wp2_with fail
  go_region;go_wp2_with fail
  go_region;go_wp2_with fail
  go_ret2
  exact⟨rfl,⟨⟨⟨ad2,cap,HA.out,.inl rfl,cx _⟩,ac,hto⟩,⟨ad2,cap,HA.out,.inl rfl⟩,hlf⟩,HE.out.drew.drew.drew⟩
 |cons p ps=>
  obtain⟨b,o,rfl,hb,e0⟩:=hR.at (show 0<(p::ps).length by simp);have hR':=aa hR.tl;have HLo:Hid (lo<=b):=aa (by
   rcases hlo with h|⟨b',o',h,h2⟩
   ·simp at h
   ·cases h;exact h2)
  clear hlo;have hbl:b<w.heap.size:=by omega
  have e0':w.cell? ⟨b,o,none⟩=some (.int .i64 p):=e0;have hcp:ps.length+1<=cap:=hcap;have hcl:ps.length+1<=1000:=hp;have hlen:((p::ps).length:Int)=(ps.length:Int)+1:=by simp
  have hNE:fp≠b:=by omega
  clear hR e0;obtain⟨D,hD⟩:∃D,D=((to-fr:Nat):Int):=⟨_,rfl⟩;obtain⟨N,hN⟩:∃N,N=rdN (p::ps) (to-fr):=⟨_,rfl⟩;have hNv:(N:Int)=max 0 (min D p):=by rw[hN,hD];simp only[rdN];omega
  have hNl:N<=to-fr:=by rw[hN];exact apz _ _
  rw[<-hN];rw[<-hD]at hd1;have HNv:=aa hNv;have HDv:=aa hD;have hDb:D<=1000:=by omega
  clear hN hNv hD;have HA1:=aa fun(a':Option Addr)(c':Nat)(x:Int)=>((ha.set 1 (.slice a' ps.length c')).set 2 (.int .i64 x)).alloc (.cells #[.int .i64 to,.int .i64 to] 130)
  have HE1:=aa fun(a':Option Addr)(c':Nat)(x:Int)=>(((Ex.refl [fp] w).set fp 1 (.slice a' ps.length c') (by simp)).set fp 2 (.int .i64 x) (by simp)).alloc (.cells #[.int .i64 to,.int .i64 to] 130)
  have HR1:=aa fun(a':Option Addr)(c':Nat)(x:Int)=>hR'.out.below ((((aw fp w).setCell (p:=⟨fp,1,none⟩) ac (.slice a' ps.length c')).setCell (p:=⟨fp,2,none⟩) ac (.int .i64 x)).alloc (by simpa using dj hl) (.cells #[.int .i64 to,.int .i64 to] 130)) ac
  by_cases h1:p<=0
  ·have hm:min D p=p:=by omega
   have hm2:max 0 p=0:=by omega
   obtain rfl:N=0:=by have:=HNv.out;omega
   have he0:t.extract fr (fr+0)=ByteArray.empty:=by simp
   rw[he0];clear ha;go_enter func60,ntmps60;go_wp2_with fail
   go_region;go_wp2_with fail
   go_region;go_wp2_with fail
   go_region;go_wp2_with fail
   all_goals go_ret2
   ·have hp0:ps.length=0:=by omega
    exact⟨rfl,⟨⟨⟨_,_,HA1.out _ _ _,.inl hp0,by omega⟩,by omega,hto⟩,⟨_,_,HA1.out _ _ _,.inl hp0⟩,hlf⟩,(HE1.out _ _ _).drew.drew.drew⟩
   ·exact⟨rfl,⟨⟨⟨_,_,HA1.out _ _ _,HR1.out _ _ _,by omega⟩,by omega,hto⟩,⟨_,_,HA1.out _ _ _,.inr ⟨_,_,rfl,HLo.out⟩⟩,hlf⟩,(HE1.out _ _ _).drew.drew.drew⟩
  ·by_cases h2:p<D
   ·have hm:min D p=p:=by omega
    have hm2:max 0 p=p:=by omega
    have hs:(fr:Int)+p=((fr+N:Nat):Int):=by have:=HNv.out;omega
    have hpb:p<=1000:=by omega
    clear ha;go_enter func60,ntmps60;go_wp2_with fail
    go_region;go_wp2_with fail
    go_region;go_wp2_with fail
    go_region;go_wp2_with fail
    all_goals go_ret2
    ·have hp0:ps.length=0:=by omega
     exact⟨rfl,⟨⟨⟨_,_,HA1.out _ _ _,.inl hp0,by omega⟩,by omega,hto⟩,⟨_,_,HA1.out _ _ _,.inl hp0⟩,hlf⟩,(HE1.out _ _ _).drew.drew.drew⟩
    ·exact⟨rfl,⟨⟨⟨_,_,HA1.out _ _ _,HR1.out _ _ _,by omega⟩,by omega,hto⟩,⟨_,_,HA1.out _ _ _,.inr ⟨_,_,rfl,HLo.out⟩⟩,hlf⟩,(HE1.out _ _ _).drew.drew.drew⟩
   ·have hm:min D p=D:=by omega
    have hm2:max 0 D=D:=by omega
    have hs:(fr:Int)+D=((fr+N:Nat):Int):=by have:=HNv.out;omega
    clear ha;go_enter func60,ntmps60;go_wp2_with fail
    go_region;go_wp2_with fail
    go_region;go_wp2_with fail
    go_region;go_wp2_with fail
    all_goals go_ret2
    ·have hp0:ps.length=0:=by omega
     exact⟨rfl,⟨⟨⟨_,_,HA1.out _ _ _,.inl hp0,by omega⟩,by omega,hto⟩,⟨_,_,HA1.out _ _ _,.inl hp0⟩,hlf⟩,(HE1.out _ _ _).drew.drew.drew⟩
    ·exact⟨rfl,⟨⟨⟨_,_,HA1.out _ _ _,HR1.out _ _ _,by omega⟩,by omega,hto⟩,⟨_,_,HA1.out _ _ _,.inr ⟨_,_,rfl,HLo.out⟩⟩,hlf⟩,(HE1.out _ _ _).drew.drew.drew⟩
end
end Go.Proofs.YtjfkmoinldlmaaaGreat
