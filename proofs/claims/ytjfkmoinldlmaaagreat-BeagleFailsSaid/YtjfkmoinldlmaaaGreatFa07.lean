/- The walk of BeagleFails, part 7. append in regions that draw; rows of classes and numbers as cells; walks of leaf.Text and ref Text. Walk of naive.misses. Rows of numbers as lists; walks of naive.Hits and of beagleref08: Hits, At, Counts, Find, First. Leaves in plain terms: free elements, letters, places, kinds; rows of classes as lists. Walks of the leaf package and of beagleref07: free, Plain, Same, Classes, slices.Equal. How far a text goes on like another one, from each of its places: plain. Where a text stands in another one, by its rows: plain. Plain: the tokens of a query's text and its trees, as relations; each tells one answer at most. -/
import Derived.Test.YtjfkmoinldlmaaaGreatFa05
import Derived.Deep.RegionLaw
namespace Go.Proofs.YtjfkmoinldlmaaaGreat
open Go.Proofs.Tryz
section
set_option maxRecDepth 100000
set_option maxHeartbeats 4000000
open Go.RowKit
theorem aao{T E size bytes base:Nat}(hE:mi T E size bytes){ops:Array Oper}{o:Oper}{a:Act}{K:Act->World->Prop}{Q:Exit->Act->World->Prop}{E':Prop}(hgd:o.guard=none)(s x:Operand)
 (ho:o.op=.call {callee:=.builtin .append,args:=#[s,x],argTypes:=#[T,T]})
 {v:Value} {n:Nat} {xs:List Value} (hs:a.eval s=v) {w0:World} (hown:w0.ownsRow base E size v n xs) (nc:List Value)
 (hx:a.eval x=.slice (some ⟨w0.heap.size,0,none⟩) 1 1) (hl:nc.length=size) (h1:∀u∈nc,u.oneCell'=true) (hn:n+1<=maxLen) (hbytes:(n+1)*bytes<=140737488355328) (hbase:base<=w0.heap.size)
 (h:∀v' w',w'.ownsRow base E size v' (n+1) (xs++nc)->Below base w0 w'->K (a.put o.dst v') w'):
 if Region.wanted o (yielded ops a.tmps)=true then Oper.wp prog o a (w0.alloc (.cells nc.toArray E)) K Q else E':=by
 have hw:Region.wanted o (yielded ops a.tmps)=true:=by simp[Region.wanted,hgd]
 rw[if_pos hw];obtain⟨i,z,ht,hi,hz,hsize,hby,hzs,hsz⟩:=hE;have hnews:∀(j:Nat)u,nc[j]?=some u->(w0.alloc (.cells nc.toArray E)).cell? ((⟨w0.heap.size,0,none⟩:Addr).add j)=some u:=by
  intro j u hj;have e:(⟨w0.heap.size,0,none⟩:Addr).add j=⟨w0.heap.size,j,none⟩:=by unfold Addr.add;split<;>simp_all
  rw[e,World.cell?_alloc_new];simpa using hj
 obtain⟨v',w',hr,h2,h3,_,_⟩:=run_append_own_at (P:=prog) (w0.alloc (.cells nc.toArray E)) base T o.type E i z size bytes ht hi hz hsize hby hzs hsz v n xs (hown.alloc _) ⟨w0.heap.size,0,none⟩ 1 1 nc (by omega) hnews h1 hn hbytes (by simp;omega);unfold Oper.wp execOp;simp only[ho,resolve,invoke,builtin,Sem.run_bind,Sem.run_pure,Result.andThen_ok,List.map_toArray,List.map_cons,List.map_nil,hs,hx,hr];refine h v' w' h2 ?_;have hlt:=(hown.alloc (.cells nc.toArray E)).lt;exact((aw base w0).alloc hbase _).trans (ib h3 (by simp;omega) fun k hk=>(hlt k hk).1)
theorem ajo(n:Nat){args:Array Operand}{tys:Array TypeId}{ops:Array Oper}{o:Oper}{a:Act}{w:World}{K:Act->World->Prop}{Q:Exit->Act->World->Prop}{E':Prop}(_:o.op=.call {callee:=.value (.func n),args:=args,argTypes:=tys})
 (h:if Region.wanted o (yielded ops a.tmps)=true then Oper.wp prog o a w K Q else E'):if Region.wanted o (yielded ops a.tmps)=true then Oper.wp prog o a w K Q else E':=h
def i7(L:Nat->Nat->Bool):Nat->List Value
 |0=>[]
 |k+1=>i7 L k++[.int .u64 (wd (L k) 0:Nat),.int .u64 (wd (L k) 1:Nat),.int .u64 (wd (L k) 2:Nat),.int .u64 (wd (L k) 3:Nat)]
theorem su(L:Nat->Nat->Bool)(n:Nat):(i7 L n).length=n*4:=by
 induction n with
 |zero=>rfl
 |succ n ih=>simp only[i7,bd,bz,List.length_nil,ih];omega
theorem tq(L:Nat->Nat->Bool)(n j:Nat)(hj:j<n):(i7 L n)[j*4]?=some (.int .u64 (wd (L j) 0:Nat))/\(i7 L n)[j*4+1]?=some (.int .u64 (wd (L j) 1:Nat))∧
 (i7 L n)[j*4+2]?=some (.int .u64 (wd (L j) 2:Nat))/\(i7 L n)[j*4+3]?=some (.int .u64 (wd (L j) 3:Nat)):=by
 induction n with
 |zero=>omega
 |succ n ih=>
  have hl:=su L n;simp only[i7];by_cases he:j=n
  ·subst he
   refine⟨?_,?_,?_,?_⟩<;>rw[ef (by omega),hl]<;>simp
  ·obtain⟨h0,h1,h2,h3⟩:=ih (by omega)
   refine⟨?_,?_,?_,?_⟩<;>rw[ek (by omega)]<;>assumption
theorem yq{w:World}{base n cap:Nat}{ad:Option Addr}{L:Nat->Nat->Bool}(h:w.ownsRow base 100 4 (.slice ad n cap) n (i7 L n)):fm w ad n L w.heap.size:=by
 rcases ed n with h0|h0
 ·exact .inl h0
 ·obtain⟨g,cp,hv,_,hlt⟩:=oa h h0
  cases hv;refine .inr ⟨g,0,rfl,hlt,fun j hj=>?_⟩;obtain⟨e0,e1,e2,e3⟩:=tq L n j hj;rw[dg];have hl:=su L n;have key:∀i x,(i7 L n)[i]?=some x->w.cell? ⟨g,i,none⟩=some x:=fun i x hx=>by
   have hi:i<(i7 L n).length:=by
    rcases Nat.lt_or_ge i (i7 L n).length with h|h
    ·exact h
    ·rw[eb h]at hx;cases hx
   rw[h.cellAt i (by omega)];exact hx
  exact⟨key _ _ e0,key _ _ e1,key _ _ e2,key _ _ e3⟩
theorem ey{w:World}{base:Nat}{e:TypeId}{size n:Nat}{v:Value}{xs:List Value}(h:w.ownsRow base e size v n xs):∃ad cap,v=.slice ad n cap:=by
 rcases h.2 with⟨rfl,rfl⟩|⟨g,cap,cur,hv,_⟩
 ·exact⟨_,_,rfl⟩
 ·exact⟨_,_,hv⟩
def ke(s:ByteArray)(j:Nat):Nat->Bool:=fun n=>decide ((s.data.toList[j]?.map fun c=>c.toNat)=some n)
theorem fk.set{w:World}{B:Nat}{ad:Option Addr}{n cap:Nat}{K:Int}(h:fk w B ad n cap K)(ad':Option Addr)(n' cap':Nat):fk (w.setCell ⟨B,0,none⟩ (.slice ad' n' cap')) B ad' n' cap' K:=by
 obtain⟨h0,h1,hl⟩:=h;refine⟨?_,?_,?_⟩<;>simp[go_sem,h0,h1,hl]
theorem age(s:ByteArray)(k:Nat)(hk:k<s.size):(s.extract k (k+1)).data.toList=[s[k]]:=by
 have h:k<s.data.toList.length:=by simpa using hk
 rw[ByteArray.data_extract,Array.toList_extract,List.extract_eq_take_drop,show k+1-k=1 by omega,ev h,List.take_succ_cons,List.take_zero];rfl
theorem asg(s:ByteArray)(k:Nat)(hk:k<s.size):kq (s.extract k (k+1)) (s.extract k (k+1)).size=ke s k:=by
 have h:k<s.data.toList.length:=by simpa using hk
 funext n;unfold kq ke;rw[age s k hk,bs h,show(s.extract k (k+1)).size=1 by simp;omega];simp;rfl
theorem of_byte(s:ByteArray)(k:Nat)(hk:k<s.size)(w:World):
 Calls prog 43 #[.string (s.extract k (k+1))] w fun e w'=>e=.returned (cv (ke s k))/\Below w.heap.size w w':=by
 have h:=aid (s.extract k (k+1)) (by simp;omega) w;rw[asg s k hk]at h;exact h
theorem aoy(s:ByteArray)(hs:s.size<=1000)(K:Int)(w:World):
 Calls prog 18 #[.string s,.int .i64 K] w fun e w'=>∃ad cap,e=.returned (lv ad s.size cap K)/\w'.ownsRow w.heap.size 100 4 (.slice ad s.size cap) s.size (i7 (ke s) s.size)/\Below w.heap.size w w':=by
 go_enter func18,ntmps18;go_wp2_with fail
 obtain⟨W0,hW0⟩:∃W0:World,(w.alloc (.cells #[.slice none 0 0,.int .i64 0] 52)).alloc (.cells #[.slice none 0 0,.int .i64 K] 52)=W0:=⟨_,rfl⟩;have HB:Below w.heap.size w W0:=by subst hW0;exact(ae.alloc ac _).alloc (by simp) _
 have hsz:W0.heap.size=w.heap.size+2:=by subst hW0;simp
 have hl:fk W0 (w.heap.size+1) none 0 0 K:=by subst hW0;have:=fk.new (w.alloc (.cells #[.slice none 0 0,.int .i64 0] 52)) none 0 0 K;rwa[bg]at this
 have hf:W0.frozen? ⟨w.heap.size+1,0,none⟩=false:=by subst hW0;simp[go_sem]
 have r0:W0.cell? ⟨w.heap.size,0,none⟩=some (.slice none 0 0):=by subst hW0;simp[go_sem]
 have r1:W0.cell? ⟨w.heap.size,1,none⟩=some (.int .i64 0):=by subst hW0;simp[go_sem]
 have g0:W0.frozen? ⟨w.heap.size,0,none⟩=false:=by subst hW0;simp[go_sem]
 have g1:W0.frozen? ⟨w.heap.size,1,none⟩=false:=by subst hW0;simp[go_sem]
 rw[hW0];clear hW0;go_loopw[11] (fun i wr=>∃(k:Nat)(ad:Option Addr)(cap:Nat),k<=s.size/\i=.int .i64 k/\fk wr (w.heap.size+1) ad k cap K/\wr.frozen? ⟨w.heap.size+1,0,none⟩=false/\wr.ownsRow (w.heap.size+2) 100 4 (.slice ad k cap) k (i7 (ke s) k)/\Below (w.heap.size+1) W0 wr) (fun i _=>s.size-(intOf i).toNat)
 case atStart=>exact⟨0,none,0,by omega,rfl,hl,hf,bj _ _ _ _,ae⟩
 case round=>
  obtain⟨k,ad,cap,hk,rfl,hc,hfr,hown,hb⟩:=hrel;by_cases hlt:k<s.size
  ·have hkk:(0:Int)<=k:=by omega
   have hk1:(k:Int)+1<=s.size:=by omega
   have hw:IntKind.i64.wrap ((k:Int)+1)=k+1:=by rw[ci];omega
   have htn:((k:Int)+1).toNat=k+1:=by omega
   have hp1:(0:Int)<=(k:Int)+1:=by omega
   have hp2:(k:Int)<=(k:Int)+1:=by omega
   have hc':=aa hc;have hown':=aa hown;obtain⟨c0,c1,cl⟩:=hc;go_wp2_with fail
   go_region_law(first|((refine aao ot (by with_reducible rfl) (.tmp 15) (.tmp 22) (by with_reducible rfl) (v:=.slice ad k cap) (n:=k) (xs:=i7 (ke s) k) (base:=w.heap.size+2) (w0:=w1) (by rfl) hown1 [.int .u64 (wd (ke s k) 0:Nat),.int .u64 (wd (ke s k) 1:Nat),.int .u64 (wd (ke s k) 2:Nat),.int .u64 (wd (ke s k) 3:Nat)] (by rfl) (by rfl) (by simp[Value.oneCell']) (by unfold maxLen;omega) (by omega) (by simp at hz1;omega) ?_;intro v3 w3 hown3 hb3;obtain⟨ad3,cap3,rfl⟩:=ey hown3;have hc3:=fk.below hc1 hb3 (by omega);have hf3:=(hb3.frozen (p:=⟨w.heap.size+1,0,none⟩) (by simp)).trans hf1))|((refine ajo 43 (by with_reducible rfl) ?_;go_simp;go_at_call 43;refine(of_byte s k hlt _).mono ?_;rintro e w1⟨rfl,hb1⟩;have hc1:=fk.below (w:=wr.drew) hc'.out hb1 cl;have hf1:=(hb1.frozen (p:=⟨w.heap.size+1,0,none⟩) cl).trans hfr;have hown1:=fe hown'.out.drew hb1;have hz1:=hb1.size;dsimp only)))
   all_goals go_wp2
   all_goals exact⟨⟨k+1,ad3,cap3,by omega,by go_num,fk.set hc3 _ _ _,by rw[de];exact hf3,ownsRow_setCell_below hown3 (by simp) _,
    (((hb.trans (aw _ wr).drew).trans (hb1.mono (dj cl))).trans (hb3.mono (by omega))).setCell (p:=⟨w.heap.size+1,0,none⟩) ac _⟩,by simp[intOf];omega⟩
  ·obtain rfl:k=s.size:=by omega
   have hr0:=(hb.cell (p:=⟨w.heap.size,0,none⟩) (by simp)).trans r0;have hr1:=(hb.cell (p:=⟨w.heap.size,1,none⟩) (by simp)).trans r1;have hg0:=(hb.frozen (p:=⟨w.heap.size,0,none⟩) (by simp)).trans g0;have hg1:=(hb.frozen (p:=⟨w.heap.size,1,none⟩) (by simp)).trans g1;have hB:=HB.trans (hb.mono (by omega));clear r0 r1 g0 g1 hl hf;have hown0:=fx (base':=w.heap.size+1) hown (by omega);go_wp2;exact ay (v:=lv ad s.size cap K) (by simp[results,results18,go_sem,hr0,hr1]) rfl ⟨ad,cap,rfl,fx (ownsRow_setCell_below (ownsRow_setCell_below hown0 (by simp) _) (by simp) _) (by omega),(hB.setCell (p:=⟨w.heap.size,0,none⟩) ac _).setCell (p:=⟨w.heap.size,1,none⟩) ac _⟩
end
section
set_option maxRecDepth 100000
set_option maxHeartbeats 4000000
open Go.RowKit
def tb(t:ByteArray)(m:Nat):Nat:=((t.data.toList[m]?).map fun c=>c.toNat).getD 0
theorem ia(t:ByteArray)(m:Nat)(hm:m<t.size):t[m].toNat=tb t m:=by
 have h:m<t.data.toList.length:=by simpa using hm
 unfold tb;rw[bs h];rfl
theorem jq(t:ByteArray)(m:Nat):tb t m<=255:=by
 unfold tb;cases h:t.data.toList[m]? with
 |none=>simp
 |some c=>simp;have:=c.toNat_lt;omega
def ky(t:ByteArray)(L:Nat->Nat->Bool)(i:Nat):Nat->Nat
 |0=>0
 |k+1=>ky t L i k+(if L k (tb t (i+k))then 0 else 1)
theorem aif(t:ByteArray)(L:Nat->Nat->Bool)(i k:Nat):ky t L i k<=k:=by
 induction k with
 |zero=>exact ac
 |succ k ih=>simp only[ky];split<;>omega
theorem aq0(t:ByteArray)(L:Nat->Nat->Bool)(i:Nat){k n:Nat}(h:k<=n):ky t L i k<=ky t L i n:=by
 induction h with
 |refl=>exact ac
 |step _ ih=>simp only[ky];omega
theorem abe(S:Nat->Bool)(t:ByteArray)(m:Nat)(hm:m<t.size){b:Bool}(hq:S (tb t m)=b)(w:World):
 Calls prog 96 #[cv S,.int .u8 (t[m].toNat:Nat)] w fun e w'=>e=.returned (.bool b)/\Below w.heap.size w w':=by
 have h:=xc S (t[m].toNat:Nat) (by omega) (by have:=t[m].toNat_lt;omega) w;rw[Int.toNat_natCast,ia t m hm,hq]at h;rw[ia t m hm];exact h
theorem ajt(S:Nat->Bool)(t:ByteArray)(m:Nat)(hm:m<t.size){b:Bool}(hq:S (tb t m)=b)(w:World):
 Calls prog 173 #[cv S,.int .u8 (t[m].toNat:Nat)] w fun e w'=>e=.returned (.bool b)/\Below w.heap.size w w':=by
 have h:=afg S (t[m].toNat:Nat) (by omega) (by have:=t[m].toNat_lt;omega) w;rw[Int.toNat_natCast,ia t m hm,hq]at h;rw[ia t m hm];exact h
theorem aie(ad:Option Addr)(n cap:Nat)(K:Int)(L:Nat->Nat->Bool)(t:ByteArray)(ht:t.size<=140737488351232)(i:Nat)(hi:i+n<=t.size)(most:Int)(w:World)(hR:fm w ad n L w.heap.size):
 Calls prog 139 #[lv ad n cap K,.string t,.int .i64 (i:Nat),.int .i64 most] w fun e w'=>(∃r:Nat,e=.returned (.int .i64 (r:Nat))/\((ky t L i n:Int)<=most->r=ky t L i n)/\(most<(ky t L i n:Int)->most<(r:Int)))/\Below w.heap.size w w':=by
 have hl:=fk.new w ad n cap K;go_enter func139,ntmps139;go_wp2_with fail
 obtain⟨W0,hW0⟩:∃W0:World,w.alloc (.cells #[.slice ad n cap,.int .i64 K] 52)=W0:=⟨_,rfl⟩;have HB:Below w.heap.size w W0:=by subst hW0;exact ae.alloc ac _
 have hR0:=hR.below HB ac;rw[hW0]at hl⊢;clear hW0 hR;go_step3;go_wp2;go_step3;go_wp2;have l0:=hl.2.2;clear hl;go_loopw[9,15] (fun c j wr=>∃k:Nat,k<=n/\j=.int .i64 k/\c=.int .i64 (ky t L i k:Nat)/\(k=0\/(ky t L i k:Int)<=most)/\fo W0 wr) (fun _ j _=>n-(intOf j).toNat)
 case atStart=>exact⟨0,by omega,rfl,rfl,.inl rfl,fo.refl _⟩
 case round=>
  obtain⟨k,hk,rfl,rfl,hm,hO⟩:=hrel;have hR1:=hR0.below hO.2.2.2 (dj l0);have HB1:=HB.trans (hO.2.2.2.mono HB.size);have hz:=hO.2.2.1;have HO:=aa hO;have HM:=aa hm;clear hO hm;by_cases hlt:k<n
  ·obtain⟨b,o,rfl,hb,e0,e1,e2,e3⟩:=hR1.at hlt
   clear hR1 hR0;have hlti:(k:Int)<n:=by omega
   have hin:i+k<t.size:=by omega
   have hini:(i:Int)+k<t.size:=by omega
   have hin0:(0:Int)<=(i:Int)+k:=by omega
   have hw:IntKind.i64.wrap ((i:Int)+k)=(i:Int)+k:=by rw[ci];omega
   have htn:((i:Int)+k).toNat=i+k:=by omega
   have hm1:ky t L i (k+1)=ky t L i k+(if L k (tb t (i+k))then 0 else 1):=rfl;have hml:=aif t L i k;have hml2:=aq0 t L i (show k+1<=n by omega);obtain⟨m,hm⟩:∃m,m=ky t L i k:=⟨_,rfl⟩;have HM':Hid (k=0\/(m:Int)<=most):=by rw[hm];exact HM
   rw[<-hm]at hm1 hml⊢;clear hm HM;have hA:Below wr.heap.size wr (wr.alloc (.cells #[.int .u64 (wd (L k) 0:Nat),.int .u64 (wd (L k) 1:Nat),.int .u64 (wd (L k) 2:Nat),.int .u64 (wd (L k) 3:Nat)] 100)):=ae.alloc ac _;cases hq:L k (tb t (i+k))
   ·rw[hq,if_neg (by decide)]at hm1
    have H1:=aa hm1;have H2:=aa hml2;by_cases hgt:most<(m:Int)+1
    ·clear hm1 hml2
     go_wp2_with fail
     go_region_with(first|(go_at_call 96;refine(abe _ _ _ (by omega) hq _).mono ?_;rintro e w1⟨rfl,hb1⟩))
     all_goals(go_wp2;rw[Exit.noGoto_ret];go_ret;exact⟨⟨m+1,by simp,fun h=>by have:=H1.out;have:=H2.out;omega,fun _=>by omega⟩,HB1.trans ((hA.trans ae.drew).trans (hb1.mono hA.size)|>.mono HB1.size)⟩)
    ·clear hm1 hml2
     go_wp2_with fail
     go_region_with(first|(go_at_call 96;refine(abe _ _ _ (by omega) hq _).mono ?_;rintro e w1⟨rfl,hb1⟩))
     all_goals(go_wp2;exact⟨⟨k+1,by omega,by go_num,by rw[H1.out];go_num,.inr (by rw[H1.out];omega),HO.out.trans (fo.of ((hA.trans ae.drew).trans (hb1.mono hA.size)))⟩,by simp[intOf];omega⟩)
   ·rw[hq,if_pos rfl]at hm1
    have H1:=aa hm1;have H2:=aa hml2;by_cases hgt:most<(m:Int)
    ·clear hm1 hml2
     go_wp2_with fail
     go_region_with(first|(go_at_call 96;refine(abe _ _ _ (by omega) hq _).mono ?_;rintro e w1⟨rfl,hb1⟩))
     all_goals(go_wp2;rw[Exit.noGoto_ret];go_ret;exact⟨⟨m,by simp,fun h=>by have:=H1.out;have:=H2.out;omega,fun _=>by omega⟩,HB1.trans ((hA.trans ae.drew).trans (hb1.mono hA.size)|>.mono HB1.size)⟩)
    ·clear hm1 hml2
     go_wp2_with fail
     go_region_with(first|(go_at_call 96;refine(abe _ _ _ (by omega) hq _).mono ?_;rintro e w1⟨rfl,hb1⟩))
     all_goals(go_wp2;exact⟨⟨k+1,by omega,by go_num,by rw[H1.out];go_num,.inr (by rw[H1.out];omega),HO.out.trans (fo.of ((hA.trans ae.drew).trans (hb1.mono hA.size)))⟩,by simp[intOf];omega⟩)
  ·obtain rfl:k=n:=by omega
   go_wp2;try rw[Exit.noGoto_ret]
   go_ret;exact⟨⟨ky t L i k,by simp,fun _=>rfl,fun h=>h⟩,HB1⟩
end
section
set_option maxRecDepth 100000
set_option maxHeartbeats 4000000
open Go.RowKit
def ga(l:List Int):List Value:=l.map fun x=>.int .i64 x
theorem gz(l:List Int)(x:Int):ga (l++[x])=ga l++[.int .i64 x]:=by simp[ga]
theorem iw(l:List Int):(ga l).length=l.length:=by simp[ga]
def gi(l:List Int)(j:Nat):Int:=(l[j]?).getD 0
theorem acp(l:List Int)(j:Nat)(hj:j<l.length):(ga l)[j]?=some (.int .i64 (gi l j)):=by
 unfold ga gi;rw[List.getElem?_map,bs hj];rfl
theorem kc{w:World}{base cap:Nat}{ad:Option Addr}{l:List Int}(h:w.ownsRow base 3 1 (.slice ad l.length cap) l.length (ga l)):gg w ad l.length (gi l) w.heap.size:=by
 rcases ed l.length with h0|h0
 ·exact .inl h0
 ·obtain⟨g,cp,hv,_,hlt⟩:=oa h h0
  cases hv;refine .inr ⟨g,0,rfl,hlt,fun j hj=>?_⟩;rw[dg,h.cellAt j (by omega)];exact acp l j hj
def ix(A:Nat->Int)(K:Int):Nat->List Int
 |0=>[]
 |k+1=>if A k<=K then ix A K k++[(k:Int)]else ix A K k
theorem ve(A:Nat->Int)(K:Int)(k:Nat):(ix A K k).length<=k:=by
 induction k with
 |zero=>exact ac
 |succ k ih=>
  simp only[ix];split
  ·rw[bd,List.length_singleton];omega
  ·omega
theorem af7(ad:Option Addr)(n cap:Nat)(A:Nat->Int)(K:Int)(hn:(n:Int)<=100000)(w:World)(hR:gg w ad n A w.heap.size):
 Calls prog 142 #[.slice ad n cap,.int .i64 K] w fun e w'=>∃v,e=.returned v/\w'.ownsRow w.heap.size 3 1 v (ix A K n).length (ga (ix A K n))/\Below w.heap.size w w':=by
 go_enter func142,ntmps142;go_wp2_with fail
 go_loopw[5,10] (fun v i wr=>∃k:Nat,k<=n/\i=.int .i64 k/\wr.ownsRow w.heap.size 3 1 v (ix A K k).length (ga (ix A K k))/\Below w.heap.size w wr) (fun _ i _=>n-(intOf i).toNat)
 case atStart=>exact⟨0,by omega,rfl,bj _ _ _ _,ae⟩
 case round=>
  obtain⟨k,hk,rfl,hown,hb⟩:=hrel;have hR1:=hR.below hb ac;have hlen:=ve A K k;have hz:=hb.size;by_cases hlt:k<n
  ·obtain⟨b,o,rfl,hbm,e0⟩:=hR1.at hlt
   clear hR1 hR;have hlti:(k:Int)<n:=by omega
   by_cases hq:A k<=K
   ·have hs:ix A K (k+1)=ix A K k++[(k:Int)]:=by simp only[ix];rw[if_pos hq]
    have HS:=aa hs;clear hs;go_wp2_with(first|(at_builtin;refine gj iv rfl _ _ rfl rfl hown [.int .i64 (k:Nat)] rfl rfl (by simp[Value.oneCell']) (by unfold maxLen;omega) (by omega) (by omega) ?_;intro v3 w3 hown3 hb3))
    exact⟨⟨k+1,by omega,by go_num,by rw[HS.out,gz,bd];exact hown3,hb.trans hb3⟩,by simp[intOf];omega⟩
   ·have hs:ix A K (k+1)=ix A K k:=by simp only[ix];rw[if_neg hq]
    have HS:=aa hs;clear hs;go_wp2;exact⟨⟨k+1,by omega,by go_num,by rw[HS.out];exact hown,hb⟩,by simp[intOf];omega⟩
  ·obtain rfl:k=n:=by omega
   go_wp2;go_ret;exact⟨_,rfl,hown,hb⟩
theorem al7(ad:Option Addr)(n cap:Nat)(A:Nat->Int)(K:Int)(hn:(n:Int)<=100000)(w:World)(hR:gg w ad n A w.heap.size):
 Calls prog 63 #[.slice ad n cap,.int .i64 K] w fun e w'=>∃v,e=.returned v/\w'.ownsRow w.heap.size 3 1 v (ix A K n).length (ga (ix A K n))/\Below w.heap.size w w':=by
 go_enter func63,ntmps63;go_wp2_with fail
 go_loopw[5,6] (fun v i wr=>∃k:Nat,k<=n/\i=.int .i64 k/\wr.ownsRow w.heap.size 3 1 v (ix A K k).length (ga (ix A K k))/\Below w.heap.size w wr) (fun _ i _=>n-(intOf i).toNat)
 case atStart=>exact⟨0,by omega,rfl,bj _ _ _ _,ae⟩
 case round=>
  obtain⟨k,hk,rfl,hown,hb⟩:=hrel;have hR1:=hR.below hb ac;have hlen:=ve A K k;have hz:=hb.size;by_cases hlt:k<n
  ·obtain⟨b,o,rfl,hbm,e0⟩:=hR1.at hlt
   clear hR1 hR;have hlti:(k:Int)<n:=by omega
   by_cases hq:A k<=K
   ·have hs:ix A K (k+1)=ix A K k++[(k:Int)]:=by simp only[ix];rw[if_pos hq]
    have HS:=aa hs;clear hs;go_wp2_with(first|(at_builtin;refine gj iv rfl _ _ rfl rfl hown [.int .i64 (k:Nat)] rfl rfl (by simp[Value.oneCell']) (by unfold maxLen;omega) (by omega) (by omega) ?_;intro v3 w3 hown3 hb3))
    exact⟨⟨k+1,by omega,by go_num,by rw[HS.out,gz,bd];exact hown3,hb.trans hb3⟩,by simp[intOf];omega⟩
   ·have hs:ix A K (k+1)=ix A K k:=by simp only[ix];rw[if_neg hq]
    have HS:=aa hs;clear hs;go_wp2;exact⟨⟨k+1,by omega,by go_num,by rw[HS.out];exact hown,hb⟩,by simp[intOf];omega⟩
  ·obtain rfl:k=n:=by omega
   go_wp2;go_ret;exact⟨_,rfl,hown,hb⟩
def vv(t:ByteArray)(n:Nat)(L:Nat->Nat->Bool)(K i:Int):Bool:=fv n L K&&(decide (0<=i)&&decide (i<=(t.size:Int)-n))
theorem ajy(ad:Option Addr)(n cap:Nat)(K:Int)(L:Nat->Nat->Bool)(hn:(n:Int)<=1000)(t:ByteArray)(ht:t.size<=1000)(i:Int)(w:World)(hR:fm w ad n L w.heap.size):
 Calls prog 124 #[lv ad n cap K,.string t,.int .i64 i] w fun e w'=>e=.returned (.tuple #[.int .i64 (if vv t n L K i then(ky t L i.toNat n:Nat)else 0),.bool (vv t n L K i)])/\Below w.heap.size w w':=by
 have HB:Below w.heap.size w (w.alloc (.cells #[.slice ad n cap,.int .i64 K] 52)):=ae.alloc ac _;have hR0:=(hR.below HB ac).mono HB.size;have hl:=fk.new w ad n cap K;have hsub:((t.size:Int)-n)<=1000:=by omega
 have hsub2: -1000<=((t.size:Int)-n):=by omega
 by_cases hr:fv n L K=true
 ·by_cases h0:0<=i
  ·by_cases h1:i<=(t.size:Int)-n
   ·have hok:vv t n L K i=true:=by unfold vv;rw[hr,cw h0,cw h1];rfl
    rw[hok,if_pos rfl];obtain⟨i,rfl⟩:=eu h0;rw[Int.toNat_natCast];clear hok;go_enter func124,ntmps124;go_wp2_with(go_at_call 172;refine(px ad n cap K L (by omega) _ hR0).mono ?_;rw[hr];rintro e w1⟨rfl,hb⟩;obtain⟨c0,c1,cl⟩:=hl.below hb hl.2.2)
    have HB1:=HB.trans (hb.mono HB.size);have hl1:=hl.below hb hl.2.2;have hR1:=hR.below HB1 ac;clear hb hl hR0 HB hR c0 c1;go_loopw[8,9] (fun c j wr=>∃k:Nat,k<=n/\j=.int .i64 k/\c=.int .i64 (ky t L i k:Nat)/\fo w1 wr) (fun _ j _=>n-(intOf j).toNat)
    case atStart=>exact⟨0,by omega,rfl,rfl,fo.refl _⟩
    case round=>
     obtain⟨k,hk,rfl,rfl,hO⟩:=hrel;have hl2:=hl1.below hO.2.2.2 cl;have hR2:=hR1.below hO.2.2.2 (dj cl);have HB2:=HB1.trans (hO.2.2.2.mono HB1.size);have HO:=aa hO;have cl2:=hl2.2.2;clear hO hl1 hR1;by_cases hlt:k<n
     ·obtain⟨b,o,rfl,hbm,e0,e1,e2,e3⟩:=hR2.at hlt
      clear hR2;have hbl:b<wr.heap.size:=Nat.lt_trans hbm cl2;have hlti:(k:Int)<n:=by omega
      have hin:i+k<t.size:=by omega
      have hini:(i:Int)+k<t.size:=by omega
      have hin0:(0:Int)<=(i:Int)+k:=by omega
      have hw:IntKind.i64.wrap ((i:Int)+k)=(i:Int)+k:=by rw[ci];omega
      have htn:((i:Int)+k).toNat=i+k:=by omega
      have hm1:ky t L i (k+1)=ky t L i k+(if L k (tb t (i+k))then 0 else 1):=rfl;have hml:=aif t L i k;obtain⟨m,hm⟩:∃m,m=ky t L i k:=⟨_,rfl⟩;rw[<-hm]at hm1 hml⊢;clear hm;cases hq:L k (tb t (i+k))
      ·rw[hq,if_neg (by decide)]at hm1
       have H1:=aa hm1;clear hm1;go_wp2_with fail
       go_region_held3 (fun w'=>fo wr w') (first|with_reducible exact fo.start _|with_reducible exact fo.calld (fo.refl _) (by assumption)|with_reducible exact fo.call (by assumption) (by assumption)) (first|(go_at_call 173;refine(ajt _ _ _ (by omega) hq _).mono ?_;rintro e w'⟨rfl,hb'⟩))
       go_wp2;exact⟨⟨k+1,by omega,by go_num,by rw[H1.out];go_num,HO.out.trans (by assumption)⟩,by simp[intOf];omega⟩
      ·rw[hq,if_pos rfl]at hm1
       have H1:=aa hm1;clear hm1;go_wp2_with fail
       go_region_held3 (fun w'=>fo wr w') (first|with_reducible exact fo.start _|with_reducible exact fo.calld (fo.refl _) (by assumption)|with_reducible exact fo.call (by assumption) (by assumption)) (first|(go_at_call 173;refine(ajt _ _ _ (by omega) hq _).mono ?_;rintro e w'⟨rfl,hb'⟩))
       go_wp2;exact⟨⟨k+1,by omega,by go_num,by rw[H1.out];go_num,HO.out.trans (by assumption)⟩,by simp[intOf];omega⟩
     ·obtain rfl:k=n:=by omega
      go_wp2;go_ret2
      exact⟨rfl,HB2⟩
   ·have hok:vv t n L K i=false:=by unfold vv;rw[hr,bv h1];simp
    rw[hok,if_neg (by decide)];clear hok;go_enter func124,ntmps124;go_wp2_with(go_at_call 172;refine(px ad n cap K L (by omega) _ hR0).mono ?_;rw[hr];rintro e w1⟨rfl,hb⟩;obtain⟨c0,c1,cl⟩:=hl.below hb hl.2.2)
    go_ret2
    exact⟨rfl,HB.trans (hb.mono HB.size)⟩
  ·have hok:vv t n L K i=false:=by unfold vv;rw[hr,bv h0];simp
   rw[hok,if_neg (by decide)];clear hok;go_enter func124,ntmps124;go_wp2_with(go_at_call 172;refine(px ad n cap K L (by omega) _ hR0).mono ?_;rw[hr];rintro e w1⟨rfl,hb⟩;obtain⟨c0,c1,cl⟩:=hl.below hb hl.2.2)
   go_ret2
   exact⟨rfl,HB.trans (hb.mono HB.size)⟩
 ·have hrf:fv n L K=false:=by simpa using hr
  have hok:vv t n L K i=false:=by unfold vv;rw[hrf];simp
  rw[hok,if_neg (by decide)];clear hok;go_enter func124,ntmps124;go_wp2_with(go_at_call 172;refine(px ad n cap K L (by omega) _ hR0).mono ?_;rw[hrf];rintro e w1⟨rfl,hb⟩;obtain⟨c0,c1,cl⟩:=hl.below hb hl.2.2)
  go_ret2
  exact⟨rfl,HB.trans (hb.mono HB.size)⟩
def kj(t:ByteArray)(n:Nat)(L:Nat->Nat->Bool)(K:Int):Nat->List Int
 |0=>[]
 |k+1=>if vv t n L K (k:Nat)then kj t n L K k++[((ky t L k n:Nat):Int)]else kj t n L K k
theorem vj(t:ByteArray)(n:Nat)(L:Nat->Nat->Bool)(K:Int)(k:Nat):(kj t n L K k).length<=k:=by
 induction k with
 |zero=>exact ac
 |succ k ih=>
  simp only[kj];split
  ·rw[bd,List.length_singleton];omega
  ·omega
theorem afi(ad:Option Addr)(n cap:Nat)(K:Int)(L:Nat->Nat->Bool)(hn:(n:Int)<=1000)(t:ByteArray)(ht:t.size<=1000)(w:World)(hR:fm w ad n L w.heap.size):
 Calls prog 64 #[lv ad n cap K,.string t] w fun e w'=>∃v,e=.returned v/\w'.ownsRow w.heap.size 3 1 v (kj t n L K (t.size+1)).length (ga (kj t n L K (t.size+1)))/\Below w.heap.size w w':=by
 have hl:=fk.new w ad n cap K;go_enter func64,ntmps64;go_wp2_with fail
 obtain⟨W0,hW0⟩:∃W0:World,w.alloc (.cells #[.slice ad n cap,.int .i64 K] 52)=W0:=⟨_,rfl⟩;have HB:Below w.heap.size w W0:=by subst hW0;exact ae.alloc ac _
 have hR0:=hR.below HB ac;have hs0:W0.heap.size=w.heap.size+1:=by subst hW0;simp
 rw[hW0]at hl⊢;clear hW0 hR;have l0:=hl.2.2;go_loopw[5,6] (fun v i wr=>∃k:Nat,k<=t.size+1/\i=.int .i64 k/\wr.ownsRow (w.heap.size+1) 3 1 v (kj t n L K k).length (ga (kj t n L K k))/\Below (w.heap.size+1) W0 wr) (fun _ i _=>t.size+1-(intOf i).toNat)
 case atStart=>exact⟨0,by omega,rfl,bj _ _ _ _,ae⟩
 case round=>
  obtain⟨k,hk,rfl,hown,hb⟩:=hrel;have hl1:=hl.below hb (by omega);have hR1:=(hR0.below hb (by omega)).mono (show w.heap.size<=wr.heap.size by have:=hb.size;omega);have hz:=hb.size;have hlen:=vj t n L K k;obtain⟨c0,c1,cl⟩:=hl1;clear hl hR0 l0;have hnext:kj t n L K (k+1)=if vv t n L K (k:Nat)then kj t n L K k++[((ky t L k n:Nat):Int)]else kj t n L K k:=rfl
  by_cases hlt:k<=t.size
  ·have hlti:(k:Int)<=t.size:=by omega
   cases hok:vv t n L K (k:Nat)
   ·rw[hok,if_neg (by decide)]at hnext
    have HS:=aa hnext;clear hnext;go_wp2_with(go_at_call 124;refine(ajy ad n cap K L hn t ht _ _ hR1).mono ?_;rw[hok];rintro e w1⟨rfl,hb1⟩)
    exact⟨⟨k+1,by omega,by go_num,by rw[HS.out];exact fe hown hb1,hb.trans (hb1.mono (by omega))⟩,by simp[intOf];omega⟩
   ·rw[hok,if_pos rfl]at hnext
    have HS:=aa hnext;clear hnext;go_wp2_with(first|(go_at_call 124;refine(ajy ad n cap K L hn t ht _ _ hR1).mono ?_;rw[hok,if_pos rfl,Int.toNat_natCast];rintro e w1⟨rfl,hb1⟩;have hz1:=hb1.size)|(at_builtin;refine gj iv rfl _ _ rfl rfl (fe hown hb1) [.int .i64 (ky t L k n:Nat)] rfl rfl (by simp[Value.oneCell']) (by unfold maxLen;omega) (by omega) (by omega) ?_;intro v3 w3 hown3 hb3))
    exact⟨⟨k+1,by omega,by go_num,by rw[HS.out,gz,bd];exact hown3,(hb.trans (hb1.mono (by omega))).trans hb3⟩,by simp[intOf];omega⟩
  ·obtain rfl:k=t.size+1:=by omega
   have hgt:(t.size:Int)<(t.size:Int)+1:=by omega
   go_wp2;go_ret;exact⟨_,rfl,fx hown (by omega),HB.trans (hb.mono (by omega))⟩
def abg(t:ByteArray)(n:Nat)(L:Nat->Nat->Bool)(K:Int):List Int:=ix (gi (kj t n L K (t.size+1))) K (kj t n L K (t.size+1)).length
theorem al9(ad:Option Addr)(n cap:Nat)(K:Int)(L:Nat->Nat->Bool)(hn:(n:Int)<=1000)(t:ByteArray)(ht:t.size<=1000)(w:World)(hR:fm w ad n L w.heap.size):
 Calls prog 31 #[lv ad n cap K,.string t] w fun e w'=>∃v,e=.returned v/\w'.ownsRow w.heap.size 3 1 v (abg t n L K).length (ga (abg t n L K))/\Below w.heap.size w w':=by
 have hl:=fk.new w ad n cap K;have hlen:=vj t n L K (t.size+1);unfold abg;have hcc:=fun w' hR'=>afi ad n cap K L hn t ht w' hR'
 generalize kj t n L K (t.size+1)=C at hlen hcc;have HC:=aa hcc;clear hcc;go_enter func31,ntmps31;go_wp2_with fail
 obtain⟨W0,hW0⟩:∃W0:World,w.alloc (.cells #[.slice ad n cap,.int .i64 K] 52)=W0:=⟨_,rfl⟩;have HB:Below w.heap.size w W0:=by subst hW0;exact ae.alloc ac _
 have hR0:fm W0.drew ad n L W0.drew.heap.size:=(hR.below HB ac).mono HB.size;rw[hW0]at hl⊢;clear hW0 hR;obtain⟨c0,c1,cl⟩:=hl;have hw0:=HB.size;go_region_held3 (fun w'=>fo W0 w') (first|with_reducible exact fo.start _|with_reducible exact fo.calld (fo.refl _) (by assumption)|with_reducible exact fo.call (by assumption) (by assumption)) (first|(go_at_call 64;refine(HC.out _ hR0).mono ?_;rintro e w1⟨v1,rfl,ho1,hb1⟩;obtain⟨ad1,cap1,rfl⟩:=ey ho1)|(go_at_call 63;refine(al7 _ _ _ (gi C) K (by omega) _ (kc (by assumption))).mono ?_;rintro e w2⟨v2,rfl,ho2,hb2⟩))
 go_wp2;go_ret;refine⟨_,rfl,fx ho2 (ba hw0 hb1.size),HB.trans ((show fo W0 _ by assumption).2.2.2.mono hw0)⟩
end
section
open Go.RowKit
def iz:Nat->Bool:=fun _=>true
def allN(p:Nat->Bool):Nat->Bool
 |0=>true
 |k+1=>allN p k&&p k
theorem abt(p:Nat->Bool)(k:Nat):allN p k=true↔∀j,j<k->p j=true:=by
 induction k with
 |zero=>simp[allN]
 |succ k ih=>
  simp only[allN,ce,ih];constructor
  ·rintro⟨h,h2⟩j hj
   by_cases he:j=k
   ·subst he;exact h2
   ·exact h j (by omega)
  ·intro h;exact⟨fun j hj=>h j (by omega),h k (by omega)⟩
theorem acx{p:Nat->Bool}{k n:Nat}(hk:k<n)(h:p k=false):allN p n=false:=by
 rw[Bool.eq_false_iff];intro hh;rw[(abt p n).1 hh k hk]at h;cases h
def ki(L:Nat->Nat->Bool)(n:Nat):Bool:=allN (fun j=>one (L j)||fj (L j) iz) n
def jh(L:Nat->Nat->Bool)(n:Nat):Bool:=allN (fun j=>one (L j)) n
def aed(L:Nat->Nat->Bool)(n:Nat):List Int:=(List.range n).map fun j=>((sgl (L j):Nat):Int)
theorem am6(L:Nat->Nat->Bool)(n:Nat):aed L (n+1)=aed L n++[((sgl (L n):Nat):Int)]:=by simp[aed,List.range_succ]
theorem yy(L:Nat->Nat->Bool)(n:Nat):(aed L n).length=n:=by simp[aed]
def u8s(l:List Int):List Value:=l.map fun x=>.int .u8 x
theorem aou(l:List Int)(x:Int):u8s (l++[x])=u8s l++[.int .u8 x]:=by simp[u8s]
def im(S:Nat->Bool)(L:Nat->Nat->Bool):Nat->List Int
 |0=>[]
 |k+1=>if fj (L k) S then im S L k++[(k:Int)]else im S L k
theorem pr(S:Nat->Bool)(L:Nat->Nat->Bool)(k:Nat):(im S L k).length=j0 (fun j=>fj (L j) S) k:=by
 induction k with
 |zero=>rfl
 |succ k ih=>
  simp only[im,j0];split
  ·rename_i h;rw[bd,List.length_singleton,ih]
  ·rename_i h;rw[ih];rfl
def nr(S:Nat->Bool)(l:List (Nat->Bool)):Bool:=l.any fun T=>fj T S
def fa(L:Nat->Nat->Bool):Nat->List (Nat->Bool)
 |0=>[]
 |k+1=>if fj (L k) iz||nr (L k) (fa L k)then fa L k else fa L k++[L k]
theorem iu(L:Nat->Nat->Bool)(k:Nat):(fa L k).length<=k:=by
 induction k with
 |zero=>exact ac
 |succ k ih=>
  simp only[fa];split
  ·omega
  ·rw[bd,List.length_singleton];omega
def ji(l:List (Nat->Bool)):List Value:=l.flatMap fun S=>[.int .u64 (wd S 0:Nat),.int .u64 (wd S 1:Nat),.int .u64 (wd S 2:Nat),.int .u64 (wd S 3:Nat)]
theorem pq(l:List (Nat->Bool))(S:Nat->Bool):ji (l++[S])=ji l++[.int .u64 (wd S 0:Nat),.int .u64 (wd S 1:Nat),.int .u64 (wd S 2:Nat),.int .u64 (wd S 3:Nat)]:=by simp[ji]
theorem y9(l:List (Nat->Bool)):(ji l).length=l.length*4:=by
 induction l with
 |nil=>rfl
 |cons S l ih=>simp only[ji,List.flatMap_cons,bd,bz,List.length_nil]at ih⊢;omega
def gc(l:List (Nat->Bool))(j:Nat):Nat->Bool:=(l[j]?).getD fu
theorem we(l:List (Nat->Bool)):ji l=i7 (gc l) l.length:=by
 have h:∀k,k<=l.length->ji (l.take k)=i7 (gc l) k:=by
  intro k;induction k with
  |zero=>intro _;rfl
  |succ k ih=>
   intro hk;rw[da (by omega),pq,ih (by omega)];have e:gc l k=l[k]:=by unfold gc;rw[bs (by omega)];rfl
   simp only[i7,e]
 have:=h l.length ac;rwa[dr]at this
theorem o7{w:World}{base cap:Nat}{ad:Option Addr}{l:List (Nat->Bool)}(h:w.ownsRow base 100 4 (.slice ad l.length cap) l.length (ji l)):fm w ad l.length (gc l) w.heap.size:=by
 rw[we]at h;exact yq h
def agC(L M:Nat->Nat->Bool):Nat->Bool
 |0=>true
 |k+1=>agC L M k&&fj (L k) (M k)
theorem aku(L M:Nat->Nat->Bool)(k:Nat):agC L M k=true↔∀n,n<k->fj (L n) (M n)=true:=by
 induction k with
 |zero=>simp[agC]
 |succ k ih=>
  simp only[agC,ce,ih];constructor
  ·rintro⟨h1,h2⟩n hn
   by_cases he:n=k
   ·subst he;exact h2
   ·exact h1 n (by omega)
  ·intro h;exact⟨fun n hn=>h n (by omega),h k (by omega)⟩
theorem kv(S T:Nat->Bool):fj S T=fj T S:=by
 rw[Bool.eq_iff_iff,jp,jp];exact⟨fun h n hn=>(h n hn).symm,fun h n hn=>(h n hn).symm⟩
theorem tp{S T U:Nat->Bool}(h:fj S T=true)(k:fj T U=true):fj S U=true:=
 (jp _ _).2 fun n hn=>((jp _ _).1 h n hn).trans ((jp _ _).1 k n hn)
def ja(L:Nat->Nat->Bool)(n:Nat):Nat:=j0 (fun j=> !fj (L j) iz) n
theorem tr(L:Nat->Nat->Bool)(n:Nat):ja L n+(im iz L n).length=n:=by
 rw[pr];unfold ja;induction n with
 |zero=>rfl
 |succ n ih=>
  simp only[j0];by_cases h:fj (L n) iz=true
  ·simp only[h,Bool.not_true,Bool.false_eq_true,if_false,if_true];omega
  ·rw[Bool.not_eq_true]at h
   simp only[h,Bool.not_false,Bool.false_eq_true,if_false,if_true];omega
end
section
set_option maxRecDepth 100000
set_option maxHeartbeats 1000000
open Go.RowKit
theorem af9(S:Nat->Bool)(w:World):
 Calls prog 178 #[cv S] w fun e w'=>e=.returned (.bool (fj S iz))/\Below w.heap.size w w':=by
 have hS:=fc.new w S;go_enter func178,ntmps178;go_wp2_with fail
 obtain⟨W0,hW0⟩:∃W0:World,w.alloc (.cells #[.int .u64 (wd S 0:Nat),.int .u64 (wd S 1:Nat),.int .u64 (wd S 2:Nat),.int .u64 (wd S 3:Nat)] 100)=W0:=⟨_,rfl⟩;have HB:Below w.heap.size w W0:=by subst hW0;exact ae.alloc ac _
 rw[hW0]at hS⊢;clear hW0;have l0:=hS.2.2;go_region_held3 (fun w'=>fo W0 w') (first|with_reducible exact fo.start _|with_reducible exact fo.calld (fo.refl _) (by assumption)|with_reducible exact fo.call (by assumption) (by assumption)) (first|(go_at_call 93;refine(tm _).mono ?_;rintro e w1⟨rfl,hb1⟩))
 go_wp2;go_ret;exact⟨rfl,HB.trans ((show fo W0 _ by assumption).2.2.2.mono HB.size)⟩
end
section
def good(s t:ByteArray)(i n:Nat):Bool:=decide (n<s.size)&&(decide (i+n<t.size)&&(tb s n==tb t (i+n)))
theorem js(s t:ByteArray)(i n:Nat):good s t i n=true↔n<s.size/\i+n<t.size/\tb s n=tb t (i+n):=by simp[good]
def lc(s t:ByteArray)(i:Nat):Nat:=oq (fun n=> !good s t i n) 0 s.size
theorem np(s t:ByteArray)(i:Nat):(∀j,j<lc s t i->good s t i j=true)/\good s t i (lc s t i)=false:=by
 obtain⟨_,h2,h3,h4⟩:=j8 (fun n=> !good s t i n) s.size 0;refine⟨fun j hj=>by simpa using h4 j (by omega) hj,?_⟩;by_cases h:lc s t i<0+s.size
 ·have h5:=h3 h
  rw[Bool.not_eq_true']at h5;exact h5
 ·rw[Bool.eq_false_iff]
  intro hg;have:=(js _ _ _ _).1 hg;omega
theorem lc_eq{s t:ByteArray}{i r:Nat}(h:∀j,j<r->good s t i j=true)(h2:good s t i r=false):lc s t i=r:=by
 obtain⟨a,b⟩:=np s t i;rcases Nat.lt_trichotomy (lc s t i) r with hl|hl|hl
 ·rw[h _ hl]at b;cases b
 ·exact hl
 ·rw[a _ hl]at h2;cases h2
theorem lc_le(s t:ByteArray)(i:Nat):lc s t i<=s.size:=by
 by_cases h:lc s t i=0
 ·omega
 ·have:=(js _ _ _ _).1 ((np s t i).1 (lc s t i-1) (by omega))
  omega
theorem aab(s t:ByteArray)(i:Nat)(hi:i<=t.size):i+lc s t i<=t.size:=by
 by_cases h:lc s t i=0
 ·omega
 ·have:=(js _ _ _ _).1 ((np s t i).1 (lc s t i-1) (by omega))
  omega
theorem lc_self(s:ByteArray):lc s s 0=s.size:=lc_eq (fun j hj=>(js _ _ _ _).2 ⟨hj,by omega,by rw[dg]⟩) (by
 rw[Bool.eq_false_iff];intro hg;have:=(js _ _ _ _).1 hg;omega)
def kn(s t:ByteArray):List Int:=(List.range t.size).map fun i=>((lc s t i:Nat):Int)
theorem lg(s t:ByteArray):(kn s t).length=t.size:=by simp[kn]
theorem aat(s t:ByteArray)(i:Nat)(hi:i<t.size):gi (kn s t) i=((lc s t i:Nat):Int):=by
 unfold gi kn;rw[List.getElem?_map,List.getElem?_range hi];rfl
theorem vq(s t:ByteArray)(k:Nat)(hk:k<t.size):(kn s t).take (k+1)=(kn s t).take k++[((lc s t k:Nat):Int)]:=by
 rw[da (by rw[lg];exact hk)];simp[kn]
structure wh(s t:ByteArray)(fr to i:Nat):Prop where
 fi:fr<=i
 tt:to<=t.size
 ts:to<=fr+s.size
 eq:∀j,fr+j<to->tb t (fr+j)=tb s j
theorem wh.good{s t:ByteArray}{fr to i:Nat}(h:wh s t fr to i)(hi:i<to){j:Nat}(h1:j<lc s s (i-fr))(h2:j<to-i):Go.Proofs.YtjfkmoinldlmaaaGreat.good s t i j=true:=by
 have a:=(js _ _ _ _).1 ((np s s (i-fr)).1 j h1);have b:=h.eq (i-fr+j) (by have:=h.fi;omega);have hf:=h.fi;have ht:=h.tt;refine(js _ _ _ _).2 ⟨a.1,by omega,?_⟩;rw[a.2.2,<-b];congr 1;omega
theorem wh.next{s t:ByteArray}{fr to i:Nat}(h:wh s t fr to i):wh s t fr to (i+1):=⟨by have:=h.fi;omega,h.tt,h.ts,h.eq⟩
theorem wh.new(s t:ByteArray)(i:Nat)(hi:i<=t.size):wh s t i (i+lc s t i) (i+1)where
 fi:=by omega
 tt:=aab s t i hi
 ts:=by have:=lc_le s t i;omega
 eq j hj:=((js _ _ _ _).1 ((np s t i).1 j (by omega))).2.2.symm
theorem wh.start(s t:ByteArray):wh s t 0 0 0:=⟨by omega,by omega,by omega,fun j hj=>by omega⟩
end
section
def ru(p t:ByteArray):Nat->List Int
 |0=>[]
 |k+1=>if lc p t k=p.size then ru p t k++[(k:Int)]else ru p t k
theorem aes(p t:ByteArray)(k:Nat):(ru p t k).length<=k:=by
 induction k with
 |zero=>exact ac
 |succ k ih=>
  simp only[ru];split
  ·rw[bd,List.length_singleton];omega
  ·omega
def zf(p t:ByteArray):List Int:=if p.size=0 then[]else ru p t t.size
theorem ak5(p t:ByteArray)(a b:Nat)(hb:b<=t.size)(ha:a<=b)(h:t.size<a+p.size):ru p t b=ru p t a:=by
 obtain⟨d,rfl⟩:∃d,b=a+d:=⟨b-a,by omega⟩;clear ha;induction d with
 |zero=>rfl
 |succ d ih=>
  have hne:¬(lc p t (a+d)=p.size):=by
   have:=aab p t (a+d) (by omega);omega
  show(if lc p t (a+d)=p.size then _ else _)=_;rw[if_neg hne];exact ih (by omega)
theorem vg(p:ByteArray)(h:p.size=0):p.toList.isEmpty=true:=by
 rw[List.isEmpty_iff];unfold ByteArray.toList;unfold ByteArray.toList.loop;rw[if_neg (by omega)];rfl
theorem sg(p:ByteArray)(h:0<p.size):p.toList.isEmpty=false:=by
 rw[List.isEmpty_eq_false_iff];intro he;unfold ByteArray.toList at he;have:∀(n i:Nat)(r:List UInt8),p.size-i=n->r.length<=(ByteArray.toList.loop p i r).length:=by
  intro n;induction n with
  |zero=>intro i r hn;unfold ByteArray.toList.loop;rw[if_neg (by omega)];simp
  |succ n ih=>intro i r hn;unfold ByteArray.toList.loop;rw[if_pos (by omega)];have:=ih (i+1) (p.get! i::r) (by omega);simp at this;omega
 unfold ByteArray.toList.loop at he;rw[if_pos h]at he;have h2:=this _ 1 [p.get! 0] rfl;rw[he]at h2;simp at h2
end
section
def zr(l:List Nat)(b:Nat):Bool:=l.any fun x=>x==b
def mg(b:Nat):Bool:=decide (32<=b)&&decide (b<=126)
def ku(b:Nat):Nat:=if 48<=b/\b<=57 then b-48 else if 97<=b/\b<=102 then b-87 else 16
def sh(s:ByteArray)(p:Nat):Option (Nat×Nat):=
 if p+1<s.size/\zr [92,34,63,91,93,45,94] (tb s (p+1))=true then some (tb s (p+1),p+2)
 else if p+3<s.size/\tb s (p+1)=120/\ku (tb s (p+2))<16/\ku (tb s (p+3))<16 then some (16*ku (tb s (p+2))+ku (tb s (p+3)),p+4)
 else none
def pz(ap:List Nat)(s:ByteArray)(p:Nat):Option (Nat×Nat):=
 if tb s p=92 then sh s p else if mg (tb s p)=true/\zr ap (tb s p)=false then some (tb s p,p+1)else none
def lq(s:ByteArray)(p:Nat):Option (Nat×Nat):=if p<s.size then pz [34,91,93,45,94] s p else none
theorem akq{s:ByteArray}{p b q:Nat}(h:sh s p=some (b,q)):b<=255/\q<=s.size/\p<q:=by
 unfold sh at h;split at h
 ·next h1=>cases h;exact⟨jq s _,by omega,by omega⟩
 ·split at h
  ·next h1=>cases h;exact⟨by omega,by omega,by omega⟩
  ·cases h
theorem adx{ap:List Nat}{s:ByteArray}{p b q:Nat}(h:pz ap s p=some (b,q))(hp:p<s.size):b<=255/\q<=s.size/\p<q:=by
 unfold pz at h;split at h
 ·exact akq h
 ·split at h
  ·cases h;exact⟨jq s _,by omega,by omega⟩
  ·cases h
theorem p9{s:ByteArray}{p b q:Nat}(h:lq s p=some (b,q)):b<=255/\q<=s.size/\p<q:=by
 unfold lq at h;split at h
 ·next hp=>exact adx h hp
 ·cases h
theorem wy{s:ByteArray}{p:Nat}(h:tb s p=93):lq s p=none:=by
 unfold lq pz;split
 ·rw[if_neg (by omega),if_neg (by rw[h];decide)]
 ·rfl
def orS(S T:Nat->Bool):Nat->Bool:=fun n=>S n||T n
def notS(S:Nat->Bool):Nat->Bool:=fun n=> !S n
inductive sy(s:ByteArray):Nat->(Nat->Bool)->Nat->(Nat->Bool)->Nat->Nat->Prop
 |done (p acc n) (h:p<s.size) (hb:tb s p=93):sy s p acc n acc n p
 |one (p acc n b q out m p') (h:lq s p=some (b,q)) (hd:¬(q<s.size/\tb s q=45)) (r:sy s q (orS acc (ez b b)) (n+1) out m p'):sy s p acc n out m p'
 |two (p acc n b q c r' out m p') (h:lq s p=some (b,q)) (hq:q<s.size) (hd:tb s q=45) (h2:lq s (q+1)=some (c,r')) (hbc:b<=c) (r:sy s r' (orS acc (ez b c)) (n+1) out m p'):sy s p acc n out m p'
theorem sy.uniq{s:ByteArray}{p n:Nat}{acc o1:Nat->Bool}{m1 p1:Nat}(h:sy s p acc n o1 m1 p1):∀{o2:Nat->Bool}{m2 p2:Nat},sy s p acc n o2 m2 p2->o1=o2/\m1=m2/\p1=p2:=by
 induction h with
 |done p acc n h hb=>
  intro o2 m2 p2 k;cases k with
  |done _ _ _ _ _=>exact⟨rfl,rfl,rfl⟩
  |one _ _ _ b q _ _ _ h' _ _=>rw[wy hb]at h';cases h'
  |two _ _ _ b q c r' _ _ _ h' _ _ _ _ _=>rw[wy hb]at h';cases h'
 |one p acc n b q out m p' h hd r ih=>
  intro o2 m2 p2 k;cases k with
  |done _ _ _ h' hb'=>rw[wy hb']at h;cases h
  |one _ _ _ b' q' _ _ _ h' hd' r'=>rw[h]at h';cases h';exact ih r'
  |two _ _ _ b' q' c' r' _ _ _ h' hq' hd' _ _ _=>rw[h]at h';cases h';exact absurd ⟨hq',hd'⟩ hd
 |two p acc n b q c r' out m p' h hq hd h2 hbc r ih=>
  intro o2 m2 p2 k;cases k with
  |done _ _ _ h' hb'=>rw[wy hb']at h;cases h
  |one _ _ _ b' q' _ _ _ h' hd' r'=>rw[h]at h';cases h';exact absurd ⟨hq,hd⟩ hd'
  |two _ _ _ b' q' c' r'' _ _ _ h' hq' hd' h2' hbc' r3=>rw[h]at h';cases h';rw[h2]at h2';cases h2';exact ih r3
theorem sy.le{s:ByteArray}{p n:Nat}{acc o1:Nat->Bool}{m1 p1:Nat}(h:sy s p acc n o1 m1 p1):p<=p1/\p1<s.size:=by
 induction h with
 |done p acc n h hb=>exact⟨ac,h⟩
 |one p acc n b q out m p' h hd r ih=>have:=p9 h;omega
 |two p acc n b q c r' out m p' h hq hd h2 hbc r ih=>have:=p9 h;have:=p9 h2;omega
def od(s:ByteArray)(o:Nat):Bool:=decide (o+1<s.size)&&(tb s (o+1)==94)
def ue(s:ByteArray)(o:Nat)(S:Nat->Bool)(q:Nat):Prop:=
 ∃acc n p,sy s (if od s o=true then o+2 else o+1) fu 0 acc n p/\n≠0/\S=(if od s o=true then notS acc else acc)/\q=p+1
theorem ue.uniq{s:ByteArray}{o q1 q2:Nat}{S T:Nat->Bool}(h:ue s o S q1)(k:ue s o T q2):S=T/\q1=q2:=by
 obtain⟨a,n,p,h1,_,h3,h4⟩:=h;obtain⟨a',n',p',k1,_,k3,k4⟩:=k;obtain⟨rfl,rfl,rfl⟩:=h1.uniq k1;exact⟨h3.trans k3.symm,h4.trans k4.symm⟩
theorem ue.lt{s:ByteArray}{o q:Nat}{S:Nat->Bool}(h:ue s o S q):o<q/\q<=s.size:=by
 obtain⟨a,n,p,h1,_,_,rfl⟩:=h;have:=h1.le;split at this<;>omega
inductive ElR(s:ByteArray)(p:Nat):(Nat->Bool)->Nat->Prop
 |any (h:tb s p=63):ElR s p iz (p+1)
 |cls (S q) (h:tb s p=91) (r:ue s p S q):ElR s p S q
 |byte (b q) (h:tb s p≠63) (h':tb s p≠91) (r:pz [] s p=some (b,q)):ElR s p (ez b b) q
theorem ElR.uniq{s:ByteArray}{p q1 q2:Nat}{S T:Nat->Bool}(h:ElR s p S q1)(k:ElR s p T q2):S=T/\q1=q2:=by
 cases h with
 |any h=>
  cases k with
  |any=>exact⟨rfl,rfl⟩
  |cls _ _ h'=>omega
  |byte b q h1=>exact absurd h h1
 |cls _ _ h r=>
  cases k with
  |any h'=>omega
  |cls _ _ h' r'=>exact r.uniq r'
  |byte b q h1 h2=>exact absurd h h2
 |byte b q h1 h2 r=>
  cases k with
  |any h'=>exact absurd h' h1
  |cls _ _ h' r'=>exact absurd h' h2
  |byte b' q' _ _ r'=>rw[r]at r';cases r';exact⟨rfl,rfl⟩
theorem ElR.lt{s:ByteArray}{p q:Nat}{S:Nat->Bool}(h:ElR s p S q)(hp:p<s.size):p<q/\q<=s.size:=by
 cases h with
 |any h=>omega
 |cls _ _ h r=>exact r.lt
 |byte b q h1 h2 r=>have:=adx r hp;omega
inductive tv(s:ByteArray):Nat->Nat->List (Nat->Bool)->Nat->Prop
 |close (p n) (h:p<s.size) (hb:tb s p=34) (hn:n≠0):tv s p n [] (p+1)
 |elem (p n S q l p') (h:p<s.size) (hb:tb s p≠34) (hn:n<64) (e:ElR s p S q) (r:tv s q (n+1) l p'):tv s p n (S::l) p'
theorem tv.uniq{s:ByteArray}{p n p1:Nat}{l1:List (Nat->Bool)}(h:tv s p n l1 p1):∀{l2:List (Nat->Bool)}{p2:Nat},tv s p n l2 p2->l1=l2/\p1=p2:=by
 induction h with
 |close p n h hb hn=>
  intro l2 p2 k;cases k with
  |close _ _ _ _ _=>exact⟨rfl,rfl⟩
  |elem _ _ _ _ _ _ h' hb' _ _ _=>exact absurd hb hb'
 |elem p n S q l p' h hb hn e r ih=>
  intro l2 p2 k;cases k with
  |close _ _ h' hb' _=>exact absurd hb' hb
  |elem _ _ S' q' l' _ h' hb' hn' e' r'=>
   obtain⟨rfl,rfl⟩:=e.uniq e';obtain⟨rfl,rfl⟩:=ih r';exact⟨rfl,rfl⟩
theorem tv.lt{s:ByteArray}{p n p1:Nat}{l:List (Nat->Bool)}(h:tv s p n l p1):p<p1/\p1<=s.size:=by
 induction h with
 |close p n h hb hn=>omega
 |elem p n S q l p' h hb hn e r ih=>have:=e.lt h;omega
theorem tv.len{s:ByteArray}{p n p1:Nat}{l:List (Nat->Bool)}(h:tv s p n l p1):n+l.length<=max n 64:=by
 induction h with
 |close p n h hb hn=>simp;omega
 |elem p n S q l p' h hb hn e r ih=>simp;omega
def ro(b:Nat):Bool:=decide (48<=b)&&decide (b<=57)
def dv(s:ByteArray)(p:Nat):Nat->Nat
 |0=>0
 |k+1=>10*dv s p k+(tb s (p+k)-48)
def agz(s:ByteArray)(p n q:Nat):Prop:=
 ∃k,k≠0/\(∀i,i<k->p+i<s.size/\ro (tb s (p+i))=true)/\¬(p+k<s.size/\ro (tb s (p+k))=true)/\(tb s p=48->k=1)/\n=dv s p k/\n<=1000000/\q=p+k
theorem agz.uniq{s:ByteArray}{p n1 q1 n2 q2:Nat}(h:agz s p n1 q1)(k:agz s p n2 q2):n1=n2/\q1=q2:=by
 obtain⟨a,_,h2,h3,_,h5,_,h7⟩:=h;obtain⟨b,_,k2,k3,_,k5,_,k7⟩:=k;rcases Nat.lt_trichotomy a b with hab|rfl|hab
 ·exact absurd (k2 a hab) h3
 ·exact⟨h5.trans k5.symm,h7.trans k7.symm⟩
 ·exact absurd (h2 b hab) k3
theorem agz.lt{s:ByteArray}{p n q:Nat}(h:agz s p n q):p<q/\q<=s.size:=by
 obtain⟨k,h1,h2,_,_,_,_,rfl⟩:=h;have:=(h2 (k-1) (by omega)).1;omega
structure gq where
 kind:Nat
 place:Nat
 num:Nat
 els:List (Nat->Bool)
def j3(b:Nat):Nat:=if b=40 then 1 else if b=41 then 2 else if b=38 then 3 else if b=124 then 4 else if b=33 then 5 else if b=62 then 6 else if b=126 then 7 else 0
theorem ww(b:Nat):j3 b<=7:=by
 unfold j3;repeat' split
 all_goals omega
inductive xq(s:ByteArray)(p:Nat):gq->Nat->Prop
 |pat (l q) (h:tb s p=34) (r:tv s (p+1) 0 l q):xq s p ⟨8,p,0,l⟩ q
 |sign (h:tb s p≠34) (h1:j3 (tb s p)≠0) (h2:j3 (tb s p)<6):xq s p ⟨j3 (tb s p),p,0,[]⟩ (p+1)
 |num (n q) (h:tb s p≠34) (h1:6<=j3 (tb s p)) (r:agz s (p+1) n q):xq s p ⟨j3 (tb s p),p,n,[]⟩ q
theorem xq.uniq{s:ByteArray}{p q1 q2:Nat}{t u:gq}(h:xq s p t q1)(k:xq s p u q2):t=u/\q1=q2:=by
 cases h with
 |pat l q h r=>
  cases k with
  |pat l' q' h' r'=>obtain⟨rfl,rfl⟩:=r.uniq r';exact⟨rfl,rfl⟩
  |sign h'=>exact absurd h h'
  |num _ _ h'=>exact absurd h h'
 |sign h h1 h2=>
  cases k with
  |pat _ _ h'=>exact absurd h' h
  |sign=>exact⟨rfl,rfl⟩
  |num _ _ _ h1'=>omega
 |num n q h h1 r=>
  cases k with
  |pat _ _ h'=>exact absurd h' h
  |sign _ _ h2'=>omega
  |num n' q' _ _ r'=>obtain⟨rfl,rfl⟩:=r.uniq r';exact⟨rfl,rfl⟩
theorem xq.lt{s:ByteArray}{p q:Nat}{t:gq}(h:xq s p t q)(hp:p<s.size):p<q/\q<=s.size:=by
 cases h with
 |pat l q h r=>have:=r.lt;omega
 |sign h h1 h2=>omega
 |num n q h h1 r=>have:=r.lt;omega
theorem xq.len{s:ByteArray}{p q:Nat}{t:gq}(h:xq s p t q):t.els.length<=64/\t.num<=1000000/\t.kind<=8:=by
 cases h with
 |pat l q h r=>exact⟨by have:=r.len;simp at this;omega,cx _,ac⟩
 |sign h h1 h2=>exact⟨cx _,cx _,by have:=ww (tb s p);show j3 (tb s p)<=8;omega⟩
 |num n q h h1 r=>obtain⟨k,_,_,_,_,_,h6,_⟩:=r;exact⟨cx _,h6,by have:=ww (tb s p);show j3 (tb s p)<=8;omega⟩
inductive qx(s:ByteArray):Nat->List gq->Prop
 |fin (p) (h:s.size<=p):qx s p []
 |blank (p l) (h:p<s.size) (hb:tb s p=32) (r:qx s (p+1) l):qx s p l
 |tok (p t q l) (h:p<s.size) (hb:tb s p≠32) (e:xq s p t q) (r:qx s q l):qx s p (t::l)
theorem qx.uniq{s:ByteArray}{p:Nat}{l:List gq}(h:qx s p l):∀{m:List gq},qx s p m->l=m:=by
 induction h with
 |fin p h=>
  intro m k;cases k with
  |fin _ _=>rfl
  |blank _ _ h' _ _=>omega
  |tok _ _ _ _ h' _ _ _=>omega
 |blank p l h hb r ih=>
  intro m k;cases k with
  |fin _ h'=>omega
  |blank _ _ _ _ r'=>exact ih r'
  |tok _ _ _ _ _ hb' _ _=>exact absurd hb hb'
 |tok p t q l h hb e r ih=>
  intro m k;cases k with
  |fin _ h'=>omega
  |blank _ _ _ hb' _=>exact absurd hb' hb
  |tok _ t' q' l' _ _ e' r'=>
   obtain⟨rfl,rfl⟩:=e.uniq e';rw[ih r']
theorem qx.len{s:ByteArray}{p:Nat}{l:List gq}(h:qx s p l):l.length+p<=max p s.size:=by
 induction h with
 |fin p h=>simp;omega
 |blank p l h hb r ih=>omega
 |tok p t q l h hb e r ih=>have:=e.lt h;simp;omega
inductive QT
 |find (els:List (Nat->Bool)) (k:Nat)
 |and (a b:QT)
 |or (a b:QT)
 |not (a:QT)
 |shift (n:Nat) (a:QT)
inductive PM
 |item
 |part
 |query
 |ands (t:QT)
 |ors (t:QT)
inductive PR:PM->List gq->QT->List gq->Prop
 |not (t r T r') (h:t.kind=5) (k:PR .item r T r'):PR .item (t::r) (.not T) r'
 |shift (t r T r') (h:t.kind=6) (k:PR .item r T r'):PR .item (t::r) (.shift t.num T) r'
 |fuzz (t u r) (h:t.kind=8) (hu:u.kind=7) (hn:u.num<=64):PR .item (t::u::r) (.find t.els u.num) r
 |find (t r) (h:t.kind=8) (hu:∀u r',r=u::r'->u.kind≠7):PR .item (t::r) (.find t.els 0) r
 |brack (t r T u r') (h:t.kind=1) (k:PR .query r T (u::r')) (hu:u.kind=2):PR .item (t::r) T r'
 |part (l T r T' r') (k:PR .item l T r) (c:PR (.ands T) r T' r'):PR .part l T' r'
 |query (l T r T' r') (k:PR .part l T r) (c:PR (.ors T) r T' r'):PR .query l T' r'
 |andEnd (T l) (h:∀u r,l=u::r->u.kind≠3):PR (.ands T) l T l
 |andOn (T t r U r' T' r'') (h:t.kind=3) (k:PR .item r U r') (c:PR (.ands (.and T U)) r' T' r''):PR (.ands T) (t::r) T' r''
 |orEnd (T l) (h:∀u r,l=u::r->u.kind≠4):PR (.ors T) l T l
 |orOn (T t r U r' T' r'') (h:t.kind=4) (k:PR .part r U r') (c:PR (.ors (.or T U)) r' T' r''):PR (.ors T) (t::r) T' r''
theorem PR.uniq{m:PM}{l r1:List gq}{T:QT}(h:PR m l T r1):∀{U:QT}{r2:List gq},PR m l U r2->T=U/\r1=r2:=by
 induction h with
 |not t r T r' h k ih=>
  intro U r2 q;cases q with
  |not _ _ _ _ _ k'=>obtain⟨rfl,rfl⟩:=ih k';exact⟨rfl,rfl⟩
  |shift _ _ _ _ h'=>omega
  |fuzz _ _ _ h'=>omega
  |find _ _ h'=>omega
  |brack _ _ _ _ _ h'=>omega
 |shift t r T r' h k ih=>
  intro U r2 q;cases q with
  |shift _ _ _ _ _ k'=>obtain⟨rfl,rfl⟩:=ih k';exact⟨rfl,rfl⟩
  |not _ _ _ _ h'=>omega
  |fuzz _ _ _ h'=>omega
  |find _ _ h'=>omega
  |brack _ _ _ _ _ h'=>omega
 |fuzz t u r h hu hn=>
  intro U r2 q;cases q with
  |fuzz _ _ _ h'=>exact⟨rfl,rfl⟩
  |find _ _ h' hu'=>exact absurd hu (hu' _ _ rfl)
  |not _ _ _ _ h'=>omega
  |shift _ _ _ _ h'=>omega
  |brack _ _ _ _ _ h'=>omega
 |find t r h hu=>
  intro U r2 q;cases q with
  |find _ _ h' hu'=>exact⟨rfl,rfl⟩
  |fuzz _ _ _ h' hu'=>exact absurd hu' (hu _ _ rfl)
  |not _ _ _ _ h'=>omega
  |shift _ _ _ _ h'=>omega
  |brack _ _ _ _ _ h'=>omega
 |brack t r T u r' h k hu ih=>
  intro U r2 q;cases q with
  |brack _ _ _ _ _ h' k' hu'=>obtain⟨rfl,e⟩:=ih k';cases e;exact⟨rfl,rfl⟩
  |not _ _ _ _ h'=>omega
  |shift _ _ _ _ h'=>omega
  |fuzz _ _ _ h'=>omega
  |find _ _ h'=>omega
 |part l T r T' r' k c ih1 ih2=>
  intro U r2 q;cases q with
  |part _ _ _ _ _ k' c'=>obtain⟨rfl,rfl⟩:=ih1 k';exact ih2 c'
 |query l T r T' r' k c ih1 ih2=>
  intro U r2 q;cases q with
  |query _ _ _ _ _ k' c'=>obtain⟨rfl,rfl⟩:=ih1 k';exact ih2 c'
 |andEnd T l h=>
  intro U r2 q;cases q with
  |andEnd=>exact⟨rfl,rfl⟩
  |andOn _ _ _ _ _ _ _ h'=>exact absurd h' (h _ _ rfl)
 |andOn T t r U r' T' r'' h k c ih1 ih2=>
  intro U2 r2 q;cases q with
  |andEnd _ _ h'=>exact absurd h (h' _ _ rfl)
  |andOn _ _ _ _ _ _ _ h' k' c'=>obtain⟨rfl,rfl⟩:=ih1 k';exact ih2 c'
 |orEnd T l h=>
  intro U r2 q;cases q with
  |orEnd=>exact⟨rfl,rfl⟩
  |orOn _ _ _ _ _ _ _ h'=>exact absurd h' (h _ _ rfl)
 |orOn T t r U r' T' r'' h k c ih1 ih2=>
  intro U2 r2 q;cases q with
  |orEnd _ _ h'=>exact absurd h (h' _ _ rfl)
  |orOn _ _ _ _ _ _ _ h' k' c'=>obtain⟨rfl,rfl⟩:=ih1 k';exact ih2 c'
def ov(s:ByteArray)(T:QT):Prop:=∃l,qx s 0 l/\PR .query l T []
theorem ov.uniq{s:ByteArray}{T U:QT}(h:ov s T)(k:ov s U):T=U:=by
 obtain⟨l,h1,h2⟩:=h;obtain⟨m,k1,k2⟩:=k;rw[k1.uniq h1]at k2;exact(h2.uniq k2).1
end
end Go.Proofs.YtjfkmoinldlmaaaGreat
