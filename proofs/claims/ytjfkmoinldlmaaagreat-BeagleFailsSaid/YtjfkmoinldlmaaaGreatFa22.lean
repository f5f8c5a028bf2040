/- The walk of BeagleFails, part 22. Correlate of small numbers; the closure of symb.kinds. The counts by kinds are the counts element by element: plain. Blocks of numbers; walks of symb.kinds and symb.check. Walks of symb.Counts and symb.Find. -/
import Derived.Test.YtjfkmoinldlmaaaGreatFa21
namespace Go.Proofs.YtjfkmoinldlmaaaGreat
open Go.Proofs.Tryz
section
set_option maxRecDepth 100000
set_option maxHeartbeats 8000000
open Go.RowKit Go.Shelf
attribute [local go_sem] Oper.semAt_some
theorem arp(A:Nat->Nat)(n c:Nat)(h:∀j,j<n->A j<=c):ss A n<=c:=by
 induction n with
 |zero=>exact cx _
 |succ n ih=>simp only[ss];have:=ih (fun j hj=>h j (by omega));have:=h n (by omega);omega
theorem qd(ap at':Option Addr)(m n cp ct:Nat)(A B:Nat->Nat)(size:Int)(hm1:1<=m)(hm:m<=1000)(hn:n<=100000)(hct:n<=ct)(hA1:∀j,j<m->A j<=65536)(hB1:∀j,j<n->B j<=65536)(hsz:n<m\/vn m size=true)(w:World)(hA:i8 w ap m A w.heap.size)(hB:i8 w at' n B w.heap.size):
 Calls prog 13 #[.slice ap m cp,.slice at' n ct,.int .i64 size] w fun e w'=>∃v z,e=.returned (.tuple #[v,.int .i64 z,.int .i64 0])/\w'.ownsRow w.heap.size 46 1 v (n+1-m) (fh (fun i=>j9 A B i m) (n+1-m))/\Below w.heap.size w w':=by
 by_cases hmn:m<=n
 ·have hs:=hsz.resolve_left (by omega)
  obtain⟨t,ht,rfl,hmN⟩:=sz_pow hs;have g1:=arp A m 65536 hA1;have g2:=arp B n 65536 hB1;have h2:m*(ss A m*ss B n)<=1000*(65536*65536):=Nat.mul_le_mul hm (Nat.mul_le_mul g1 g2);have hck:zt m n ((2^t:Nat):Int) (ss A m) (ss B n) m=0:=by
   unfold zt;rw[if_neg (by omega),if_neg (by rw[hs];decide),if_pos (by omega)]
  refine(anu ap at' m n cp ct t A B hm1 hmn hm hn ht hmN hct hck (by omega) w hA hB).mono ?_;rintro e w'⟨v,rfl,ho,hb⟩;rw[show n-m+1=n+1-m by omega]at ho;exact⟨v,_,rfl,ho,hb⟩
 ·have hc:zt m n size (ss A m) (ss B n) m=0:=by unfold zt;rw[if_pos (by omega)]
  refine(asa ap at' m n cp ct A B size hm hn (.inl (by omega)) w hA hB).mono ?_;rintro e w'⟨rfl,hb⟩;rw[hc];refine⟨.slice none 0 0,0,rfl,?_,hb⟩;rw[show n+1-m=0 by omega];exact bj _ _ _ _
def uw(t:ByteArray)(L:Nat->Nat->Bool)(n:Nat)(c:Nat->Bool)(i:Nat):Nat:=j9 (fun j=>oz (fj (L j) c)) (fun i=>oz (c (tb t i))) i n
structure KX where
 c:Nat->Bool
 v:Value
 z:Int
theorem abp(b:Bool):oz b<=65536:=by cases b<;>decide
theorem fm.keepX{E:Nat->Prop}{w w':World}{ad:Option Addr}{n m:Nat}{L:Nat->Nat->Bool}(h:fm w ad n L m)(hk:kf E w w')(hm:m<=w.heap.size)(hE:∀a,ad=some a->¬E a.block):fm w' ad n L m:=by
 rcases h with h|⟨b,o,ha,hlt,hc⟩
 ·exact .inl h
 ·refine .inr ⟨b,o,ha,hlt,fun j hj=>?_⟩
  obtain⟨h0,h1,h2,h3⟩:=hc j hj;have e:=fun i=>hk.2 b i (by omega) (hE _ ha)
  exact⟨(e _).trans h0,(e _).trans h1,(e _).trans h2,(e _).trans h3⟩
theorem ana(N l B:Nat)(E:Nat->Prop)(ad:Option Addr)(n cap:Nat)(K:Int)(L:Nat->Nat->Bool)(t:ByteArray)(size:Int)(hn1:1<=n)(hn:n<=64)(ht:t.size<=1000)(hsz:t.size<n\/vn n size=true)(W0:World)
 (hE:∀b,E b->b<W0.heap.size) (hEB:¬E B/\¬E (B+1)/\¬E (B+2)) (hEr:∀a,ad=some a->¬E a.block)
 (J:List KX->World->Prop) (W:World) (hW:Below W0.heap.size W0 W) (hJ:AbidesFrom W.heap.size J)
 (hl:fk W B ad n cap K) (htx:Boxed W (B+1) 9 (.string t)) (hst:Boxed W (B+2) 3 (.int .i64 size)) (hR:fm W ad n L W.heap.size)
 (hY:∀pre x W1,J pre W1->W1.ownsRow W0.heap.size 46 1 x.v (t.size+1-n) (fh (uw t L n x.c) (t.size+1-n))->pre.length<(fa L n).length->YieldAt Fence.wide (N-1) prog l #[x.v,.int .i64 x.z] W1 fun e W'=>e=.returned (.bool true)/\J (pre++[x]) W'/\kf E W1 W') (h0:J [] W):
 CallsIn Fence.wide N prog 192 #[.func (.yield l) #[] #[],.pointer (some ⟨B,0,none⟩),.pointer (some ⟨B+1,0,none⟩),.pointer (some ⟨B+2,0,none⟩)] W fun e W'=>(∃v,e=.returned v)/\∃xs:List KX,xs.map (fun x=>x.c)=fa L n/\J xs W':=by
 obtain⟨c0,c1,cl⟩:=hl;have c2:=htx.cell;have c3:=hst.cell;have hsl:=hst.lt;have hz0:=hW.size;have hKl:=iu L n;have hkd:=aa fun w'(h:fm w' ad n L w'.heap.size)=>um ad n cap K L (by omega) w' h
 have hpl:=aa fun c w'(h:fm w' ad n L w'.heap.size)=>afj ad n cap K L c (by omega) w' h
 have hmk:=aa fun c w'=>yf t (by omega) c w'
 have hco:=aa fun(ap at':Option Addr)c w'(h1:i8 w' ap n (fun j=>oz (fj (L j) c)) w'.heap.size)(h2:i8 w' at' t.size (fun i=>oz (c (tb t i))) w'.heap.size)=>qd ap at' n t.size n t.size (fun j=>oz (fj (L j) c)) (fun i=>oz (c (tb t i))) size hn1 (by omega) (by omega) ac (fun j _=>abp _) (fun j _=>abp _) hsz w' h1 h2
 have HR:=aa hR;have HJ:=aa hJ;have HY:=aa hY;have H0:=aa h0;have HE:=aa hE;have HEr:=aa hEr;clear hR hJ hY h0 hE hEr htx hst hW;refine callsIn_of_wp func192 rfl trivial ?_ rfl;simp only[ntmps192,List.size_toArray,bz,List.length_nil,Nat.reduceAdd,Nat.reduceSub,Array.replicate_succ,Array.replicate_zero,List.push_toArray,List.append_toArray,List.nil_append,dk];gi_wp2_with(refine⟨trivial,fun h=>(by cases h),?_⟩;gi_at_call 179;refine(callsIn_wide.2 (hkd.out _ HR.out)).mono ?_;rintro e w1⟨v1,rfl,ho1,hb1⟩;obtain⟨ad1,cap1,rfl⟩:=ey ho1)
 have HO1:=aa ho1;have hR1c:=o7 ho1;have HRk:=aa hR1c;have hz1:=hb1.size;have HR1:=aa (HR.out.below hb1 ac);have HJ1:=aa (HJ.out _ _ _ none H0.out (gn hb1 none) (fun r e=>by cases e));have k0:=(hb1.cell (p:=⟨B,0,none⟩) cl).trans c0;have k1:=(hb1.cell (p:=⟨B,1,none⟩) cl).trans c1;have k2:=(hb1.cell (p:=⟨B+1,0,none⟩) (by show B+1<W.heap.size;omega)).trans c2;have k3:=(hb1.cell (p:=⟨B+2,0,none⟩) (by show B+2<W.heap.size;omega)).trans c3;have HEk:Hid (∀a,ad1=some a->¬E a.block):=aa fun a ha h=>by
  have h1:=HE.out _ h;rcases ho1.2 with⟨h2,_⟩|⟨g,cp,cur,h2,hg,_⟩
  ·rw[ha]at h2;cases h2
  ·rw[ha]at h2;cases h2;exact absurd h1 (by show¬g<W0.heap.size;omega)
 have hgc:Hid (∀k,k<(fa L n).length->(fa L n).take (k+1)=(fa L n).take k++[gc (fa L n) k]):=aa fun k hk=>by
  rw[da hk];simp[gc,hk]
 have hall:Hid ((fa L n).take (fa L n).length=fa L n):=aa (dr);have HW1:Hid (W.heap.size<=w1.heap.size):=aa hz1;clear ho1 hR1c c0 c1 c2 c3 H0;gi_loopw [13] (fun i wr=>∃(k:Nat)(pre:List KX),k<=(fa L n).length/\i=.int .i64 k/\pre.map (fun x=>x.c)=(fa L n).take k/\pre.length=k/\J pre wr/\kf E w1 wr) (fun i _=>(fa L n).length-(intOf i).toNat)
 case atStart=>exact⟨0,[],by omega,rfl,by simp,rfl,HJ1.out,kf.refl _ _⟩
 case round=>
  obtain⟨k,pre,hk,rfl,hpm,hpl2,hJk,hkx⟩:=hrel;have HPM:=aa hpm;have HJk:=aa hJk;have HKX:=aa hkx;have hzr:=hkx.1;clear hpm hJk hkx;by_cases hlt:k<(fa L n).length
  ·have hlti:(k:Int)<(fa L n).length:=by omega
   have r0:=(HKX.out.2 B 0 (by omega) hEB.1).trans k0;have r1:=(HKX.out.2 B 1 (by omega) hEB.1).trans k1;have r2:=(HKX.out.2 (B+1) 0 (by omega) hEB.2.1).trans k2;have r3:=(HKX.out.2 (B+2) 0 (by omega) hEB.2.2).trans k3;have HRr:=aa ((HR1.out.keepX HKX.out hz1 HEr.out).mono (ba hz1 hzr));obtain⟨b,o,rfl,hbm,e0,e1,e2,e3⟩:=(HRk.out.keepX HKX.out ac HEk.out).at hlt;have hbm2:b<wr.heap.size:=by omega
   have HGC:=aa (hgc.out k hlt);generalize hcc:gc (fa L n) k=c at *;have hlB:B+2<wr.heap.size:=by omega
   have hA:Below wr.heap.size wr (wr.alloc (.cells #[.int .u64 (wd c 0:Nat),.int .u64 (wd c 1:Nat),.int .u64 (wd c 2:Nat),.int .u64 (wd c 3:Nat)] 100)):=ae.alloc ac _;have hC:=fc.new wr c;gi_wp2_with fail
   refine wpIn_wide.2 ?_;obtain⟨⟨d0,d1,d2,d3⟩,-,dl⟩:=hC;have q0:=(hA.cell (p:=⟨B,0,none⟩) (show B<wr.heap.size by omega)).trans r0;have q1:=(hA.cell (p:=⟨B,1,none⟩) (show B<wr.heap.size by omega)).trans r1;have q2:=(hA.cell (p:=⟨B+1,0,none⟩) (show B+1<wr.heap.size by omega)).trans r2;have q3:=(hA.cell (p:=⟨B+2,0,none⟩) (show B+2<wr.heap.size by omega)).trans r3;have HRa:=aa ((HRr.out.below hA ac).mono hA.size);have HAa:=aa hA;have hsA:(wr.alloc (.cells #[.int .u64 (wd c 0:Nat),.int .u64 (wd c 1:Nat),.int .u64 (wd c 2:Nat),.int .u64 (wd c 3:Nat)] 100)).heap.size=wr.heap.size+1:=by simp
   clear r0 r1 r2 r3 e0 e1 e2 e3 hA;generalize (wr.alloc (.cells #[.int .u64 (wd c 0:Nat),.int .u64 (wd c 1:Nat),.int .u64 (wd c 2:Nat),.int .u64 (wd c 3:Nat)] 100))=wA at q0 q1 q2 q3 d0 d1 d2 d3 dl HRa HAa hsA⊢;have l0:B<wA.heap.size:=by omega
   have l1:B+1<wA.heap.size:=by omega
   have l2:B+2<wA.heap.size:=by omega
   have HsA:=aa hsA;clear hsA;go_region_held3 (fun w'=>fo wA w') (first|with_reducible exact fo.start _|with_reducible exact fo.calld (fo.refl _) (by with_reducible assumption)|with_reducible exact fo.call (by with_reducible assumption) (by with_reducible assumption)) (first|(go_at_call 149;refine(hpl.out _ _ ((HRa.out.below (show fo wA _ by with_reducible assumption).2.2.2 ac).mono (show fo wA _ by with_reducible assumption).2.2.1)).mono ?_;rintro e wP⟨gP,rfl,hgP,hkP,hbP⟩)|(go_at_call 51;refine(hmk.out _ _).mono ?_;rintro e wM⟨gM,rfl,hgM,hkM,hbM⟩)|(go_at_call 13;first|(refine(hco.out _ _ c _ (hkP.below hbM hkP.lt).row hkM.row).mono ?_;rintro e wC⟨vC,zC,rfl,hoC,hbC⟩)|(refine(hco.out _ _ c _ hkP.row (hkM.below hbP hkM.lt).row).mono ?_;rintro e wC⟨vC,zC,rfl,hoC,hbC⟩)))
   have hAC:Below wA.heap.size wA wC:=(show fo wA wC by with_reducible assumption).2.2.2;have hRC:Below wr.heap.size wr wC:=HAa.out.trans (hAC.mono HAa.out.size);have hJC:=HJ.out _ _ _ none HJk.out (gn hRC none) (fun r e=>by cases e);have hzC:W0.heap.size<=wM.heap.size:=by
    have:=hbM.size;have:=hbP.size;have:=HAa.out.size;simp at *;omega
   have hYx:=HY.out pre ⟨c,vC,zC⟩ wC hJC (fx hoC hzC) (by rw[hpl2];exact hlt);obtain⟨fn,tmps,assign,body,hy,hRR⟩:=hYx;dsimp only at hy;have HRR:=aa hRR;have HKC:=aa (HKX.out.trans (kf.of_below (E:=E) hRC));have HPL:Hid (pre.length=k):=aa hpl2;clear hRR hJC hoC hRC hAC hzC hpl2;gi_wp2
   refine⟨fun h=>(by cases h),HRR.out.mono ?_⟩;rintro e W3⟨rfl,hJ3,hk3⟩;have HJ3:=aa hJ3;have Hk3:=aa hk3;clear hJ3 hk3;gi_wp2
   exact⟨⟨k+1,pre++[⟨c,vC,zC⟩],by omega,by go_num,by rw[ep,HPM.out,HGC.out];rfl,by rw[bd,HPL.out];rfl,HJ3.out,HKC.out.trans Hk3.out⟩,by simp[intOf];omega⟩
  ·obtain rfl:k=(fa L n).length:=by omega
   gi_wp2_with fail
   go_end0
   exact⟨⟨_,rfl⟩,pre,by rw[HPM.out,hall.out],HJk.out⟩
end
section
def ko(t:ByteArray)(L:Nat->Nat->Bool)(n:Nat)(cs:List (Nat->Bool))(i:Nat):Nat:=(cs.map fun c=>uw t L n c i).sum
theorem ac1(t:ByteArray)(L:Nat->Nat->Bool)(n:Nat)(cs:List (Nat->Bool))(c:Nat->Bool)(i:Nat):ko t L n (cs++[c]) i=ko t L n cs i+uw t L n c i:=by
 simp[ko]
theorem aey(p q:Nat->Bool)(i n:Nat):j9 (fun j=>oz (p j)) (fun j=>oz (q j)) i n<=n:=by
 induction n with
 |zero=>exact ac
 |succ n ih=>
  simp only[j9];have:oz (p n)*oz (q (i+n))<=1:=by cases p n<;>cases q (i+n)<;>decide
  omega
theorem aeh(t:ByteArray)(L:Nat->Nat->Bool)(n:Nat)(c:Nat->Bool)(i:Nat):uw t L n c i<=n:=aey (fun j=>fj (L j) c) (fun j=>c (tb t j)) i n
theorem akw(t:ByteArray)(L:Nat->Nat->Bool)(n:Nat)(cs:List (Nat->Bool))(i:Nat):ko t L n cs i<=cs.length*n:=by
 induction cs with
 |nil=>exact cx _
 |cons c cs ih=>
  simp only[ko,List.map_cons,List.sum_cons,bz]at ih⊢;have:=aeh t L n c i;rw[Nat.succ_mul];omega
def ab2(S:Nat->Bool)(b:Nat)(cs:List (Nat->Bool)):Nat:=(cs.map fun c=>oz (fj S c)*oz (c b)).sum
theorem acz(t:ByteArray)(L:Nat->Nat->Bool)(cs:List (Nat->Bool))(i:Nat):ko t L 0 cs i=0:=by
 induction cs with
 |nil=>rfl
 |cons c cs ih=>simp only[ko,List.map_cons,List.sum_cons]at ih⊢;rw[ih];rfl
theorem ac0(t:ByteArray)(L:Nat->Nat->Bool)(n:Nat)(cs:List (Nat->Bool))(i:Nat):ko t L (n+1) cs i=ko t L n cs i+ab2 (L n) (tb t (i+n)) cs:=by
 induction cs with
 |nil=>rfl
 |cons c cs ih=>
  simp only[ko,ab2,List.map_cons,List.sum_cons]at ih⊢;rw[ih];have:uw t L (n+1) c i=uw t L n c i+oz (fj (L n) c)*oz (c (tb t (i+n))):=rfl;omega
theorem xn{S T:Nat->Bool}(h:fj S T=true){b:Nat}(hb:b<256):S b=T b:=(jp S T).1 h b hb
theorem yg{S T:Nat->Bool}(h:fj S T=true)(l:List (Nat->Bool)):nr S l=nr T l:=by
 induction l with
 |nil=>rfl
 |cons U l ih=>
  simp only[nr,List.any_cons]at ih⊢;rw[ih];congr 1;cases h1:fj U S with
  |true=>rw[tp h1 h]
  |false=>
   cases h2:fj U T with
   |false=>rfl
   |true=>rw[tp h2 (by rw[kv];exact h)]at h1;cases h1
theorem xa(S T:Nat->Bool)(l:List (Nat->Bool)):nr S (l++[T])=(nr S l||fj T S):=by simp[nr]
theorem oe{L:Nat->Nat->Bool}{k:Nat}(h:(fj (L k) iz||nr (L k) (fa L k))=true):fa L (k+1)=fa L k:=by
 show(if fj (L k) iz||nr (L k) (fa L k)then fa L k else fa L k++[L k])=_;rw[if_pos h]
theorem og{L:Nat->Nat->Bool}{k:Nat}(h:¬(fj (L k) iz||nr (L k) (fa L k))=true):fa L (k+1)=fa L k++[L k]:=by
 show(if fj (L k) iz||nr (L k) (fa L k)then fa L k else fa L k++[L k])=_;rw[if_neg h]
theorem aic(S:Nat->Bool)(b:Nat)(hb:b<256)(L:Nat->Nat->Bool)(k:Nat):ab2 S b (fa L k)=oz (nr S (fa L k)&&S b):=by
 induction k with
 |zero=>rfl
 |succ k ih=>
  by_cases h:(fj (L k) iz||nr (L k) (fa L k))=true
  ·rw[oe h];exact ih
  ·rw[og h,xa]
   rw[Bool.not_eq_true]at h;have h2:nr (L k) (fa L k)=false:=by
    rw[Bool.or_eq_false_iff]at h;exact h.2
   have h3:ab2 S b (fa L k++[L k])=ab2 S b (fa L k)+oz (fj S (L k))*oz (L k b):=by simp[ab2]
   rw[h3,ih];cases hc:fj S (L k)with
   |true=>
    rw[yg hc,h2,kv,hc,xn hc hb];simp[oz]
   |false=>rw[kv (L k) S,hc];simp[oz]
theorem ari(L:Nat->Nat->Bool)(k:Nat):nr iz (fa L k)=false:=by
 induction k with
 |zero=>rfl
 |succ k ih=>
  by_cases h:(fj (L k) iz||nr (L k) (fa L k))=true
  ·rw[oe h];exact ih
  ·rw[og h,xa,ih]
   rw[Bool.not_eq_true,Bool.or_eq_false_iff]at h;rw[h.1];rfl
theorem ang(L:Nat->Nat->Bool)(n j:Nat)(hj:j<n):nr (L j) (fa L n)= !fj (L j) iz:=by
 induction n with
 |zero=>omega
 |succ n ih=>
  by_cases he:j=n
  ·subst he
   by_cases h:(fj (L j) iz||nr (L j) (fa L j))=true
   ·rw[oe h]
    cases hf:fj (L j) iz with
    |true=>rw[yg hf,ari];rfl
    |false=>rw[hf,Bool.false_or]at h;rw[h];rfl
   ·rw[og h,xa,abm,Bool.or_true]
    rw[Bool.not_eq_true,Bool.or_eq_false_iff]at h;rw[h.1];rfl
  ·have:=ih (by omega)
   by_cases h:(fj (L n) iz||nr (L n) (fa L n))=true
   ·rw[oe h];exact this
   ·rw[og h,xa,this]
    cases hf:fj (L j) iz with
    |false=>rfl
    |true=>
     rw[Bool.not_true,Bool.false_or];cases h3:fj (L n) (L j)with
     |false=>rfl
     |true=>exact absurd (by rw[tp h3 hf];rfl) h
theorem acc_mis(t:ByteArray)(L:Nat->Nat->Bool)(n i:Nat):∀m,m<=n->ko t L m (fa L n) i+ky t L i m=ja L m:=by
 intro m;induction m with
 |zero=>intro _;rw[acz];rfl
 |succ m ih=>
  intro hm;have h1:=ih (by omega);have hb:tb t (i+m)<256:=by have:=jq t (i+m);omega
  rw[ac0,aic _ _ hb,ang L n m (by omega)];have h2:ky t L i (m+1)=ky t L i m+(if L m (tb t (i+m))then 0 else 1):=rfl;have h3:ja L (m+1)=ja L m+(if !fj (L m) iz then 1 else 0):=rfl;rw[h2,h3];cases hf:fj (L m) iz with
  |true=>
   have:L m (tb t (i+m))=true:=xn hf hb;rw[this];simp[oz];omega
  |false=>
   cases L m (tb t (i+m))<;>simp[oz]<;>omega
theorem acy(t:ByteArray)(L:Nat->Nat->Bool)(n i:Nat):((ja L n:Nat):Int)-(ko t L n (fa L n) i:Nat)=(ky t L i n:Nat):=by
 have:=acc_mis t L n i n ac;omega
end
section
set_option maxRecDepth 100000
set_option maxHeartbeats 4000000
open Go.RowKit Go.Shelf
structure kg(w:World)(g n:Nat)(x:Nat->Int):Prop where
 cells:∀j,j<n->w.cell? ⟨g,j,none⟩=some (.int .i64 (x j))
 free:∀j,j<n->w.frozen? ⟨g,j,none⟩=false
 lt:g<w.heap.size
theorem kg.below{w w':World}{g n m:Nat}{x:Nat->Int}(h:kg w g n x)(hb:Below m w w')(hg:g<m):kg w' g n x where
 cells j hj:=(hb.cell (p:=⟨g,j,none⟩) hg).trans (h.cells j hj)
 free j hj:=(hb.frozen (p:=⟨g,j,none⟩) hg).trans (h.free j hj)
 lt:=az h.lt hb.size
theorem kg.congr{w:World}{g n:Nat}{x y:Nat->Int}(h:kg w g n x)(he:∀j,j<n->x j=y j):kg w g n y where
 cells j hj:=by rw[h.cells j hj,he j hj]
 free:=h.free
 lt:=h.lt
theorem kg.set{w:World}{g n:Nat}{x:Nat->Int}(h:kg w g n x)(i:Nat)(b:Int):kg (w.setCell ⟨g,i,none⟩ (.int .i64 b)) g n (fun j=>if j=i then b else x j)where
 cells j hj:=by
  by_cases he:j=i
  ·subst he
   rw[di _ _ _ (by rw[h.cells j hj];rfl),if_pos rfl]
  ·rw[bh _ _ _ _ (by intro e;cases e;exact he rfl),h.cells j hj,if_neg he]
 free j hj:=by rw[de];exact h.free j hj
 lt:=by simpa using h.lt
theorem kg.far{w:World}{g n:Nat}{x:Nat->Int}(h:kg w g n x){p:Addr}(hp:p.block≠g)(v:Value):kg (w.setCell p v) g n x where
 cells j hj:=by rw[bh _ _ _ _ (by intro e;cases e;exact hp rfl)];exact h.cells j hj
 free j hj:=by rw[de];exact h.free j hj
 lt:=by simpa using h.lt
theorem kg.row{w:World}{g n:Nat}{x:Nat->Int}(h:kg w g n x):gg w (some ⟨g,0,none⟩) n x w.heap.size:=
 .inr ⟨g,0,rfl,h.lt,fun j hj=>by rw[dg];exact h.cells j hj⟩
theorem kg.kept{w w':World}{g n:Nat}{x:Nat->Int}{row:Option Nat}(h:kg w g n x)(hg:w.grownBy w' row)(hr:∀r,row=some r->∃o:Obj,w.heap[r]?=some o/\o.isCells=false):kg w' g n x where
 cells j hj:=cell_kept (h.cells j hj) hg hr
 free j hj:=(frozen_kept (h.cells j hj) hg hr).trans (h.free j hj)
 lt:=az h.lt hg.size
theorem makeI(n:Nat)(hn:n<=100000)(w:World):(Instr.makeSlice 24 (.int .i64 (n:Nat)) (.int .i64 (n:Nat))).run prog w=.ok (.slice (some ⟨w.heap.size,0,none⟩) n n) (w.alloc (.cells (madeCells #[.int .i64 0] n) 3)):=by
 obtain⟨i,hi,h1,h2,h3⟩:=info_parts (P:=prog) (show(prog.info? 3).map (fun i=>(i.zero,i.size,i.bytes))=some (some (.int .i64 0),1,8)from by kernel_rfl);have h:=run_make (P:=prog) w 24 3 i (.int .i64 0) underlying24 hi h1 .i64 .i64 n n (by omega) (by omega) (by rw[h3];omega) (by omega);rw[h2,Nat.mul_one]at h;exact h
theorem kg.new(w:World)(n:Nat):kg (w.alloc (.cells (madeCells #[.int .i64 0] n) 3)) w.heap.size n fun _=>0 where
 cells j hj:=by
  rw[World.cell?_alloc_new];have:(madeCells #[.int .i64 0] n).toList[j]?=some (.int .i64 0):=by
   rw[toList_madeCells_one];rw[List.getElem?_replicate,if_pos hj]
  rw[<-Array.getElem?_toList,this]
 free j _:=World.frozen?_alloc_new _ _ _ _
 lt:=by simp
theorem aip(ad:Option Addr)(n cap:Nat)(K:Int)(t:ByteArray)(size:Int)(w:World):
 Calls prog 145 #[lv ad n cap K,.string t,.int .i64 size] w fun e w'=>e=.returned (.func (.func 192) #[] #[.pointer (some ⟨w.heap.size,0,none⟩),.pointer (some ⟨w.heap.size+1,0,none⟩),.pointer (some ⟨w.heap.size+2,0,none⟩)])∧
  fk w' w.heap.size ad n cap K/\Boxed w' (w.heap.size+1) 9 (.string t)/\Boxed w' (w.heap.size+2) 3 (.int .i64 size)/\w'.heap.size=w.heap.size+3/\Below w.heap.size w w':=by
 have hL:=fk.new w ad n cap K;have hT:=Boxed.new (w.alloc (.cells #[.slice ad n cap,.int .i64 K] 52)) 9 (.string t);have hS:=Boxed.new ((w.alloc (.cells #[.slice ad n cap,.int .i64 K] 52)).alloc (.cells #[.string t] 9)) 3 (.int .i64 size);simp only[bg,dy,Nat.reduceAdd]at hT hS;go_enter func145,ntmps145;go_wp2;go_ret;have b1:=(aw (w.heap.size+1) (w.alloc (.cells #[.slice ad n cap,.int .i64 K] 52))).alloc (by simp) (.cells #[.string t] 9);have b2:=(aw (w.heap.size+2) ((w.alloc (.cells #[.slice ad n cap,.int .i64 K] 52)).alloc (.cells #[.string t] 9))).alloc (by simp) (.cells #[.int .i64 size] 3);exact⟨rfl,(hL.below b1 (by omega)).below b2 (by omega),Boxed.below hT b2 (by omega),hS,by simp,((ae.alloc ac _).alloc (by simp) _).alloc (by simp;omega) _⟩
theorem als(ad:Option Addr)(n cap:Nat)(K:Int)(L:Nat->Nat->Bool)(t:ByteArray)(size:Int)(hn:n<=1000)(ht:t.size<=1000)(hr:fv n L K=true)(hsz:t.size<n\/vn n size=true)(w:World)(hR:fm w ad n L w.heap.size):
 Calls prog 143 #[lv ad n cap K,.string t,.int .i64 size] w fun e w'=>e=.returned (.int .i64 0)/\Below w.heap.size w w':=by
 have h1:=aa fun w'=>pg size w'
 have h2:=aa fun w'(h:fm w' ad n L w'.heap.size)=>(show _ from hr▸jn ad n cap K L (by omega) w' h)
 have hL:=fk.new w ad n cap K;have hA:Below w.heap.size w (w.alloc (.cells #[.slice ad n cap,.int .i64 K] 52)):=ae.alloc ac _;have hR1:=aa ((hR.below hA ac).mono hA.size);have hA:=aa hA;have hnI:(n:Int)<=1000:=by omega
 have htI:(t.size:Int)<=1000:=by omega
 clear hR;by_cases hlt:t.size<n
 ·have hltI:(t.size:Int)<n:=by omega
  clear hsz;go_enter func143,ntmps143;go_wp2_with fail
  generalize (w.alloc (.cells #[.slice ad n cap,.int .i64 K] 52))=W1 at hL hR1 hA⊢;refine(h1.out _).mono ?_;rintro e w1⟨rfl,hb1⟩;obtain⟨c0,c1,cl⟩:=id (hL.below hb1 hL.2.2);go_wp2_with fail
  refine(h2.out _ ((hR1.out.below hb1 ac).mono hb1.size)).mono ?_;rintro e w2⟨rfl,hb2⟩;have hb12:=hb1.trans (hb2.mono hb1.size);obtain⟨d0,d1,dl⟩:=id (hL.below hb12 hL.2.2);clear c0 c1 cl;go_wp2_with fail
  go_ret;exact⟨rfl,hA.out.trans (hb12.mono hA.out.size)⟩
 ·have hs:=hsz.resolve_left hlt
  unfold vn at hs;rw[ce,cg]at hs;obtain⟨hs1,hs2⟩:=hs;rw[hs1]at h1;go_enter func143,ntmps143;go_wp2_with fail
  generalize (w.alloc (.cells #[.slice ad n cap,.int .i64 K] 52))=W1 at hL hR1 hA⊢;refine(h1.out _).mono ?_;rintro e w1⟨rfl,hb1⟩;obtain⟨c0,c1,cl⟩:=id (hL.below hb1 hL.2.2);clear hs1;go_wp2_with fail
  refine(h2.out _ ((hR1.out.below hb1 ac).mono hb1.size)).mono ?_;rintro e w2⟨rfl,hb2⟩;have hb12:=hb1.trans (hb2.mono hb1.size);obtain⟨d0,d1,dl⟩:=id (hL.below hb12 hL.2.2);clear c0 c1 cl;go_wp2_with fail
  go_ret;exact⟨rfl,hA.out.trans (hb12.mono hA.out.size)⟩
end
section
set_option maxRecDepth 100000
set_option maxHeartbeats 8000000
open Go.RowKit Go.Shelf
attribute [local go_sem] Oper.semAt_some
theorem amt{W W':World}{base:Nat}{e:TypeId}{size k:Nat}{v:Value}{xs:List Value}{row:Option Nat}(h:W.ownsRow base e size v k xs)(hg:W.grownBy W' row)(hr:∀r,row=some r->∃o:Obj,W.heap[r]?=some o/\o.isCells=false):W'.ownsRow base e size v k xs:=by
 refine h.kept hg ?_;rcases h.2 with⟨rfl,_⟩|⟨g,cap,cur,rfl,_,hgb,_⟩
 ·exact .inl rfl
 ·refine .inr fun e'=>?_
  obtain⟨o,ho,hc⟩:=hr g (by first|exact e'|exact e'.symm);rw[hgb]at ho;cases ho;cases hc
theorem kf.set{E:Nat->Prop}{W:World}{p:Addr}(hp:E p.block)(v:Value):kf E W (W.setCell p v):=
 ⟨by simp,fun b o _ hb=>bh _ _ _ _ (by rintro rfl;exact hb hp)⟩
theorem ae8(ad:Option Addr)(n cap:Nat)(K:Int)(L:Nat->Nat->Bool)(t:ByteArray)(size:Int)(hn1:1<=n)(hn:n<=64)(ht:t.size<=1000)(hr:fv n L K=true)(hsz:t.size<n\/vn n size=true)(w:World)(hR:fm w ad n L w.heap.size):
 Calls prog 86 #[lv ad n cap K,.string t,.int .i64 size] w fun e w'=>∃g z,e=.returned (.tuple #[.slice (some ⟨g,0,none⟩) (t.size+1-n:Nat) (t.size+1-n:Nat),.int .i64 z,.int .i64 0])/\w.heap.size<=g/\kg w' g (t.size+1-n) (fun i=>(ky t L i n:Nat))/\Below w.heap.size w w':=by
 have hck:=aa fun w'(h:fm w' ad n L w'.heap.size)=>als ad n cap K L t size (by omega) ht hr hsz w' h
 have hbd:=aa fun w'(h:fm w' ad n L w'.heap.size)=>acv ad n cap K L (by omega) w' h
 have hkf:=aa fun w'=>aip ad n cap K t size w'
 have HK:=aa fun i=>acy t L n i
 have hL:=fk.new w ad n cap K;have hA:Below w.heap.size w (w.alloc (.cells #[.slice ad n cap,.int .i64 K] 52)):=ae.alloc ac _;have hsA:(w.alloc (.cells #[.slice ad n cap,.int .i64 K] 52)).heap.size=w.heap.size+1:=by simp
 obtain⟨S,hS⟩:∃S,S=t.size+1-n:=⟨_,rfl⟩;rw[<-hS];obtain⟨D,hD⟩:∃D,(t.size:Int)-n+1=D:=⟨_,rfl⟩;have hmx:(if 0<D then D else 0)=(S:Nat):=by split<;>omega
 have hD1: -1000<=D:=by omega
 have hD2:D<=2000:=by omega
 have hS1:S<=1001:=by omega
 have hSI:(S:Int)<=1001:=by omega
 have hmk:=fun w'=>makeI S (by omega) w'
 have hnI:(n:Int)<=64:=by omega
 have htI:(t.size:Int)<=1000:=by omega
 have HS:=aa hS;clear hS;have hbn:ja L n<=n:=by have:=tr L n;omega
 refine(callsIn_wide (n:=9)).1 ?_;refine callsIn_of_wp_marks func86 rfl trivial ?_ rfl;simp only[ntmps86,List.size_toArray,bz,List.length_nil,Nat.reduceAdd,Nat.reduceSub,Array.replicate_succ,Array.replicate_zero,List.push_toArray,List.append_toArray,List.nil_append,dk];obtain⟨a0,a1,al⟩:=id hL;have HR1:=aa ((hR.below hA ac).mono hA.size);have HAA:=aa hA;have HR0:=aa hR;clear hR hA;gi_wp2_with fail
 generalize (w.alloc (.cells #[.slice ad n cap,.int .i64 K] 52))=W1 at a0 a1 al hL HR1 HAA hsA⊢;refine⟨trivial,?_⟩;refine(callsIn_wide.2 (hck.out _ HR1.out)).mono ?_;rintro e w1⟨rfl,hb1⟩;have HR2:=aa ((HR1.out.below hb1 ac).mono hb1.size);obtain⟨c0,c1,cl⟩:=id (hL.below hb1 hL.2.2);have hz1:=hb1.size;have HB1:=aa (HAA.out.trans (hb1.mono HAA.out.size));clear a0 a1 al hb1;have hnew:=kg.new w1 S;have hbox:=Boxed.new (w1.alloc (.cells (madeCells #[.int .i64 0] S) 3)) 24 (.slice (some ⟨w1.heap.size,0,none⟩) S S);have hB2:Below w1.heap.size w1 ((w1.alloc (.cells (madeCells #[.int .i64 0] S) 3)).alloc (.cells #[.slice (some ⟨w1.heap.size,0,none⟩) S S] 24)):=(ae.alloc ac _).alloc (by simp) _;have hnew2:=hnew.kept (World.grownBy_alloc _ (.cells #[.slice (some ⟨w1.heap.size,0,none⟩) S S] 24) none) (fun r e=>by cases e);have hs2:((w1.alloc (.cells (madeCells #[.int .i64 0] S) 3)).alloc (.cells #[.slice (some ⟨w1.heap.size,0,none⟩) S S] 24)).heap.size=w1.heap.size+2:=by simp
 rw[bg]at hbox;gi_wp2_with fail
 generalize ((w1.alloc (.cells (madeCells #[.int .i64 0] S) 3)).alloc (.cells #[.slice (some ⟨w1.heap.size,0,none⟩) S S] 24))=W2 at hbox hB2 hnew2 hs2⊢;have hcg:w.heap.size<w1.heap.size:=by omega
 have HR3:=aa ((HR2.out.below hB2 ac).mono hB2.size);have HHL:=aa ((show fk w1 w.heap.size ad n cap K from⟨c0,c1,cl⟩).below hB2 cl);have HBX:=aa hbox;have HNW:=aa hnew2;have HB2:=aa (HB1.out.trans (hB2.mono (show w.heap.size<=w1.heap.size by omega)));generalize hg:w1.heap.size=g at *;have Hs2:=aa hs2;clear hbox hB2 hnew hnew2 hs2 c0 c1 cl HR2 HR1 HB1 hL HAA hg hz1 hsA hmk hD hmx hD1 hD2;gi_loopw [35] (fun i wr=>∃q:Nat,q<=S/\i=.int .i64 q/\kg wr g S (fun j=>if j<q then(ja L n:Nat)else 0)/\fk wr w.heap.size ad n cap K/\Boxed wr (g+1) 24 (.slice (some ⟨g,0,none⟩) S S)/\Below w.heap.size w wr) (fun i _=>S-(intOf i).toNat)
 case atStart=>exact⟨0,by omega,rfl,HNW.out.congr fun j _=>by rw[if_neg (by omega)],HHL.out,HBX.out,HB2.out⟩
 case round=>
  obtain⟨q,hq,rfl,hB,hl,hx,hb⟩:=hrel;have hxc:=hx.cell;have hxl:=hx.lt;obtain⟨a0,a1,al⟩:=id hl;have HB:=aa hB;have HHl:=aa hl;have HX:=aa hx;have Hb:=aa hb;clear hB hl hx hb;by_cases hlt:q<S
  ·have hlti:(q:Int)<S:=by omega
   have hq0:(0:Int)<=q:=by omega
   have HRr:Hid (fm wr.drew ad n L wr.drew.heap.size):=aa ((HR0.out.below Hb.out.drew ac).mono Hb.out.drew.size);have hgl:=HB.out.lt;have HBd:Hid (kg wr.drew g S (fun j=>if j<q then(ja L n:Nat)else 0)):=aa (HB.out.below (aw wr.heap.size wr).drew hgl);gi_wp2_with fail
   refine wpIn_wide.2 ?_;have hS0:(wr.drew.cell? ⟨g+1,0,none⟩=some (.slice (some ⟨g,0,none⟩) S S)/\wr.drew.cell? ⟨w.heap.size,0,none⟩=some (.slice ad n cap)/\wr.drew.cell? ⟨w.heap.size,1,none⟩=some (.int .i64 K)):=⟨hxc,a0,a1⟩;go_region_held3 (fun w'=>(w'.cell? ⟨g+1,0,none⟩=some (.slice (some ⟨g,0,none⟩) S S)/\w'.cell? ⟨w.heap.size,0,none⟩=some (.slice ad n cap)/\w'.cell? ⟨w.heap.size,1,none⟩=some (.int .i64 K))) (with_reducible assumption) (first|(go_at_call 144;refine(hbd.out _ HRr.out).mono ?_;rintro e w'⟨rfl,hb'⟩;have hBq:=HBd.out.below hb' HBd.out.lt;have f1:=hBq.free q hlt;have d1:=hBq.cells q hlt;have dl:=hBq.lt;have hS1:(w'.cell? ⟨g+1,0,none⟩=some (.slice (some ⟨g,0,none⟩) S S)/\w'.cell? ⟨w.heap.size,0,none⟩=some (.slice ad n cap)/\w'.cell? ⟨w.heap.size,1,none⟩=some (.int .i64 K)):=⟨(hb'.cell (p:=⟨g+1,0,none⟩) hxl).trans hxc,(hb'.cell (p:=⟨w.heap.size,0,none⟩) al).trans a0,(hb'.cell (p:=⟨w.heap.size,1,none⟩) al).trans a1⟩;have hS2:((w'.setCell ⟨g,q,none⟩ (.int .i64 (ja L n:Nat))).cell? ⟨g+1,0,none⟩=some (.slice (some ⟨g,0,none⟩) S S)/\(w'.setCell ⟨g,q,none⟩ (.int .i64 (ja L n:Nat))).cell? ⟨w.heap.size,0,none⟩=some (.slice ad n cap)/\(w'.setCell ⟨g,q,none⟩ (.int .i64 (ja L n:Nat))).cell? ⟨w.heap.size,1,none⟩=some (.int .i64 K)):=by(obtain⟨s0,s1,s2⟩:=hS1;refine⟨?_,?_,?_⟩<;>(rw[bh _ _ _ _ (by intro e;injection e with h1 h2;omega)];first|exact s0|exact s1|exact s2))))
   gi_wp2
   have hbw:Below wr.heap.size wr w':=(aw wr.heap.size wr).drew.trans hb';have hBs:=hBq.set q (ja L n:Nat);have hXs:Boxed (w'.setCell ⟨g,q,none⟩ (.int .i64 (ja L n:Nat))) (g+1) 24 (.slice (some ⟨g,0,none⟩) S S):=(Below.heap_setCell _ _ _ (g+1) (by simp)).trans (Boxed.below HX.out hbw hxl);have hbs:Below w.heap.size w (w'.setCell ⟨g,q,none⟩ (.int .i64 (ja L n:Nat))):=(Hb.out.trans (hbw.mono Hb.out.size)).setCell (p:=⟨g,q,none⟩) (by show w.heap.size<=g;omega) _;have hzz:wr.heap.size<=w'.heap.size:=hb'.size;refine⟨⟨q+1,by omega,by go_num,hBs.congr fun j hj=>?_,⟨hS2.2.1,hS2.2.2,by simp;omega⟩,hXs,hbs⟩,by simp[intOf];omega⟩;by_cases he:j=q
   ·subst he;rw[if_pos rfl,if_pos (by omega)]
   ·rw[if_neg he]
    by_cases h2:j<q
    ·rw[if_pos h2,if_pos (by omega)]
    ·rw[if_neg h2,if_neg (by omega)]
  ·obtain rfl:q=S:=by omega
   have hA:Below wr.heap.size wr (wr.alloc (.cells #[.int .i64 0] 3)):=ae.alloc ac _;have hbox:=Boxed.new wr 3 (.int .i64 0);have hsA:(wr.alloc (.cells #[.int .i64 0] 3)).heap.size=wr.heap.size+1:=by simp
   obtain⟨d0,d1,dl⟩:=id (HHl.out.below hA al);have HHA:=aa (HHl.out.below hA al);clear a0 a1;gi_wp2_with fail
   generalize (wr.alloc (.cells #[.int .i64 0] 3))=WA at hA hbox hsA d0 d1 dl HHA⊢;refine⟨trivial,?_⟩;refine(callsIn_wide.2 (hkf.out _)).mono ?_;rintro e w4⟨rfl,hkl,hkt,hks,hkz,hb4⟩;gi_wp2_with fail
   rw[hsA]at hkl hkt hks hkz hb4;have hz4:w.heap.size<g:=hcg;have hzr:=HB.out.lt;have hb04:Below wr.heap.size wr w4:=hA.trans (hb4.mono (dt _));have x0:=(hb04.cell (p:=⟨g+1,0,none⟩) hxl).trans hxc;have HBl4:=aa (HB.out.below hb04 hzr);have hbx4:=Boxed.below hbox hb4 (by omega);have Hb4:=aa (Hb.out.trans (hb04.mono Hb.out.size));have HR4:=aa (HR0.out.below Hb4.out ac);have HKL:=aa hkl;have HKT:=aa hkt;have HKS:=aa hks;have HKZ:=aa hkz;have HZE:Hid (w4.heap.size=wr.heap.size+4):=aa (by omega);clear hkl hkt hks hkz hb4 hb04 hA hbox hsA hxc dl d0 d1 HHA;have hEa:Hid (∀b,(b=g\/b=wr.heap.size)->b<w4.heap.size):=aa (by have:=HZE.out;rintro b(h|h)<;>omega);have hEb:Hid (¬(wr.heap.size+1=g\/wr.heap.size+1=wr.heap.size)/\¬(wr.heap.size+1+1=g\/wr.heap.size+1+1=wr.heap.size)/\¬(wr.heap.size+1+2=g\/wr.heap.size+1+2=wr.heap.size)):=aa (by omega);have hEc:Hid (∀a:Addr,ad=some a->n≠0->¬(a.block=g\/a.block=wr.heap.size)):=aa (by
    rintro a ha hn0 h
    rcases HR0.out with h0|⟨b,o,hab,hlt,_⟩
    ·exact hn0 h0
    ·rw[ha]at hab;cases hab;simp only at h;omega)
   refine amf rfl (by omega) (gf:=192) (lb:=#[.pointer (some ⟨wr.heap.size+1,0,none⟩),.pointer (some ⟨wr.heap.size+1+1,0,none⟩),.pointer (some ⟨wr.heap.size+1+2,0,none⟩)]) rfl trivial (enters_of func192 (by kernel_rfl) rfl)
    (encs:=fun x:KX=>#[x.v,.int .i64 x.z]) (E:=fun b=>b=g\/b=wr.heap.size) (Sx:=fun x W=>W.ownsRow w4.heap.size 46 1 x.v q (fh (uw t L n x.c) q)) (S:=fun xs=>xs.map (fun x=>x.c)=fa L n) (N:=(fa L n).length)
    (fun l J W hW hJ hY h0=>ana 8 l (wr.heap.size+1) (fun b=>b=g\/b=wr.heap.size) ad n cap K L t size hn1 hn ht hsz w4 hEa.out hEb.out (fun a ha=>hEc.out a ha (by omega)) J W hW hJ
     (HKL.out.below hW HKL.out.2.2) (Boxed.below HKT.out hW HKT.out.lt) (Boxed.below HKS.out hW HKS.out.lt) (((HR4.out.mono (by have:=Hb4.out.size;exact this)).below hW ac).mono hW.size) (by have:=HS.out;rw[<-this];exact hY) h0)
    (fun _=>rfl)
    (fun x A B row hs hg' hr=>amt hs hg' fun r e=>(hr r e).2)
    (fun pre W=>(W.cell? ⟨g+1,0,none⟩=some (.slice (some ⟨g,0,none⟩) q q)/\kg W g q (fun i=>(ja L n:Nat)-(ko t L n (pre.map fun x=>x.c) i:Nat))/\∃z,W.cell? ⟨wr.heap.size,0,none⟩=some (.int .i64 z)/\W.frozen? ⟨wr.heap.size,0,none⟩=false)/\Below w.heap.size w W)
    (OwnFrom.and (Own.from (fun s A B row hs hg' hr=>⟨cell_kept hs.1 hg' hr,hs.2.1.kept hg' hr,by obtain⟨z,h1,h2⟩:=hs.2.2;exact⟨z,cell_kept h1 hg' hr,(frozen_kept h1 hg' hr).trans h2⟩⟩) _) (ownFrom_below ac (by have:=Hb4.out.size;omega)))
    ⟨⟨x0,HBl4.out.congr fun j hj=>by rw[if_pos hj];simp[ko],0,hbx4.cell,hbx4.frozen⟩,Hb4.out⟩
    (fun x=>{tmps:=#[lv ad n cap K,Value.string t,Value.int IntKind.i64 size,
     Value.pointer (some {block:=w.heap.size,off:=0}),undef,undef,Value.slice none 0 0,
     Value.int IntKind.i64 0,Value.int IntKind.i64 0,Value.int IntKind.i64 0,
     Value.pointer (some {block:=g+1,off:=0}),u11,
     Value.pointer (some {block:=wr.heap.size,off:=0}),x.v,Value.int IntKind.i64 x.z,undef,undef,
     Value.agg #[Value.slice ad n cap,Value.int IntKind.i64 K],Value.string t,Value.int IntKind.i64 size,
     Value.int IntKind.i64 0,Value.int IntKind.i64 0,Value.bool false,undef,Value.string t,
     Value.int IntKind.i64 t.size,Value.pointer (some {block:=w.heap.size,off:=0}),Value.slice ad n cap,
     Value.int IntKind.i64 n,Value.int IntKind.i64 (t.size-n),Value.int IntKind.i64 D,
     Value.int IntKind.i64 q,Value.slice (some {block:=g,off:=0}) q q,
     Value.slice (some {block:=g,off:=0}) q q,Value.int IntKind.i64 q,Value.int IntKind.i64 q,
     Value.bool false,u37,u38,u39,u40,u41,u42,u43,
     Value.agg #[Value.slice ad n cap,Value.int IntKind.i64 K],Value.string t,Value.int IntKind.i64 size,
     Value.func (Fn.func 192) #[]
      #[Value.pointer (some {block:=wr.heap.size+1,off:=0}),
       Value.pointer (some {block:=wr.heap.size+1+1,off:=0}),
       Value.pointer (some {block:=wr.heap.size+1+2,off:=0})],
     x.v,Value.int IntKind.i64 x.z,undef,undef,undef,undef,undef,undef,undef,undef,undef,undef,undef,undef,undef,
     undef,undef,undef,undef,undef,undef,undef,undef],defers:=[]}) ?assign ?body ?done
   case assign=>
    intro l x W K hK;gi_wp2
    exact hK
   case body=>
    rintro l pre⟨c,v,zx⟩W⟨⟨e0,hBk,z,e1,f1⟩,hBw⟩hrow hlen;dsimp only at hrow;obtain⟨ad5,cap5,rfl⟩:=ey hrow;obtain⟨wx,rfl⟩:∃wx,wx=wr:=⟨wr,rfl⟩;have hAcc:=fun j=>akw t L n (pre.map fun x=>x.c) j
    have hpl:pre.length<=64:=by have:=iu L n;omega
    have hAc2:Hid (∀j,ko t L n (pre.map fun x=>x.c) j<=4096):=aa fun j=>by
     have h1:=hAcc j;rw[List.length_map]at h1;have:=Nat.mul_le_mul hpl hn;omega
    have hHc:Hid (∀j,uw t L n c j<=64):=aa fun j=>by have:=aeh t L n c j;omega
    have HSN:Hid (∀j,ko t L n ((pre++[(⟨c,.slice ad5 q cap5,zx⟩:KX)]).map fun x=>x.c) j=ko t L n (pre.map fun x=>x.c) j+uw t L n c j):=aa fun j=>by
     rw[ep];exact ac1 t L n _ c j
    clear hAcc;have HROW:=aa hrow;have HBK:=aa hBk;have HBW:=aa hBw;have hWz:=hBw.size;have hal:wx.heap.size<W.heap.size:=by
     rcases Nat.lt_or_ge wx.heap.size W.heap.size with h|h
     ·exact h
     ·exfalso;unfold World.cell? at e1;simp[Array.getElem?_eq_none h]at e1
    clear hrow hBk hBw;generalize ko t L n (pre.map fun x=>x.c)=A at *;generalize uw t L n c=H at *;gi_wp2_with fail
    gi_loopw [55] (fun i wr=>∃q2:Nat,q2<=q/\i=.int .i64 q2/\kg wr g q (fun j=>(ja L n:Nat)-(A j:Nat)-(if j<q2 then(H j:Nat)else 0))/\(∃z,wr.cell? ⟨wx.heap.size,0,none⟩=some (.int .i64 z)/\wr.frozen? ⟨wx.heap.size,0,none⟩=false)/\kf (fun b=>b=g\/b=wx.heap.size) W wr/\KeepsFrom w4.heap.size W wr/\Below w.heap.size w wr) (fun i _=>q-(intOf i).toNat)
    case atStart=>
     exact⟨0,by omega,rfl,(HBK.out.far (p:=⟨wx.heap.size,0,none⟩) (by simp;omega) _).congr fun j _=>by rw[if_neg (by omega)];omega,⟨_,di _ _ _ (by rw[e1];rfl),by rw[de];exact f1⟩,kf.set (.inr rfl) _,(KeepsOthers.setCell _ _ _).from _,HBW.out.setCell (p:=⟨wx.heap.size,0,none⟩) (by show w.heap.size<=wx.heap.size;omega) _⟩
    case round=>
     obtain⟨q2,hq2,rfl,hB2,⟨z2,y1,y2⟩,hkx,hkf2,hbw⟩:=hrel;have HB2:=aa hB2;have HKX:=aa hkx;have HKF:=aa hkf2;have HBW2:=aa hbw;have x0:=(hkx.2 (g+1) 0 (by omega) (by omega)).trans e0;have hze:=HZE.out;clear hB2 hkx hkf2 hbw;by_cases hlt:q2<q
     ·have hlti:(q2:Int)<q:=by omega
      have hq0:(0:Int)<=q2:=by omega
      obtain⟨g5,cap6,hv5,hge5,hlt5⟩:=oa HROW.out (by omega:0<q);obtain⟨b5,o5,rfl,hb5l,hc5⟩:=(j5 HROW.out).at hlt;obtain rfl:b5=g5:=by cases hv5;rfl
      have x1:=(HKX.out.2 b5 (o5+q2) hb5l (by omega)).trans hc5;have d1:=HB2.out.cells q2 hlt;have f2:=HB2.out.free q2 hlt;have dl:=HB2.out.lt;rw[if_neg (by omega)]at d1;have hA1:=hAc2.out q2;have hH1:=hHc.out q2;obtain⟨av,hav⟩:∃av:Int,av=(ja L n:Nat)-(A q2:Nat):=⟨_,rfl⟩;rw[show((ja L n:Nat):Int)-(A q2:Nat)-((0:Nat):Int)=av by omega]at d1;have hav1: -4096<=av:=by omega
      have hav2:av<=64:=by omega
      have HAV:=aa hav;obtain⟨hv,hhv⟩:∃hv,hv=H q2:=⟨_,rfl⟩;rw[<-hhv]at x1 hH1;have hH2:(hv:Int)<=64:=by omega
      have HHV:=aa hhv;clear hav hhv hc5 hv5 hze;gi_wp2_with fail
      refine⟨⟨q2+1,by omega,by go_num,(HB2.out.set q2 (av-hv)).congr fun j hj=>?_,⟨z2,by rw[bh _ _ _ _ (by intro e;injection e with h1 h2;omega)];exact y1,by rw[de];exact y2⟩,HKX.out.trans (kf.set (.inl rfl) _),HKF.out.trans ((KeepsOthers.setCell _ _ _).from _),HBW2.out.setCell (p:=⟨g,q2,none⟩) (by show w.heap.size<=g;omega) _⟩,by simp[intOf];omega⟩;have h1:=HAV.out;have h2:=HHV.out;by_cases he:j=q2
      ·subst he;rw[if_pos rfl,if_pos (by omega)];omega
      ·rw[if_neg he]
       by_cases h3:j<q2
       ·rw[if_pos h3,if_pos (by omega)]
       ·rw[if_neg h3,if_neg (by omega)]
     ·obtain rfl:q2=q:=by omega
      gi_wp2_with fail
      exact⟨HKF.out,HKX.out,⟨x0,HB2.out.congr fun j hj=>by rw[if_pos hj,HSN.out];omega,z2,y1,y2⟩,HBW2.out⟩
   case done=>
    rintro D' xs W hD hxs⟨⟨e0,hBk,z,e1,f1⟩,hBw⟩hK;have HBK:Hid (kg W g q fun i=>(ky t L i n:Nat)):=aa (hBk.congr fun j _=>by rw[hxs];exact HK.out j);clear hBk;gi_wp2_with fail
    refine wpIn_wide.2 ?_;go_quiet(fail)
    gi_wp2
    refine⟨by simp,.inl ⟨_,_,rfl,run_takeDeferred hK,?_⟩⟩;have hDz:w.heap.size<=D':=by have:=Hb4.out.size;omega
    refine⟨_,results_tmp3 rfl _ _ _,g,z,rfl,by omega,?_,?_⟩
    ·refine kg.kept (w:=W.drewN nq) (HBK.out.below (cu ae nq) HBK.out.lt) (row:=some D') (grownBy_putObj' _ D' (.deferred none)) fun r e=>?_
     cases e;exact⟨_,hK,rfl⟩
    ·exact(cu hBw nq).trans (belowK_b (w:=w) ac _ D' _ (.deferred none) hDz hK rfl rfl)
theorem alq(ad:Option Addr)(n cap:Nat)(K:Int)(L:Nat->Nat->Bool)(t:ByteArray)(size:Int)(hn1:1<=n)(hn:n<=64)(ht:t.size<=1000)(hr:fv n L K=true)(hsz:t.size<n\/vn n size=true)(w:World)(hR:fm w ad n L w.heap.size):
 Calls prog 85 #[lv ad n cap K,.string t,.int .i64 size] w fun e w'=>∃v z,e=.returned (.tuple #[v,.int .i64 z,.int .i64 0])/\w'.ownsRow w.heap.size 3 1 v (qz t n L K (kh 0 (many t n L K 0))).length (ga (qz t n L K (kh 0 (many t n L K 0))))/\Below w.heap.size w w':=by
 have hmany:many t n L K 0=t.size+1-n:=by unfold many;rw[hr,if_pos rfl];omega
 have h1:=aa fun w'(h:fm w' ad n L w'.heap.size)=>ae8 ad n cap K L t size hn1 hn ht hr hsz w' h
 have h2:=fun ad' cap' w'(h:gg w' ad' (t.size+1-n) (gi ((kh 0 (t.size+1-n)).map fun i=>((ky t L i n:Nat):Int))) w'.heap.size)=>af7 ad' (t.size+1-n) cap' (gi ((kh 0 (t.size+1-n)).map fun i=>((ky t L i n:Nat):Int))) K (by omega) w' h
 rw[abd t n L K (t.size+1-n) (t.size+1-n) ac]at h2;rw[hmany];have H2:=aa h2;have HG:Hid (∀j,j<t.size+1-n->((ky t L j n:Nat):Int)=gi ((kh 0 (t.size+1-n)).map fun i=>((ky t L i n:Nat):Int)) j):=aa fun j hj=>by
  unfold gi kh;simp[hj]
 generalize gi ((kh 0 (t.size+1-n)).map fun i=>((ky t L i n:Nat):Int))=G at *;generalize qz t n L K (kh 0 (t.size+1-n))=F at *;clear h2 hmany;have hL:=fk.new w ad n cap K;have hA:Below w.heap.size w (w.alloc (.cells #[.slice ad n cap,.int .i64 K] 52)):=ae.alloc ac _;have HR1:=aa ((hR.below hA ac).mono hA.size);have HA:=aa hA;have HL:=aa hL;obtain⟨c0,c1,cl⟩:=hL;clear hA hR;generalize t.size+1-n=S at *;go_enter func85,ntmps85;go_wp2_with fail
 refine(h1.out _ HR1.out).mono ?_;rintro e w1⟨g,z,rfl,hg,hB,hb1⟩;obtain⟨d0,d1,dl⟩:=id (HL.out.below hb1 cl);have HB:=aa hB;have Hb1:=aa (HA.out.trans (hb1.mono HA.out.size));clear hB hb1;go_wp2_with fail
 refine(H2.out _ _ _ (HB.out.row.congr HG.out)).mono ?_;rintro e w2⟨v,rfl,ho,hb2⟩;have hzz:=Hb1.out.size;go_wp2_with fail
 refine ay (results_tmp3 rfl _ _ _) rfl ?_;exact⟨v,z,rfl,fx ho hzz,Hb1.out.trans (hb2.mono hzz)⟩
end
end Go.Proofs.YtjfkmoinldlmaaaGreat
