/- The walk of BeagleFails, part 21. The walk of block.Correlate, where it tells sums. -/
import Derived.Test.YtjfkmoinldlmaaaGreatFa20
namespace Go.Proofs.YtjfkmoinldlmaaaGreat
open Go.Proofs.Tryz
section
set_option maxRecDepth 100000
set_option maxHeartbeats 8000000
open Go.RowKit Go.Shelf
attribute [local go_sem] Oper.semAt_some
def sn(w:World)(s N t m:Nat)(A:Nat->Nat)(k:Nat):Prop:=
 ∃g y,w.cell? ⟨s,k,none⟩=some (.slice (some ⟨g,0,none⟩) N N)/\s<g/\jm w g N y/\∀j,j<N->(ph (y j):Fin (P3 k))=dft (fun i=>ph (pt A N m i)) (ph (jr k t)) N j
theorem sn.below{w w':World}{s N t m k:Nat}{A:Nat->Nat}(h:sn w s N t m A k)(hb:Below w.heap.size w w'):sn w' s N t m A k:=by
 obtain⟨g,y,hc,hg,hB,hy⟩:=h;exact⟨g,y,(hb.cell (p:=⟨s,k,none⟩) (Nat.lt_trans hg hB.lt)).trans hc,hg,hB.below hb hB.lt,hy⟩
theorem sn.set{w:World}{s N t m k i:Nat}{A:Nat->Nat}(h:sn w s N t m A k)(hi:k≠i)(v:Value):sn (w.setCell ⟨s,i,none⟩ v) s N t m A k:=by
 obtain⟨g,y,hc,hg,hB,hy⟩:=h;refine⟨g,y,?_,hg,⟨fun j hj=>?_,fun j hj=>?_,by simpa using hB.lt⟩,hy⟩
 ·rw[bh _ _ _ _ (by intro e;cases e;exact hi rfl)];exact hc
 ·rw[bh _ _ _ _ (by intro e;cases e;omega)];exact hB.cells j hj
 ·rw[de];exact hB.free j hj
def xt(w:World)(r N many a:Nat)(X:Nat->Nat)(k:Nat):Prop:=
 ∃g z c,w.cell? ⟨r,k,none⟩=some (.slice (some ⟨g,0,none⟩) many c)/\r<g/\jm w g N z/\∀i,i<many->z i%P3 k=X (a+i)%P3 k
theorem xt.below{w w':World}{r N many a k:Nat}{X:Nat->Nat}(h:xt w r N many a X k)(hb:Below w.heap.size w w'):xt w' r N many a X k:=by
 obtain⟨g,z,c,hc,hg,hB,hy⟩:=h;exact⟨g,z,c,(hb.cell (p:=⟨r,k,none⟩) (Nat.lt_trans hg hB.lt)).trans hc,hg,hB.below hb hB.lt,hy⟩
theorem xt.set{w:World}{r N many a k i:Nat}{X:Nat->Nat}(h:xt w r N many a X k)(hi:k≠i)(v:Value):xt (w.setCell ⟨r,i,none⟩ v) r N many a X k:=by
 obtain⟨g,z,c,hc,hg,hB,hy⟩:=h;refine⟨g,z,c,?_,hg,⟨fun j hj=>?_,fun j hj=>?_,by simpa using hB.lt⟩,hy⟩
 ·rw[bh _ _ _ _ (by intro e;cases e;exact hi rfl)];exact hc
 ·rw[bh _ _ _ _ (by intro e;cases e;omega)];exact hB.cells j hj
 ·rw[de];exact hB.free j hj
def qq(w:World)(s:Nat):Prop:=∀k,k<3->(w.cell? ⟨s,k,none⟩).isSome=true/\w.frozen? ⟨s,k,none⟩=false
theorem qq.below{w w':World}{s n:Nat}(h:qq w s)(hb:Below n w w')(hs:s<n):qq w' s:=fun k hk=>by
 rw[hb.cell (p:=⟨s,k,none⟩) hs,hb.frozen (p:=⟨s,k,none⟩) hs];exact h k hk
theorem qq.set{w:World}{s:Nat}(h:qq w s)(i:Nat)(hi:i<3)(v:Value):qq (w.setCell ⟨s,i,none⟩ v) s:=fun k hk=>by
 refine⟨?_,by rw[de];exact(h k hk).2⟩;by_cases he:k=i
 ·subst he;rw[di _ _ _ (h k hk).1];rfl
 ·rw[bh _ _ _ _ (by intro e;cases e;exact he rfl)];exact(h k hk).1
theorem qq.new(w:World):qq (w.alloc (.cells #[.slice none 0 0,.slice none 0 0,.slice none 0 0] 90)) w.heap.size:=fun k hk=>by
 have:k=0\/k=1\/k=2:=by omega
 rcases this with rfl|rfl|rfl<;>simp[go_sem]
theorem Boxed.appended3{W w1:World}{m n₀ B:Nat}{t e:TypeId}{size:Nat}{v v':Value}{k q:Nat}{xs ys:List Value}
 (hv:Boxed W B t v) (hte:t≠e) (hrow:W.ownsRow n₀ e size v k xs) (hn₀:n₀<=W.heap.size) (hm:m<=B) (hmn:m<=n₀)
 (hown':w1.ownsRow n₀ e size v' q ys) (hgrow:W.grownBy w1 v.ownBlock):
 Boxed w1 B t v/\Boxed (w1.setCell ⟨B,0,none⟩ v') B t v'/\(w1.setCell ⟨B,0,none⟩ v').ownsRow n₀ e size v' q ys/\KeepsOthers W (w1.setCell ⟨B,0,none⟩ v')/\Below m W (w1.setCell ⟨B,0,none⟩ v')∧
  ∀b o,b<n₀->b≠B->(w1.setCell ⟨B,0,none⟩ v').cell? ⟨b,o,none⟩=W.cell? ⟨b,o,none⟩:=by
 have hv1:Boxed w1 B t v:=hv.kept hgrow (hv.not_row hte hrow);have hlt:=hrow.lt;refine⟨hv1,hv1.set v',hown'.kept (grownBy_setCell' w1 B v') (.inr (hv1.not_row hte hown').symm),?_,?_,?_⟩
 ·refine(KeepsOthers.of_grownBy hgrow fun j o ej hj=>?_).trans (KeepsOthers.setCell _ _ _)
  rcases hrow.2 with⟨rfl,_⟩|⟨g,cap,cur,rfl,_,hgb,_⟩
  ·simp[Value.ownBlock]at ej
  ·obtain rfl:g=j:=by simpa[Value.ownBlock]using ej
   rw[hgb]at hj;cases hj;rfl
 ·exact((aw m W).grown hgrow (by omega) fun j ej=>ba hmn (hlt j ej).1).setCell (p:=⟨B,0,none⟩) hm v'
 ·intro b o hb hne
  have h1:=World.cell?_of_block (a:=⟨b,o,none⟩) ((grownBy_setCell' w1 B v').block b (by have:=hgrow.size;show b<w1.heap.size;omega) (fun e=>hne (by cases e;rfl)));have h2:=World.cell?_of_block (a:=⟨b,o,none⟩) (hgrow.block b (by show b<W.heap.size;omega) (fun e=>by have:=(hlt b e.symm).1;omega));exact h1.trans h2
theorem anu(ap at':Option Addr)(m n cp ct t:Nat)(A B:Nat->Nat)(hm1:1<=m)(hmn:m<=n)(hm:m<=1000)(hn:n<=100000)(ht:t<=12)(hmN:m<=2^t)(hct:n<=ct)(hck:zt m n ((2^t:Nat):Int) (ss A m) (ss B n) m=0)(hsm:m*(ss A m*ss B n)<=18446744073709551615)(w:World)(hA:i8 w ap m A w.heap.size)(hB:i8 w at' n B w.heap.size):
 Calls prog 13 #[.slice ap m cp,.slice at' n ct,.int .i64 ((2^t:Nat):Int)] w fun e w'=>∃v,e=.returned (.tuple #[v,.int .i64 (ux m n ((2^t:Nat):Int)),.int .i64 0])/\w'.ownsRow w.heap.size 46 1 v (n-m+1) (fh (fun i=>j9 A B i m) (n-m+1))/\Below w.heap.size w w':=by
 have hNN:2^t<=4096:=by
  have:2^t<=2^12:=Nat.pow_le_pow_right (by decide) ht;omega
 have hck:=aa fun w'(h1:i8 w' ap m A w'.heap.size)(h2:i8 w' at' n B w'.heap.size)=>(show _ from hck▸abr ap at' m n cp ct A B ((2^t:Nat):Int) (by omega) hn w' h1 h2)
 have hsl:=aa fun w'=>ry (m:Int) (n:Int) (by omega) (by omega) w'
 have hcn:=aa fun w'=>yj (m:Int) (n:Int) ((2^t:Nat):Int) (by omega) (by omega) (by omega) (by omega) w'
 have htu:=aa fun w'(h:i8 w' ap m A w'.heap.size)=>ag8 ap m cp (2^t) A hmN (by omega) w' h
 have hfw:=aa fun k(hk:k<3)ad cap X w'(h:i8 w' ad (2^t) X w'.heap.size)=>aga k hk t ht ad cap X w' h
 have hiv:=aa fun k(hk:k<3)ad cap X w'(h:i8 w' ad (2^t) X w'.heap.size)=>af3 k hk t ht ad cap X w' h
 have hwd:=aa fun ad len cap X(hl:len<=2^t)w'(h:i8 w' ad len X w'.heap.size)=>aoq ad len cap (2^t) X hl (by omega) w' h
 have hml:=aa fun k(hk:k<3)a b w'=>uk k hk a b w'
 have hrw:=aa aph;have hex:=aa fun k at'' len hk y f z o hlen hy hf hz ho i hi hin=>an8 k t m n at'' len hk ht A B y f z o hmN hlen hy hf hz ho i hi hin hm1
 have hss:=aa fun i hin=>alm A B m n i hin hsm
 obtain⟨W3,hW3,q0,q1,q2,hs3,hb3⟩:=abk at' n ct ((2^t:Nat):Int) w;have hN1:1<=2^t:=Nat.two_pow_pos t;generalize ux (m:Int) (n:Int) ((2^t:Nat):Int)=C at *;generalize hNe:2^t=N at *;have HA:=aa (hA.below hb3 ac);have HB:=aa (hB.below hb3 ac);have Hb3:=aa hb3;have HW3:=aa hW3;have hNI:(N:Int)<=4096:=by omega
 have hNI1:(1:Int)<=N:=by omega
 have hmI:(1:Int)<=m:=by omega
 have hmI2:(m:Int)<=N:=by omega
 have hnI:(m:Int)<=n:=by omega
 have hnI2:(n:Int)<=100000:=by omega
 clear hA hB hb3 hW3 hsm;refine(callsIn_wide (n:=9)).1 ?_;refine callsIn_of_wp_marks func13 rfl trivial ?_ rfl;simp only[ntmps13,List.size_toArray,bz,List.length_nil,Nat.reduceAdd,Nat.reduceSub,Array.replicate_succ,Array.replicate_zero,List.push_toArray,List.append_toArray,List.nil_append,dk];gi_wp2_with fail
 gi_region
 rw[HW3.out];have c0:w.heap.size<W3.heap.size:=by omega
 have c1:w.heap.size+1<W3.heap.size:=by omega
 have c2:w.heap.size+2<W3.heap.size:=by omega
 gi_wp2_with(refine⟨trivial,?_⟩;gi_at_call 33;refine(callsIn_wide.2 (hck.out _ (HA.out.mono (by omega)) (HB.out.mono (by omega)))).mono ?_;rintro e w1⟨rfl,hb⟩;have p0:=(hb.cell (p:=⟨w.heap.size,0,none⟩) c0).trans q0;have p1:=(hb.cell (p:=⟨w.heap.size+1,0,none⟩) c1).trans q1;have p2:=(hb.cell (p:=⟨w.heap.size+2,0,none⟩) c2).trans q2)
 gi_wp2_with(refine⟨trivial,?_⟩;gi_at_call 34;refine(callsIn_wide.2 (hsl.out _)).mono ?_;rintro e w2⟨rfl,hb2⟩)
 have HB2:Hid (Below W3.heap.size W3 w2):=aa (hb.trans (hb2.mono hb.size));have hz2:W3.heap.size<=w2.heap.size:=HB2.out.size;have H0:=aa ((HB2.out.cell (p:=⟨w.heap.size,0,none⟩) c0).trans q0);have H1:=aa ((HB2.out.cell (p:=⟨w.heap.size+1,0,none⟩) c1).trans q1);have H2:=aa ((HB2.out.cell (p:=⟨w.heap.size+2,0,none⟩) c2).trans q2);have HAr:=aa ((HA.out.below HB2.out (by omega)).mono (show w.heap.size<=w2.heap.size by omega));have HBr:=aa ((HB.out.below HB2.out (by omega)).mono (show w.heap.size<=w2.heap.size by omega));have HBw:Hid (Below w.heap.size w w2):=aa (Hb3.out.trans (HB2.out.mono (by omega)));have hfree:=qq.new w2;have hbel:Below w2.heap.size w2 (w2.alloc (.cells #[.slice none 0 0,.slice none 0 0,.slice none 0 0] 90)):=ae.alloc ac _;have hls:w2.heap.size<(w2.alloc (.cells #[.slice none 0 0,.slice none 0 0,.slice none 0 0] 90)).heap.size:=by simp
 have hBr0:=HBr;generalize w2.alloc (.cells #[.slice none 0 0,.slice none 0 0,.slice none 0 0] 90)=Wl at hfree hbel hls⊢;have hcs:w.heap.size+3<=w2.heap.size:=by omega
 generalize hs:w2.heap.size=s at *;have HF:=aa hfree;have HBl:=aa hbel;clear hfree hbel p0 p1 p2 hb hb2 q0 q1 q2 HA HB HB2 Hb3 HW3 hck hsl;gi_loopw [41] (fun i wr=>∃k:Nat,k<=3/\i=.int .i64 k/\(∀j,j<k->sn wr s N t m A j)/\qq wr s/\Below s w2 wr/\s<wr.heap.size) (fun i _=>3-(intOf i).toNat)
 case atStart=>exact⟨0,by omega,rfl,fun j h=>absurd h (Nat.not_lt_zero j),HF.out,HBl.out,hls⟩
 case round=>
  obtain⟨k,hk,rfl,hSl,hFr,hb,hls2⟩:=hrel;have HSl:=aa hSl;have HFr:=aa hFr;have Hb:=aa hb;clear hSl hFr hb;by_cases hlt:k<3
  ·have hlti:(k:Int)<3:=by omega
   have hk0:(0:Int)<=k:=by omega
   have p1:=(Hb.out.cell (p:=⟨w.heap.size+1,0,none⟩) (show w.heap.size+1<s by omega)).trans H1.out;have lp1:w.heap.size+1<wr.heap.size:=by omega
   gi_wp2_with(refine⟨trivial,?_⟩;gi_at_call 36;refine(callsIn_wide.2 (htu.out _ ((HAr.out.below Hb.out ac).mono (dj hls2)))).mono ?_;rintro e w3⟨g,rfl,hg,hB3,hb3⟩)
   gi_wp2_with(refine⟨trivial,?_⟩;gi_at_call 35;refine(callsIn_wide.2 (hfw.out k hlt _ _ _ _ hB3.row)).mono ?_;rintro e w4⟨g4,y,rfl,hg4,hB4,hy4,hb4⟩;have hb34:=hb3.trans (hb4.mono hb3.size);have hFr4:=HFr.out.below hb34 hls2;have l4:s<w4.heap.size:=az hls2 hb34.size;obtain⟨i1,f1⟩:=hFr4 k hlt;obtain⟨cv,d1⟩:=Option.isSome_iff_exists.1 i1)
   have hsg:s<g4:=az hls2 (ba hb3.size hg4);refine⟨⟨k+1,by omega,by go_num,fun j hj=>?_,hFr4.set k hlt _,(Hb.out.trans (hb34.mono (dj hls2))).setCell (p:=⟨s,k,none⟩) ac _,by simpa using l4⟩,by simp[intOf];omega⟩;by_cases he:j=k
   ·subst he
    refine⟨g4,y,?_,hsg,⟨fun u hu=>?_,fun u hu=>?_,by simpa using hB4.lt⟩,hy4⟩
    ·rw[di _ _ _ (by rw[d1];rfl)]
    ·rw[bh _ _ _ _ (by intro e;cases e;omega)];exact hB4.cells u hu
    ·rw[de];exact hB4.free u hu
   ·exact((HSl.out j (by omega)).below hb34).set he _
  ·obtain rfl:k=3:=by omega
   have p0:=(Hb.out.cell (p:=⟨w.heap.size,0,none⟩) (show w.heap.size<s by omega)).trans H0.out;have p1:=(Hb.out.cell (p:=⟨w.heap.size+1,0,none⟩) (show w.heap.size+1<s by omega)).trans H1.out;have p2:=(Hb.out.cell (p:=⟨w.heap.size+2,0,none⟩) (show w.heap.size+2<s by omega)).trans H2.out;have lp0:w.heap.size<wr.heap.size:=by omega
   have lp1:w.heap.size+1<wr.heap.size:=by omega
   have lp2:w.heap.size+2<wr.heap.size:=by omega
   gi_wp2_with(refine⟨trivial,?_⟩;gi_at_call 37;refine(callsIn_wide.2 (agp _ _ _)).mono ?_;rintro e w5⟨rfl,hS5,hE5,hz5,hb5⟩)
   have hbO:=(aw wr.heap.size wr).alloc ac (.cells #[.slice none 0 0] 42);have bO:=Boxed.new wr 42 (.slice none 0 0);have hzO:(wr.alloc (.cells #[.slice none 0 0] 42)).heap.size=wr.heap.size+1:=by simp
   generalize wr.alloc (.cells #[.slice none 0 0] 42)=WO at hbO bO hzO hS5 hE5 hz5 hb5⊢;have hb05:Below wr.heap.size wr w5:=hbO.trans (hb5.mono hbO.size);have HSl5:Hid (∀j,j<3->∃g y,w5.cell? ⟨s,j,none⟩=some (.slice (some ⟨g,0,none⟩) N N)/\g<wr.heap.size/\jm w5 g N y/\∀u,u<N->(ph (y u):Fin (P3 j))=dft (fun i=>ph (pt A N m i)) (ph (jr j t)) N u):=aa fun j hj=>by
    obtain⟨g,y,hc,hg,hB,hy⟩:=HSl.out j hj;exact⟨g,y,(hb05.cell (p:=⟨s,j,none⟩) (Nat.lt_trans hg hB.lt)).trans hc,hB.lt,hB.below hb05 hB.lt,hy⟩
   have bO5:Boxed w5 wr.heap.size 42 (.slice none 0 0):=Boxed.below bO hb5 (by omega);rw[hzO]at hS5 hE5 hz5;obtain⟨o,ho⟩:∃o,o=wr.heap.size:=⟨_,rfl⟩;have P0:=aa ((hb05.cell (p:=⟨w.heap.size,0,none⟩) lp0).trans p0);have P1:=aa ((hb05.cell (p:=⟨w.heap.size+1,0,none⟩) lp1).trans p1);have P2:=aa ((hb05.cell (p:=⟨w.heap.size+2,0,none⟩) lp2).trans p2);have HB5:Hid (i8 w5 at' n B s):=aa (((hBr0.out.below Hb.out (by omega)).below hb05 (by omega)));have HW5:Hid (Below w.heap.size w w5):=aa ((HBw.out.trans (Hb.out.mono (by omega))).trans (hb05.mono (by omega)));rw[<-ho]at hS5 hE5 hz5 bO5 lp0 lp1 lp2 hls2 HSl5⊢;clear p0 p1 p2 hb5 hb05 hbO bO hzO Hb HFr HSl HBr HAr H0 H1 H2 HF HBl htu ho;obtain⟨S,hS⟩:∃S:Nat,S=n-m+1:=⟨_,rfl⟩;obtain⟨E,hE⟩:∃E:Nat,E=N-m+1:=⟨_,rfl⟩;have hSI:(n:Int)-m+1=(S:Nat):=by omega
   have hEI:(N:Int)-m+1=(E:Nat):=by omega
   rw[hSI]at hS5;rw[hEI]at hE5;have hwhole:=aa (an7 S E (fun i=>j9 A B i m) (by omega) (by omega));have hS1:1<=S:=by omega
   have hE1:1<=E:=by omega
   have hSm:S+m=n+1:=by omega
   have hEm:E+m=N+1:=by omega
   clear hS hE hSI hEI;obtain⟨AT,hAT⟩:∃AT:Nat->Nat,AT=fun x=>bw S E x*E:=⟨_,rfl⟩
   obtain⟨MN,hMN⟩:∃MN:Nat->Nat,MN=fun x=>oy S E (bw S E x):=⟨_,rfl⟩
   have hbs:SeqStopsK Fence.wide 8 prog 72 #[.pointer (some ⟨o+1,0,none⟩),.pointer (some ⟨o+1+1,0,none⟩)] (fun x:Nat=>#[Value.int .i64 (AT x:Nat),Value.int .i64 (MN x:Nat)]) (ox o (o+1))
    (fun ys=>ys=kh 0 (mc S E)) (fun pre=>∃k,k<mc S E/\pre=kh 0 (k+1)) (mc S E) w5:=by
    rw[hAT,hMN];exact aeq 8 o (o+1) S E hS1 hE1 (by omega) (by omega) w5 (by omega) (by omega) ⟨hS5,hE5⟩
   have HAT:Hid (∀x,AT x=bw S E x*E):=aa fun x=>by rw[hAT]
   have HMN:Hid (∀x,MN x=oy S E (bw S E x)):=aa fun x=>by rw[hMN]
   clear hAT hMN;refine wpIn_rangeFunc_ownG rfl (by omega) (gf:=72) (lb:=#[.pointer (some ⟨o+1,0,none⟩),.pointer (some ⟨o+1+1,0,none⟩)]) rfl trivial (enters_of func72 (by kernel_rfl) rfl)
    hbs tg (ara (by omega) (by omega)) ae (fun _=>rfl)
    (fun pre W=>(∃v,Boxed W o 42 v/\W.ownsRow (o+3) 46 1 v (ou S E pre) (ma S E (fun i=>j9 A B i m) pre)/\True)/\Below o w5 W)
    (fun _ _ _=>False)
    (OwnFrom.and (Own.from (holdsRow_own (o+3) o 42 46 1 (fun pre:List Nat=>ou S E pre) (fun pre=>ma S E (fun i=>j9 A B i m) pre) (fun _ _=>True)) _) (ownFrom_below (by omega) (by omega)))
    (fun _ _ _ _ _ hs _ _=>hs)
    ⟨⟨_,bO5,bj _ _ _ _,trivial⟩,ae⟩
    ?a1 ?assign ?body ?done ?stop
   case assign=>
    intro l x W K hK;gi_wp2
    exact hK
   case body=>
    rintro l pre x W⟨⟨v,hv,hrow,-⟩,hB⟩hlt;have hpl:pre.length<=100000:=by have h1:pre.length<mc S E:=hlt;have h2:=bcnt_le (S:=S) (E:=E) hS1;omega
    have hblt:=bw_lt S E x;have hatS:=aer hS1 hblt;have HLS:=aa (zc S E pre x);have HCS:Hid (ma S E (fun i=>j9 A B i m) (pre++[x])=ma S E (fun i=>j9 A B i m) pre++fh (fun i=>j9 A B (bw S E x*E+i) m) (oy S E (bw S E x))):=aa (vk S E (fun i=>j9 A B i m) pre x);have hll:=an9 S E pre;have hmd:oy S E (bw S E x)=min E (S-bw S E x*E):=rfl;generalize ma S E (fun i=>j9 A B i m) pre=CP at HCS hrow;generalize ou S E pre=LP at HLS hrow hll;have hATx:=HAT.out x;have hMNx:=HMN.out x;rw[<-hATx]at hatS hmd HCS;rw[<-hMNx]at hmd HCS HLS;generalize AT x=a at *;generalize MN x=many at *;clear hATx hMNx;have hEN:E<=4096:=by omega
    have hLP:LP<=409600000:=ba hll (Nat.mul_le_mul hpl hEN);have haI:(0:Int)<=a:=by omega
    have hmny:1<=many:=by omega
    have hmanyI:(1:Int)<=many:=by omega
    have hmanyE:many<=E:=by omega
    have hmanyS:a+many<=S:=by omega
    clear hll hmd hblt hlt HAT HMN hbs;have HV:=aa hv;have HROW:=aa hrow;have HBo:=aa hB;clear hv hrow hB;have hoW:o+3<=W.heap.size:=by have:=HBo.out.size;omega
    have hxr:=HB5.out;rcases hxr with h0|⟨b,ob,rfl,hbs2,hcs2⟩
    ·omega
    have HCB:=aa hcs2;clear hcs2;have hfree:=qq.new W;have hbel:Below W.heap.size W (W.alloc (.cells #[.slice none 0 0,.slice none 0 0,.slice none 0 0] 90)):=ae.alloc ac _;have hlr:W.heap.size<(W.alloc (.cells #[.slice none 0 0,.slice none 0 0,.slice none 0 0] 90)).heap.size:=by simp
    gi_wp2_with fail
    generalize W.alloc (.cells #[.slice none 0 0,.slice none 0 0,.slice none 0 0] 90)=W1 at hfree hbel hlr⊢;have HF1:=aa hfree;have HBel:=aa hbel;clear hfree hbel;obtain⟨hi,hhi⟩:∃hi:Nat,hi=min n (a+N):=⟨_,rfl⟩;have HHI:=aa hhi;have hhi1:a<hi:=by omega
    have hhi2:hi<=n:=by omega
    have hhi3:hi<=a+N:=by omega
    have hmin:(if(a:Int)+N<n then(a:Int)+N else(n:Int))=(hi:Int):=by split<;>omega
    have hwr:IntKind.i64.wrap ((a:Int)+N)=(a:Int)+N:=by rw[ci];omega
    clear hhi;gi_loopw [66] (fun i wr=>∃k:Nat,k<=3/\i=.int .i64 k/\(∀j,j<k->xt wr W.heap.size N many a (fun i=>j9 A B i m) j)/\qq wr W.heap.size/\Below W.heap.size W wr/\W.heap.size<wr.heap.size) (fun i _=>3-(intOf i).toNat)
    case atStart=>exact⟨0,by omega,rfl,fun j h=>absurd h (Nat.not_lt_zero j),HF1.out,HBel.out,hlr⟩
    case round=>
     obtain⟨k,hk,rfl,hRs,hFr,hb,hlr2⟩:=hrel;have HRs:=aa hRs;have HFr:=aa hFr;have Hb:=aa hb;clear hRs hFr hb;have hoB:Below o w5 wr:=HBo.out.trans (Hb.out.mono (by omega));have q0:=(hoB.cell (p:=⟨w.heap.size,0,none⟩) (show w.heap.size<o by omega)).trans P0.out;have q1:=(hoB.cell (p:=⟨w.heap.size+1,0,none⟩) (show w.heap.size+1<o by omega)).trans P1.out;have q2:=(hoB.cell (p:=⟨w.heap.size+1+1,0,none⟩) (show w.heap.size+1+1<o by omega)).trans P2.out;have HoB:=aa hoB;clear hoB;by_cases hlt:k<3
     ·have hlti:(k:Int)<3:=by omega
      have hk0:(0:Int)<=k:=by omega
      gi_wp2_with fail
      have hmix:prog.follows .mixedOrders=true:=by kernel_rfl
      have c1:(hi:Int)<=ct:=by omega
      have c2:a<=hi:=by omega
      have c3:¬(ct=a):=by omega
      have c4:(a:Int)<=hi:=by omega
      refine r6 (fun w'=>w'.cell? ⟨w.heap.size,0,none⟩=some (.slice (some ⟨b,ob,none⟩) n ct)/\w'.cell? ⟨w.heap.size+1,0,none⟩=some (.int .i64 (N:Nat))/\w'.cell? ⟨w.heap.size+1+1,0,none⟩=some (.int .i64 (n:Nat))) hmix (by kernel_rfl) (by rintro⟨a,w,h⟩;exact h) ⟨q0,q1,q2⟩ ?_;intro hS;refine tk 0 70 (.int .i64 (k:Nat)) hS ?_;refine tk 1 71 (.slice (some ⟨b,ob,none⟩) n ct) hS ?_;refine tk 2 72 (.int .i64 (a:Nat)) hS ?_;refine tk 3 73 (.int .i64 (n:Nat)) hS ?_;refine tk 4 74 (.int .i64 (a:Nat)) hS ?_;refine tk 5 75 (.int .i64 (N:Nat)) hS ?_;refine tk 6 76 (.int .i64 ((a:Int)+N)) hS ?_;refine tk 7 77 (.int .i64 (hi:Nat)) hS ?_;refine tk 8 78 (.slice (some ⟨b,ob+a,none⟩) (hi-a) (ct-a)) hS ?_;refine tk 9 79 (.int .i64 (N:Nat)) hS ?_;have hsub:i8 wr.drew (some ⟨b,ob+a,none⟩) (hi-a) (fun j=>B (a+j)) wr.drew.heap.size:=.inr ⟨b,ob+a,rfl,(by show b<wr.heap.size;omega),fun j hj=>by
       have h1:=(HoB.out.cell (p:=⟨b,ob+(a+j),none⟩) (show b<o by omega)).trans (HCB.out (a+j) (by omega))
       rw[dy]
       exact h1⟩
      refine mw 10 (fun Kc hK=>?_);go_simp;go_at_call 38;refine(hwd.out _ _ _ _ (by omega) _ hsub).mono ?_;rintro e w6⟨g6,rfl,hg6,hB6,hb6⟩;dsimp only;have hS6:w6.cell? ⟨w.heap.size,0,none⟩=some (.slice (some ⟨b,ob,none⟩) n ct)/\w6.cell? ⟨w.heap.size+1,0,none⟩=some (.int .i64 (N:Nat))/\w6.cell? ⟨w.heap.size+1+1,0,none⟩=some (.int .i64 (n:Nat)):=⟨(hb6.cell (p:=⟨w.heap.size,0,none⟩) (show w.heap.size<wr.heap.size by omega)).trans q0,(hb6.cell (p:=⟨w.heap.size+1,0,none⟩) (show w.heap.size+1<wr.heap.size by omega)).trans q1,(hb6.cell (p:=⟨w.heap.size+1+1,0,none⟩) (show w.heap.size+1+1<wr.heap.size by omega)).trans q2⟩;have hz6:wr.heap.size<=w6.heap.size:=hb6.size;refine hK.out _ _ hS6 (fun hH=>?_);try simp only[Act.put,ag,ai,aj]
      clear hK Kc;refine mw 11 (fun Kc hK=>?_);go_simp;go_at_call 35;refine(hfw.out k hlt _ _ _ _ hB6.row).mono ?_;rintro e w7⟨g7,f7,rfl,hg7,hB7,hf7,hb7⟩;dsimp only;have hS7:w7.cell? ⟨w.heap.size,0,none⟩=some (.slice (some ⟨b,ob,none⟩) n ct)/\w7.cell? ⟨w.heap.size+1,0,none⟩=some (.int .i64 (N:Nat))/\w7.cell? ⟨w.heap.size+1+1,0,none⟩=some (.int .i64 (n:Nat)):=⟨(hb7.cell (p:=⟨w.heap.size,0,none⟩) (show w.heap.size<w6.heap.size by omega)).trans hS6.1,(hb7.cell (p:=⟨w.heap.size+1,0,none⟩) (show w.heap.size+1<w6.heap.size by omega)).trans hS6.2.1,(hb7.cell (p:=⟨w.heap.size+1+1,0,none⟩) (show w.heap.size+1+1<w6.heap.size by omega)).trans hS6.2.2⟩;refine hK.out _ _ hS7 (fun hH=>?_);try simp only[Act.put,ag,ai,aj]
      clear hK Kc;refine tk 12 69 (.tuple #[.slice (some ⟨g7,0,none⟩) N N,.int .i64 0]) hS7 ?_;refine tk 13 82 (.slice (some ⟨g7,0,none⟩) N N) hS7 ?_;refine tk 14 83 (.int .i64 0) hS7 ?_;refine tk 15 19 (.slice (some ⟨g7,0,none⟩) N N) hS7 ?_;refine tk 16 20 (.int .i64 0) hS7 ?_;refine wpAnyH_done (by kernel_rfl) ?_ _;have hb07:Below wr.heap.size wr w7:=(aw _ wr).drew.trans (hb6.trans (hb7.mono hb6.size));have hg7r:W.heap.size<g7:=az hlr2 (ba hz6 hg7);have Hb7:Hid (Below W.heap.size W w7):=aa (Hb.out.trans (hb07.mono (dj hlr2)));have HR7:Hid (∀j,j<k->xt w7 W.heap.size N many a (fun i=>j9 A B i m) j):=aa fun j hj=>(HRs.out j hj).below hb07
      have HF7:Hid (qq w7 W.heap.size):=aa (HFr.out.below hb07 hlr2);have HK7:Hid (∀W',Below g7 w7 W'->(∀j,j<k->xt W' W.heap.size N many a (fun i=>j9 A B i m) j)/\qq W' W.heap.size/\Below W.heap.size W W'):=aa fun W' h=>by
       have h1:=hb07.trans (h.mono (ba hz6 hg7));exact⟨fun j hj=>(HRs.out j hj).below h1,HFr.out.below h1 hlr2,Hb.out.trans (h1.mono (dj hlr2))⟩
      have HB7:=aa hB7;have Hf7:=aa hf7;clear hS hS6 hS7 hb6 hb7 hb07 hB6 hB7 hf7 hsub hg6 q0 q1 q2 HRs HFr Hb hH;gi_wp2_with fail
      obtain⟨gs,ys,hcs3,hgs,hBs,hys⟩:=HSl5.out k hlt;have hg7z:=HB7.out.lt;have Ho7:Hid (Below o w5 w7):=aa (HBo.out.trans (Hb7.out.mono (by omega)));have HC3:=aa ((Ho7.out.cell (p:=⟨s,k,none⟩) (show s<o by omega)).trans hcs3);have HBs:=aa (hBs.below Ho7.out hgs);have Hys:=aa hys;clear hcs3 hBs hys;gi_loopw [86] (fun i wr3=>∃q:Nat,q<=N/\i=.int .i64 q/\jm wr3 g7 N (fun j=>if j<q then j1 k (f7 j) (ys j)else f7 j)/\Below g7 w7 wr3) (fun i _=>N-(intOf i).toNat)
      case atStart=>exact⟨0,by omega,rfl,HB7.out.congr fun j _=>by rw[if_neg (by omega)],ae⟩
      case round=>
       obtain⟨q,hq,rfl,hBq,hbq⟩:=hrel;have HBq:=aa hBq;have Hbq:=aa hbq;clear hBq hbq;by_cases hlq:q<N
       ·have hlqi:(q:Int)<N:=by omega
        have hq0:(0:Int)<=q:=by omega
        have e1:=HBq.out.cells q hlq;rw[if_neg (by omega)]at e1;have e2:=(Hbq.out.cell (p:=⟨s,k,none⟩) (show s<g7 by omega)).trans HC3.out;have e3:=(HBs.out.below Hbq.out (show gs<g7 by omega)).cells q hlq;have hgl3:=HBq.out.lt;gi_wp2_with fail
        refine r6 (fun w'=>w'.cell? ⟨s,k,none⟩=some (.slice (some ⟨gs,0,none⟩) N N)/\w'.cell? ⟨gs,q,none⟩=some (.int .u64 (ys q:Nat))) hmix (by kernel_rfl) (by rintro⟨a,w,h⟩;exact h) ⟨e2,e3⟩ ?_;intro hS;refine tk 0 89 (.slice (some ⟨g7,0,none⟩) N N) hS ?_;refine tk 1 90 (.int .i64 (q:Nat)) hS ?_;refine tk 2 91 (.int .i64 (k:Nat)) hS ?_;refine tk 3 92 (.slice (some ⟨g7,0,none⟩) N N) hS ?_;refine tk 4 93 (.int .i64 (q:Nat)) hS ?_;refine tk 5 94 (.pointer (some ⟨g7,q,none⟩)) hS ?_;refine tk 7 96 (.int .i64 (k:Nat)) hS ?_;refine tk 8 97 (.pointer (some ⟨s,k,none⟩)) hS ?_;refine tk 9 98 (.slice (some ⟨gs,0,none⟩) N N) hS ?_;refine tk 10 99 (.int .i64 (q:Nat)) hS ?_;refine tk 11 100 (.pointer (some ⟨gs,q,none⟩)) hS ?_;refine tk 12 101 (.int .u64 (ys q:Nat)) hS ?_;have e1d:wr.drew.cell? ⟨g7,q,none⟩=some (.int .u64 (f7 q:Nat)):=e1;refine mw 6 (fun Kc hK=>?_);go_simp;refine hK.out _ _ hS (fun hH=>?_);try simp only[Act.put,ag,ai,aj]
        clear hK Kc;refine mw 13 (fun Kc hK=>?_);go_simp;go_at_call 16;refine(hml.out k hlt _ _ _).mono ?_;rintro e w8⟨rfl,hb8⟩;dsimp only;have hz8:wr.heap.size<=w8.heap.size:=hb8.size;have hS8:w8.cell? ⟨s,k,none⟩=some (.slice (some ⟨gs,0,none⟩) N N)/\w8.cell? ⟨gs,q,none⟩=some (.int .u64 (ys q:Nat)):=⟨(hb8.cell (p:=⟨s,k,none⟩) (show s<wr.heap.size by omega)).trans e2,(hb8.cell (p:=⟨gs,q,none⟩) (show gs<wr.heap.size by omega)).trans e3⟩;have hB8:=HBq.out.below (show Below wr.heap.size wr w8 from(aw _ wr).drew.trans hb8) hgl3;have hf8:=hB8.free q hlq;have hd8:=hB8.cells q hlq;have HBset:=aa (hB8.set q hlq (j1 k (f7 q) (ys q)));have hl8:=hB8.lt;have Hb8:Hid (Below g7 w7 w8):=aa (Hbq.out.trans (((aw _ wr).drew.trans hb8).mono (dj hgl3)));clear hB8;refine hK.out _ _ hS8 (fun hH=>?_);try simp only[Act.put,ag,ai,aj]
        clear hK Kc;refine mw 14 (fun Kc hK=>?_);go_simp;refine hK.out _ _ hS8 (fun hH=>?_);try simp only[Act.put,ag,ai,aj]
        clear hK Kc;generalize hv:j1 k (f7 q) (ys q)=v8 at *;refine mw 15 (fun Kc hK=>?_);go_simp;have hS9:(w8.setCell ⟨g7,q,none⟩ (.int .u64 (v8:Nat))).cell? ⟨s,k,none⟩=some (.slice (some ⟨gs,0,none⟩) N N)/\(w8.setCell ⟨g7,q,none⟩ (.int .u64 (v8:Nat))).cell? ⟨gs,q,none⟩=some (.int .u64 (ys q:Nat)):=⟨by rw[World.cell?_setCell_far _ _ _ _ (show g7≠s by omega)];exact hS8.1,by rw[World.cell?_setCell_far _ _ _ _ (show g7≠gs by omega)];exact hS8.2⟩;refine hK.out _ _ hS9 (fun hH=>?_);try simp only[Act.put,ag,ai,aj]
        clear hK Kc;refine wpAnyH_done (by kernel_rfl) ?_ _;gi_wp2_with fail
        refine⟨⟨q+1,by omega,by go_num,HBset.out.congr fun j _=>?_,Hb8.out.setCell (p:=⟨g7,q,none⟩) ac _⟩,by simp[intOf];omega⟩;show(if j=q then v8 else if j<q then j1 k (f7 j) (ys j)else f7 j)=_;by_cases he:j=q
        ·subst he;rw[if_pos rfl,if_pos (by omega),hv]
        ·rw[if_neg he]
         by_cases hl:j<q
         ·rw[if_pos hl,if_pos (by omega)]
         ·rw[if_neg hl,if_neg (by omega)]
       ·obtain rfl:q=N:=by omega
        have e2:=(Hbq.out.cell (p:=⟨s,k,none⟩) (show s<g7 by omega)).trans HC3.out;have HBZ:Hid (jm wr g7 q (fun j=>j1 k (f7 j) (ys j))):=aa (HBq.out.congr fun j hj=>by rw[if_pos hj]);gi_wp2_with fail
        refine⟨trivial,CallsIn.inRound l (callsIn_wide.2 ((hiv.out k hlt _ _ _ _ HBZ.out.row).mono ?_))⟩;rintro e w9⟨g9,o9,rfl,hg9,hB9,ho9,hb9⟩;have hgw:g7<wr.heap.size:=HBZ.out.lt;have hbr9:=Hbq.out.trans (hb9.mono (dj hgw));obtain⟨hR9,hF9,hb9W⟩:=HK7.out w9 hbr9;have l9:W.heap.size<w9.heap.size:=by have:=hb9.size;omega
        obtain⟨i1,f1⟩:=hF9 k hlt;obtain⟨cv,d1⟩:=Option.isSome_iff_exists.1 i1;have hmq:(many:Int)<=q:=by omega
        gi_wp2_with fail
        have hr9:W.heap.size<g9:=by omega
        refine⟨⟨k+1,by omega,by go_num,fun j hj=>?_,(hF9.set k hlt _).set k hlt _,(hb9W.setCell (p:=⟨W.heap.size,k,none⟩) ac _).setCell (p:=⟨W.heap.size,k,none⟩) ac _,by simpa using l9⟩,by simp[intOf];omega⟩;by_cases he:j=k
        ·subst he
         refine⟨g9,o9,q,?_,hr9,⟨fun u hu=>?_,fun u hu=>?_,by simpa using hB9.lt⟩,fun i hi2=>?_⟩
         ·rw[di _ _ _ (by rw[di _ _ _ (by rw[d1];rfl)];rfl)]
         ·rw[World.cell?_setCell_far _ _ _ _ (show W.heap.size≠g9 by omega),World.cell?_setCell_far _ _ _ _ (show W.heap.size≠g9 by omega)];exact hB9.cells u hu
         ·rw[de,de];exact hB9.free u hu
         ·exact hex.out j a (hi-a) hlt ys f7 (fun j'=>j1 j (f7 j') (ys j')) o9 (by have:=HHI.out;omega) Hys.out Hf7.out (fun _ _=>rfl) ho9 i (by omega) (by omega)
        ·exact((hR9 j (by omega)).set he _).set he _
     ·obtain rfl:k=3:=by omega
      obtain⟨g0,z0,d0,hc0,hg0,hB0,hx0⟩:=HRs.out 0 (by omega);obtain⟨g1,z1,d1,hc1,hg1,hB1,hx1⟩:=HRs.out 1 (by omega);obtain⟨g2,z2,d2,hc2,hg2,hB2,hx2⟩:=HRs.out 2 (by omega);have hmN2:many<=N:=by omega
      have r0:i8 wr (some ⟨g0,0,none⟩) many z0 wr.heap.size:=.inr ⟨g0,0,rfl,hB0.lt,fun j hj=>by rw[dg];exact hB0.cells j (by omega)⟩;have r1:i8 wr (some ⟨g1,0,none⟩) many z1 wr.heap.size:=.inr ⟨g1,0,rfl,hB1.lt,fun j hj=>by rw[dg];exact hB1.cells j (by omega)⟩;have r2:i8 wr (some ⟨g2,0,none⟩) many z2 wr.heap.size:=.inr ⟨g2,0,rfl,hB2.lt,fun j hj=>by rw[dg];exact hB2.cells j (by omega)⟩;have HRW:=aa (hrw.out many (by omega) (fun i=>j9 A B (a+i) m) z0 z1 z2 (fun j hj=>⟨hss.out (a+j) (by omega),hx0 j hj,hx1 j hj,hx2 j hj⟩) _ _ _ d0 d1 d2 wr r0 r1 r2);clear r0 r1 r2 hB0 hB1 hB2 hx0 hx1 hx2 q0 q1 q2;gi_wp2_with fail
      refine⟨trivial,CallsIn.inRound l (callsIn_wide.2 (HRW.out.mono ?_))⟩;rintro e w10⟨v10,rfl,hown10,hb10⟩;obtain⟨g10,c10,rfl,hge10,hlt10⟩:=oa hown10 (by omega);have hbW:Below W.heap.size W w10:=Hb.out.trans (hb10.mono (by omega));obtain⟨ad1,cap1,rfl⟩:=ey HROW.out;have hv10:Boxed w10 o 42 (.slice ad1 LP cap1):=Boxed.below HV.out hbW (by omega);have hvc:=hv10.cell;have hvf:=hv10.frozen;have hrow10:=fe HROW.out hbW;have hz10:=hbW.size;have holt:o<w10.heap.size:=by omega
      obtain⟨i0,zv,ht0,hi0,hz0,hsz0,hby0,hzs0,hp0⟩:=abj;have hlw:=ld (fun i=>j9 A B (a+i) m) many;have hnews:Hid (∀(j:Nat)u,(fh (fun i=>j9 A B (a+i) m) many)[j]?=some u->w10.cell? ((⟨g10,0,none⟩:Addr).add j)=some u):=aa (fun j u hj=>by
       have hjm:j<many:=by
        rcases Nat.lt_or_ge j many with h|h
        ·exact h
        ·rw[eb (by omega)]at hj;cases hj
       rw[show(⟨g10,0,none⟩:Addr).add j=⟨g10,j,none⟩ by unfold Addr.add;split<;>simp_all,hown10.cellAt j (by omega)]
       exact hj)
      have h1c:=aa (uy (fun i=>j9 A B (a+i) m) many);generalize fh (fun i=>j9 A B (a+i) m) many=NW at *;have HLW:=aa hlw;have HR10:=aa hrow10;have HV10:=aa hv10;have HBW:=aa hbW;clear hlw hrow10 hv10 hbW hown10 hb10 HRs HFr Hb HRW;dsimp only;gi_wp2_with(first|(gi_at_builtin;refine wpListIn_append_own w10 rfl (.tmp 131) (.tmp 132) 42 rfl (o+3) 46 i0 zv 1 8 ht0 hi0 hz0 hsz0 hby0 hzs0 hp0 (.slice ad1 LP cap1) LP CP rfl HR10.out ⟨g10,0,none⟩ many c10 NW rfl (by rw[HLW.out,Nat.mul_one]) hnews.out h1c.out (by unfold maxLen;omega) (by omega) (by omega) ?_;intro v11 w11 hown11 hgrow11 hiff11;clear hiff11;obtain⟨ad11,cap11,rfl⟩:=ey hown11;obtain⟨hv11,hv12,hr12,hk12,hb12,hc12⟩:=Boxed.appended3 HV10.out (m:=o) (by decide) HR10.out (by omega) ac (by omega) hown11 hgrow11;have hvc11:=hv11.cell;have hvf11:=hv11.frozen;have hl11:=hv11.lt;clear hown11 hgrow11 hvc hvf))
      refine⟨KeepsOthers.from ((KeepsOthers.of_grownBy (gn HBW.out none) (by simp)).trans hk12) _,⟨(HBW.out.mono (by omega)).trans hb12,fun b' o' h1 h2=>(hc12 b' o' (by omega) (by omega)).trans (HBW.out.cell (p:=⟨b',o',none⟩) (show b'<W.heap.size by omega))⟩,⟨_,hv12,?_,trivial⟩,HBo.out.trans ((HBW.out.mono (by omega)).trans hb12)⟩;rw[HLS.out,HCS.out];exact hr12
   case done=>
    rintro D ys W hD rfl⟨⟨v,hv,hrow,-⟩,hB⟩hK;obtain⟨e1,e2⟩:=hwhole.out;rw[e1,e2]at hrow;obtain⟨ad1,cap1,rfl⟩:=ey hrow;have hvc:=hv.cell;have q1:=(hB.cell (p:=⟨w.heap.size+1,0,none⟩) (show w.heap.size+1<o by omega)).trans P1.out;have q2:=(hB.cell (p:=⟨w.heap.size+1+1,0,none⟩) (show w.heap.size+1+1<o by omega)).trans P2.out;have hlW:=hv.lt;have hl1:w.heap.size+1<W.heap.size:=by omega
    have hl2:w.heap.size+1+1<W.heap.size:=by omega
    have HROW:=aa hrow;have HBo:=aa hB;have HK:=aa hK;have HD:=aa hD;clear hrow hB hK e1 e2 hD;gi_wp2_with fail
    refine wpIn_wide.2 ?_;go_region_held3 (fun w'=>fo W w') (first|with_reducible exact fo.start _|with_reducible exact fo.calld (fo.refl _) (by assumption)|with_reducible exact fo.call (by assumption) (by assumption)) (first|(go_at_call 14;refine(hcn.out _).mono ?_;rintro e w'⟨rfl,hb'⟩))
    have hO:=(show fo W _ by assumption).2.2.2;rename_i w12 hOld;have HO:=aa hO;clear hOld hO;gi_wp2
    have hK1:=HK.out;have hDW:D<W.heap.size:=by
     rcases Nat.lt_or_ge D W.heap.size with h|h
     ·exact h
     ·rw[Array.getElem?_eq_none h]at hK1;cases hK1
    have hK12:=(HO.out.block D hDW).trans hK1;have hwD:w.heap.size<=D:=by have:=HD.out;omega
    have hbe:=belowK_b (w:=w) ac _ D _ (.deferred none) hwD hK12 rfl rfl;have hrow':=fx (ownsRow_putObj (fe HROW.out HO.out) (.deferred none) hK12 rfl) (show w.heap.size<=o+3 by omega);have hBe:=(HW5.out.trans (HBo.out.mono (by omega))).trans (HO.out.mono (by omega));rw[show n-m+1=S by omega];refine⟨by simp,.inl ⟨_,_,rfl,run_takeDeferred hK12,?_⟩⟩;exact⟨_,results_tmp3 rfl _ _ _,_,rfl,hrow',hBe.trans hbe⟩
   case stop=>
    rintro D cc pre W _ _ h _;exact h.elim
end
end Go.Proofs.YtjfkmoinldlmaaaGreat
