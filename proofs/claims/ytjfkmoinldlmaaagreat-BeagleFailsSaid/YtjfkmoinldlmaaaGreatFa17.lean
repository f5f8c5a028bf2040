/- The walk of BeagleFails, part 17. Walks of the package residue: Inv, Root; of ntt.check and ntt.order. Rows of words; the walk of ntt.fly. What the transform holds while it is made: plain. -/
import Derived.Test.YtjfkmoinldlmaaaGreatFa03
import Derived.Test.YtjfkmoinldlmaaaGreatFa16
namespace Go.Proofs.YtjfkmoinldlmaaaGreat
open Go.Proofs.Tryz
section
set_option maxRecDepth 100000
open Go.RowKit
theorem aac(k:Nat)(hk:k<3)(a:Nat)(ha:a%P3 k≠0)(w:World):Calls prog 73 #[.int .i64 (k:Nat),.int .u64 (a:Nat)] w fun e w'=>e=.returned (.tuple #[.int .u64 (na k a:Nat),.bool true])/\Below w.heap.size w w':=by
 have h1:=fun w'=>mq k hk a w'
 have h2:=fun w'=>lh k hk w'
 have h3:=fun w'=>adi k hk a (P3 k-2) (by have:=abv k;omega) w'
 have hl:=abv k;have hb:=yk k hk;unfold na;generalize rh (P3 k) a (P3 k-2)=r at h3⊢;generalize a%P3 k=x at h1 ha;generalize P3 k=p at h2 h3 hl hb;have hne:((x:Int)==0)=false:=by rw[ax];omega
 have hp:(p:Int)<=1073741824:=by omega
 have hp2:(2:Int)<=p:=by omega
 have hs:((p-2:Nat):Int)=(p:Int)-2:=by omega
 rw[hs]at h3;have H1:=aa h1;have H2:=aa h2;have H3:=aa h3;clear h1 h2 h3 hl hs hb ha;go_enter func73,ntmps73;go_wp2_with fail
 refine(H1.out _).mono ?_;rintro e w1⟨rfl,hb1⟩;go_wp2_with fail
 refine(H2.out _).mono ?_;rintro e w2⟨rfl,hb2⟩;go_wp2_with fail
 refine(H3.out _).mono ?_;rintro e w3⟨rfl,hb3⟩;go_wp2_with fail
 go_ret2
 exact⟨rfl,hb1.trans ((hb2.trans (hb3.mono hb2.size)).mono hb1.size)⟩
theorem afb(k:Nat)(hk:k<3)(t:Nat)(ht:t<=12)(w:World):Calls prog 70 #[.int .i64 (k:Nat),.int .i64 (t:Nat)] w fun e w'=>e=.returned (.tuple #[.int .u64 (jr k t:Nat),.bool true])/\Below w.heap.size w w':=by
 have h2:=fun w'=>lh k hk w'
 have hl:=abv k;have hb:=yk k hk;have hq:(P3 k-1)/2^t<=4294967296:=ba (Nat.div_le_self _ _) (by omega);have h3:=fun w'=>adi k hk 3 ((P3 k-1)/2^t) hq w'
 unfold jr;generalize rh (P3 k) 3 ((P3 k-1)/2^t)=r at h3⊢;have hs:(((P3 k-1)/2^t:Nat):Int)=((P3 k:Nat)-1:Int)/2^t:=by
  rw[Int.natCast_ediv,Int.natCast_sub (by omega),Int.natCast_pow];rfl
 rw[hs]at h3;clear hs hq;generalize P3 k=p at h2 h3 hl hb;have hne:((p:Int)==0)=false:=by rw[ax];omega
 have hp:(p:Int)<=1073741824:=by omega
 have hp2:(2:Int)<=p:=by omega
 have ht0:(0:Int)<=t:=by omega
 have ht1:(t:Int)<=12:=by omega
 have H2:=aa h2;have H3:=aa h3;clear h2 h3 hl hb;go_enter func70,ntmps70;go_wp2_with fail
 refine(H2.out _).mono ?_;rintro e w1⟨rfl,hb1⟩;go_wp2_with fail
 refine(H2.out _).mono ?_;rintro e w2⟨rfl,hb2⟩;go_wp2_with fail
 refine(H3.out _).mono ?_;rintro e w3⟨rfl,hb3⟩;go_wp2_with fail
 go_ret2
 exact⟨rfl,hb1.trans ((hb2.trans (hb3.mono hb2.size)).mono hb1.size)⟩
theorem ady(k:Nat)(hk:k<3)(n:Int)(hn:lgB n=true)(w:World):Calls prog 69 #[.int .i64 (k:Nat),.int .i64 n] w fun e w'=>e=.returned (.int .i64 0)/\Below w.heap.size w w':=by
 have h1:=fun w'=>lh k hk w'
 have h2:=fun w'=>pg n w'
 have hb:=yk k hk;rw[hn]at h2;generalize P3 k=p at h1 hb;have hne:((p:Int)==0)=false:=by rw[ax];omega
 have H1:=aa h1;have H2:=aa h2;clear h1 h2 hb hn;go_enter func69,ntmps69;go_wp2_with fail
 refine(H1.out _).mono ?_;rintro e w1⟨rfl,hb1⟩;go_wp2_with fail
 refine(H2.out _).mono ?_;rintro e w2⟨rfl,hb2⟩;go_wp2_with fail
 go_ret;exact⟨rfl,hb1.trans (hb2.mono hb1.size)⟩
theorem ab5(n:Int)(h₀:0<=n)(h₁:n<2^62):IntKind.i64.wrap n=n:=by rw[ci];omega
theorem arl(x:Int)(h0:0<=x)(h1:x<=100000):bits .and .i64 x 1=x%2:=bits_mask .i64 62 (by decide) ab5 1 (by decide) x h0 (by omega)
theorem i64_or1(x y:Int)(h0:0<=x)(h1:x<=100000)(h2:x%2=0)(h3:0<=y)(h4:y<2):bits .or .i64 x y=x+y:=bits_join .i64 62 (by decide) ab5 1 x y h0 h2 (by omega) h3 h4 (by omega)
theorem ama(i t:Nat)(hi:i<=100000)(ht:t<=12):∃R D:Nat->Nat,R 0=0/\D 0=i/\R t=rz t i/\(∀m,R (m+1)=2*R m+D m%2/\D (m+1)=D m/2/\D m<=100000)/\∀m,m<=t->R m<=4096:=by
 refine⟨fun m=>rz m i,fun m=>i/2^m,rfl,?_,rfl,fun m=>⟨rfl,?_,?_⟩,fun m hm=>?_⟩
 ·show i/2^0=i
  rw[Nat.pow_zero,Nat.div_one]
 ·show i/2^(m+1)=i/2^m/2
  rw[Nat.pow_succ,Nat.div_div_eq_div_mul]
 ·exact ba (Nat.div_le_self _ _) hi
 ·have h1:=ahs m i
  have h2:2^m<=2^12:=Nat.pow_le_pow_right (by decide) (by omega);have:(2:Nat)^12=4096:=rfl;show rz m i<=4096;omega
theorem amu(i t:Nat)(hi:i<=100000)(ht:t<=12)(w:World):Calls prog 131 #[.int .i64 (i:Nat),.int .i64 (t:Nat)] w fun e w'=>e=.returned (.int .i64 (rz t i:Nat))/\Below w.heap.size w w':=by
 obtain⟨R,D,hr0,hd0,hrt,hs,hrl⟩:=ama i t hi ht;generalize rz t i=r at hrt⊢;subst hrt hd0;have ht0:(0:Int)<=t:=by omega
 have HS:=aa hs;have HL:=aa hrl;have HR0:=aa hr0;clear hs hrl hr0 hi;go_enter func131,ntmps131;go_wp2_with fail
 go_loopw[0,5,7] (fun d o i wr=>∃q:Nat,q<=t/\i=.int .i64 q/\d=.int .i64 (D q:Nat)/\o=.int .i64 (R q:Nat)/\fo w wr) (fun d o i _=>t-(intOf i).toNat)
 case atStart=>exact⟨0,by omega,rfl,rfl,by rw[HR0.out];rfl,fo.refl _⟩
 case round=>
  obtain⟨q,hq,rfl,rfl,rfl,hO⟩:=hrel;have HO:=aa hO;clear hO;obtain⟨e1,e2,e3⟩:=HS.out q;have e4:=HL.out q hq;by_cases hlt:q<t
  ·have hlti:(q:Int)<t:=by omega
   have hq0:(0:Int)<=q:=by omega
   have f1:(0:Int)<=D q:=by omega
   have f2:(D q:Int)<=100000:=by omega
   have f3:(0:Int)<=R q:=by omega
   have f4:(R q:Int)<=4096:=by omega
   have g1:=arl (D q) f1 f2;have g2:=i64_or1 ((R q:Int)*2) ((D q:Int)%2) (by omega) (by omega) (by omega) (by omega) (by omega);have E1:Hid ((R q:Int)*2+(D q:Int)%2=(R (q+1):Nat)):=aa (by omega);have E2:Hid ((D q:Int)/2=(D (q+1):Nat)):=aa (by omega);clear e1 e2 e3 e4;go_wp2;rw[E1.out,E2.out];exact⟨⟨q+1,by omega,by go_num,rfl,rfl,HO.out⟩,by simp[intOf];omega⟩
  ·obtain rfl:q=t:=by omega
   clear e1 e2 e3 e4;go_wp2;go_ret;exact⟨rfl,HO.out.2.2.2⟩
end
section
set_option maxRecDepth 100000
set_option maxHeartbeats 4000000
open Go.RowKit
abbrev i8(w:World)(ad:Option Addr)(n:Nat)(A:Nat->Nat)(m:Nat):Prop:=
 n=0\/∃b o,ad=some ⟨b,o,none⟩/\b<m/\∀j,j<n->w.cell? ⟨b,o+j,none⟩=some (.int .u64 (A j:Nat))
theorem i8.below{w w':World}{ad:Option Addr}{n m k:Nat}{A:Nat->Nat}(h:i8 w ad n A m)(hb:Below k w w')(hm:m<=k):i8 w' ad n A m:=by
 rcases h with h|⟨b,o,ha,hlt,hc⟩
 ·exact .inl h
 ·exact .inr ⟨b,o,ha,hlt,fun j hj=>(hb.cell (p:=⟨b,o+j,none⟩) (az hlt hm)).trans (hc j hj)⟩
theorem i8.at{w:World}{ad:Option Addr}{n m:Nat}{A:Nat->Nat}(h:i8 w ad n A m){j:Nat}(hj:j<n):∃b o,ad=some ⟨b,o,none⟩/\b<m/\w.cell? ⟨b,o+j,none⟩=some (.int .u64 (A j:Nat)):=by
 rcases h with h|⟨b,o,ha,hlt,hc⟩
 ·omega
 ·exact⟨b,o,ha,hlt,hc j hj⟩
theorem i8.mono{w:World}{ad:Option Addr}{n m m':Nat}{A:Nat->Nat}(h:i8 w ad n A m)(hm:m<=m'):i8 w ad n A m':=by
 rcases h with h|⟨b,o,ha,hlt,hc⟩
 ·exact .inl h
 ·exact .inr ⟨b,o,ha,az hlt hm,hc⟩
theorem i8.congr{w:World}{ad:Option Addr}{n m:Nat}{A A':Nat->Nat}(h:i8 w ad n A m)(he:∀j,j<n->A j=A' j):i8 w ad n A' m:=by
 rcases h with h|⟨b,o,ha,hlt,hc⟩
 ·exact .inl h
 ·exact .inr ⟨b,o,ha,hlt,fun j hj=>by rw[hc j hj,he j hj]⟩
structure jm(w:World)(g n:Nat)(x:Nat->Nat):Prop where
 cells:∀j,j<n->w.cell? ⟨g,j,none⟩=some (.int .u64 (x j:Nat))
 free:∀j,j<n->w.frozen? ⟨g,j,none⟩=false
 lt:g<w.heap.size
theorem jm.below{w w':World}{g n m:Nat}{x:Nat->Nat}(h:jm w g n x)(hb:Below m w w')(hg:g<m):jm w' g n x where
 cells j hj:=(hb.cell (p:=⟨g,j,none⟩) hg).trans (h.cells j hj)
 free j hj:=(hb.frozen (p:=⟨g,j,none⟩) hg).trans (h.free j hj)
 lt:=az h.lt hb.size
theorem jm.congr{w:World}{g n:Nat}{x y:Nat->Nat}(h:jm w g n x)(he:∀j,j<n->x j=y j):jm w g n y where
 cells j hj:=by rw[h.cells j hj,he j hj]
 free:=h.free
 lt:=h.lt
theorem jm.set{w:World}{g n:Nat}{x:Nat->Nat}(h:jm w g n x)(i:Nat)(_:i<n)(b:Nat):jm (w.setCell ⟨g,i,none⟩ (.int .u64 (b:Nat))) g n (fun j=>if j=i then b else x j)where
 cells j hj:=by
  by_cases he:j=i
  ·subst he
   rw[di _ _ _ (by rw[h.cells j hj];rfl),if_pos rfl]
  ·rw[bh _ _ _ _ (by intro e;cases e;exact he rfl),h.cells j hj,if_neg he]
 free j hj:=by rw[de];exact h.free j hj
 lt:=by simpa using h.lt
theorem jm.row{w:World}{g n:Nat}{x:Nat->Nat}(h:jm w g n x):i8 w (some ⟨g,0,none⟩) n x w.heap.size:=
 .inr ⟨g,0,rfl,h.lt,fun j hj=>by rw[dg];exact h.cells j hj⟩
def tw(k W:Nat):Nat->Nat
 |0=>1%P3 k
 |q+1=>j1 k (tw k W q) W
theorem tw_ph(k W q:Nat):(ph (tw k W q):Fin (P3 k))=ph W^q:=by
 induction q with
 |zero=>simp only[tw];rw[lx,qu,ig]
 |succ q ih=>simp only[tw];rw[me,ih,gx]
def tn(k:Nat)(x:Nat->Nat)(a h W q:Nat):Nat->Nat
 |j=>if a<=j/\j<a+q then addN k (x j) (j1 k (x (j+h)) (tw k W (j-a)))
  else if a+h<=j/\j<a+h+q then uv k (x (j-h)) (j1 k (x j) (tw k W (j-h-a)))else x j
theorem ani(k:Nat)(x:Nat->Nat)(a h W j:Nat):tn k x a h W 0 j=x j:=by
 unfold tn;rw[if_neg (by omega),if_neg (by omega)]
theorem anj(k:Nat)(x:Nat->Nat)(a h W q:Nat)(hq:q<h)(j:Nat):
 (if j=a+h+q then uv k (x (a+q)) (j1 k (x (a+h+q)) (tw k W q))else if j=a+q then addN k (x (a+q)) (j1 k (x (a+h+q)) (tw k W q))else tn k x a h W q j)=tn k x a h W (q+1) j:=by
 unfold tn;by_cases h1:j=a+h+q
 ·subst h1
  rw[if_pos rfl,if_neg (by omega),if_pos (by omega),show a+h+q-h=a+q by omega,show a+q-a=q by omega]
 ·rw[if_neg h1]
  by_cases h2:j=a+q
  ·subst h2
   rw[if_pos rfl,if_pos (by omega),show a+q+h=a+h+q by omega,show a+q-a=q by omega]
  ·rw[if_neg h2]
   by_cases h3:a<=j/\j<a+q
   ·rw[if_pos h3,if_pos (by omega)]
   ·rw[if_neg h3,if_neg (show¬(a<=j/\j<a+(q+1)) by omega)]
    by_cases h4:a+h<=j/\j<a+h+q
    ·rw[if_pos h4,if_pos (by omega)]
    ·rw[if_neg h4,if_neg (by omega)]
theorem arx(k:Nat)(x:Nat->Nat)(a h W q:Nat):tn k x a h W q (a+q)=x (a+q)\/h<=q:=by
 by_cases hq:q<h
 ·left;unfold tn;rw[if_neg (by omega),if_neg (by omega)]
 ·right;omega
theorem ank(k:Nat)(x:Nat->Nat)(a h W q:Nat)(hq:q<h):tn k x a h W q (a+h+q)=x (a+h+q):=by
 unfold tn;rw[if_neg (by omega),if_neg (by omega)]
theorem fly_res(k:Nat)(hk:k<3)(g n a h W:Nat)(x:Nat->Nat)(hn:a+h+h<=n)(hnn:n<=100000)(w:World)(hx:jm w g n x):
 Calls prog 132 #[.int .i64 (k:Nat),.slice (some ⟨g,a,none⟩) h h,.slice (some ⟨g,a+h,none⟩) h h,.int .u64 (W:Nat)] w fun e w'=>e=.returned (.tuple #[])/\jm w' g n (tn k x a h W h)/\Below g w w':=by
 have h1:=aa fun w'=>mq k hk 1 w'
 have h2:=aa fun x y w'=>uk k hk x y w'
 have h3:=aa fun x y w'=>add_res k hk x y w'
 have h4:=aa fun x y w'=>ac6 k hk x y w'
 have ht0:tw k W 0=1%P3 k:=rfl;have HS:=aa (anj k x a h W);have HZ:=aa (ani k x a h W);have HL:=aa (arx k x a h W);have HH:=aa (ank k x a h W);have HT:Hid (∀q,tw k W (q+1)=j1 k (tw k W q) W):=aa fun q=>rfl
 rw[<-ht0]at h1;clear ht0;generalize tw k W=T at h1 HS HT;generalize tn k x a h W=F at HS HZ HL HH⊢;have hg0:=hx.lt;have HX:=aa hx;have hnI:(n:Int)<=100000:=by omega
 have haI:(0:Int)<=a:=by omega
 have hhI:(0:Int)<=h:=by omega
 clear hx hnn;go_enter func132,ntmps132;go_wp2_with fail
 refine(h1.out _).mono ?_;rintro e w1⟨rfl,hb1⟩;go_wp2_with fail
 go_loopw[8,16] (fun m i wr=>∃q:Nat,q<=h/\i=.int .i64 q/\m=.int .u64 (T q:Nat)/\jm wr g n (F q)/\Below g w wr) (fun _ i _=>h-(intOf i).toNat)
 case atStart=>exact⟨0,by omega,rfl,rfl,(HX.out.below hb1 hg0).congr fun j _=>(HZ.out j).symm,hb1.mono (dj hg0)⟩
 case round=>
  obtain⟨q,hq,rfl,rfl,hB,hb⟩:=hrel;have HB:=aa hb;clear hb;by_cases hlt:q<h
  ·have hlti:(q:Int)<h:=by omega
   have hq0:(0:Int)<=q:=by omega
   have e1:=hB.cells (a+q) (by omega);have e2:=hB.cells (a+h+q) (by omega);have f1:=hB.free (a+q) (by omega);have f2:=hB.free (a+h+q) (by omega);have hgl:=hB.lt;rw[(HL.out q).resolve_right (by omega)]at e1;rw[HH.out q hlt]at e2;have HBB:=aa hB;clear hB;go_wp2_with fail
   go_region_held3 (fun w'=>fo wr w') (first|with_reducible exact fo.start _|with_reducible exact fo.calld (fo.refl _) (by assumption)|with_reducible exact fo.call (by assumption) (by assumption)) (first|(go_at_call 16;refine(h2.out _ _ _).mono ?_;rintro e w'⟨rfl,hb'⟩))
   obtain⟨r1,r2,r3,r4⟩:=(show fo wr _ by assumption);have hgl2:=az hgl r3;have HR4:=aa r4;have HSq:=HS.out q hlt;generalize x (a+q)=u at e1 HSq⊢;generalize x (a+h+q)=v at e2 HSq⊢;have HSQ:=aa HSq;clear HSq;clear e1 e2 f1 f2 r1 r2 r3 r4;rename_i w2 hOld;clear hOld;go_wp2_with fail
   refine(h3.out _ _ _).mono ?_;rintro e w3⟨rfl,hb3⟩;go_wp2_with fail
   refine(h4.out _ _ _).mono ?_;rintro e w4⟨rfl,hb4⟩;have hB4:=(HBB.out.below HR4.out hgl).below (hb3.trans (hb4.mono hb3.size)) hgl2;have hbB:=HB.out.trans ((HR4.out.mono (dj hgl)).trans ((hb3.trans (hb4.mono hb3.size)).mono (dj hgl2)));have f1:=hB4.free (a+q) (by omega);have f2:=hB4.free (a+h+q) (by omega);have i1:(w4.cell? ⟨g,a+q,none⟩).isSome=true:=by rw[hB4.cells (a+q) (by omega)];rfl
   have i2:(w4.cell? ⟨g,a+h+q,none⟩).isSome=true:=by rw[hB4.cells (a+h+q) (by omega)];rfl
   have d1:=hB4.cells (a+q) (by omega);have d2:=hB4.cells (a+h+q) (by omega);have HB4:=aa hB4;have HbB:=aa hbB;have hgl4:=hB4.lt;clear hB4 hbB hb3 hb4;go_wp2_with fail
   refine(h2.out _ _ _).mono ?_;rintro e w5⟨rfl,hb5⟩;have HB5:=aa hb5;clear hb5;go_wp2_with fail
   have hset:=(HB4.out.set (a+q) (by omega) (addN k u (j1 k v (T q)))).set (a+h+q) (by omega) (uv k u (j1 k v (T q)));refine⟨⟨q+1,by omega,by go_num,by rw[HT.out],(hset.below HB5.out hset.lt).congr fun j _=>HSQ.out j,?_⟩,by simp[intOf];omega⟩;exact((HbB.out.setCell (p:=⟨g,a+q,none⟩) ac _).setCell (p:=⟨g,a+h+q,none⟩) ac _).trans (HB5.out.mono (dj hset.lt))
  ·obtain rfl:q=h:=by omega
   have hgl:=hB.lt;have HBB:=aa hB;clear hB;go_wp2;refine bodyPost_end (results_none rfl _ _ _) rfl ?_;exact⟨rfl,HBB.out,HB.out⟩
end
section
def Ord(p:Nat)(A:Nat->Nat)(t q:Nat)(y:Nat->Nat):Prop:=∀i,i<q->y (rz t i)=A i%p
theorem Ord.start(p:Nat)(A:Nat->Nat)(t:Nat)(y:Nat->Nat):Ord p A t 0 y:=fun i h=>absurd h (Nat.not_lt_zero i)
theorem Ord.step{p:Nat}{A:Nat->Nat}{t q:Nat}{y:Nat->Nat}(h:Ord p A t q y)(hq:q<2^t):Ord p A t (q+1) (fun j=>if j=rz t q then A q%p else y j):=by
 intro i hi;by_cases he:i=q
 ·subst he;show(if _ then _ else _)=_;rw[if_pos rfl]
 ·have hne:¬rz t i=rz t q:=by
   intro e;have h1:=adf t i (by omega);rw[e,adf t q hq]at h1;exact he h1.symm
  show(if _ then _ else _)=_;rw[if_neg hne];exact h i (by omega)
def Stg(k:Nat)(A:Nat->Nat)(W t s b:Nat)(y:Nat->Nat):Prop:=
 (∀c j,c<b->j<2^(s+1)->(ph (y (c*2^(s+1)+j)):Fin (P3 k))=stg (fun i=>ph (A i)) (ph W) t (s+1) (rz (t-(s+1)) c) j)∧
 (∀c j,2*b<=c->c<2^(t-s)->j<2^s->(ph (y (c*2^s+j)):Fin (P3 k))=stg (fun i=>ph (A i)) (ph W) t s (rz (t-s) c) j)
theorem Stg.start{k:Nat}{A:Nat->Nat}{t:Nat}{y:Nat->Nat}(W:Nat)(h:Ord (P3 k) A t (2^t) y):Stg k A W t 0 0 y:=by
 refine⟨fun c _ hc=>absurd hc (Nat.not_lt_zero c),fun c j _ hc hj=>?_⟩;rw[Nat.sub_zero]at hc;obtain rfl:j=0:=by rw[Nat.pow_zero]at hj;omega
 rw[Nat.pow_zero,Nat.mul_one,Nat.add_zero,ao1,Nat.sub_zero];have h1:=h (rz t c) (ahs t c);rw[adf t c hc]at h1;rw[h1,lx]
theorem Stg.next{k:Nat}{A:Nat->Nat}{W t s:Nat}{y:Nat->Nat}(h:Stg k A W t s (2^(t-(s+1))) y):Stg k A W t (s+1) 0 y:=
 ⟨fun c _ hc=>absurd hc (Nat.not_lt_zero c),fun c j _ hc hj=>h.1 c j hc hj⟩
theorem Stg.done{k:Nat}{A:Nat->Nat}{W t:Nat}{y:Nat->Nat}(h:Stg k A W t t 0 y)(j:Nat)(hj:j<2^t):(ph (y j):Fin (P3 k))=dft (fun i=>ph (A i)) (ph W) (2^t) j:=by
 have h1:=h.2 0 j ac (by rw[Nat.sub_self];decide) hj;rw[Nat.zero_mul,dg,Nat.sub_self]at h1;rw[h1,show rz 0 0=0 from rfl,stg_all]
theorem Stg.step{k:Nat}{A:Nat->Nat}{W t s b:Nat}{y:Nat->Nat}(h:Stg k A W t s b y)(hs:s<t)(hb:b<2^(t-(s+1)))(hW:(ph W:Fin (P3 k))^2^(t-1)= -1)(St:Nat)(hSt:(ph St:Fin (P3 k))=ph W^2^(t-(s+1))):
 Stg k A W t s (b+1) (tn k y (b*2^(s+1)) (2^s) St (2^s)):=by
 have h2:2^(t-s)=2*2^(t-(s+1)):=by rw[show t-s=t-(s+1)+1 by omega,Nat.pow_succ,dq]
 have h3:2^(s+1)=2^s+2^s:=by rw[Nat.pow_succ,Nat.mul_two]
 have hp:0<2^s:=Nat.two_pow_pos s;have eo:(2*b+1)*2^s=b*2^(s+1)+2^s:=by rw[h3,Nat.mul_add,Nat.add_mul,Nat.one_mul,dq 2 b,Nat.mul_assoc,Nat.two_mul,Nat.mul_add]
 have ee:(2*b)*2^s=b*2^(s+1):=by rw[h3,Nat.mul_add,dq 2 b,Nat.mul_assoc,Nat.two_mul,Nat.mul_add]
 refine⟨fun c j hc hj=>?_,fun c j hc hc2 hj=>?_⟩
 ·by_cases he:c=b
  ·subst he
   have hlo:∀q,q<2^s->(ph (y (c*2^(s+1)+q)):Fin (P3 k))=stg (fun i=>ph (A i)) (ph W) t s (rz (t-(s+1)) c) q:=fun q hq=>by
    have:=h.2 (2*c) q ac (by omega) hq;rw[ee,show t-s=t-(s+1)+1 by omega,afh]at this;exact this
   have hhi:∀q,q<2^s->(ph (y (c*2^(s+1)+q+2^s)):Fin (P3 k))=stg (fun i=>ph (A i)) (ph W) t s (rz (t-(s+1)) c+2^(t-(s+1))) q:=fun q hq=>by
    have:=h.2 (2*c+1) q (by omega) (by omega) hq;rw[eo,show t-s=t-(s+1)+1 by omega,aju,show c*2^(s+1)+2^s+q=c*2^(s+1)+q+2^s by omega]at this;exact this
   unfold tn;by_cases hl:j<2^s
   ·rw[if_pos (by omega),addN_ph,me,tw_ph,hlo j hl,hhi j hl,show c*2^(s+1)+j-c*2^(s+1)=j by omega,hSt,ajn _ _ _ _ _ _ hs]
    grind
   ·obtain⟨q,rfl⟩:∃q,j=q+2^s:=⟨j-2^s,by omega⟩
    have hq:q<2^s:=by omega
    rw[if_neg (by omega),if_pos (by omega),zw,me,tw_ph,show c*2^(s+1)+(q+2^s)-2^s=c*2^(s+1)+q by omega,show c*2^(s+1)+q-c*2^(s+1)=q by omega,show c*2^(s+1)+(q+2^s)=c*2^(s+1)+q+2^s by omega,hlo q hq,hhi q hq,hSt,ao2 _ _ _ _ _ _ hs hW];grind
  ·have hcb:c<b:=by omega
   have h4:(c+1)*2^(s+1)<=b*2^(s+1):=Nat.mul_le_mul_right _ hcb;rw[Nat.succ_mul]at h4;have e:tn k y (b*2^(s+1)) (2^s) St (2^s) (c*2^(s+1)+j)=y (c*2^(s+1)+j):=by
    unfold tn;rw[if_neg (by omega),if_neg (by omega)]
   rw[e];exact h.1 c j hcb hj
 ·have h4:(2*(b+1))*2^s<=c*2^s:=Nat.mul_le_mul_right _ hc
  have h5:(2*(b+1))*2^s=b*2^(s+1)+2^s+2^s:=by
   rw[show 2*(b+1)=(2*b+1)+1 by omega,Nat.succ_mul,eo]
  have e:tn k y (b*2^(s+1)) (2^s) St (2^s) (c*2^s+j)=y (c*2^s+j):=by
   unfold tn;rw[if_neg (by omega),if_neg (by omega)]
  rw[e];exact h.2 c j (by omega) hc2 hj
theorem ao3(k W t s:Nat)(hs:s<t):(ph (rh (P3 k) W (2^t/(2*2^s))):Fin (P3 k))=ph W^2^(t-(s+1)):=by
 rw[nm];congr 1;rw[show 2*2^s=2^(s+1) by rw[Nat.pow_succ,dq],Nat.pow_div (by omega) (by decide)]
end
end Go.Proofs.YtjfkmoinldlmaaaGreat
