/- The walk of BeagleFails, part 23. Walks of wild's rows: Value, powers, made. The sums of squares: plain. Walks of wild.Weight, wild.Sums, wild.Find. -/
import Derived.Test.YtjfkmoinldlmaaaGreatFa22
import Derived.Lib.ConvBytes
namespace Go.Proofs.YtjfkmoinldlmaaaGreat
open Go.Proofs.Tryz
section
set_option maxRecDepth 100000
set_option maxHeartbeats 4000000
open Go.RowKit Go.Shelf
def jc(S:Nat->Bool):Nat:=if one S then sgl S+1 else 0
theorem ao9(S:Nat->Bool):sgl S<=255:=by
 unfold sgl;split
 ·rename_i h
  have:=((wt S).1 (by unfold one at h;exact of_decide_eq_true h)).1;omega
 ·omega
theorem ni(S:Nat->Bool):jc S<=256:=by
 have:=ao9 S;unfold jc;split<;>omega
theorem ab7(S:Nat->Bool)(w:World):Calls prog 187 #[cv S] w fun e w'=>e=.returned (.int .u64 (jc S:Nat))/\Below w.heap.size w w':=by
 have h1:=fun w'=>m7 S w'
 have hs:=ao9 S;have hA:Below w.heap.size w (w.alloc (.cells #[.int .u64 (wd S 0:Nat),.int .u64 (wd S 1:Nat),.int .u64 (wd S 2:Nat),.int .u64 (wd S 3:Nat)] 100)):=ae.alloc ac _;have hsI:(sgl S:Int)<=255:=by omega
 unfold jc;cases ho:one S
 ·rw[ho]at h1
  rw[if_neg (by decide)];have H1:=aa h1;clear h1 ho;go_enter func187,ntmps187;go_wp2_with fail
  refine(H1.out _).mono ?_;rintro e w1⟨rfl,hb1⟩;go_wp2_with fail
  go_ret;exact⟨rfl,hA.trans (hb1.mono hA.size)⟩
 ·rw[ho]at h1
  rw[if_pos rfl];have H1:=aa h1;clear h1 ho;go_enter func187,ntmps187;go_wp2_with fail
  refine(H1.out _).mono ?_;rintro e w1⟨rfl,hb1⟩;go_wp2_with fail
  go_ret;exact⟨by congr 2,hA.trans (hb1.mono hA.size)⟩
theorem an6(b:Nat)(hb:b<=255)(w:World):Calls prog 189 #[.int .u8 (b:Nat)] w fun e w'=>e=.returned (.int .u64 (b+1:Nat))/\Below w.heap.size w w':=by
 have hbI:(b:Int)<=255:=by omega
 go_enter func189,ntmps189;go_wp2_with fail
 go_ret;exact⟨by congr 2,ae⟩
theorem ah2(v bx:Nat)(hv:v<=256)(w:World)(hx:Boxed w bx 3 (.int .i64 2)):Calls prog 185 #[.int .u64 (v:Nat),.pointer (some ⟨bx,0,none⟩)] w fun e w'=>e=.returned (.int .u64 (v*v:Nat))/\Below w.heap.size w w':=by
 have c0:=hx.cell;have hvI:(v:Int)<=256:=by omega
 have hvv:v*v<=65536:=by have:=Nat.mul_le_mul hv hv;omega
 have h0:Hid (∀k,k<=2->∃o:Nat,o=v^k):=aa fun k _=>⟨_,rfl⟩
 clear hx;go_enter func185,ntmps185;go_wp2_with fail
 go_loop [4,6] (fun o i=>(i=.int .i64 0/\o=.int .u64 1)\/(i=.int .i64 1/\o=.int .u64 (v:Nat))\/(i=.int .i64 2/\o=.int .u64 (v*v:Nat))) (fun _ i=>2-(intOf i).toNat)
 case atStart=>exact .inl ⟨rfl,rfl⟩
 case round=>
  rcases hrel with⟨rfl,rfl⟩|⟨rfl,rfl⟩|⟨rfl,rfl⟩
  ·go_wp2_with fail
   go_round
   case rel=>exact .inr (.inl ⟨rfl,rfl⟩)
   case measure=>simp[intOf]
  ·have hw:IntKind.u64.wrap ((v:Int)*v)=((v*v:Nat):Int):=by rw[IntKind.wrap_u64,<-Int.natCast_mul];omega
   go_wp2_with fail
   go_round
   case rel=>exact .inr (.inr ⟨rfl,by first|rfl|(rw[Int.natCast_mul])⟩)
   case measure=>simp[intOf]
  ·go_wp2_with fail
   go_ret;exact⟨rfl,ae⟩
theorem afx(n:Nat)(hn:n<=1000)(ad:Option Addr)(cap:Nat)(L:Nat->Nat->Bool)(w:World)(hR:fm w ad n L w.heap.size):
 Calls prog 186 #[.slice ad n cap,.func (.func 187) #[] #[]] w fun e w'=>∃v,e=.returned v/\w'.ownsRow w.heap.size 46 1 v n (fh (fun j=>jc (L j)) n)/\Below w.heap.size w w':=by
 have hnI:(n:Int)<=1000:=by omega
 have hv:=aa fun S w'=>ab7 S w'
 have HR:=aa hR;clear hR;have HF0:Hid (∀k,fh (fun j=>jc (L j)) (k+1)=fh (fun j=>jc (L j)) k++[.int .u64 ((fun j=>jc (L j)) k:Nat)]):=aa fun k=>rfl
 have HF1:Hid (fh (fun j=>jc (L j)) 0=[]):=aa rfl;generalize hWC:fh (fun j=>jc (L j))=WC at *;clear hWC;go_enter func186,ntmps186;go_wp2_with fail
 go_loopw[5,10] (fun v i wr=>∃q:Nat,q<=n/\i=.int .i64 q/\wr.ownsRow w.heap.size 46 1 v q (WC q)/\Below w.heap.size w wr) (fun _ i _=>n-(intOf i).toNat)
 case atStart=>exact⟨0,by omega,rfl,by rw[HF1.out];exact bj _ _ _ _,ae⟩
 case round=>
  obtain⟨q,hq,rfl,ho,hb⟩:=hrel;have HO:=aa ho;have Hb:=aa hb;have hz:=hb.size;clear ho hb;by_cases hlt:q<n
  ·have hlti:(q:Int)<n:=by omega
   have hq0:(0:Int)<=q:=by omega
   obtain⟨b,o,rfl,hbm,e0,e1,e2,e3⟩:=(HR.out.below Hb.out ac).at hlt;have hA:Below w.heap.size wr (wr.alloc (.cells #[.int .u64 (wd (L q) 0:Nat),.int .u64 (wd (L q) 1:Nat),.int .u64 (wd (L q) 2:Nat),.int .u64 (wd (L q) 3:Nat)] 100)):=ae.alloc hz _;go_wp2_with(first|(go_at_call 187;refine(hv.out _ _).mono ?_;rintro e w1⟨rfl,hb1⟩;have ho1:=fe (HO.out.alloc (.cells #[.int .u64 (wd (L q) 0:Nat),.int .u64 (wd (L q) 1:Nat),.int .u64 (wd (L q) 2:Nat),.int .u64 (wd (L q) 3:Nat)] 100)) hb1;have hz2:=ba (ba hz hA.size) hb1.size)|(at_builtin;refine gj abj rfl _ _ rfl rfl ho1 [.int .u64 ((fun j=>jc (L j)) q:Nat)] rfl rfl (by simp[Value.oneCell']) (by unfold maxLen;omega) (by omega) hz2 ?_;intro v3 w3 hown3 hb3))
   exact⟨⟨q+1,by omega,by go_num,by rw[HF0.out];exact hown3,(Hb.out.trans hA).trans ((hb1.mono (ba hz hA.size)).trans hb3)⟩,by simp[intOf];omega⟩
  ·obtain rfl:q=n:=by omega
   go_wp2_with fail
   go_ret;exact⟨_,rfl,HO.out,Hb.out⟩
theorem afw(n:Nat)(hn:n<=1000)(g cap:Nat)(B:Nat->Nat)(hB:∀j,B j<=255)(w:World)(hg:g<w.heap.size)(hc:∀j,j<n->w.cell? ⟨g,j,none⟩=some (.int .u8 (B j:Nat))):
 Calls prog 188 #[.slice (some ⟨g,0,none⟩) n cap,.func (.func 189) #[] #[]] w fun e w'=>∃v,e=.returned v/\w'.ownsRow w.heap.size 46 1 v n (fh (fun j=>B j+1) n)/\Below w.heap.size w w':=by
 have hnI:(n:Int)<=1000:=by omega
 have hv:=aa fun j w'=>an6 (B j) (hB j) w'
 have HC:=aa hc;clear hc hB;have HF0:Hid (∀k,fh (fun j=>B j+1) (k+1)=fh (fun j=>B j+1) k++[.int .u64 ((fun j=>B j+1) k:Nat)]):=aa fun k=>rfl
 have HF1:Hid (fh (fun j=>B j+1) 0=[]):=aa rfl;generalize hWC:fh (fun j=>B j+1)=WC at *;clear hWC;go_enter func188,ntmps188;go_wp2_with fail
 go_loopw[5,10] (fun v i wr=>∃q:Nat,q<=n/\i=.int .i64 q/\wr.ownsRow w.heap.size 46 1 v q (WC q)/\Below w.heap.size w wr) (fun _ i _=>n-(intOf i).toNat)
 case atStart=>exact⟨0,by omega,rfl,by rw[HF1.out];exact bj _ _ _ _,ae⟩
 case round=>
  obtain⟨q,hq,rfl,ho,hb⟩:=hrel;have HO:=aa ho;have Hb:=aa hb;have hz:=hb.size;clear ho hb;by_cases hlt:q<n
  ·have hlti:(q:Int)<n:=by omega
   have hq0:(0:Int)<=q:=by omega
   have e0:=(Hb.out.cell (p:=⟨g,q,none⟩) hg).trans (HC.out q hlt);go_wp2_with(first|(go_at_call 189;refine(hv.out q _).mono ?_;rintro e w1⟨rfl,hb1⟩;have ho1:=fe (HO.out) hb1;have hz2:=ba (hz) hb1.size)|(at_builtin;refine gj abj rfl _ _ rfl rfl ho1 [.int .u64 ((fun j=>B j+1) q:Nat)] rfl rfl (by simp[Value.oneCell']) (by unfold maxLen;omega) (by omega) hz2 ?_;intro v3 w3 hown3 hb3))
   exact⟨⟨q+1,by omega,by go_num,by rw[HF0.out];exact hown3,(Hb.out).trans ((hb1.mono (hz)).trans hb3)⟩,by simp[intOf];omega⟩
  ·obtain rfl:q=n:=by omega
   go_wp2_with fail
   go_ret;exact⟨_,rfl,HO.out,Hb.out⟩
theorem yv(n:Nat)(hn:n<=1000)(ad:Option Addr)(cap bx:Nat)(A:Nat->Nat)(hA:∀j,j<n->A j<=256)(w:World)(hR:i8 w ad n A w.heap.size)(hx:Boxed w bx 3 (.int .i64 2)):
 Calls prog 190 #[.slice ad n cap,.func (.func 185) #[] #[.pointer (some ⟨bx,0,none⟩)]] w fun e w'=>∃v,e=.returned v/\w'.ownsRow w.heap.size 46 1 v n (fh (fun j=>A j*A j) n)/\Below w.heap.size w w':=by
 have hnI:(n:Int)<=1000:=by omega
 have hv:=aa fun j(hj:j<n)w'(h:Boxed w' bx 3 (.int .i64 2))=>ah2 (A j) bx (hA j hj) w' h
 have HR:=aa hR;have HX:=aa hx;clear hR hx hA;have HF0:Hid (∀k,fh (fun j=>A j*A j) (k+1)=fh (fun j=>A j*A j) k++[.int .u64 ((fun j=>A j*A j) k:Nat)]):=aa fun k=>rfl
 have HF1:Hid (fh (fun j=>A j*A j) 0=[]):=aa rfl;generalize hWC:fh (fun j=>A j*A j)=WC at *;clear hWC;go_enter func190,ntmps190;go_wp2_with fail
 go_loopw[5,10] (fun v i wr=>∃q:Nat,q<=n/\i=.int .i64 q/\wr.ownsRow w.heap.size 46 1 v q (WC q)/\Below w.heap.size w wr) (fun _ i _=>n-(intOf i).toNat)
 case atStart=>exact⟨0,by omega,rfl,by rw[HF1.out];exact bj _ _ _ _,ae⟩
 case round=>
  obtain⟨q,hq,rfl,ho,hb⟩:=hrel;have HO:=aa ho;have Hb:=aa hb;have hz:=hb.size;clear ho hb;by_cases hlt:q<n
  ·have hlti:(q:Int)<n:=by omega
   have hq0:(0:Int)<=q:=by omega
   obtain⟨b,o,rfl,hbm,e0⟩:=(HR.out.below Hb.out ac).at hlt;go_wp2_with(first|(go_at_call 185;refine(hv.out q hlt _ (Boxed.below HX.out Hb.out HX.out.lt)).mono ?_;rintro e w1⟨rfl,hb1⟩;have ho1:=fe (HO.out) hb1;have hz2:=ba (hz) hb1.size)|(at_builtin;refine gj abj rfl _ _ rfl rfl ho1 [.int .u64 ((fun j=>A j*A j) q:Nat)] rfl rfl (by simp[Value.oneCell']) (by unfold maxLen;omega) (by omega) hz2 ?_;intro v3 w3 hown3 hb3))
   exact⟨⟨q+1,by omega,by go_num,by rw[HF0.out];exact hown3,(Hb.out).trans ((hb1.mono (hz)).trans hb3)⟩,by simp[intOf];omega⟩
  ·obtain rfl:q=n:=by omega
   go_wp2_with fail
   go_ret;exact⟨_,rfl,HO.out,Hb.out⟩
end
section
def qo(p:Nat->Nat):Nat->Nat
 |0=>0
 |j+1=>qo p j+p j*p j*p j
def dst(p b:Nat->Nat)(i:Nat):Nat->Nat
 |0=>0
 |j+1=>dst p b i j+p j*((p j-b (i+j))*(p j-b (i+j))+(b (i+j)-p j)*(b (i+j)-p j))
theorem sq_step(p b:Nat):((p*((p-b)*(p-b)+(b-p)*(b-p)):Nat):Int)=(p*p*p:Nat)-2*(p*p*b:Nat)+(p*(b*b):Nat):=by
 rcases Nat.le_total p b with h|h
 ·obtain⟨k,rfl⟩:=Nat.exists_eq_add_of_le h
  rw[Nat.sub_eq_zero_of_le h,Nat.add_sub_cancel_left];simp only[Int.natCast_mul,Int.natCast_add];grind
 ·obtain⟨k,rfl⟩:=Nat.exists_eq_add_of_le h
  rw[Nat.sub_eq_zero_of_le h,Nat.add_sub_cancel_left];simp only[Int.natCast_mul,Int.natCast_add];grind
theorem dst_eq(p b:Nat->Nat)(i n:Nat):((dst p b i n:Nat):Int)=(qo p n:Nat)-2*(j9 (fun j=>p j*p j) b i n:Nat)+(j9 p (fun j=>b j*b j) i n:Nat):=by
 induction n with
 |zero=>rfl
 |succ n ih=>
  have h:=sq_step (p n) (b (i+n));simp only[dst,qo,j9];omega
theorem agj(p:Nat->Nat)(n:Nat)(h:∀j,p j<=256):qo p n<=n*16777216:=by
 induction n with
 |zero=>exact ac
 |succ n ih=>
  simp only[qo];have:=Nat.mul_le_mul (Nat.mul_le_mul (h n) (h n)) (h n);omega
theorem ar4(p b:Nat->Nat)(i n:Nat):dst p b i n=0↔∀j,j<n->p j=0\/p j=b (i+j):=by
 induction n with
 |zero=>exact⟨fun _ j h=>absurd h (Nat.not_lt_zero j),fun _=>rfl⟩
 |succ n ih=>
  simp only[dst];have hk:p n*((p n-b (i+n))*(p n-b (i+n))+(b (i+n)-p n)*(b (i+n)-p n))=0↔p n=0\/p n=b (i+n):=by
   rw[Nat.mul_eq_zero];refine or_congr_right ⟨fun h=>?_,fun h=>by rw[h];simp⟩;have h1:(p n-b (i+n))*(p n-b (i+n))=0:=by omega
   have h2:(b (i+n)-p n)*(b (i+n)-p n)=0:=by omega
   rw[Nat.mul_eq_zero]at h1 h2;omega
  constructor
  ·intro h j hj
   by_cases he:j=n
   ·subst he;exact hk.1 (by omega)
   ·exact ih.1 (by omega) j (by omega)
  ·intro h
   have h1:=ih.2 fun j hj=>h j (by omega)
   have h2:=hk.2 (h n (by omega));omega
theorem aoo(W m h d:Nat)(hW:W<=1073741824)(hm:m<=1073741824)(hh:h<=1073741824)(he:(d:Int)=(W:Nat)-2*(m:Nat)+(h:Nat)):
 IntKind.u64.wrap (IntKind.u64.wrap ((W:Int)-2*(m:Int))+(h:Int))=(d:Nat):=by
 rw[IntKind.wrap_u64,IntKind.wrap_u64];omega
theorem ah3(t:ByteArray)(L:Nat->Nat->Bool)(n i:Nat)(hp:ki L n=true):(dst (fun j=>jc (L j)) (fun j=>tb t j+1) i n=0)↔ky t L i n=0:=by
 rw[ar4];have hpl:∀j,j<n->one (L j)=true\/fj (L j) iz=true:=fun j hj=>by
  have:=(abt _ n).1 hp j hj;rwa[Bool.or_eq_true]at this
 have hone:∀j,j<n->((jc (L j)=0\/jc (L j)=tb t (i+j)+1)↔L j (tb t (i+j))=true):=fun j hj=>by
  have hb:=jq t (i+j);unfold jc;cases ho:one (L j)with
  |true=>
   rw[if_pos rfl];obtain⟨h1,h2⟩:=(wt (L j)).1 (by unfold one at ho;exact of_decide_eq_true ho);rw[ajp ho,h2 _ (by omega)];constructor
   ·rintro(h|h)
    ·omega
    ·have:tb t (i+j)=first (L j):=by omega
     rw[this];exact beq_self_eq_true _
   ·intro h
    right;have:=eq_of_beq h;omega
  |false=>
   rw[if_neg (by decide)];have hf:=(hpl j hj).resolve_left (by rw[ho];decide);have:L j (tb t (i+j))=true:=xn hf (by omega);simp[this]
 have hm:∀k,k<=n->(ky t L i k=0↔∀j,j<k->L j (tb t (i+j))=true):=by
  intro k;induction k with
  |zero=>intro _;exact⟨fun _ j h=>absurd h (Nat.not_lt_zero j),fun _=>rfl⟩
  |succ k ih=>
   intro hk;have h1:=ih (by omega);have h2:ky t L i (k+1)=ky t L i k+(if L k (tb t (i+k))then 0 else 1):=rfl;rw[h2];constructor
   ·intro h j hj
    by_cases he:j=k
    ·subst he
     cases hb:L j (tb t (i+j))with
     |true=>rfl
     |false=>rw[hb]at h;simp at h
    ·exact h1.1 (by omega) j (by omega)
   ·intro h
    rw[h k (by omega),if_pos rfl,h1.2 fun j hj=>h j (by omega)]
 rw[hm n ac];exact forall_congr' fun j=>forall_congr' fun hj=>hone j hj
end
section
set_option maxRecDepth 100000
set_option maxHeartbeats 8000000
open Go.RowKit Go.Shelf
theorem ag6(ad:Option Addr)(n cap:Nat)(K:Int)(L:Nat->Nat->Bool)(hn:n<=64)(w:World)(hR:fm w ad n L w.heap.size):
 Calls prog 191 #[lv ad n cap K] w fun e w'=>e=.returned (.int .u64 (qo (fun j=>jc (L j)) n:Nat))/\Below w.heap.size w w':=by
 have hv:=aa fun S w'=>ab7 S w'
 have hle:=aa fun k(hk:k<=64)=>show qo (fun j=>jc (L j)) k<=1073741824 by have:=agj (fun j=>jc (L j)) k (fun j=>ni _);omega
 have hle2:=aa fun j=>ni (L j)
 have hC0:Hid (qo (fun j=>jc (L j)) 0=0):=aa rfl;have hC1:Hid (∀k,qo (fun j=>jc (L j)) (k+1)=qo (fun j=>jc (L j)) k+jc (L k)*jc (L k)*jc (L k)):=aa fun k=>rfl
 generalize qo (fun j=>jc (L j))=C at *;have hnI:(n:Int)<=64:=by omega
 have hL:=fk.new w ad n cap K;have hA:Below w.heap.size w (w.alloc (.cells #[.slice ad n cap,.int .i64 K] 52)):=ae.alloc ac _;have HR0:=aa hR;have HA:=aa hA;obtain⟨c0,c1,cl⟩:=hL;clear hA hR;go_enter func191,ntmps191;go_wp2_with fail
 generalize (w.alloc (.cells #[.slice ad n cap,.int .i64 K] 52))=W1 at c0 c1 cl HA⊢;go_wp2_with fail
 go_loopw[3,10] (fun v i wr=>∃q:Nat,q<=n/\i=.int .i64 q/\v=.int .u64 (C q:Nat)/\Below w.heap.size w wr) (fun _ i _=>n-(intOf i).toNat)
 case atStart=>exact⟨0,by omega,rfl,by rw[hC0.out];rfl,HA.out⟩
 case round=>
  obtain⟨q,hq,rfl,rfl,hb⟩:=hrel;have Hb:=aa hb;have hz:=hb.size;clear hb;by_cases hlt:q<n
  ·have hlti:(q:Int)<n:=by omega
   have hq0:(0:Int)<=q:=by omega
   obtain⟨b,o,rfl,hbm,e0,e1,e2,e3⟩:=(HR0.out.below Hb.out ac).at hlt;have hA2:Below wr.heap.size wr (wr.alloc (.cells #[.int .u64 (wd (L q) 0:Nat),.int .u64 (wd (L q) 1:Nat),.int .u64 (wd (L q) 2:Nat),.int .u64 (wd (L q) 3:Nat)] 100)):=ae.alloc ac _;have hC:=fc.new wr (L q);obtain⟨⟨d0,d1,d2,d3⟩,-,dl⟩:=hC;have hv1:=hle2.out q;have hC2:=hle.out q (by omega);have hC3:=hle.out (q+1) (by omega);have HCq:=aa (hC1.out q);obtain⟨v,hv'⟩:∃v,v=jc (L q):=⟨_,rfl⟩;rw[<-hv']at hv1;have HV:=aa hv';have hvI:(v:Int)<=256:=by omega
   have hv2:v*v<=65536:=by have:=Nat.mul_le_mul hv1 hv1;omega
   have hv3:v*v*v<=16777216:=by have:=Nat.mul_le_mul hv2 hv1;omega
   have hw1:IntKind.u64.wrap ((v:Int)*v)=((v*v:Nat):Int):=by rw[IntKind.wrap_u64,<-Int.natCast_mul];omega
   have hw2:IntKind.u64.wrap ((v:Int)*v*v)=((v*v*v:Nat):Int):=by rw[IntKind.wrap_u64,<-Int.natCast_mul,<-Int.natCast_mul];omega
   have hw3:IntKind.u64.wrap ((C q:Nat)+(v:Int)*v*v)=((C q+v*v*v:Nat):Int):=by rw[IntKind.wrap_u64,<-Int.natCast_mul,<-Int.natCast_mul];omega
   have hcall:Hid (∀w',Calls prog 187 #[cv (L q)] w' fun e w2=>e=.returned (.int .u64 (v:Nat))/\Below w'.heap.size w' w2):=aa fun w'=>by rw[HV.out];exact hv.out (L q) w'
   have HW3:=aa hw3;clear hv' hw3;go_wp2_with fail
   refine(hcall.out _).mono ?_;rintro e w1⟨rfl,hb1⟩;go_wp2_with fail
   go_roundw
   case rel=>exact⟨q+1,by omega,by go_num,by rw[HCq.out,<-HV.out];exact congrArg _ HW3.out,Hb.out.trans ((hA2.trans (hb1.mono hA2.size)).mono hz)⟩
   case measure=>simp[intOf];omega
  ·obtain rfl:q=n:=by omega
   go_wp2_with fail
   go_ret;exact⟨rfl,Hb.out⟩
theorem alk(w:World):Calls prog 184 #[.int .i64 2] w fun e w'=>e=.returned (.func (.func 185) #[] #[.pointer (some ⟨w.heap.size,0,none⟩)])/\Boxed w' w.heap.size 3 (.int .i64 2)/\Below w.heap.size w w':=by
 go_enter func184,ntmps184;go_wp2;go_ret;exact⟨rfl,Boxed.new w 3 (.int .i64 2),ae.alloc ac _⟩
theorem zb{w:World}{base n:Nat}{v:Value}{A:Nat->Nat}(h:w.ownsRow base 46 1 v n (fh A n))(hn:0<n):∃g cap,v=.slice (some ⟨g,0,none⟩) n cap/\base<=g/\jm w g n A:=by
 obtain⟨ad,cap,rfl⟩:=ey h;obtain⟨b,o,rfl,hb,-⟩:=(j5 h).at hn;have hr:=j5 h;rcases h.2 with⟨h1,_⟩|⟨g,cp,cur,h1,hg,hgb,_⟩
 ·cases h1
 ·cases h1
  refine⟨b,cap,rfl,hg,⟨fun j hj=>?_,fun j hj=>?_,hb⟩⟩
  ·obtain⟨b',o',e,-,hc⟩:=hr.at hj
   cases e;rw[dg]at hc;exact hc
  ·simp[World.frozen?,hgb]
theorem ak8(ad:Option Addr)(n cap:Nat)(K:Int)(L:Nat->Nat->Bool)(t:ByteArray)(size:Int)(hn1:1<=n)(hn:n<=64)(ht:t.size<=1000)(hr:fv n L K=true)(hp:ki L n=true)(hsz:t.size<n\/vn n size=true)(w:World)(hR:fm w ad n L w.heap.size):
 Calls prog 141 #[lv ad n cap K,.string t,.int .i64 size] w fun e w'=>∃ad' cap' z,e=.returned (.tuple #[.slice ad' (t.size+1-n:Nat) cap',.int .i64 z,.int .i64 0])/\i8 w' ad' (t.size+1-n) (fun i=>dst (fun j=>jc (L j)) (fun j=>tb t j+1) i n) w'.heap.size/\Below w.heap.size w w':=by
 have hri:=aa fun w'(h:fm w' ad n L w'.heap.size)=>(show _ from hr▸jn ad n cap K L (by omega) w' h)
 have hpl:=aa fun w'(h:fm w' ad n L w'.heap.size)=>(show _ from hp▸yb ad n cap K L (by omega) w' h)
 have hs1:=aa alk;have hm1:=aa fun w'(h:fm w' ad n L w'.heap.size)=>afx n (by omega) ad cap L w' h
 have hm2:=aa fun g cp w'(hg:g<w'.heap.size)(hc:∀j,j<t.size->w'.cell? ⟨g,j,none⟩=some (.int .u8 (tb t j:Nat)))=>afw t.size ht g cp (fun j=>tb t j) (fun j=>jq t j) w' hg hc
 have hm3:=aa fun ad' cp bx w' h hx=>yv n (by omega) ad' cp bx (fun j=>jc (L j)) (fun j _=>ni _) w' h hx
 have hm4:=aa fun ad' cp bx w' h hx=>yv t.size ht ad' cp bx (fun j=>tb t j+1) (fun j _=>by have:=jq t j;omega) w' h hx
 have hc1:=aa fun ap at' cp ct(hct:t.size<=ct)w' h1 h2=>qd ap at' n t.size cp ct (fun j=>jc (L j)*jc (L j)) (fun j=>tb t j+1) size hn1 (by omega) (by omega) hct (fun j _=>by have:=Nat.mul_le_mul (ni (L j)) (ni (L j));omega) (fun j _=>by have:=jq t j;omega) hsz w' h1 h2
 have hc2:=aa fun ap at' cp ct(hct:t.size<=ct)w' h1 h2=>qd ap at' n t.size cp ct (fun j=>jc (L j)) (fun j=>(tb t j+1)*(tb t j+1)) size hn1 (by omega) (by omega) hct (fun j _=>by have:=ni (L j);omega) (fun j _=>by have:=jq t j;have:=Nat.mul_le_mul (show tb t j+1<=256 by omega) (show tb t j+1<=256 by omega);omega) hsz w' h1 h2
 have hwt:=aa fun w'(h:fm w' ad n L w'.heap.size)=>ag6 ad n cap K L hn w' h
 have hW1:qo (fun j=>jc (L j)) n<=1073741824:=by have:=agj (fun j=>jc (L j)) n (fun j=>ni _);omega
 have hD:=aa fun i=>dst_eq (fun j=>jc (L j)) (fun j=>tb t j+1) i n
 have hM1:Hid (∀i,j9 (fun j=>jc (L j)*jc (L j)) (fun j=>tb t j+1) i n<=1073741824):=aa fun i=>by
  have h:=ac5 (fun j=>jc (L j)*jc (L j)) (fun j=>tb t j+1) i n 65536 256 (fun j _=>by have:=Nat.mul_le_mul (ni (L j)) (ni (L j));omega) (fun j _=>by have:=jq t (i+j);omega);omega
 have hM2:Hid (∀i,j9 (fun j=>jc (L j)) (fun j=>(tb t j+1)*(tb t j+1)) i n<=1073741824):=aa fun i=>by
  have h:=ac5 (fun j=>jc (L j)) (fun j=>(tb t j+1)*(tb t j+1)) i n 256 65536 (fun j _=>ni _) (fun j _=>by have:=jq t (i+j);have:=Nat.mul_le_mul (show tb t (i+j)+1<=256 by omega) (show tb t (i+j)+1<=256 by omega);omega);omega
 have hWD:Hid (∀i,IntKind.u64.wrap (IntKind.u64.wrap ((qo (fun j=>jc (L j)) n:Nat)-2*((j9 (fun j=>jc (L j)*jc (L j)) (fun j=>tb t j+1) i n:Nat):Int))+((j9 (fun j=>jc (L j)) (fun j=>(tb t j+1)*(tb t j+1)) i n:Nat):Int))=(dst (fun j=>jc (L j)) (fun j=>tb t j+1) i n:Nat)):=
  aa fun i=>aoo _ _ _ _ hW1 (hM1.out i) (hM2.out i) (hD.out i)
 obtain⟨MM,hMM⟩:∃MM:Nat->Nat,MM=fun i=>j9 (fun j=>jc (L j)*jc (L j)) (fun j=>tb t j+1) i n:=⟨_,rfl⟩
 obtain⟨HH,hHH⟩:∃HH:Nat->Nat,HH=fun i=>j9 (fun j=>jc (L j)) (fun j=>(tb t j+1)*(tb t j+1)) i n:=⟨_,rfl⟩
 obtain⟨DD,hDD⟩:∃DD:Nat->Nat,DD=fun i=>dst (fun j=>jc (L j)) (fun j=>tb t j+1) i n:=⟨_,rfl⟩
 obtain⟨CW,hCW⟩:∃CW:Nat,CW=qo (fun j=>jc (L j)) n:=⟨_,rfl⟩;have hWD:Hid (∀i,IntKind.u64.wrap (IntKind.u64.wrap ((CW:Int)-2*((MM i:Nat):Int))+((HH i:Nat):Int))=(DD i:Nat)):=aa fun i=>by rw[hMM,hHH,hDD,hCW];exact hWD.out i
 have hM1:Hid (∀i,MM i<=1073741824):=aa fun i=>by rw[hMM];exact hM1.out i
 have hM2:Hid (∀i,HH i<=1073741824):=aa fun i=>by rw[hHH];exact hM2.out i
 rw[<-hMM]at hc1;rw[<-hHH]at hc2;rw[<-hDD];rw[<-hCW]at hwt hW1;clear hMM hHH hDD hCW hD;obtain⟨S,hS⟩:∃S,S=t.size+1-n:=⟨_,rfl⟩;rw[<-hS]at hc1 hc2⊢;have hSI:(S:Int)<=1001:=by omega
 have hnI:(n:Int)<=64:=by omega
 have hCI:(CW:Int)<=1073741824:=by omega
 have hL:=fk.new w ad n cap K;have hA:Below w.heap.size w (w.alloc (.cells #[.slice ad n cap,.int .i64 K] 52)):=ae.alloc ac _;have HR0:=aa hR;clear hR hS;have hcv:=fun w'=>Lib.run_convert_string_bytes (P:=prog) w' 9 118 5 t underlying9 underlying118 underlying5
 go_enter func141,ntmps141;go_wp2_with fail
 generalize (w.alloc (.cells #[.slice ad n cap,.int .i64 K] 52))=W1 at hL hA⊢;have HA:=aa hA;have HL:=aa hL;clear hA hL;refine(hri.out _ ((HR0.out.below HA.out ac).mono HA.out.size)).mono ?_;rintro e w1⟨rfl,hb1⟩;have H1:=aa (HA.out.trans (hb1.mono HA.out.size));obtain⟨c0,c1,cl⟩:=id (HL.out.below hb1 HL.out.2.2);have HL1:=aa (HL.out.below hb1 HL.out.2.2);clear hb1 HL HA;go_wp2_with fail
 refine(hpl.out _ ((HR0.out.below H1.out ac).mono H1.out.size)).mono ?_;rintro e w2⟨rfl,hb2⟩;have H2:=aa (H1.out.trans (hb2.mono H1.out.size));have HL2:=aa (HL1.out.below hb2 cl);clear c0 c1 cl hb2 HL1 H1;obtain⟨c0,c1,cl⟩:=id HL2.out;go_wp2_with fail
 refine(hm1.out _ ((HR0.out.below H2.out ac).mono H2.out.size)).mono ?_;rintro e w3⟨vp,rfl,hop,hb3⟩;obtain⟨adp,capp,rfl⟩:=ey hop;have HP:=aa (j5 hop);have H3:=aa (H2.out.trans (hb3.mono H2.out.size));have HL3:=aa (HL2.out.below hb3 cl);clear c0 c1 cl hb3 HL2 H2 hop;obtain⟨c0,c1,cl⟩:=id HL3.out;go_wp2_with fail
 have hcell:=aa fun j hj=>Lib.bytesWorld_cell w3 5 t j hj
 have hbw:Below w3.heap.size w3 (Lib.bytesWorld w3 5 t):=⟨rfl,rfl,rfl,by rw[Lib.bytesWorld_size];omega,fun k hk=>Lib.bytesWorld_at_old w3 5 t k hk⟩;have hbz:w3.heap.size<(Lib.bytesWorld w3 5 t).heap.size:=by rw[Lib.bytesWorld_size];omega
 generalize Lib.bytesWorld w3 5 t=wB at hcell hbw hbz⊢;generalize grownCap w3 t.size 0 5=gcp at *;refine(hm2.out _ _ _ hbz (fun j hj=>(hcell.out j hj).trans (by congr 3;unfold tb;simp[List.getD];cases h:t.data[j]?<;>rfl))).mono ?_;rintro e w4⟨vb,rfl,hob,hb4⟩;obtain⟨adb,capb,rfl⟩:=ey hob;have hcapb:t.size<=capb:=by
  rcases hob.2 with⟨h1,h2⟩|⟨g,cp,cur,h1,hg,hgb,hle,_⟩
  ·omega
  ·cases h1;exact hle
 have HBr:=aa (j5 hob);have h34:=hbw.trans (hb4.mono hbw.size);have H4:=aa (H3.out.trans (h34.mono H3.out.size));have HP4:=aa ((HP.out.below h34 ac).mono h34.size);have HL4:=aa (HL3.out.below h34 cl);clear c0 c1 cl hb4 HL3 H3 hob HP hcell hbw hbz h34;obtain⟨c0,c1,cl⟩:=id HL4.out;go_wp2_with fail
 refine(hs1.out _).mono ?_;rintro e w5⟨rfl,hx5,hb5⟩;have HP5:=aa ((HP4.out.below hb5 ac).mono hb5.size);have HB5:=aa ((HBr.out.below hb5 ac).mono hb5.size);have HL5:=aa (HL4.out.below hb5 cl);have H5:=aa (H4.out.trans (hb5.mono H4.out.size));clear c0 c1 cl hb5 HL4 H4 HP4 HBr;go_wp2_with fail
 refine(hm3.out _ _ _ _ HP5.out hx5).mono ?_;rintro e w6⟨v6,rfl,ho6,hb6⟩;obtain⟨ad6,cap6,rfl⟩:=ey ho6;have HQ6:=aa (j5 ho6);have HP6:=aa ((HP5.out.below hb6 ac).mono hb6.size);have HB6:=aa ((HB5.out.below hb6 ac).mono hb6.size);have HL6:=aa (HL5.out.below hb6 HL5.out.2.2);have H6:=aa (H5.out.trans (hb6.mono H5.out.size));clear hb6 HL5 H5 HP5 HB5 hx5 ho6;go_wp2_with fail
 refine(hc1.out _ _ _ _ hcapb _ HQ6.out HB6.out).mono ?_;rintro e w7⟨v7,z7,rfl,ho7,hb7⟩;obtain⟨ad7,cap7,rfl⟩:=ey ho7;have HM7:=aa ho7;have HP7:=aa ((HP6.out.below hb7 ac).mono hb7.size);have HB7:=aa ((HB6.out.below hb7 ac).mono hb7.size);have HL7:=aa (HL6.out.below hb7 HL6.out.2.2);have H7:=aa (H6.out.trans (hb7.mono H6.out.size));have hz6:=H6.out.size;clear hb7 HL6 H6 HP6 HB6 HQ6 ho7;go_wp2_with fail
 refine(hs1.out _).mono ?_;rintro e w8⟨rfl,hx8,hb8⟩;have HM8:=aa (fe HM7.out hb8);have HP8:=aa ((HP7.out.below hb8 ac).mono hb8.size);have HB8:=aa ((HB7.out.below hb8 ac).mono hb8.size);have HL8:=aa (HL7.out.below hb8 HL7.out.2.2);have H8:=aa (H7.out.trans (hb8.mono H7.out.size));clear hb8 HL7 H7 HP7 HB7 HM7;go_wp2_with fail
 refine(hm4.out _ _ _ _ HB8.out hx8).mono ?_;rintro e w9⟨v9,rfl,ho9,hb9⟩;obtain⟨ad9,cap9,rfl⟩:=ey ho9;have hcap9:t.size<=cap9:=by
  rcases ho9.2 with⟨h1,h2⟩|⟨g,cp,cur,h1,hg,hgb,hle,_⟩
  ·omega
  ·cases h1;exact hle
 have HQ9:=aa (j5 ho9);have HM9:=aa (fe HM8.out hb9);have HP9:=aa ((HP8.out.below hb9 ac).mono hb9.size);have HL9:=aa (HL8.out.below hb9 HL8.out.2.2);have H9:=aa (H8.out.trans (hb9.mono H8.out.size));clear hb9 HL8 H8 HP8 HB8 HM8 ho9 hx8;go_wp2_with fail
 refine(hc2.out _ _ _ _ hcap9 _ HP9.out HQ9.out).mono ?_;rintro e w10⟨v10,z10,rfl,ho10,hb10⟩;obtain⟨ad10,cap10,rfl⟩:=ey ho10;have HH10:=aa ho10;have HM10:=aa (fe HM9.out hb10);have HL10:=aa (HL9.out.below hb10 HL9.out.2.2);have H10:=aa (H9.out.trans (hb10.mono H9.out.size));have hz9:=hb10.size;have hMlt:Hid (∀k,(Value.slice ad7 S cap7).ownBlock=some k->k<w9.heap.size):=aa fun k hk=>(HM9.out.lt k hk).2
 clear hb10 HL9 H9 HP9 HM9 HQ9 ho10;obtain⟨c0,c1,cl⟩:=id HL10.out;go_wp2_with fail
 refine(hwt.out _ ((HR0.out.below H10.out ac).mono H10.out.size)).mono ?_;rintro e w11⟨rfl,hb11⟩;have HH11:=aa (fe HH10.out hb11);have HM11:=aa (fe HM10.out hb11);have H11:=aa (H10.out.trans (hb11.mono H10.out.size));clear hb11 HL10 H10 HM10 HH10 c0 c1 cl;go_wp2_with fail
 have hw0:w.heap.size<=w6.heap.size:=hz6;by_cases hS0:S=0
 ·subst hS0
  go_loopw[63] (fun i wr=>i=.int .i64 0/\Below w.heap.size w wr) (fun _ _=>0)
  case atStart=>exact⟨rfl,H11.out⟩
  case round=>
   obtain⟨rfl,hb⟩:=hrel;go_wp2_with fail
   refine ay (results_tmp3 rfl _ _ _) rfl ?_;exact⟨_,_,_,rfl,.inl rfl,hb⟩
 ·obtain⟨gm,cm,em,hgm,hBm⟩:=zb HM11.out (by omega)
  obtain⟨gh,ch,eh,hgh,hBh⟩:=zb HH11.out (by omega);have hgl:=hMlt.out gm (by rw[em];rfl);cases em;cases eh;have HBM:=aa hBm;have HBH:=aa hBh.cells;have hhl:=hBh.lt;clear hBm hBh HM11 HH11 hMlt hS0;go_loopw[63] (fun i wr=>∃q:Nat,q<=S/\i=.int .i64 q/\jm wr gm S (fun j=>if j<q then DD j else MM j)/\(∀j,j<S->wr.cell? ⟨gh,j,none⟩=some (.int .u64 (HH j:Nat)))/\Below w.heap.size w wr) (fun i _=>S-(intOf i).toNat)
  case atStart=>exact⟨0,by omega,rfl,HBM.out.congr fun j _=>by rw[if_neg (by omega)],HBH.out,H11.out⟩
  case round=>
   obtain⟨q,hq,rfl,hB,hH,hb⟩:=hrel;have HB:=aa hB;have HHc:=aa hH;have Hb:=aa hb;clear hB hH hb;by_cases hlt:q<S
   ·have hlti:(q:Int)<S:=by omega
    have hq0:(0:Int)<=q:=by omega
    have d1:=HB.out.cells q hlt;have f1:=HB.out.free q hlt;have dl:=HB.out.lt;have e1:=HHc.out q hlt;rw[if_neg (by omega)]at d1;have m1:=hM1.out q;have m2:=hM2.out q;have hwd:=hWD.out q;obtain⟨m,hm⟩:∃m,m=MM q:=⟨_,rfl⟩;obtain⟨h,hh⟩:∃h,h=HH q:=⟨_,rfl⟩;obtain⟨d,hd⟩:∃d,d=DD q:=⟨_,rfl⟩;rw[<-hm]at d1 m1 hwd;rw[<-hh]at e1 m2 hwd;rw[<-hd]at hwd;have HD:=aa hd;have hw2:IntKind.u64.wrap (2*(m:Int))=2*(m:Int):=by rw[IntKind.wrap_u64];omega
    clear hm hh hd;go_wp2_with fail
    go_region;go_wp2_with fail
    go_roundw
    case rel=>
     refine⟨q+1,by omega,by go_num,((HB.out.set q hlt d).below (aw (gm+1) _).drew (by omega)).congr fun j hj=>?_,fun j hj=>?_,?_⟩
     ·by_cases he:j=q
      ·subst he;rw[if_pos rfl,if_pos (by omega)];exact HD.out
      ·rw[if_neg he]
       by_cases h3:j<q
       ·rw[if_pos h3,if_pos (by omega)]
       ·rw[if_neg h3,if_neg (by omega)]
     ·show(wr.setCell ⟨gm,q,none⟩ _).cell? _=_
      rw[bh _ _ _ _ (by intro e;injection e with h1 h2;omega)];exact HHc.out j hj
     ·exact(Hb.out.setCell (p:=⟨gm,q,none⟩) (by show w.heap.size<=gm;omega) _).drew
    case measure=>simp[intOf];omega
   ·obtain rfl:q=S:=by omega
    go_wp2_with fail
    refine ay (results_tmp3 rfl _ _ _) rfl ?_;exact⟨_,_,_,rfl,HB.out.row.congr fun j hj=>by rw[if_pos hj],Hb.out⟩
def km(D:Nat->Nat):Nat->List Int
 |0=>[]
 |k+1=>if D k=0 then km D k++[(k:Int)]else km D k
theorem aaf(D:Nat->Nat)(k:Nat):(km D k).length<=k:=by
 induction k with
 |zero=>exact ac
 |succ k ih=>simp only[km];split<;>(try rw[bd,List.length_singleton])<;>omega
theorem ak6(t:ByteArray)(L:Nat->Nat->Bool)(n:Nat)(hp:ki L n=true)(k:Nat):km (fun i=>dst (fun j=>jc (L j)) (fun j=>tb t j+1) i n) k=qz t n L 0 (kh 0 k):=by
 induction k with
 |zero=>rfl
 |succ k ih=>
  rw[n9,xe,dg,<-ih];have h:=ah3 t L n k hp;simp only[km];by_cases hd:dst (fun j=>jc (L j)) (fun j=>tb t j+1) k n=0
  ·rw[if_pos hd,if_pos (by have:=h.1 hd;omega)]
  ·rw[if_neg hd,if_neg (by intro hm;exact hd (h.2 (by omega)))]
theorem ak9(ad:Option Addr)(n cap:Nat)(L:Nat->Nat->Bool)(t:ByteArray)(size:Int)(hn1:1<=n)(hn:n<=64)(ht:t.size<=1000)(hr:fv n L 0=true)(hp:ki L n=true)(hsz:t.size<n\/vn n size=true)(w:World)(hR:fm w ad n L w.heap.size):
 Calls prog 84 #[lv ad n cap 0,.string t,.int .i64 size] w fun e w'=>∃v z,e=.returned (.tuple #[v,.int .i64 z,.int .i64 0])/\w'.ownsRow w.heap.size 3 1 v (qz t n L 0 (kh 0 (many t n L 0 0))).length (ga (qz t n L 0 (kh 0 (many t n L 0 0))))/\Below w.heap.size w w':=by
 have hmany:many t n L 0 0=t.size+1-n:=by unfold many;rw[hr,if_pos rfl];omega
 rw[hmany,<-ak6 t L n hp];have h1:=aa fun w'(h:fm w' ad n L w'.heap.size)=>ak8 ad n cap 0 L t size hn1 hn ht hr hp hsz w' h
 generalize (fun i=>dst (fun j=>jc (L j)) (fun j=>tb t j+1) i n)=D at *;obtain⟨S,hS⟩:∃S,S=t.size+1-n:=⟨_,rfl⟩;rw[<-hS]at h1⊢;have hSI:(S:Int)<=1001:=by omega
 have hS1:S<=1001:=by omega
 have hL:=fk.new w ad n cap 0;have hA:Below w.heap.size w (w.alloc (.cells #[.slice ad n cap,.int .i64 0] 52)):=ae.alloc ac _;have HR1:=aa ((hR.below hA ac).mono hA.size);have HA:=aa hA;have HZ0:Hid (km D 0=[]):=aa rfl;have HZ1:Hid (∀k,D k=0->km D (k+1)=km D k++[(k:Int)]):=aa fun k h=>by simp only[km];rw[if_pos h]
 have HZ2:Hid (∀k,¬D k=0->km D (k+1)=km D k):=aa fun k h=>by simp only[km];rw[if_neg h]
 have HZL:=aa fun k=>aaf D k
 obtain⟨c0,c1,cl⟩:=hL;clear hA hR hmany hS;generalize km D=ZT at *;go_enter func84,ntmps84;go_wp2_with fail
 refine(h1.out _ HR1.out).mono ?_;rintro e w1⟨ad1,cap1,z1,rfl,hr1,hb1⟩;have HRr:=aa hr1;have Hb1:=aa (HA.out.trans (hb1.mono HA.out.size));clear hr1 hb1 HR1 HA c0 c1 cl;go_wp2_with fail
 go_loopw[12,28] (fun v i wr=>∃q:Nat,q<=S/\i=.int .i64 q/\wr.ownsRow w1.heap.size 3 1 v (ZT q).length (ga (ZT q))/\Below w1.heap.size w1 wr) (fun _ i _=>S-(intOf i).toNat)
 case atStart=>exact⟨0,by omega,rfl,by rw[HZ0.out];exact bj _ _ _ _,ae⟩
 case round=>
  obtain⟨q,hq,rfl,ho,hb⟩:=hrel;have Hb:=aa hb;have hz:=hb.size;have hlen:=HZL.out q;by_cases hlt:q<S
  ·have hlti:(q:Int)<S:=by omega
   have hq0:(0:Int)<=q:=by omega
   obtain⟨b,o,rfl,hbm,e0⟩:=(HRr.out.below Hb.out ac).at hlt;by_cases hd:D q=0
   ·rw[hd]at e0
    have hs:=aa (HZ1.out q hd);clear hb hd;go_wp2_with(first|(at_builtin;refine gj iv rfl _ _ rfl rfl ho [.int .i64 (q:Nat)] rfl rfl (by simp[Value.oneCell']) (by unfold maxLen;omega) (by omega) hz ?_;intro v3 w3 hown3 hb3))
    exact⟨⟨q+1,by omega,by go_num,by rw[hs.out,gz,bd];exact hown3,Hb.out.trans hb3⟩,by simp[intOf];omega⟩
   ·have hs:=aa (HZ2.out q hd)
    have hne:((D q:Nat):Int)≠0:=by omega
    have hne2:(((D q:Nat):Int)==0)=false:=by rw[ax];exact hne
    have HO:=aa ho;clear hb hd ho;go_wp2_with fail
    exact⟨⟨q+1,by omega,by go_num,by rw[hs.out];exact HO.out,Hb.out⟩,by simp[intOf];omega⟩
  ·obtain rfl:q=S:=by omega
   have hzz:=Hb1.out.size;go_wp2_with fail
   refine ay (results_tmp3 rfl _ _ _) rfl ?_;exact⟨_,_,rfl,fx ho hzz,Hb1.out.trans (hb.mono hzz)⟩
end
end Go.Proofs.YtjfkmoinldlmaaaGreat
