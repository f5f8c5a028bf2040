/- The walk of BeagleFails, part 0. Sums over a ring; the transform in halves; the product that goes round: plain. Numbers modulo a prime as a ring; bits the other way round; the number of three residues: plain. Roots of one modulo each prime; the slid row: plain. A class of bytes as four words: which word holds which bytes; plain arithmetic, no program. How many bytes a class has: bits of a word counted by taking the lowest one away; the first byte; plain arithmetic, no program. The runs of a set of numbers: first and last of each row of numbers that follow one another; plain lists, no program. -/
namespace Go.Proofs.YtjfkmoinldlmaaaGreat
section
section
variable{md:Nat}[NeZero md]
theorem ig(a:Fin md):a^0=1:=by grind
theorem gx(a:Fin md)(n:Nat):a^(n+1)=a^n*a:=by grind
theorem mr(a:Fin md)(m n:Nat):a^(m+n)=a^m*a^n:=by grind
def gb(f:Nat->Fin md):Nat->Fin md
 |0=>0
 |n+1=>gb f n+f n
theorem gy{f g:Nat->Fin md}{n:Nat}(h:∀i,i<n->f i=g i):gb f n=gb g n:=by
 induction n with
 |zero=>rfl
 |succ n ih=>simp only[gb];rw[ih fun i hi=>h i (by omega),h n (by omega)]
theorem xy{f:Nat->Fin md}{n:Nat}(h:∀i,i<n->f i=0):gb f n=0:=by
 induction n with
 |zero=>rfl
 |succ n ih=>simp only[gb];rw[ih fun i hi=>h i (by omega),h n (by omega)];grind
theorem ao0(f g:Nat->Fin md)(n:Nat):gb (fun i=>f i+g i) n=gb f n+gb g n:=by
 induction n with
 |zero=>simp only[gb];grind
 |succ n ih=>simp only[gb];rw[ih];grind
theorem re(c:Fin md)(f:Nat->Fin md)(n:Nat):gb (fun i=>c*f i) n=c*gb f n:=by
 induction n with
 |zero=>simp only[gb];grind
 |succ n ih=>simp only[gb];rw[ih];grind
theorem aoz(f:Nat->Fin md)(n k:Nat)(hk:k<n)(h:∀i,i<n->i≠k->f i=0):gb f n=f k:=by
 induction n with
 |zero=>omega
 |succ n ih=>
  simp only[gb];by_cases he:k=n
  ·subst he
   rw[xy (fun i hi=>h i (by omega) (by omega))];grind
  ·rw[ih (by omega) (fun i hi hne=>h i (by omega) hne),h n (by omega) (by omega)];grind
theorem acd(f:Nat->Nat->Fin md)(n m:Nat):gb (fun i=>gb (fun j=>f i j) m) n=gb (fun j=>gb (fun i=>f i j) n) m:=by
 induction m with
 |zero=>simp only[gb];exact xy fun _ _=>rfl
 |succ m ih=>simp only[gb];rw[ao0,ih]
theorem aez(f:Nat->Fin md)(n:Nat):gb f (2*n)=gb (fun i=>f (2*i)) n+gb (fun i=>f (2*i+1)) n:=by
 induction n with
 |zero=>simp only[gb];grind
 |succ n ih=>
  rw[show 2*(n+1)=2*n+1+1 by omega];simp only[gb];rw[ih];grind
theorem rx(f:Nat->Fin md)(n m:Nat):gb f (n+m)=gb f n+gb (fun i=>f (n+i)) m:=by
 induction m with
 |zero=>simp only[gb,Nat.add_zero];grind
 |succ m ih=>rw[<-Nat.add_assoc];simp only[gb];rw[ih];grind
theorem jf(a:Fin md)(m n:Nat):(a^m)^n=a^(m*n):=by
 induction n with
 |zero=>rw[Nat.mul_zero,ig,ig]
 |succ n ih=>rw[gx,ih,Nat.mul_succ,mr]
theorem wu(a b:Fin md)(n:Nat):(a*b)^n=a^n*b^n:=by
 induction n with
 |zero=>rw[ig,ig,ig];grind
 |succ n ih=>rw[gx,gx,gx,ih];grind
theorem mp(n:Nat):(1:Fin md)^n=1:=by
 induction n with
 |zero=>exact ig _
 |succ n ih=>rw[gx,ih];grind
def stg(l:Nat->Fin md)(W:Fin md)(t s c j:Nat):Fin md:=gb (fun i=>l (c+i*2^(t-s))*(W^2^(t-s))^(i*j)) (2^s)
theorem ao1(l:Nat->Fin md)(W:Fin md)(t c:Nat):stg l W t 0 c 0=l c:=by
 unfold stg;simp only[gb,Nat.zero_mul,Nat.add_zero,ig];grind
theorem afc{W:Fin md}{t:Nat}(ht:0<t)(hW:W^2^(t-1)= -1):W^2^t=1:=by
 obtain⟨u,rfl⟩:∃u,t=u+1:=⟨t-1,by omega⟩;rw[Nat.add_sub_cancel]at hW;rw[Nat.pow_succ,<-jf,hW,show(2:Nat)=1+1 by rfl,gx,show(1:Nat)=0+1 by rfl,gx,ig];grind
theorem aan(l:Nat->Fin md)(W:Fin md)(t s c j:Nat)(hs:s<=t)(hW:W^2^t=1):stg l W t s c (j+2^s)=stg l W t s c j:=by
 unfold stg;refine gy fun i _=>?_
 rw[Nat.mul_add,mr];have e:(W^2^(t-s))^(i*2^s)=1:=by
  rw[Nat.mul_comm,<-jf (W^2^(t-s)),jf W,<-Nat.pow_add,show t-s+s=t by omega,hW,mp]
 rw[e];grind
theorem ae3(l:Nat->Fin md)(W:Fin md)(t s c j:Nat)(hs:s<t):gb (fun i=>l (c+2*i*2^(t-(s+1)))*(W^2^(t-(s+1)))^(2*i*j)) (2^s)=stg l W t s c j:=by
 unfold stg;refine gy fun i _=>?_
 have h2:2^(t-s)=2*2^(t-(s+1)):=by rw[show t-s=t-(s+1)+1 by omega,Nat.pow_succ,Nat.mul_comm]
 rw[h2,show 2*i*2^(t-(s+1))=i*(2*2^(t-(s+1))) by rw[Nat.mul_comm 2 i,Nat.mul_assoc],jf,jf];congr 2;rw[Nat.mul_assoc 2 i j,<-Nat.mul_assoc,Nat.mul_comm 2]
theorem stg_odd(l:Nat->Fin md)(W:Fin md)(t s c j:Nat)(hs:s<t):gb (fun i=>l (c+(2*i+1)*2^(t-(s+1)))*(W^2^(t-(s+1)))^((2*i+1)*j)) (2^s)=(W^2^(t-(s+1)))^j*stg l W t s (c+2^(t-(s+1))) j:=by
 rw[<-ae3 l W t s (c+2^(t-(s+1))) j hs,<-re];refine gy fun i _=>?_
 have e1:c+(2*i+1)*2^(t-(s+1))=c+2^(t-(s+1))+2*i*2^(t-(s+1)):=by rw[Nat.add_mul,Nat.one_mul];omega
 have e2:(2*i+1)*j=2*i*j+j:=by rw[Nat.add_mul,Nat.one_mul]
 rw[e1,e2,mr];grind
theorem ajn(l:Nat->Fin md)(W:Fin md)(t s c j:Nat)(hs:s<t):stg l W t (s+1) c j=stg l W t s c j+(W^2^(t-(s+1)))^j*stg l W t s (c+2^(t-(s+1))) j:=by
 rw[<-ae3 l W t s c j hs,<-stg_odd l W t s c j hs];show gb _ (2^(s+1))=_;rw[Nat.pow_succ,Nat.mul_comm,aez]
theorem ao2(l:Nat->Fin md)(W:Fin md)(t s c j:Nat)(hs:s<t)(hW:W^2^(t-1)= -1):stg l W t (s+1) c (j+2^s)=stg l W t s c j-(W^2^(t-(s+1)))^j*stg l W t s (c+2^(t-(s+1))) j:=by
 have hW1:=afc (by omega) hW;rw[ajn l W t s c _ hs,aan l W t s _ j (by omega) hW1,aan l W t s _ j (by omega) hW1,mr];have e:(W^2^(t-(s+1)))^2^s= -1:=by
  rw[jf,<-Nat.pow_add,show t-(s+1)+s=t-1 by omega,hW]
 rw[e];grind
def dft(l:Nat->Fin md)(W:Fin md)(n j:Nat):Fin md:=gb (fun i=>l i*W^(i*j)) n
theorem stg_all(l:Nat->Fin md)(W:Fin md)(t j:Nat):stg l W t t 0 j=dft l W (2^t) j:=by
 unfold stg dft;refine gy fun i _=>?_
 rw[Nat.sub_self,Nat.pow_zero,Nat.mul_one,Nat.zero_add];have e:W^1=W:=by rw[show(1:Nat)=0+1 by rfl,gx,ig];grind
 rw[e]
theorem arv(x:Fin md)(t:Nat):gb (fun j=>x^j) (2^(t+1))=gb (fun j=>x^j) (2^t)*(1+x^2^t):=by
 rw[Nat.pow_succ,Nat.mul_two,rx];have e:gb (fun i=>x^(2^t+i)) (2^t)=x^2^t*gb (fun j=>x^j) (2^t):=by
  rw[<-re];exact gy fun i _=>mr _ _ _
 rw[e];grind
theorem geo_nil(x:Fin md)(t:Nat)(u:Nat)(hu:u<t)(hx:x^2^u= -1):gb (fun j=>x^j) (2^t)=0:=by
 induction t with
 |zero=>omega
 |succ t ih=>
  rw[arv];by_cases he:u=t
  ·subst he;rw[hx];grind
  ·rw[ih (by omega)];grind
theorem geo_one(n:Nat):gb (fun j=>(1:Fin md)^j) n=gb (fun _=>(1:Fin md)) n:=gy fun j _=>mp j
theorem al3{W:Fin md}{t:Nat}(ht:0<t)(hW:W^2^(t-1)= -1)(d:Nat)(hd:d%2^t≠0):∃u,u<t/\(W^d)^2^u= -1:=by
 induction t generalizing W d with
 |zero=>omega
 |succ t ih=>
  rw[Nat.add_sub_cancel]at hW;by_cases he:d%2=1
  ·refine⟨t,by omega,?_⟩
   rw[jf,Nat.mul_comm,<-jf,hW];obtain⟨q,rfl⟩:∃q,d=2*q+1:=⟨d/2,by omega⟩;rw[gx,<-jf];have e2:(-1:Fin md)^2=1:=by rw[show(2:Nat)=1+1 by rfl,gx,show(1:Nat)=0+1 by rfl,gx,ig];grind
   rw[e2,mp];grind
  ·obtain⟨q,rfl⟩:∃q,d=2*q:=⟨d/2,by omega⟩
   have ht0:0<t:=by
    rcases Nat.eq_zero_or_pos t with h|h
    ·subst h;exfalso;apply hd;rw[show 2^(0+1)=2 by rfl];omega
    ·exact h
   have hW2:(W^2)^2^(t-1)= -1:=by
    rw[jf,Nat.mul_comm,<-Nat.pow_succ,show(t-1).succ=t by omega];exact hW
   obtain⟨u,hu,hx⟩:=ih ht0 hW2 q (by
    intro h
    apply hd
    rw[Nat.pow_succ,Nat.mul_comm (2^t) 2,Nat.mul_mod_mul_left,h])
   exact⟨u,by omega,by rw[<-jf W 2 q];exact hx⟩
theorem ahp(a x:Nat->Fin md)(W V N:Fin md)(t:Nat)(hW:t=0->W=1)(hW1:0<t->W^2^(t-1)= -1)(hV:W*V=1)(hN:gb (fun _=>(1:Fin md)) (2^t)*N=1)(i:Nat)(hi:i<2^t):
 dft (fun j=>dft a W (2^t) j*dft x W (2^t) j) V (2^t) i*N=gb (fun u=>a u*x ((i+(2^t-u))%2^t)) (2^t):=by
 obtain⟨n,hn⟩:∃n,n=2^t:=⟨_,rfl⟩;have hin:i<n:=by rw[hn];exact hi
 have hn0:0<n:=by rw[hn];exact Nat.pow_pos (by omega)
 have hWn:W^n=1:=by
  rcases Nat.eq_zero_or_pos t with h|h
  ·rw[hW h,mp]
  ·rw[hn];exact afc h (hW1 h)
 have hVn:V^n=1:=by
  have:(W*V)^n=1:=by rw[hV,mp]
  rw[wu,hWn]at this;grind
 have key:∀u v,u<n->v<n->gb (fun j=>(W^(u+v)*V^i)^j) n=if v=(i+(n-u))%n then gb (fun _=>(1:Fin md)) n else 0:=by
  intro u v hu hv;by_cases he:v=(i+(n-u))%n
  ·rw[if_pos he,<-geo_one]
   refine gy fun j _=>?_
   have e:W^(u+v)*V^i=1:=by
    have hq:∃q,u+v=i+q*n:=by
     have hdm:=Nat.div_add_mod (i+(n-u)) n;rw[<-he]at hdm;clear he;generalize (i+(n-u))/n=q at hdm;have hq3:q<3:=by
      rcases Nat.lt_or_ge q 3 with h3|h3
      ·exact h3
      ·have:=Nat.mul_le_mul_left n h3;omega
     have:q=0\/q=1\/q=2:=by omega
     rcases this with rfl|rfl|rfl
     ·exact⟨1,by omega⟩
     ·exact⟨0,by omega⟩
     ·omega
    obtain⟨q,hq⟩:=hq;rw[hq,mr,Nat.mul_comm,<-jf,hWn,mp];have:W^i*V^i=1:=by rw[<-wu,hV,mp]
    grind
   rw[e]
  ·rw[if_neg he]
   have ht:0<t:=by
    rcases Nat.eq_zero_or_pos t with h|h
    ·subst h;exfalso;apply he
     have:n=1:=hn;subst this;rw[Nat.mod_one];omega
    ·exact h
   obtain⟨w2,hw2⟩:=al3 ht (hW1 ht) (u+v+(n-i)) (by
    rw[<-hn]
    intro h
    apply he
    obtain⟨q,hq⟩:∃q,u+v+(n-i)=q*n:=⟨(u+v+(n-i))/n,by have:=Nat.div_add_mod (u+v+(n-i)) n;rw[h]at this;rw[Nat.mul_comm];omega⟩
    have hq3:q<3:=by
     rcases Nat.lt_or_ge q 3 with h3|h3
     ·exact h3
     ·have:=Nat.mul_le_mul_right n h3;omega
    have:q=0\/q=1\/q=2:=by omega
    rcases this with rfl|rfl|rfl
    ·omega
    ·by_cases hz:i+(n-u)<n
     ·rw[Nat.mod_eq_of_lt hz];omega
     ·rw[show i+(n-u)=(i-u)+n by omega,Nat.add_mod_right,Nat.mod_eq_of_lt (by omega)];omega
    ·by_cases hz:i+(n-u)<n
     ·rw[Nat.mod_eq_of_lt hz];omega
     ·rw[show i+(n-u)=(i-u)+n by omega,Nat.add_mod_right,Nat.mod_eq_of_lt (by omega)];omega)
   have e:W^(u+v)*V^i=W^(u+v+(n-i)):=by
    have h1:V^i=W^(n-i):=by
     have h2:W^i*V^i=1:=by rw[<-wu,hV,mp]
     have h3:W^i*W^(n-i)=1:=by rw[<-mr,show i+(n-i)=n by omega,hWn]
     have h4:V^i=V^i*(W^i*W^(n-i)):=by rw[h3];grind
     rw[h4];grind
    rw[h1,<-mr]
   rw[e];have hz:=geo_nil (W^(u+v+(n-i))) t w2 hw2.1 hw2.2;rw[<-hn]at hz;exact hz
 unfold dft;rw[<-hn];have e1:gb (fun j=>gb (fun i=>a i*W^(i*j)) n*gb (fun i=>x i*W^(i*j)) n*V^(j*i)) n
  =gb (fun u=>gb (fun v=>a u*x v*gb (fun j=>(W^(u+v)*V^i)^j) n) n) n:=by
  have h1:∀j,gb (fun i=>a i*W^(i*j)) n*gb (fun i=>x i*W^(i*j)) n*V^(j*i)=gb (fun u=>gb (fun v=>a u*x v*(W^(u+v)*V^i)^j) n) n:=by
   intro j;have h2:∀u,gb (fun v=>a u*x v*(W^(u+v)*V^i)^j) n=(V^(j*i)*gb (fun i=>x i*W^(i*j)) n)*(a u*W^(u*j)):=by
    intro u;rw[show V^(j*i)*gb (fun i=>x i*W^(i*j)) n*(a u*W^(u*j))=(V^(j*i)*(a u*W^(u*j)))*gb (fun i=>x i*W^(i*j)) n by grind,<-re];refine gy fun v _=>?_
    rw[wu,jf,jf,Nat.add_mul,mr,Nat.mul_comm i j];grind
   rw[gy (fun u _=>h2 u),re];grind
  rw[gy (fun j _=>h1 j),acd];refine gy fun u _=>?_
  rw[acd];exact gy fun v _=>re _ _ _
 rw[e1];have e2:gb (fun u=>gb (fun v=>a u*x v*gb (fun j=>(W^(u+v)*V^i)^j) n) n) n=gb (fun _=>(1:Fin md)) n*gb (fun u=>a u*x ((i+(n-u))%n)) n:=by
  rw[<-re];refine gy fun u hu=>?_
  rw[aoz _ n ((i+(n-u))%n) (Nat.mod_lt _ hn0) (fun v hv hne=>by rw[key u v hu hv,if_neg hne];grind),key u _ hu (Nat.mod_lt _ hn0),if_pos rfl];grind
 rw[e2];rw[<-hn]at hN;grind
end
end
section
section
variable{p:Nat}[NeZero p]
def ph(a:Nat):Fin p:=Fin.ofNat p a
theorem aj0{a b:Nat}(h:a%p=b%p):(ph a:Fin p)=ph b:=Fin.ext h
theorem lx(a:Nat):(ph (a%p):Fin p)=ph a:=aj0 (Nat.mod_mod _ _)
theorem aax{a b:Nat}(h:(ph a:Fin p)=ph b):a%p=b%p:=by
 have:=congrArg Fin.val h;exact this
theorem tc(a b:Nat):(ph (a+b):Fin p)=ph a+ph b:=by
 apply Fin.ext;show(a+b)%p=((a%p)+(b%p))%p;exact Nat.add_mod _ _ _
theorem ta(a b:Nat):(ph (a*b):Fin p)=ph a*ph b:=by
 apply Fin.ext;show(a*b)%p=((a%p)*(b%p))%p;exact Nat.mul_mod _ _ _
theorem uj:(ph 0:Fin p)=0:=by
 apply Fin.ext;show 0%p=_;rw[Nat.zero_mod];rfl
theorem qu:(ph 1:Fin p)=1:=rfl
theorem ajz:(ph p:Fin p)=0:=by
 rw[<-lx,Nat.mod_self,uj]
theorem aqf{a b:Nat}(h:b<=a):(ph (a-b):Fin p)=ph a-ph b:=by
 have:(ph (a-b+b):Fin p)=ph a:=by rw[Nat.sub_add_cancel h]
 rw[tc]at this;grind
theorem ph_pow(a n:Nat):(ph (a^n):Fin p)=ph a^n:=by
 induction n with
 |zero=>rw[Nat.pow_zero,ig,qu]
 |succ n ih=>rw[Nat.pow_succ,ta,ih,gx]
end
def rz:Nat->Nat->Nat
 |0,_=>0
 |m+1,i=>2*rz m i+i/2^m%2
theorem ahs(m i:Nat):rz m i<2^m:=by
 induction m with
 |zero=>exact Nat.one_pos
 |succ m ih=>simp only[rz];rw[Nat.pow_succ];omega
theorem afh(m b:Nat):rz (m+1) (2*b)=rz m b:=by
 induction m with
 |zero=>simp only[rz];omega
 |succ m ih=>
  rw[rz,ih,rz,Nat.pow_succ,Nat.mul_comm (2^m) 2,Nat.mul_div_mul_left _ _ (by omega)]
theorem aju(m b:Nat):rz (m+1) (2*b+1)=rz m b+2^m:=by
 induction m with
 |zero=>simp only[rz];omega
 |succ m ih=>
  have e:(2*b+1)/(2*2^m)=b/2^m:=by
   rw[<-Nat.div_div_eq_div_mul,show(2*b+1)/2=b by omega]
  rw[rz,ih,rz,Nat.pow_succ,Nat.mul_comm (2^m) 2,e];omega
theorem rev_low(m j b:Nat):rz m (j+2^m*b)=rz m j:=by
 induction m generalizing b with
 |zero=>rfl
 |succ m ih=>
  simp only[rz];have e1:j+2^(m+1)*b=j+2^m*(2*b):=by rw[Nat.pow_succ,Nat.mul_assoc]
  rw[e1,ih,Nat.add_mul_div_left _ _ (Nat.pow_pos (by omega)),Nat.add_mul_mod_self_left]
theorem rev_top(m j b:Nat)(hj:j<2^m)(hb:b<2):rz (m+1) (j+2^m*b)=2*rz m j+b:=by
 simp only[rz];rw[rev_low,Nat.add_mul_div_left _ _ (Nat.pow_pos (by omega)),Nat.div_eq_of_lt hj];omega
theorem adf(m i:Nat)(hi:i<2^m):rz m (rz m i)=i:=by
 induction m generalizing i with
 |zero=>rw[Nat.pow_zero]at hi;simp only[rz];omega
 |succ m ih=>
  have hp:0<2^m:=Nat.pow_pos (by omega);have hdm:=Nat.div_add_mod i (2^m);have hj:=Nat.mod_lt i hp;have hb:i/2^m<2:=by rw[Nat.div_lt_iff_lt_mul hp,Nat.mul_comm,<-Nat.pow_succ];exact hi
  obtain⟨j,hje⟩:∃j,j=i%2^m:=⟨_,rfl⟩;obtain⟨b,hbe⟩:∃b,b=i/2^m:=⟨_,rfl⟩;rw[<-hje]at hdm hj;rw[<-hbe]at hdm hb;have hie:i=j+2^m*b:=by omega
  rw[hie,rev_top m j b hj hb];have:b=0\/b=1:=by omega
  rcases this with rfl|rfl
  ·simp only[Nat.add_zero,Nat.mul_zero];rw[afh,ih j hj]
  ·rw[aju,ih j hj];omega
def P3:Nat->Nat
 |0=>998244353
 |1=>167772161
 |2=>469762049
 |_=>1
theorem crt_mid{q:Nat}[NeZero q](p x z0 z1 d f:Nat)(h0:z0=x%p)(hd:d<q)(h1:(ph z1:Fin q)=ph x)(hf:(ph f:Fin q)*ph p=1)(e:(ph d:Fin q)=(ph z1-ph z0)*ph f):d=x/p%q:=by
 have hx:(ph x:Fin q)=ph z0+ph p*ph (x/p):=by
  rw[<-ta,<-tc,h0];congr 1;exact(Nat.mod_add_div x p).symm
 have:(ph d:Fin q)=ph (x/p):=by rw[e,h1,hx];grind
 have:=aax this;rwa[Nat.mod_eq_of_lt hd]at this
theorem ar7{r:Nat}[NeZero r](p q x z0 z2 d1 d2 f:Nat)(h0:z0=x%p)(h1:d1=x/p%q)(hd:d2<r)(h2:(ph z2:Fin r)=ph x)(hf:(ph f:Fin r)*(ph p*ph q)=1)(hx:x<p*q*r)
 (e:(ph d2:Fin r)=(ph z2-ph z0-ph d1*ph p)*ph f):d2=x/p/q:=by
 have hxe:(ph x:Fin r)=ph z0+ph p*(ph d1+ph q*ph (x/p/q)):=by
  rw[<-ta,<-tc,<-ta,<-tc,h0,h1];congr 1;rw[Nat.mod_add_div,Nat.mod_add_div]
 have:(ph d2:Fin r)=ph (x/p/q):=by rw[e,h2,hxe];grind
 have:=aax this;rw[Nat.mod_eq_of_lt hd,Nat.mod_eq_of_lt (by
  rw[Nat.div_div_eq_div_mul]
  exact Nat.div_lt_of_lt_mul hx)]at this
 exact this
theorem crt_all(p q x z0 d1 d2:Nat)(h0:z0=x%p)(h1:d1=x/p%q)(h2:d2=x/p/q):z0+(d1+d2*q)*p=x:=by
 rw[h0,h1,h2,Nat.mul_comm _ q,Nat.mod_add_div,Nat.mul_comm,Nat.mod_add_div]
def rh(p a n:Nat):Nat:=if n=0 then 1%p else if n%2=1 then rh p (a*a%p) (n/2)*a%p else rh p (a*a%p) (n/2)
theorem nm{p:Nat}[NeZero p](a n:Nat):(ph (rh p a n):Fin p)=ph a^n:=by
 induction n using Nat.strongRecOn generalizing a with
 |_ n ih=>
  rw[rh];by_cases h0:n=0
  ·rw[if_pos h0,h0,ig,lx,qu]
  ·rw[if_neg h0]
   have hi:=ih (n/2) (by omega) (a*a%p);rw[lx,ta]at hi;have h2:((ph a:Fin p)*ph a)^(n/2)=ph a^(2*(n/2)):=by
    generalize n/2=k;induction k with
    |zero=>rw[Nat.mul_zero,ig,ig]
    |succ k ihk=>rw[gx,ihk,show 2*(k+1)=2*k+1+1 by omega,gx,gx];grind
   rw[h2]at hi;by_cases h1:n%2=1
   ·rw[if_pos h1,lx,ta,hi]
    conv=>rhs;rw[show n=2*(n/2)+1 by omega,gx]
   ·rw[if_neg h1,hi,show 2*(n/2)=n by omega]
theorem prim(k:Nat)(hk:k<3):rh (P3 k) 3 ((P3 k-1)/2)=P3 k-1/\rh (P3 k) 2 (P3 k-1)=1/\(P3 k-1)%8192=0:=by
 have:k=0\/k=1\/k=2:=by omega
 rcases this with rfl|rfl|rfl<;>decide+kernel
end
section
theorem mt(k:Nat):0<P3 k:=by
 match k with
 |0=>decide
 |1=>decide
 |2=>decide
 |_+3=>exact Nat.one_pos
instance(k:Nat):NeZero (P3 k):=⟨Nat.ne_of_gt (mt k)⟩
theorem abv(k:Nat):P3 k<1073741824:=by
 match k with
 |0=>decide
 |1=>decide
 |2=>decide
 |_+3=>show 1<1073741824;decide
theorem yk(k:Nat)(hk:k<3):100000000<P3 k:=by
 have:k=0\/k=1\/k=2:=by omega
 rcases this with rfl|rfl|rfl<;>decide
def jr(k t:Nat):Nat:=rh (P3 k) 3 ((P3 k-1)/2^t)
theorem aro{q t:Nat}(h:q%8192=0)(h0:0<t)(ht:t<=12):q/2^t*2^(t-1)=q/2:=by
 obtain⟨c,rfl⟩:∃c,q=8192*c:=⟨q/8192,by omega⟩;have:t=1\/t=2\/t=3\/t=4\/t=5\/t=6\/t=7\/t=8\/t=9\/t=10\/t=11\/t=12:=by omega
 rcases this with rfl|rfl|rfl|rfl|rfl|rfl|rfl|rfl|rfl|rfl|rfl|rfl<;>simp only[Nat.reducePow,Nat.reduceSub]<;>omega
theorem aal(k:Nat)(hk:k<3):(ph 3:Fin (P3 k))^((P3 k-1)/2)= -1:=by
 have h:=(prim k hk).1;have h2:=nm (p:=P3 k) 3 ((P3 k-1)/2);rw[h]at h2;rw[<-h2,aqf (mt k),ajz,qu];grind
theorem acb(k:Nat)(hk:k<3):(ph 3:Fin (P3 k))^(P3 k-1)=1:=by
 have h:=aal k hk;have hd:=(prim k hk).2.2;rw[show P3 k-1=(P3 k-1)/2*2 by omega,<-jf,h,show(2:Nat)=1+1 by rfl,gx,show(1:Nat)=0+1 by rfl,gx,ig];grind
theorem two_all(k:Nat)(hk:k<3):(ph 2:Fin (P3 k))^(P3 k-1)=1:=by
 have h:=(prim k hk).2.1;have h2:=nm (p:=P3 k) 2 (P3 k-1);rw[h]at h2;rw[<-h2,qu]
theorem aau(k t:Nat)(hk:k<3)(h0:0<t)(ht:t<=12):(ph (jr k t):Fin (P3 k))^2^(t-1)= -1:=by
 unfold jr;rw[nm,jf,aro (prim k hk).2.2 h0 ht,aal k hk]
theorem al0(k:Nat)(hk:k<3):(ph (jr k 0):Fin (P3 k))=1:=by
 unfold jr;rw[nm,Nat.pow_zero,Nat.div_one,acb k hk]
def na(k a:Nat):Nat:=rh (P3 k) a (P3 k-2)
theorem aef{k a:Nat}(hk:k<3)(h:(ph a:Fin (P3 k))^(P3 k-1)=1):(ph a:Fin (P3 k))*ph (na k a)=1:=by
 unfold na;have hb:=yk k hk;rw[nm,<-h,show P3 k-1=P3 k-2+1 by omega,gx];grind
theorem abc(k t:Nat)(hk:k<3):(ph (jr k t):Fin (P3 k))*ph (na k (jr k t))=1:=by
 apply aef hk;unfold jr;rw[nm,jf,Nat.mul_comm,<-jf,acb k hk,mp]
theorem arg(k t:Nat)(hk:k<3):(ph (2^t):Fin (P3 k))*ph (na k (2^t))=1:=by
 apply aef hk;rw[ph_pow,jf,Nat.mul_comm,<-jf,two_all k hk,mp]
theorem ph_ones{p:Nat}[NeZero p](n:Nat):gb (fun _=>(1:Fin p)) n=ph n:=by
 induction n with
 |zero=>rw[uj];rfl
 |succ n ih=>simp only[gb];rw[ih,tc,qu]
section
variable{md:Nat}[NeZero md]
theorem aln(g:Nat->Fin md)(n:Nat):gb (fun u=>g (n-1-u)) n=gb g n:=by
 induction n generalizing g with
 |zero=>rfl
 |succ n ih=>
  have h1:gb (fun u=>g (n+1-1-u)) (n+1)=gb (fun u=>g (n-u)) n+g 0:=by
   simp only[gb,Nat.add_sub_cancel,Nat.sub_self]
  have h2:gb (fun u=>g (n-u)) n=gb (fun u=>g (u+1)) n:=by
   rw[<-ih (fun u=>g (u+1))];exact gy fun u hu=>by rw[show n-u=n-1-u+1 by omega]
  have h3:gb g (n+1)=g 0+gb (fun u=>g (u+1)) n:=by
   rw[Nat.add_comm n 1,rx];have:gb g 1=g 0:=by simp only[gb];grind
   rw[this];congr 1;exact gy fun u _=>by rw[Nat.add_comm]
  rw[h1,h2,h3];grind
theorem ae0(g:Nat->Fin md)(n:Nat):gb (fun u=>g ((n-u)%n)) n=gb g n:=by
 rcases Nat.eq_zero_or_pos n with h|h
 ·subst h;rfl
 obtain⟨m,rfl⟩:∃m,n=m+1:=⟨n-1,by omega⟩;have h3:gb (fun u=>g ((m+1-u)%(m+1))) (m+1)=g 0+gb (fun u=>g (m-u)) m:=by
  rw[Nat.add_comm m 1,rx];have:gb (fun u=>g ((1+m-u)%(1+m))) 1=g 0:=by
   simp only[gb,Nat.sub_zero,Nat.mod_self];grind
  rw[this];congr 1;refine gy fun u hu=>?_
  rw[show 1+m-(1+u)=m-u by omega,Nat.mod_eq_of_lt (by omega)]
 rw[h3,<-aln g (m+1)];simp only[gb,Nat.add_sub_cancel,Nat.sub_self];grind
theorem slid(p x:Nat->Fin md)(n m i:Nat)(hm:m<=n)(hi:i+m<=n)(a:Nat->Fin md)(ha:∀u,u<n->a u=if(n-u)%n<m then p ((n-u)%n)else 0):
 gb (fun u=>a u*x ((i+(n-u))%n)) n=gb (fun j=>p j*x (i+j)) m:=by
 have h1:gb (fun u=>a u*x ((i+(n-u))%n)) n=gb (fun j=>(if j<m then p j else 0)*x ((i+j)%n)) n:=by
  rw[<-ae0 (fun j=>(if j<m then p j else 0)*x ((i+j)%n)) n];refine gy fun u hu=>?_
  rw[ha u hu];congr 2;rw[Nat.add_mod_mod]
 rw[h1,show n=m+(n-m) by omega,rx];have h2:gb (fun j=>(if m+j<m then p (m+j)else 0)*x ((i+(m+j))%(m+(n-m)))) (n-m)=0:=by
  refine xy fun j _=>?_
  rw[if_neg (by omega)];grind
 rw[h2,show gb (fun j=>(if j<m then p j else 0)*x ((i+j)%(m+(n-m)))) m+0=gb (fun j=>(if j<m then p j else 0)*x ((i+j)%(m+(n-m)))) m by grind];refine gy fun j hj=>?_
 rw[if_pos hj,Nat.mod_eq_of_lt (by omega)]
end
def j9(p x:Nat->Nat)(i:Nat):Nat->Nat
 |0=>0
 |j+1=>j9 p x i j+p j*x (i+j)
theorem sumP_ph{q:Nat}[NeZero q](p x:Nat->Nat)(i m:Nat):(ph (j9 p x i m):Fin q)=gb (fun j=>ph (p j)*ph (x (i+j))) m:=by
 induction m with
 |zero=>exact uj
 |succ m ih=>simp only[j9,gb];rw[tc,ih,ta]
theorem ac5(p x:Nat->Nat)(i m A B:Nat)(hp:∀j,j<m->p j<=A)(hx:∀j,j<m->x (i+j)<=B):j9 p x i m<=m*(A*B):=by
 induction m with
 |zero=>exact Nat.zero_le _
 |succ m ih=>
  simp only[j9];have h1:=ih (fun j hj=>hp j (by omega)) (fun j hj=>hx j (by omega));have h2:=Nat.mul_le_mul (hp m (by omega)) (hx m (by omega));rw[Nat.succ_mul];omega
def addN(k a b:Nat):Nat:=(a%P3 k+b%P3 k)%P3 k
def uv(k a b:Nat):Nat:=(a%P3 k+P3 k-b%P3 k)%P3 k
def j1(k a b:Nat):Nat:=a%P3 k*(b%P3 k)%P3 k
theorem aea(k a b:Nat):j1 k a b<P3 k:=Nat.mod_lt _ (mt k)
theorem addN_ph(k a b:Nat):(ph (addN k a b):Fin (P3 k))=ph a+ph b:=by unfold addN;rw[lx,tc,lx,lx]
theorem me(k a b:Nat):(ph (j1 k a b):Fin (P3 k))=ph a*ph b:=by unfold j1;rw[lx,ta,lx,lx]
theorem zw(k a b:Nat):(ph (uv k a b):Fin (P3 k))=ph a-ph b:=by
 unfold uv;rw[lx,aqf (by have:=Nat.mod_lt b (mt k);omega),tc,lx,lx,ajz];grind
theorem aj8{p:Nat}(hp:0<p)(a n:Nat):rh p a n<p:=by
 rw[rh];by_cases h0:n=0
 ·rw[if_pos h0];exact Nat.mod_lt _ hp
 ·rw[if_neg h0]
  by_cases h1:n%2=1
  ·rw[if_pos h1];exact Nat.mod_lt _ hp
  ·rw[if_neg h1];exact aj8 hp _ _
 termination_by n
theorem inv_01:(ph (na 1 (P3 0)):Fin (P3 1))*ph (P3 0)=1:=by
 have h:rh (P3 1) (P3 0) (P3 1-1)=1:=by decide+kernel
 have h2:=nm (p:=P3 1) (P3 0) (P3 1-1);rw[h,qu]at h2;have:=aef (k:=1) (by omega) h2.symm;grind
theorem inv_012:(ph (na 2 (j1 2 (P3 0) (P3 1))):Fin (P3 2))*(ph (P3 0)*ph (P3 1))=1:=by
 have h:rh (P3 2) (j1 2 (P3 0) (P3 1)) (P3 2-1)=1:=by decide+kernel
 have h2:=nm (p:=P3 2) (j1 2 (P3 0) (P3 1)) (P3 2-1);rw[h,qu]at h2;have:=aef (k:=2) (by omega) h2.symm;rw[me]at this;grind
def dg1(z0 z1:Nat):Nat:=j1 1 (uv 1 z1 (z0%P3 0)) (na 1 (P3 0))
def dg2(z0 z1 z2:Nat):Nat:=j1 2 (uv 2 (uv 2 z2 (z0%P3 0)) (j1 2 (dg1 z0 z1) (P3 0))) (na 2 (j1 2 (P3 0) (P3 1)))
theorem join_eq(x z0 z1 z2:Nat)(hx:x<18446744073709551616)(h0:z0%P3 0=x%P3 0)(h1:z1%P3 1=x%P3 1)(h2:z2%P3 2=x%P3 2):
 z0%P3 0+(dg1 z0 z1+dg2 z0 z1 z2*P3 1)*P3 0=x:=by
 have e1:dg1 z0 z1=x/P3 0%P3 1:=by
  refine crt_mid (P3 0) x (z0%P3 0) z1 _ (na 1 (P3 0)) h0 (aea _ _ _) (aj0 h1) inv_01 ?_;unfold dg1;rw[me,zw]
 have e2:dg2 z0 z1 z2=x/P3 0/P3 1:=by
  refine ar7 (P3 0) (P3 1) x (z0%P3 0) z2 (dg1 z0 z1) _ (na 2 (j1 2 (P3 0) (P3 1))) h0 e1 (aea _ _ _) (aj0 h2) inv_012 ?_ ?_
  ·exact Nat.lt_of_lt_of_le hx (by decide)
  ·unfold dg2
   rw[me,zw,zw,me]
 exact crt_all (P3 0) (P3 1) x _ _ _ h0 e1 e2
end
section
def wdN(S:Nat->Bool)(k:Nat):Nat->Nat
 |0=>0
 |n+1=>wdN S k n+(if S (64*k+n)then 2^n else 0)
def wd(S:Nat->Bool)(k:Nat):Nat:=wdN S k 64
theorem ag7(S:Nat->Bool)(k n:Nat):wdN S k n<2^n:=by
 induction n with
 |zero=>simp[wdN]
 |succ n ih=>
  simp only[wdN];have:2^(n+1)=2^n+2^n:=by rw[Nat.pow_succ];omega
  split<;>omega
theorem sq(S:Nat->Bool)(k:Nat):wd S k<18446744073709551616:=ag7 S k 64
theorem aew(S:Nat->Bool)(k n i:Nat):(wdN S k n).testBit i=(decide (i<n)&&S (64*k+i)):=by
 induction n with
 |zero=>simp[wdN]
 |succ n ih=>
  simp only[wdN];have hl:=ag7 S k n;by_cases hs:S (64*k+n)=true
  ·rw[if_pos hs,Nat.add_comm]
   rcases Nat.lt_trichotomy i n with hi|hi|hi
   ·rw[Nat.testBit_two_pow_add_gt hi,ih]
    simp[hi,Nat.lt_succ_of_lt hi]
   ·subst hi
    rw[Nat.testBit_two_pow_add_eq,ih];simp[hs]
   ·have h2:2^n+wdN S k n<2^i:=by
     have h3:2^(n+1)<=2^i:=Nat.pow_le_pow_right (by omega) hi;have h4:2^(n+1)=2^n+2^n:=by rw[Nat.pow_succ];omega
     omega
    rw[Nat.testBit_lt_two_pow h2];have:¬i<n+1:=by omega
    simp[this]
  ·rw[if_neg hs,Nat.add_zero,ih]
   by_cases hi:i<n
   ·simp[hi,Nat.lt_succ_of_lt hi]
   ·by_cases he:i=n
    ·subst he;simp at hs;simp[hs]
    ·have:¬i<n+1:=by omega
     simp[hi,this]
theorem io(S:Nat->Bool)(k i:Nat):(wd S k).testBit i=(decide (i<64)&&S (64*k+i)):=aew S k 64 i
theorem wd_ext{S T:Nat->Bool}{k:Nat}(h:∀i,i<64->S (64*k+i)=T (64*k+i)):wd S k=wd T k:=by
 apply Nat.eq_of_testBit_eq;intro i;rw[io,io];by_cases hi:i<64
 ·simp[hi,h i hi]
 ·simp[hi]
theorem ug(S T:Nat->Bool)(k:Nat):wd S k=wd T k↔∀i,i<64->S (64*k+i)=T (64*k+i):=by
 constructor
 ·intro h i hi
  have h1:=io S k i;rw[h,io]at h1;simpa[hi]using h1.symm
 ·exact wd_ext
def fj(S T:Nat->Bool):Bool:=(List.range 256).all fun n=>S n==T n
theorem jp(S T:Nat->Bool):fj S T=true↔∀n,n<256->S n=T n:=by
 unfold fj;rw[List.all_eq_true];simp[List.mem_range]
theorem abm(S:Nat->Bool):fj S S=true:=(jp S S).2 fun _ _=>rfl
theorem xx(S T:Nat->Bool):fj S T=true↔wd S 0=wd T 0/\wd S 1=wd T 1/\wd S 2=wd T 2/\wd S 3=wd T 3:=by
 rw[jp,ug,ug,ug,ug];constructor
 ·intro h
  exact⟨fun i hi=>h _ (by omega),fun i hi=>h _ (by omega),fun i hi=>h _ (by omega),fun i hi=>h _ (by omega)⟩
 ·rintro⟨h0,h1,h2,h3⟩n hn
  have hq:n/64=0\/n/64=1\/n/64=2\/n/64=3:=by omega
  rcases hq with hq|hq|hq|hq
  ·have:=h0 (n%64) (by omega);rwa[show 64*0+n%64=n by omega]at this
  ·have:=h1 (n%64) (by omega);rwa[show 64*1+n%64=n by omega]at this
  ·have:=h2 (n%64) (by omega);rwa[show 64*2+n%64=n by omega]at this
  ·have:=h3 (n%64) (by omega);rwa[show 64*3+n%64=n by omega]at this
theorem wd_or(S T:Nat->Bool)(k:Nat):wd (fun n=>S n||T n) k=wd S k|||wd T k:=by
 apply Nat.eq_of_testBit_eq;intro i;rw[Nat.testBit_or,io,io,io];by_cases hi:i<64<;>simp[hi]
def upd(S:Nat->Bool)(b:Nat):Nat->Bool:=fun n=>S n||n==b
theorem aor(S:Nat->Bool)(b k:Nat):wd (upd S b) k=if k=b/64 then wd S k|||2^(b%64)else wd S k:=by
 apply Nat.eq_of_testBit_eq;intro i;split
 ·rename_i h
  rw[Nat.testBit_or,io,io,Nat.testBit_two_pow];unfold upd;by_cases hi:i<64
  ·simp only[hi,decide_true,Bool.true_and]
   congr 1;rw[Bool.eq_iff_iff];simp only[beq_iff_eq,decide_eq_true_eq];omega
  ·have:¬b%64=i:=by omega
   simp[hi,this]
 ·rename_i h
  rw[io,io];unfold upd;by_cases hi:i<64
  ·have:(64*k+i==b)=false:=by
    rw[beq_eq_false_iff_ne];omega
   simp[hi,this]
  ·simp[hi]
def fu:Nat->Bool:=fun _=>false
theorem je(k:Nat):wd fu k=0:=by
 apply Nat.eq_of_testBit_eq;intro i;rw[io];simp[fu]
theorem aos(S:Nat->Bool)(b:Nat):(wd S (b/64)/2^(b%64))%2=if S b then 1 else 0:=by
 have h:=io S (b/64) (b%64);rw[Nat.testBit_eq_decide_div_mod_eq]at h;have hm:b%64<64:=Nat.mod_lt _ (by omega);have he:64*(b/64)+b%64=b:=Nat.div_add_mod b 64;rw[he]at h;simp only[hm,decide_true,Bool.true_and]at h;cases hs:S b
 ·rw[hs]at h
  simp at h;simp;omega
 ·rw[hs]at h
  simp at h;simp[h]
end
section
def pc(x:Nat):Nat:=if x=0 then 0 else x%2+pc (x/2)
 termination_by x
 decreasing_by omega
def j0(S:Nat->Bool):Nat->Nat
 |0=>0
 |n+1=>j0 S n+(if S n then 1 else 0)
theorem ur(S:Nat->Bool)(n:Nat):j0 S n<=n:=by
 induction n with
 |zero=>simp[j0]
 |succ n ih=>simp only[j0];split<;>omega
theorem ai8{S T:Nat->Bool}{n:Nat}(h:∀i,i<n->S i=T i):j0 S n=j0 T n:=by
 induction n with
 |zero=>rfl
 |succ n ih=>simp only[j0];rw[ih fun i hi=>h i (by omega),h n (by omega)]
theorem xk(S:Nat->Bool)(m n:Nat):j0 S (m+n)=j0 S m+j0 (fun i=>S (m+i)) n:=by
 induction n with
 |zero=>simp[j0]
 |succ n ih=>
  show j0 S (m+n)+(if S (m+n)then 1 else 0)=j0 S m+(j0 (fun i=>S (m+i)) n+(if S (m+n)then 1 else 0));rw[ih];omega
def nt(S:Nat->Bool):Nat:=j0 S 256
def oq(S:Nat->Bool):Nat->Nat->Nat
 |k,0=>k
 |k,n+1=>if S k then k else oq S (k+1) n
theorem j8(S:Nat->Bool)(n:Nat):∀k,k<=oq S k n/\oq S k n<=k+n/\(oq S k n<k+n->S (oq S k n)=true)/\∀i,k<=i->i<oq S k n->S i=false:=by
 induction n with
 |zero=>intro k;simp only[oq];exact⟨by omega,by omega,fun h=>by omega,fun i h1 h2=>by omega⟩
 |succ n ih=>
  intro k;simp only[oq];split
  ·rename_i h
   exact⟨by omega,by omega,fun _=>h,fun i h1 h2=>by omega⟩
  ·rename_i h
   obtain⟨h1,h2,h3,h4⟩:=ih (k+1);refine⟨by omega,by omega,fun hl=>h3 (by omega),fun i hi1 hi2=>?_⟩;by_cases he:i=k
   ·subst he;simpa using h
   ·exact h4 i (by omega) hi2
def first(S:Nat->Bool):Nat:=oq S 0 256
theorem agb(S:Nat->Bool):first S<=256:=by have:=(j8 S 256 0).2.1;unfold first;omega
theorem agc(S:Nat->Bool)(h:first S<256):S (first S)=true:=(j8 S 256 0).2.2.1 (by unfold first at h;omega)
theorem wc(S:Nat->Bool)(i:Nat)(h:i<first S):S i=false:=(j8 S 256 0).2.2.2 i (by omega) h
theorem agd(S:Nat->Bool)(k:Nat)(hk:k<=256)(hS:k<256->S k=true)(hn:∀i,i<k->S i=false):first S=k:=by
 rcases Nat.lt_trichotomy (first S) k with h|h|h
 ·have:=agc S (by omega);rw[hn _ h]at this;cases this
 ·exact h
 ·have h1:=wc S k h
  have h2:=agb S;rw[hS (by omega)]at h1;cases h1
def one(S:Nat->Bool):Bool:=decide (nt S=1)
theorem l6(S:Nat->Bool)(n:Nat):j0 S n=0↔∀i,i<n->S i=false:=by
 induction n with
 |zero=>simp[j0]
 |succ n ih=>
  simp only[j0];constructor
  ·intro h i hi
   have h0:j0 S n=0:=by omega
   by_cases he:i=n
   ·subst he
    cases hs:S i
    ·rfl
    ·rw[hs]at h;simp at h
   ·exact ih.1 h0 i (by omega)
  ·intro h
   rw[ih.2 fun i hi=>h i (by omega),h n (by omega)];simp
theorem wt(S:Nat->Bool):nt S=1↔first S<256/\∀n,n<256->S n=(n==first S):=by
 have hf:=agb S;have split:nt S=j0 S (first S)+j0 (fun i=>S (first S+i)) (256-first S):=by
  unfold nt;rw[<-xk,show first S+(256-first S)=256 by omega]
 have h0:j0 S (first S)=0:=(l6 S _).2 fun i hi=>wc S i hi
 rw[h0,Nat.zero_add]at split;by_cases hl:first S<256
 ·have hs:=agc S hl
  have e:256-first S=1+(255-first S):=by omega
  rw[e,xk]at split;have e1:j0 (fun i=>S (first S+i)) 1=1:=by simp[j0,hs]
  rw[e1]at split;constructor
  ·intro h1
   refine⟨hl,fun n hn=>?_⟩;have hz:j0 (fun i=>S (first S+(1+i))) (255-first S)=0:=by omega
   have hz':=(l6 _ _).1 hz;rcases Nat.lt_trichotomy n (first S)with h|h|h
   ·rw[wc S n h];exact(beq_eq_false_iff_ne.2 (by omega)).symm
   ·subst h;simp[hs]
   ·have:=hz' (n-first S-1) (by omega)
    rw[show first S+(1+(n-first S-1))=n by omega]at this;rw[this];exact(beq_eq_false_iff_ne.2 (by omega)).symm
  ·rintro⟨_,h⟩
   have hz:j0 (fun i=>S (first S+(1+i))) (255-first S)=0:=(l6 _ _).2 fun i hi=>by
    rw[h _ (by omega),beq_eq_false_iff_ne];omega
   omega
 ·have e:256-first S=0:=by omega
  rw[e]at split;simp only[j0]at split;constructor
  ·intro h;omega
  ·intro h;omega
end
end Go.Proofs.YtjfkmoinldlmaaaGreat
