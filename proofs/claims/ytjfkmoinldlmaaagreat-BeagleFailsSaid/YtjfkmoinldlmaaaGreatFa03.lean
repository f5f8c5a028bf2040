/- The walk of BeagleFails, part 3. Walks of the package residue: Pow. -/
import Derived.Test.YtjfkmoinldlmaaaGreatFa02
import Derived.ScopeJumps
namespace Go.Proofs.YtjfkmoinldlmaaaGreat
open Go.Proofs.Tryz
section
set_option maxRecDepth 100000
set_option maxHeartbeats 4000000
open Go.RowKit
def wi(k a n x m o:Nat):Prop:=o<P3 k/\m<=4294967296/\(ph o:Fin (P3 k))*ph x^m=ph a^n
theorem wi.start{k a n:Nat}(hn:n<=4294967296):wi k a n a n (1%P3 k):=by
 refine⟨Nat.mod_lt _ (mt k),hn,?_⟩;rw[lx,qu];grind
theorem wi.step{k a n x m o:Nat}(h:wi k a n x m o):wi k a n (j1 k x x) (m/2) (if m%2=1 then j1 k o x else o):=by
 obtain⟨h1,h2,h3⟩:=h;have hsq:((ph x:Fin (P3 k))*ph x)^(m/2)=ph x^(2*(m/2)):=by
  generalize m/2=q;induction q with
  |zero=>rw[Nat.mul_zero,ig,ig]
  |succ q ih=>rw[gx,ih,show 2*(q+1)=2*q+1+1 by omega,gx,gx];grind
 by_cases ho:m%2=1
 ·rw[if_pos ho]
  refine⟨aea _ _ _,by omega,?_⟩;rw[me,me,hsq,<-h3];conv=>rhs;rw[show m=2*(m/2)+1 by omega,gx]
  grind
 ·rw[if_neg ho]
  refine⟨h1,by omega,?_⟩;rw[me,hsq,<-h3,show 2*(m/2)=m by omega]
theorem wi.done{k a n x o:Nat}(h:wi k a n x 0 o):o=rh (P3 k) a n:=by
 obtain⟨h1,-,h3⟩:=h;rw[ig]at h3;have h4:(ph o:Fin (P3 k))=ph (rh (P3 k) a n):=by rw[nm,<-h3];grind
 have:=aax h4;rwa[ea h1,ea (aj8 (mt k) a n)]at this
theorem aae(m:Nat)(hm:m<=4294967296):bits .and .u64 (m:Int) 1=((m%2:Nat):Int):=by
 have h:=bits_and_u64_nat m 1 (by omega) (by omega);rw[Nat.and_one_is_mod]at h;exact h
theorem wi.le{k a n x m o:Nat}(h:wi k a n x m o):m<=4294967296:=h.2.1
theorem adi(k:Nat)(hk:k<3)(a n:Nat)(hn:n<=4294967296)(w:World):Calls prog 130 #[.int .i64 (k:Nat),.int .u64 (a:Nat),.int .u64 (n:Nat)] w fun e w'=>e=.returned (.int .u64 (rh (P3 k) a n:Nat))/\Below w.heap.size w w':=by
 have h1:=fun w'=>mq k hk 1 w'
 have h2:=fun x y w'=>uk k hk x y w'
 have h3:wi k a n a n (1%P3 k):=wi.start hn;have h4:=fun x m o(h:wi k a n x m o)=>h.step
 have h5:=fun x o(h:wi k a n x 0 o)=>h.done
 have h6:=fun x m o(h:wi k a n x m o)=>h.le
 generalize rh (P3 k) a n=r at h5⊢;generalize wi k a n=S at h3 h4 h5 h6;generalize 1%P3 k=o0 at h1 h3;have H1:=aa h1;have H2:=aa h2;have H3:=aa h3;have H4:=aa h4;have H5:=aa h5;have H6:=aa h6;clear h1 h2 h3 h4 h5 h6;go_enter func130,ntmps130;go_wp2_with fail
 refine wp_scope_jumps 0 (fun a' w'=>Below w.heap.size w w'/\∃(x m o:Nat)(u8 u9 u10 u11 u12 u13 u14 u15 u16 u17 u18 u19 u20 u21 u22 u23 u24 u25:Value),a'={tmps:=#[.int .i64 (k:Nat),.int .u64 (x:Nat),.int .u64 (m:Nat),undef,undef,undef,.int .u64 0,.int .u64 (o:Nat),u8,u9,u10,u11,u12,u13,u14,u15,u16,u17,u18,u19,u20,u21,u22,u23,u24,u25],defers:=[]}/\S x m o) (fun a' _=>(intOf (a'.tmps.getD 2 undef)).toNat) rfl ?_ ?_
 ·go_wp2_with fail
  refine(H1.out _).mono ?_;rintro e w1⟨rfl,hb1⟩;go_wp2_with fail
  go_step3;have hs:=H3.out;have hml:=H6.out _ _ _ hs;have hm0:(0:Int)<=n:=by omega
  by_cases hm:n=0
  ·subst hm
   go_wp2_with fail
   simp only[Exit.jump];go_ret;obtain rfl:=H5.out _ _ hs;exact⟨rfl,hb1⟩
  ·have hme:((n:Int)==0)=false:=by rw[ax];omega
   by_cases ho:n%2=1
   ·have hst:=H4.out _ _ _ hs
    rw[if_pos ho]at hst;have hA:(bits .and .u64 (n:Int) 1==1)=true:=by rw[aae _ hml,ho];rfl
    clear ho;have HST:=aa hst;clear hst hs;go_wp2_with fail
    refine(H2.out _ _ _).mono ?_;rintro e w2⟨rfl,hb2⟩;go_wp2_with fail
    refine(H2.out _ _ _).mono ?_;rintro e w3⟨rfl,hb3⟩;have hB:=hb1.trans ((hb2.trans (hb3.mono hb2.size)).mono hb1.size);clear hb2 hb3;go_wp2_with fail
    go_step3;rw[show((n:Int)/2)=((n/2:Nat):Int) by omega];exact⟨rfl,hB,_,_,_,_,_,_,_,_,_,_,_,_,_,_,_,_,_,_,_,_,_,rfl,HST.out⟩
   ·have hst:=H4.out _ _ _ hs
    rw[if_neg ho]at hst;have hA:(bits .and .u64 (n:Int) 1==1)=false:=by rw[aae _ hml,show n%2=0 by omega];rfl
    clear ho;have HST:=aa hst;clear hst hs;go_wp2_with fail
    refine(H2.out _ _ _).mono ?_;rintro e w3⟨rfl,hb3⟩;have hB:=hb1.trans (hb3.mono hb1.size);clear hb3;go_wp2_with fail
    go_step3;rw[show((n:Int)/2)=((n/2:Nat):Int) by omega];exact⟨rfl,hB,_,_,_,_,_,_,_,_,_,_,_,_,_,_,_,_,_,_,_,_,_,rfl,HST.out⟩
 ·rintro a' w'⟨hb,x,m,o,u8,u9,u10,u11,u12,u13,u14,u15,u16,u17,u18,u19,u20,u21,u22,u23,u24,u25,rfl,hs⟩
  have hml:=H6.out _ _ _ hs;have hm0:(0:Int)<=m:=by omega
  by_cases hm:m=0
  ·subst hm
   go_wp2_with fail
   simp only[Exit.jump];go_ret;obtain rfl:=H5.out _ _ hs;exact⟨rfl,hb⟩
  ·have hme:((m:Int)==0)=false:=by rw[ax];omega
   by_cases ho:m%2=1
   ·have hst:=H4.out _ _ _ hs
    rw[if_pos ho]at hst;have hA:(bits .and .u64 (m:Int) 1==1)=true:=by rw[aae _ hml,ho];rfl
    clear ho;have HST:=aa hst;clear hst hs;go_wp2_with fail
    refine(H2.out _ _ _).mono ?_;rintro e w2⟨rfl,hb2⟩;go_wp2_with fail
    refine(H2.out _ _ _).mono ?_;rintro e w3⟨rfl,hb3⟩;have hB:=hb.trans ((hb2.trans (hb3.mono hb2.size)).mono hb.size);clear hb2 hb3;go_wp2_with fail
    go_step3;rw[show((m:Int)/2)=((m/2:Nat):Int) by omega];exact⟨rfl,⟨hB,_,_,_,_,_,_,_,_,_,_,_,_,_,_,_,_,_,_,_,_,_,rfl,HST.out⟩,by simp[intOf];omega⟩
   ·have hst:=H4.out _ _ _ hs
    rw[if_neg ho]at hst;have hA:(bits .and .u64 (m:Int) 1==1)=false:=by rw[aae _ hml,show m%2=0 by omega];rfl
    clear ho;have HST:=aa hst;clear hst hs;go_wp2_with fail
    refine(H2.out _ _ _).mono ?_;rintro e w3⟨rfl,hb3⟩;have hB:=hb.trans (hb3.mono hb.size);clear hb3;go_wp2_with fail
    go_step3;rw[show((m:Int)/2)=((m/2:Nat):Int) by omega];exact⟨rfl,⟨hB,_,_,_,_,_,_,_,_,_,_,_,_,_,_,_,_,_,_,_,_,_,rfl,HST.out⟩,by simp[intOf];omega⟩
end
end Go.Proofs.YtjfkmoinldlmaaaGreat
