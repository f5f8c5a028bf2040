/- The walk of BeagleFails, part 19. The walk of ntt.transform. The walks of ntt.Forward and ntt.Inverse. The walks of the package crt: Mixed, Join, Rows. The walks of conv.Greatest, block.slides, block.Count and block.Check. -/
import Derived.Test.YtjfkmoinldlmaaaGreatFa17
import Derived.StillTailTactics
namespace Go.Proofs.YtjfkmoinldlmaaaGreat
open Go.Proofs.Tryz
section
set_option maxRecDepth 100000
set_option maxHeartbeats 4000000
open Go.RowKit
theorem aeb(t:Nat)(ht:t<=12):lgB ((2^t:Nat):Int)=true/\lgV ((2^t:Nat):Int)=t:=by
 have:t=0\/t=1\/t=2\/t=3\/t=4\/t=5\/t=6\/t=7\/t=8\/t=9\/t=10\/t=11\/t=12:=by omega
 rcases this with rfl|rfl|rfl|rfl|rfl|rfl|rfl|rfl|rfl|rfl|rfl|rfl|rfl<;>decide+kernel
theorem aim(t:Nat)(ht:t<=12)(w:World):Calls prog 48 #[.int .i64 ((2^t:Nat):Int)] w fun e w'=>e=.returned (.tuple #[.int .i64 (t:Nat),.bool true])/\Below w.heap.size w w':=by
 have h:=pg ((2^t:Nat):Int) w;rw[(aeb t ht).1,(aeb t ht).2]at h;exact h
theorem acn(n:Nat)(hn:n<=100000)(w:World):(Instr.makeSlice 42 (.int .i64 (n:Nat)) (.int .i64 (n:Nat))).run prog w=.ok (.slice (some ⟨w.heap.size,0,none⟩) n n) (w.alloc (.cells (madeCells #[.int .u64 0] n) 46)):=by
 obtain⟨i,hi,h1,h2,h3⟩:=info_parts (P:=prog) (show(prog.info? 46).map (fun i=>(i.zero,i.size,i.bytes))=some (some (.int .u64 0),1,8)from by kernel_rfl);have h:=run_make (P:=prog) w 42 46 i (.int .u64 0) underlying42 hi h1 .i64 .i64 n n (by omega) (by omega) (by rw[h3];omega) (by omega);rw[h2,Nat.mul_one]at h;exact h
theorem jm.new(w:World)(n:Nat):jm (w.alloc (.cells (madeCells #[.int .u64 0] n) 46)) w.heap.size n fun _=>0 where
 cells j hj:=by
  rw[World.cell?_alloc_new];have:(madeCells #[.int .u64 0] n).toList[j]?=some (.int .u64 0):=by
   rw[toList_madeCells_one];rw[List.getElem?_replicate,if_pos hj]
  rw[<-Array.getElem?_toList,this];rfl
 free j _:=World.frozen?_alloc_new _ _ _ _
 lt:=by simp
theorem next_a(b h:Nat):((b*(2*h):Nat):Int)+2*(h:Int)=(((b+1)*(2*h):Nat):Int):=by
 rw[show(b+1)*(2*h)=b*(2*h)+2*h from Nat.succ_mul b (2*h),Int.natCast_add,Int.natCast_mul 2 h];rfl
theorem uz(k:Nat)(hk:k<3)(t W:Nat)(ht:t<=12)(hW:0<t->(ph W:Fin (P3 k))^2^(t-1)= -1)(ad:Option Addr)(cap:Nat)(A:Nat->Nat)(w:World)(hR:i8 w ad (2^t) A w.heap.size):
 Calls prog 71 #[.int .i64 (k:Nat),.slice ad (2^t) cap,.int .u64 (W:Nat)] w fun e w'=>∃g y,e=.returned (.slice (some ⟨g,0,none⟩) (2^t) (2^t))/\w.heap.size<=g/\jm w' g (2^t) y/\(∀j,j<2^t->(ph (y j):Fin (P3 k))=dft (fun i=>ph (A i)) (ph W) (2^t) j)/\Below w.heap.size w w':=by
 have hn:2^t<=4096:=by
  have:2^t<=2^12:=Nat.pow_le_pow_right (by decide) ht;omega
 have hn1:1<=2^t:=Nat.two_pow_pos t;have h1:=aa fun w'=>aim t ht w'
 have h2:=aa fun i(hi:i<=100000)w'=>amu i t hi ht w'
 have h3:=aa fun x w'=>mq k hk x w'
 have h4:=aa fun e(he:e<=4294967296)w'=>adi k hk W e he w'
 have h5:=aa fun g a h S x(hx:a+h+h<=2^t)w'=>fly_res k hk g (2^t) a h S x hx (by omega) w'
 have hmk:=aa fun w'=>acn (2^t) (by omega) w'
 have hnew:=aa fun w'=>jm.new w' (2^t)
 have hO0:=aa fun y=>Ord.start (P3 k) A t y
 have hO1:=aa fun q y(h:Ord (P3 k) A t q y)hq=>h.step hq
 have hO2:=aa fun y(h:Ord (P3 k) A t (2^t) y)=>Stg.start W h
 have hS1:=aa fun s y(h:Stg k A W t s (2^(t-(s+1))) y)=>h.next
 have hS2:=aa fun y(h:Stg k A W t t 0 y)=>h.done
 have hS3:=aa fun s b y(h:Stg k A W t s b y)hs hb=>h.step hs hb (hW (by omega)) _ (ao3 k W t s hs)
 have hrl:=aa fun i=>ahs t i
 generalize hN:2^t=N at *;go_enter func71,ntmps71;go_wp2_with fail
 refine(h1.out _).mono ?_;rintro e w1⟨rfl,hb1⟩;have hm1:=hmk.out w1;have hB0:=hnew.out w1;have hnI:(N:Int)<=4096:=by omega
 have hnI0:(0:Int)<=N:=by omega
 have hsz:=hb1.size;have HR:=aa (hR.below hb1 ac);clear hR hmk hnew h1;go_wp2_with fail
 have hbA:Below w.heap.size w (w1.alloc (.cells (madeCells #[.int .u64 0] N) 46)):=hb1.alloc hsz _;have hgN:w1.heap.size<(w1.alloc (.cells (madeCells #[.int .u64 0] N) 46)).heap.size:=by simp
 have HR0:=aa (HR.out.below ((aw w1.heap.size w1).alloc ac (.cells (madeCells #[.int .u64 0] N) 46)) hsz);generalize w1.alloc (.cells (madeCells #[.int .u64 0] N) 46)=W0 at hB0 hbA hgN HR0⊢;generalize w1.heap.size=g at hB0 hsz hgN⊢;have HbA:=aa hbA;have HB0:=aa hB0;clear hB0 hbA hm1 hb1 HR;go_loopw[28] (fun i wr=>∃q y,q<=N/\i=.int .i64 (q:Nat)/\jm wr g N y/\Ord (P3 k) A t q y/\Below g W0 wr) (fun i _=>N-(intOf i).toNat)
 case atStart=>exact⟨0,_,by omega,rfl,HB0.out,hO0.out _,ae⟩
 case round=>
  obtain⟨q,y,hq,rfl,hB,hO,hb⟩:=hrel;have HB:=aa hB;have HO:=aa hO;have Hb:=aa hb;clear hB hO hb;by_cases hlt:q<N
  ·have hlti:(q:Int)<N:=by omega
   have hq0:(0:Int)<=q:=by omega
   obtain⟨b,o,rfl,hbm,e1⟩:=(HR0.out.below (Hb.out.mono hsz) ac).at hlt;have hgl:=HB.out.lt;have hbl:b<wr.heap.size:=by omega
   go_wp2_with fail
   refine(h2.out q (by omega) _).mono ?_;rintro e w2⟨rfl,hb2⟩;go_wp2_with fail
   refine(h3.out _ _).mono ?_;rintro e w3⟨rfl,hb3⟩;have hb23:=hb2.trans (hb3.mono hb2.size);have hB3:=HB.out.below hb23 hgl;have hr:=hrl.out q;have hr1:(rz t q:Int)<N:=by omega
   have f1:=hB3.free _ hr;have d1:=hB3.cells _ hr;have hst:=hO1.out _ _ HO.out hlt;have hset:=hB3.set _ hr (A q%P3 k);have HST:=aa hst;have HSET:=aa hset;have H23:=aa (Hb.out.trans (hb23.mono (dj hgl)));have hgl3:=hB3.lt;clear hst hset hb23 hb2 hb3 hB3;generalize rz t q=r at *;generalize A q%P3 k=v at *;go_wp2_with fail
   exact⟨⟨q+1,_,by omega,by go_num,HSET.out,HST.out,H23.out.setCell (p:=⟨g,r,none⟩) ac _⟩,by simp[intOf];omega⟩
  ·obtain rfl:q=N:=by omega
   go_wp2_with fail
   clear HR0 HB0 hO0 hO1 hrl h2 h3;have HS0:=aa (hO2.out _ HO.out);clear HO hO2;go_loopw[13] (fun i wr2=>∃s y,s<=t/\i=.int .i64 ((2^s:Nat):Int)/\jm wr2 g q y/\Stg k A W t s 0 y/\Below g W0 wr2) (fun i _=>q-(intOf i).toNat)
   case atStart=>exact⟨0,y,by omega,rfl,HB.out,HS0.out,Hb.out⟩
   case round=>
    obtain⟨s,y2,hs,rfl,hB2,hS,hb2⟩:=hrel;have HB2:=aa hB2;have HS:=aa hS;have Hb2:=aa hb2;clear hB2 hS hb2;by_cases hlt:s<t
    ·have hpow:2^s<q:=by rw[<-hN];exact Nat.pow_lt_pow_right (by decide) hlt
     have hse:=aa (Nat.pow_succ 2 s);have hdv:q/(2*2^s)=2^(t-(s+1)):=by rw[<-hN,show 2*2^s=2^(s+1) by rw[Nat.pow_succ,dq],Nat.pow_div (by omega) (by decide)]
     have hml:2^(t-(s+1))*(2*2^s)=q:=by rw[<-hN,show 2*2^s=2^(s+1) by rw[Nat.pow_succ,dq],<-Nat.pow_add,show t-(s+1)+(s+1)=t by omega]
     have hh1:1<=2^s:=Nat.two_pow_pos s;have hS1s:=hS1.out s;have hS3s:=hS3.out s;generalize hE:2^(t-(s+1))=E at *;generalize hH:2^s=h at *;have hhI:(h:Int)<q:=by omega
     have hhI1:(1:Int)<=h:=by omega
     have hdI:(q:Int)/(2*(h:Int))=(E:Int):=by rw[<-hdv,Int.natCast_ediv];rfl
     have hEq:(E:Int)<=q:=by rw[<-hml];exact Int.ofNat_le.2 (Nat.le_mul_of_pos_right _ (by omega))
     have hne:((2*(h:Int))==0)=false:=by rw[ax];omega
     go_wp2_with fail
     rw[hdv]at hS3s;have hEN:E<=q:=by omega
     refine(h4.out E (by omega) _).mono ?_;rintro e w3⟨rfl,hb3⟩;generalize rh (P3 k) W E=S at *;have HB3:=aa (HB2.out.below hb3 HB2.out.lt);have Hb3:=aa (Hb2.out.trans (hb3.mono (dj HB2.out.lt)));have HDV:=aa hdv;have HDI:=aa hdI;have HML:=aa hml;have HS1:=aa hS1s;have HS3:=aa hS3s;clear hS1s hS3s hb3 HB2 Hb2 hdv hdI hml hne;go_wp2_with fail
     go_loopw[15] (fun i wr3=>∃b y,b<=E/\i=.int .i64 ((b*(2*h):Nat):Int)/\jm wr3 g q y/\Stg k A W t s b y/\Below g W0 wr3) (fun i _=>q-(intOf i).toNat)
     case atStart=>exact⟨0,y2,by omega,by rw[Nat.zero_mul];rfl,HB3.out,HS.out,Hb3.out⟩
     case round=>
      obtain⟨b,y3,hbE,rfl,hB3,hS3',hb3⟩:=hrel;have HB4:=aa hB3;have HSb:=aa hS3';have Hb4:=aa hb3;clear hB3 hS3' hb3;by_cases hlb:b<E
      ·have ha2:b*(2*h)+h+h<=q:=by
        have:=Nat.mul_le_mul_right (2*h) (show b+1<=E by omega);rw[HML.out,Nat.succ_mul]at this;omega
       have HNX:Hid (((b*(2*h):Nat):Int)+2*(h:Int)=(((b+1)*(2*h):Nat):Int)):=aa (next_a b h);have hEa:b*2^(s+1)=b*(2*h):=by rw[hse.out,dq h 2]
       have hst:=HS3.out b y3 HSb.out hlt hlb;rw[hEa]at hst;have HST:=aa hst;clear hst hEa;generalize b*(2*h)=a at *;have haI:(0:Int)<=a:=by omega
       have haI2:(a:Int)+h+h<=q:=by omega
       go_wp2_with fail
       obtain⟨m,hm⟩:∃m:Nat,(a:Int)+h=m:=⟨a+h,by omega⟩;obtain⟨m2,hm2⟩:∃m2:Nat,(m:Int)+h=m2:=⟨m+h,by omega⟩;rw[hm];have c1:(m:Int)<=q:=by omega
       have c2:max (m:Int) 0=m:=by omega
       have c3:a<=m:=by omega
       have c4:¬(m=a):=by omega
       have c5:(m2:Int)<=q:=by omega
       have c6:max (m2:Int) 0=m2:=by omega
       have c7:m<=m2:=by omega
       have c8:¬(m2=m):=by omega
       have c9:m-a=h:=by omega
       have c10:m2-m=h:=by omega
       have c11:IntKind.i64.wrap ((m:Int)+h)=m2:=by rw[ci];omega
       have HM:Hid (m=a+h):=aa (by omega);clear hm hm2;go_still_tail 16,(by kernel_rfl)
       change wpList _ _ _ _ _ wr.drew;have hBd:=HB4.out.below (aw wr.heap.size wr).drew HB4.out.lt;have hbd:=Hb4.out.trans ((aw wr.heap.size wr).drew.mono (dj HB4.out.lt));generalize wr.drew=wd at hBd hbd⊢;have HBd:=aa hBd;have Hbd:=aa hbd;clear hBd hbd c1 c2 c3 c4 c5 c6 c7 c8 c9 c10 c11;go_wp2_with fail
       rw[HM.out];refine(h5.out g a h S y3 ha2 _ HBd.out).mono ?_;rintro e w5⟨rfl,hB5,hb5⟩;have HB5:=aa hB5;have Hb5:=aa hb5;clear hB5 hb5;go_wp2_with fail
       exact⟨⟨b+1,_,by omega,by rw[HNX.out],HB5.out,HST.out,Hbd.out.trans Hb5.out⟩,by simp[intOf];omega⟩
      ·obtain rfl:b=E:=by omega
       rw[HML.out];have hnx:=HS1.out y3 HSb.out;have HNX:=aa hnx;have HSE:Hid ((h:Int)*2=((2^(s+1):Nat):Int)):=aa (by rw[hse.out];exact(Int.natCast_mul h 2).symm);clear hnx HSb;go_wp2_with fail
       exact⟨⟨s+1,_,by omega,by rw[HSE.out],HB4.out,HNX.out,Hb4.out⟩,by simp[intOf];omega⟩
    ·obtain rfl:s=t:=by omega
     rw[hN];go_wp2_with fail
     go_ret;exact⟨g,y2,rfl,hsz,HB2.out,hS2.out y2 HS.out,HbA.out.trans (Hb2.out.mono hsz)⟩
end
section
set_option maxRecDepth 100000
set_option maxHeartbeats 4000000
open Go.RowKit
theorem root_nz(k t:Nat)(hk:k<3):jr k t%P3 k≠0:=by
 intro h;have h1:=abc k t hk;have h2:(ph (jr k t):Fin (P3 k))=0:=by rw[<-uj];exact aj0 (by rw[h,Nat.zero_mod])
 rw[h2]at h1;have hb:=yk k hk;have h3:(0:Fin (P3 k))=1:=by rw[<-h1];grind
 rw[<-uj,<-qu]at h3;have h4:=aax h3;rw[ea (by omega),ea (by omega)]at h4;cases h4
theorem size_nz(k t:Nat)(hk:k<3)(ht:t<=12):(2^t)%P3 k≠0:=by
 have hb:=yk k hk;have:2^t<=2^12:=Nat.pow_le_pow_right (by decide) ht;have:=Nat.two_pow_pos t;rw[ea (by omega)];omega
theorem inv_neg(k t:Nat)(hk:k<3)(h0:0<t)(ht:t<=12):(ph (na k (jr k t)):Fin (P3 k))^2^(t-1)= -1:=by
 have h1:=aau k t hk h0 ht;have h2:((ph (jr k t):Fin (P3 k))*ph (na k (jr k t)))^2^(t-1)=1:=by rw[abc k t hk,mp]
 rw[wu,h1]at h2;grind
theorem agn(k t:Nat)(hk:k<3)(ht:t<=12)(w:World):Calls prog 69 #[.int .i64 (k:Nat),.int .i64 ((2^t:Nat):Int)] w fun e w'=>e=.returned (.int .i64 0)/\Below w.heap.size w w':=
 ady k hk _ (aeb t ht).1 w
theorem aga(k:Nat)(hk:k<3)(t:Nat)(ht:t<=12)(ad:Option Addr)(cap:Nat)(A:Nat->Nat)(w:World)(hR:i8 w ad (2^t) A w.heap.size):
 Calls prog 35 #[.int .i64 (k:Nat),.slice ad (2^t) cap] w fun e w'=>∃g y,e=.returned (.tuple #[.slice (some ⟨g,0,none⟩) (2^t) (2^t),.int .i64 0])/\w.heap.size<=g/\jm w' g (2^t) y/\(∀j,j<2^t->(ph (y j):Fin (P3 k))=dft (fun i=>ph (A i)) (ph (jr k t)) (2^t) j)/\Below w.heap.size w w':=by
 have h1:=aa fun w'=>agn k t hk ht w'
 have h2:=aa fun w'=>aim t ht w'
 have h3:=aa fun w'=>afb k hk t ht w'
 have h4:=aa fun w'(hR:i8 w' ad (2^t) A w'.heap.size)=>uz k hk t (jr k t) ht (fun h0=>aau k t hk h0 ht) ad cap A w' hR
 have HR:=aa hR;clear hR;generalize jr k t=R at *;generalize 2^t=N at *;go_enter func35,ntmps35;go_wp2_with fail
 refine(h1.out _).mono ?_;rintro e w1⟨rfl,hb1⟩;have Hb1:=aa hb1;clear hb1;go_wp2_with fail
 refine(h2.out _).mono ?_;rintro e w2⟨rfl,hb2⟩;have Hb2:=aa (Hb1.out.trans (hb2.mono Hb1.out.size));clear hb2 Hb1;go_wp2_with fail
 refine(h3.out _).mono ?_;rintro e w3⟨rfl,hb3⟩;have Hb3:=aa (Hb2.out.trans (hb3.mono Hb2.out.size));clear hb3 Hb2;go_wp2_with fail
 refine(h4.out _ ((HR.out.below Hb3.out ac).mono Hb3.out.size)).mono ?_;rintro e w4⟨g,y,rfl,hg,hB,hy,hb4⟩;have Hb4:=aa (Hb3.out.trans (hb4.mono Hb3.out.size));have HG:=aa (ba Hb3.out.size hg);have HB:=aa hB;have HY:=aa hy;clear hb4 Hb3 hg hB hy;go_wp2_with fail
 go_ret2
 exact⟨g,y,rfl,HG.out,HB.out,HY.out,Hb4.out⟩
theorem af3(k:Nat)(hk:k<3)(t:Nat)(ht:t<=12)(ad:Option Addr)(cap:Nat)(A:Nat->Nat)(w:World)(hR:i8 w ad (2^t) A w.heap.size):
 Calls prog 39 #[.int .i64 (k:Nat),.slice ad (2^t) cap] w fun e w'=>∃g y,e=.returned (.tuple #[.slice (some ⟨g,0,none⟩) (2^t) (2^t),.int .i64 0])/\w.heap.size<=g/\jm w' g (2^t) y/\(∀j,j<2^t->(ph (y j):Fin (P3 k))=dft (fun i=>ph (A i)) (ph (na k (jr k t))) (2^t) j*ph (na k (2^t)))/\Below w.heap.size w w':=by
 have hnn:2^t<=4096:=by
  have:2^t<=2^12:=Nat.pow_le_pow_right (by decide) ht;omega
 have h1:=aa fun w'=>agn k t hk ht w'
 have h2:=aa fun w'=>aim t ht w'
 have h3:=aa fun w'=>afb k hk t ht w'
 have h4:=aa fun w'=>aac k hk (jr k t) (root_nz k t hk) w'
 have h5:=aa fun w'=>aac k hk (2^t) (size_nz k t hk ht) w'
 have h6:=aa fun w'(hR:i8 w' ad (2^t) A w'.heap.size)=>uz k hk t (na k (jr k t)) ht (fun h0=>inv_neg k t hk h0 ht) ad cap A w' hR
 have h7:=aa fun a b w'=>uk k hk a b w'
 have HM:=aa fun a b=>me k a b
 have HR:=aa hR;clear hR;generalize na k (jr k t)=V at *;generalize na k (2^t)=M at *;generalize jr k t=R at *;generalize 2^t=N at *;have hNI:(N:Int)<=4096:=by omega
 go_enter func39,ntmps39;go_wp2_with fail
 refine(h1.out _).mono ?_;rintro e w1⟨rfl,hb1⟩;have Hb1:=aa hb1;clear hb1;go_wp2_with fail
 refine(h2.out _).mono ?_;rintro e w2⟨rfl,hb2⟩;have Hb2:=aa (Hb1.out.trans (hb2.mono Hb1.out.size));clear hb2 Hb1;go_wp2_with fail
 refine(h3.out _).mono ?_;rintro e w3⟨rfl,hb3⟩;have Hb3:=aa (Hb2.out.trans (hb3.mono Hb2.out.size));clear hb3 Hb2;go_wp2_with fail
 refine(h4.out _).mono ?_;rintro e w4⟨rfl,hb4⟩;have Hb4:=aa (Hb3.out.trans (hb4.mono Hb3.out.size));clear hb4 Hb3;go_wp2_with fail
 refine(h5.out _).mono ?_;rintro e w5⟨rfl,hb5⟩;have Hb5:=aa (Hb4.out.trans (hb5.mono Hb4.out.size));clear hb5 Hb4;go_wp2_with fail
 refine(h6.out _ ((HR.out.below Hb5.out ac).mono Hb5.out.size)).mono ?_;rintro e w6⟨g,y,rfl,hg,hB,hy,hb6⟩;have Hb6:=aa (Hb5.out.trans (hb6.mono Hb5.out.size));have HG:=aa (ba Hb5.out.size hg);have HB:=aa hB;have HY:=aa hy;clear hb6 Hb5 hg hB hy;go_wp2_with fail
 go_loopw[56] (fun i wr=>∃q:Nat,q<=N/\i=.int .i64 q/\jm wr g N (fun j=>if j<q then j1 k (y j) M else y j)/\Below w.heap.size w wr) (fun i _=>N-(intOf i).toNat)
 case atStart=>exact⟨0,by omega,rfl,HB.out.congr fun j _=>by rw[if_neg (by omega)],Hb6.out⟩
 case round=>
  obtain⟨q,hq,rfl,hB2,hb2⟩:=hrel;have HB2:=aa hB2;have Hb2:=aa hb2;clear hB2 hb2;by_cases hlt:q<N
  ·have hlti:(q:Int)<N:=by omega
   have hq0:(0:Int)<=q:=by omega
   have e1:=HB2.out.cells q hlt;rw[if_neg (by omega)]at e1;have hgl:=HB2.out.lt;go_wp2_with fail
   refine(h7.out _ _ _).mono ?_;rintro e w7⟨rfl,hb7⟩;have hB7:=HB2.out.below hb7 hgl;have hbb:=Hb2.out.trans (hb7.mono Hb2.out.size);have f1:=hB7.free q hlt;have d1:=hB7.cells q hlt;have hgl7:=hB7.lt;have HB7:=aa (hB7.set q hlt (j1 k (y q) M));have Hbb:=aa hbb;clear hB7 hbb hb7 e1;generalize hv:j1 k (y q) M=v at HB7⊢;go_wp2_with fail
   refine⟨⟨q+1,by omega,by go_num,HB7.out.congr fun j _=>?_,Hbb.out.setCell (p:=⟨g,q,none⟩) HG.out _⟩,by simp[intOf];omega⟩;show(if j=q then v else if j<q then j1 k (y j) M else y j)=_;by_cases he:j=q
   ·subst he;rw[if_pos rfl,if_pos (by omega),hv]
   ·rw[if_neg he]
    by_cases hl:j<q
    ·rw[if_pos hl,if_pos (by omega)]
    ·rw[if_neg hl,if_neg (by omega)]
  ·obtain rfl:q=N:=by omega
   go_wp2_with fail
   go_ret2
   exact⟨g,_,rfl,HG.out,HB2.out,fun j hj=>by rw[if_pos hj,HM.out,HY.out j hj],Hb2.out⟩
end
section
set_option maxRecDepth 100000
set_option maxHeartbeats 4000000
open Go.RowKit
abbrev v3(a b c:Nat):Value:=.agg #[.int .u64 (a:Nat),.int .u64 (b:Nat),.int .u64 (c:Nat)]
abbrev qg(w:World)(B:Nat)(a b c:Nat):Prop:=
 (w.cell? ⟨B,0,none⟩=some (.int .u64 (a:Nat))/\w.cell? ⟨B,1,none⟩=some (.int .u64 (b:Nat))/\w.cell? ⟨B,2,none⟩=some (.int .u64 (c:Nat)))∧
 (w.frozen? ⟨B,0,none⟩=false/\w.frozen? ⟨B,1,none⟩=false/\w.frozen? ⟨B,2,none⟩=false)/\B<w.heap.size
theorem qg.below{w w':World}{B n a b c:Nat}(h:qg w B a b c)(hb:Below n w w')(hn:B<n):qg w' B a b c:=by
 obtain⟨⟨c0,c1,c2⟩,⟨f0,f1,f2⟩,hl⟩:=h;have hc:=fun o=>hb.cell (p:=⟨B,o,none⟩) hn
 have hf:=fun o=>hb.frozen (p:=⟨B,o,none⟩) hn
 exact⟨⟨(hc 0).trans c0,(hc 1).trans c1,(hc 2).trans c2⟩,⟨(hf 0).trans f0,(hf 1).trans f1,(hf 2).trans f2⟩,az hl hb.size⟩
theorem qg.new(w:World)(a b c:Nat):qg (w.alloc (.cells #[.int .u64 (a:Nat),.int .u64 (b:Nat),.int .u64 (c:Nat)] 152)) w.heap.size a b c:=by
 refine⟨⟨?_,?_,?_⟩,⟨?_,?_,?_⟩,?_⟩<;>simp[go_sem]
theorem am2(z0 z1 z2:Nat)(w:World):Calls prog 133 #[v3 z0 z1 z2] w fun e w'=>e=.returned (v3 (z0%P3 0) (dg1 z0 z1) (dg2 z0 z1 z2))/\Below w.heap.size w w':=by
 have h1:Hid (∀w',Calls prog 42 #[.int .i64 0] w' fun e w''=>e=.returned (.int .u64 (P3 0:Nat))/\Below w'.heap.size w' w''):=aa fun w'=>lh 0 (by decide) w'
 have h2:Hid (∀w',Calls prog 42 #[.int .i64 1] w' fun e w''=>e=.returned (.int .u64 (P3 1:Nat))/\Below w'.heap.size w' w''):=aa fun w'=>lh 1 (by decide) w'
 have h3:Hid (∀w',Calls prog 17 #[.int .i64 0,.int .u64 (z0:Nat)] w' fun e w''=>e=.returned (.int .u64 (z0%P3 0:Nat))/\Below w'.heap.size w' w''):=aa fun w'=>mq 0 (by decide) z0 w'
 have h4:Hid (∀w',Calls prog 73 #[.int .i64 1,.int .u64 (P3 0:Nat)] w' fun e w''=>e=.returned (.tuple #[.int .u64 (na 1 (P3 0):Nat),.bool true])/\Below w'.heap.size w' w''):=aa fun w'=>aac 1 (by decide) (P3 0) (by decide) w'
 have h5:Hid (∀a b w',Calls prog 176 #[.int .i64 1,.int .u64 (a:Nat),.int .u64 (b:Nat)] w' fun e w''=>e=.returned (.int .u64 (uv 1 a b:Nat))/\Below w'.heap.size w' w''):=aa fun a b w'=>ac6 1 (by decide) a b w'
 have h6:Hid (∀a b w',Calls prog 16 #[.int .i64 1,.int .u64 (a:Nat),.int .u64 (b:Nat)] w' fun e w''=>e=.returned (.int .u64 (j1 1 a b:Nat))/\Below w'.heap.size w' w''):=aa fun a b w'=>uk 1 (by decide) a b w'
 have h7:Hid (∀a b w',Calls prog 176 #[.int .i64 2,.int .u64 (a:Nat),.int .u64 (b:Nat)] w' fun e w''=>e=.returned (.int .u64 (uv 2 a b:Nat))/\Below w'.heap.size w' w''):=aa fun a b w'=>ac6 2 (by decide) a b w'
 have h8:Hid (∀a b w',Calls prog 16 #[.int .i64 2,.int .u64 (a:Nat),.int .u64 (b:Nat)] w' fun e w''=>e=.returned (.int .u64 (j1 2 a b:Nat))/\Below w'.heap.size w' w''):=aa fun a b w'=>uk 2 (by decide) a b w'
 have h9:Hid (∀w',Calls prog 73 #[.int .i64 2,.int .u64 (j1 2 (P3 0) (P3 1):Nat)] w' fun e w''=>e=.returned (.tuple #[.int .u64 (na 2 (j1 2 (P3 0) (P3 1)):Nat),.bool true])/\Below w'.heap.size w' w''):=aa fun w'=>aac 2 (by decide) _ (by decide) w'
 unfold dg2 dg1;generalize na 2 (j1 2 (P3 0) (P3 1))=i2 at *;generalize na 1 (P3 0)=i1 at *;generalize z0%P3 0=d0 at *;generalize P3 0=p0 at *;generalize P3 1=p1 at *;have hx0:=qg.new w z0 z1 z2;have hy0:=qg.new (w.alloc (.cells #[.int .u64 (z0:Nat),.int .u64 (z1:Nat),.int .u64 (z2:Nat)] 152)) 0 0 0;rw[bg]at hy0;go_enter func133,ntmps133;go_wp2_with fail
 obtain⟨W0,hW0⟩:∃W0:World,(w.alloc (.cells #[.int .u64 (z0:Nat),.int .u64 (z1:Nat),.int .u64 (z2:Nat)] 152)).alloc (Obj.cells #[Value.int IntKind.u64 0,Value.int IntKind.u64 0,Value.int IntKind.u64 0] 152)=W0:=⟨_,rfl⟩;have HX:Hid (qg W0 w.heap.size z0 z1 z2):=aa (by subst hW0;exact hx0.below (ae.alloc ac _) hx0.2.2);have HY:Hid (qg W0 (w.heap.size+1) 0 0 0):=aa (by subst hW0;exact hy0);have HB:Hid (Below w.heap.size w W0):=aa (by subst hW0;exact(ae.alloc ac _).alloc (by simp) _);rw[hW0];clear hW0 hx0 hy0;have HO0:Hid (Below W0.heap.size W0 W0):=aa ae;refine(h1.out _).mono ?_;rintro e w1⟨rfl,hb⟩;have HO1:=aa (HO0.out.trans (hb.mono HO0.out.size));clear hb HO0;go_wp2_with fail
 refine(h2.out _).mono ?_;rintro e w2⟨rfl,hb⟩;have HO2:=aa (HO1.out.trans (hb.mono HO1.out.size));clear hb HO1;obtain⟨⟨x0,x1,x2⟩,-,xl⟩:=HX.out.below HO2.out HX.out.2.2;go_wp2_with fail
 refine(h3.out _).mono ?_;rintro e w3⟨rfl,hb⟩;have HO3:=aa (HO2.out.trans (hb.mono HO2.out.size));clear hb HO2;go_wp2_with fail
 clear x0 x1 x2 xl;refine(h4.out _).mono ?_;rintro e w4⟨rfl,hb⟩;have HO4:=aa (HO3.out.trans (hb.mono HO3.out.size));clear hb HO3;obtain⟨⟨x0,x1,x2⟩,-,xl⟩:=HX.out.below HO4.out HX.out.2.2;go_wp2_with fail
 refine(h5.out _ _ _).mono ?_;rintro e w5⟨rfl,hb⟩;have HO5:=aa (HO4.out.trans (hb.mono HO4.out.size));clear hb HO4;go_wp2_with fail
 refine(h6.out _ _ _).mono ?_;rintro e w6⟨rfl,hb⟩;have HO6:=aa (HO5.out.trans (hb.mono HO5.out.size));clear hb HO5;go_wp2_with fail
 clear x0 x1 x2 xl;refine(h8.out _ _ _).mono ?_;rintro e w7⟨rfl,hb⟩;have HO7:=aa (HO6.out.trans (hb.mono HO6.out.size));clear hb HO6;go_wp2_with fail
 refine(h9.out _).mono ?_;rintro e w8⟨rfl,hb⟩;have HO8:=aa (HO7.out.trans (hb.mono HO7.out.size));clear hb HO7;obtain⟨⟨x0,x1,x2⟩,-,xl⟩:=HX.out.below HO8.out HX.out.2.2;go_wp2_with fail
 refine(h7.out _ _ _).mono ?_;rintro e w9⟨rfl,hb⟩;have HO9:=aa (HO8.out.trans (hb.mono HO8.out.size));clear hb HO8;go_wp2_with fail
 refine(h8.out _ _ _).mono ?_;rintro e w10⟨rfl,hb⟩;have HO10:=aa (HO9.out.trans (hb.mono HO9.out.size));clear hb HO9;go_wp2_with fail
 refine(h7.out _ _ _).mono ?_;rintro e w11⟨rfl,hb⟩;have HO11:=aa (HO10.out.trans (hb.mono HO10.out.size));clear hb HO10;go_wp2_with fail
 clear x0 x1 x2 xl;refine(h8.out _ _ _).mono ?_;rintro e w12⟨rfl,hb⟩;have HO12:=aa (HO11.out.trans (hb.mono HO11.out.size));clear hb HO11;obtain⟨⟨y0,y1,y2⟩,⟨g0,g1,g2⟩,yl⟩:=HY.out.below HO12.out HY.out.2.2;go_wp2_with fail
 refine ay (v:=v3 d0 (j1 1 (uv 1 z1 d0) i1) (j1 2 (uv 2 (uv 2 z2 d0) (j1 2 (j1 1 (uv 1 z1 d0) i1) p0)) i2)) (by simp[results,results133,go_sem,y0,y1,y2]) rfl ⟨rfl,?_⟩;exact(((HB.out.trans (HO12.out.mono HB.out.size)).setCell (p:=⟨w.heap.size+1,0,none⟩) (by simp) _).setCell (p:=⟨w.heap.size+1,1,none⟩) (by simp) _).setCell (p:=⟨w.heap.size+1,2,none⟩) (by simp) _
theorem air(x d0 d1 d2 p0 p1:Nat)(hx:x<18446744073709551616)(h:d0+(d1+d2*p1)*p0=x)(hp:2<=p0):
 IntKind.u64.wrap ((d2:Int)*p1)=(d2:Int)*p1/\IntKind.u64.wrap ((d1:Int)+d2*p1)=(d1:Int)+d2*p1/\IntKind.u64.wrap (18446744073709551615-(d0:Int))=18446744073709551615-(d0:Int)∧
 ¬((18446744073709551615-(d0:Int))/(p0:Int)<(d1:Int)+d2*p1)/\IntKind.u64.wrap (((d1:Int)+d2*p1)*p0)=((d1:Int)+d2*p1)*p0/\IntKind.u64.wrap ((d0:Int)+((d1:Int)+d2*p1)*p0)=(x:Nat):=by
 have e1:((d2:Int)*p1)=((d2*p1:Nat):Int):=(Int.natCast_mul _ _).symm;rw[e1];generalize d2*p1=m at h⊢;have e2:((d1:Int)+(m:Nat))=((d1+m:Nat):Int):=by omega
 rw[e2];have hm:m<=d1+m:=by omega
 generalize d1+m=q at h hm⊢;have e3:((q:Int)*p0)=((q*p0:Nat):Int):=(Int.natCast_mul _ _).symm;have hq:q<=q*p0:=Nat.le_mul_of_pos_right _ (by omega);have hdv:¬((18446744073709551615-(d0:Int))/(p0:Int)<(q:Nat)):=by
  have h2:q<=(18446744073709551615-d0)/p0:=by
   rw[Nat.le_div_iff_mul_le (by omega)];omega
  have h3:((18446744073709551615-(d0:Int))/(p0:Int))=(((18446744073709551615-d0)/p0:Nat):Int):=by
   rw[Int.natCast_ediv];congr 1;omega
  rw[h3];omega
 rw[e3];generalize q*p0=r at h hq⊢;refine⟨?_,?_,?_,hdv,?_,?_⟩<;>rw[IntKind.wrap_u64]<;>omega
theorem arb(x z0 z1 z2:Nat)(hx:x<18446744073709551616)(h0:z0%P3 0=x%P3 0)(h1:z1%P3 1=x%P3 1)(h2:z2%P3 2=x%P3 2)(w:World):Calls prog 74 #[v3 z0 z1 z2] w fun e w'=>e=.returned (.tuple #[.int .u64 (x:Nat),.bool true])/\Below w.heap.size w w':=by
 have hf:=air x (z0%P3 0) (dg1 z0 z1) (dg2 z0 z1 z2) (P3 0) (P3 1) hx (join_eq x z0 z1 z2 hx h0 h1 h2) (by decide);have g1:Hid (∀w',Calls prog 42 #[.int .i64 0] w' fun e w''=>e=.returned (.int .u64 (P3 0:Nat))/\Below w'.heap.size w' w''):=aa fun w'=>lh 0 (by decide) w'
 have g2:Hid (∀w',Calls prog 42 #[.int .i64 1] w' fun e w''=>e=.returned (.int .u64 (P3 1:Nat))/\Below w'.heap.size w' w''):=aa fun w'=>lh 1 (by decide) w'
 have g3:=aa fun w'=>am2 z0 z1 z2 w'
 have hpp:2<=P3 0:=by decide
 have hd0:z0%P3 0<18446744073709551616:=Nat.lt_trans (Nat.mod_lt _ (mt 0)) (by decide);generalize z0%P3 0=d0 at hf g3 hd0;generalize dg1 z0 z1=d1 at *;generalize dg2 z0 z1 z2=d2 at *;generalize P3 0=p0 at hf g1 hpp;generalize P3 1=p1 at hf g2;have HF:=aa hf;have hpI:(2:Int)<=p0:=by omega
 have hne:((p0:Int)==0)=false:=by rw[ax];omega
 have hd0I:(d0:Int)<=18446744073709551615:=by omega
 clear hf h0 h1 h2 hd0 hpp hx;have hx0:=qg.new w z0 z1 z2;go_enter func74,ntmps74;go_wp2_with fail
 refine(g3.out _).mono ?_;rintro e w1⟨rfl,hb⟩;have HB1:=aa (((aw w.heap.size w).alloc ac _).trans (hb.mono (by simp)));clear hb hx0;have hy0:=qg.new w1 d0 d1 d2;have HX:=aa hy0;clear hy0;go_wp2_with fail
 have hB2:=HB1.out.alloc HB1.out.size (Obj.cells #[.int .u64 (d0:Nat),.int .u64 (d1:Nat),.int .u64 (d2:Nat)] 152);generalize w1.alloc (.cells #[.int .u64 (d0:Nat),.int .u64 (d1:Nat),.int .u64 (d2:Nat)] 152)=W2 at HX hB2⊢;have HB2:=aa hB2;clear hB2 HB1;refine(g1.out _).mono ?_;rintro e w3⟨rfl,hb⟩;have HB3:=aa (HB2.out.trans (hb.mono HB2.out.size));have HX3:=aa (HX.out.below hb HX.out.2.2);clear hb HX HB2;go_wp2_with fail
 refine(g2.out _).mono ?_;rintro e w4⟨rfl,hb⟩;have HB4:=aa (HB3.out.trans (hb.mono HB3.out.size));obtain⟨⟨x0,x1,x2⟩,-,xl⟩:=HX3.out.below hb HX3.out.2.2;clear hb HX3 HB3;obtain⟨q1,q2,q3,q4,q5,q6⟩:=HF.out;have q7:decide ((18446744073709551615-(d0:Int))/(p0:Int)<(d1:Int)+d2*p1)=false:=by simpa using q4
 go_wp2_with fail
 go_ret2
 exact⟨rfl,HB4.out⟩
theorem abj:mi 42 46 1 8:=lj (z:=.int .u64 0) underlying42 (by kernel_rfl) rfl (by decide)
def fh(A:Nat->Nat):Nat->List Value
 |0=>[]
 |k+1=>fh A k++[.int .u64 (A k:Nat)]
theorem ld(A:Nat->Nat)(n:Nat):(fh A n).length=n:=by
 induction n with
 |zero=>rfl
 |succ n ih=>simp only[fh,bd,bz,List.length_nil,ih]
theorem rv(A:Nat->Nat)(n j:Nat)(hj:j<n):(fh A n)[j]?=some (.int .u64 (A j:Nat)):=by
 induction n with
 |zero=>omega
 |succ n ih=>
  have hl:=ld A n;simp only[fh];by_cases he:j=n
  ·subst he;rw[ef (by omega),hl];simp
  ·rw[ek (by omega)];exact ih (by omega)
theorem j5{w:World}{base n cap:Nat}{ad:Option Addr}{A:Nat->Nat}(h:w.ownsRow base 46 1 (.slice ad n cap) n (fh A n)):i8 w ad n A w.heap.size:=by
 rcases ed n with h0|h0
 ·exact .inl h0
 ·obtain⟨g,cp,hv,_,hlt⟩:=oa h h0
  cases hv;refine .inr ⟨g,0,rfl,hlt,fun j hj=>?_⟩;rw[dg,h.cellAt j (by omega)];exact rv A n j hj
theorem aph(n:Nat)(hn:n<=100000)(X A0 A1 A2:Nat->Nat)(hX:∀j,j<n->X j<18446744073709551616/\A0 j%P3 0=X j%P3 0/\A1 j%P3 1=X j%P3 1/\A2 j%P3 2=X j%P3 2)
 (a0 a1 a2:Option Addr) (c0 c1 c2:Nat) (w:World) (hR0:i8 w a0 n A0 w.heap.size) (hR1:i8 w a1 n A1 w.heap.size) (hR2:i8 w a2 n A2 w.heap.size):
 Calls prog 40 #[.slice a0 n c0,.slice a1 n c1,.slice a2 n c2] w fun e w'=>∃v,e=.returned (.tuple #[v,.bool true])/\w'.ownsRow w.heap.size 46 1 v n (fh X n)/\Below w.heap.size w w':=by
 have hj:=aa fun j(h:j<n)w'=>arb (X j) (A0 j) (A1 j) (A2 j) (hX j h).1 (hX j h).2.1 (hX j h).2.2.1 (hX j h).2.2.2 w'
 have HR0:=aa hR0;have HR1:=aa hR1;have HR2:=aa hR2;clear hX hR0 hR1 hR2;go_enter func40,ntmps40;go_wp2_with fail
 go_loopw[8,26] (fun v i wr=>∃k:Nat,k<=n/\i=.int .i64 k/\wr.ownsRow w.heap.size 46 1 v k (fh X k)/\Below w.heap.size w wr) (fun _ i _=>n-(intOf i).toNat)
 case atStart=>exact⟨0,by omega,rfl,bj _ _ _ _,ae⟩
 case round=>
  obtain⟨k,hk,rfl,hown,hb⟩:=hrel;have hz:=hb.size;by_cases hlt:k<n
  ·obtain⟨b0,o0,rfl,hb0,e0⟩:=(HR0.out.below hb ac).at hlt
   obtain⟨b1,o1,rfl,hb1,e1⟩:=(HR1.out.below hb ac).at hlt;obtain⟨b2,o2,rfl,hb2,e2⟩:=(HR2.out.below hb ac).at hlt;have hlti:(k:Int)<n:=by omega
   have hk0:(0:Int)<=k:=by omega
   have l0:b0<wr.heap.size:=by omega
   have l1:b1<wr.heap.size:=by omega
   have l2:b2<wr.heap.size:=by omega
   have HOWN:=aa hown;have HB:=aa hb;clear hown hb;go_wp2_with fail
   go_region_held3 (fun w'=>fo wr w') (first|with_reducible exact fo.start _|with_reducible exact fo.calld (fo.refl _) (by assumption)|with_reducible exact fo.call (by assumption) (by assumption)) (first|(go_at_call 74;refine(hj.out k hlt _).mono ?_;rintro e w'⟨rfl,hb'⟩))
   have hbo:=(show fo wr _ by assumption).2.2.2;rename_i w2 hOld;have hown:=fe HOWN.out hbo;have HBo:=aa (HB.out.trans (hbo.mono hz));have hz2:=HBo.out.size;clear hOld hbo e0 e1 e2 HOWN HB;go_wp2_with(first|(at_builtin;refine gj abj rfl _ _ rfl rfl hown [.int .u64 (X k:Nat)] rfl rfl (by simp[Value.oneCell']) (by unfold maxLen;omega) (by omega) (by omega) ?_;intro v3 w3 hown3 hb3))
   exact⟨⟨k+1,by omega,by go_num,hown3,HBo.out.trans hb3⟩,by simp[intOf];omega⟩
  ·obtain rfl:k=n:=by omega
   go_wp2_with fail
   go_ret2
   exact⟨_,rfl,hown,hb⟩
end
section
set_option maxRecDepth 100000
set_option maxHeartbeats 4000000
open Go.RowKit
def ss(A:Nat->Nat):Nat->Nat
 |0=>0
 |k+1=>max (ss A k) (A k)
theorem arq(A:Nat->Nat)(n j:Nat)(hj:j<n):A j<=ss A n:=by
 induction n with
 |zero=>omega
 |succ n ih=>
  simp only[ss];by_cases he:j=n
  ·subst he;omega
  ·have:=ih (by omega);omega
theorem xd(ad:Option Addr)(n cap:Nat)(A:Nat->Nat)(hn:n<=100000)(w:World)(hR:i8 w ad n A w.heap.size):
 Calls prog 68 #[.slice ad n cap] w fun e w'=>e=.returned (.int .u64 (ss A n:Nat))/\Below w.heap.size w w':=by
 have hg0:ss A 0=0:=rfl;have hg1:Hid (∀k,ss A (k+1)=max (ss A k) (A k)):=aa fun k=>rfl
 generalize ss A=G at *;have HR:=aa hR;have hG0:Hid ((G 0:Int)=0):=aa (by omega);clear hR hg0;go_enter func68,ntmps68;go_wp2_with fail
 go_loopw[3,8] (fun g i wr=>∃q:Nat,q<=n/\i=.int .i64 q/\g=.int .u64 (G q:Nat)/\fo w wr) (fun _ i _=>n-(intOf i).toNat)
 case atStart=>exact⟨0,by omega,rfl,by rw[hG0.out],fo.refl _⟩
 case round=>
  obtain⟨q,hq,rfl,rfl,hO⟩:=hrel;have HO:=aa hO;by_cases hlt:q<n
  ·obtain⟨b,o,rfl,hbm,e1⟩:=(HR.out.below hO.2.2.2 ac).at hlt
   have hbl:b<wr.heap.size:=by have:=hO.2.2.1;omega
   have hlti:(q:Int)<n:=by omega
   have hq0:(0:Int)<=q:=by omega
   have hG:Hid ((if G q<A q then(A q:Int)else(G q:Int))=(G (q+1):Nat)):=aa (by rw[hg1.out];split<;>omega);clear hO;go_wp2_with fail
   rw[hG.out];exact⟨⟨q+1,by omega,by go_num,rfl,HO.out⟩,by simp[intOf];omega⟩
  ·obtain rfl:q=n:=by omega
   clear hO;go_wp2_with fail
   go_ret;exact⟨rfl,HO.out.2.2.2⟩
theorem xz(m n:Int)(h:¬(1<=m/\m<=n))(w:World):Calls prog 34 #[.int .i64 m,.int .i64 n] w fun e w'=>e=.returned (.bool false)/\Below w.heap.size w w':=by
 by_cases h1:1<=m
 ·have h2:¬(m<=n):=by omega
  have h3:decide (m<=n)=false:=bv h2;go_enter func34,ntmps34;go_wp2;go_ret;exact⟨rfl,ae⟩
 ·have h3:decide (1<=m)=false:=bv h1
  go_enter func34,ntmps34;go_wp2;go_ret;exact⟨rfl,ae⟩
theorem ar8(m n size:Int)(h:¬(1<=m/\m<=n))(hn:n<=100000)(w:World):Calls prog 14 #[.int .i64 m,.int .i64 n,.int .i64 size] w fun e w'=>e=.returned (.int .i64 0)/\Below w.heap.size w w':=by
 have hmin:min n 1099511627776=n:=by omega
 have hmin2:n<=1099511627776:=by omega
 have hs:=aa fun w'=>xz m n h w'
 go_enter func14,ntmps14;go_wp2_with(first|(go_at_call 34;refine(hs.out _).mono ?_;rintro e w1⟨rfl,hb1⟩))
 go_ret;exact⟨rfl,hb1⟩
def zt(m n size:Int)(a b mm:Nat):Int:=
 if¬(1<=m/\m<=n)then 0 else if vn m size=false then 50 else if mm*(a*b)<=18446744073709551615 then 0 else 40
theorem an0(m a b:Nat)(hm:1<=m):
 (a=0/\m*(a*b)<=18446744073709551615)∨
 (1<=a/\(18446744073709551615/(a:Int))<(b:Int)/\¬m*(a*b)<=18446744073709551615)∨
 (1<=a/\¬(18446744073709551615/(a:Int))<(b:Int)/\b=0/\m*(a*b)<=18446744073709551615)∨
 (1<=a/\¬(18446744073709551615/(a:Int))<(b:Int)/\1<=b/\IntKind.u64.wrap ((a:Int)*b)=(a:Int)*b/\((a:Int)*b==0)=false/\¬((a:Int)*b=0)∧
  ((18446744073709551615/((a:Int)*b)<(m:Int)/\¬m*(a*b)<=18446744073709551615)\/(¬18446744073709551615/((a:Int)*b)<(m:Int)/\m*(a*b)<=18446744073709551615))):=by
 rcases ed a with h0|h0
 ·left;subst h0;exact⟨rfl,by simp⟩
 ·right
  have hd:(18446744073709551615/(a:Int))=((18446744073709551615/a:Nat):Int):=by rw[Int.natCast_ediv];rfl
  rw[hd];by_cases h1:18446744073709551615/a<b
  ·left
   refine⟨h0,by omega,?_⟩;rw[Nat.div_lt_iff_lt_mul h0,dq]at h1;have:=Nat.le_mul_of_pos_left (a*b) hm;omega
  ·right
   rcases ed b with h2|h2
   ·left;subst h2;exact⟨h0,by omega,rfl,by simp⟩
   ·right
    have h3:a*b<=18446744073709551615:=by
     have:b<=18446744073709551615/a:=by omega
     rw[Nat.le_div_iff_mul_le h0,dq]at this;exact this
    have hab:0<a*b:=Nat.mul_pos h0 h2;have hc:((a:Int)*b)=((a*b:Nat):Int):=(Int.natCast_mul _ _).symm;rw[hc];generalize a*b=q at *;have hd2:(18446744073709551615/(q:Int))=((18446744073709551615/q:Nat):Int):=by rw[Int.natCast_ediv];rfl
    rw[hd2];refine⟨h0,by omega,h2,by rw[IntKind.wrap_u64];omega,by rw[ax];omega,by omega,?_⟩;by_cases h4:18446744073709551615/q<m
    ·left
     refine⟨by omega,?_⟩;rw[Nat.div_lt_iff_lt_mul hab]at h4;omega
    ·right
     refine⟨by omega,?_⟩;have:m<=18446744073709551615/q:=by omega
     rw[Nat.le_div_iff_mul_le hab]at this;exact this
theorem tdv(a b:Nat):IntKind.u64.wrap (Int.tdiv 18446744073709551615 ((a:Int)*b))=18446744073709551615/((a:Int)*b):=by
 rw[Int.tdiv_eq_ediv_of_nonneg (by decide),show((a:Int)*b)=((a*b:Nat):Int)from(Int.natCast_mul _ _).symm];generalize a*b=q;have hd2:(18446744073709551615/(q:Int))=((18446744073709551615/q:Nat):Int):=by rw[Int.natCast_ediv];rfl
 have:=Nat.div_le_self 18446744073709551615 q;rw[hd2,IntKind.wrap_u64];generalize 18446744073709551615/q=r at *;omega
theorem abr(ap at':Option Addr)(m n cp ct:Nat)(A B:Nat->Nat)(size:Int)(hm:m<=100000)(hn:n<=100000)(w:World)(hA:i8 w ap m A w.heap.size)(hB:i8 w at' n B w.heap.size):
 Calls prog 33 #[.slice ap m cp,.slice at' n ct,.int .i64 size] w fun e w'=>e=.returned (.int .i64 (zt m n size (ss A m) (ss B n) m))/\Below w.heap.size w w':=by
 unfold zt;have HA:=aa hA;have HB:=aa hB;clear hA hB;by_cases hsl:(1:Int)<=m/\(m:Int)<=n
 ·rw[if_neg (fun h=>h hsl)]
  have hs:=aa fun w'=>ry m n hsl.1 hsl.2 w'
  have hz:=aa fun w'=>x6 m size w'
  cases hq:vn m size
  ·rw[if_pos rfl]
   rw[hq]at hz;clear hq;go_enter func33,ntmps33;go_wp2_with fail
   refine(hs.out _).mono ?_;rintro e w1⟨rfl,hb1⟩;go_wp2_with fail
   refine(hz.out _).mono ?_;rintro e w2⟨rfl,hb2⟩;go_wp2_with fail
   go_ret;exact⟨rfl,hb1.trans (hb2.mono hb1.size)⟩
  ·rw[if_neg (by decide)]
   rw[hq]at hz;clear hq;have hg1:=aa fun w'(h:i8 w' ap m A w'.heap.size)=>xd ap m cp A hm w' h
   have hg2:=aa fun w'(h:i8 w' at' n B w'.heap.size)=>xd at' n ct B hn w' h
   have hf:=an0 m (ss A m) (ss B n) (by omega);generalize ss A m=a at *;generalize ss B n=b at *;generalize hG:(if m*(a*b)<=18446744073709551615 then(0:Int)else 40)=R;have hmI:(m:Int)<=100000:=by omega
   have hmI0:(0:Int)<=m:=by omega
   have ha0:(0:Int)<=a:=by omega
   have hb0:(0:Int)<=b:=by omega
   rcases hf with⟨rfl,h⟩|⟨h1,h2,h⟩|⟨h1,h2,rfl,h⟩|⟨h1,h2,h3,h4,h5,h6,⟨h7,h⟩|⟨h7,h⟩⟩
   all_goals(first|rw[if_pos h]at hG|rw[if_neg h]at hG)
   all_goals subst hG
   all_goals clear h hsl
   ·go_enter func33,ntmps33
    go_wp2_with fail
    refine(hs.out _).mono ?_;rintro e w1⟨rfl,hb1⟩;go_wp2_with fail
    refine(hz.out _).mono ?_;rintro e w2⟨rfl,hb2⟩;have Hb2:=aa (hb1.trans (hb2.mono hb1.size));clear hb1 hb2;go_wp2_with fail
    refine(hg1.out _ ((HA.out.below Hb2.out ac).mono Hb2.out.size)).mono ?_;rintro e w3⟨rfl,hb3⟩;have Hb3:=aa (Hb2.out.trans (hb3.mono Hb2.out.size));clear hb3 Hb2;go_wp2_with fail
    refine(hg2.out _ ((HB.out.below Hb3.out ac).mono Hb3.out.size)).mono ?_;rintro e w4⟨rfl,hb4⟩;have Hb4:=aa (Hb3.out.trans (hb4.mono Hb3.out.size));clear hb4 Hb3;go_wp2_with fail
    go_ret;exact⟨rfl,Hb4.out⟩
   ·have k1:(1:Int)<=a:=by omega
    have k2:((a:Int)==0)=false:=by rw[ax];omega
    have k3:¬((a:Int)=0):=by omega
    go_enter func33,ntmps33;go_wp2_with fail
    refine(hs.out _).mono ?_;rintro e w1⟨rfl,hb1⟩;go_wp2_with fail
    refine(hz.out _).mono ?_;rintro e w2⟨rfl,hb2⟩;have Hb2:=aa (hb1.trans (hb2.mono hb1.size));clear hb1 hb2;go_wp2_with fail
    refine(hg1.out _ ((HA.out.below Hb2.out ac).mono Hb2.out.size)).mono ?_;rintro e w3⟨rfl,hb3⟩;have Hb3:=aa (Hb2.out.trans (hb3.mono Hb2.out.size));clear hb3 Hb2;go_wp2_with fail
    refine(hg2.out _ ((HB.out.below Hb3.out ac).mono Hb3.out.size)).mono ?_;rintro e w4⟨rfl,hb4⟩;have Hb4:=aa (Hb3.out.trans (hb4.mono Hb3.out.size));clear hb4 Hb3;go_wp2_with fail
    go_ret;exact⟨rfl,Hb4.out⟩
   ·have k1:(1:Int)<=a:=by omega
    have k2:((a:Int)==0)=false:=by rw[ax];omega
    have k3:¬((a:Int)=0):=by omega
    have k4:decide (18446744073709551615/(a:Int)<0)=false:=by simpa using h2
    go_enter func33,ntmps33;go_wp2_with fail
    refine(hs.out _).mono ?_;rintro e w1⟨rfl,hb1⟩;go_wp2_with fail
    refine(hz.out _).mono ?_;rintro e w2⟨rfl,hb2⟩;have Hb2:=aa (hb1.trans (hb2.mono hb1.size));clear hb1 hb2;go_wp2_with fail
    refine(hg1.out _ ((HA.out.below Hb2.out ac).mono Hb2.out.size)).mono ?_;rintro e w3⟨rfl,hb3⟩;have Hb3:=aa (Hb2.out.trans (hb3.mono Hb2.out.size));clear hb3 Hb2;go_wp2_with fail
    refine(hg2.out _ ((HB.out.below Hb3.out ac).mono Hb3.out.size)).mono ?_;rintro e w4⟨rfl,hb4⟩;have Hb4:=aa (Hb3.out.trans (hb4.mono Hb3.out.size));clear hb4 Hb3;go_wp2_with fail
    go_ret;exact⟨rfl,Hb4.out⟩
   ·have k1:(1:Int)<=a:=by omega
    have k6:=tdv a b;have k2:((a:Int)==0)=false:=by rw[ax];omega
    have k3:¬((a:Int)=0):=by omega
    have k4:decide (18446744073709551615/(a:Int)<(b:Int))=false:=by simpa using h2
    go_enter func33,ntmps33;go_wp2_with fail
    refine(hs.out _).mono ?_;rintro e w1⟨rfl,hb1⟩;go_wp2_with fail
    refine(hz.out _).mono ?_;rintro e w2⟨rfl,hb2⟩;have Hb2:=aa (hb1.trans (hb2.mono hb1.size));clear hb1 hb2;go_wp2_with fail
    refine(hg1.out _ ((HA.out.below Hb2.out ac).mono Hb2.out.size)).mono ?_;rintro e w3⟨rfl,hb3⟩;have Hb3:=aa (Hb2.out.trans (hb3.mono Hb2.out.size));clear hb3 Hb2;go_wp2_with fail
    refine(hg2.out _ ((HB.out.below Hb3.out ac).mono Hb3.out.size)).mono ?_;rintro e w4⟨rfl,hb4⟩;have Hb4:=aa (Hb3.out.trans (hb4.mono Hb3.out.size));clear hb4 Hb3;go_wp2_with fail
    go_ret;exact⟨rfl,Hb4.out⟩
   ·have k1:(1:Int)<=a:=by omega
    have k6:=tdv a b;have k2:((a:Int)==0)=false:=by rw[ax];omega
    have k3:¬((a:Int)=0):=by omega
    have k4:decide (18446744073709551615/(a:Int)<(b:Int))=false:=by simpa using h2
    have k5:decide (18446744073709551615/((a:Int)*b)<(m:Int))=false:=by simpa using h7
    go_enter func33,ntmps33;go_wp2_with fail
    refine(hs.out _).mono ?_;rintro e w1⟨rfl,hb1⟩;go_wp2_with fail
    refine(hz.out _).mono ?_;rintro e w2⟨rfl,hb2⟩;have Hb2:=aa (hb1.trans (hb2.mono hb1.size));clear hb1 hb2;go_wp2_with fail
    refine(hg1.out _ ((HA.out.below Hb2.out ac).mono Hb2.out.size)).mono ?_;rintro e w3⟨rfl,hb3⟩;have Hb3:=aa (Hb2.out.trans (hb3.mono Hb2.out.size));clear hb3 Hb2;go_wp2_with fail
    refine(hg2.out _ ((HB.out.below Hb3.out ac).mono Hb3.out.size)).mono ?_;rintro e w4⟨rfl,hb4⟩;have Hb4:=aa (Hb3.out.trans (hb4.mono Hb3.out.size));clear hb4 Hb3;go_wp2_with fail
    go_ret;exact⟨rfl,Hb4.out⟩
 ·rw[if_pos hsl]
  have hs:=aa fun w'=>xz m n hsl w'
  clear hsl;go_enter func33,ntmps33;go_wp2_with fail
  refine(hs.out _).mono ?_;rintro e w1⟨rfl,hb1⟩;go_wp2_with fail
  go_ret;exact⟨rfl,hb1⟩
end
end Go.Proofs.YtjfkmoinldlmaaaGreat
