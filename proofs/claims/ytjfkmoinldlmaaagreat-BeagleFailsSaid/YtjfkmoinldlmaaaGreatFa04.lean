/- The walk of BeagleFails, part 4. Walks of the package class, first part: with, Has, Of, Range, Not, Or, Full: what each returns, whatever it is called with. Walks of the package class, second part: Full, Size, Range, Single. Walk of class.Single. Walk of class.Runs. Walks of the reference's classes, first part: Has, bytes, Make. Walks of the reference classes, second part: Of, Range, Full. Walks of the reference classes, third part: Not, Or. Walks of the reference classes, fourth part: Size, Single. Walk of the reference Runs. -/
import Derived.Test.YtjfkmoinldlmaaaGreatFa02
import Derived.LoopN
namespace Go.Proofs.YtjfkmoinldlmaaaGreat
open Go.Proofs.Tryz
section
set_option maxRecDepth 100000
set_option maxHeartbeats 1000000
open Go.RowKit
theorem aot(S:Nat->Bool)(b:Int)(h0:0<=b)(k:Nat)(hk:b/64=k):
 bits BinOp.or IntKind.u64 (wd S k:Nat) (IntKind.u64.wrap (2^(b%64).toNat))=(wd (upd S b.toNat) k:Nat):=by
 have hm:(b%64).toNat<64:=by omega
 have hp:(2:Nat)^(b%64).toNat<18446744073709551616:=by
  have:(2:Nat)^(b%64).toNat<2^64:=Nat.pow_lt_pow_right (by omega) hm;exact this
 have hw:IntKind.u64.wrap (2^(b%64).toNat)=((2^(b%64).toNat:Nat):Int):=by
  rw[show((2:Int)^(b%64).toNat)=((2^(b%64).toNat:Nat):Int) by rw[Int.natCast_pow];rfl,IntKind.wrap_u64];generalize 2^(b%64).toNat=p at *;omega
 rw[hw,bits_or_u64_nat _ _ (sq S k) hp,aor,if_pos (by omega)];rw[show b.toNat%64=(b%64).toNat by omega]
theorem alh(S:Nat->Bool)(b:Int)(h0:0<=b)(k:Nat)(hk:b/64≠k):((wd (upd S b.toNat) k:Nat):Int)=(wd S k:Nat):=by
 rw[aor,if_neg (by omega)]
theorem aah(S:Nat->Bool)(b:Int)(h0:0<=b)(h1:b<=255)(w:World):
 Calls prog 75 #[cv S,.int .u8 b] w fun e w'=>e=.returned (cv (upd S b.toNat))/\Below w.heap.size w w':=by
 have hB:∀x y:Array Value,Below w.heap.size w ((w.alloc (.cells x 100)).alloc (.cells y 100)):=fun x y=>(ae.alloc ac _).alloc (by simp) _
 have W0:=aa (aot S b h0);have O0:=aa (alh S b h0);have hq:b/64=0\/b/64=1\/b/64=2\/b/64=3:=by omega
 rcases hq with hq|hq|hq|hq
 ·go_enter func75,ntmps75
  go_wp2;exact ay (v:=cv (upd S b.toNat)) (by simp[results,results75,go_sem,W0.out 0 hq,O0.out 1 (by omega),O0.out 2 (by omega),O0.out 3 (by omega)]) rfl ⟨rfl,hB _ _⟩
 ·go_enter func75,ntmps75
  go_wp2;exact ay (v:=cv (upd S b.toNat)) (by simp[results,results75,go_sem,W0.out 1 hq,O0.out 0 (by omega),O0.out 2 (by omega),O0.out 3 (by omega)]) rfl ⟨rfl,hB _ _⟩
 ·go_enter func75,ntmps75
  go_wp2;exact ay (v:=cv (upd S b.toNat)) (by simp[results,results75,go_sem,W0.out 2 hq,O0.out 1 (by omega),O0.out 0 (by omega),O0.out 3 (by omega)]) rfl ⟨rfl,hB _ _⟩
 ·go_enter func75,ntmps75
  go_wp2;exact ay (v:=cv (upd S b.toNat)) (by simp[results,results75,go_sem,W0.out 3 hq,O0.out 1 (by omega),O0.out 2 (by omega),O0.out 0 (by omega)]) rfl ⟨rfl,hB _ _⟩
theorem has_bit(S:Nat->Bool)(b:Int)(h0:0<=b)(k:Nat)(hk:b/64=k):(bits BinOp.and IntKind.u64 ((wd S k:Nat)/2^(b%64).toNat) 1==1)=S b.toNat:=by
 have hlt:=sq S k;have hb:=aos S b.toNat;rw[show b.toNat/64=k by omega,show b.toNat%64=(b%64).toNat by omega]at hb;have e1:((wd S k:Nat):Int)/2^(b%64).toNat=((wd S k/2^(b%64).toNat:Nat):Int):=by
  rw[show((2:Int)^(b%64).toNat)=((2^(b%64).toNat:Nat):Int) by rw[Int.natCast_pow];rfl];rfl
 have hle:wd S k/2^(b%64).toNat<=wd S k:=Nat.div_le_self _ _;rw[e1,show(1:Int)=((1:Nat):Int)from rfl,bits_and_u64_nat _ _ (by omega) (by omega),Nat.and_one_is_mod,hb];cases S b.toNat<;>rfl
theorem xc(S:Nat->Bool)(b:Int)(h0:0<=b)(h1:b<=255)(w:World):
 Calls prog 96 #[cv S,.int .u8 b] w fun e w'=>e=.returned (.bool (S b.toNat))/\Below w.heap.size w w':=by
 have hB:∀x:Array Value,Below w.heap.size w (w.alloc (.cells x 100)):=fun x=>ae.alloc ac _
 have H:=aa (has_bit S b h0);have l0:((wd S 0:Nat):Int)<18446744073709551616:=by have:=sq S 0;omega
 have l1:((wd S 1:Nat):Int)<18446744073709551616:=by have:=sq S 1;omega
 have l2:((wd S 2:Nat):Int)<18446744073709551616:=by have:=sq S 2;omega
 have l3:((wd S 3:Nat):Int)<18446744073709551616:=by have:=sq S 3;omega
 have hq:b/64=0\/b/64=1\/b/64=2\/b/64=3:=by omega
 rcases hq with hq|hq|hq|hq
 ·go_enter func96,ntmps96
  go_wp2;go_ret;exact⟨x8 (congrArg Value.bool (H.out 0 hq)),hB _⟩
 ·go_enter func96,ntmps96
  go_wp2;go_ret;exact⟨x8 (congrArg Value.bool (H.out 1 hq)),hB _⟩
 ·go_enter func96,ntmps96
  go_wp2;go_ret;exact⟨x8 (congrArg Value.bool (H.out 2 hq)),hB _⟩
 ·go_enter func96,ntmps96
  go_wp2;go_ret;exact⟨x8 (congrArg Value.bool (H.out 3 hq)),hB _⟩
theorem aqs(S:Nat->Bool)(k:Nat):bits BinOp.xor IntKind.u64 IntKind.u64.max (wd S k:Nat)=(wd (fun n=> !S n) k:Nat):=by
 rw[show IntKind.u64.max=((18446744073709551615:Nat):Int) by decide,bits_xor_u64_nat _ _ (by omega) (sq S k)];congr 1;apply Nat.eq_of_testBit_eq;intro i;rw[Nat.testBit_xor,io,io,show(18446744073709551615:Nat)=2^64-1 by decide,Nat.testBit_two_pow_sub_one];by_cases hi:i<64<;>simp[hi]
theorem aj5(S:Nat->Bool)(w:World):
 Calls prog 151 #[cv S] w fun e w'=>e=.returned (cv (fun n=> !S n))/\Below w.heap.size w w':=by
 have hB:∀x y:Array Value,Below w.heap.size w ((w.alloc (.cells x 100)).alloc (.cells y 100)):=fun x y=>(ae.alloc ac _).alloc (by simp) _
 have H:=aa (aqs S);go_enter func151,ntmps151;go_wp2;refine du 5 ?_;rw[cj];go_wp2;rw[cj];go_wp2;rw[cj];go_wp2;rw[cj];go_wp2;rw[cj];go_wp2;exact ay (v:=cv (fun n=> !S n)) (by simp[results,results151,go_sem,H.out]) rfl ⟨rfl,hB _ _⟩
theorem or_word(S T:Nat->Bool)(k:Nat):bits BinOp.or IntKind.u64 (wd S k:Nat) (wd T k:Nat)=(wd (fun n=>S n||T n) k:Nat):=by
 rw[bits_or_u64_nat _ _ (sq S k) (sq T k),wd_or]
theorem ads(S T:Nat->Bool)(w:World):
 Calls prog 237 #[cv S,cv T] w fun e w'=>e=.returned (cv (fun n=>S n||T n))/\Below w.heap.size w w':=by
 have H:=aa (or_word S T);go_enter func237,ntmps237;go_wp2;refine du 5 ?_;rw[cj];go_wp2;go_region;go_wp2;rw[cj];go_wp2;go_region;go_wp2;rw[cj];go_wp2;go_region;go_wp2;rw[cj];go_wp2;go_region;go_wp2;rw[cj];go_wp2;refine ay (v:=cv (fun n=>S n||T n)) (by simp[results,results237,go_sem,H.out]) rfl ⟨rfl,?_⟩;exact(((((((ae.alloc ac _).alloc (by simp) _).alloc (by simp;omega) _).drew).drew).drew).drew)
def kq(s:ByteArray)(k:Nat)(n:Nat):Bool:=(s.data.toList.take k).any fun c=>c.toNat==n
theorem ae1(s:ByteArray):kq s 0=fu:=by funext n;simp[kq,fu]
theorem ae2(s:ByteArray)(k:Nat)(h:k<s.size):upd (kq s k) s[k].toNat=kq s (k+1):=by
 funext n;unfold upd kq;rw[da (by simpa using h),List.any_append];simp only[List.any_cons,List.any_nil,Bool.or_false];congr 1;rw[Bool.eq_iff_iff];simp only[beq_iff_eq];exact⟨fun h=>h.symm,fun h=>h.symm⟩
theorem aid(s:ByteArray)(hs:s.size<=140737488351232)(w:World):
 Calls prog 43 #[.string s] w fun e w'=>e=.returned (cv (kq s s.size))/\Below w.heap.size w w':=by
 go_enter func43,ntmps43;go_wp2;obtain⟨W0,hW0⟩:∃W0:World,((w.alloc (Obj.cells #[Value.int IntKind.u64 0,Value.int IntKind.u64 0,Value.int IntKind.u64 0,Value.int IntKind.u64 0] 100)).alloc (Obj.cells #[Value.int IntKind.u64 0,Value.int IntKind.u64 0,Value.int IntKind.u64 0,Value.int IntKind.u64 0] 100))=W0:=⟨_,rfl⟩;have H1:fc W0 w.heap.size fu:=by subst hW0;exact(fc.new0 w).alloc _
 have H2:fc W0 (w.heap.size+1) fu:=by subst hW0;have:=fc.new0 (w.alloc (Obj.cells #[Value.int IntKind.u64 0,Value.int IntKind.u64 0,Value.int IntKind.u64 0,Value.int IntKind.u64 0] 100));rwa[bg]at this
 have HB:Below w.heap.size w W0:=by subst hW0;exact(ae.alloc ac _).alloc (by simp) _
 rw[hW0];clear hW0;go_loopw[7] (fun i wr=>∃k:Nat,k<=s.size/\i=.int .i64 k/\fc wr (w.heap.size+1) (kq s k)/\Below (w.heap.size+1) W0 wr) (fun i _=>s.size-(intOf i).toNat)
 case atStart=>exact⟨0,cx _,rfl,by rw[ae1];exact H2,ae⟩
 case round=>
  obtain⟨k,hk,rfl,hc,hb⟩:=hrel;have hc':=aa hc;obtain⟨⟨c0,c1,c2,c3⟩,⟨f0,f1,f2,f3⟩,hl⟩:=hc;by_cases hlt:k<s.size
  ·have hby:((s[k].toNat:Nat):Int)<=255:=by have:=s[k].toNat_lt;omega
   go_wp2_with fail
   go_region_with(go_at_call 75;refine(aah _ _ (by omega) (by omega) _).mono ?_;rintro e w1⟨rfl,hb1⟩;obtain⟨hc1,hf1,hz1,-⟩:=fo.calld (fo.refl _) hb1)
   all_goals
    go_wp2;go_roundw
    case rel=>
     have hc1':fc w1 (w.heap.size+1) (kq s k):=hc'.out.below (fo.calld (fo.refl wr) hb1).2.2.2 hl;refine⟨k+1,by omega,by go_num,?_,?_⟩
     ·rw[<-ae2 s k hlt]
      exact hc1'.set _
     ·exact jg ((hb.trans ((fo.calld (fo.refl wr) hb1).2.2.2.mono (by omega)))) ac _
    case measure=>simp[intOf];omega
  ·obtain rfl:k=s.size:=by omega
   have hr:=H1.below hb (by omega);have hr':=aa hr;obtain⟨⟨d0,d1,d2,d3⟩,⟨g0,g1,g2,g3⟩,gl⟩:=hr;go_wp2;have hfin:=hr'.out.set (kq s s.size);obtain⟨⟨e0,e1,e2,e3⟩,-,-⟩:=hfin;exact ay (v:=cv (kq s s.size)) (by simp[results,results43,go_sem,e0,e1,e2,e3]) rfl ⟨rfl,jg (HB.trans (hb.mono (by omega))) ac _⟩
end
section
set_option maxRecDepth 100000
set_option maxHeartbeats 1000000
open Go.RowKit
theorem cv0:cv fu=.agg #[.int .u64 0,.int .u64 0,.int .u64 0,.int .u64 0]:=by
 unfold cv;simp only[je];rfl
theorem aqv(w:World):
 Calls prog 151 #[.agg #[.int .u64 0,.int .u64 0,.int .u64 0,.int .u64 0]] w fun e w'=>e=.returned (cv (fun _=>true))/\Below w.heap.size w w':=by
 have h:=aj5 fu w;rw[cv0]at h;exact h
theorem tm(w:World):
 Calls prog 93 #[] w fun e w'=>e=.returned (cv (fun _=>true))/\Below w.heap.size w w':=by
 go_enter func93,ntmps93;go_wp2_with(go_at_call 151;refine(aqv _).mono ?_;rintro e w1⟨rfl,hb1⟩;have hcl:=(fc.new0 w).below hb1 (by simp);have hcl':=aa hcl;obtain⟨⟨c0,c1,c2,c3⟩,⟨f0,f1,f2,f3⟩,hl⟩:=hcl)
 obtain⟨⟨e0,e1,e2,e3⟩,-,-⟩:=hcl'.out.set (fun _=>true);exact ay (v:=cv (fun _=>true)) (by simp[results,results93,go_sem,e0,e1,e2,e3]) rfl ⟨rfl,jg (((aw _ w).alloc ac _).trans (hb1.mono (by simp))) ac _⟩
def vm(f k:Nat):Nat->Bool:=fun n=>decide (f<=n)&&decide (n<k)
def ez(f t:Nat):Nat->Bool:=fun n=>decide (f<=n)&&decide (n<=t)
theorem ab9(f:Nat):vm f f=fu:=by
 funext n;unfold vm fu;rw[Bool.and_eq_false_iff,dw,dw];omega
theorem ab8(f k:Nat)(h:f<=k):upd (vm f k) k=vm f (k+1):=by
 funext n;unfold vm upd;rw[Bool.eq_iff_iff];simp only[Bool.or_eq_true,ce,cg,beq_iff_eq];omega
theorem aex(f t k:Nat)(h:t<k)(h2:k=f\/k=t+1):vm f k=ez f t:=by
 funext n;unfold vm ez;rw[Bool.eq_iff_iff];simp only[ce,cg];omega
theorem aci(f t:Int)(hf:0<=f)(hf2:f<=255)(ht:0<=t)(ht2:t<=255)(w:World):
 Calls prog 238 #[.int .u8 f,.int .u8 t] w fun e w'=>e=.returned (cv (ez f.toNat t.toNat))/\Below w.heap.size w w':=by
 obtain⟨f,rfl⟩:=eu hf;obtain⟨t,rfl⟩:=eu ht;simp only[Int.toNat_natCast];go_enter func238,ntmps238;go_wp2;obtain⟨W0,hW0⟩:∃W0:World,((w.alloc (Obj.cells #[Value.int IntKind.u64 0,Value.int IntKind.u64 0,Value.int IntKind.u64 0,Value.int IntKind.u64 0] 100)).alloc (Obj.cells #[Value.int IntKind.u64 0,Value.int IntKind.u64 0,Value.int IntKind.u64 0,Value.int IntKind.u64 0] 100))=W0:=⟨_,rfl⟩;have H1:fc W0 w.heap.size fu:=by subst hW0;exact(fc.new0 w).alloc _
 have H2:fc W0 (w.heap.size+1) fu:=by subst hW0;have:=fc.new0 (w.alloc (Obj.cells #[Value.int IntKind.u64 0,Value.int IntKind.u64 0,Value.int IntKind.u64 0,Value.int IntKind.u64 0] 100));rwa[bg]at this
 have HB:Below w.heap.size w W0:=by subst hW0;exact(ae.alloc ac _).alloc (by simp) _
 rw[hW0];clear hW0;go_loopw[6] (fun i wr=>∃k:Nat,f<=k/\k<=256/\i=.int .i64 k/\Hid (k=f\/k<=t+1)/\fc wr (w.heap.size+1) (vm f k)/\Below (w.heap.size+1) W0 wr) (fun i _=>256-(intOf i).toNat)
 case atStart=>exact⟨f,by omega,by omega,rfl,Or.inl rfl,by rw[ab9];exact H2,ae⟩
 case round=>
  obtain⟨k,hk1,hk2,rfl,HK,hc,hb⟩:=hrel;have hc':=aa hc;obtain⟨⟨c0,c1,c2,c3⟩,⟨f0,f1,f2,f3⟩,hl⟩:=hc;by_cases hlt:k<=t
  ·go_wp2_with(go_at_call 75;refine(aah _ _ (by omega) (by omega) _).mono ?_;rintro e w1⟨rfl,hb1⟩;obtain⟨hc1,hf1,hz1,-⟩:=fo.of hb1)
   have hc1':fc w1 (w.heap.size+1) (vm f k):=hc'.out.below hb1 hl;refine⟨⟨k+1,by omega,by omega,by go_num,Or.inr (by omega),?_,?_⟩,by simp[intOf];omega⟩
   ·rw[<-ab8 f k hk1]
    exact hc1'.set _
   ·exact jg (hb.trans (hb1.mono (by omega))) ac _
  ·have hend:=aex f t k (by omega) (by rcases HK.out with h|h<;>omega)
   have HE:=aa hend;clear hend;have hr:=H1.below hb (by omega);have hr':=aa hr;obtain⟨⟨d0,d1,d2,d3⟩,⟨g0,g1,g2,g3⟩,gl⟩:=hr;go_wp2;rw[<-HE.out];have hfin:=hr'.out.set (vm f k);obtain⟨⟨e0,e1,e2,e3⟩,-,-⟩:=hfin;exact ay (v:=cv (vm f k)) (by simp[results,results238,go_sem,e0,e1,e2,e3]) rfl ⟨rfl,jg (HB.trans (hb.mono (by omega))) ac _⟩
end
section
set_option maxRecDepth 100000
set_option maxHeartbeats 1000000
open Go.RowKit
theorem ab6(b:Int)(h0:0<=b)(h1:b<=255)(w:World):
 Calls prog 75 #[.agg #[.int .u64 0,.int .u64 0,.int .u64 0,.int .u64 0],.int .u8 b] w fun e w'=>e=.returned (cv (upd fu b.toNat))/\Below w.heap.size w w':=by
 have h:=aah fu b h0 h1 w;rw[cv0]at h;exact h
def sgl(S:Nat->Bool):Nat:=if one S then first S else 0
theorem ajp{S:Nat->Bool}(h:one S=true):sgl S=first S:=by unfold sgl;rw[if_pos h]
theorem ao8{S:Nat->Bool}(h:one S=false):sgl S=0:=by unfold sgl;rw[if_neg (by simp[h])]
theorem one_eq(S:Nat->Bool)(k:Nat)(hk:first S=k)(hl:k<256):fj S (upd fu k)=one S:=by
 rw[Bool.eq_iff_iff,jp];unfold one;rw[cg,wt,hk];constructor
 ·intro h
  exact⟨hl,fun n hn=>by rw[h n hn];simp[upd,fu]⟩
 ·intro h n hn
  rw[h.2 n hn];simp[upd,fu]
theorem aqm(S:Nat->Bool)(h:first S=256):one S=false:=by
 unfold one;rw[dw,wt];omega
theorem m7(S:Nat->Bool)(w:World):
 Calls prog 177 #[cv S] w fun e w'=>e=.returned (.tuple #[.int .u8 (sgl S),.bool (one S)])/\Below w.heap.size w w':=by
 go_enter func177,ntmps177;go_wp2;have H0:=fc.new w S;obtain⟨W0,hW0⟩:∃W0:World,w.alloc (.cells #[.int .u64 (wd S 0:Nat),.int .u64 (wd S 1:Nat),.int .u64 (wd S 2:Nat),.int .u64 (wd S 3:Nat)] 100)=W0:=⟨_,rfl⟩;have HB:Below w.heap.size w W0:=by subst hW0;exact ae.alloc ac _
 have hsz:w.heap.size+1<=W0.heap.size:=by subst hW0;simp
 rw[hW0]at H0⊢;clear hW0;go_loopw[6] (fun i wr=>∃k:Nat,k<=256/\i=.int .i64 k/\Hid (∀n,n<k->S n=false)/\Below (w.heap.size+1) W0 wr) (fun i _=>256-(intOf i).toNat)
 case atStart=>exact⟨0,by omega,rfl,fun n hn=>absurd hn (by omega),ae⟩
 case round=>
  obtain⟨k,hk,rfl,hno,hb⟩:=hrel;have hc:=H0.below hb (by omega);obtain⟨⟨c0,c1,c2,c3⟩,⟨f0,f1,f2,f3⟩,hl⟩:=hc;by_cases hlt:k<256
  ·cases HS:S k
   ·go_wp2_with(go_at_call 96;refine(xc S _ (by omega) (by omega) _).mono ?_;rintro e w1⟨rfl,hb1⟩;obtain⟨hc1,hf1,hz1,-⟩:=fo.of hb1)
    refine⟨⟨k+1,by omega,by go_num,fun n hn=>?_,hb.trans (hb1.mono (by omega))⟩,by simp[intOf];omega⟩;by_cases he:n=k
    ·subst he;exact HS
    ·exact hno.out n (by omega)
   ·have hfirst:first S=k:=agd S k hk (fun _=>HS) hno.out
    have ho:=one_eq S k hfirst hlt;have HF:=aa hfirst;clear hfirst;cases hone:one S
    ·have HO:=aa hone
     rw[hone]at ho;clear hone;go_wp2_with(go_at_call 96;refine(xc S _ (by omega) (by omega) _).mono ?_;rintro e w1⟨rfl,hb1⟩;obtain⟨hc1,hf1,hz1,-⟩:=fo.of hb1;have hl1:w.heap.size<w1.heap.size:=by omega)
     have hwk:IntKind.u8.wrap (k:Int)=k:=IntWalk.u8_in _ (by omega);go_region_held3 (fun w'=>fo w1 w') (first|exact fo.start _|exact fo.calld (fo.refl _) (by assumption)|exact fo.call (by assumption) (by assumption)) (first|(go_at_call 75;refine(ab6 _ (by omega) (by omega) _).mono ?_;rintro e w2⟨rfl,hb2⟩))
     go_wp2;go_ret2
     exact⟨by rw[ao8 HO.out,HO.out];rfl,HB.trans (((hb.trans (hb1.mono (by omega))).trans ((fo.calld (fo.refl w1) hb2).2.2.2.mono (by omega))).mono (by omega))⟩
    ·have HO:=aa hone
     rw[hone]at ho;clear hone;go_wp2_with(go_at_call 96;refine(xc S _ (by omega) (by omega) _).mono ?_;rintro e w1⟨rfl,hb1⟩;obtain⟨hc1,hf1,hz1,-⟩:=fo.of hb1;have hl1:w.heap.size<w1.heap.size:=by omega)
     have hwk:IntKind.u8.wrap (k:Int)=k:=IntWalk.u8_in _ (by omega);go_region_held3 (fun w'=>fo w1 w') (first|exact fo.start _|exact fo.calld (fo.refl _) (by assumption)|exact fo.call (by assumption) (by assumption)) (first|(go_at_call 75;refine(ab6 _ (by omega) (by omega) _).mono ?_;rintro e w2⟨rfl,hb2⟩))
     go_wp2;go_ret2
     exact⟨by rw[ajp HO.out,HO.out,HF.out];rfl,HB.trans (((hb.trans (hb1.mono (by omega))).trans ((fo.calld (fo.refl w1) hb2).2.2.2.mono (by omega))).mono (by omega))⟩
  ·have hfirst:first S=256:=agd S 256 (by omega) (fun h=>absurd h (by omega)) (fun i hi=>hno.out i (by omega))
   have ho:=aqm S hfirst;have HO:=aa ho;clear ho hfirst;go_wp2;go_ret2
   exact⟨by rw[ao8 HO.out,HO.out];rfl,HB.trans (hb.mono (by omega))⟩
end
section
set_option maxRecDepth 100000
set_option maxHeartbeats 2000000
open Go.RowKit
theorem aai(S:Nat->Bool)(k m:Nat)(hm:m<64):(wd S k/2^m)%2=if S (64*k+m)then 1 else 0:=by
 have h:=aos S (64*k+m);rw[show(64*k+m)/64=k by omega,show(64*k+m)%64=m by omega]at h;exact h
theorem afg(S:Nat->Bool)(b:Int)(h0:0<=b)(h1:b<=255)(w:World):
 Calls prog 173 #[cv S,.int .u8 b] w fun e w'=>e=.returned (.bool (S b.toNat))/\Below w.heap.size w w':=by
 obtain⟨b,rfl⟩:=eu h0;simp only[Int.toNat_natCast];obtain⟨q,hq⟩:∃q:Nat,q=b/64:=⟨_,rfl⟩;obtain⟨r,hr⟩:∃r:Nat,r=b%64:=⟨_,rfl⟩;have e1:((b:Nat):Int)/64=(q:Nat):=by omega
 have e2:((b:Nat):Int)%64=(r:Nat):=by omega
 have hc:(w.alloc (.cells #[.int .u64 (wd S 0:Nat),.int .u64 (wd S 1:Nat),.int .u64 (wd S 2:Nat),.int .u64 (wd S 3:Nat)] 100)).cell? ⟨w.heap.size,q,none⟩=some (.int .u64 (wd S q:Nat)):=by
  have:q=0\/q=1\/q=2\/q=3:=by omega
  rcases this with h|h|h|h<;>subst h<;>simp[go_sem]
 have hbit:=aai S q r (by omega);rw[show 64*q+r=b by omega]at hbit;have HB:=aa hbit;have hw:=sq S q;have hrl:r<64:=by omega
 clear hbit hq hr;obtain⟨x,hx⟩:∃x,x=wd S q:=⟨_,rfl⟩;rw[<-hx]at hc HB hw;clear hx;go_enter func173,ntmps173;go_wp2;go_loop [5,6] (fun v i=>∃k y:Nat,k<=r/\i=.int .i64 k/\v=.int .u64 y/\y<=18446744073709551615/\Hid (y=x/2^k)) (fun _ i=>64-(intOf i).toNat)
 case atStart=>exact⟨0,x,by omega,rfl,rfl,by omega,by show x=x/2^0;simp⟩
 case round=>
  obtain⟨k,y,hk,rfl,rfl,hy,HY⟩:=hrel;by_cases hlt:k<r
  ·go_wp2
   refine⟨⟨k+1,y/2,by omega,by go_num,by go_num,by omega,?_⟩,by simp[intOf];omega⟩;show y/2=x/2^(k+1);rw[HY.out,Nat.div_div_eq_div_mul,Nat.pow_succ]
  ·obtain rfl:k=r:=by omega
   go_wp2;go_ret;refine⟨x8 (congrArg Value.bool ?_),ae.alloc ac _⟩;have h:=HB.out;rw[<-HY.out]at h;cases hs:S b
   ·rw[hs]at h
    simp at h;simp;omega
   ·rw[hs]at h
    simp at h;simp;omega
def bls(S:Nat->Bool)(n:Nat):List Value:=(List.range n).map fun i=>.bool (S i)
theorem ash(S:Nat->Bool)(n:Nat):bls S (n+1)=bls S n++[.bool (S n)]:=by simp[bls,List.range_succ]
theorem bls_at(S:Nat->Bool)(n i:Nat)(h:i<n):(bls S n)[i]?=some (.bool (S i)):=by simp[bls,h]
theorem an5(S:Nat->Bool)(w:World):
 Calls prog 235 #[cv S] w fun e w'=>∃v,e=.returned v/\w'.ownsRow (w.heap.size+1) 4 1 v 256 (bls S 256)/\Below w.heap.size w w':=by
 go_enter func235,ntmps235;go_wp2;have H0:=fc.new w S;obtain⟨W0,hW0⟩:∃W0:World,w.alloc (.cells #[.int .u64 (wd S 0:Nat),.int .u64 (wd S 1:Nat),.int .u64 (wd S 2:Nat),.int .u64 (wd S 3:Nat)] 100)=W0:=⟨_,rfl⟩;have HB:Below w.heap.size w W0:=by subst hW0;exact ae.alloc ac _
 have hsz:w.heap.size+1<=W0.heap.size:=by subst hW0;simp
 rw[hW0]at H0⊢;clear hW0;go_loopw[3,4] (fun v i wr=>∃k:Nat,k<=256/\i=.int .i64 k/\wr.ownsRow (w.heap.size+1) 4 1 v k (bls S k)/\Below (w.heap.size+1) W0 wr) (fun _ i _=>256-(intOf i).toNat)
 case atStart=>exact⟨0,by omega,rfl,bj _ _ _ _,ae⟩
 case round=>
  obtain⟨k,hk,rfl,hown,hb⟩:=hrel;have hc:=H0.below hb (by omega);obtain⟨⟨c0,c1,c2,c3⟩,⟨f0,f1,f2,f3⟩,hl⟩:=hc;by_cases hlt:k<256
  ·go_wp2_with(first|(go_at_call 173;refine(afg S _ (by omega) (by omega) _).mono ?_;rintro e w1⟨rfl,hb1⟩;obtain⟨hc1,hf1,hz1,-⟩:=fo.of hb1)|(at_builtin;refine gj elem112 rfl _ _ rfl rfl (fe hown hb1) [.bool (S k)] rfl rfl (by simp[Value.oneCell']) (by unfold maxLen;omega) (by omega) (by omega) ?_;intro v3 w3 hown3 hb3))
   rw[<-ash]at hown3;exact⟨⟨k+1,by omega,by go_num,hown3,(hb.trans (hb1.mono (by omega))).trans hb3⟩,by simp[intOf];omega⟩
  ·obtain rfl:k=256:=by omega
   go_wp2;go_ret;exact⟨u3,rfl,hown,HB.trans (hb.mono (by omega))⟩
def aaz(S:Nat->Bool)(k q:Nat):Nat:=if q<k then wd S q else 0
structure nh(w:World)(B:Nat)(S:Nat->Bool)(k:Nat)(except:Nat):Prop where
 cells:∀q,q<4->q≠except->w.cell? ⟨B,q,none⟩=some (.int .u64 (aaz S k q:Nat))
 free:∀q,q<4->w.frozen? ⟨B,q,none⟩=false
 lt:B<w.heap.size
theorem nh.set{w:World}{B k:Nat}{S:Nat->Bool}(h:nh w B S k k)(v:Value):nh (w.setCell ⟨B,k,none⟩ v) B S k k where
 cells q hq hne:=by
  rw[bh _ _ _ _ (by intro e;cases e;exact hne rfl)];exact h.cells q hq hne
 free q hq:=by rw[de];exact h.free q hq
 lt:=by simpa using h.lt
theorem nh.next{w:World}{B k:Nat}{S:Nat->Bool}(h:nh w B S k k)(hc:w.cell? ⟨B,k,none⟩=some (.int .u64 (wd S k:Nat))):nh w B S (k+1) 4 where
 cells q hq _:=by
  by_cases he:q=k
  ·subst he;rw[hc];simp[aaz]
  ·rw[h.cells q hq he]
   unfold aaz;by_cases hl:q<k
   ·rw[if_pos hl,if_pos (by omega)]
   ·rw[if_neg hl,if_neg (by omega)]
 free:=h.free
 lt:=h.lt
theorem nh.done{w:World}{B:Nat}{S:Nat->Bool}(h:nh w B S 4 4):fc w B S:=by
 have hc:=fun q hq=>h.cells q hq (by omega)
 have e:∀q,q<4->aaz S 4 q=wd S q:=fun q hq=>by unfold aaz;rw[if_pos hq]
 refine⟨⟨?_,?_,?_,?_⟩,⟨h.free 0 (by omega),h.free 1 (by omega),h.free 2 (by omega),h.free 3 (by omega)⟩,h.lt⟩
 ·rw[hc 0 (by omega),e 0 (by omega)]
 ·rw[hc 1 (by omega),e 1 (by omega)]
 ·rw[hc 2 (by omega),e 2 (by omega)]
 ·rw[hc 3 (by omega),e 3 (by omega)]
theorem nh.start{w:World}{B:Nat}{S:Nat->Bool}(h:fc w B fu):nh w B S 0 4:=by
 obtain⟨⟨c0,c1,c2,c3⟩,⟨f0,f1,f2,f3⟩,hl⟩:=h;rw[je]at c0 c1 c2 c3;refine⟨fun q hq _=>?_,fun q hq=>?_,hl⟩
 ·have:q=0\/q=1\/q=2\/q=3:=by omega
  rcases this with rfl|rfl|rfl|rfl<;>simpa[aaz]
 ·have:q=0\/q=1\/q=2\/q=3:=by omega
  rcases this with rfl|rfl|rfl|rfl<;>assumption
theorem am4(S:Nat->Bool)(k m:Nat)(hm:m<64):wd S k/2^m=2*(wd S k/2^(m+1))+(if S (64*k+m)then 1 else 0):=by
 rw[<-aai S k m hm,Nat.pow_succ,<-Nat.div_div_eq_div_mul];omega
theorem aa6(S:Nat->Bool)(g cap:Nat)(w:World)(hg:g<w.heap.size)(hs:∀j,j<256->w.cell? ⟨g,j,none⟩=some (.bool (S j))):
 Calls prog 226 #[.slice (some ⟨g,0,none⟩) 256 cap] w fun e w'=>e=.returned (cv S)/\Below w.heap.size w w':=by
 have HS:=aa hs;clear hs;go_enter func226,ntmps226;go_wp2;obtain⟨W0,hW0⟩:∃W0:World,((w.alloc (Obj.cells #[Value.int IntKind.u64 0,Value.int IntKind.u64 0,Value.int IntKind.u64 0,Value.int IntKind.u64 0] 100)).alloc (Obj.cells #[Value.int IntKind.u64 0,Value.int IntKind.u64 0,Value.int IntKind.u64 0,Value.int IntKind.u64 0] 100))=W0:=⟨_,rfl⟩;have H1:fc W0 w.heap.size fu:=by subst hW0;exact(fc.new0 w).alloc _
 have H2:fc W0 (w.heap.size+1) fu:=by subst hW0;have:=fc.new0 (w.alloc (Obj.cells #[Value.int IntKind.u64 0,Value.int IntKind.u64 0,Value.int IntKind.u64 0,Value.int IntKind.u64 0] 100));rwa[bg]at this
 have HB:Below w.heap.size w W0:=by subst hW0;exact(ae.alloc ac _).alloc (by simp) _
 rw[hW0];clear hW0;go_loopw[4] (fun i wr=>∃k:Nat,k<=4/\i=.int .i64 k/\nh wr (w.heap.size+1) S k 4/\Below (w.heap.size+1) W0 wr) (fun i _=>4-(intOf i).toNat)
 case atStart=>exact⟨0,by omega,rfl,nh.start H2,ae⟩
 case round=>
  obtain⟨k,hk,rfl,hmk,hb⟩:=hrel;by_cases hlt:k<4
  ·go_wp2
   go_loopw[5] (fun i wr=>∃z:Int,-1<=z/\z<=63/\i=.int .i64 z/\nh wr (w.heap.size+1) S k k/\wr.cell? ⟨w.heap.size+1,k,none⟩=some (.int .u64 (wd S k/2^(z+1).toNat:Nat))/\Below (w.heap.size+1) W0 wr) (fun i _=>(intOf i+1).toNat)
   case atStart=>
    refine⟨63,by omega,by omega,rfl,⟨fun q hq _=>hmk.cells q hq (by omega),hmk.free,hmk.lt⟩,?_,hb⟩;rw[hmk.cells k hlt (by omega),show(63+1:Int).toNat=64 from rfl,Nat.div_eq_of_lt (show wd S k<2^64 from ag7 S k 64)];simp[aaz]
   case round=>
    obtain⟨z,hz1,hz2,rfl,hmk1,hcell,hb1⟩:=hrel;by_cases hz:0<=z
    ·obtain⟨m,rfl⟩:=eu hz
     have hgne:¬g=w.heap.size+1:=by omega
     have hread:wr.cell? ⟨g,64*k+m,none⟩=some (.bool (S (64*k+m))):=by
      rw[<-HS.out (64*k+m) (by omega)];exact((HB.trans (hb1.mono (by omega))).cell (p:=⟨g,64*k+m,none⟩) hg)
     have hstep:=am4 S k m (by omega);have hwl:=sq S k;have hdl:wd S k/2^m<=wd S k:=Nat.div_le_self _ _;obtain⟨x,hx⟩:∃x,x=wd S k/2^(m+1):=⟨_,rfl⟩;rw[show((m:Int)+1).toNat=m+1 by omega,<-hx]at hcell;rw[<-hx]at hstep;have hx2:2*(x:Int)<=18446744073709551615:=by omega
     have hfr:=hmk1.free k hlt;have hll:=hmk1.lt;have HM:=aa hmk1;have HX:=aa hstep;have HC:=aa hcell;clear hmk1 hstep hx hdl;cases hS:S (64*k+m)
     ·rw[hS]at hread
      have HSS:=aa hS;clear hS;go_wp2;have hv:((wd S k/2^((m:Int)-1+1).toNat:Nat):Int)=2*(x:Int):=by
       have h:=HX.out;rw[HSS.out]at h;rw[show((m:Int)-1+1).toNat=m by omega,h];simp
      refine⟨⟨(m:Int)-1,by omega,by omega,by go_num,HM.out.set _,?_,hb1.setCell ac _⟩,by simp[intOf]⟩;rw[hv];exact di _ _ _ (by rw[hcell];rfl)
     ·rw[hS]at hread
      have HSS:=aa hS;clear hS;have hx3:2*(x:Int)+1<=18446744073709551615:=by have:=HX.out;rw[HSS.out]at this;simp at this;omega
      go_wp2;have hv:((wd S k/2^((m:Int)-1+1).toNat:Nat):Int)=2*(x:Int)+1:=by
       have h:=HX.out;rw[HSS.out]at h;rw[show((m:Int)-1+1).toNat=m by omega,h];simp
      refine⟨⟨(m:Int)-1,by omega,by omega,by go_num,(HM.out.set _).set _,?_,(hb1.setCell ac _).setCell ac _⟩,by simp[intOf]⟩;rw[hv];exact di _ _ _ (by rw[di _ _ _ (by rw[hcell];rfl)];rfl)
    ·obtain rfl:z= -1:=by omega
     have hcell':wr.cell? ⟨w.heap.size+1,k,none⟩=some (.int .u64 (wd S k:Nat)):=by rw[hcell];simp
     have HM:=aa hmk1;have HC:=aa hcell';clear hmk1 hcell hcell';go_wp2;exact⟨⟨k+1,by omega,by go_num,HM.out.next HC.out,hb1⟩,by simp[intOf];omega⟩
  ·obtain rfl:k=4:=by omega
   have hr:=H1.below hb (by omega);have hr':=aa hr;obtain⟨⟨d0,d1,d2,d3⟩,⟨g0,g1,g2,g3⟩,gl⟩:=hr;obtain⟨⟨c0,c1,c2,c3⟩,⟨f0,f1,f2,f3⟩,hl⟩:=hmk.done;go_wp2;obtain⟨⟨e0,e1,e2,e3⟩,-,-⟩:=hr'.out.set S;exact ay (v:=cv S) (by simp[results,results226,go_sem,e0,e1,e2,e3]) rfl ⟨rfl,jg (HB.trans (hb.mono (by omega))) ac _⟩
end
section
set_option maxRecDepth 100000
set_option maxHeartbeats 1000000
open Go.RowKit
theorem oa{w:World}{base:Nat}{e:TypeId}{size n:Nat}{v:Value}{xs:List Value}(h:w.ownsRow base e size v n xs)(hn:0<n):∃g cap,v=.slice (some ⟨g,0,none⟩) n cap/\base<=g/\g<w.heap.size:=by
 have hl:=h.lt;rcases h.2 with⟨_,h1⟩|⟨g,cap,cur,hv,hg,_⟩
 ·omega
 ·exact⟨g,cap,hv,hg,(hl g (by rw[hv];rfl)).2⟩
structure iy(w:World)(g:Nat)(S:Nat->Bool):Prop where
 cells:∀j,j<256->w.cell? ⟨g,j,none⟩=some (.bool (S j))
 free:∀j,j<256->w.frozen? ⟨g,j,none⟩=false
 lt:g<w.heap.size
theorem iy.below{w w':World}{g n:Nat}{S:Nat->Bool}(h:iy w g S)(hb:Below n w w')(hg:g<n):iy w' g S where
 cells j hj:=(hb.cell (p:=⟨g,j,none⟩) hg).trans (h.cells j hj)
 free j hj:=(hb.frozen (p:=⟨g,j,none⟩) hg).trans (h.free j hj)
 lt:=az h.lt hb.size
theorem iy.congr{w:World}{g:Nat}{S T:Nat->Bool}(h:iy w g S)(he:∀j,j<256->S j=T j):iy w g T where
 cells j hj:=by rw[h.cells j hj,he j hj]
 free:=h.free
 lt:=h.lt
theorem iy.set{w:World}{g:Nat}{S:Nat->Bool}(h:iy w g S)(i:Nat)(hi:i<256)(b:Bool):iy (w.setCell ⟨g,i,none⟩ (.bool b)) g (fun n=>if n=i then b else S n)where
 cells j hj:=by
  by_cases he:j=i
  ·subst he
   rw[di _ _ _ (by rw[h.cells j hj];rfl),if_pos rfl]
  ·rw[bh _ _ _ _ (by intro e;cases e;exact he rfl),h.cells j hj,if_neg he]
 free j hj:=by rw[de];exact h.free j hj
 lt:=by simpa using h.lt
theorem iy.of_own{w:World}{g cap base:Nat}{S:Nat->Bool}(h:w.ownsRow base 4 1 (.slice (some ⟨g,0,none⟩) 256 cap) 256 (bls S 256)):iy w g S where
 cells j hj:=by rw[h.cellAt j (by omega),bls_at S 256 j hj]
 free j _:=h.frozenAt j
 lt:=(h.lt g rfl).2
def afv:Array Value:=madeCells #[.bool false] 256
theorem make256(w:World):(Instr.makeSlice 112 (.int .i64 256) (.int .i64 256)).run prog w=.ok (.slice (some ⟨w.heap.size,0,none⟩) 256 256) (w.alloc (.cells afv 4)):=by
 obtain⟨i,hi,h1,h2,h3⟩:=info_parts (P:=prog) (show(prog.info? 4).map (fun i=>(i.zero,i.size,i.bytes))=some (some (.bool false),1,1)from by kernel_rfl);have h:=run_make (P:=prog) w 112 4 i (.bool false) underlying112 hi h1 .i64 .i64 256 256 (by omega) (by omega) (by rw[h3];omega) (by omega);rw[h2]at h;exact h
theorem iy.new(w:World):iy (w.alloc (.cells afv 4)) w.heap.size fu where
 cells j hj:=by
  rw[World.cell?_alloc_new];have:afv.toList[j]?=some (.bool false):=by
   unfold afv;rw[toList_madeCells_one];rw[List.getElem?_replicate,if_pos hj]
  rw[<-Array.getElem?_toList,this];rfl
 free j _:=World.frozen?_alloc_new _ _ _ _
 lt:=by simp
theorem r7(S:Nat->Bool)(w:World):
 Calls prog 235 #[cv S] w fun e w'=>∃g cap,e=.returned (.slice (some ⟨g,0,none⟩) 256 cap)/\w.heap.size<g/\iy w' g S/\Below w.heap.size w w':=
 (an5 S w).mono fun e w' ⟨v,he,ho,hb⟩=>by
  obtain⟨g,cap,hv,hg,_⟩:=oa ho (by omega);subst hv;exact⟨g,cap,he,hg,.of_own ho,hb⟩
theorem m8(f t:Int)(hf:0<=f)(hf2:f<=255)(ht:0<=t)(ht2:t<=255)(w:World):
 Calls prog 203 #[.int .u8 f,.int .u8 t] w fun e w'=>e=.returned (cv (ez f.toNat t.toNat))/\Below w.heap.size w w':=by
 obtain⟨f,rfl⟩:=eu hf;obtain⟨t,rfl⟩:=eu ht;simp only[Int.toNat_natCast];have hmk:=make256;go_enter func203,ntmps203;go_wp2;clear hmk;obtain⟨W0,hW0⟩:∃W0:World,((w.alloc (Obj.cells #[Value.int IntKind.u64 0,Value.int IntKind.u64 0,Value.int IntKind.u64 0,Value.int IntKind.u64 0] 100)).alloc (Obj.cells afv 4))=W0:=⟨_,rfl⟩;have H1:fc W0 w.heap.size fu:=by subst hW0;exact(fc.new0 w).alloc _
 have H2:iy W0 (w.heap.size+1) fu:=by subst hW0;have:=iy.new (w.alloc (Obj.cells #[Value.int IntKind.u64 0,Value.int IntKind.u64 0,Value.int IntKind.u64 0,Value.int IntKind.u64 0] 100));rwa[bg]at this
 have HB:Below w.heap.size w W0:=by subst hW0;exact(ae.alloc ac _).alloc (by simp) _
 rw[hW0];clear hW0;go_loopw[6] (fun i wr=>∃k:Nat,f<=k/\k<=256/\i=.int .i64 k/\Hid (k=f\/k<=t+1)/\iy wr (w.heap.size+1) (vm f k)/\Below (w.heap.size+1) W0 wr) (fun i _=>256-(intOf i).toNat)
 case atStart=>exact⟨f,by omega,by omega,rfl,Or.inl rfl,by rw[ab9];exact H2,ae⟩
 case round=>
  obtain⟨k,hk1,hk2,rfl,HK,hbl,hb⟩:=hrel;by_cases hlt:k<=t
  ·have hby:k<256:=by omega
   have hcell:=hbl.cells _ hby;have hfree:=hbl.free _ hby;have hll:=hbl.lt;go_wp2;refine⟨⟨k+1,by omega,by omega,by go_num,Or.inr (by omega),?_,hb.setCell ac _⟩,by simp[intOf];omega⟩;refine(hbl.set k hby true).congr fun j hj=>?_
   rw[<-ab8 f k hk1];unfold upd;by_cases he:j=k<;>simp[he]
  ·have hend:=aex f t k (by omega) (by rcases HK.out with h|h<;>omega)
   have HE:=aa hend;clear hend;have hr:=H1.below hb (by omega);have hr':=aa hr;obtain⟨⟨d0,d1,d2,d3⟩,⟨g0,g1,g2,g3⟩,gl⟩:=hr;go_wp2_with(go_at_call 226;refine(aa6 (vm f k) _ _ _ hbl.lt hbl.cells).mono ?_;rintro e w1⟨rfl,hb1⟩;obtain⟨hc1,hf1,hz1,-⟩:=fo.of hb1)
   rw[<-HE.out];obtain⟨⟨e0,e1,e2,e3⟩,-,-⟩:=(hr'.out.below hb1 gl).set (vm f k);exact ay (v:=cv (vm f k)) (by simp[results,results203,go_sem,e0,e1,e2,e3]) rfl ⟨rfl,jg ((HB.trans (hb.mono (by omega))).trans (hb1.mono (by omega))) ac _⟩
theorem amg:cv (ez 0 255)=cv (fun _=>true):=agi fun n hn=>by unfold ez;simp;omega
theorem al8(w:World):
 Calls prog 199 #[] w fun e w'=>e=.returned (cv (fun _=>true))/\Below w.heap.size w w':=by
 rw[<-amg];go_enter func199,ntmps199;go_wp2_with(go_at_call 203;refine(m8 0 255 (by omega) (by omega) (by omega) (by omega) _).mono ?_;rintro e w1⟨rfl,hb1⟩;have hcl:=(fc.new0 w).below hb1 (by simp);have hcl':=aa hcl;obtain⟨⟨c0,c1,c2,c3⟩,⟨f0,f1,f2,f3⟩,hl⟩:=hcl)
 obtain⟨⟨e0,e1,e2,e3⟩,-,-⟩:=hcl'.out.set (ez 0 255);exact ay (v:=cv (ez 0 255)) (by simp[results,results199,go_sem,e0,e1,e2,e3]) rfl ⟨rfl,jg (((aw _ w).alloc ac _).trans (hb1.mono (by simp))) ac _⟩
end
section
set_option maxRecDepth 100000
set_option maxHeartbeats 1000000
open Go.RowKit
def aj6(S:Nat->Bool)(k:Nat):Nat->Bool:=fun n=>if n<k then !S n else S n
def adt(S T:Nat->Bool)(k:Nat):Nat->Bool:=fun n=>if n<k then S n||T n else S n
theorem apq(S:Nat->Bool)(w:World):
 Calls prog 223 #[cv S] w fun e w'=>e=.returned (cv (fun n=> !S n))/\Below w.heap.size w w':=by
 go_enter func223,ntmps223;go_wp2_with fail
 have H0:=fc.new w S;obtain⟨W0,hW0⟩:∃W0:World,((w.alloc (.cells #[.int .u64 (wd S 0:Nat),.int .u64 (wd S 1:Nat),.int .u64 (wd S 2:Nat),.int .u64 (wd S 3:Nat)] 100)).alloc (Obj.cells #[Value.int IntKind.u64 0,Value.int IntKind.u64 0,Value.int IntKind.u64 0,Value.int IntKind.u64 0] 100))=W0:=⟨_,rfl⟩;have H1:fc W0 (w.heap.size+1) fu:=by subst hW0;have:=fc.new0 (w.alloc (.cells #[.int .u64 (wd S 0:Nat),.int .u64 (wd S 1:Nat),.int .u64 (wd S 2:Nat),.int .u64 (wd S 3:Nat)] 100));rwa[bg]at this
 have HB:Below w.heap.size w W0:=by subst hW0;exact(ae.alloc ac _).alloc (by simp) _
 have hsz:w.heap.size+2<=W0.heap.size:=by subst hW0;simp
 rw[hW0];clear hW0;go_wp2_with(go_at_call 235;refine(r7 S _).mono ?_;rintro e w1⟨g,cap,rfl,hg,hbl,hb1⟩)
 go_loopw[4] (fun i wr=>∃k:Nat,k<=256/\i=.int .i64 k/\iy wr g (aj6 S k)/\Below W0.heap.size W0 wr) (fun i _=>256-(intOf i).toNat)
 case atStart=>exact⟨0,by omega,rfl,hbl.congr fun j _=>by simp[aj6],hb1⟩
 case round=>
  obtain⟨k,hk,rfl,hbl,hb⟩:=hrel;by_cases hlt:k<256
  ·have hcell:=hbl.cells k hlt
   have hfree:=hbl.free k hlt;have hll:=hbl.lt;go_wp2;refine⟨⟨k+1,by omega,by go_num,(hbl.set k hlt _).congr fun j hj=>?_,hb.setCell (by simp;omega) _⟩,by simp[intOf];omega⟩;unfold aj6;by_cases he:j=k
   ·subst he;simp
   ·by_cases hl:j<k
    ·simp[he,hl,Nat.lt_succ_of_lt hl]
    ·have:¬j<k+1:=by omega
     simp[he,hl,this]
  ·obtain rfl:k=256:=by omega
   have hr:=H1.below hb (by omega);have hr':=aa hr;obtain⟨⟨d0,d1,d2,d3⟩,⟨g0,g1,g2,g3⟩,gl⟩:=hr;have hbl':=hbl.congr (T:=fun n=> !S n) fun j hj=>by simp[aj6,hj]
   go_wp2_with(go_at_call 226;refine(aa6 (fun n=> !S n) _ _ _ hbl'.lt hbl'.cells).mono ?_;rintro e w2⟨rfl,hb2⟩;obtain⟨hc1,hf1,hz1,-⟩:=fo.of hb2)
   obtain⟨⟨e0,e1,e2,e3⟩,-,-⟩:=(hr'.out.below hb2 gl).set (fun n=> !S n);exact ay (v:=cv (fun n=> !S n)) (by simp[results,results223,go_sem,e0,e1,e2,e3]) rfl ⟨rfl,jg ((HB.trans (hb.mono (by omega))).trans (hb2.mono (by have:=hb.size;omega))) (by omega) _⟩
theorem amv(S T:Nat->Bool)(k:Nat)(j:Nat):(if j=k then(S k||T k)else adt S T k j)=adt S T (k+1) j:=by
 unfold adt;by_cases he:j=k
 ·subst he;simp
 ·by_cases hl:j<k
  ·simp[he,hl,Nat.lt_succ_of_lt hl]
  ·have:¬j<k+1:=by omega
   simp[he,hl,this]
theorem ror_any(S T:Nat->Bool)(w:World):
 Calls prog 222 #[cv S,cv T] w fun e w'=>e=.returned (cv (fun n=>S n||T n))/\Below w.heap.size w w':=by
 go_enter func222,ntmps222;go_wp2_with fail
 obtain⟨Wa,hWa⟩:∃Wa:World,w.alloc (.cells #[.int .u64 (wd S 0:Nat),.int .u64 (wd S 1:Nat),.int .u64 (wd S 2:Nat),.int .u64 (wd S 3:Nat)] 100)=Wa:=⟨_,rfl⟩;have hBa:Below w.heap.size w Wa:=by subst hWa;exact ae.alloc ac _
 have hsa:Wa.heap.size=w.heap.size+1:=by subst hWa;simp
 obtain⟨W0,hW0⟩:∃W0:World,((Wa.alloc (.cells #[.int .u64 (wd T 0:Nat),.int .u64 (wd T 1:Nat),.int .u64 (wd T 2:Nat),.int .u64 (wd T 3:Nat)] 100)).alloc (Obj.cells #[Value.int IntKind.u64 0,Value.int IntKind.u64 0,Value.int IntKind.u64 0,Value.int IntKind.u64 0] 100))=W0:=⟨_,rfl⟩;have HT:fc W0 (w.heap.size+1) T:=by subst hW0;rw[<-hsa];exact(fc.new Wa T).alloc _
 have H1:fc W0 (w.heap.size+2) fu:=by subst hW0;have:=fc.new0 (Wa.alloc (.cells #[.int .u64 (wd T 0:Nat),.int .u64 (wd T 1:Nat),.int .u64 (wd T 2:Nat),.int .u64 (wd T 3:Nat)] 100));rwa[bg,hsa]at this
 have HB:Below w.heap.size w W0:=by subst hW0;exact hBa.trans ((ae.alloc (by omega) _).alloc (by simp;omega) _)
 have hsz:w.heap.size+3<=W0.heap.size:=by subst hW0;simp;omega
 rw[hWa,hW0];clear hWa hW0 hsa hBa;have HT1:=aa HT;have HH:=aa H1;clear HT H1;go_wp2_with fail
 refine(r7 S _).mono ?_;rintro e w1⟨g,cap,rfl,hg,hbl,hb1⟩;have hT:=HT1.out.below hb1 (by omega);obtain⟨⟨c0,c1,c2,c3⟩,-,-⟩:=hT;go_wp2_with fail
 refine(r7 T _).mono ?_;rintro e w2⟨g2,cap2,rfl,hg2,hbl2,hb2⟩;have hgl:=hbl.lt;have HX:=hbl.below hb2 (by omega);have hb02:Below W0.heap.size W0 w2:=hb1.trans (hb2.mono hb1.size);clear hbl c0 c1 c2 c3 hb1 hb2;go_wp2_with fail
 go_loopw[7] (fun i wr=>∃k:Nat,k<=256/\i=.int .i64 k/\iy wr g (adt S T k)/\iy wr g2 T/\Below W0.heap.size W0 wr) (fun i _=>256-(intOf i).toNat)
 case atStart=>exact⟨0,by omega,rfl,HX.congr fun j _=>by simp[adt],hbl2,hb02⟩
 case round=>
  obtain⟨k,hk,rfl,hbl,hblT,hb⟩:=hrel;by_cases hlt:k<256
  ·have hgg:¬g2=g:=by omega
   have hcell:=hbl.cells k hlt;have hfree:=hbl.free k hlt;have hll:=hbl.lt;have hcellT:=hblT.cells k hlt;have hS:adt S T k k=S k:=by simp[adt]
   rw[hS]at hcell;have HL:=aa (hbl.set k hlt (S k||T k));have HT2:=aa hblT;clear hbl hblT hS;have hnext:∀b,(S k||T k)=b->(∃k':Nat,k'<=256/\Value.int .i64 ((k:Int)+1)=.int .i64 k'/\iy (wr.setCell ⟨g,k,none⟩ (.bool b)) g (adt S T k')/\iy (wr.setCell ⟨g,k,none⟩ (.bool b)) g2 T/\Below W0.heap.size W0 (wr.setCell ⟨g,k,none⟩ (.bool b))):=by
    rintro b rfl;refine⟨k+1,by omega,by go_num,HL.out.congr fun j _=>amv S T k j,?_,hb.setCell (by simp;omega) _⟩;refine⟨fun j hj=>?_,fun j hj=>?_,by simpa using HT2.out.lt⟩
    ·rw[bh _ _ _ _ (by intro e;cases e;exact hgg rfl)];exact HT2.out.cells j hj
    ·rw[de];exact HT2.out.free j hj
   have HN:=aa hnext;clear hnext;cases hsk:S k
   ·rw[hsk]at hcell
    go_wp2;exact⟨HN.out _ (by rw[hsk];simp),by simp[intOf];omega⟩
   ·rw[hsk]at hcell
    go_wp2;exact⟨HN.out _ (by rw[hsk];simp),by simp[intOf];omega⟩
  ·obtain rfl:k=256:=by omega
   have hr:=HH.out.below hb (by omega);have hr':=aa hr;obtain⟨⟨d0,d1,d2,d3⟩,⟨g0,g1,g2',g3⟩,gl⟩:=hr;have hbl':=hbl.congr (T:=fun n=>S n||T n) fun j hj=>by simp[adt,hj]
   go_wp2_with(go_at_call 226;refine(aa6 (fun n=>S n||T n) _ _ _ hbl'.lt hbl'.cells).mono ?_;rintro e w3⟨rfl,hb3⟩;obtain⟨hc1,hf1,hz1,-⟩:=fo.of hb3)
   obtain⟨⟨e0,e1,e2,e3⟩,-,-⟩:=(hr'.out.below hb3 gl).set (fun n=>S n||T n);exact ay (v:=cv (fun n=>S n||T n)) (by simp[results,results222,go_sem,e0,e1,e2,e3]) rfl ⟨rfl,jg ((HB.trans (hb.mono (by omega))).trans (hb3.mono (by have:=hb.size;omega))) (by omega) _⟩
end
section
set_option maxRecDepth 100000
set_option maxHeartbeats 1000000
open Go.RowKit
theorem yc{S:Nat->Bool}{k:Nat}:j0 S (k+1)=j0 S k+(if S k then 1 else 0):=rfl
theorem ui(S:Nat->Bool)(w:World):
 Calls prog 218 #[cv S] w fun e w'=>e=.returned (.int .i64 (nt S))/\Below w.heap.size w w':=by
 go_enter func218,ntmps218;go_wp2_with fail
 refine(r7 S _).mono ?_;rintro e w1⟨g,cap,rfl,hg,hbl,hb1⟩;have hb:Below w.heap.size w w1:=(ae.alloc ac _).trans (hb1.mono (by simp));clear hb1;go_wp2;go_loop [3,5] (fun n i=>∃k m:Nat,k<=256/\m<=256/\i=.int .i64 k/\n=.int .i64 m/\Hid (m=j0 S k)) (fun _ i=>256-(intOf i).toNat)
 case atStart=>exact⟨0,0,by omega,by omega,rfl,rfl,rfl⟩
 case round=>
  obtain⟨k,m,hk,hm,rfl,rfl,HM⟩:=hrel;by_cases hlt:k<256
  ·have hcell:=hbl.cells k hlt
   have hle:=ur S (k+1);cases hS:S k
   ·rw[hS]at hcell
    go_wp2;exact⟨⟨k+1,m,by omega,by omega,by go_num,rfl,show m=_ by rw[yc,hS];simpa using HM.out⟩,by simp[intOf];omega⟩
   ·rw[hS]at hcell
    have hm1:m+1<=256:=by have:=HM.out;rw[yc,hS]at hle;simp at hle;omega
    go_wp2;exact⟨⟨k+1,m+1,by omega,by omega,by go_num,by go_num,show m+1=_ by rw[yc,hS,<-HM.out];rfl⟩,by simp[intOf];omega⟩
  ·obtain rfl:k=256:=by omega
   go_wp2;go_ret;exact⟨by rw[show nt S=m from HM.out.symm];rfl,hb⟩
end
section
open Go.RowKit
theorem fx{w:World}{base base':Nat}{e:TypeId}{size n:Nat}{v:Value}{xs:List Value}(h:w.ownsRow base e size v n xs)(hb:base'<=base):w.ownsRow base' e size v n xs:=by
 refine⟨h.1,?_⟩;rcases h.2 with h2|⟨g,cap,cur,hv,hg,r⟩
 ·exact Or.inl h2
 ·exact Or.inr ⟨g,cap,cur,hv,ba hb hg,r⟩
end
end Go.Proofs.YtjfkmoinldlmaaaGreat
