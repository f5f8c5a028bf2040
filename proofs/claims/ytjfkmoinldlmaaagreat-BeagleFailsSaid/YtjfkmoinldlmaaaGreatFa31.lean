/- The walk of BeagleFails, part 31. Walks of the scanner at any text: an escape, a byte. Walks of the scanner at any text: an escape that is right, a byte, a byte of a class. A scope with a label that is jumped back to, and one that is jumped forward to. Plain: the leaves of the trees that nodes are joined to. -/
import Derived.Test.YtjfkmoinldlmaaaGreatFa30
namespace Go.Proofs.YtjfkmoinldlmaaaGreat
open Go.Proofs.Tryz
section
set_option maxRecDepth 100000
set_option maxHeartbeats 4000000
open Go.RowKit Go.Shelf
theorem aki:∀b:Nat,b<256->decide (0<=Lib.indexByte [92,34,63,91,93,45,94] ((b:Int).toNat.toUInt8))=zr [92,34,63,91,93,45,94] b:=by decide+kernel
theorem af4:∀b:Nat,b<256->decide (0<=Lib.indexByte [92,34,91,93,45,94] ((b:Int).toNat.toUInt8))=zr [92,34,91,93,45,94] b:=by decide+kernel
theorem akh:∀b:Nat,b<256->Lib.indexByte [48,49,50,51,52,53,54,55,56,57,97,98,99,100,101,102] ((b:Int).toNat.toUInt8)=(if ku b<16 then(ku b:Int)else -1):=by decide+kernel
theorem ark:∀b:Nat,b<256->Lib.indexByte [40,41,38,124,33,62,126] ((b:Int).toNat.toUInt8)=(j3 b:Int)-1:=by decide+kernel
theorem akj(b:Nat)(hb:b<=255)(h:ku b<16)(w:World):Calls prog 205 #[.string ⟨#[48,49,50,51,52,53,54,55,56,57,97,98,99,100,101,102]⟩,.int .u8 (b:Nat)] w fun e w'=>e=.returned (.int .i64 (ku b:Nat))/\w'=w:=by
 have k:=qa ⟨#[48,49,50,51,52,53,54,55,56,57,97,98,99,100,101,102]⟩ b w;rwa[akh b (by omega),if_pos h]at k
theorem aeg(s:ByteArray)(l:List Nat)(hl:∀b:Nat,b<256->decide (0<=Lib.indexByte s.data.toList ((b:Int).toNat.toUInt8))=zr l b)(b:Nat)(hb:b<=255)(w:World):
 Calls prog 205 #[.string s,.int .u8 (b:Nat)] w fun e w'=>∃I:Int,e=.returned (.int .i64 I)/\decide (0<=I)=zr l b/\w'=w:=by
 refine(qa s b w).mono ?_;rintro e w'⟨rfl,rfl⟩;exact⟨_,rfl,hl b (by omega),rfl⟩
theorem oh(s:ByteArray)(k:Nat):(s.extract k s.size).size=s.size-k:=by simp
theorem uq(s:ByteArray)(k i:Nat)(h:i<(s.extract k s.size).size):(s.extract k s.size)[i].toNat=tb s (k+i):=by
 have h2:k+i<s.size:=by simp at h;omega
 rw[ByteArray.getElem_extract,ia s (k+i) h2]
theorem ar1(s:ByteArray)(k:Nat)(h:s.size<=k):(s.extract k s.size).toList.isEmpty=true:=vg _ (by rw[oh];omega)
theorem agf(s:ByteArray)(k:Nat)(h:k<s.size):(s.extract k s.size).toList.isEmpty=false:=sg _ (by rw[oh];omega)
def kd(b:Nat):Int:=if ku b<16 then(ku b:Int)else -1
theorem akk(b:Nat)(hb:b<=255)(w:World):Calls prog 205 #[.string ⟨#[48,49,50,51,52,53,54,55,56,57,97,98,99,100,101,102]⟩,.int .u8 (b:Nat)] w fun e w'=>e=.returned (.int .i64 (kd b))/\w'=w:=by
 have k:=qa ⟨#[48,49,50,51,52,53,54,55,56,57,97,98,99,100,101,102]⟩ b w;rwa[akh b (by omega)]at k
theorem ann(C:Nat)(s:ByteArray)(p:Nat)(hs:s.size<=1000)(hp:p<s.size)(h:sh s p=none)(w:World)(hC:At w C (mj s p 0)):
 Calls prog 239 #[.pointer (some ⟨C,0,none⟩)] w fun e w'=>e=.returned (.int .u8 0)/\Ex [C] w w'/\At w' C (mj s p 131):=by
 have h6:=aa fun w' h=>i9 C s p 0 p 131 w' h
 have HC:=aa hC;have c0:=hC.cell 0;have c1:=hC.cell 1;have cl:=hC.lt;simp only[ak,am,au]at c0 c1;have hsi:(s.size:Int)<=1000:=by omega
 have hpi:(p:Int)<s.size:=by omega
 clear hC;by_cases hp1:p+1<s.size
 ·have e0:((s.extract (p+1) s.size)[0]'(by rw[oh];omega)).toNat=tb s (p+1):=uq s (p+1) 0 _
  have hne:=agf s (p+1) hp1;have hin:zr [92,34,63,91,93,45,94] (tb s (p+1))=false:=by
   unfold sh at h;cases hq:zr [92,34,63,91,93,45,94] (tb s (p+1))with
   |false=>rfl
   |true=>rw[if_pos ⟨hp1,hq⟩]at h;cases h
  have h5:=aa fun w'=>aeg ⟨#[92,34,63,91,93,45,94]⟩ _ aki (tb s (p+1)) (jq s _) w'
  have Hin:=aa hin;have hl0:(0:Int)<((s.size-(p+1):Nat):Int):=by omega
  clear hin;by_cases hp3:p+3<s.size/\tb s (p+1)=120
  ·obtain⟨hp3,hx⟩:=hp3
   have hl2:(2:Int)<((s.size-(p+1):Nat):Int):=by omega
   have hl1:(1:Int)<((s.size-(p+1):Nat):Int):=by omega
   have e1:((s.extract (p+1) s.size)[1]'(by rw[oh];omega)).toNat=tb s (p+2):=uq s (p+1) 1 _;have e2:((s.extract (p+1) s.size)[2]'(by rw[oh];omega)).toNat=tb s (p+3):=uq s (p+1) 2 _;have hxi:((tb s (p+1):Int)==120)=true:=by rw[hx];rfl
   have h7:=aa fun w'=>akk (tb s (p+2)) (jq s _) w'
   have h8:=aa fun w'=>akk (tb s (p+3)) (jq s _) w'
   have hno:¬(ku (tb s (p+2))<16/\ku (tb s (p+3))<16):=by
    intro hh;unfold sh at h;rw[if_neg (by rw[Hin.out];simp),if_pos ⟨hp3,hx,hh⟩]at h;cases h
   have hq:¬(0<=kd (tb s (p+2))/\0<=kd (tb s (p+3))):=by
    rintro⟨q1,q2⟩;refine hno ⟨?_,?_⟩
    ·by_cases k:ku (tb s (p+2))<16
     ·exact k
     ·unfold kd at q1;rw[if_neg k]at q1;omega
    ·by_cases k:ku (tb s (p+3))<16
     ·exact k
     ·unfold kd at q2;rw[if_neg k]at q2;omega
   clear hno hx h;generalize tb s (p+1)=b1 at *;generalize tb s (p+2)=b2 at *;generalize tb s (p+3)=b3 at *;generalize kd b2=I2 at *;generalize kd b3=I3 at *;by_cases q1:0<=I2
   ·have q2:¬0<=I3:=fun k=>hq ⟨q1,k⟩
    clear hq;go_enter func239,ntmps239;go_wp2_with(go_at_call 205;refine(h5.out _).mono ?_;rintro e w'⟨I,rfl,hI,rfl⟩;have hI0:¬(0:Int)<=I:=of_decide_eq_false (hI.trans Hin.out);clear hI)
    go_quiet((first|(go_at_call 205;with_reducible exact Calls.quiet_of_same (h7.out _))|(go_at_call 205;with_reducible exact Calls.quiet_of_same (h8.out _))))
    go_wp2_with(go_at_call 206;refine(h6.out _ (HC.out.drewN _)).mono ?_;rintro e w2⟨rfl,he2,hC2⟩)
    go_ret;exact⟨rfl,((Ex.of (S:=[C]) (cu ae _)).trans he2).mono (by intro x hx;left;simpa using hx),hC2⟩
   ·clear hq
    go_enter func239,ntmps239;go_wp2_with(go_at_call 205;refine(h5.out _).mono ?_;rintro e w'⟨I,rfl,hI,rfl⟩;have hI0:¬(0:Int)<=I:=of_decide_eq_false (hI.trans Hin.out);clear hI)
    go_quiet((first|(go_at_call 205;with_reducible exact Calls.quiet_of_same (h7.out _))|(go_at_call 205;with_reducible exact Calls.quiet_of_same (h8.out _))))
    go_wp2_with(go_at_call 206;refine(h6.out _ (HC.out.drewN _)).mono ?_;rintro e w2⟨rfl,he2,hC2⟩)
    go_ret;exact⟨rfl,((Ex.of (S:=[C]) (cu ae _)).trans he2).mono (by intro x hx;left;simpa using hx),hC2⟩
  ·clear h
   generalize tb s (p+1)=b1 at *;by_cases hl:(2:Int)<((s.size-(p+1):Nat):Int)
   ·have hxi:((b1:Int)==120)=false:=by rw[ax];intro k;exact hp3 ⟨by omega,by omega⟩
    clear hp3;go_enter func239,ntmps239;go_wp2_with(first|(go_at_call 205;refine(h5.out _).mono ?_;rintro e w'⟨I,rfl,hI,rfl⟩;have hI0:¬(0:Int)<=I:=of_decide_eq_false (hI.trans Hin.out);clear hI)|(go_at_call 206;refine(h6.out _ HC.out).mono ?_;rintro e w2⟨rfl,he2,hC2⟩))
    go_ret;exact⟨rfl,he2,hC2⟩
   ·clear hp3
    go_enter func239,ntmps239;go_wp2_with(first|(go_at_call 205;refine(h5.out _).mono ?_;rintro e w'⟨I,rfl,hI,rfl⟩;have hI0:¬(0:Int)<=I:=of_decide_eq_false (hI.trans Hin.out);clear hI)|(go_at_call 206;refine(h6.out _ HC.out).mono ?_;rintro e w2⟨rfl,he2,hC2⟩))
    go_ret;exact⟨rfl,he2,hC2⟩
 ·have hne:=ar1 s (p+1) (by omega)
  have hl2:¬(2:Int)<((s.size-(p+1):Nat):Int):=by omega
  clear h;go_enter func239,ntmps239;go_wp2_with(first|(go_at_call 206;refine(h6.out _ HC.out).mono ?_;rintro e w2⟨rfl,he2,hC2⟩))
  go_ret;exact⟨rfl,he2,hC2⟩
end
section
set_option maxRecDepth 100000
set_option maxHeartbeats 4000000
open Go.RowKit Go.Shelf
theorem ai4(C:Nat)(s:ByteArray)(p b q:Nat)(hs:s.size<=1000)(h:sh s p=some (b,q))(w:World)(hC:At w C (mj s p 0)):
 Calls prog 239 #[.pointer (some ⟨C,0,none⟩)] w fun e w'=>e=.returned (.int .u8 (b:Nat))/\Ex [C] w w'/\At w' C (mj s (q:Nat) 0):=by
 have HC:=aa hC;have c0:=hC.cell 0;have c1:=hC.cell 1;have fz:=hC.free 1;have cl:=hC.lt;simp only[ak,am,au]at c0 c1;have hsi:(s.size:Int)<=1000:=by omega
 have hp1:p+1<s.size:=by
  unfold sh at h;split at h
  ·omega
  ·split at h
   ·omega
   ·cases h
 have hpi:(p:Int)<s.size:=by omega
 have e0:((s.extract (p+1) s.size)[0]'(by rw[oh];omega)).toNat=tb s (p+1):=uq s (p+1) 0 _;have hne:=agf s (p+1) hp1;have h5:=aa fun w'=>aeg ⟨#[92,34,63,91,93,45,94]⟩ _ aki (tb s (p+1)) (jq s _) w'
 have hl0:(0:Int)<((s.size-(p+1):Nat):Int):=by omega
 clear hC;cases hin:zr [92,34,63,91,93,45,94] (tb s (p+1))with
 |true=>
  have Hin:=aa hin;unfold sh at h;rw[if_pos ⟨hp1,hin⟩]at h;cases h;clear hin;generalize tb s (p+1)=b1 at *;go_enter func239,ntmps239;go_wp2_with(go_at_call 205;refine(h5.out _).mono ?_;rintro e w'⟨I,rfl,hI,rfl⟩;have hI0:(0:Int)<=I:=of_decide_eq_true (hI.trans Hin.out);clear hI)
  go_ret;exact⟨rfl,(Ex.refl [C] _).set C 1 _ (by simp),HC.out.set 1 _⟩
 |false=>
  have Hin:=aa hin;unfold sh at h;rw[if_neg (by rw[hin];simp)]at h;split at h
  ·next hh=>
   cases h;obtain⟨hp3,hx,k1,k2⟩:=hh;have hl2:(2:Int)<((s.size-(p+1):Nat):Int):=by omega
   have hl1:(1:Int)<((s.size-(p+1):Nat):Int):=by omega
   have e1:((s.extract (p+1) s.size)[1]'(by rw[oh];omega)).toNat=tb s (p+2):=uq s (p+1) 1 _;have e2:((s.extract (p+1) s.size)[2]'(by rw[oh];omega)).toNat=tb s (p+3):=uq s (p+1) 2 _;have hxi:((tb s (p+1):Int)==120)=true:=by rw[hx];rfl
   have h7:=aa fun w'=>akj (tb s (p+2)) (jq s _) k1 w'
   have h8:=aa fun w'=>akj (tb s (p+3)) (jq s _) k2 w'
   have i1:(ku (tb s (p+2)):Int)<=15:=by omega
   have i2:(ku (tb s (p+3)):Int)<=15:=by omega
   have hpj:(p:Int)+4<=2000:=by omega
   clear hx hin k1 k2;generalize tb s (p+1)=b1 at *;generalize tb s (p+2)=b2 at *;generalize tb s (p+3)=b3 at *;generalize ku b2=I2 at *;generalize ku b3=I3 at *;have z1:(0:Int)<=I2:=by omega
   have z2:(0:Int)<=I3:=by omega
   go_enter func239,ntmps239;go_wp2_with(go_at_call 205;refine(h5.out _).mono ?_;rintro e w'⟨I,rfl,hI,rfl⟩;have hI0:¬(0:Int)<=I:=of_decide_eq_false (hI.trans Hin.out);clear hI)
   go_quiet((first|(go_at_call 205;with_reducible exact Calls.quiet_of_same (h7.out _))|(go_at_call 205;with_reducible exact Calls.quiet_of_same (h8.out _))))
   go_wp2_with fail
   go_ret;refine⟨?_,(Ex.of (S:=[C]) (cu ae _)).set C 1 _ (by simp),(HC.out.drewN _).set 1 _⟩;exact x8 (by rw[show((16*I2+I3:Nat):Int)=16*(I2:Int)+I3 by omega];first|rfl|(congr 1;rw[IntKind.wrap_u8];omega))
  ·cases h
theorem aj4(l:List Nat)(s:ByteArray)(p:Nat):pz (92::l) s p=pz l s p:=by
 unfold pz;by_cases h:tb s p=92
 ·rw[if_pos h,if_pos h]
 ·rw[if_neg h,if_neg h]
  have:zr (92::l) (tb s p)=zr l (tb s p):=by
   unfold zr;rw[List.any_cons,show((92:Nat)==tb s p)=false by rw[ax];omega,Bool.false_or]
  rw[this]
theorem aqn(C:Nat)(s:ByteArray)(p:Nat)(hs:s.size<=1000)(hp:p<s.size)(A:ByteArray)(l:List Nat)(hA:∀b:Nat,b<256->decide (0<=Lib.indexByte A.data.toList ((b:Int).toNat.toUInt8))=zr l b)(no:Int)(h0:0<no)(h2:no<200)(h:pz l s p=none)(w:World)(hC:At w C (mj s p 0)):
 Calls prog 228 #[.pointer (some ⟨C,0,none⟩),.string A,.int .i64 no] w fun e w'=>e=.returned (.int .u8 0)/\Ex [C] w w'/\lu w' C s:=by
 have h6:=aa fun w' h=>i9 C s p 0 p no w' h
 have HC:=aa hC;have c0:=hC.cell 0;have c1:=hC.cell 1;have cl:=hC.lt;simp only[ak,am,au]at c0 c1;have hsi:(s.size:Int)<=1000:=by omega
 have hpi:(p:Int)<s.size:=by omega
 have hb:s[p].toNat=tb s p:=ia s p hp;have hbad:Hid (∀w',At w' C (mj s p no)->lu w' C s):=aa fun w' h=>⟨p,no,h,⟨by omega,by omega⟩,h0,h2⟩
 have hbad2:Hid (∀w',At w' C (mj s p 131)->lu w' C s):=aa fun w' h=>⟨p,131,h,⟨by omega,by omega⟩,by decide,by decide⟩
 clear hC h0 h2;by_cases h92:tb s p=92
 ·have hq:sh s p=none:=by unfold pz at h;rwa[if_pos h92]at h
  have h9:=aa fun w' h=>ann C s p hs hp hq w' h
  have hi:((tb s p:Int)==92)=true:=by rw[h92];rfl
  clear h hq h92;generalize tb s p=b at *;go_enter func228,ntmps228;go_wp2_with fail
  go_quiet(fail)
  go_wp2_with(go_at_call 239;refine(h9.out _ (HC.out.drewN _)).mono ?_;rintro e w2⟨rfl,he2,hC2⟩)
  go_ret;exact⟨rfl,((Ex.of (S:=[C]) (cu ae _)).trans he2).mono (by intro x hx;left;simpa using hx),hbad2.out _ hC2⟩
 ·have hi:((tb s p:Int)==92)=false:=by rw[ax];omega
  have hle:=jq s p;have h240y:=fun(k:mg (tb s p)=true)=>ae5 (tb s p) k
  have h240n:=fun(k:mg (tb s p)=false)=>sign_no (tb s p) k
  have h5:=aa fun w'=>aeg A l hA (tb s p) hle w'
  unfold pz at h;rw[if_neg h92]at h;have hc:¬(mg (tb s p)=true/\zr l (tb s p)=false):=by
   intro k;rw[if_pos k]at h;cases h
  clear h h92 hle;generalize tb s p=b at *;cases hsg:mg b with
  |false=>
   have h4:=aa (h240n hsg);clear h240y h240n hc hsg h5;go_enter func228,ntmps228;go_wp2_with fail
   go_quiet(fail)
   go_wp2_with(first|(go_at_call 240;refine(h4.out _).mono ?_;rintro e w1⟨rfl,rfl⟩)|(go_at_call 206;refine(h6.out _ (HC.out.drewN _)).mono ?_;rintro e w2⟨rfl,he2,hC2⟩))
   go_ret;exact⟨rfl,((Ex.of (S:=[C]) (cu ae _)).trans he2).mono (by intro x hx;left;simpa using hx),hbad.out _ hC2⟩
  |true=>
   have h4:=aa (h240y hsg);have hin:zr l b=true:=by
    cases k:zr l b with
    |true=>rfl
    |false=>exact absurd ⟨hsg,k⟩ hc
   have Hin:=aa hin;clear h240y h240n hc hsg hin;go_enter func228,ntmps228;go_wp2_with fail
   go_quiet(fail)
   go_wp2_with(first|(go_at_call 240;refine(h4.out _).mono ?_;rintro e w1⟨rfl,rfl⟩)|(go_at_call 205;refine(h5.out _).mono ?_;rintro e w'⟨I,rfl,hI,rfl⟩;have hI0:(0:Int)<=I:=of_decide_eq_true (hI.trans Hin.out);clear hI)|(go_at_call 206;refine(h6.out _ (HC.out.drewN _)).mono ?_;rintro e w2⟨rfl,he2,hC2⟩))
   go_ret;exact⟨rfl,((Ex.of (S:=[C]) (cu ae _)).trans he2).mono (by intro x hx;left;simpa using hx),hbad.out _ hC2⟩
theorem aj2(C:Nat)(s:ByteArray)(p b q:Nat)(hs:s.size<=1000)(hp:p<s.size)(A:ByteArray)(l:List Nat)(hA:∀b:Nat,b<256->decide (0<=Lib.indexByte A.data.toList ((b:Int).toNat.toUInt8))=zr l b)(no:Int)(h:pz l s p=some (b,q))(w:World)(hC:At w C (mj s p 0)):
 Calls prog 228 #[.pointer (some ⟨C,0,none⟩),.string A,.int .i64 no] w fun e w'=>e=.returned (.int .u8 (b:Nat))/\Ex [C] w w'/\At w' C (mj s (q:Nat) 0):=by
 have HC:=aa hC;have c0:=hC.cell 0;have c1:=hC.cell 1;have fz:=hC.free 1;have cl:=hC.lt;simp only[ak,am,au]at c0 c1;have hsi:(s.size:Int)<=1000:=by omega
 have hpi:(p:Int)<s.size:=by omega
 have hb:s[p].toNat=tb s p:=ia s p hp;clear hC;by_cases h92:tb s p=92
 ·have hq:sh s p=some (b,q):=by unfold pz at h;rwa[if_pos h92]at h
  have h9:=aa fun w' h=>ai4 C s p b q hs hq w' h
  have hi:((tb s p:Int)==92)=true:=by rw[h92];rfl
  clear h hq h92;generalize tb s p=b at *;go_enter func228,ntmps228;go_wp2_with fail
  go_quiet(fail)
  go_wp2_with(go_at_call 239;refine(h9.out _ (HC.out.drewN _)).mono ?_;rintro e w2⟨rfl,he2,hC2⟩)
  go_ret;exact⟨rfl,((Ex.of (S:=[C]) (cu ae _)).trans he2).mono (by intro x hx;left;simpa using hx),hC2⟩
 ·have hi:((tb s p:Int)==92)=false:=by rw[ax];omega
  have hle:=jq s p;have h5:=aa fun w'=>aeg A l hA (tb s p) hle w'
  unfold pz at h;rw[if_neg h92]at h;split at h
  ·next hh=>
   cases h;obtain⟨k1,k2⟩:=hh;have h4:=aa (ae5 (tb s p) k1);have Hin:=aa k2;clear k1 k2 h92 hle;generalize tb s p=b at *;go_enter func228,ntmps228;go_wp2_with fail
   go_quiet(fail)
   go_wp2_with(first|(go_at_call 240;refine(h4.out _).mono ?_;rintro e w1⟨rfl,rfl⟩)|(go_at_call 205;refine(h5.out _).mono ?_;rintro e w'⟨I,rfl,hI,rfl⟩;have hI0:¬(0:Int)<=I:=of_decide_eq_false (hI.trans Hin.out);clear hI))
   go_ret;exact⟨rfl,(Ex.of (S:=[C]) (cu ae _)).set C 1 _ (by simp),(HC.out.drewN _).set 1 _⟩
  ·cases h
theorem acu(C:Nat)(s:ByteArray)(p:Nat)(hs:s.size<=1000)(hpl:p<=s.size)(h:lq s p=none)(w:World)(hC:At w C (mj s p 0)):
 Calls prog 236 #[.pointer (some ⟨C,0,none⟩)] w fun e w'=>e=.returned (.int .u8 0)/\Ex [C] w w'/\lu w' C s:=by
 have h1:=aa fun w' h=>li C s p 0 w' h
 have HC:=aa hC;have cl:=hC.lt;clear hC;by_cases hp:p<s.size
 ·have hki:decide ((s.size:Int)<=p)=false:=by simp;omega
  rw[hki]at h1;have ho:pz [92,34,91,93,45,94] s p=none:=by unfold lq at h;rw[if_pos hp]at h;rw[aj4];exact h
  have h2:=aa fun w' h=>aqn C s p hs hp ⟨#[92,34,91,93,45,94]⟩ _ af4 132 (by decide) (by decide) ho w' h
  clear h ho hki;go_enter func236,ntmps236;go_wp2_with(first|(go_at_call 154;refine(h1.out _ HC.out).mono ?_;rintro e w1⟨rfl,m,rfl⟩)|(go_at_call 228;refine(h2.out _ (HC.out.drewN _)).mono ?_;rintro e w2⟨rfl,he2,hC2⟩))
  go_ret;exact⟨rfl,((Ex.of (S:=[C]) (cu ae _)).trans he2).mono (by intro x hx;left;simpa using hx),hC2⟩
 ·have hki:decide ((s.size:Int)<=p)=true:=by simp;omega
  rw[hki]at h1;have h6:=aa fun w' h=>i9 C s p 0 p 133 w' h
  clear h hki;go_enter func236,ntmps236;go_wp2_with(first|(go_at_call 154;refine(h1.out _ HC.out).mono ?_;rintro e w1⟨rfl,m,rfl⟩;have k1:=(HC.out.drewN m).cell 1;have kl:=(HC.out.drewN m).lt;simp only[ak,am,au]at k1)|(go_at_call 206;refine(h6.out _ (HC.out.drewN _)).mono ?_;rintro e w2⟨rfl,he2,hC2⟩))
  go_ret;exact⟨rfl,((Ex.of (S:=[C]) (cu ae _)).trans he2).mono (by intro x hx;left;simpa using hx),p,133,hC2,⟨by omega,by omega⟩,by decide,by decide⟩
theorem abo(C:Nat)(s:ByteArray)(p b q:Nat)(hs:s.size<=1000)(h:lq s p=some (b,q))(w:World)(hC:At w C (mj s p 0)):
 Calls prog 236 #[.pointer (some ⟨C,0,none⟩)] w fun e w'=>e=.returned (.int .u8 (b:Nat))/\Ex [C] w w'/\At w' C (mj s (q:Nat) 0):=by
 have h1:=aa fun w' h=>li C s p 0 w' h
 have HC:=aa hC;have cl:=hC.lt;clear hC;have hp:p<s.size:=by
  unfold lq at h;split at h
  ·assumption
  ·cases h
 have hki:decide ((s.size:Int)<=p)=false:=by simp;omega
 rw[hki]at h1;have ho:pz [92,34,91,93,45,94] s p=some (b,q):=by unfold lq at h;rw[if_pos hp]at h;rw[aj4];exact h
 have h2:=aa fun w' h=>aj2 C s p b q hs hp ⟨#[92,34,91,93,45,94]⟩ _ af4 132 ho w' h
 clear h ho hki;go_enter func236,ntmps236;go_wp2_with(first|(go_at_call 154;refine(h1.out _ HC.out).mono ?_;rintro e w1⟨rfl,m,rfl⟩)|(go_at_call 228;refine(h2.out _ (HC.out.drewN _)).mono ?_;rintro e w2⟨rfl,he2,hC2⟩))
 go_ret;exact⟨rfl,((Ex.of (S:=[C]) (cu ae _)).trans he2).mono (by intro x hx;left;simpa using hx),hC2⟩
end
section
open Go.RowKit Go.Shelf
theorem yo{K:Act->World->Prop}{Q:Exit->Act->World->Prop}{a:Act}{w:World}(h:K a w):Exit.then K Q .normal a w:=h
theorem ut(t:Array Value)(n:Nat)(h:t.size=n):t=((List.range n).map fun i=>t.getD i undef).toArray:=by
 apply Array.ext
 ·simp[h]
 ·intro i h1 h2
  simp[Array.getD,h1]
def ti(l k:Nat)(J1 J0:Act->World->Prop)(Q:Exit->Act->World->Prop):Exit->Act->World->Prop
 | .goto l',a,w=>(l'=l/\J1 a w)\/(l'=k/\J0 a w)
 |e,a,w=>Q e a w
theorem af1{l k:Nat}{J1 J0 J1' J0':Act->World->Prop}{Q:Exit->Act->World->Prop}(h1:∀a w,J1 a w->J1' a w)(h0:∀a w,J0 a w->J0' a w)(e:Exit)(a:Act)(w:World)(h:ti l k J1 J0 Q e a w):ti l k J1' J0' Q e a w:=by
 cases e with
 |goto l'=>exact h.imp (fun h=>⟨h.1,h1 a w h.2⟩) (fun h=>⟨h.1,h0 a w h.2⟩)
 |normal=>exact h
 |exit id=>exact h
 |ret=>exact h
 |panic c=>exact h
 |outgrown=>exact h
def noJ:Act->World->Prop:=fun _ _=>False
theorem aap{P:Program}{a:Act}{w:World}{Q:Exit->Act->World->Prop}{c:Code}(h:c.wp P Q a w):(Code.skip.seq c).wp P Q a w:=wp_seq (wp_skip h)
theorem wm{P:Program}{a:Act}{w:World}{Q:Exit->Act->World->Prop}{c:Code}(l k:Nat)(J1 J0:Act->World->Prop)(μ:Act->World->Nat)
 (round:∀a w,J1 a w->∃rest,findLabel c l=some (Code.skip.seq rest)/\rest.wp P (ti l k (fun a' w'=>J1 a' w'/\μ a' w'<μ a w) J0 Q) a w)
 (done:∀a w,J0 a w->∃rest,findLabel c k=some (Code.skip.seq rest)/\rest.wp P (ti l k noJ noJ Q) a w)
 (first:(∀rest,findLabel c l=some (Code.skip.seq rest)->∀a w,J1 a w->rest.wp P (ti l k J1 J0 Q) a w)->c.wp P (ti l k J1 J0 Q) a w):(Code.scope c).wp P Q a w:=by
 have hfirst:=first fun rest hr a w hJ=>by
  obtain⟨rest',hr',h⟩:=round a w hJ;rw[hr]at hr';cases hr';exact Code.wp_mono (fun e a w q=>af1 (fun _ _ h=>h.1) (fun _ _ h=>h) e a w q) h
 intro b kk cs;have fin:∀a w,J0 a w->∃rest,findLabel c k=some rest/\∃e a' w',Q e a' w'/\Arrives P (lone (b.at a (.code rest::.inScope c::kk)) cs w) b kk cs e a' w':=by
  intro a w hJ;obtain⟨rest,hr,h'⟩:=done a w hJ;have h:=aap h';refine⟨_,hr,?_⟩;obtain⟨e,a₁,w₁,hq,harr⟩:=h b (.inScope c::kk) cs;cases e with
  |normal=>exact⟨.normal,a₁,w₁,hq,Steps.trans harr (.one step_inScope)⟩
  |exit id=>exact⟨.exit id,a₁,w₁,hq,fun k' hk=>harr k' (by simp[exitTo,hk])⟩
  |goto l'=>
   rcases hq with⟨_,h⟩|⟨_,h⟩
   ·exact h.elim
   ·exact h.elim
  |ret=>exact⟨_,a₁,w₁,hq,harr⟩
  |panic ch=>exact⟨_,a₁,w₁,hq,harr⟩
  |outgrown=>exact⟨_,a₁,w₁,hq,harr⟩
 have key:∀n a w,J1 a w->μ a w<n->∃rest,findLabel c l=some rest/\∃e a' w',Q e a' w'/\Arrives P (lone (b.at a (.code rest::.inScope c::kk)) cs w) b kk cs e a' w':=by
  intro n;induction n with
  |zero=>intro a w _ h;omega
  |succ n ih=>
   intro a w hJ hn;obtain⟨rest,hr,h'⟩:=round a w hJ;have h:=aap h';refine⟨_,hr,?_⟩;obtain⟨e,a₁,w₁,hq,harr⟩:=h b (.inScope c::kk) cs;cases e with
   |normal=>exact⟨.normal,a₁,w₁,hq,Steps.trans harr (.one step_inScope)⟩
   |exit id=>exact⟨.exit id,a₁,w₁,hq,fun k' hk=>harr k' (by simp[exitTo,hk])⟩
   |goto l'=>
    rcases hq with⟨rfl,h1,h2⟩|⟨rfl,h1⟩
    ·obtain⟨rest',hr',e₂,a₂,w₂,hq₂,harr₂⟩:=ih a₁ w₁ h1 (by omega)
     exact⟨e₂,a₂,w₂,hq₂,.of_steps (harr _ (by simp[gotoIn,hr'])) harr₂⟩
    ·obtain⟨rest',hr',e₂,a₂,w₂,hq₂,harr₂⟩:=fin a₁ w₁ h1
     exact⟨e₂,a₂,w₂,hq₂,.of_steps (harr _ (by simp[gotoIn,hr'])) harr₂⟩
   |ret=>exact⟨_,a₁,w₁,hq,harr⟩
   |panic ch=>exact⟨_,a₁,w₁,hq,harr⟩
   |outgrown=>exact⟨_,a₁,w₁,hq,harr⟩
 obtain⟨e,a₁,w₁,hq,harr⟩:=hfirst b (.inScope c::kk) cs;cases e with
 |normal=>exact⟨.normal,a₁,w₁,hq,.head step_scope (Steps.trans harr (.one step_inScope))⟩
 |exit id=>exact⟨.exit id,a₁,w₁,hq,fun k' hk=>.head step_scope (harr k' (by simp[exitTo,hk]))⟩
 |goto l'=>
  rcases hq with⟨rfl,h1⟩|⟨rfl,h1⟩
  ·obtain⟨rest',hr',e₂,a₂,w₂,hq₂,harr₂⟩:=key _ a₁ w₁ h1 (Nat.lt_succ_self _)
   exact⟨e₂,a₂,w₂,hq₂,.of_steps (.head step_scope (harr _ (by simp[gotoIn,hr']))) harr₂⟩
  ·obtain⟨rest',hr',e₂,a₂,w₂,hq₂,harr₂⟩:=fin a₁ w₁ h1
   exact⟨e₂,a₂,w₂,hq₂,.of_steps (.head step_scope (harr _ (by simp[gotoIn,hr']))) harr₂⟩
 |ret=>exact⟨_,a₁,w₁,hq,.of_steps (.one step_scope) harr⟩
 |panic ch=>exact⟨_,a₁,w₁,hq,.of_steps (.one step_scope) harr⟩
 |outgrown=>exact⟨_,a₁,w₁,hq,.of_steps (.one step_scope) harr⟩
end
section
theorem pil_lvs(l:List QN):∀U∈rg l,∀p∈fy (ew U),p∈fy l:=by
 induction l with
 |nil=>intro U hU;cases hU
 |cons x l ih=>
  intro U hU p hp;unfold rg at hU;split at hU
  ·next h1=>
   rw[aj9 x l h1];rcases cz.1 hU with rfl|hU
   ·simp[ew,fy]at hp
    subst hp;exact dp
   ·exact db _ (ih U hU p hp)
  ·next h1=>
   rw[mf x l h1];split at hU
   ·split at hU
    ·next a r he=>
     rcases cz.1 hU with rfl|hU
     ·simp only[ew]at hp
      rw[mf _ _ (by simp)]at hp;exact ih a (by rw[he];exact dp) p hp
     ·exact ih U (by rw[he];exact db _ hU) p hp
    ·cases hU
   ·split at hU
    ·split at hU
     ·next a r he=>
      rcases cz.1 hU with rfl|hU
      ·simp only[ew]at hp
       rw[mf _ _ (by simp)]at hp;exact ih a (by rw[he];exact dp) p hp
      ·exact ih U (by rw[he];exact db _ hU) p hp
     ·cases hU
    ·split at hU
     ·next a b r he=>
      rcases cz.1 hU with rfl|hU
      ·split at hp
       all_goals
        simp only[ew]at hp;rw[mf _ _ (by simp),pf]at hp;rcases List.mem_append.1 hp with hp|hp
        ·exact ih a (by rw[he];exact dp) p hp
        ·exact ih b (by rw[he];exact db _ dp) p hp
      ·exact ih U (by rw[he];exact db _ (db _ hU)) p hp
     ·cases hU
theorem aqe(T:QT)(f:List (Nat->Bool)->Nat->List Int)(n:Nat)(hf:∀e k,(e,k)∈fy (ew T)->jj (f e k)/\∀x∈f e k,x<(n:Int))(q:Nat):∀U∈rg ((ew T).drop q),jj (qh f n U)/\∀y∈qh f n U,y<(n:Int):=by
 intro U hU;refine rm f n U fun e k hm=>hf e k ?_
 have:=pil_lvs _ U hU _ hm;obtain⟨x,hx,h2⟩:=List.mem_filterMap.1 this;exact List.mem_filterMap.2 ⟨x,List.mem_of_mem_drop hx,h2⟩
theorem pil_len(l:List QN):(rg l).length<=l.length:=by
 induction l with
 |nil=>exact ac
 |cons x l ih=>
  unfold rg;split
  ·simp;exact ih
  ·split
   ·split
    ·next a r he=>rw[he]at ih;simp at ih⊢;omega
    ·simp
   ·split
    ·split
     ·next a r he=>rw[he]at ih;simp at ih⊢;omega
     ·simp
    ·split
     ·next a b r he=>rw[he]at ih;simp at ih⊢;omega
     ·simp
theorem ahq{T:QT}(h:ir T=true):∀x∈ew T,x.num<=1000000:=by
 intro x hx;unfold ir at h;simp only[ce,List.all_eq_true]at h;have:=h.1 x hx;unfold my at this;simp only[ce,cg]at this;exact this.2.1
end
end Go.Proofs.YtjfkmoinldlmaaaGreat
