/- The walk of BeagleFails, part 34. Walk of the scanner's pattern at any text. Walk of the scanner's number at any text. -/
import Derived.Test.YtjfkmoinldlmaaaGreatFa33
namespace Go.Proofs.YtjfkmoinldlmaaaGreat
open Go.Proofs.Tryz
section
set_option maxRecDepth 100000
set_option maxHeartbeats 8000000
open Go.RowKit Go.Shelf
def afp(C:Nat)(v:Value)(u:Nat->Value):Act:={tmps:=#[.pointer (some ⟨C,0,none⟩),u 1,u 2,v,u 4,u 5,u 6,u 7,u 8,u 9,u 10,u 11,u 12,u 13,u 14,u 15,u 16,u 17,u 18,u 19,u 20,u 21,u 22,u 23,u 24,u 25,u 26,u 27,u 28,u 29,u 30,u 31,u 32,u 33,u 34,u 35,u 36,u 37,u 38,u 39,u 40,u 41,u 42,u 43,u 44,u 45,u 46,u 47,u 48,u 49,u 50,u 51,u 52,u 53,u 54,u 55,u 56,u 57,u 58,u 59,u 60,u 61,u 62,u 63,u 64,u 65,u 66,u 67,u 68,u 69,u 70,u 71,u 72,u 73,u 74,u 75,u 76,u 77,u 78,u 79,u 80,u 81,u 82,u 83,u 84,u 85,u 86,u 87],defers:=[]}
theorem mo{C:Nat}{v:Value}{a:Act}(hs:a.tmps.size=88)(hd:a.defers=[])(h0:a.tmps.getD 0 undef=.pointer (some ⟨C,0,none⟩))(h3:a.tmps.getD 3 undef=v):∃u,a=afp C v u:=by
 refine⟨fun i=>a.tmps.getD i undef,?_⟩;unfold afp;rw[<-h0,<-h3];have h:=ut a.tmps 88 hs;obtain⟨t,d⟩:=a;cases hd;exact congrArg (fun x=>({tmps:=x,defers:=[]}:Act)) h
structure PSt(w0 w:World)(C:Nat)(s:ByteArray)(p q:Nat)(v:Value)(l:List (Nat->Bool)):Prop where
 c:At w C (mj s (q:Nat) 0)
 ql:q<=s.size
 ll:l.length<=64
 own:w.ownsRow w0.heap.size 100 4 v l.length (ji l)
 ex:Ex [C] w0 w
 cps:∀m p',tv s q l.length m p'->tv s p 0 (l++m) p'
def PatPost(C:Nat)(s:ByteArray)(p:Nat)(w:World)(e:Ending)(w':World):Prop:=
 ∃v,e=.returned v/\Ex [C] w w'/\((v=.slice none 0 0/\lu w' C s)\/∃(l:List (Nat->Bool))(q:Nat),w'.ownsRow w.heap.size 100 4 v l.length (ji l)/\At w' C (mj s (q:Nat) 0)/\tv s p 0 l q)
def farB(C:Nat)(s:ByteArray)(w:World):Nat:=if intOf ((w.cell? ⟨C,2,none⟩).getD undef)=0 then farO C s w+1 else 0
theorem pj{C:Nat}{s:ByteArray}{q:Nat}{w:World}(h:At w C (mj s (q:Nat) 0)):farB C s w=s.size-q+1:=by
 unfold farB;rw[h.cell 2,uo h];simp[intOf]
theorem rk{C:Nat}{s:ByteArray}{w:World}(h:lu w C s):farB C s w=0:=by
 obtain⟨p,e,h,_,h1,_⟩:=h;unfold farB;rw[h.cell 2];simp[intOf];omega
theorem lu.below{w w':World}{C n:Nat}{s:ByteArray}(h:lu w C s)(hb:Below n w w')(hn:C<n):lu w' C s:=by
 obtain⟨p,e,h1,h2⟩:=h;exact⟨p,e,h1.below hb hn,h2⟩
theorem sc_lt{w:World}{C:Nat}{s:ByteArray}(h:lu w C s):C<w.heap.size:=by
 obtain⟨p,e,h1,h2⟩:=h;exact h1.lt
theorem idx_nil:∀b:Nat,b<256->decide (0<=Lib.indexByte (⟨#[]⟩:ByteArray).data.toList ((b:Int).toNat.toUInt8))=zr [] b:=by decide+kernel
theorem aj3(b:Nat)(hb:b<=255)(w:World):Calls prog 43 #[.string (strOfNums [(b:Int)])] w fun e w'=>e=.returned (cv (ez b b))/\Below w.heap.size w w':=by
 have h:=aid (strOfNums [(b:Int)]) (by rw[strOfNums_size];simp) w;have e:cv (kq (strOfNums [(b:Int)]) (strOfNums [(b:Int)]).size)=cv (ez b b):=agi fun n hn=>by
  rw[strOfNums_size];unfold kq ez;rw[strOfNums_data];have hb':(UInt8.ofNat b).toNat=b:=by simp;omega
  simp only[List.map_cons,List.map_nil,bz,List.length_nil,dg,List.take_succ_cons,List.take_zero,List.any_cons,List.any_nil,Bool.or_false,Int.toNat_natCast,hb'];rw[Bool.eq_iff_iff];simp;omega
 rwa[e]at h
theorem afo(C:Nat)(s:ByteArray)(p:Nat)(hs:s.size<=1000)(hp:p<=s.size)(w:World)(hC:At w C (mj s (p:Nat) 0)):
 Calls prog 204 #[.pointer (some ⟨C,0,none⟩)] w (PatPost C s p w):=by
 have HC:=aa hC;have HCl:=aa hC.lt;have hsi:(s.size:Int)<=1000:=by omega
 clear hC;go_enter func204,ntmps204;go_wp2_with fail
 refine wm 0 9 (fun a' w'=>∃v,(∃u,a'=afp C v u)/\((Ex [C] w w'/\lu w' C s)\/∃q l,PSt w w' C s p q v l)) noJ (fun _ w'=>farB C s w') ?round (fun _ _ h=>h.elim) ?first
 case first=>
  intro hrest;have HRest:=aa hrest;clear hrest;go_wp2_with fail
  go_step3;refine yo ?_;rename_i hK;refine hK _ _ ?_;refine HRest.out _ rfl _ _ ⟨.slice none 0 0,mo rfl rfl rfl rfl,.inr ⟨p,[],HC.out,hp,cx _,bj _ _ _ _,Ex.refl _ _,fun m p' h=>h⟩⟩
 case round=>
  rintro a' wr⟨v,⟨u,rfl⟩,⟨hE,hB⟩|⟨q,l,H⟩⟩
  ·refine⟨_,rfl,?_⟩
   unfold afp;have HE:=aa hE;have HB:=aa hB;obtain⟨pp,ee,hC,-,he0,he200⟩:=hB;have d2:=hC.cell 2;have dl:=hC.lt;have hne:(ee !=0)=true:=by rw[bne_iff_ne];omega
   simp only[ak,am,au]at d2;clear hE hC he0 he200;go_wp2_with fail
   simp only[ti];go_ret;exact⟨_,rfl,HE.out,.inl ⟨rfl,HB.out⟩⟩
  ·refine⟨_,rfl,?_⟩
   rw[pj H.c];unfold afp;have HH:=aa H;have HCr:=aa H.c;have HO:=aa H.own;obtain⟨ad,cap,rfl⟩:=ey H.own;have d0:=H.c.cell 0;have d1:=H.c.cell 1;have d2:=H.c.cell 2;have dl:=H.c.lt;have fz:=H.c.free 1;have hll:(l.length:Int)<=64:=by have:=H.ll;omega
   have hE1:=aa fun n=>li C s (q:Nat) 0 (wr.drewN n) (H.c.drewN n)
   simp only[ak,am,au]at d0 d1 d2;clear H;by_cases hlt:q<s.size
   ·have hki:decide ((s.size:Int)<=(q:Nat))=false:=by simp;omega
    rw[hki]at hE1;have hqs:(q:Int)<s.size:=by omega
    have hbt:s[q].toNat=tb s q:=ia s q hlt;have hle:=jq s q;by_cases h34:tb s q=34
    ·have hq34:((tb s q:Int)==34)=true:=by rw[h34];rfl
     have H34:=aa h34;clear h34;by_cases hl:0<l.length
     ·have hli:(0:Int)<l.length:=by omega
      go_wp2_with(go_at_call 154;refine(hE1.out 0).mono ?_;rintro e w2⟨rfl,m,rfl⟩;have HC2:=aa (HCr.out.drewN m);have E2:=aa (HH.out.ex.two (Ex.of (S:=[C]) (cu (aw wr.heap.size wr) m))))
      go_quiet(fail)
      have HC3:=aa (HCr.out.drewN (m+nq));have Er:Ex [C] wr (wr.drewN (m+nq)):=Ex.of (cu (aw wr.heap.size wr) (m+nq));have E3:=aa (HH.out.ex.two Er);have ER:=aa Er;clear Er;have k1:=HC3.out.cell 1;have kl:=HC3.out.lt;have kz:=HC3.out.free 1;simp only[ak,am,au]at k1;go_wp2_with fail
      simp only[ti];go_ret;exact⟨_,rfl,E3.out.set C 1 _ (by simp),.inr ⟨l,q+1,jl HO.out (ER.out.set C 1 _ (by simp)) HCl.out,HC3.out.set 1 _,by have:=HH.out.cps [] (q+1) (.close q l.length hlt H34.out (by omega));rwa[dh]at this⟩⟩
     ·obtain rfl:l=[]:=List.eq_nil_of_length_eq_zero (by omega)
      rw[show([]:List (Nat->Bool)).length=0 from rfl];have H6:=aa fun w' h=>i9 C s q 0 q 135 w' h
      clear hl;go_wp2_with(go_at_call 154;refine(hE1.out 0).mono ?_;rintro e w2⟨rfl,m,rfl⟩;have HC2:=aa (HCr.out.drewN m);have E2:=aa (HH.out.ex.two (Ex.of (S:=[C]) (cu (aw wr.heap.size wr) m))))
      go_quiet(fail)
      obtain⟨nq1,rfl⟩:∃m,m=nq:=⟨nq,rfl⟩;go_wp2_with fail
      go_quiet(fail)
      have HC3:Hid (At (((wr.drewN m).drewN nq1).drewN nq) C (mj s (q:Nat) 0)):=aa ((HC2.out.drewN nq1).drewN nq);have ER3:Hid (Ex [C] wr (((wr.drewN m).drewN nq1).drewN nq)):=aa (((Ex.of (cu (aw wr.heap.size wr) m)).two (Ex.of (cu (aw (wr.drewN m).heap.size (wr.drewN m)) nq1))).two (Ex.of (cu (aw ((wr.drewN m).drewN nq1).heap.size ((wr.drewN m).drewN nq1)) nq)));have E3:=aa (HH.out.ex.two ER3.out);generalize ((wr.drewN m).drewN nq1).drewN nq=W3 at *;have k1:=HC3.out.cell 1;have kl:=HC3.out.lt;simp only[ak,am,au]at k1;go_wp2_with(go_at_call 206;refine(H6.out _ HC3.out).mono ?_;rintro e w6⟨rfl,he6,hC6⟩;have E6:=aa (E3.out.two he6);have B6:=aa (show lu w6 C s from⟨q,135,hC6,⟨by omega,by have:=HH.out.ql;omega⟩,by decide,by decide⟩);clear he6 hC6)
      go_step3;refine Or.inl ⟨rfl,⟨_,mo rfl rfl rfl rfl,.inl ⟨E6.out,B6.out⟩⟩,?_⟩;rw[rk (B6.out)];omega
    ·have hq34:((tb s q:Int)==34)=false:=by rw[ax];omega
     have H34:=aa h34;clear h34;go_wp2_with(go_at_call 154;refine(hE1.out 0).mono ?_;rintro e w2⟨rfl,m,rfl⟩;have HC2:=aa (HCr.out.drewN m);have E2:=aa (HH.out.ex.two (Ex.of (S:=[C]) (cu (aw wr.heap.size wr) m))))
     go_quiet(fail)
     obtain⟨nq1,rfl⟩:∃m,m=nq:=⟨nq,rfl⟩;go_wp2_with fail
     go_quiet(fail)
     have HC3:Hid (At (((wr.drewN m).drewN nq1).drewN nq) C (mj s (q:Nat) 0)):=aa ((HC2.out.drewN nq1).drewN nq);have ER3:Hid (Ex [C] wr (((wr.drewN m).drewN nq1).drewN nq)):=aa (((Ex.of (cu (aw wr.heap.size wr) m)).two (Ex.of (cu (aw (wr.drewN m).heap.size (wr.drewN m)) nq1))).two (Ex.of (cu (aw ((wr.drewN m).drewN nq1).heap.size ((wr.drewN m).drewN nq1)) nq)));have E3:=aa (HH.out.ex.two ER3.out);generalize ((wr.drewN m).drewN nq1).drewN nq=W3 at *;have k1:=HC3.out.cell 1;have kl:=HC3.out.lt;simp only[ak,am,au]at k1;clear hE1 d0 d1 d2 fz dl hki hbt hqs HC2 E2;by_cases h64:l.length=64
     ·have h64i:((l.length:Int)==64)=true:=by rw[h64];rfl
      have H6:=aa fun w' h=>i9 C s q 0 q 135 w' h
      clear h64;go_wp2_with(go_at_call 206;refine(H6.out _ HC3.out).mono ?_;rintro e w6⟨rfl,he6,hC6⟩;have E6:=aa (E3.out.two he6);have B6:=aa (show lu w6 C s from⟨q,135,hC6,⟨by omega,by have:=HH.out.ql;omega⟩,by decide,by decide⟩);clear he6 hC6)
      go_step3;refine Or.inl ⟨rfl,⟨_,mo rfl rfl rfl rfl,.inl ⟨E6.out,B6.out⟩⟩,?_⟩;rw[rk (B6.out)];omega
     ·have h64i:((l.length:Int)==64)=false:=by rw[ax];omega
      have hl64:l.length<64:=by have:=HH.out.ll;omega
      clear h64;have hN3:w.heap.size<=W3.heap.size:=E3.out.size;by_cases h63:tb s q=63
      ·have Hh:=aa fun w' h=>qb C s q 0 hs hlt 63 h63 w' h
       have Hfu:=aa fun w'=>tm w'
       have H63:=aa h63;clear h63;go_wp2_with(first|(go_at_call 155;refine(Hh.out W3 HC3.out).mono ?_;rintro e w4⟨rfl,he4,hC4⟩;have HC4:=aa hC4;have E4:=aa (E3.out.two he4);have ER4:=aa (ER3.out.two he4);clear he4 hC4)|(go_at_call 93;refine(Hfu.out w4).mono ?_;rintro e w5⟨rfl,hb5⟩;have HC5:=aa (HC4.out.below hb5 HC4.out.lt);have E5:=aa (E4.out.two (Ex.of hb5));have HO5:=aa (jl HO.out (ER4.out.two (Ex.of hb5)) HCl.out);have HNz:=aa E5.out.size;clear hb5)|(at_builtin;refine gj ot rfl _ _ rfl rfl HO5.out [.int .u64 (wd (fun _=>true) 0:Nat),.int .u64 (wd (fun _=>true) 1:Nat),.int .u64 (wd (fun _=>true) 2:Nat),.int .u64 (wd (fun _=>true) 3:Nat)] rfl rfl (by simp[Value.oneCell']) (by unfold maxLen;omega) (by omega) HNz.out ?_;intro v9 w9 hown9 hb9))
       have HCl2:=aa (HC5.out.below hb9 HCl.out);have HE9:=aa (E5.out.far hb9 ac);have HO9:=aa hown9;clear hown9 hb9;go_step3;refine Or.inl ⟨rfl,⟨v9,mo rfl rfl rfl rfl,.inr ⟨(q+1),l++[iz],HCl2.out,by omega,by rw[bd];show l.length+1<=64;omega,by rw[bd,pq];exact HO9.out,HE9.out,fun m' p' h=>?_⟩⟩,?_⟩
       ·rw[dc]
        rw[bd]at h;exact HH.out.cps _ _ (.elem q l.length (iz) (q+1) m' p' hlt H34.out (by omega) (.any H63.out) h)
       ·rw[pj HCl2.out]
        have:=hlt;omega
      ·have Hh:=aa (show∀w',At w' C (mj s (q:Nat) 0)->Calls prog 155 #[.pointer (some ⟨C,0,none⟩),.int .u8 63] w' (fun e w2=>e=.returned (.bool false)/\Below w'.heap.size w' w2)from fun w' h=>sf C s q 0 63 (fun h=>h63 h.2) w' h)
       have H63:=aa h63;clear h63;by_cases h91:tb s q=91
       ·have Hi:=aa (show∀w',At w' C (mj s (q:Nat) 0)->Calls prog 155 #[.pointer (some ⟨C,0,none⟩),.int .u8 91] w' (fun e w2=>e=.returned (.bool true)/\Ex [C] w' w2/\At w2 C (mj s ((q+1:Nat):Int) 0))from fun w' h=>qb C s q 0 hs hlt 91 h91 w' h)
        have Hcl:=aa fun w' h=>anv C s q hs hlt w' h
        have H91:=aa h91;clear h91;go_wp2_with(first|(go_at_call 155;(with_reducible refine(Hh.out W3 HC3.out).mono ?_);rintro e w4⟨rfl,hb4⟩;have HC4:=aa (HC3.out.below hb4 HC3.out.lt);have E4:=aa (E3.out.two (Ex.of hb4));have ER4:=aa (ER3.out.two (Ex.of hb4));clear hb4)|(go_at_call 155;(with_reducible refine(Hi.out w4 HC4.out).mono ?_);rintro e w5⟨rfl,he5,hC5⟩;have HC5:=aa hC5;have E5:=aa (E4.out.two he5);have ER5:=aa (ER4.out.two he5);clear he5 hC5))
        go_at_call 227;refine(Hcl.out w5 HC5.out).mono ?_;rintro e w6⟨S,rfl,he6,hB6|⟨q6,hC6,hR6⟩⟩
        ·have E6:=aa (E5.out.two he6)
         have HO6:=aa (jl HO.out (ER5.out.two he6) HCl.out);have HNz:=aa E6.out.size;clear he6;go_wp2_with(at_builtin;refine gj ot rfl _ _ rfl rfl HO6.out [.int .u64 (wd (S) 0:Nat),.int .u64 (wd (S) 1:Nat),.int .u64 (wd (S) 2:Nat),.int .u64 (wd (S) 3:Nat)] rfl rfl (by simp[Value.oneCell']) (by unfold maxLen;omega) (by omega) HNz.out ?_;intro v9 w9 hown9 hb9)
         have HB9:=aa (hB6.below hb9 HCl.out);have HE9:=aa (E6.out.far hb9 ac);clear hown9 hb9;go_step3;refine Or.inl ⟨rfl,⟨_,mo rfl rfl rfl rfl,.inl ⟨HE9.out,HB9.out⟩⟩,?_⟩;rw[rk (HB9.out)];omega
        ·have E6:=aa (E5.out.two he6)
         have HO6:=aa (jl HO.out (ER5.out.two he6) HCl.out);have HNz:=aa E6.out.size;clear he6;go_wp2_with(at_builtin;refine gj ot rfl _ _ rfl rfl HO6.out [.int .u64 (wd (S) 0:Nat),.int .u64 (wd (S) 1:Nat),.int .u64 (wd (S) 2:Nat),.int .u64 (wd (S) 3:Nat)] rfl rfl (by simp[Value.oneCell']) (by unfold maxLen;omega) (by omega) HNz.out ?_;intro v9 w9 hown9 hb9)
         have HCl2:=aa (hC6.below hb9 HCl.out);have HE9:=aa (E6.out.far hb9 ac);have HO9:=aa hown9;clear hown9 hb9;go_step3;refine Or.inl ⟨rfl,⟨v9,mo rfl rfl rfl rfl,.inr ⟨q6,l++[S],HCl2.out,hR6.lt.2,by rw[bd];show l.length+1<=64;omega,by rw[bd,pq];exact HO9.out,HE9.out,fun m' p' h=>?_⟩⟩,?_⟩
         ·rw[dc]
          rw[bd]at h;exact HH.out.cps _ _ (.elem q l.length (S) q6 m' p' hlt H34.out (by omega) (.cls _ _ H91.out hR6) h)
         ·rw[pj HCl2.out]
          have:=hR6.lt.1;omega
       ·have Hi:=aa (show∀w',At w' C (mj s (q:Nat) 0)->Calls prog 155 #[.pointer (some ⟨C,0,none⟩),.int .u8 91] w' (fun e w2=>e=.returned (.bool false)/\Below w'.heap.size w' w2)from fun w' h=>sf C s q 0 91 (fun h=>h91 h.2) w' h)
        have H91:=aa h91;clear h91;have hnil:∀b:Nat,b<256->decide (0<=Lib.indexByte (⟨#[]⟩:ByteArray).data.toList ((b:Int).toNat.toUInt8))=zr [] b:=idx_nil;go_wp2_with(first|(go_at_call 155;(with_reducible refine(Hh.out W3 HC3.out).mono ?_);rintro e w4⟨rfl,hb4⟩;have HC4:=aa (HC3.out.below hb4 HC3.out.lt);have E4:=aa (E3.out.two (Ex.of hb4));have ER4:=aa (ER3.out.two (Ex.of hb4));clear hb4)|(go_at_call 155;(with_reducible refine(Hi.out w4 HC4.out).mono ?_);rintro e w5⟨rfl,hb5⟩;have HC5:=aa (HC4.out.below hb5 HC4.out.lt);have E5:=aa (E4.out.two (Ex.of hb5));have ER5:=aa (ER4.out.two (Ex.of hb5));clear hb5))
        cases hon:pz [] s q with
        |none=>
         have Ho:=aa fun w' h=>aqn C s q hs hlt ⟨#[]⟩ [] hnil 130 (by decide) (by decide) hon w' h
         have Hon:=aa hon;clear hon hnil;go_at_call 228;refine(Ho.out w5 HC5.out).mono ?_;rintro e w6⟨rfl,he6,hS6⟩;have E6:=aa (E5.out.two he6);have HO6:=aa (jl HO.out (ER5.out.two he6) HCl.out);have HS6:=aa hS6;clear he6 hS6;have hcv:=rq 0;have Hoc:Hid (∀w',Calls prog 43 #[.string (strOfNums [0])] w' fun e w2=>e=.returned (cv (ez 0 0))/\Below w'.heap.size w' w2):=aa fun w'=>aj3 0 (by omega) w'
         go_wp2_with(first|(go_at_call 43;refine(Hoc.out _).mono ?_;rintro e w7⟨rfl,hb7⟩;have hb7':=((aw w6.heap.size w6).alloc ac (.cells #[.int .u8 0] 5)).trans (hb7.mono (by simp));have E7:=aa (E6.out.two (Ex.of hb7'));have HO7:=aa (fe HO6.out hb7');have Hb7:=aa hb7';have HNz:=aa E7.out.size;clear hb7 hb7')|(at_builtin;refine gj ot rfl _ _ rfl rfl HO7.out [.int .u64 (wd (ez 0 0) 0:Nat),.int .u64 (wd (ez 0 0) 1:Nat),.int .u64 (wd (ez 0 0) 2:Nat),.int .u64 (wd (ez 0 0) 3:Nat)] rfl rfl (by simp[Value.oneCell']) (by unfold maxLen;omega) (by omega) HNz.out ?_;intro v9 w9 hown9 hb9))
         have HB9:=aa ((HS6.out.below Hb7.out (sc_lt HS6.out)).below hb9 HCl.out);have HE9:=aa (E7.out.far hb9 ac);clear hown9 hb9;go_step3;refine Or.inl ⟨rfl,⟨_,mo rfl rfl rfl rfl,.inl ⟨HE9.out,HB9.out⟩⟩,?_⟩;rw[rk (HB9.out)];omega
        |some bq=>
         obtain⟨b,q6⟩:=bq;have Ho:=aa fun w' h=>aj2 C s q b q6 hs hlt ⟨#[]⟩ [] hnil 130 hon w' h
         have hb3:=adx hon hlt;have Hon:=aa hon;clear hon hnil;go_at_call 228;refine(Ho.out w5 HC5.out).mono ?_;rintro e w6⟨rfl,he6,hS6⟩;have E6:=aa (E5.out.two he6);have HO6:=aa (jl HO.out (ER5.out.two he6) HCl.out);have HS6:=aa hS6;clear he6 hS6;have hcv:=rq (b:Nat);have Hoc:Hid (∀w',Calls prog 43 #[.string (strOfNums [(b:Int)])] w' fun e w2=>e=.returned (cv (ez b b))/\Below w'.heap.size w' w2):=aa fun w'=>aj3 b (by omega) w'
         go_wp2_with(first|(go_at_call 43;refine(Hoc.out _).mono ?_;rintro e w7⟨rfl,hb7⟩;have hb7':=((aw w6.heap.size w6).alloc ac (.cells #[.int .u8 (b:Nat)] 5)).trans (hb7.mono (by simp));have E7:=aa (E6.out.two (Ex.of hb7'));have HO7:=aa (fe HO6.out hb7');have Hb7:=aa hb7';have HNz:=aa E7.out.size;clear hb7 hb7')|(at_builtin;refine gj ot rfl _ _ rfl rfl HO7.out [.int .u64 (wd (ez b b) 0:Nat),.int .u64 (wd (ez b b) 1:Nat),.int .u64 (wd (ez b b) 2:Nat),.int .u64 (wd (ez b b) 3:Nat)] rfl rfl (by simp[Value.oneCell']) (by unfold maxLen;omega) (by omega) HNz.out ?_;intro v9 w9 hown9 hb9))
         have HCl2:=aa ((HS6.out.below Hb7.out HS6.out.lt).below hb9 HCl.out);have HE9:=aa (E7.out.far hb9 ac);have HO9:=aa hown9;clear hown9 hb9;go_step3;refine Or.inl ⟨rfl,⟨v9,mo rfl rfl rfl rfl,.inr ⟨q6,l++[ez b b],HCl2.out,hb3.2.1,by rw[bd];show l.length+1<=64;omega,by rw[bd,pq];exact HO9.out,HE9.out,fun m' p' h=>?_⟩⟩,?_⟩
         ·rw[dc]
          rw[bd]at h;exact HH.out.cps _ _ (.elem q l.length (ez b b) q6 m' p' hlt H34.out (by omega) (.byte _ _ H63.out H91.out Hon.out) h)
         ·rw[pj HCl2.out]
          have:=hb3.2.2;omega
   ·have hki:decide ((s.size:Int)<=(q:Nat))=true:=by simp;omega
    rw[hki]at hE1;have H6:=aa fun w' h=>i9 C s q 0 q 133 w' h
    go_wp2_with(go_at_call 154;refine(hE1.out 0).mono ?_;rintro e w2⟨rfl,m,rfl⟩;have HC2:=aa (HCr.out.drewN m);have E2:=aa (HH.out.ex.two (Ex.of (S:=[C]) (cu (aw wr.heap.size wr) m)));have k1:=HC2.out.cell 1;have kl:=HC2.out.lt;simp only[ak,am,au]at k1)
    go_wp2_with(go_at_call 206;refine(H6.out _ HC2.out).mono ?_;rintro e w6⟨rfl,he6,hC6⟩;have E6:=aa (E2.out.two he6);have B6:=aa (show lu w6 C s from⟨q,133,hC6,⟨by omega,by have:=HH.out.ql;omega⟩,by decide,by decide⟩);clear he6 hC6)
    go_step3;refine Or.inl ⟨rfl,⟨_,mo rfl rfl rfl rfl,.inl ⟨E6.out,B6.out⟩⟩,?_⟩;rw[rk (B6.out)];omega
end
section
set_option maxRecDepth 100000
set_option maxHeartbeats 8000000
open Go.RowKit Go.Shelf
def NumPost(C:Nat)(s:ByteArray)(p:Nat)(w:World)(e:Ending)(w':World):Prop:=
 ∃n:Nat,e=.returned (.int .i64 (n:Nat))/\n<=1000001/\Ex [C] w w'/\(lu w' C s\/∃q:Nat,At w' C (mj s (q:Nat) 0)/\agz s p n q)
theorem dig_no{b:Nat}(h:ro b=false):(48:Int)<=b->¬(b:Int)<=57:=by
 intro h1 h2;simp[ro]at h;omega
theorem aa3(C:Nat)(s:ByteArray)(p:Nat)(hs:s.size<=1000)(hp:p<=s.size)(w:World)(hC:At w C (mj s (p:Nat) 0)):
 Calls prog 207 #[.pointer (some ⟨C,0,none⟩)] w (NumPost C s p w):=by
 have HC:=aa hC;have c1:=hC.cell 1;have cl:=hC.lt;simp only[ak,am,au]at c1;have hsi:(s.size:Int)<=1000:=by omega
 clear hC;go_enter func207,ntmps207;go_wp2_with fail
 go_loopw[4] (fun n wr=>∃k N:Nat,(∀i,i<k->p+i<s.size/\ro (tb s (p+i))=true)/\N=min (dv s p k) 1000001/\n=.int .i64 (N:Nat)/\p+k<=s.size/\At wr C (mj s ((p+k:Nat):Int) 0)/\Ex [C] w wr) (fun _ wr=>farO C s wr)
 case atStart=>exact⟨0,0,fun i hi=>by omega,rfl,rfl,hp,HC.out,Ex.refl _ _⟩
 case round=>
  obtain⟨k,N,hk,hN,rfl,hpk,hC,hE⟩:=hrel;have hE1:=aa fun n=>li C s ((p+k:Nat):Int) 0 (wr.drewN n) (hC.drewN n)
  have HCr:=aa hC;have HEr:=aa hE;have HK:=aa hk;have HN:=aa hN;have hNle:(N:Int)<=1000001:=by omega
  have d0:=hC.cell 0;have d1:=hC.cell 1;have fz:=hC.free 1;have dl:=hC.lt;simp only[ak,am,au]at d0 d1;clear hC hE hk hN c1 cl;by_cases hlt:p+k<s.size
  ·have hki:decide ((s.size:Int)<=((p+k:Nat):Int))=false:=by simp;omega
   rw[hki]at hE1;obtain⟨r,hr⟩:∃r,r=p+k:=⟨_,rfl⟩;rw[<-hr]at d1 HCr hlt;have HR:=aa hr;clear hr;have hb:s[r].toNat=tb s r:=ia s r hlt;have hpi:(r:Int)<s.size:=by omega
   have hle:=jq s r;cases hd:ro (tb s r)with
   |true=>
    have h48:(48:Int)<=tb s r:=by simp[ro]at hd;omega
    have h57:(tb s r:Int)<=57:=by simp[ro]at hd;omega
    have Hd:=aa hd;clear hd;obtain⟨b,hbb⟩:∃b,b=tb s r:=⟨_,rfl⟩;rw[<-hbb]at hb h48 h57 hle;have HB:=aa hbb;clear hbb;go_wp2_with fail
    go_quiet((go_at_call 154;exact Calls.quiet_of (hE1.out _)))
    obtain⟨nq1,rfl⟩:∃m,m=nq:=⟨nq,rfl⟩;go_wp2_with fail
    go_quiet(fail)
    have HC2:=aa (HCr.out.drewN (nq1+nq));have HE2:=aa (HEr.out.two (Ex.of (S:=[C]) (cu (aw wr.heap.size wr) (nq1+nq))));go_wp2_with fail
    go_roundw
    case rel=>
     refine⟨k+1,min (dv s p (k+1)) 1000001,fun i hi=>?_,rfl,?_,by have:=HR.out;omega,?_,HE2.out.set C 1 _ (by simp)⟩
     ·by_cases h:i<k
      ·exact HK.out i h
      ·obtain rfl:i=k:=by omega
       rw[<-HR.out];exact⟨hlt,Hd.out⟩
     ·have h1:dv s p (k+1)=10*dv s p k+(b-48):=by rw[HB.out,HR.out];rfl
      have h2:=HN.out;have h3:min (10*(N:Int)+((b:Int)-48)) 1000001=((min (dv s p (k+1)) 1000001:Nat):Int):=by omega
      rw[h3]
     ·have h:=HC2.out.set 1 (.int .i64 ((r:Int)+1))
      have h4:((p+(k+1):Nat):Int)=(r:Int)+1:=by have:=HR.out;omega
      rw[h4];exact h
    case measure=>
     rw[uo HCr.out,uo (q:=r+1) (show At (((wr.drewN (nq1+nq)).setCell ⟨C,1,none⟩ (.int .i64 ((r:Int)+1)))) C (mj s ((r+1:Nat):Int) 0)from HC2.out.set 1 _)];omega
   |false=>
    have Hd:=aa hd;by_cases h48:(48:Int)<=tb s r
    ·have h57:=dig_no hd h48
     clear hd;go_wp2_with fail
     go_quiet((go_at_call 154;exact Calls.quiet_of (hE1.out _)))
     have HC2:=aa (HCr.out.drewN nq);have HE2:=aa (HEr.out.two (Ex.of (S:=[C]) (cu (aw wr.heap.size wr) nq)));have e0:=HC2.out.cell 0;have e1:=HC2.out.cell 1;have el:=HC2.out.lt;simp only[ak,am,au]at e0 e1;have hnd:¬(p+k<s.size/\ro (tb s (p+k))=true):=fun h=>by have:=h.2;rw[<-HR.out,Hd.out]at this;cases this
     have Hnd:=aa hnd;clear hnd d0 d1 fz dl hE1;have H6:=aa fun w' h=>i9 C s r 0 p 134 w' h
     by_cases hk0:k=0
     ·have hrp:((r:Int)==p)=true:=by have:=HR.out;simp;omega
      clear hk0;go_wp2_with(go_at_call 206;refine(H6.out _ HC2.out).mono ?_;rintro e w6⟨rfl,he6,hC6⟩;have E6:=aa (HE2.out.two he6);have C6:=aa hC6;clear he6 hC6)
      go_ret;exact⟨N,rfl,by omega,E6.out,.inl ⟨p,134,C6.out,⟨by omega,by omega⟩,by decide,by decide⟩⟩
     ·have hrp:((r:Int)==p)=false:=by have:=HR.out;rw[ax];omega
      have hps:p<s.size:=by have:=(HK.out 0 (by omega)).1;omega
      have hps2:(p:Int)<s.size:=by omega
      have hbp:s[p].toNat=tb s p:=ia s p hps;have Hk0:=aa hk0;clear hk0;by_cases h48:tb s p=48/\1<k
      ·have g1:((tb s p:Int)==48)=true:=by rw[h48.1];rfl
       have g2:(p:Int)+1<r:=by have:=HR.out;omega
       clear h48;go_wp2_with(go_at_call 206;refine(H6.out _ HC2.out).mono ?_;rintro e w6⟨rfl,he6,hC6⟩;have E6:=aa (HE2.out.two he6);have C6:=aa hC6;clear he6 hC6)
       go_ret;exact⟨N,rfl,by omega,E6.out,.inl ⟨p,134,C6.out,⟨by omega,by omega⟩,by decide,by decide⟩⟩
      ·by_cases hbig:(1000000:Int)<N
       ·skip
        have H48:=aa h48;clear h48;by_cases h0:tb s p=48
        ·have g1:((tb s p:Int)==48)=true:=by rw[h0];rfl
         have g2:¬(p:Int)+1<r:=by have:=HR.out;have:=H48.out;omega
         clear h0;go_wp2_with(go_at_call 206;refine(H6.out _ HC2.out).mono ?_;rintro e w6⟨rfl,he6,hC6⟩;have E6:=aa (HE2.out.two he6);have C6:=aa hC6;clear he6 hC6)
         go_ret;exact⟨N,rfl,by omega,E6.out,.inl ⟨p,134,C6.out,⟨by omega,by omega⟩,by decide,by decide⟩⟩
        ·have g1:((tb s p:Int)==48)=false:=by rw[ax];omega
         clear h0;go_wp2_with(go_at_call 206;refine(H6.out _ HC2.out).mono ?_;rintro e w6⟨rfl,he6,hC6⟩;have E6:=aa (HE2.out.two he6);have C6:=aa hC6;clear he6 hC6)
         go_ret;exact⟨N,rfl,by omega,E6.out,.inl ⟨p,134,C6.out,⟨by omega,by omega⟩,by decide,by decide⟩⟩
       ·skip
        have H48:=aa h48;clear h48;by_cases h0:tb s p=48
        ·have g1:((tb s p:Int)==48)=true:=by rw[h0];rfl
         have g2:¬(p:Int)+1<r:=by have:=HR.out;have:=H48.out;omega
         clear h0;go_wp2_with fail
         go_ret;exact⟨N,rfl,by omega,HE2.out,.inr ⟨r,HC2.out,k,Hk0.out,HK.out,Hnd.out,fun h=>by have:=H48.out;have:=Hk0.out;omega,by have:=HN.out;omega,by omega,HR.out⟩⟩
        ·have g1:((tb s p:Int)==48)=false:=by rw[ax];omega
         clear h0;go_wp2_with fail
         go_ret;exact⟨N,rfl,by omega,HE2.out,.inr ⟨r,HC2.out,k,Hk0.out,HK.out,Hnd.out,fun h=>by have:=H48.out;have:=Hk0.out;omega,by have:=HN.out;omega,by omega,HR.out⟩⟩
    ·clear hd
     have hdec:decide ((48:Int)<=(tb s r:Int))=false:=bv h48;clear h48;go_wp2_with fail
     go_quiet((go_at_call 154;exact Calls.quiet_of (hE1.out _)))
     have HC2:=aa (HCr.out.drewN nq);have HE2:=aa (HEr.out.two (Ex.of (S:=[C]) (cu (aw wr.heap.size wr) nq)));have e0:=HC2.out.cell 0;have e1:=HC2.out.cell 1;have el:=HC2.out.lt;simp only[ak,am,au]at e0 e1;have hnd:¬(p+k<s.size/\ro (tb s (p+k))=true):=fun h=>by have:=h.2;rw[<-HR.out,Hd.out]at this;cases this
     have Hnd:=aa hnd;clear hnd d0 d1 fz dl hE1;have H6:=aa fun w' h=>i9 C s r 0 p 134 w' h
     by_cases hk0:k=0
     ·have hrp:((r:Int)==p)=true:=by have:=HR.out;simp;omega
      clear hk0;go_wp2_with(go_at_call 206;refine(H6.out _ HC2.out).mono ?_;rintro e w6⟨rfl,he6,hC6⟩;have E6:=aa (HE2.out.two he6);have C6:=aa hC6;clear he6 hC6)
      go_ret;exact⟨N,rfl,by omega,E6.out,.inl ⟨p,134,C6.out,⟨by omega,by omega⟩,by decide,by decide⟩⟩
     ·have hrp:((r:Int)==p)=false:=by have:=HR.out;rw[ax];omega
      have hps:p<s.size:=by have:=(HK.out 0 (by omega)).1;omega
      have hps2:(p:Int)<s.size:=by omega
      have hbp:s[p].toNat=tb s p:=ia s p hps;have Hk0:=aa hk0;clear hk0;by_cases h48:tb s p=48/\1<k
      ·have g1:((tb s p:Int)==48)=true:=by rw[h48.1];rfl
       have g2:(p:Int)+1<r:=by have:=HR.out;omega
       clear h48;go_wp2_with(go_at_call 206;refine(H6.out _ HC2.out).mono ?_;rintro e w6⟨rfl,he6,hC6⟩;have E6:=aa (HE2.out.two he6);have C6:=aa hC6;clear he6 hC6)
       go_ret;exact⟨N,rfl,by omega,E6.out,.inl ⟨p,134,C6.out,⟨by omega,by omega⟩,by decide,by decide⟩⟩
      ·by_cases hbig:(1000000:Int)<N
       ·skip
        have H48:=aa h48;clear h48;by_cases h0:tb s p=48
        ·have g1:((tb s p:Int)==48)=true:=by rw[h0];rfl
         have g2:¬(p:Int)+1<r:=by have:=HR.out;have:=H48.out;omega
         clear h0;go_wp2_with(go_at_call 206;refine(H6.out _ HC2.out).mono ?_;rintro e w6⟨rfl,he6,hC6⟩;have E6:=aa (HE2.out.two he6);have C6:=aa hC6;clear he6 hC6)
         go_ret;exact⟨N,rfl,by omega,E6.out,.inl ⟨p,134,C6.out,⟨by omega,by omega⟩,by decide,by decide⟩⟩
        ·have g1:((tb s p:Int)==48)=false:=by rw[ax];omega
         clear h0;go_wp2_with(go_at_call 206;refine(H6.out _ HC2.out).mono ?_;rintro e w6⟨rfl,he6,hC6⟩;have E6:=aa (HE2.out.two he6);have C6:=aa hC6;clear he6 hC6)
         go_ret;exact⟨N,rfl,by omega,E6.out,.inl ⟨p,134,C6.out,⟨by omega,by omega⟩,by decide,by decide⟩⟩
       ·skip
        have H48:=aa h48;clear h48;by_cases h0:tb s p=48
        ·have g1:((tb s p:Int)==48)=true:=by rw[h0];rfl
         have g2:¬(p:Int)+1<r:=by have:=HR.out;have:=H48.out;omega
         clear h0;go_wp2_with fail
         go_ret;exact⟨N,rfl,by omega,HE2.out,.inr ⟨r,HC2.out,k,Hk0.out,HK.out,Hnd.out,fun h=>by have:=H48.out;have:=Hk0.out;omega,by have:=HN.out;omega,by omega,HR.out⟩⟩
        ·have g1:((tb s p:Int)==48)=false:=by rw[ax];omega
         clear h0;go_wp2_with fail
         go_ret;exact⟨N,rfl,by omega,HE2.out,.inr ⟨r,HC2.out,k,Hk0.out,HK.out,Hnd.out,fun h=>by have:=H48.out;have:=Hk0.out;omega,by have:=HN.out;omega,by omega,HR.out⟩⟩
  ·have hki:decide ((s.size:Int)<=((p+k:Nat):Int))=true:=by simp;omega
   rw[hki]at hE1;obtain⟨r,hr⟩:∃r,r=p+k:=⟨_,rfl⟩;have Hlt:=aa hlt;rw[<-hr]at d1 HCr;have HR:=aa hr;clear hr hlt hki;go_wp2_with fail
   go_quiet((go_at_call 154;exact Calls.quiet_of (hE1.out _)))
   have HC2:=aa (HCr.out.drewN nq);have HE2:=aa (HEr.out.two (Ex.of (S:=[C]) (cu (aw wr.heap.size wr) nq)));have e0:=HC2.out.cell 0;have e1:=HC2.out.cell 1;have el:=HC2.out.lt;simp only[ak,am,au]at e0 e1;have hnd:¬(p+k<s.size/\ro (tb s (p+k))=true):=fun h=>Hlt.out h.1
   have Hnd:=aa hnd;clear hnd d0 d1 fz dl hE1;have H6:=aa fun w' h=>i9 C s r 0 p 134 w' h
   by_cases hk0:k=0
   ·have hrp:((r:Int)==p)=true:=by have:=HR.out;simp;omega
    clear hk0;go_wp2_with(go_at_call 206;refine(H6.out _ HC2.out).mono ?_;rintro e w6⟨rfl,he6,hC6⟩;have E6:=aa (HE2.out.two he6);have C6:=aa hC6;clear he6 hC6)
    go_ret;exact⟨N,rfl,by omega,E6.out,.inl ⟨p,134,C6.out,⟨by omega,by omega⟩,by decide,by decide⟩⟩
   ·have hrp:((r:Int)==p)=false:=by have:=HR.out;rw[ax];omega
    have hps:p<s.size:=by have:=(HK.out 0 (by omega)).1;omega
    have hps2:(p:Int)<s.size:=by omega
    have hbp:s[p].toNat=tb s p:=ia s p hps;have Hk0:=aa hk0;clear hk0;by_cases h48:tb s p=48/\1<k
    ·have g1:((tb s p:Int)==48)=true:=by rw[h48.1];rfl
     have g2:(p:Int)+1<r:=by have:=HR.out;omega
     clear h48;go_wp2_with(go_at_call 206;refine(H6.out _ HC2.out).mono ?_;rintro e w6⟨rfl,he6,hC6⟩;have E6:=aa (HE2.out.two he6);have C6:=aa hC6;clear he6 hC6)
     go_ret;exact⟨N,rfl,by omega,E6.out,.inl ⟨p,134,C6.out,⟨by omega,by omega⟩,by decide,by decide⟩⟩
    ·by_cases hbig:(1000000:Int)<N
     ·skip
      have H48:=aa h48;clear h48;by_cases h0:tb s p=48
      ·have g1:((tb s p:Int)==48)=true:=by rw[h0];rfl
       have g2:¬(p:Int)+1<r:=by have:=HR.out;have:=H48.out;omega
       clear h0;go_wp2_with(go_at_call 206;refine(H6.out _ HC2.out).mono ?_;rintro e w6⟨rfl,he6,hC6⟩;have E6:=aa (HE2.out.two he6);have C6:=aa hC6;clear he6 hC6)
       go_ret;exact⟨N,rfl,by omega,E6.out,.inl ⟨p,134,C6.out,⟨by omega,by omega⟩,by decide,by decide⟩⟩
      ·have g1:((tb s p:Int)==48)=false:=by rw[ax];omega
       clear h0;go_wp2_with(go_at_call 206;refine(H6.out _ HC2.out).mono ?_;rintro e w6⟨rfl,he6,hC6⟩;have E6:=aa (HE2.out.two he6);have C6:=aa hC6;clear he6 hC6)
       go_ret;exact⟨N,rfl,by omega,E6.out,.inl ⟨p,134,C6.out,⟨by omega,by omega⟩,by decide,by decide⟩⟩
     ·skip
      have H48:=aa h48;clear h48;by_cases h0:tb s p=48
      ·have g1:((tb s p:Int)==48)=true:=by rw[h0];rfl
       have g2:¬(p:Int)+1<r:=by have:=HR.out;have:=H48.out;omega
       clear h0;go_wp2_with fail
       go_ret;exact⟨N,rfl,by omega,HE2.out,.inr ⟨r,HC2.out,k,Hk0.out,HK.out,Hnd.out,fun h=>by have:=H48.out;have:=Hk0.out;omega,by have:=HN.out;omega,by omega,HR.out⟩⟩
      ·have g1:((tb s p:Int)==48)=false:=by rw[ax];omega
       clear h0;go_wp2_with fail
       go_ret;exact⟨N,rfl,by omega,HE2.out,.inr ⟨r,HC2.out,k,Hk0.out,HK.out,Hnd.out,fun h=>by have:=H48.out;have:=Hk0.out;omega,by have:=HN.out;omega,by omega,HR.out⟩⟩
end
end Go.Proofs.YtjfkmoinldlmaaaGreat
