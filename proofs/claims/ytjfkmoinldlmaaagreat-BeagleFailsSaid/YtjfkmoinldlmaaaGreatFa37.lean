/- The walk of BeagleFails, part 37. Walk of the reference lexer's class. -/
import Derived.Test.YtjfkmoinldlmaaaGreatFa36
namespace Go.Proofs.YtjfkmoinldlmaaaGreat
open Go.Proofs.Tryz
section
set_option maxRecDepth 100000
set_option maxHeartbeats 4000000
open Go.RowKit Go.Shelf
def GotC(s:ByteArray)(o:Nat)(v:Value):Prop:=
 GBad v\/∃(S:Nat->Bool)(q:Nat),ue s o S q/\v=gv 0 (wd S 0) (wd S 1) (wd S 2) (wd S 3) (.slice none 0 0) 0 (q:Nat) 0
abbrev yh(nx e:Int):Obj:=.cells #[.int .u8 0,.int .u64 0,.int .u64 0,.int .u64 0,.int .u64 0,.slice none 0 0,.int .i64 0,.int .i64 nx,.int .i64 e] 120
abbrev gbO(b:Nat)(nx:Int):Obj:=.cells #[.int .u8 (b:Nat),.int .u64 0,.int .u64 0,.int .u64 0,.int .u64 0,.slice none 0 0,.int .i64 0,.int .i64 nx,.int .i64 0] 120
theorem aop{P:Program}{x y:Code}{Q:Exit->Act->World->Prop}{a:Act}{w:World}(I:Act->World->Prop)(h:x.wp P (Exit.then I Q) a w)(k:∀a w,I a w->y.wp P Q a w):(Code.seq x y).wp P Q a w:=
 wp_seq (Code.wp_mono (fun e a w he=>by cases e<;>first|exact k _ _ he|exact he) h)
theorem xw{P:Program}{x:Code}{K:Act->World->Prop}{Q:Exit->Act->World->Prop}{a:Act}{w:World}(I:Act->World->Prop)(h:x.wp P (Exit.then I Q) a w)(k:∀a w,I a w->K a w):x.wp P (Exit.then K Q) a w:=
 Code.wp_mono (fun e a w he=>by cases e<;>first|exact k _ _ he|exact he) h
structure RCSt(w0 w:World)(R O:Nat)(s:ByteArray)(o q n:Nat)(acc:Nat->Bool):Prop where
 hG:At w R (j7 0 0 0 0 0 (.slice none 0 0) 0 0 0)
 hO:fc w O acc
 bl:Below w0.heap.size w0 w
 ge:w0.heap.size<=R/\w0.heap.size<=O/\R≠O
 ql:q<=s.size
 nl:n<=q
 cps:∀out m p',sy s q acc n out m p'->sy s (if od s o=true then o+2 else o+1) fu 0 out m p'
def rclA(s:ByteArray)(o R q:Nat)(nb:Bool)(u:Nat->Value):Act:={tmps:=#[.string s,.int .i64 (o:Nat),u 2,u 3,.pointer (some ⟨R,0,none⟩),.int .i64 (q:Nat),.bool nb,u 7,u 8,u 9,u 10,u 11,u 12,u 13,u 14,u 15,u 16,u 17,u 18,u 19,u 20,u 21,u 22,u 23,u 24,u 25,u 26,u 27,u 28,u 29,u 30,u 31,u 32,u 33,u 34,u 35,u 36,u 37,u 38,u 39,u 40,u 41,u 42,u 43,u 44,u 45,u 46,u 47,u 48,u 49,u 50,u 51,u 52,u 53,u 54,u 55,u 56,u 57,u 58,u 59,u 60,u 61,u 62,u 63,u 64,u 65,u 66,u 67,u 68,u 69,u 70,u 71,u 72,u 73,u 74,u 75,u 76,u 77,u 78,u 79,u 80,u 81,u 82,u 83,u 84,u 85,u 86,u 87,u 88,u 89,u 90,u 91,u 92,u 93,u 94,u 95,u 96,u 97],defers:=[]}
theorem nj{s:ByteArray}{o R q:Nat}{nb:Bool}{a:Act}(hs:a.tmps.size=98)(hd:a.defers=[])(h0:a.tmps.getD 0 undef=.string s)(h1:a.tmps.getD 1 undef=.int .i64 (o:Nat))(h4:a.tmps.getD 4 undef=.pointer (some ⟨R,0,none⟩))(h5:a.tmps.getD 5 undef=.int .i64 (q:Nat))(h6:a.tmps.getD 6 undef=.bool nb):∃u,a=rclA s o R q nb u:=by
 refine⟨fun i=>a.tmps.getD i undef,?_⟩;unfold rclA;rw[<-h0,<-h1,<-h4,<-h5,<-h6];have h:=ut a.tmps 98 hs;obtain⟨t,d⟩:=a;cases hd;exact congrArg (fun x=>({tmps:=x,defers:=[]}:Act)) h
def rclB(s:ByteArray)(o R O q n:Nat)(nb:Bool)(u:Nat->Value):Act:={tmps:=#[.string s,.int .i64 (o:Nat),u 2,u 3,.pointer (some ⟨R,0,none⟩),.int .i64 (q:Nat),.bool nb,.int .i64 (n:Nat),.pointer (some ⟨O,0,none⟩),u 9,u 10,u 11,u 12,u 13,u 14,u 15,u 16,u 17,u 18,u 19,u 20,u 21,u 22,u 23,u 24,u 25,u 26,u 27,u 28,u 29,u 30,u 31,u 32,u 33,u 34,u 35,u 36,u 37,u 38,u 39,u 40,u 41,u 42,u 43,u 44,u 45,u 46,u 47,u 48,u 49,u 50,u 51,u 52,u 53,u 54,u 55,u 56,u 57,u 58,u 59,u 60,u 61,u 62,u 63,u 64,u 65,u 66,u 67,u 68,u 69,u 70,u 71,u 72,u 73,u 74,u 75,u 76,u 77,u 78,u 79,u 80,u 81,u 82,u 83,u 84,u 85,u 86,u 87,u 88,u 89,u 90,u 91,u 92,u 93,u 94,u 95,u 96,u 97],defers:=[]}
theorem ajx{s:ByteArray}{o R O q n:Nat}{nb:Bool}{a:Act}(hs:a.tmps.size=98)(hd:a.defers=[])(h0:a.tmps.getD 0 undef=.string s)(h1:a.tmps.getD 1 undef=.int .i64 (o:Nat))(h4:a.tmps.getD 4 undef=.pointer (some ⟨R,0,none⟩))(h5:a.tmps.getD 5 undef=.int .i64 (q:Nat))(h6:a.tmps.getD 6 undef=.bool nb)(h7:a.tmps.getD 7 undef=.int .i64 (n:Nat))(h8:a.tmps.getD 8 undef=.pointer (some ⟨O,0,none⟩)):∃u,a=rclB s o R O q n nb u:=by
 refine⟨fun i=>a.tmps.getD i undef,?_⟩;unfold rclB;rw[<-h0,<-h1,<-h4,<-h5,<-h6,<-h7,<-h8];have h:=ut a.tmps 98 hs;obtain⟨t,d⟩:=a;cases hd;exact congrArg (fun x=>({tmps:=x,defers:=[]}:Act)) h
def rclD(s:ByteArray)(o R O q n:Nat)(nb:Bool)(T U:Nat)(u:Nat->Value):Act:={tmps:=#[.string s,.int .i64 (o:Nat),u 2,u 3,.pointer (some ⟨R,0,none⟩),.int .i64 (q:Nat),.bool nb,.int .i64 (n:Nat),.pointer (some ⟨O,0,none⟩),.pointer (some ⟨T,0,none⟩),.pointer (some ⟨U,0,none⟩),u 11,u 12,u 13,u 14,u 15,u 16,u 17,u 18,u 19,u 20,u 21,u 22,u 23,u 24,u 25,u 26,u 27,u 28,u 29,u 30,u 31,u 32,u 33,u 34,u 35,u 36,u 37,u 38,u 39,u 40,u 41,u 42,u 43,u 44,u 45,u 46,u 47,u 48,u 49,u 50,u 51,u 52,u 53,u 54,u 55,u 56,u 57,u 58,u 59,u 60,u 61,u 62,u 63,u 64,u 65,u 66,u 67,u 68,u 69,u 70,u 71,u 72,u 73,u 74,u 75,u 76,u 77,u 78,u 79,u 80,u 81,u 82,u 83,u 84,u 85,u 86,u 87,u 88,u 89,u 90,u 91,u 92,u 93,u 94,u 95,u 96,u 97],defers:=[]}
theorem ajw{s:ByteArray}{o R O q n T U:Nat}{nb:Bool}{a:Act}(hs:a.tmps.size=98)(hd:a.defers=[])(h0:a.tmps.getD 0 undef=.string s)(h1:a.tmps.getD 1 undef=.int .i64 (o:Nat))(h4:a.tmps.getD 4 undef=.pointer (some ⟨R,0,none⟩))(h5:a.tmps.getD 5 undef=.int .i64 (q:Nat))(h6:a.tmps.getD 6 undef=.bool nb)(h7:a.tmps.getD 7 undef=.int .i64 (n:Nat))(h8:a.tmps.getD 8 undef=.pointer (some ⟨O,0,none⟩))(h9:a.tmps.getD 9 undef=.pointer (some ⟨T,0,none⟩))(h10:a.tmps.getD 10 undef=.pointer (some ⟨U,0,none⟩)):∃u,a=rclD s o R O q n nb T U u:=by
 refine⟨fun i=>a.tmps.getD i undef,?_⟩;unfold rclD;rw[<-h0,<-h1,<-h4,<-h5,<-h6,<-h7,<-h8,<-h9,<-h10];have h:=ut a.tmps 98 hs;obtain⟨t,d⟩:=a;cases hd;exact congrArg (fun x=>({tmps:=x,defers:=[]}:Act)) h
def rclC(s:ByteArray)(o R O q n:Nat)(nb:Bool)(T U:Nat)(d:Bool)(u:Nat->Value):Act:={tmps:=#[.string s,.int .i64 (o:Nat),u 2,u 3,.pointer (some ⟨R,0,none⟩),.int .i64 (q:Nat),.bool nb,.int .i64 (n:Nat),.pointer (some ⟨O,0,none⟩),.pointer (some ⟨T,0,none⟩),.pointer (some ⟨U,0,none⟩),u 11,u 12,u 13,u 14,u 15,u 16,u 17,u 18,u 19,u 20,u 21,u 22,u 23,u 24,u 25,u 26,u 27,u 28,u 29,u 30,u 31,u 32,u 33,u 34,u 35,u 36,u 37,u 38,u 39,u 40,u 41,u 42,u 43,u 44,u 45,u 46,u 47,u 48,u 49,u 50,u 51,u 52,u 53,u 54,.bool d,u 56,u 57,u 58,u 59,u 60,u 61,u 62,u 63,u 64,u 65,u 66,u 67,u 68,u 69,u 70,u 71,u 72,u 73,u 74,u 75,u 76,u 77,u 78,u 79,u 80,u 81,u 82,u 83,u 84,u 85,u 86,u 87,u 88,u 89,u 90,u 91,u 92,u 93,u 94,u 95,u 96,u 97],defers:=[]}
theorem adg{s:ByteArray}{o R O q n T U:Nat}{nb d:Bool}{a:Act}(hs:a.tmps.size=98)(hd:a.defers=[])(h0:a.tmps.getD 0 undef=.string s)(h1:a.tmps.getD 1 undef=.int .i64 (o:Nat))(h4:a.tmps.getD 4 undef=.pointer (some ⟨R,0,none⟩))(h5:a.tmps.getD 5 undef=.int .i64 (q:Nat))(h6:a.tmps.getD 6 undef=.bool nb)(h7:a.tmps.getD 7 undef=.int .i64 (n:Nat))(h8:a.tmps.getD 8 undef=.pointer (some ⟨O,0,none⟩))(h9:a.tmps.getD 9 undef=.pointer (some ⟨T,0,none⟩))(h10:a.tmps.getD 10 undef=.pointer (some ⟨U,0,none⟩))(h55:a.tmps.getD 55 undef=.bool d):∃u,a=rclC s o R O q n nb T U d u:=by
 refine⟨fun i=>a.tmps.getD i undef,?_⟩;unfold rclC;rw[<-h0,<-h1,<-h4,<-h5,<-h6,<-h7,<-h8,<-h9,<-h10,<-h55];have h:=ut a.tmps 98 hs;obtain⟨t,d⟩:=a;cases hd;exact congrArg (fun x=>({tmps:=x,defers:=[]}:Act)) h
structure RCIt(w0 w:World)(R O T U:Nat)(s:ByteArray)(o q n:Nat)(acc:Nat->Bool)(b c q1 q2:Nat):Prop where
 hG:At w R (j7 0 0 0 0 0 (.slice none 0 0) 0 0 0)
 hO:fc w O acc
 hT:At w T (j7 b 0 0 0 0 (.slice none 0 0) 0 (q1:Nat) 0)
 hU:At w U (j7 c 0 0 0 0 (.slice none 0 0) 0 (q2:Nat) 0)
 bl:Below w0.heap.size w0 w
 ge:w0.heap.size<=T/\w0.heap.size<=U/\T≠R/\U≠R/\T≠O/\U≠O/\T≠U
 bc:b<=255/\c<=255
 ql:q<q2/\q2<=s.size
 cps:∀out m p',sy s q2 (orS acc (ez b c)) (n+1) out m p'->sy s q acc n out m p'
def RCInv(w0:World)(R O:Nat)(s:ByteArray)(o:Nat)(a':Act)(w':World):Prop:=
 ∃(q n:Nat)(acc:Nat->Bool),(∃u,a'=rclB s o R O q n (od s o) u)/\RCSt w0 w' R O s o q n acc
def RCMid(w0:World)(R O T U:Nat)(s:ByteArray)(o q n:Nat)(acc:Nat->Bool)(b q1:Nat)(a':Act)(w':World):Prop:=
 ∃c q2:Nat,(∃u,a'=rclD s o R O q2 n (od s o) T U u)/\RCIt w0 w' R O T U s o q n acc b c q1 q2
def farS(s:ByteArray)(a:Act):Nat:=s.size-(intOf (a.tmps.getD 5 undef)).toNat
theorem At.puts{w:World}{A B:Nat}{o:Obj}(h:At w A o)(hn:B≠A)(v0 v1 v2 v3 v4 v5 v6 v7 v8:Value):
 At (((((((((w.setCell ⟨B,0,none⟩ v0).setCell ⟨B,1,none⟩ v1).setCell ⟨B,2,none⟩ v2).setCell ⟨B,3,none⟩ v3).setCell ⟨B,4,none⟩ v4).setCell ⟨B,5,none⟩ v5).setCell ⟨B,6,none⟩ v6).setCell ⟨B,7,none⟩ v7).setCell ⟨B,8,none⟩ v8) A o:=
 ((((((((h.far hn v0).far hn v1).far hn v2).far hn v3).far hn v4).far hn v5).far hn v6).far hn v7).far hn v8
theorem Holds.puts{w:World}{A B:Nat}{S:Nat->Bool}(h:fc w A S)(hn:B≠A)(v0 v1 v2 v3 v4 v5 v6 v7 v8:Value):
 fc (((((((((w.setCell ⟨B,0,none⟩ v0).setCell ⟨B,1,none⟩ v1).setCell ⟨B,2,none⟩ v2).setCell ⟨B,3,none⟩ v3).setCell ⟨B,4,none⟩ v4).setCell ⟨B,5,none⟩ v5).setCell ⟨B,6,none⟩ v6).setCell ⟨B,7,none⟩ v7).setCell ⟨B,8,none⟩ v8) A S:=by
 have one:∀(w:World)(j:Nat)(v:Value),fc w A S->fc (w.setCell ⟨B,j,none⟩ v) A S:=fun w j v h=>by
  have e:(w.setCell ⟨B,j,none⟩ v).heap[A]?=w.heap[A]?:=Below.heap_setCell _ _ _ A (fun e=>hn e.symm);exact h.ex (S:=[B]) ((Ex.refl [B] w).set B j v (by simp)) (by simpa using fun e=>hn e.symm)
 exact one _ _ _ (one _ _ _ (one _ _ _ (one _ _ _ (one _ _ _ (one _ _ _ (one _ _ _ (one _ _ _ (one _ _ _ h))))))))
theorem ahu(s:ByteArray)(o:Nat)(hs:s.size<=1000)(ho:o<s.size)(w:World):
 Calls prog 200 #[.string s,.int .i64 (o:Nat)] w fun e w'=>∃v,e=.returned v/\Below w.heap.size w w'/\GotC s o v:=by
 have hsi:(s.size:Int)<=1000:=by omega
 have hoi:(o:Int)<s.size:=by omega
 have HA:=aa (At.new w (j7 0 0 0 0 0 (.slice none 0 0) 0 0 0));have HB:=aa ((aw w.heap.size w).alloc ac (j7 0 0 0 0 0 (.slice none 0 0) 0 0 0));have hsz:(w.alloc (j7 0 0 0 0 0 (.slice none 0 0) 0 0 0)).heap.size=w.heap.size+1:=by simp
 have Hsz:=aa hsz;clear hsz;go_enter func200,ntmps200;go_upto_region 2 with fail
 generalize w.alloc (j7 0 0 0 0 0 (.slice none 0 0) 0 0 0)=W1 at *;rename_i hK;refine xw (fun a' w'=>w'=W1/\∃u,a'=rclA s o w.heap.size (o+1) (od s o) u) ?_ ?_
 ·by_cases h1:o+1<s.size
  ·have h1i:(o:Int)+1<s.size:=by omega
   have hb:s[o+1].toNat=tb s (o+1):=ia s (o+1) h1;by_cases h2:tb s (o+1)=94
   ·have h3:od s o=true:=by unfold od;simp[h1,h2]
    have g:((tb s (o+1):Int)==94)=true:=by rw[h2];rfl
    rw[h3];clear h2;go_wp2_with fail
    first|exact⟨trivial,nj rfl rfl rfl rfl rfl (by first|rfl|(congr 1;omega)) rfl⟩|exact nj rfl rfl rfl rfl rfl rfl rfl|exact⟨fun i=>if i=23 then .bool false else u i,by simp⟩
   ·have h3:od s o=false:=by unfold od;simp[h2]
    have g:((tb s (o+1):Int)==94)=false:=by rw[ax];omega
    rw[h3];clear h2;go_wp2_with fail
    first|exact⟨trivial,nj rfl rfl rfl rfl rfl (by first|rfl|(congr 1;omega)) rfl⟩|exact nj rfl rfl rfl rfl rfl rfl rfl|exact⟨fun i=>if i=23 then .bool false else u i,by simp⟩
  ·have h1i:decide ((o:Int)+1<s.size)=false:=bv (by omega)
   have h3:od s o=false:=by unfold od;simp[h1]
   rw[h3];go_wp2_with fail
   first|exact⟨trivial,nj rfl rfl rfl rfl rfl (by first|rfl|(congr 1;omega)) rfl⟩|exact nj rfl rfl rfl rfl rfl rfl rfl|exact⟨fun i=>if i=23 then .bool false else u i,by simp⟩
 rintro a1 w1⟨rfl,u,rfl⟩;refine hK _ _ ?_;clear hK;refine aop (fun a' w'=>w'=w1/\∃u,a'=rclA s o w.heap.size (if od s o=true then o+2 else o+1) (od s o) u) ?_ ?_
 ·cases hnb:od s o with
  |true=>
   unfold rclA;go_wp2_with fail
   first|exact⟨trivial,nj rfl rfl rfl rfl rfl (by first|rfl|(congr 1;omega)) rfl⟩|exact nj rfl rfl rfl rfl rfl rfl rfl|exact⟨fun i=>if i=23 then .bool false else u i,by simp⟩
  |false=>
   unfold rclA;go_wp2_with fail
   first|exact⟨trivial,nj rfl rfl rfl rfl rfl (by first|rfl|(congr 1;omega)) rfl⟩|exact nj rfl rfl rfl rfl rfl rfl rfl|exact⟨fun i=>if i=23 then .bool false else u i,by simp⟩
 rintro a2 w2⟨rfl,u2,rfl⟩;have hq0:(if od s o=true then o+2 else o+1)<=s.size:=by
  split
  ·next h=>unfold od at h;simp only[ce,cg]at h;omega
  ·omega
 have Hq0:=aa hq0;obtain⟨q0,hq⟩:∃q0,q0=if od s o=true then o+2 else o+1:=⟨_,rfl⟩
 have HQ:=aa hq;rw[<-hq];clear hq hq0;unfold rclA;go_wp2_with fail
 refine wp_loop (RCInv w w.heap.size w2.heap.size s o) (fun a' _=>farS s a') ?first ?round
 case first=>
  refine⟨q0,0,fu,ajx rfl rfl rfl rfl rfl rfl rfl rfl rfl,?_⟩;refine⟨HA.out.alloc _,fc.new0 w2,HB.out.alloc (by rw[Hsz.out];omega) _,⟨ac,by rw[Hsz.out];omega,by rw[Hsz.out];omega⟩,?_,cx _,?_⟩
  ·rw[HQ.out];exact Hq0.out
  ·rw[HQ.out];exact fun _ _ _ h=>h
 case round=>
  rintro a' wr⟨q,n,acc,⟨u,rfl⟩,H⟩;unfold rclB;have HH:=aa H;have HG:=aa H.hG;have HO:=aa H.hO;have HBl:=aa H.bl;have hql:=H.ql;clear H;by_cases h93:q<s.size/\tb s q=93
  ·have hqi:(q:Int)<s.size:=by omega
   have hlq:=h93.1;have hb:s[q].toNat=tb s q:=ia s q hlq;have g:((tb s q:Int) !=93)=false:=by rw[h93.2];rfl
   have H93:=aa h93;clear h93;have Hfin:=aa (HH.out.cps _ _ _ (.done q acc n H93.out.1 H93.out.2));have Hlq:=aa hlq;cases hnb:od s o with
   |false=>
    have Hnb:=aa hnb;clear hnb;obtain⟨⟨o0,o1,o2,o3⟩,-,ol⟩:=HO.out;obtain⟨⟨c0,c1,c2,c3,c4,c5,c6,c7,c8⟩,⟨f0,f1,f2,f3,f4,f5,f6,f7,f8⟩,hl⟩:=HG.out.nine;by_cases hn:n=0
    ·have hn0:((n:Int)==0)=true:=by rw[hn];rfl
     clear hn;go_wp2_with fail
     exact ay (v:=gv 0 0 0 0 0 (.slice none 0 0) 0 (o:Nat) 132) (by simp[results,results200,go_sem,c0,c1,c2,c3,c4,c5,c6,c7,c8]) rfl ⟨_,rfl,fg HBl.out ac ..,.inl ⟨_,_,rfl,by decide⟩⟩
    ·have hn0:((n:Int)==0)=false:=by rw[ax];omega
     have Hn:=aa hn;clear hn;have hsz:=aa fun w=>ui (acc) w
     by_cases hc:nt (acc)=0
     ·rw[hc]at hsz
      go_wp2_with(go_at_call 218;refine(hsz.out _).mono ?_;rintro e w8⟨rfl,hb8⟩;have HG8:=aa (HG.out.below hb8 HG.out.lt);have HO8:=aa (HO.out.below hb8 HO.out.2.2);have HB8:=aa (HBl.out.trans (hb8.mono HBl.out.size));obtain⟨⟨c0,c1,c2,c3,c4,c5,c6,c7,c8⟩,⟨f0,f1,f2,f3,f4,f5,f6,f7,f8⟩,hl⟩:=HG8.out.nine;obtain⟨⟨o0,o1,o2,o3⟩,-,ol⟩:=HO8.out;clear hb8)
      exact ay (v:=gv 0 0 0 0 0 (.slice none 0 0) 0 (o:Nat) 132) (by simp[results,results200,go_sem,c0,c1,c2,c3,c4,c5,c6,c7,c8]) rfl ⟨_,rfl,fg HB8.out ac ..,.inl ⟨_,_,rfl,by decide⟩⟩
     ·have hc0:((nt (acc):Int)==0)=false:=by rw[ax];omega
      have Hc:=aa hc;clear hc;go_wp2_with(go_at_call 218;refine(hsz.out _).mono ?_;rintro e w8⟨rfl,hb8⟩;have HG8:=aa (HG.out.below hb8 HG.out.lt);have HO8:=aa (HO.out.below hb8 HO.out.2.2);have HB8:=aa (HBl.out.trans (hb8.mono HBl.out.size));obtain⟨⟨c0,c1,c2,c3,c4,c5,c6,c7,c8⟩,⟨f0,f1,f2,f3,f4,f5,f6,f7,f8⟩,hl⟩:=HG8.out.nine;obtain⟨⟨o0,o1,o2,o3⟩,-,ol⟩:=HO8.out;clear hb8)
      exact ay (v:=gv 0 (wd (acc) 0) (wd (acc) 1) (wd (acc) 2) (wd (acc) 3) (.slice none 0 0) 0 ((q+1:Nat):Int) 0) (by simp[results,results200,go_sem,c0,c1,c2,c3,c4,c5,c6,c7,c8]) rfl ⟨_,rfl,fg HB8.out ac ..,.inr ⟨_,q+1,⟨acc,n,q,Hfin.out,Hn.out,by rw[Hnb.out];rfl,rfl⟩,rfl⟩⟩
   |true=>
    have Hnb:=aa hnb;clear hnb;have hno:=aa fun w=>apq acc w
    obtain⟨⟨o0,o1,o2,o3⟩,⟨y0,y1,y2,y3⟩,ol⟩:=HO.out;go_upto_region 24 with(go_at_call 223;refine(hno.out _).mono ?_;rintro e w7⟨rfl,hb7⟩;have HG7:=aa (HG.out.below hb7 HG.out.lt);have HO7:=aa (HO.out.below hb7 HO.out.2.2);have HB7:=aa (HBl.out.trans (hb7.mono HBl.out.size));obtain⟨⟨p0,p1,p2,p3⟩,⟨x0,x1,x2,x3⟩,xl⟩:=HO7.out;clear hb7)
    have hG8:At ((((w7.setCell ⟨w2.heap.size,0,none⟩ (.int .u64 (wd (fun n=> !acc n) 0:Nat))).setCell ⟨w2.heap.size,1,none⟩ (.int .u64 (wd (fun n=> !acc n) 1:Nat))).setCell ⟨w2.heap.size,2,none⟩ (.int .u64 (wd (fun n=> !acc n) 2:Nat))).setCell ⟨w2.heap.size,3,none⟩ (.int .u64 (wd (fun n=> !acc n) 3:Nat))) w.heap.size (j7 0 0 0 0 0 (.slice none 0 0) 0 0 0):=HG7.out.setC (fun n=> !acc n) (fun e=>HH.out.ge.2.2 e.symm);have hO8:fc ((((w7.setCell ⟨w2.heap.size,0,none⟩ (.int .u64 (wd (fun n=> !acc n) 0:Nat))).setCell ⟨w2.heap.size,1,none⟩ (.int .u64 (wd (fun n=> !acc n) 1:Nat))).setCell ⟨w2.heap.size,2,none⟩ (.int .u64 (wd (fun n=> !acc n) 2:Nat))).setCell ⟨w2.heap.size,3,none⟩ (.int .u64 (wd (fun n=> !acc n) 3:Nat))) w2.heap.size (fun n=> !acc n):=HO7.out.set (fun n=> !acc n);have hB8:Below w.heap.size w ((((w7.setCell ⟨w2.heap.size,0,none⟩ (.int .u64 (wd (fun n=> !acc n) 0:Nat))).setCell ⟨w2.heap.size,1,none⟩ (.int .u64 (wd (fun n=> !acc n) 1:Nat))).setCell ⟨w2.heap.size,2,none⟩ (.int .u64 (wd (fun n=> !acc n) 2:Nat))).setCell ⟨w2.heap.size,3,none⟩ (.int .u64 (wd (fun n=> !acc n) 3:Nat))):=jg HB7.out HH.out.ge.2.1 (fun n=> !acc n);generalize (((w7.setCell ⟨w2.heap.size,0,none⟩ (.int .u64 (wd (fun n=> !acc n) 0:Nat))).setCell ⟨w2.heap.size,1,none⟩ (.int .u64 (wd (fun n=> !acc n) 1:Nat))).setCell ⟨w2.heap.size,2,none⟩ (.int .u64 (wd (fun n=> !acc n) 2:Nat))).setCell ⟨w2.heap.size,3,none⟩ (.int .u64 (wd (fun n=> !acc n) 3:Nat))=W8 at *;clear o0 o1 o2 o3 y0 y1 y2 y3 ol p0 p1 p2 p3 x0 x1 x2 x3 xl HO7 HG7 HB7 hno;have HGn:=aa hG8;have HOn:=aa hO8;have HBn:=aa hB8;clear hG8 hO8 hB8;obtain⟨⟨o0,o1,o2,o3⟩,-,ol⟩:=HOn.out;obtain⟨⟨c0,c1,c2,c3,c4,c5,c6,c7,c8⟩,⟨f0,f1,f2,f3,f4,f5,f6,f7,f8⟩,hl⟩:=HGn.out.nine;by_cases hn:n=0
    ·have hn0:((n:Int)==0)=true:=by rw[hn];rfl
     clear hn;go_wp2_with fail
     exact ay (v:=gv 0 0 0 0 0 (.slice none 0 0) 0 (o:Nat) 132) (by simp[results,results200,go_sem,c0,c1,c2,c3,c4,c5,c6,c7,c8]) rfl ⟨_,rfl,fg HBn.out ac ..,.inl ⟨_,_,rfl,by decide⟩⟩
    ·have hn0:((n:Int)==0)=false:=by rw[ax];omega
     have Hn:=aa hn;clear hn;have hsz:=aa fun w=>ui (fun n=> !acc n) w
     by_cases hc:nt (fun n=> !acc n)=0
     ·rw[hc]at hsz
      go_wp2_with(go_at_call 218;refine(hsz.out _).mono ?_;rintro e w8⟨rfl,hb8⟩;have HG8:=aa (HGn.out.below hb8 HGn.out.lt);have HO8:=aa (HOn.out.below hb8 HOn.out.2.2);have HB8:=aa (HBn.out.trans (hb8.mono HBn.out.size));obtain⟨⟨c0,c1,c2,c3,c4,c5,c6,c7,c8⟩,⟨f0,f1,f2,f3,f4,f5,f6,f7,f8⟩,hl⟩:=HG8.out.nine;obtain⟨⟨o0,o1,o2,o3⟩,-,ol⟩:=HO8.out;clear hb8)
      exact ay (v:=gv 0 0 0 0 0 (.slice none 0 0) 0 (o:Nat) 132) (by simp[results,results200,go_sem,c0,c1,c2,c3,c4,c5,c6,c7,c8]) rfl ⟨_,rfl,fg HB8.out ac ..,.inl ⟨_,_,rfl,by decide⟩⟩
     ·have hc0:((nt (fun n=> !acc n):Int)==0)=false:=by rw[ax];omega
      have Hc:=aa hc;clear hc;go_wp2_with(go_at_call 218;refine(hsz.out _).mono ?_;rintro e w8⟨rfl,hb8⟩;have HG8:=aa (HGn.out.below hb8 HGn.out.lt);have HO8:=aa (HOn.out.below hb8 HOn.out.2.2);have HB8:=aa (HBn.out.trans (hb8.mono HBn.out.size));obtain⟨⟨c0,c1,c2,c3,c4,c5,c6,c7,c8⟩,⟨f0,f1,f2,f3,f4,f5,f6,f7,f8⟩,hl⟩:=HG8.out.nine;obtain⟨⟨o0,o1,o2,o3⟩,-,ol⟩:=HO8.out;clear hb8)
      exact ay (v:=gv 0 (wd (fun n=> !acc n) 0) (wd (fun n=> !acc n) 1) (wd (fun n=> !acc n) 2) (wd (fun n=> !acc n) 3) (.slice none 0 0) 0 ((q+1:Nat):Int) 0) (by simp[results,results200,go_sem,c0,c1,c2,c3,c4,c5,c6,c7,c8]) rfl ⟨_,rfl,fg HB8.out ac ..,.inr ⟨_,q+1,⟨acc,n,q,Hfin.out,Hn.out,by rw[Hnb.out];rfl,rfl⟩,rfl⟩⟩
  ·have H93:=aa h93
   have h3:=aa fun w=>ach s q hs w
   by_cases hlt:q<s.size
   ·have hqi:(q:Int)<s.size:=by omega
    have hb:s[q].toNat=tb s q:=ia s q hlt;have g:((tb s q:Int) !=93)=true:=by rw[bne_iff_ne];omega
    clear h93;go_wp2_with fail
    go_at_call 221;refine(h3.out _).mono ?_;rintro e w3⟨v,rfl,hb3,hg⟩;have HG3:=aa (HG.out.below hb3 HG.out.lt);have HO3:=aa (HO.out.below hb3 HO.out.2.2);have HB3:=aa (HBl.out.trans (hb3.mono (HBl.out.size)));obtain⟨⟨c0,c1,c2,c3,c4,c5,c6,c7,c8⟩,⟨f0,f1,f2,f3,f4,f5,f6,f7,f8⟩,hl⟩:=HG3.out.nine;clear hb3;obtain⟨nx,e,rfl,hne⟩|⟨b,q1,hE,rfl⟩:=hg
    ·have hne2:(e !=0)=true:=by rw[bne_iff_ne];exact hne
     go_upto_region 9 with fail
     have HG4:=aa (HG3.out.alloc (yh nx e));have HT4:=aa (At.new w3 (yh nx e));have HB4:=aa (HB3.out.alloc (HB3.out.size) (yh nx e));generalize w3.alloc (yh nx e)=W4 at *;clear c0 c1 c2 c3 c4 c5 c6 c7 c8 f0 f1 f2 f3 f4 f5 f6 f7 f8 hl;obtain⟨⟨c0,c1,c2,c3,c4,c5,c6,c7,c8⟩,⟨f0,f1,f2,f3,f4,f5,f6,f7,f8⟩,hl⟩:=HG4.out.nine;obtain⟨⟨t0,t1,t2,t3,t4,t5,t6,t7,t8⟩,-,tl⟩:=At.nine (b:=0) (x0:=0) (x1:=0) (x2:=0) (x3:=0) HT4.out;go_wp2_with fail
     exact ay (v:=gv 0 0 0 0 0 (.slice none 0 0) 0 nx e) (by simp[results,results200,go_sem,c0,c1,c2,c3,c4,c5,c6,c7,c8]) rfl ⟨_,rfl,fg HB4.out ac ..,.inl ⟨_,_,rfl,hne⟩⟩
    ·have HE:=aa hE
     have hlt1:=p9 hE;clear hE;go_upto_region 13 with fail
     have hb':Below w3.heap.size w3 ((w3.alloc (gbO b (q1:Nat))).alloc (gbO b (q1:Nat))):=(ae.alloc ac _).alloc (by simp) _;have hT5:At ((w3.alloc (gbO b (q1:Nat))).alloc (gbO b (q1:Nat))) w3.heap.size (j7 b 0 0 0 0 (.slice none 0 0) 0 (q1:Nat) 0):=(At.new w3 (gbO b (q1:Nat))).alloc (gbO b (q1:Nat));have hU5:At ((w3.alloc (gbO b (q1:Nat))).alloc (gbO b (q1:Nat))) (w3.heap.size+1) (j7 b 0 0 0 0 (.slice none 0 0) 0 (q1:Nat) 0):=by
      have h:=At.new (w3.alloc (gbO b (q1:Nat))) (gbO b (q1:Nat));rw[bg]at h;exact h
     have HG5:=aa (HG3.out.below hb' HG3.out.lt);have HO5:=aa (HO3.out.below hb' HO3.out.2.2);have HT5:=aa hT5;have HU5:=aa hU5;have HB5:=aa (HB3.out.trans (hb'.mono HB3.out.size));have hge:w.heap.size<=w3.heap.size/\w.heap.size<=w3.heap.size+1/\w3.heap.size≠w.heap.size/\w3.heap.size+1≠w.heap.size/\w3.heap.size≠w2.heap.size/\w3.heap.size+1≠w2.heap.size/\w3.heap.size≠w3.heap.size+1:=by
      have:=HB3.out.size;have:=HG3.out.lt;have:=HO3.out.2.2;omega
     have Hge:=aa hge;clear hb' hT5 hU5 hge;clear c0 c1 c2 c3 c4 c5 c6 c7 c8 f0 f1 f2 f3 f4 f5 f6 f7 f8 hl;generalize ((w3.alloc (gbO b (q1:Nat))).alloc (gbO b (q1:Nat)))=W5 at *;generalize w3.heap.size=T at *;generalize hU:T+1=U at *;rename_i hK;refine xw (fun a' w'=>w'=W5/\∃u,a'=rclC s o w.heap.size w2.heap.size q1 n (od s o) T U (decide (q1<s.size)&&(tb s q1==45)) u) ?_ ?_
     ·by_cases h1:q1<s.size
      ·have h1i:(q1:Int)<s.size:=by omega
       have hb1:s[q1].toNat=tb s q1:=ia s q1 h1;by_cases h2:tb s q1=45
       ·have h3:(decide (q1<s.size)&&(tb s q1==45))=true:=by simp[h1,h2]
        have g:((tb s q1:Int)==45)=true:=by rw[h2];rfl
        rw[h3];clear h2;go_wp2_with fail
        exact⟨trivial,adg rfl rfl rfl rfl rfl rfl rfl rfl rfl rfl rfl rfl⟩
       ·have h3:(decide (q1<s.size)&&(tb s q1==45))=false:=by simp[h2]
        have g:((tb s q1:Int)==45)=false:=by rw[ax];omega
        rw[h3];clear h2;go_wp2_with fail
        exact⟨trivial,adg rfl rfl rfl rfl rfl rfl rfl rfl rfl rfl rfl rfl⟩
      ·have h1i:decide ((q1:Int)<s.size)=false:=bv (by omega)
       have h3:(decide (q1<s.size)&&(tb s q1==45))=false:=by simp[h1]
       rw[h3];go_wp2_with fail
       exact⟨trivial,adg rfl rfl rfl rfl rfl rfl rfl rfl rfl rfl rfl rfl⟩
     rintro a5 w5⟨rfl,u5,rfl⟩;refine hK _ _ ?_;clear hK;rename_i hK K0;refine xw (RCMid w w.heap.size w2.heap.size T U s o q n acc b q1) ?_ ?_
     ·by_cases hd:q1<s.size/\tb s q1=45
      ·have h3:(decide (q1<s.size)&&(tb s q1==45))=true:=by simp[hd.1,hd.2]
       rw[h3];unfold rclC;go_wp2_with fail
       have Hd:=aa hd;have h5:∀w,Calls prog 221 #[.string s,.int .i64 ((q1:Int)+1)] w fun e w'=>∃v,e=.returned v/\Below w.heap.size w w'/\GotB (lq s (q1+1)) v:=fun w=>by
        have h:=ach s (q1+1) hs w;rwa[show(((q1+1:Nat)):Int)=(q1:Int)+1 by omega]at h
       refine(h5 _).mono ?_;clear h5 hd;rintro e w6⟨v,rfl,hb6,hg⟩;have HG6:=aa (HG5.out.below hb6 HG5.out.lt);have HO6:=aa (HO5.out.below hb6 HO5.out.2.2);have HT6:=aa (HT5.out.below hb6 HT5.out.lt);have HU6:=aa (HU5.out.below hb6 HU5.out.lt);have HB6:=aa (HB5.out.trans (hb6.mono HB5.out.size));clear hb6;obtain⟨⟨c0,c1,c2,c3,c4,c5,c6,c7,c8⟩,⟨f0,f1,f2,f3,f4,f5,f6,f7,f8⟩,hl⟩:=HU6.out.nine;obtain⟨nx,e,rfl,hne⟩|⟨c,q2,hE2,rfl⟩:=hg
       ·have hne2:(e !=0)=true:=by rw[bne_iff_ne];exact hne
        go_upto_region 15 with fail
        have hU7:At (((((((((w6.setCell ⟨U,0,none⟩ (.int .u8 0)).setCell ⟨U,1,none⟩ (.int .u64 0)).setCell ⟨U,2,none⟩ (.int .u64 0)).setCell ⟨U,3,none⟩ (.int .u64 0)).setCell ⟨U,4,none⟩ (.int .u64 0)).setCell ⟨U,5,none⟩ (.slice none 0 0)).setCell ⟨U,6,none⟩ (.int .i64 0)).setCell ⟨U,7,none⟩ (.int .i64 nx)).setCell ⟨U,8,none⟩ (.int .i64 e)) U (j7 0 0 0 0 0 (.slice none 0 0) 0 nx e):=HU6.out.put9 0 0 0 0 0 (.slice none 0 0) 0 nx e;have hG7:At (((((((((w6.setCell ⟨U,0,none⟩ (.int .u8 0)).setCell ⟨U,1,none⟩ (.int .u64 0)).setCell ⟨U,2,none⟩ (.int .u64 0)).setCell ⟨U,3,none⟩ (.int .u64 0)).setCell ⟨U,4,none⟩ (.int .u64 0)).setCell ⟨U,5,none⟩ (.slice none 0 0)).setCell ⟨U,6,none⟩ (.int .i64 0)).setCell ⟨U,7,none⟩ (.int .i64 nx)).setCell ⟨U,8,none⟩ (.int .i64 e)) w.heap.size (j7 0 0 0 0 0 (.slice none 0 0) 0 0 0):=HG6.out.puts Hge.out.2.2.2.1 _ _ _ _ _ _ _ _ _;have hB7:Below w.heap.size w (((((((((w6.setCell ⟨U,0,none⟩ (.int .u8 0)).setCell ⟨U,1,none⟩ (.int .u64 0)).setCell ⟨U,2,none⟩ (.int .u64 0)).setCell ⟨U,3,none⟩ (.int .u64 0)).setCell ⟨U,4,none⟩ (.int .u64 0)).setCell ⟨U,5,none⟩ (.slice none 0 0)).setCell ⟨U,6,none⟩ (.int .i64 0)).setCell ⟨U,7,none⟩ (.int .i64 nx)).setCell ⟨U,8,none⟩ (.int .i64 e)):=fg HB6.out Hge.out.2.1 0 0 0 0 0 (.slice none 0 0) 0 nx e;have HU7:=aa hU7;have HG7:=aa hG7;have HB7:=aa hB7;clear hU7 hG7 hB7 c0 c1 c2 c3 c4 c5 c6 c7 c8 f0 f1 f2 f3 f4 f5 f6 f7 f8 hl;generalize (((((((((w6.setCell ⟨U,0,none⟩ (.int .u8 0)).setCell ⟨U,1,none⟩ (.int .u64 0)).setCell ⟨U,2,none⟩ (.int .u64 0)).setCell ⟨U,3,none⟩ (.int .u64 0)).setCell ⟨U,4,none⟩ (.int .u64 0)).setCell ⟨U,5,none⟩ (.slice none 0 0)).setCell ⟨U,6,none⟩ (.int .i64 0)).setCell ⟨U,7,none⟩ (.int .i64 nx)).setCell ⟨U,8,none⟩ (.int .i64 e))=W7 at *;obtain⟨⟨c0,c1,c2,c3,c4,c5,c6,c7,c8⟩,⟨f0,f1,f2,f3,f4,f5,f6,f7,f8⟩,hl⟩:=HG7.out.nine;obtain⟨⟨v0,v1,v2,v3,v4,v5,v6,v7,v8⟩,-,vl⟩:=HU7.out.nine;go_wp2_with fail
        exact ay (v:=gv 0 0 0 0 0 (.slice none 0 0) 0 nx e) (by simp[results,results200,go_sem,c0,c1,c2,c3,c4,c5,c6,c7,c8]) rfl ⟨_,rfl,fg HB7.out ac ..,.inl ⟨_,_,rfl,hne⟩⟩
       ·have hlt2:=p9 hE2
        have HE2:=aa hE2;clear hE2;go_upto_region 15 with fail
        have hU7:At (((((((((w6.setCell ⟨U,0,none⟩ (.int .u8 (c:Nat))).setCell ⟨U,1,none⟩ (.int .u64 0)).setCell ⟨U,2,none⟩ (.int .u64 0)).setCell ⟨U,3,none⟩ (.int .u64 0)).setCell ⟨U,4,none⟩ (.int .u64 0)).setCell ⟨U,5,none⟩ (.slice none 0 0)).setCell ⟨U,6,none⟩ (.int .i64 0)).setCell ⟨U,7,none⟩ (.int .i64 (q2:Nat))).setCell ⟨U,8,none⟩ (.int .i64 0)) U (j7 c 0 0 0 0 (.slice none 0 0) 0 (q2:Nat) 0):=HU6.out.put9 c 0 0 0 0 (.slice none 0 0) 0 (q2:Nat) 0;have hG7:At (((((((((w6.setCell ⟨U,0,none⟩ (.int .u8 (c:Nat))).setCell ⟨U,1,none⟩ (.int .u64 0)).setCell ⟨U,2,none⟩ (.int .u64 0)).setCell ⟨U,3,none⟩ (.int .u64 0)).setCell ⟨U,4,none⟩ (.int .u64 0)).setCell ⟨U,5,none⟩ (.slice none 0 0)).setCell ⟨U,6,none⟩ (.int .i64 0)).setCell ⟨U,7,none⟩ (.int .i64 (q2:Nat))).setCell ⟨U,8,none⟩ (.int .i64 0)) w.heap.size (j7 0 0 0 0 0 (.slice none 0 0) 0 0 0):=HG6.out.puts Hge.out.2.2.2.1 _ _ _ _ _ _ _ _ _;have hT7:At (((((((((w6.setCell ⟨U,0,none⟩ (.int .u8 (c:Nat))).setCell ⟨U,1,none⟩ (.int .u64 0)).setCell ⟨U,2,none⟩ (.int .u64 0)).setCell ⟨U,3,none⟩ (.int .u64 0)).setCell ⟨U,4,none⟩ (.int .u64 0)).setCell ⟨U,5,none⟩ (.slice none 0 0)).setCell ⟨U,6,none⟩ (.int .i64 0)).setCell ⟨U,7,none⟩ (.int .i64 (q2:Nat))).setCell ⟨U,8,none⟩ (.int .i64 0)) T (j7 b 0 0 0 0 (.slice none 0 0) 0 (q1:Nat) 0):=HT6.out.puts (fun e=>Hge.out.2.2.2.2.2.2 e.symm) _ _ _ _ _ _ _ _ _;have hO7:fc (((((((((w6.setCell ⟨U,0,none⟩ (.int .u8 (c:Nat))).setCell ⟨U,1,none⟩ (.int .u64 0)).setCell ⟨U,2,none⟩ (.int .u64 0)).setCell ⟨U,3,none⟩ (.int .u64 0)).setCell ⟨U,4,none⟩ (.int .u64 0)).setCell ⟨U,5,none⟩ (.slice none 0 0)).setCell ⟨U,6,none⟩ (.int .i64 0)).setCell ⟨U,7,none⟩ (.int .i64 (q2:Nat))).setCell ⟨U,8,none⟩ (.int .i64 0)) w2.heap.size acc:=Holds.puts HO6.out Hge.out.2.2.2.2.2.1 _ _ _ _ _ _ _ _ _;have hB7:Below w.heap.size w (((((((((w6.setCell ⟨U,0,none⟩ (.int .u8 (c:Nat))).setCell ⟨U,1,none⟩ (.int .u64 0)).setCell ⟨U,2,none⟩ (.int .u64 0)).setCell ⟨U,3,none⟩ (.int .u64 0)).setCell ⟨U,4,none⟩ (.int .u64 0)).setCell ⟨U,5,none⟩ (.slice none 0 0)).setCell ⟨U,6,none⟩ (.int .i64 0)).setCell ⟨U,7,none⟩ (.int .i64 (q2:Nat))).setCell ⟨U,8,none⟩ (.int .i64 0)):=fg HB6.out Hge.out.2.1 c 0 0 0 0 (.slice none 0 0) 0 (q2:Nat) 0;have HU7:=aa hU7;have HG7:=aa hG7;have HT7:=aa hT7;have HO7:=aa hO7;have HB7:=aa hB7;clear hU7 hG7 hT7 hO7 hB7 c0 c1 c2 c3 c4 c5 c6 c7 c8 f0 f1 f2 f3 f4 f5 f6 f7 f8 hl;generalize (((((((((w6.setCell ⟨U,0,none⟩ (.int .u8 (c:Nat))).setCell ⟨U,1,none⟩ (.int .u64 0)).setCell ⟨U,2,none⟩ (.int .u64 0)).setCell ⟨U,3,none⟩ (.int .u64 0)).setCell ⟨U,4,none⟩ (.int .u64 0)).setCell ⟨U,5,none⟩ (.slice none 0 0)).setCell ⟨U,6,none⟩ (.int .i64 0)).setCell ⟨U,7,none⟩ (.int .i64 (q2:Nat))).setCell ⟨U,8,none⟩ (.int .i64 0))=W7 at *;obtain⟨⟨c0,c1,c2,c3,c4,c5,c6,c7,c8⟩,⟨f0,f1,f2,f3,f4,f5,f6,f7,f8⟩,hl⟩:=HG7.out.nine;obtain⟨⟨v0,v1,v2,v3,v4,v5,v6,v7,v8⟩,-,vl⟩:=HU7.out.nine;obtain⟨⟨t0,t1,t2,t3,t4,t5,t6,t7,t8⟩,-,tl⟩:=HT7.out.nine;by_cases hcb:(c:Int)<b
        ·go_wp2_with fail
         exact ay (v:=gv 0 0 0 0 0 (.slice none 0 0) 0 (q1:Nat) 132) (by simp[results,results200,go_sem,c0,c1,c2,c3,c4,c5,c6,c7,c8]) rfl ⟨_,rfl,fg HB7.out ac ..,.inl ⟨_,_,rfl,by decide⟩⟩
        ·go_wp2_with fail
         exact⟨c,q2,ajw rfl rfl rfl rfl rfl rfl rfl rfl rfl rfl rfl,HG7.out,HO7.out,HT7.out,HU7.out,HB7.out,Hge.out,⟨hlt1.1,hlt2.1⟩,⟨by omega,hlt2.2.1⟩,fun out m p' h=>.two _ _ _ b q1 c q2 _ _ _ HE.out Hd.out.1 Hd.out.2 HE2.out (by omega) h⟩
      ·have h3:(decide (q1<s.size)&&(tb s q1==45))=false:=by
        rw[Bool.and_eq_false_iff];by_cases h:q1<s.size
        ·right;rw[ax];exact fun k=>hd ⟨h,k⟩
        ·left;simp[h]
       rw[h3];have Hd:=aa hd;clear hd h3;unfold rclC;go_wp2_with fail
       exact⟨b,q1,ajw rfl rfl rfl rfl rfl rfl rfl rfl rfl rfl rfl,HG5.out,HO5.out,HT5.out,HU5.out,HB5.out,Hge.out,⟨hlt1.1,hlt1.1⟩,⟨hlt1.2.2,hlt1.2.1⟩,fun out m p' h=>.one _ _ _ b q1 _ _ _ HE.out Hd.out h⟩
     rintro a6 w6⟨c,q2,⟨u6,rfl⟩,HM⟩;refine hK _ _ ?_;clear hK;unfold rclD;have HMM:=aa HM;have hbc:=HM.bc;have hql2:=HM.ql;have hni:(n:Int)<=1000:=by have:=HH.out.nl;omega
     have w1':IntKind.i64.wrap ((n:Int)+1)=(n:Int)+1:=by rw[ci];omega
     obtain⟨⟨t0,t1,t2,t3,t4,t5,t6,t7,t8⟩,-,tl⟩:=HM.hT.nine;obtain⟨⟨v0,v1,v2,v3,v4,v5,v6,v7,v8⟩,-,vl⟩:=HM.hU.nine;clear t1 t2 t3 t4 t5 t6 t7 t8 v1 v2 v3 v4 v5 v6 v7 v8;have HOx:=aa HM.hO;obtain⟨⟨o0,o1,o2,o3⟩,-,ol⟩:=HM.hO;clear HM;have hrg:=aa (fun w:World=>show Calls prog 203 #[.int .u8 (b:Nat),.int .u8 (c:Nat)] w (fun e w'=>e=.returned (cv (ez b c))/\Below w.heap.size w w')from m8 (b:Nat) (c:Nat) (by omega) (by omega) (by omega) (by omega) w);have hor:=aa fun w'=>ror_any acc (ez b c) w'
     go_wp2_with fail
     go_region_with(first|(go_at_call 203;refine(hrg.out _).mono ?_;rintro e wa⟨rfl,hba⟩;have hOa:=fc.below (w:=w6.drew) HOx.out hba ol;have Hba:=aa hba;have HOa:=aa hOa;obtain⟨⟨a0,a1,a2,a3⟩,-,al⟩:=hOa;clear hba)|(go_at_call 222;refine(hor.out _).mono ?_;rintro e wb⟨rfl,hbw⟩;have hOb:=HOa.out.below hbw HOa.out.2.2;have Hbb:=aa hbw;have HOb:=aa hOb;obtain⟨⟨p0,p1,p2,p3⟩,⟨x0,x1,x2,x3⟩,xl⟩:=hOb;clear hbw))
     all_goals
      have hGb:At wb w.heap.size (j7 0 0 0 0 0 (.slice none 0 0) 0 0 0):=(HMM.out.hG.drew'.below Hba.out HMM.out.hG.lt).below Hbb.out (az HMM.out.hG.lt Hba.out.size);have hBb:Below w.heap.size w wb:=((HMM.out.bl.trans (cu ae 1)).trans (Hba.out.mono HMM.out.bl.size)).trans (Hbb.out.mono (ba HMM.out.bl.size Hba.out.size));have hG9:At ((((wb.setCell ⟨w2.heap.size,0,none⟩ (.int .u64 (wd (fun n=>acc n||ez b c n) 0:Nat))).setCell ⟨w2.heap.size,1,none⟩ (.int .u64 (wd (fun n=>acc n||ez b c n) 1:Nat))).setCell ⟨w2.heap.size,2,none⟩ (.int .u64 (wd (fun n=>acc n||ez b c n) 2:Nat))).setCell ⟨w2.heap.size,3,none⟩ (.int .u64 (wd (fun n=>acc n||ez b c n) 3:Nat))) w.heap.size (j7 0 0 0 0 0 (.slice none 0 0) 0 0 0):=hGb.setC (fun n=>acc n||ez b c n) (fun e=>HH.out.ge.2.2 e.symm);have hO9:fc ((((wb.setCell ⟨w2.heap.size,0,none⟩ (.int .u64 (wd (fun n=>acc n||ez b c n) 0:Nat))).setCell ⟨w2.heap.size,1,none⟩ (.int .u64 (wd (fun n=>acc n||ez b c n) 1:Nat))).setCell ⟨w2.heap.size,2,none⟩ (.int .u64 (wd (fun n=>acc n||ez b c n) 2:Nat))).setCell ⟨w2.heap.size,3,none⟩ (.int .u64 (wd (fun n=>acc n||ez b c n) 3:Nat))) w2.heap.size (fun n=>acc n||ez b c n):=HOb.out.set (fun n=>acc n||ez b c n);have hB9:Below w.heap.size w ((((wb.setCell ⟨w2.heap.size,0,none⟩ (.int .u64 (wd (fun n=>acc n||ez b c n) 0:Nat))).setCell ⟨w2.heap.size,1,none⟩ (.int .u64 (wd (fun n=>acc n||ez b c n) 1:Nat))).setCell ⟨w2.heap.size,2,none⟩ (.int .u64 (wd (fun n=>acc n||ez b c n) 2:Nat))).setCell ⟨w2.heap.size,3,none⟩ (.int .u64 (wd (fun n=>acc n||ez b c n) 3:Nat))):=jg hBb HH.out.ge.2.1 (fun n=>acc n||ez b c n);generalize (((wb.setCell ⟨w2.heap.size,0,none⟩ (.int .u64 (wd (fun n=>acc n||ez b c n) 0:Nat))).setCell ⟨w2.heap.size,1,none⟩ (.int .u64 (wd (fun n=>acc n||ez b c n) 1:Nat))).setCell ⟨w2.heap.size,2,none⟩ (.int .u64 (wd (fun n=>acc n||ez b c n) 2:Nat))).setCell ⟨w2.heap.size,3,none⟩ (.int .u64 (wd (fun n=>acc n||ez b c n) 3:Nat))=W9 at *;clear o0 o1 o2 o3 ol a0 a1 a2 a3 al p0 p1 p2 p3 x0 x1 x2 x3 xl hrg hor HOx HOa HOb Hba Hbb hGb hBb t0 tl v0 vl;have HG9:=aa hG9;have HO9:=aa hO9;have HB9:=aa hB9;clear hG9 hO9 hB9;go_wp2_with fail
      refine⟨⟨q2,n+1,_,ajx rfl rfl rfl rfl rfl rfl rfl rfl rfl,HG9.out,HO9.out,HB9.out,HH.out.ge,hql2.2,by have:=HH.out.nl;omega,fun out m p' h=>HH.out.cps _ _ _ (HMM.out.cps _ _ _ h)⟩,?_⟩;show s.size-(intOf (.int .i64 (q2:Nat))).toNat<s.size-(intOf (.int .i64 (q:Nat))).toNat;simp[intOf];omega
   ·have hqi:((s.size:Int)<=q):=by omega
    have hE0:lq s q=none:=by unfold lq;rw[if_neg hlt]
    rw[hE0]at h3;clear h93;go_wp2_with fail
    go_at_call 221;refine(h3.out _).mono ?_;rintro e w3⟨v,rfl,hb3,hg⟩;have HG3:=aa (HG.out.below hb3 HG.out.lt);have HB3:=aa (HBl.out.trans (hb3.mono (HBl.out.size)));obtain⟨⟨c0,c1,c2,c3,c4,c5,c6,c7,c8⟩,⟨f0,f1,f2,f3,f4,f5,f6,f7,f8⟩,hl⟩:=HG3.out.nine;clear hb3;obtain⟨nx,e,rfl,hne⟩|⟨b,q1,hE,rfl⟩:=hg
    ·have hne2:(e !=0)=true:=by rw[bne_iff_ne];exact hne
     go_upto_region 9 with fail
     have HG4:=aa (HG3.out.alloc (yh nx e));have HT4:=aa (At.new w3 (yh nx e));have HB4:=aa (HB3.out.alloc (HB3.out.size) (yh nx e));generalize w3.alloc (yh nx e)=W4 at *;clear c0 c1 c2 c3 c4 c5 c6 c7 c8 f0 f1 f2 f3 f4 f5 f6 f7 f8 hl;obtain⟨⟨c0,c1,c2,c3,c4,c5,c6,c7,c8⟩,⟨f0,f1,f2,f3,f4,f5,f6,f7,f8⟩,hl⟩:=HG4.out.nine;obtain⟨⟨t0,t1,t2,t3,t4,t5,t6,t7,t8⟩,-,tl⟩:=At.nine (b:=0) (x0:=0) (x1:=0) (x2:=0) (x3:=0) HT4.out;go_wp2_with fail
     exact ay (v:=gv 0 0 0 0 0 (.slice none 0 0) 0 nx e) (by simp[results,results200,go_sem,c0,c1,c2,c3,c4,c5,c6,c7,c8]) rfl ⟨_,rfl,fg HB4.out ac ..,.inl ⟨_,_,rfl,hne⟩⟩
    ·cases hE
end
end Go.Proofs.YtjfkmoinldlmaaaGreat
