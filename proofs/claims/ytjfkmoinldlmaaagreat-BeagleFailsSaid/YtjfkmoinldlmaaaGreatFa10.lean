/- The walk of BeagleFails, part 10. Walks of naive.places and of the closure that it hands back: a sequence of places. -/
import Derived.Test.YtjfkmoinldlmaaaGreatFa07
import Derived.RangeFuncNested
import Derived.RangeFuncBound
import Derived.RangeFuncCalls
import Derived.RangeFuncLeaves
import Derived.Shelf.Abstract
import Derived.Shelf.RegionOpen
import Derived.OwnWalkIn
import Derived.TacticsInMore
import Derived.LoopNIn
import Derived.LoopIn
namespace Go.Proofs.YtjfkmoinldlmaaaGreat
open Go.Proofs.Tryz
section
set_option maxRecDepth 100000
set_option maxHeartbeats 4000000
open Go.RowKit Go.Shelf
attribute [local go_sem] Oper.semAt_some
def mu(m B:Nat)(W W':World):Prop:=Below m W W'/\∀b o,B<=b->b<B+3->W'.cell? ⟨b,o,none⟩=W.cell? ⟨b,o,none⟩
theorem abb{m B:Nat}{X Y Z:World}(h:mu m B X Y)(k:mu m B Y Z):mu m B X Z:=
 ⟨h.1.trans k.1,fun b o h1 h2=>(k.2 b o h1 h2).trans (h.2 b o h1 h2)⟩
theorem aq9{m B:Nat}{w:World}(hm:m<=w.heap.size)(hB:B+3<=w.heap.size)(W:World)(l:Nat)(o o':Obj)(hl:w.heap.size<=l)(h:W.heap[l]?=some o)(hc:o.isCells=false)(hw:o.isWalk=false):mu m B W (W.putObj l o'):=
 ⟨belowK_b hm W l o o' hl h hc hw,fun b i h1 h2=>World.cell?_of_block (World.putObj_heap_other (by show b≠l;omega))⟩
theorem mu.of_below{m B k:Nat}{W W':World}(h:Below k W W')(hm:m<=k)(hB:B+3<=k):mu m B W W':=
 ⟨h.mono hm,fun b o _ h2=>h.cell (p:=⟨b,o,none⟩) (by show b<k;omega)⟩
structure qw(W:World)(m B:Nat)(ad:Option Addr)(n cap:Nat)(K:Int)(L:Nat->Nat->Bool)(t:ByteArray)(b:Int):Prop where
 leaf:W.cell? ⟨B,0,none⟩=some (.slice ad n cap)/\W.cell? ⟨B,1,none⟩=some (.int .i64 K)
 text:W.cell? ⟨B+1,0,none⟩=some (.string t)
 start:W.cell? ⟨B+2,0,none⟩=some (.int .i64 b)
 row:fm W ad n L m
theorem qw.keeps{W W':World}{m B:Nat}{ad:Option Addr}{n cap:Nat}{K:Int}{L:Nat->Nat->Bool}{t:ByteArray}{b:Int}(h:qw W m B ad n cap K L t b)(k:mu m B W W'):qw W' m B ad n cap K L t b where
 leaf:=⟨(k.2 B 0 (by omega) (by omega)).trans h.leaf.1,(k.2 B 1 (by omega) (by omega)).trans h.leaf.2⟩
 text:=(k.2 (B+1) 0 (by omega) (by omega)).trans h.text
 start:=(k.2 (B+2) 0 (by omega) (by omega)).trans h.start
 row:=h.row.below k.1 ac
def kh(s k:Nat):List Nat:=(List.range k).map (s+·)
theorem n9(s k:Nat):kh s (k+1)=kh s k++[s+k]:=by unfold kh;rw[List.range_succ,ep];rfl
theorem r8(s k:Nat):(kh s k).length=k:=by unfold kh;simp
def many(t:ByteArray)(n:Nat)(L:Nat->Nat->Bool)(K:Int)(s:Nat):Nat:=if fv n L K then t.size+1-n-s else 0
def pw(t:ByteArray)(n:Nat)(L:Nat->Nat->Bool)(K:Int)(s x:Nat):Nat:=min x (s+many t n L K s-1)
theorem pw_eq{t:ByteArray}{n:Nat}{L:Nat->Nat->Bool}{K:Int}{s k:Nat}(h:k<many t n L K s):pw t n L K s (s+k)=s+k:=by unfold pw;omega
theorem pw_fits{t:ByteArray}{n:Nat}{L:Nat->Nat->Bool}{K:Int}{s k:Nat}(h:k<many t n L K s)(x:Nat):pw t n L K s x+n<=t.size:=by
 unfold pw;unfold many at h⊢;split at h
 ·rename_i hr;rw[if_pos hr];omega
 ·omega
theorem pw_map{β:Type}(t:ByteArray)(n:Nat)(L:Nat->Nat->Bool)(K:Int)(s k:Nat)(h:k<=many t n L K s)(f:Nat->β):(kh s k).map (fun x=>f (pw t n L K s x))=(kh s k).map f:=by
 refine List.map_congr_left fun x hx=>?_
 unfold kh at hx;obtain⟨j,hj,rfl⟩:=List.mem_map.1 hx;rw[pw_eq (by have:=List.mem_range.1 hj;omega)]
theorem ah7(N l m B:Nat)(ad:Option Addr)(n cap:Nat)(K:Int)(L:Nat->Nat->Bool)(hn:(n:Int)<=1000)(t:ByteArray)(ht:t.size<=1000)(b:Int)(s:Nat)(hs:max 0 b=(s:Int))(J Jx:List Nat->World->Prop)
 (W:World) (hJ:AbidesFrom W.heap.size J) (hm:m<=W.heap.size) (hB:B+3<=W.heap.size) (hA:qw W m B ad n cap K L t b)
 (hY:∀pre x W,J pre W->pre.length<many t n L K s->YieldAt Fence.wide (N-1) prog l #[.int .i64 (pw t n L K s x:Nat)] W fun e W'=>
  (e=.returned (.bool true)/\J (pre++[x]) W'/\mu m B W W')\/(e=.returned (.bool false)/\Jx (pre++[x]) W')) (h0:J [] W):
 CallsIn Fence.wide N prog 181 #[.func (.yield l) #[] #[],.pointer (some ⟨B,0,none⟩),.pointer (some ⟨B+2,0,none⟩),.pointer (some ⟨B+1,0,none⟩)] W fun e W'=>(∃v,e=.returned v)∧
  ((∃ys,ys=kh s (many t n L K s)/\J ys W')\/(∃pre,(∃k,k<many t n L K s/\pre=kh s (k+1))/\Jx pre W')):=by
 obtain⟨⟨c0,c1⟩,ct,cs,hR⟩:=hA;have hR1:=hR.mono hm;refine callsIn_of_wp func181 rfl trivial ?_ rfl;simp only[ntmps181,List.size_toArray,bz,List.length_nil,Nat.reduceAdd,Nat.reduceSub,Array.replicate_succ,Array.replicate_zero,List.push_toArray,List.append_toArray,List.nil_append,dk];cases hr:fv n L K
 ·have hmany:many t n L K s=0:=by unfold many;rw[hr];rfl
  gi_wp2_with(refine⟨trivial,fun h=>(by cases h),?_⟩;gi_at_call 134;refine(callsIn_wide.2 (jn ad n cap K L (by omega) _ hR1)).mono ?_;rw[hr];rintro e w1⟨rfl,hb⟩)
  refine ay (results_none rfl _ _ _) rfl ?_;exact⟨⟨_,rfl⟩,.inl ⟨[],by rw[hmany];rfl,hJ _ _ _ none h0 (gn hb none) (fun r e=>by cases e)⟩⟩
 ·have hmany:many t n L K s=t.size+1-n-s:=by unfold many;rw[hr];rfl
  obtain⟨nt,hc⟩:∃nt,nt=many t n L K s:=⟨_,rfl⟩;have HC0:=aa hc;rw[<-hc]at hmany hY⊢;have HMany:=aa hmany;clear hmany hc;by_cases hb0:b<=0
  ·have hs0:s=0:=by rw[Int.max_eq_left hb0]at hs;omega
   have HS0:=aa hs0;clear hs hs0;gi_wp2_with(refine⟨trivial,fun h=>(by cases h),?_⟩;gi_at_call 134;refine(callsIn_wide.2 (jn ad n cap K L (by omega) _ hR1)).mono ?_;rw[hr];rintro e w1⟨rfl,hb⟩;have cs1:=(hb.cell (p:=⟨B+2,0,none⟩) (show B+2<W.heap.size by omega)).trans cs)
   have hA1:=(qw.mk ⟨c0,c1⟩ ct cs hR:qw W m B ad n cap K L t b).keeps (mu.of_below hb hm hB);have hJ1:=hJ _ _ _ none h0 (gn hb none) (fun r e=>by cases e);clear hb hJ h0 cs1 c0 c1 ct cs hR hR1;gi_loopw [5] (fun i wr=>∃k:Nat,k<=nt/\i=.int .i64 ((s+k:Nat):Int)/\J (kh s k) wr/\mu m B w1 wr) (fun i _=>(s+nt)-(intOf i).toNat)
   case atStart=>exact⟨0,by omega,by rw[HS0.out];rfl,hJ1,⟨ae,fun _ _ _ _=>rfl⟩⟩
   case round=>
    obtain⟨k,hk,rfl,hJk,hkp⟩:=hrel;obtain⟨⟨c0,c1⟩,ct,cs,hR⟩:=hA1.keeps hkp;clear hA1 hJ1 hR cs;have hcc:=HMany.out;have hnm:IntKind.i64.wrap ((t.size:Int)-n)=(t.size:Int)-n:=by rw[ci];omega
    by_cases hlt:k<nt
    ·have hle:((s+k:Nat):Int)<=(t.size:Int)-n:=by omega
     have hwr:IntKind.i64.wrap (((s+k:Nat):Int)+1)=((s+k:Nat):Int)+1:=by rw[ci];omega
     clear hcc;have hYk:=hY (kh s k) (s+k) wr hJk (by rw[r8];exact hlt);rw[pw_eq (by rw[<-HC0.out];exact hlt)]at hYk;obtain⟨fn,tmps,assign,body,hy,hRR⟩:=hYk;obtain⟨q,hq⟩:∃q,q=s+k:=⟨_,rfl⟩;have hq1:q+1=s+(k+1):=by omega
     have Hq:=aa hq;rw[<-n9]at hRR;rw[<-hq]at hle hwr hy⊢;clear hq;gi_wp2
     refine⟨fun h=>(by cases h),hRR.mono ?_⟩;rintro e W3(⟨rfl,hJ3,hk3⟩|⟨rfl,hJx3⟩)
     ·gi_wp2
      exact⟨⟨k+1,by omega,by rw[<-hq1];go_num,hJ3,abb hkp hk3⟩,by have:=Hq.out;simp[intOf];omega⟩
     ·gi_wp2
      refine ay (results_none rfl _ _ _) rfl ?_;exact⟨⟨_,rfl⟩,.inr ⟨_,⟨k,hlt,rfl⟩,hJx3⟩⟩
    ·obtain rfl:k=nt:=by omega
     have hgt:(t.size:Int)-n<((s+k:Nat):Int):=by omega
     clear hcc;gi_wp2
     go_end0
     exact⟨⟨_,rfl⟩,.inl ⟨_,rfl,hJk⟩⟩
  ·have hs0:b=s:=by rw[Int.max_eq_right (by omega)]at hs;omega
   subst hs0;clear hs;gi_wp2_with(refine⟨trivial,fun h=>(by cases h),?_⟩;gi_at_call 134;refine(callsIn_wide.2 (jn ad n cap K L (by omega) _ hR1)).mono ?_;rw[hr];rintro e w1⟨rfl,hb⟩;have cs1:=(hb.cell (p:=⟨B+2,0,none⟩) (show B+2<W.heap.size by omega)).trans cs)
   have hA1:=(qw.mk ⟨c0,c1⟩ ct cs hR:qw W m B ad n cap K L t (s:Int)).keeps (mu.of_below hb hm hB);have hJ1:=hJ _ _ _ none h0 (gn hb none) (fun r e=>by cases e);clear hb hJ h0 cs1 c0 c1 ct cs hR hR1;gi_loopw [5] (fun i wr=>∃k:Nat,k<=nt/\i=.int .i64 ((s+k:Nat):Int)/\J (kh s k) wr/\mu m B w1 wr) (fun i _=>(s+nt)-(intOf i).toNat)
   case atStart=>exact⟨0,by omega,rfl,hJ1,⟨ae,fun _ _ _ _=>rfl⟩⟩
   case round=>
    obtain⟨k,hk,rfl,hJk,hkp⟩:=hrel;obtain⟨⟨c0,c1⟩,ct,cs,hR⟩:=hA1.keeps hkp;clear hA1 hJ1 hR cs;have hcc:=HMany.out;have hnm:IntKind.i64.wrap ((t.size:Int)-n)=(t.size:Int)-n:=by rw[ci];omega
    by_cases hlt:k<nt
    ·have hle:((s+k:Nat):Int)<=(t.size:Int)-n:=by omega
     have hwr:IntKind.i64.wrap (((s+k:Nat):Int)+1)=((s+k:Nat):Int)+1:=by rw[ci];omega
     clear hcc;have hYk:=hY (kh s k) (s+k) wr hJk (by rw[r8];exact hlt);rw[pw_eq (by rw[<-HC0.out];exact hlt)]at hYk;obtain⟨fn,tmps,assign,body,hy,hRR⟩:=hYk;obtain⟨q,hq⟩:∃q,q=s+k:=⟨_,rfl⟩;have hq1:q+1=s+(k+1):=by omega
     have Hq:=aa hq;rw[<-n9]at hRR;rw[<-hq]at hle hwr hy⊢;clear hq;gi_wp2
     refine⟨fun h=>(by cases h),hRR.mono ?_⟩;rintro e W3(⟨rfl,hJ3,hk3⟩|⟨rfl,hJx3⟩)
     ·gi_wp2
      exact⟨⟨k+1,by omega,by rw[<-hq1];go_num,hJ3,abb hkp hk3⟩,by have:=Hq.out;simp[intOf];omega⟩
     ·gi_wp2
      refine ay (results_none rfl _ _ _) rfl ?_;exact⟨⟨_,rfl⟩,.inr ⟨_,⟨k,hlt,rfl⟩,hJx3⟩⟩
    ·obtain rfl:k=nt:=by omega
     have hgt:(t.size:Int)-n<((s+k:Nat):Int):=by omega
     clear hcc;gi_wp2
     go_end0
     exact⟨⟨_,rfl⟩,.inl ⟨_,rfl,hJk⟩⟩
theorem afl(ad:Option Addr)(n cap:Nat)(K:Int)(t:ByteArray)(b:Int)(w:World):
 Calls prog 138 #[lv ad n cap K,.string t,.int .i64 b] w fun e w'=>e=.returned (.func (.func 181) #[] #[.pointer (some ⟨w.heap.size,0,none⟩),.pointer (some ⟨w.heap.size+2,0,none⟩),.pointer (some ⟨w.heap.size+1,0,none⟩)])∧
  fk w' w.heap.size ad n cap K/\w'.cell? ⟨w.heap.size+1,0,none⟩=some (.string t)/\w'.cell? ⟨w.heap.size+2,0,none⟩=some (.int .i64 b)/\w'.heap.size=w.heap.size+3/\Below w.heap.size w w':=by
 go_enter func138,ntmps138;go_wp2;go_ret;refine⟨rfl,⟨?_,?_,?_⟩,?_,?_,?_,((ae.alloc ac _).alloc (by simp) _).alloc (by simp;omega) _⟩<;>simp[go_sem]
theorem adj(N m B:Nat)(ad:Option Addr)(n cap:Nat)(K:Int)(L:Nat->Nat->Bool)(hn:(n:Int)<=1000)(t:ByteArray)(ht:t.size<=1000)(b:Int)(s:Nat)(hs:max 0 b=(s:Int))(w:World)
 (hm:m<=B) (hB:B+3<=w.heap.size) (hA:qw w m B ad n cap K L t b):
 SeqStopsK Fence.wide N prog 181 #[.pointer (some ⟨B,0,none⟩),.pointer (some ⟨B+2,0,none⟩),.pointer (some ⟨B+1,0,none⟩)] (fun x:Nat=>#[Value.int .i64 (pw t n L K s x:Nat)]) (mu m B)
  (fun ys=>ys=kh s (many t n L K s)) (fun pre=>∃k,k<many t n L K s/\pre=kh s (k+1)) (many t n L K s) w:=fun l J Jx W hW hJ _ hY h0=>
 ah7 N l m B ad n cap K L hn t ht b s hs J Jx W hJ (by have:=hW.size;omega) (by have:=hW.size;omega) (hA.keeps (mu.of_below hW (by omega) hB)) hY h0
end
end Go.Proofs.YtjfkmoinldlmaaaGreat
