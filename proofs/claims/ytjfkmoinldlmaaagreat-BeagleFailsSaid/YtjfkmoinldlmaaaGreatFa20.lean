/- The walk of BeagleFails, part 20. The walks of block.wide and block.turned. Walks of symb.row, symb.Marks, symb.Places. A range over a function that hands over memory: the loop's law, where no round leaves. Walks of block.blocks and of the closure that it hands back: a sequence of blocks. The walk of block.Correlate, where it tells no sum. What a block tells is exact: plain. The blocks, put together: plain. -/
import Derived.Test.YtjfkmoinldlmaaaGreatFa19
import Derived.Laws.CopyOwn
namespace Go.Proofs.YtjfkmoinldlmaaaGreat
open Go.Proofs.Tryz
section
set_option maxRecDepth 100000
set_option maxHeartbeats 4000000
open Go.RowKit
theorem agq{w:World}{g N:Nat}{cs:List Value}{x:Nat->Nat}{t:TypeId}(hg:w.heap[g]?=some (.cells cs.toArray t (0,0)))(hc:∀j,j<N->cs[j]?=some (.int .u64 (x j:Nat))):jm w g N x where
 cells j hj:=by
  have:=hc j hj;simp only[World.cell?,hg];simpa using this
 free j _:=frozen_of_row w g j _ t hg
 lt:=by
  rcases Nat.lt_or_ge g w.heap.size with h|h
  ·exact h
  ·rw[Array.getElem?_eq_none h]at hg;cases hg
theorem uy(A:Nat->Nat)(n:Nat):∀v∈fh A n,v.oneCell'=true:=by
 induction n with
 |zero=>intro v h;cases h
 |succ n ih=>
  intro v h;simp only[fh,List.mem_append,cd]at h;rcases h with h|rfl
  ·exact ih v h
  ·rfl
theorem ag5(A:Nat->Nat)(n N:Nat)(j:Nat)(hj:j<N):(splice (List.replicate N (Value.int .u64 0)) 0 (fh A n))[j]?=some (.int .u64 ((if j<n then A j else 0:Nat):Nat)):=by
 have hl:=ld A n;unfold splice;rw[List.take_zero,List.nil_append];by_cases h:j<n
 ·rw[if_pos h,ek (by omega),rv A n j h]
 ·rw[if_neg h,ef (by omega),List.getElem?_drop,List.getElem?_replicate,if_pos (by omega)]
  rfl
theorem aoq(ad:Option Addr)(n cap N:Nat)(A:Nat->Nat)(hn:n<=N)(hN:N<=100000)(w:World)(hR:i8 w ad n A w.heap.size):
 Calls prog 38 #[.slice ad n cap,.int .i64 (N:Nat)] w fun e w'=>∃g,e=.returned (.slice (some ⟨g,0,none⟩) N N)/\w.heap.size<=g/\jm w' g N (fun j=>if j<n then A j else 0)/\Below w.heap.size w w':=by
 have hmk:=acn N hN w;have hNI:(N:Int)<=100000:=by omega
 have hNI0:(0:Int)<=N:=by omega
 have HW:=aa fun j=>ag5 A n N j
 have hlen:=ld A n;have hone:=aa (uy A n);have hgh:(w.alloc (.cells (madeCells #[.int .u64 0] N) 46)).heap[w.heap.size]?=some (.cells (List.replicate N (Value.int .u64 0)).toArray 46 (0,0)):=by
  have:madeCells #[Value.int .u64 0] N=(List.replicate N (Value.int .u64 0)).toArray:=by
   apply Array.ext';rw[toList_madeCells_one]
  rw[this];exact Array.getElem?_push_size
 have hsrc:Hid (0<(fh A n).length->∃a,ad=some a/\∀j v,(fh A n)[j]?=some v->(w.alloc (.cells (madeCells #[.int .u64 0] N) 46)).cell? (a.add j)=some v):=aa (by
  intro h
  rcases hR with h0|⟨b,o,ha,hlt,hc⟩
  ·omega
  ·refine⟨⟨b,o,none⟩,ha,fun j v hv=>?_⟩
   have hj:j<n:=by
    rcases Nat.lt_or_ge j n with hj|hj
    ·exact hj
    ·rw[eb (by omega)]at hv;cases hv
   rw[rv A n j hj]at hv
   cases hv
   have:=((aw w.heap.size w).alloc ac (.cells (madeCells #[.int .u64 0] N) 46)).cell (p:=⟨b,o+j,none⟩) hlt
   have h2:=this.trans (hc j hj)
   rw[show(⟨b,o,none⟩:Addr).add j=⟨b,o+j,none⟩ by unfold Addr.add;split<;>simp_all]
   exact h2)
 have hbel:Below w.heap.size w (w.alloc (.cells (madeCells #[.int .u64 0] N) 46)):=ae.alloc ac _;generalize hW1:w.alloc (.cells (madeCells #[.int .u64 0] N) 46)=W1 at *;have HL:=aa hlen;have HGH:=aa hgh;have HBEL:=aa hbel;have hmin:Hid ((fh A n).length=Nat.min n N):=aa (by rw[hlen];exact(Nat.min_eq_left hn).symm);clear hgh hbel hlen hW1;generalize fh A n=cs at *;go_enter func38,ntmps38;go_wp2_with(first|(refine wpList_copy_splice rfl (.tmp 8) (.tmp 9) 42 42 rfl 46 underlying42 (by kernel_rfl) _ _ _ _ _ _ rfl rfl w.heap.size 0 (List.replicate N (.int .u64 0)) 46 HGH.out cs hmin.out (fun h=>⟨rfl,hsrc.out h⟩) (by rw[List.length_replicate,HL.out];omega) hone.out w.heap.size w HBEL.out ac ?_;intro w5 hg5 hb5))
 go_ret;exact⟨_,rfl,ac,agq hg5.out HW.out,hb5⟩
def pt(A:Nat->Nat)(N q u:Nat):Nat:=if(N-u)%N<q then A ((N-u)%N)else 0
theorem ajm(N q:Nat)(hq:q<N):(N-(N-q)%N)%N=q:=by
 rcases ed q with h|h
 ·subst h;rw[Nat.sub_zero,Nat.mod_self,Nat.sub_zero,Nat.mod_self]
 ·rw[ea (by omega:N-q<N),show N-(N-q)=q by omega,ea hq]
theorem ali(A:Nat->Nat)(N q u:Nat)(hq:q<N)(hu:u<N):(if u=(N-q)%N then A q else pt A N q u)=pt A N (q+1) u:=by
 unfold pt;by_cases h:u=(N-q)%N
 ·subst h
  rw[if_pos rfl,ajm N q hq,if_pos (by omega)]
 ·rw[if_neg h]
  have hne:(N-u)%N≠q:=by
   intro e;apply h;rw[<-e];exact(ajm N u hu).symm
  by_cases h2:(N-u)%N<q
  ·rw[if_pos h2,if_pos (by omega)]
  ·rw[if_neg h2,if_neg (by omega)]
theorem ag8(ad:Option Addr)(n cap N:Nat)(A:Nat->Nat)(hn:n<=N)(hN:N<=100000)(w:World)(hR:i8 w ad n A w.heap.size):
 Calls prog 36 #[.slice ad n cap,.int .i64 (N:Nat)] w fun e w'=>∃g,e=.returned (.slice (some ⟨g,0,none⟩) N N)/\w.heap.size<=g/\jm w' g N (pt A N n)/\Below w.heap.size w w':=by
 have hmk:=acn N hN w;have hNI:(N:Int)<=100000:=by omega
 have hNI0:(0:Int)<=N:=by omega
 have hbel:Below w.heap.size w (w.alloc (.cells (madeCells #[.int .u64 0] N) 46)):=ae.alloc ac _;have hnew:=jm.new w N;have HST:=aa (ali A N);have HT0:Hid (∀u,0=pt A N 0 u):=aa fun u=>by unfold pt;rw[if_neg (by omega)]
 generalize hW1:w.alloc (.cells (madeCells #[.int .u64 0] N) 46)=W1 at *;have HBEL:=aa hbel;have HNEW:=aa hnew;have HR:=aa hR;generalize pt A N=F at *;clear hbel hnew hW1 hR;go_enter func36,ntmps36;go_wp2_with fail
 go_loopw[12] (fun i wr=>∃q:Nat,q<=n/\i=.int .i64 q/\jm wr w.heap.size N (F q)/\Below w.heap.size w wr) (fun i _=>n-(intOf i).toNat)
 case atStart=>exact⟨0,by omega,rfl,HNEW.out.congr fun j _=>HT0.out j,HBEL.out⟩
 case round=>
  obtain⟨q,hq,rfl,hB,hb⟩:=hrel;have HB:=aa hB;have Hb:=aa hb;clear hB hb;by_cases hlt:q<n
  ·obtain⟨b,o,rfl,hbm,e1⟩:=(HR.out.below Hb.out ac).at hlt
   have hbl:b<wr.heap.size:=by have:=Hb.out.size;omega
   have hlti:(q:Int)<n:=by omega
   have hq0:(0:Int)<=q:=by omega
   have hin:(N-q)%N<N:=Nat.mod_lt _ (by omega);have hrem:((N:Int)-q)%N=(((N-q)%N:Nat):Int):=by rw[Int.natCast_emod,Int.natCast_sub (by omega)]
   have HSQ:=aa fun u hu=>HST.out q u (by omega) hu
   generalize hi:(N-q)%N=i at *;have f1:=HB.out.free i hin;have d1:=HB.out.cells i hin;have HSET:=aa (HB.out.set i hin (A q));have hini:(i:Int)<N:=by omega
   have hgl:=HB.out.lt;have htm:Int.tmod ((N:Int)-q) N=i:=by rw[Int.tmod_eq_emod_of_nonneg (by omega)];exact hrem
   have hNe:((N:Int)==0)=false:=by rw[ax];omega
   clear hi;go_wp2_with fail
   exact⟨⟨q+1,by omega,by go_num,HSET.out.congr HSQ.out,Hb.out.setCell (p:=⟨w.heap.size,i,none⟩) ac _⟩,by simp[intOf];omega⟩
  ·obtain rfl:q=n:=by omega
   go_wp2_with fail
   go_ret;exact⟨_,rfl,ac,HB.out,Hb.out⟩
end
section
set_option maxRecDepth 100000
set_option maxHeartbeats 4000000
open Go.RowKit Go.Shelf
def oz(b:Bool):Nat:=if b then 1 else 0
theorem am3(i bc bt:Nat)(S:Nat->Bool)(t:ByteArray)(hi:i<t.size)(w:World)(hc:fc w bc S)(ht:Boxed w bt 9 (.string t)){b:Bool}(hb:S (tb t i)=b):
 Calls prog 95 #[.int .i64 (i:Nat),.pointer (some ⟨bc,0,none⟩),.pointer (some ⟨bt,0,none⟩)] w fun e w'=>e=.returned (.bool b)/\Below w.heap.size w w':=by
 obtain⟨⟨a0,a1,a2,a3⟩,-,al⟩:=hc;have c1:=ht.cell;have cl:=ht.lt;have hii:(i:Int)<t.size:=by omega
 have h:=aa (abe S t i hi hb);clear ht hb;go_enter func95,ntmps95;go_wp2_with fail
 go_region_with(first|(go_at_call 96;refine(h.out _).mono ?_;rintro e w1⟨rfl,hb1⟩))
 all_goals(go_wp2_with fail;go_ret;exact⟨rfl,ae.drew.trans hb1⟩)
theorem ah8(j bl bc:Nat)(ad:Option Addr)(n cap:Nat)(K:Int)(L:Nat->Nat->Bool)(S:Nat->Bool)(hj:j<n)(w:World)(hl:fk w bl ad n cap K)(hR:fm w ad n L w.heap.size)(hc:fc w bc S):
 Calls prog 198 #[.int .i64 (j:Nat),.pointer (some ⟨bl,0,none⟩),.pointer (some ⟨bc,0,none⟩)] w fun e w'=>e=.returned (.bool (fj (L j) S))/\Below w.heap.size w w':=by
 obtain⟨⟨a0,a1,a2,a3⟩,-,al⟩:=hc;obtain⟨c0,c1,l0⟩:=hl;obtain⟨b,o,rfl,hbm,e0,e1,e2,e3⟩:=hR.at hj;have hji:(j:Int)<n:=by omega
 have hwe:=aev (L j) S;clear hR;go_enter func198,ntmps198;go_wp2_with fail
 go_quiet(fail)
 go_wp2_with fail
 go_ret;exact⟨rfl,cu ae _⟩
theorem aly(n:Nat)(hn:n<=100000)(p:Nat->Bool)(pa pb:Nat)(w:World)
 (hf:∀i w',i<n->Below w.heap.size w w'->Calls prog 95 #[.int .i64 (i:Nat),.pointer (some ⟨pa,0,none⟩),.pointer (some ⟨pb,0,none⟩)] w' fun e w2=>e=.returned (.bool (p i))/\Below w'.heap.size w' w2):
 Calls prog 94 #[.int .i64 (n:Nat),.func (.func 95) #[] #[.pointer (some ⟨pa,0,none⟩),.pointer (some ⟨pb,0,none⟩)]] w fun e w'=>∃g,e=.returned (.slice (some ⟨g,0,none⟩) n n)/\w.heap.size<=g/\jm w' g n (fun i=>oz (p i))/\Below w.heap.size w w':=by
 have hmk:=acn n hn w;have hnI:(n:Int)<=100000:=by omega
 have hnI0:(0:Int)<=n:=by omega
 have hbel:Below w.heap.size w (w.alloc (.cells (madeCells #[.int .u64 0] n) 46)):=ae.alloc ac _;have hnew:=jm.new w n;generalize hW1:w.alloc (.cells (madeCells #[.int .u64 0] n) 46)=W1 at *;have HBEL:=aa hbel;have HNEW:=aa hnew;have HF:=aa hf;clear hbel hnew hW1 hf;go_enter func94,ntmps94;go_wp2_with fail
 go_loopw[11] (fun i wr=>∃q:Nat,q<=n/\i=.int .i64 q/\jm wr w.heap.size n (fun i=>if i<q then oz (p i)else 0)/\Below w.heap.size w wr) (fun i _=>n-(intOf i).toNat)
 case atStart=>exact⟨0,by omega,rfl,HNEW.out.congr fun j _=>by rw[if_neg (by omega)],HBEL.out⟩
 case round=>
  obtain⟨q,hq,rfl,hB,hb⟩:=hrel;have HB:=aa hB;have Hb:=aa hb;clear hB hb;by_cases hlt:q<n
  ·have hlti:(q:Int)<n:=by omega
   have hq0:(0:Int)<=q:=by omega
   have hgl:=HB.out.lt;have hcall:=aa (HF.out q wr hlt Hb.out);cases hpq:p q
   ·have HC:=aa (hpq▸hcall.out)
    clear hcall;go_wp2_with(go_at_call 95;refine HC.out.mono ?_;rintro e w1⟨rfl,hb1⟩)
    have hB2:=HB.out.below hb1 hgl;exact⟨⟨q+1,by omega,by go_num,hB2.congr fun j hj=>by
     by_cases he:j=q
     ·subst he;rw[if_neg (by omega),if_pos (by omega),hpq];rfl
     ·by_cases h2:j<q
      ·rw[if_pos h2,if_pos (by omega)]
      ·rw[if_neg h2,if_neg (by omega)],Hb.out.trans (hb1.mono Hb.out.size)⟩,by simp[intOf];omega⟩
   ·have HC:=aa (hpq▸hcall.out)
    clear hcall;go_wp2_with(go_at_call 95;refine HC.out.mono ?_;rintro e w1⟨rfl,hb1⟩;have hB2:=HB.out.below hb1 hgl;have f1:=hB2.free q hlt;have d1:=hB2.cells q hlt)
    exact⟨⟨q+1,by omega,by go_num,(hB2.set q hlt 1).congr fun j hj=>by
     by_cases he:j=q
     ·subst he;rw[if_pos rfl,if_pos (by omega),hpq];rfl
     ·rw[if_neg he]
      by_cases h2:j<q
      ·rw[if_pos h2,if_pos (by omega)]
      ·rw[if_neg h2,if_neg (by omega)],(Hb.out.trans (hb1.mono Hb.out.size)).setCell (p:=⟨w.heap.size,q,none⟩) ac _⟩,by simp[intOf];omega⟩
  ·obtain rfl:q=n:=by omega
   go_wp2_with fail
   go_ret;exact⟨_,rfl,ac,HB.out.congr fun j hj=>by rw[if_pos hj],Hb.out⟩
theorem aho(n:Nat)(hn:n<=100000)(p:Nat->Bool)(pa pb:Nat)(w:World)
 (hf:∀i w',i<n->Below w.heap.size w w'->Calls prog 198 #[.int .i64 (i:Nat),.pointer (some ⟨pa,0,none⟩),.pointer (some ⟨pb,0,none⟩)] w' fun e w2=>e=.returned (.bool (p i))/\Below w'.heap.size w' w2):
 Calls prog 94 #[.int .i64 (n:Nat),.func (.func 198) #[] #[.pointer (some ⟨pa,0,none⟩),.pointer (some ⟨pb,0,none⟩)]] w fun e w'=>∃g,e=.returned (.slice (some ⟨g,0,none⟩) n n)/\w.heap.size<=g/\jm w' g n (fun i=>oz (p i))/\Below w.heap.size w w':=by
 have hmk:=acn n hn w;have hnI:(n:Int)<=100000:=by omega
 have hnI0:(0:Int)<=n:=by omega
 have hbel:Below w.heap.size w (w.alloc (.cells (madeCells #[.int .u64 0] n) 46)):=ae.alloc ac _;have hnew:=jm.new w n;generalize hW1:w.alloc (.cells (madeCells #[.int .u64 0] n) 46)=W1 at *;have HBEL:=aa hbel;have HNEW:=aa hnew;have HF:=aa hf;clear hbel hnew hW1 hf;go_enter func94,ntmps94;go_wp2_with fail
 go_loopw[11] (fun i wr=>∃q:Nat,q<=n/\i=.int .i64 q/\jm wr w.heap.size n (fun i=>if i<q then oz (p i)else 0)/\Below w.heap.size w wr) (fun i _=>n-(intOf i).toNat)
 case atStart=>exact⟨0,by omega,rfl,HNEW.out.congr fun j _=>by rw[if_neg (by omega)],HBEL.out⟩
 case round=>
  obtain⟨q,hq,rfl,hB,hb⟩:=hrel;have HB:=aa hB;have Hb:=aa hb;clear hB hb;by_cases hlt:q<n
  ·have hlti:(q:Int)<n:=by omega
   have hq0:(0:Int)<=q:=by omega
   have hgl:=HB.out.lt;have hcall:=aa (HF.out q wr hlt Hb.out);cases hpq:p q
   ·have HC:=aa (hpq▸hcall.out)
    clear hcall;go_wp2_with(go_at_call 198;refine HC.out.mono ?_;rintro e w1⟨rfl,hb1⟩)
    have hB2:=HB.out.below hb1 hgl;exact⟨⟨q+1,by omega,by go_num,hB2.congr fun j hj=>by
     by_cases he:j=q
     ·subst he;rw[if_neg (by omega),if_pos (by omega),hpq];rfl
     ·by_cases h2:j<q
      ·rw[if_pos h2,if_pos (by omega)]
      ·rw[if_neg h2,if_neg (by omega)],Hb.out.trans (hb1.mono Hb.out.size)⟩,by simp[intOf];omega⟩
   ·have HC:=aa (hpq▸hcall.out)
    clear hcall;go_wp2_with(go_at_call 198;refine HC.out.mono ?_;rintro e w1⟨rfl,hb1⟩;have hB2:=HB.out.below hb1 hgl;have f1:=hB2.free q hlt;have d1:=hB2.cells q hlt)
    exact⟨⟨q+1,by omega,by go_num,(hB2.set q hlt 1).congr fun j hj=>by
     by_cases he:j=q
     ·subst he;rw[if_pos rfl,if_pos (by omega),hpq];rfl
     ·rw[if_neg he]
      by_cases h2:j<q
      ·rw[if_pos h2,if_pos (by omega)]
      ·rw[if_neg h2,if_neg (by omega)],(Hb.out.trans (hb1.mono Hb.out.size)).setCell (p:=⟨w.heap.size,q,none⟩) ac _⟩,by simp[intOf];omega⟩
  ·obtain rfl:q=n:=by omega
   go_wp2_with fail
   go_ret;exact⟨_,rfl,ac,HB.out.congr fun j hj=>by rw[if_pos hj],Hb.out⟩
theorem yf(t:ByteArray)(ht:t.size<=100000)(S:Nat->Bool)(w:World):
 Calls prog 51 #[.string t,cv S] w fun e w'=>∃g,e=.returned (.slice (some ⟨g,0,none⟩) t.size t.size)/\w.heap.size<=g/\jm w' g t.size (fun i=>oz (S (tb t i)))/\Below w.heap.size w w':=by
 have hS:=fc.new (w.alloc (.cells #[.string t] 9)) S;have hT:=(Boxed.new w 9 (.string t)).kept (World.grownBy_alloc _ (.cells #[.int .u64 (wd S 0:Nat),.int .u64 (wd S 1:Nat),.int .u64 (wd S 2:Nat),.int .u64 (wd S 3:Nat)] 100) none) (by simp);have hB:Below w.heap.size w ((w.alloc (.cells #[.string t] 9)).alloc (.cells #[.int .u64 (wd S 0:Nat),.int .u64 (wd S 1:Nat),.int .u64 (wd S 2:Nat),.int .u64 (wd S 3:Nat)] 100)):=(ae.alloc ac _).alloc (by simp) _;go_enter func51,ntmps51;go_wp2_with fail
 rw[bg]at hS;have hs2:((w.alloc (.cells #[.string t] 9)).alloc (.cells #[.int .u64 (wd S 0:Nat),.int .u64 (wd S 1:Nat),.int .u64 (wd S 2:Nat),.int .u64 (wd S 3:Nat)] 100)).heap.size=w.heap.size+2:=by simp
 refine(aly t.size ht (fun i=>S (tb t i)) _ _ _ (fun i w' hi hb=>am3 i (w.heap.size+1) w.heap.size S t hi w' (hS.below hb (by omega)) (Boxed.below hT hb (by omega)) rfl)).mono ?_;rintro e w1⟨g,rfl,hg,hbk,hb1⟩;go_wp2_with fail
 go_ret;exact⟨_,rfl,by omega,hbk,hB.trans (hb1.mono (by omega))⟩
theorem afj(ad:Option Addr)(n cap:Nat)(K:Int)(L:Nat->Nat->Bool)(S:Nat->Bool)(hn:n<=1000)(w:World)(hR:fm w ad n L w.heap.size):
 Calls prog 149 #[lv ad n cap K,cv S] w fun e w'=>∃g,e=.returned (.slice (some ⟨g,0,none⟩) n n)/\w.heap.size<=g/\jm w' g n (fun i=>oz (fj (L i) S))/\Below w.heap.size w w':=by
 have hS:=fc.new (w.alloc (.cells #[.slice ad n cap,.int .i64 K] 52)) S;have hL:=fk.new w ad n cap K;have hB:Below w.heap.size w ((w.alloc (.cells #[.slice ad n cap,.int .i64 K] 52)).alloc (.cells #[.int .u64 (wd S 0:Nat),.int .u64 (wd S 1:Nat),.int .u64 (wd S 2:Nat),.int .u64 (wd S 3:Nat)] 100)):=(ae.alloc ac _).alloc (by simp) _;have hL2:=hL.below ((ae.alloc ac _):Below (w.alloc (.cells #[.slice ad n cap,.int .i64 K] 52)).heap.size _ ((w.alloc (.cells #[.slice ad n cap,.int .i64 K] 52)).alloc (.cells #[.int .u64 (wd S 0:Nat),.int .u64 (wd S 1:Nat),.int .u64 (wd S 2:Nat),.int .u64 (wd S 3:Nat)] 100))) hL.2.2;obtain⟨c0,c1,l0⟩:=id hL2;go_enter func149,ntmps149;go_wp2_with fail
 rw[bg]at hS;have hs2:((w.alloc (.cells #[.slice ad n cap,.int .i64 K] 52)).alloc (.cells #[.int .u64 (wd S 0:Nat),.int .u64 (wd S 1:Nat),.int .u64 (wd S 2:Nat),.int .u64 (wd S 3:Nat)] 100)).heap.size=w.heap.size+2:=by simp
 refine(aho n (by omega) (fun i=>fj (L i) S) _ _ _ (fun i w' hi hb=>ah8 i w.heap.size (w.heap.size+1) ad n cap K L S hi w' (hL2.below hb (by omega)) (((hR.below hB ac).below hb (by omega)).mono (by have:=hb.size;omega)) (hS.below hb (by omega)))).mono ?_;rintro e w1⟨g,rfl,hg,hbk,hb1⟩;go_wp2_with fail
 go_ret;exact⟨_,rfl,by omega,hbk,hB.trans (hb1.mono (by omega))⟩
end
section
open Go.RowKit Go.Shelf
def kf(E:Nat->Prop)(X Y:World):Prop:=X.heap.size<=Y.heap.size/\∀b o,b<X.heap.size->¬E b->Y.cell? ⟨b,o,none⟩=X.cell? ⟨b,o,none⟩
theorem kf.refl(E:Nat->Prop)(X:World):kf E X X:=⟨ac,fun _ _ _ _=>rfl⟩
theorem kf.trans{E:Nat->Prop}{X Y Z:World}(h:kf E X Y)(k:kf E Y Z):kf E X Z:=
 ⟨ba h.1 k.1,fun b o hb he=>(k.2 b o (az hb h.1) he).trans (h.2 b o hb he)⟩
theorem kf.of_below{E:Nat->Prop}{X Y:World}(h:Below X.heap.size X Y):kf E X Y:=⟨h.size,fun b o hb _=>h.cell (p:=⟨b,o,none⟩) hb⟩
theorem kf.put{E:Nat->Prop}{W:World}{l:Nat}{r:Loop}(h:W.heap[l]?=some (.loop r))(r':Loop):kf E W (W.putObj l (.loop r')):=by
 have hl:l<W.heap.size:=(df.1 h).1;refine⟨by simp,fun b o _ _=>?_⟩;by_cases hb:b=l
 ·subst hb
  unfold World.cell?;simp only[World.putObj_heap_same hl,h]
 ·unfold World.cell?
  rw[World.putObj_heap_other hb]
def SeqMem{α:Type}(F:Fence)(n:Nat)(P:Program)(g:Nat)(lb:Array Value)(encs:α->Array Value)(E:Nat->Prop)(Sx:α->World->Prop)(S:List α->Prop)(N:Nat)(w:World):Prop:=
 ∀(l:Nat)(J:List α->World->Prop)(W:World),Below w.heap.size w W->AbidesFrom W.heap.size J→
  (∀pre x W1,J pre W1->Sx x W1->pre.length<N->YieldAt F (n-1) P l (encs x) W1 fun e W'=>e=.returned (.bool true)/\J (pre++[x]) W'/\kf E W1 W')→
  J [] W->CallsIn F n P g (#[.func (.yield l) #[] #[]]++lb) W fun e W'=>(∃v,e=.returned v)/\∃xs,S xs/\J xs W'
theorem amf{F:Fence}{n:Nat}{P:Program}{α:Type}{g:Operand}{ps:Array Tmp}{assign body:Code}{Q:Exit->Act->World->Prop}{a:Act}{w:World}
 (hro:F.round=none) (h1:1<=n) {gf:Nat} {lb:Array Value} (hg:a.eval g=.func (.func gf) #[] lb) (hFg:F.fn gf) (eg:∀args w,(callFunc gf args).run P w=.ok (.enter gf args) w)
 {encs:α->Array Value} {E:Nat->Prop} {Sx:α->World->Prop} {S:List α->Prop} {N:Nat} (hseq:SeqMem F (n-1) P gf lb encs E Sx S N w) (hps:∀x,(encs x).size=ps.size)
 (hSx:OwnFrom w.heap.size Sx) (I:List α->World->Prop) (hI:OwnFrom w.heap.size I) (h0:I [] w) (a₁:α->Act)
 (hassign:∀(l:Nat)(x:α)(W:World)(K:Act->World->Prop),K (a₁ x) W→
  assign.wpIn (F.inRound l) (n-1-1) P (Exit.then K (fun _ _ _=>False)) {tmps:=(ps.zip (encs x)).foldl (fun t(p,v)=>t.setIfInBounds p v) a.tmps,defers:=[]} W)
 (hbody:∀(l:Nat)(pre:List α)(x:α)(W:World),I pre W->Sx x W->pre.length<N→
  body.wpIn (F.inRound l) (n-1-1) P (Exit.then (fun _ W'=>KeepsFrom w.heap.size W W'/\kf E W W'/\I (pre++[x]) W') (fun _ _ _=>False)) (a₁ x) W)
 (hdone:∀(D:Nat)(xs:List α)(W:World),w.heap.size<=D->S xs->I xs W->W.heap[D]?=some (.deferred (some []))->Q .normal {a with defers:={target:=.collected D,args:=#[]}::a.defers} W):
 (Code.rangeFunc g ps assign body).wpIn F n P Q a w:=by
 refine wpIn_rangeFunc fun fn hfn=>?_
 rw[hro];let rec':LoopState->Loop:=fun st=>{state:=st,pending:=none,fn,tmps:=a.tmps,params:=ps,assign,body,defers:=w.heap.size}
 let lw:Nat:=w.heap.size+1;have start:∀W1,W1=(w.alloc (.deferred (some []))).alloc (.loop (rec' .ready))->(W1.heap[lw]?=some (.loop (rec' .ready))/\W1.heap[w.heap.size]?=some (.deferred (some [])))/\(I [] W1/\Below w.heap.size w W1):=by
  rintro W1 rfl;refine⟨⟨?_,(Below.heap_alloc _ _ _ (by simp)).trans (World.alloc_heap_new w _)⟩,hI.alloc _ (hI.alloc _ h0),((aw _ w).alloc ac _).alloc (by simp) _⟩;have:=World.alloc_heap_new (w.alloc (.deferred (some []))) (.loop (rec' .ready));rwa[bg]at this
 obtain⟨W1,hW1⟩:∃W1,W1=(w.alloc (.deferred (some []))).alloc (.loop (rec' .ready)):=⟨_,rfl⟩;have hs1:W1.heap.size=w.heap.size+2:=by rw[hW1];simp
 obtain⟨⟨hL1,hK1⟩,hI1,hb1⟩:=start W1 hW1;have turn:∀{β:Type}{p:β->World->Prop},OwnFrom w.heap.size p->∀(s:β)(A B:World)(row:Option Nat),p s A->A.grownBy B row->(∀r,row=some r->W1.heap.size<=r/\∃o:Obj,A.heap[r]?=some o/\o.isWalk=true)->p s B:=
  fun hp s A B row hs hg hr=>hp s A B row hs hg fun r e=>by
   obtain⟨hB,o,ho,hw⟩:=hr r e;exact⟨by omega,o,ho,Obj.not_cells_of_walk hw⟩
 refine⟨lw,[{target:=.collected w.heap.size,args:=#[]}],W1,{target:=.fn (.func gf) lb,args:=#[.func (.yield lw) #[] #[]]},W1,gf,#[.func (.yield lw) #[] #[]]++lb,W1,?_,?_,?_,?_,fun _=>h1,?_⟩
 ·rw[hW1];exact run_enterLoop_outer _ _ _ _ _
 ·simp only[resolve,hg];simp[go_sem]
 ·intro f' hf';simp[Target.leads]at hf';subst hf';exact hFg
 ·simp[invoke,go_sem,eg]
 ·refine(hseq lw (fun pre W=>I pre W/\W.heap[lw]?=some (.loop (rec' .ready))/\W.heap[w.heap.size]?=some (.deferred (some []))) W1 hb1
   (fun s A B row hs hg' hr=>⟨turn hI s A B row hs.1 hg' hr,(grownBy_keeps hg' (fun r e=>(hr r e).2) hs.2.1 rfl).trans hs.2.1,(grownBy_keeps hg' (fun r e=>(hr r e).2) hs.2.2 rfl).trans hs.2.2⟩)
   ?_ ⟨hI1,hL1,hK1⟩).mono ?_
  ·rintro pre x W⟨hi,hl,hk⟩hx hlen
   have hlt:lw<W.heap.size:=(df.1 hl).1;refine⟨fn,_,assign,body,run_yield (P:=P) (args:=encs x) hl (hps x),roundIn_of_wpIn hfn (hassign _ x W _ ⟨_,run_beginRound hl rfl,?_⟩)⟩;obtain⟨W2,hW2⟩:∃W2,W2=W.putObj lw (.loop {rec' .ready with state:=.busy}):=⟨_,rfl⟩;have hl2:W2.heap[lw]?=some (.loop {rec' .ready with state:=.busy}):=by rw[hW2];exact World.putObj_heap_same hlt
   have hk2:W2.heap[w.heap.size]?=some (.deferred (some [])):=by rw[hW2];exact(World.putObj_heap_other (by show w.heap.size≠w.heap.size+1;omega)).trans hk
   have hX2:kf E W W2:=by rw[hW2];exact kf.put hl _
   have hi2:I pre W2:=by rw[hW2];exact hI.putObj _ hi (by show w.heap.size<=w.heap.size+1;omega) hl rfl
   have hx2:Sx x W2:=by rw[hW2];exact hSx.putObj _ hx (by show w.heap.size<=w.heap.size+1;omega) hl rfl
   show body.wpIn _ _ _ _ _ (W.putObj lw _);rw[<-hW2];refine wpIn_mono (hbody _ pre x W2 hi2 hx2 hlen) ?_;rintro e a3 W3 hp;cases e with
   |normal=>
    obtain⟨hk3,hX3,hi3⟩:=hp;have hl3:=hk3.same _ _ (by show w.heap.size<=w.heap.size+1;omega) hl2 rfl;refine⟨_,_,run_endRound (P:=P) none hl3,rfl,⟨hI.putObj _ hi3 (by show w.heap.size<=w.heap.size+1;omega) hl3 rfl,World.putObj_heap_same (df.1 hl3).1,(World.putObj_heap_other (by show w.heap.size≠w.heap.size+1;omega)).trans (hk3.same _ _ ac hk2 rfl)⟩,(hX2.trans hX3).trans (kf.put hl3 _)⟩
   |_=>exact hp.elim
  ·rintro e W2⟨⟨v,rfl⟩,xs,hS,hi,hl,hk⟩
   exact⟨none,_,run_endLoop (P:=P) hl (by simp[rec']),hdone _ xs _ ac hS (hI.putObj _ hi (by show w.heap.size<=w.heap.size+1;omega) hl rfl) ((World.putObj_heap_other (by show w.heap.size≠w.heap.size+1;omega)).trans hk)⟩
end
section
set_option maxRecDepth 100000
set_option maxHeartbeats 4000000
open Go.RowKit Go.Shelf
attribute [local go_sem] Oper.semAt_some
def ox(m B:Nat)(W W':World):Prop:=Below m W W'/\∀b o,B<=b->b<B+2->W'.cell? ⟨b,o,none⟩=W.cell? ⟨b,o,none⟩
theorem tg{m B:Nat}{X Y Z:World}(h:ox m B X Y)(k:ox m B Y Z):ox m B X Z:=
 ⟨h.1.trans k.1,fun b o h1 h2=>(k.2 b o h1 h2).trans (h.2 b o h1 h2)⟩
theorem ara{m B:Nat}{w:World}(hm:m<=w.heap.size)(hB:B+2<=w.heap.size)(W:World)(l:Nat)(o o':Obj)(hl:w.heap.size<=l)(h:W.heap[l]?=some o)(hc:o.isCells=false)(hw:o.isWalk=false):ox m B W (W.putObj l o'):=
 ⟨belowK_b hm W l o o' hl h hc hw,fun b i h1 h2=>World.cell?_of_block (World.putObj_heap_other (by show b≠l;omega))⟩
theorem ox.of_below{m B k:Nat}{W W':World}(h:Below k W W')(hm:m<=k)(hB:B+2<=k):ox m B W W':=
 ⟨h.mono hm,fun b o _ h2=>h.cell (p:=⟨b,o,none⟩) (by show b<k;omega)⟩
abbrev abx(W:World)(B S E:Nat):Prop:=W.cell? ⟨B,0,none⟩=some (.int .i64 (S:Nat))/\W.cell? ⟨B+1,0,none⟩=some (.int .i64 (E:Nat))
theorem abx.keeps{W W':World}{m B S E:Nat}(h:abx W B S E)(k:ox m B W W'):abx W' B S E:=
 ⟨(k.2 B 0 (by omega) (by omega)).trans h.1,(k.2 (B+1) 0 (by omega) (by omega)).trans h.2⟩
def mc(S E:Nat):Nat:=(S-1)/E+1
def bw(S E x:Nat):Nat:=min x (mc S E-1)
def oy(S E j:Nat):Nat:=min E (S-j*E)
theorem bw_eq{S E k:Nat}(h:k<mc S E):bw S E k=k:=by unfold bw;omega
theorem bw_lt(S E x:Nat):bw S E x<mc S E:=by
 unfold bw mc;generalize (S-1)/E=q;omega
theorem aer{S E j:Nat}(hS:1<=S)(h:j<mc S E):j*E<S:=by
 unfold mc at h;have h1:j<=(S-1)/E:=by omega
 have h2:=Nat.mul_le_mul_right E h1;have h3:=Nat.div_mul_le_self (S-1) E;omega
theorem ags{S E:Nat}(hE:1<=E):S<=mc S E*E:=by
 unfold mc;have h1:=Nat.div_add_mod (S-1) E;have h2:=Nat.mod_lt (S-1) hE;rw[Nat.succ_mul,dq];omega
theorem agr{S E j:Nat}(hS:1<=S)(h:j<mc S E):j*E+oy S E j=min ((j+1)*E) S:=by
 have h1:=aer hS h;unfold oy;rw[Nat.succ_mul];omega
theorem bcnt_le{S E:Nat}(hS:1<=S):mc S E<=S:=by
 unfold mc;have:=Nat.div_le_self (S-1) E;omega
theorem ajd(N l m B S E:Nat)(hS:1<=S)(hE:1<=E)(hS2:S<=100000)(hE2:E<=100000)(J Jx:List Nat->World->Prop)
 (W:World) (hA:abx W B S E)
 (hY:∀pre x W,J pre W->pre.length<mc S E->YieldAt Fence.wide (N-1) prog l #[.int .i64 (bw S E x*E:Nat),.int .i64 (oy S E (bw S E x):Nat)] W fun e W'=>
  (e=.returned (.bool true)/\J (pre++[x]) W'/\ox m B W W')\/(e=.returned (.bool false)/\Jx (pre++[x]) W')) (h0:J [] W):
 CallsIn Fence.wide N prog 72 #[.func (.yield l) #[] #[],.pointer (some ⟨B,0,none⟩),.pointer (some ⟨B+1,0,none⟩)] W fun e W'=>(∃v,e=.returned v)∧
  ((∃ys,ys=kh 0 (mc S E)/\J ys W')\/(∃pre,(∃k,k<mc S E/\pre=kh 0 (k+1))/\Jx pre W')):=by
 have HN:=aa fun j(h:j<mc S E)=>agr hS h
 have HL:=aa fun j(h:j<mc S E)=>aer hS h
 have HAll:Hid (S<=mc S E*E):=aa (ags hE);have HBw:=aa fun j(h:j<mc S E)=>bw_eq h
 have HBM:Hid (∀j,oy S E j=min E (S-j*E)):=aa fun j=>rfl
 generalize mc S E=nt at *;have hSI:(S:Int)<=100000:=by omega
 have hEI:(E:Int)<=100000:=by omega
 have hSI0:(1:Int)<=S:=by omega
 have hEI0:(1:Int)<=E:=by omega
 have HA:=aa hA;clear hA;refine callsIn_of_wp func72 rfl trivial ?_ rfl;simp only[ntmps72,List.size_toArray,bz,List.length_nil,Nat.reduceAdd,Nat.reduceSub,Array.replicate_succ,Array.replicate_zero,List.push_toArray,List.append_toArray,List.nil_append,dk];gi_wp2
 gi_loopw [4] (fun i wr=>∃k:Nat,k<=nt/\i=.int .i64 ((min (k*E) S:Nat):Int)/\J (kh 0 k) wr/\ox m B W wr) (fun i _=>S-(intOf i).toNat)
 case atStart=>exact⟨0,by omega,by rw[Nat.zero_mul,Nat.zero_min];rfl,h0,⟨ae,fun _ _ _ _=>rfl⟩⟩
 case round=>
  obtain⟨k,hk,rfl,hJk,hkp⟩:=hrel;obtain⟨c0,c1⟩:=HA.out.keeps hkp;by_cases hlt:k<nt
  ·have hat:=HL.out k hlt
   have hnx:=HN.out k hlt;have hmn:=HBM.out k;have hYk:=hY (kh 0 k) k wr hJk (by rw[r8];exact hlt);rw[HBw.out k hlt]at hYk;obtain⟨fn,tmps,assign,body,hy,hRR⟩:=hYk;rw[show kh 0 k++[k]=kh 0 (k+1) by rw[n9,dg]]at hRR;have HRR:=aa hRR;have HJ:=aa hJk;have HK:=aa hkp;rw[show min (k*E) S=k*E by omega];have hgr:k*E<min ((k+1)*E) S:=by rw[<-hnx,hmn];omega
   have HGR:=aa hgr;rw[hmn]at hnx hy;clear hmn hRR hJk hkp hgr;by_cases hc:S-k*E<E
   ·rw[show min E (S-k*E)=S-k*E by omega]at hnx hy
    have hi:((S-k*E:Nat):Int)=(S:Int)-(k*E:Nat):=by omega
    rw[hi]at hy;have HNX:Hid (((k*E:Nat):Int)+((S:Int)-(k*E:Nat))=((min ((k+1)*E) S:Nat):Int)):=aa (by omega);clear hi;generalize k*E=a at *;have hatI:(a:Int)<S:=by omega
    have haI0:(0:Int)<=a:=by omega
    have hcI:(S:Int)-a<E:=by omega
    gi_wp2
    refine⟨fun h=>(by cases h),HRR.out.mono ?_⟩;rintro e W3(⟨rfl,hJ3,hk3⟩|⟨rfl,hJx3⟩)
    ·obtain⟨c0,c1⟩:=HA.out.keeps (tg HK.out hk3)
     have HJ3:=aa hJ3;have Hk3:=aa hk3;clear hJ3 hk3;gi_wp2
     exact⟨⟨k+1,by omega,by rw[<-HNX.out];try(congr 1;omega),HJ3.out,tg HK.out Hk3.out⟩,by have:=HGR.out;have:=HNX.out;simp[intOf];omega⟩
    ·gi_wp2
     refine ay (results_none rfl _ _ _) rfl ?_;exact⟨⟨_,rfl⟩,.inr ⟨_,⟨k,hlt,rfl⟩,hJx3⟩⟩
   ·rw[show min E (S-k*E)=E by omega]at hnx hy
    have HNX:Hid (((k*E:Nat):Int)+(E:Int)=((min ((k+1)*E) S:Nat):Int)):=aa (by omega);generalize k*E=a at *;have hatI:(a:Int)<S:=by omega
    have haI0:(0:Int)<=a:=by omega
    have hcI:¬((S:Int)-a<E):=by omega
    gi_wp2
    refine⟨fun h=>(by cases h),HRR.out.mono ?_⟩;rintro e W3(⟨rfl,hJ3,hk3⟩|⟨rfl,hJx3⟩)
    ·obtain⟨c0,c1⟩:=HA.out.keeps (tg HK.out hk3)
     have HJ3:=aa hJ3;have Hk3:=aa hk3;clear hJ3 hk3;gi_wp2
     exact⟨⟨k+1,by omega,by rw[<-HNX.out];try(congr 1;omega),HJ3.out,tg HK.out Hk3.out⟩,by have:=HGR.out;have:=HNX.out;simp[intOf];omega⟩
    ·gi_wp2
     refine ay (results_none rfl _ _ _) rfl ?_;exact⟨⟨_,rfl⟩,.inr ⟨_,⟨k,hlt,rfl⟩,hJx3⟩⟩
  ·obtain rfl:k=nt:=by omega
   have hall:=HAll.out;rw[show min (k*E) S=S by omega];gi_wp2
   go_end0
   exact⟨⟨_,rfl⟩,.inl ⟨_,rfl,hJk⟩⟩
theorem agp(S E:Int)(w:World):
 Calls prog 37 #[.int .i64 S,.int .i64 E] w fun e w'=>e=.returned (.func (.func 72) #[] #[.pointer (some ⟨w.heap.size,0,none⟩),.pointer (some ⟨w.heap.size+1,0,none⟩)])∧
  w'.cell? ⟨w.heap.size,0,none⟩=some (.int .i64 S)/\w'.cell? ⟨w.heap.size+1,0,none⟩=some (.int .i64 E)/\w'.heap.size=w.heap.size+2/\Below w.heap.size w w':=by
 go_enter func37,ntmps37;go_wp2;go_ret;refine⟨rfl,?_,?_,?_,(ae.alloc ac _).alloc (by simp) _⟩<;>simp[go_sem]
theorem aeq(N m B S E:Nat)(hS:1<=S)(hE:1<=E)(hS2:S<=100000)(hE2:E<=100000)(w:World)
 (hm:m<=B) (hB:B+2<=w.heap.size) (hA:abx w B S E):
 SeqStopsK Fence.wide N prog 72 #[.pointer (some ⟨B,0,none⟩),.pointer (some ⟨B+1,0,none⟩)] (fun x:Nat=>#[Value.int .i64 (bw S E x*E:Nat),Value.int .i64 (oy S E (bw S E x):Nat)]) (ox m B)
  (fun ys=>ys=kh 0 (mc S E)) (fun pre=>∃k,k<mc S E/\pre=kh 0 (k+1)) (mc S E) w:=fun l J Jx W hW _ _ hY h0=>
 ajd N l m B S E hS hE hS2 hE2 J Jx W (hA.keeps (ox.of_below (m:=m) hW (by omega) hB)) hY h0
end
section
set_option maxRecDepth 100000
set_option maxHeartbeats 4000000
open Go.RowKit Go.Shelf
attribute [local go_sem] Oper.semAt_some
theorem abk(at':Option Addr)(n ct:Nat)(size:Int)(w:World):∃W3,(((w.alloc (Obj.cells #[Value.slice at' n ct] 42)).alloc (Obj.cells #[Value.int IntKind.i64 size] 3)).alloc (Obj.cells #[Value.int IntKind.i64 (n:Nat)] 3)).drew=W3∧
 W3.cell? ⟨w.heap.size,0,none⟩=some (.slice at' n ct)/\W3.cell? ⟨w.heap.size+1,0,none⟩=some (.int .i64 size)/\W3.cell? ⟨w.heap.size+2,0,none⟩=some (.int .i64 (n:Nat))/\W3.heap.size=w.heap.size+3/\Below w.heap.size w W3:=by
 refine⟨_,rfl,?_,?_,?_,?_,((((aw _ w).alloc ac _).alloc (by simp) _).alloc (by simp;omega) _).drew⟩<;>simp[go_sem]
theorem asa(ap at':Option Addr)(m n cp ct:Nat)(A B:Nat->Nat)(size:Int)(hm:m<=1000)(hn:n<=100000)(hbad:¬((1:Int)<=m/\(m:Int)<=n)\/zt m n size (ss A m) (ss B n) m≠0)(w:World)(hA:i8 w ap m A w.heap.size)(hB:i8 w at' n B w.heap.size):
 Calls prog 13 #[.slice ap m cp,.slice at' n ct,.int .i64 size] w fun e w'=>e=.returned (.tuple #[.slice none 0 0,.int .i64 0,.int .i64 (zt m n size (ss A m) (ss B n) m)])/\Below w.heap.size w w':=by
 have hck:=aa fun w'(h1:i8 w' ap m A w'.heap.size)(h2:i8 w' at' n B w'.heap.size)=>abr ap at' m n cp ct A B size (by omega) hn w' h1 h2
 have hsl:¬((1:Int)<=m/\(m:Int)<=n)->zt m n size (ss A m) (ss B n) m=0:=fun h=>by unfold zt;rw[if_pos h]
 obtain⟨W3,hW3,q0,q1,q2,hs3,hb3⟩:=abk at' n ct size w;generalize zt m n size (ss A m) (ss B n) m=R at *;have HA:=aa (hA.below hb3 ac);have HB:=aa (hB.below hb3 ac);have Hb3:=aa hb3;have HW3:=aa hW3;clear hA hB hb3 hW3;refine(callsIn_wide (n:=9)).1 ?_;refine callsIn_of_wp_marks func13 rfl trivial ?_ rfl;simp only[ntmps13,List.size_toArray,bz,List.length_nil,Nat.reduceAdd,Nat.reduceSub,Array.replicate_succ,Array.replicate_zero,List.push_toArray,List.append_toArray,List.nil_append,dk];gi_wp2_with fail
 gi_region
 rw[HW3.out];have c0:w.heap.size<W3.heap.size:=by omega
 have c1:w.heap.size+1<W3.heap.size:=by omega
 have c2:w.heap.size+2<W3.heap.size:=by omega
 by_cases hR:R=0
 ·have hns:¬((1:Int)<=m/\(m:Int)<=n):=hbad.resolve_right (fun h=>h hR)
  subst hR;have hs:=aa fun w'=>xz m n hns w'
  clear hsl hns hbad;gi_wp2_with(refine⟨trivial,?_⟩;gi_at_call 33;refine(callsIn_wide.2 (hck.out _ (HA.out.mono (by omega)) (HB.out.mono (by omega)))).mono ?_;rintro e w1⟨rfl,hb⟩;have p0:=(hb.cell (p:=⟨w.heap.size,0,none⟩) c0).trans q0;have p1:=(hb.cell (p:=⟨w.heap.size+1,0,none⟩) c1).trans q1;have p2:=(hb.cell (p:=⟨w.heap.size+2,0,none⟩) c2).trans q2)
  gi_wp2_with(refine⟨trivial,?_⟩;gi_at_call 34;refine(callsIn_wide.2 (hs.out _)).mono ?_;rintro e w2⟨rfl,hb2⟩)
  exact⟨_,results_tmp3 rfl _ _ _,rfl,(Hb3.out.trans (hb.mono (by omega))).trans (hb2.mono (by have:=hb.size;omega))⟩
 ·clear hsl hbad
  have hRe:(R==0)=false:=by rw[ax];exact hR
  gi_wp2_with(refine⟨trivial,?_⟩;gi_at_call 33;refine(callsIn_wide.2 (hck.out _ (HA.out.mono (by omega)) (HB.out.mono (by omega)))).mono ?_;rintro e w1⟨rfl,hb⟩;have p0:=(hb.cell (p:=⟨w.heap.size,0,none⟩) c0).trans q0;have p1:=(hb.cell (p:=⟨w.heap.size+1,0,none⟩) c1).trans q1;have p2:=(hb.cell (p:=⟨w.heap.size+2,0,none⟩) c2).trans q2)
  refine⟨trivial,?_⟩;gi_wp2
  exact⟨_,results_tmp3 rfl _ _ _,rfl,Hb3.out.trans (hb.mono (by omega))⟩
end
section
theorem ano{md:Nat}[NeZero md]{a b:Nat->Fin md}{W:Fin md}{n:Nat}(h:∀i,i<n->a i=b i)(j:Nat):dft a W n j=dft b W n j:=by
 unfold dft;exact gy fun i hi=>by rw[h i hi]
theorem an8(k t m n at' len:Nat)(hk:k<3)(ht:t<=12)(A B y f z o:Nat->Nat)(hm:m<=2^t)(hlen:at'+len=min n (at'+2^t))
 (hy:∀j,j<2^t->(ph (y j):Fin (P3 k))=dft (fun i=>ph (pt A (2^t) m i)) (ph (jr k t)) (2^t) j)
 (hf:∀j,j<2^t->(ph (f j):Fin (P3 k))=dft (fun i=>ph (if i<len then B (at'+i)else 0)) (ph (jr k t)) (2^t) j)
 (hz:∀j,j<2^t->z j=j1 k (f j) (y j))
 (ho:∀j,j<2^t->(ph (o j):Fin (P3 k))=dft (fun i=>ph (z i)) (ph (na k (jr k t))) (2^t) j*ph (na k (2^t)))
 (i:Nat) (hi:i+m<=2^t) (hin:at'+i+m<=n) (hp:0<m):o i%P3 k=j9 A B (at'+i) m%P3 k:=by
 apply aax (p:=P3 k);have hi2:i<2^t:=by omega
 rw[ho i hi2,ano (b:=fun j=>dft (fun i=>ph (pt A (2^t) m i)) (ph (jr k t)) (2^t) j*dft (fun i=>ph (if i<len then B (at'+i)else 0)) (ph (jr k t)) (2^t) j) (fun j hj=>by
  rw[hz j hj,me,hy j hj,hf j hj];grind)]
 rw[ahp (fun i=>ph (pt A (2^t) m i)) (fun i=>ph (if i<len then B (at'+i)else 0)) (ph (jr k t)) (ph (na k (jr k t))) (ph (na k (2^t))) t (fun h=>by rw[h];exact al0 k hk) (fun h=>aau k t hk h ht) (abc k t hk) (by rw[ph_ones];exact arg k t hk) i hi2];rw[slid (fun j=>ph (A j)) (fun i=>ph (if i<len then B (at'+i)else 0)) (2^t) m i hm hi (fun i=>ph (pt A (2^t) m i)) (fun u _=>by
  show(ph (pt A (2^t) m u):Fin (P3 k))=_
  unfold pt
  by_cases h:(2^t-u)%2^t<m
  ·rw[if_pos h,if_pos h]
  ·rw[if_neg h,if_neg h,uj])]
 rw[sumP_ph];refine gy fun j hj=>?_
 show ph (A j)*ph (if i+j<len then B (at'+(i+j))else 0)=ph (A j)*ph (B (at'+i+j));rw[if_pos (by omega),dy]
theorem alm(A B:Nat->Nat)(m n i:Nat)(hin:i+m<=n)(h:m*(ss A m*ss B n)<=18446744073709551615):j9 A B i m<18446744073709551616:=by
 have:=ac5 A B i m (ss A m) (ss B n) (fun j hj=>arq A m j hj) (fun j hj=>arq B n (i+j) (by omega));omega
theorem sz_pow{m:Nat}{size:Int}(h:vn m size=true):∃t,t<=12/\size=((2^t:Nat):Int)/\m<=2^t:=by
 unfold vn at h;rw[ce,cg]at h;obtain⟨h1,h2⟩:=h;unfold lgB at h1;rw[cg]at h1;have hc:=(j8 (mz size) 13 0).2.2.1 (by unfold lgN at h1;omega);change mz size (lgN size)=true at hc;unfold mz at hc;rw[cg]at hc;refine⟨lgN size,by omega,by rw[Int.natCast_pow];exact hc,?_⟩;have h3:(m:Int)<=((2^lgN size:Nat):Int):=by rw[Int.natCast_pow];exact Int.le_trans h2 (Int.le_of_eq hc)
 exact Int.ofNat_le.1 h3
end
section
theorem abz(X:Nat->Nat)(a b:Nat):fh X (a+b)=fh X a++fh (fun i=>X (a+i)) b:=by
 induction b with
 |zero=>simp only[fh,Nat.add_zero,dh]
 |succ b ih=>rw[<-dy];simp only[fh];rw[ih,dc]
def ou(S E:Nat)(pre:List Nat):Nat:=(pre.map fun x=>oy S E (bw S E x)).sum
def ma(S E:Nat)(X:Nat->Nat)(pre:List Nat):List Value:=pre.flatMap fun x=>fh (fun i=>X (bw S E x*E+i)) (oy S E (bw S E x))
theorem zc(S E:Nat)(pre:List Nat)(x:Nat):ou S E (pre++[x])=ou S E pre+oy S E (bw S E x):=by
 unfold ou;simp
theorem vk(S E:Nat)(X:Nat->Nat)(pre:List Nat)(x:Nat):ma S E X (pre++[x])=ma S E X pre++fh (fun i=>X (bw S E x*E+i)) (oy S E (bw S E x)):=by
 unfold ma;simp
theorem an9(S E:Nat)(pre:List Nat):ou S E pre<=pre.length*E:=by
 induction pre with
 |nil=>exact cx _
 |cons x pre ih=>
  have h:ou S E (x::pre)=oy S E (bw S E x)+ou S E pre:=by unfold ou;simp
  have h2:oy S E (bw S E x)<=E:=by unfold oy;omega
  rw[h,bz,Nat.succ_mul];omega
theorem blk_to(S E:Nat)(X:Nat->Nat)(hS:1<=S)(k:Nat)(hk:k<=mc S E):ou S E (kh 0 k)=min (k*E) S/\ma S E X (kh 0 k)=fh X (min (k*E) S):=by
 induction k with
 |zero=>rw[Nat.zero_mul,Nat.zero_min];exact⟨rfl,rfl⟩
 |succ k ih=>
  obtain⟨h1,h2⟩:=ih (by omega);have hlt:k<mc S E:=by omega
  have ha:=aer hS hlt;have hn:=agr hS hlt;rw[n9,dg,zc,vk,h1,h2,bw_eq hlt,show min (k*E) S=k*E by omega,<-abz,hn];exact⟨rfl,rfl⟩
theorem an7(S E:Nat)(X:Nat->Nat)(hS:1<=S)(hE:1<=E):ou S E (kh 0 (mc S E))=S/\ma S E X (kh 0 (mc S E))=fh X S:=by
 have h:=blk_to S E X hS (mc S E) ac;rw[show min (mc S E*E) S=S by have:=ags (S:=S) hE;omega]at h;exact h
end
end Go.Proofs.YtjfkmoinldlmaaaGreat
