/- The walk of BeagleFails, part 13. A region that draws its order, within a round of a range over a function. Walk of the closure of zed.rows. Walk of naive.Counts: a range over a function. Walk of naive.Find: a range over a function. Walk of naive.At: a range over a function that is left at once. Walk of naive.First: a range over a function that is left when something is found. What naive counts, finds and finds first is what the document says: plain lists. What the loop of zed.rows holds. -/
import Derived.Test.YtjfkmoinldlmaaaGreatFa10
import Derived.RangeFuncBox
import Derived.Maps.AppendAt
import Derived.OrdersIn
import Derived.Test.YtjfkmoinldlmaaaGreatFa06
namespace Go.Proofs.YtjfkmoinldlmaaaGreat
open Go.Proofs.Tryz
section
open Go.RowKit Go.Shelf
section
variable{P:Program}
theorem aib{l n:Nat}{o:Oper}{a:Act}{w:World}{K:Act->World->Prop}{Q:Exit->Act->World->Prop}(hd:∀c,o.op≠.defer c)(h:o.wp P a w K Q):o.wpIn (Fence.wide.inRound l) n P a w K Q:=by
 refine⟨fun _ _=>trivial,?_⟩;rw[Fence.inRound_round,Oper.semAt_some l _ _ hd];unfold Oper.wp at h;generalize (execOp a.eval o).run P w=r at *;cases r with
 |ok x w'=>
  cases x with
  |value v=>exact h
  |skip=>exact h
  |defer d=>exact h
  |enter f args=>exact⟨fun hx=>(by cases hx),CallsIn.inRound l (callsIn_wide.2 h)⟩
  |row r args=>exact⟨fun hx=>(by cases hx),fun c cs _=>let⟨v,w2,hr,hs⟩:=h c cs;⟨v,w2,hr,(stepsIn_wide (P:=P)).2 hs⟩⟩
  |round l f tmps assign body=>exact h.elim
  |_=>exact h.elim
 |halt x w'=>cases x<;>first|exact h|exact h.elim
theorem aob{l n:Nat}{ops:Array Oper}{Q:Exit->Act->World->Prop}{md:Region.Mode}(hd:∀(i:Nat)o,ops[i]?=some o->∀c,o.op≠.defer c)(hQ:¬LetsOut Q):
 ∀(fuel:Nat)(listed:Array Bool)(a:Act)(w:World),wpAny P md ops Q fuel listed a w->wpAnyIn (Fence.wide.inRound l) n P md ops Q fuel listed a w:=by
 intro fuel;induction fuel with
 |zero=>intro listed a w h;exact h
 |succ fuel ih=>
  intro listed a w h;refine⟨h.1,fun i hi=>?_⟩;have h1:=h.2 i hi;unfold wpOp at h1;unfold wpOpIn;cases ho:ops[i]? with
  |none=>simp only[ho]at h1;exact ih _ _ _ h1
  |some o=>
   simp only[ho]at h1⊢;by_cases hw:Region.wanted o (yielded ops a.tmps)=true
   ·rw[if_pos hw]at h1⊢
    rcases h1 with h1|h1
    ·exact Oper.wpIn_mono (fun a w=>ih _ a w) (aib (hd i o ho) h1)
    ·exact absurd h1.2 hQ
   ·rw[if_neg hw]at h1⊢
    exact⟨fun _ _=>trivial,ih _ _ _ h1⟩
def ad0(ops:Array Oper):Bool:=ops.all fun o=>match o.op with| .defer _=>false|_=>true
theorem adz{ops:Array Oper}(h:ad0 ops=true)(i:Nat)(o:Oper)(ho:ops[i]?=some o)(c):o.op≠.defer c:=by
 intro e;unfold ad0 at h;rw[Array.all_eq_true]at h;obtain⟨hi,rfl⟩:=df.1 ho;have:=h i hi;rw[e]at this;cases this
theorem r6{l n id:Nat}{ops:Array Oper}{Q:Exit->Act->World->Prop}{a:Act}{w:World}(S:World->Prop)(hm:P.follows .mixedOrders=true)(hd:ad0 ops=true)(hQ:¬LetsOut Q)(hS:S w.drew)
 (h:S w.drew->wpAnyH P .any ops Q S ops.size (Array.replicate ops.size false) a w.drew):(Code.region id ops true).wpIn (Fence.wide.inRound l) n P Q a w:=
 wpIn_region_any hm (aob (fun i o ho c=>adz hd i o ho c) hQ _ _ _ _ (wpAny_of_held _ _ _ _ (h hS)))
end
end
section
set_option maxRecDepth 100000
set_option maxHeartbeats 4000000
open Go.RowKit Go.Shelf
theorem x7(i to:Nat)(bt bo bf bu:Nat)(hi:to<=i)(w:World)(ht:Boxed w bt 3 (.int .i64 (to:Nat))):
 Calls prog 219 #[.int .i64 (i:Nat),.pointer (some ⟨bt,0,none⟩),.pointer (some ⟨bo,0,none⟩),.pointer (some ⟨bf,0,none⟩),.pointer (some ⟨bu,0,none⟩)] w fun e w'=>e=.returned (.int .i64 0)/\Below w.heap.size w w':=by
 have c1:=ht.cell;have hge:(to:Int)<=i:=by omega
 clear ht;go_enter func219,ntmps219;go_wp2;go_ret;exact⟨rfl,ae⟩
theorem apa(i fr to:Nat)(bt bo bf bu:Nat)(hi:i<to)(hto:to<=1000000)(hf:fr<=i)(g o n cap:Nat)(A:Nat->Int)(hn:i-fr<n)(w:World)(ht:Boxed w bt 3 (.int .i64 (to:Nat)))(hfr:Boxed w bf 3 (.int .i64 (fr:Nat)))(ho:Boxed w bo 24 (.slice (some ⟨g,o,none⟩) n cap))
 (hc:w.cell? ⟨g,o+(i-fr),none⟩=some (.int .i64 (A (i-fr)))):
 Calls prog 219 #[.int .i64 (i:Nat),.pointer (some ⟨bt,0,none⟩),.pointer (some ⟨bo,0,none⟩),.pointer (some ⟨bf,0,none⟩),.pointer (some ⟨bu,0,none⟩)] w fun e w'=>e=.returned (.int .i64 (min (A (i-fr)) ((to:Int)-i)))/\Below w.heap.size w w':=by
 have c1:=ht.cell;have c2:=hfr.cell;have c3:=ho.cell;have hlt:(i:Int)<to:=by omega
 have hlt2:¬to<=i:=by omega
 obtain⟨d,hd⟩:∃d,d=i-fr:=⟨_,rfl⟩;rw[<-hd]at hc hn⊢;have hw1:IntKind.i64.wrap ((i:Int)-fr)=(d:Int):=by rw[ci];omega
 have hw2:IntKind.i64.wrap ((to:Int)-i)=(to:Int)-i:=by rw[ci];omega
 have hd0:(0:Int)<=d:=by omega
 have hdn:(d:Int)<n:=by omega
 clear hd ht hfr ho;by_cases hq:(to:Int)-i<A d
 ·rw[Int.min_eq_right (by omega)]
  go_enter func219,ntmps219;go_wp2_with fail
  go_region;go_wp2;go_ret;exact⟨rfl,ae.drew⟩
 ·rw[Int.min_eq_left (by omega)]
  go_enter func219,ntmps219;go_wp2_with fail
  go_region;go_wp2;go_ret;exact⟨rfl,ae.drew⟩
theorem apb(i fr to:Nat)(bt bo bf bu:Nat)(hi:i<to)(hto:to<=1000000)(hf:fr<=i)(g o n cap:Nat)(A:Nat->Int)(hn:i-fr<n)(w:World)(ht:Boxed w bt 3 (.int .i64 (to:Nat)))(hfr:Boxed w bf 3 (.int .i64 (fr:Nat)))(ho:Boxed w bo 24 (.slice none 0 0))(hu:Boxed w bu 24 (.slice (some ⟨g,o,none⟩) n cap))
 (hc:w.cell? ⟨g,o+(i-fr),none⟩=some (.int .i64 (A (i-fr)))):
 Calls prog 219 #[.int .i64 (i:Nat),.pointer (some ⟨bt,0,none⟩),.pointer (some ⟨bo,0,none⟩),.pointer (some ⟨bf,0,none⟩),.pointer (some ⟨bu,0,none⟩)] w fun e w'=>e=.returned (.int .i64 (min (A (i-fr)) ((to:Int)-i)))/\Below w.heap.size w w':=by
 have c1:=ht.cell;have c2:=hfr.cell;have c3:=ho.cell;have c4:=hu.cell;have hlt:(i:Int)<to:=by omega
 have hlt2:¬to<=i:=by omega
 obtain⟨d,hd⟩:∃d,d=i-fr:=⟨_,rfl⟩;rw[<-hd]at hc hn⊢;have hw1:IntKind.i64.wrap ((i:Int)-fr)=(d:Int):=by rw[ci];omega
 have hw2:IntKind.i64.wrap ((to:Int)-i)=(to:Int)-i:=by rw[ci];omega
 have hd0:(0:Int)<=d:=by omega
 have hdn:(d:Int)<n:=by omega
 clear hd ht hfr ho hu;by_cases hq:(to:Int)-i<A d
 ·rw[Int.min_eq_right (by omega)]
  go_enter func219,ntmps219;go_wp2_with fail
  go_region;go_wp2;go_ret;exact⟨rfl,ae.drew⟩
 ·rw[Int.min_eq_left (by omega)]
  go_enter func219,ntmps219;go_wp2_with fail
  go_region;go_wp2;go_ret;exact⟨rfl,ae.drew⟩
end
section
set_option maxRecDepth 100000
set_option maxHeartbeats 4000000
open Go.RowKit Go.Shelf
attribute [local go_sem] Oper.semAt_some
theorem Boxed.appended2{W w1:World}{m n₀ B:Nat}{t e:TypeId}{size:Nat}{v v':Value}{k q:Nat}{xs ys:List Value}{tmp:Obj}
 (hv:Boxed W B t v) (hte:t≠e) (hrow:W.ownsRow n₀ e size v k xs) (hn₀:n₀<=W.heap.size) (hm:m<=B) (hmn:m<=n₀)
 (hown':w1.ownsRow n₀ e size v' q ys) (hgrow:(W.alloc tmp).grownBy w1 v.ownBlock):
 Boxed w1 B t v/\Boxed (w1.setCell ⟨B,0,none⟩ v') B t v'/\(w1.setCell ⟨B,0,none⟩ v').ownsRow n₀ e size v' q ys/\KeepsOthers W (w1.setCell ⟨B,0,none⟩ v')/\Below m W (w1.setCell ⟨B,0,none⟩ v')∧
  ∀b o,b<n₀->b≠B->(w1.setCell ⟨B,0,none⟩ v').cell? ⟨b,o,none⟩=W.cell? ⟨b,o,none⟩:=by
 have hv1:Boxed w1 B t v:=(hv.alloc tmp).kept hgrow (hv.not_row hte hrow);have hlt:=hrow.lt;refine⟨hv1,hv1.set v',hown'.kept (grownBy_setCell' w1 B v') (.inr (hv1.not_row hte hown').symm),?_,?_,?_⟩
 ·refine((KeepsOthers.alloc W tmp).trans (KeepsOthers.of_grownBy hgrow fun j o ej hj=>?_)).trans (KeepsOthers.setCell _ _ _)
  rcases(hrow.alloc tmp).2 with⟨rfl,_⟩|⟨g,cap,cur,rfl,_,hgb,_⟩
  ·simp[Value.ownBlock]at ej
  ·obtain rfl:g=j:=by simpa[Value.ownBlock]using ej
   rw[hgb]at hj;cases hj;rfl
 ·exact(((aw m W).alloc (ba hmn hn₀) tmp).grown hgrow (by simp;omega) fun j ej=>ba hmn (hlt j ej).1).setCell (p:=⟨B,0,none⟩) hm v'
 ·intro b o hb hne
  have h1:=World.cell?_of_block (a:=⟨b,o,none⟩) ((grownBy_setCell' w1 B v').block b (by have:=hgrow.size;simp at this;show b<w1.heap.size;omega) (fun e=>hne (by cases e;rfl)));have h2:=World.cell?_of_block (a:=⟨b,o,none⟩) (hgrow.block b (by simp;show b<W.heap.size+1;omega) (fun e=>by have:=(hlt b e.symm).1;omega));have h3:=World.cell?_of_block (a:=⟨b,o,none⟩) ((World.grownBy_alloc W tmp none).block b (show b<W.heap.size by omega) (by simp));exact h1.trans (h2.trans h3)
theorem Boxed.below{W W':World}{B n:Nat}{t:TypeId}{v:Value}(h:Boxed W B t v)(hb:Below n W W')(hn:B<n):Boxed W' B t v:=(hb.block B hn).trans h
end
section
set_option maxRecDepth 100000
set_option maxHeartbeats 4000000
open Go.RowKit Go.Shelf
attribute [local go_sem] Oper.semAt_some
theorem info3:(prog.info? 3).map (fun i=>(i.zero,i.size,i.bytes))=some (some (.int .i64 0),1,8):=by kernel_rfl
def qz(t:ByteArray)(n:Nat)(L:Nat->Nat->Bool)(K:Int)(l:List Nat):List Int:=(l.filter fun q=>decide ((ky t L q n:Int)<=K)).map fun q=>((q:Nat):Int)
theorem xe(t:ByteArray)(n:Nat)(L:Nat->Nat->Bool)(K:Int)(l:List Nat)(q:Nat):qz t n L K (l++[q])=if(ky t L q n:Int)<=K then qz t n L K l++[(q:Int)]else qz t n L K l:=by
 unfold qz;rw[List.filter_append];by_cases h:(ky t L q n:Int)<=K
 ·rw[if_pos h];simp[h]
 ·rw[if_neg h];simp[h]
theorem ai3(t:ByteArray)(n:Nat)(L:Nat->Nat->Bool)(K:Int)(l:List Nat):(qz t n L K l).length<=l.length:=by
 unfold qz;rw[List.length_map];exact d9 _ _
theorem ary(ad:Option Addr)(n cap:Nat)(K:Int)(L:Nat->Nat->Bool)(hn:(n:Int)<=1000)(t:ByteArray)(ht:t.size<=1000)(w:World)(hR:fm w ad n L w.heap.size):
 Calls prog 79 #[lv ad n cap K,.string t] w fun e w'=>∃v,e=.returned v/\w'.ownsRow w.heap.size 3 1 v (qz t n L K (kh 0 (many t n L K 0))).length (ga (qz t n L K (kh 0 (many t n L K 0))))/\Below w.heap.size w w':=by
 refine(callsIn_wide (n:=9)).1 ?_;refine callsIn_of_wp_marks func79 rfl trivial ?_ rfl;simp only[ntmps79,List.size_toArray,bz,List.length_nil,Nat.reduceAdd,Nat.reduceSub,Array.replicate_succ,Array.replicate_zero,List.push_toArray,List.append_toArray,List.nil_append,dk];have hL0:=fk.new w ad n cap K;have bT:=Boxed.new (w.alloc (.cells #[.slice ad n cap,.int .i64 K] 52)) 9 (.string t);have bO:=Boxed.new ((w.alloc (.cells #[.slice ad n cap,.int .i64 K] 52)).alloc (.cells #[.string t] 9)) 24 (.slice none 0 0);have hB0:Below w.heap.size w (((w.alloc (.cells #[.slice ad n cap,.int .i64 K] 52)).alloc (.cells #[.string t] 9)).alloc (.cells #[.slice none 0 0] 24)):=(((aw _ w).alloc ac _).alloc (by simp) _).alloc (by simp;omega) _;gi_wp2_with(refine⟨trivial,?_⟩;gi_at_call 138;refine(callsIn_wide.2 (afl ad n cap K t 0 _)).mono ?_;rintro e w1⟨rfl,hl,htx,hst,hsz,hb⟩)
 simp only[bg,dy,Nat.reduceAdd]at hl htx hst hsz hb bT bO⊢;obtain⟨c,hc⟩:∃c,c=w.heap.size:=⟨_,rfl⟩;obtain⟨W3,hW3⟩:∃W3:World,(((w.alloc (.cells #[.slice ad n cap,.int .i64 K] 52)).alloc (.cells #[.string t] 9)).alloc (.cells #[.slice none 0 0] 24))=W3:=⟨_,rfl⟩;have q0:W3.cell? ⟨c,0,none⟩=some (.slice ad n cap):=by subst hW3;subst hc;simp[go_sem]
 have q1:W3.cell? ⟨c,1,none⟩=some (.int .i64 K):=by subst hW3;subst hc;simp[go_sem]
 have q2:W3.cell? ⟨c+1,0,none⟩=some (.string t):=by subst hW3;subst hc;simp[go_sem]
 have hs3:W3.heap.size=c+3:=by subst hW3;subst hc;simp
 rw[hW3]at hb bO hB0;clear hW3 bT hL0;rw[<-hc]at hl htx hst hsz hb bO hB0 hR⊢;have hcw:c<=w.heap.size:=by omega
 have HCW:=aa hc;clear hc;have hR3:=hR.below hB0 ac;have hBw1:Below c w w1:=hB0.trans (hb.mono (by omega));have hP:qw w1 c (c+3) ad n cap K L t 0:=⟨⟨hl.1,hl.2.1⟩,htx,hst,hR3.below hb (by omega)⟩;have p0:=(hb.cell (p:=⟨c,0,none⟩) (by show c<c+3;omega)).trans q0;have p1:=(hb.cell (p:=⟨c,1,none⟩) (by show c<c+3;omega)).trans q1;have p2:=(hb.cell (p:=⟨c+1,0,none⟩) (by show c+1<c+3;omega)).trans q2;have bO1:Boxed w1 (c+2) 24 (.slice none 0 0):=Boxed.below bO hb (by omega);obtain⟨nt,hcnt⟩:∃nt,nt=many t n L K 0:=⟨_,rfl⟩;refine wpIn_rangeFunc_ownG rfl (by omega) (gf:=181) (lb:=#[.pointer (some ⟨c+3,0,none⟩),.pointer (some ⟨c+5,0,none⟩),.pointer (some ⟨c+4,0,none⟩)]) rfl trivial (enters_of func181 (by kernel_rfl) rfl)
  (adj 8 c (c+3) ad n cap K L hn t ht 0 0 rfl w1 (by omega) (by omega) hP) abb (aq9 (by omega) (by omega)) ae (fun _=>rfl)
  (fun pre W=>((W.cell? ⟨c,0,none⟩=some (.slice ad n cap)/\W.cell? ⟨c,1,none⟩=some (.int .i64 K)/\W.cell? ⟨c+1,0,none⟩=some (.string t))/\(∃v,Boxed W (c+2) 24 v/\W.ownsRow (c+6) 3 1 v (qz t n L K (pre.map fun q=>pw t n L K 0 q)).length (ga (qz t n L K (pre.map fun q=>pw t n L K 0 q)))/\True))/\Below c w1 W)
  (fun _ _ _=>False)
  (OwnFrom.and (OwnFrom.and (Own.from (fun s A B row hs hg hr=>⟨cell_kept hs.1 hg hr,cell_kept hs.2.1 hg hr,cell_kept hs.2.2 hg hr⟩) _) (Own.from (holdsRow_own (c+6) (c+2) 24 3 1 (fun pre:List Nat=>(qz t n L K (pre.map fun q=>pw t n L K 0 q)).length) (fun pre=>ga (qz t n L K (pre.map fun q=>pw t n L K 0 q))) (fun _ _=>True)) _)) (ownFrom_below (by omega) (by omega)))
  (fun _ _ _ _ _ hs _ _=>hs)
  ⟨⟨⟨p0,p1,p2⟩,_,bO1,bj _ _ _ _,trivial⟩,ae⟩
  (fun x=>{tmps:=#[lv ad n cap K,.string t,.pointer (some ⟨c,0,none⟩),.pointer (some ⟨c+1,0,none⟩),.slice none 0 0,.pointer (some ⟨c+2,0,none⟩),.int .i64 (pw t n L K 0 x:Nat),.agg #[.slice ad n cap,.int .i64 K],.string t,.func (.func 181) #[] #[.pointer (some ⟨c+3,0,none⟩),.pointer (some ⟨c+5,0,none⟩),.pointer (some ⟨c+4,0,none⟩)],.int .i64 (pw t n L K 0 x:Nat),undef,undef,undef,undef,undef,undef,undef,undef,undef,undef,undef,undef,undef,undef],defers:=[]}) ?assign ?body ?done ?stop
 case assign=>
  intro l x W K hK;gi_wp2
  exact hK
 case body=>
  rintro l pre x W⟨⟨⟨e0,e1,e2⟩,v,hv,hrow,-⟩,hB⟩hlt;obtain⟨ad1,cap1,rfl⟩:=ey hrow;have hvc:=hv.cell;obtain⟨i0,hi,hy0,hy1,hy2⟩:=info_parts info3;have hyn:=pw_fits hlt x;have hpl:pre.length<=1000:=by have h1:pre.length<many t n L K 0:=hlt;unfold many at h1;split at h1<;>omega
  have hfl:=ai3 t n L K (pre.map fun q=>pw t n L K 0 q);rw[List.length_map]at hfl;have hsn:=xe t n L K (pre.map fun q=>pw t n L K 0 q) (pw t n L K 0 x);rw[show(pre.map fun q=>pw t n L K 0 q)++[pw t n L K 0 x]=(pre++[x]).map fun q=>pw t n L K 0 q by rw[ep];rfl]at hsn;have HSN:=aa hsn;clear hsn;obtain⟨y,hy⟩:∃y,y=pw t n L K 0 x:=⟨_,rfl⟩;rw[<-hy]at hyn HSN⊢;clear hy hlt;obtain⟨fl,hfe⟩:∃fl,fl=qz t n L K (pre.map fun q=>pw t n L K 0 q):=⟨_,rfl⟩;rw[<-hfe]at hrow hfl hvc hv HSN;clear hfe;have hRW:fm W.drew ad n L W.drew.heap.size:=(hR.below (hBw1.trans hB) ac).mono (show c<=W.drew.heap.size by have:=hB.size;simp;omega);have h6:c+6<=W.heap.size:=by have:=hB.size;omega
  have hmix:prog.follows .mixedOrders=true:=by kernel_rfl
  gi_wp2_with fail
  refine r6 (fun w'=>w'.cell? ⟨c,0,none⟩=some (.slice ad n cap)/\w'.cell? ⟨c,1,none⟩=some (.int .i64 K)/\w'.cell? ⟨c+1,0,none⟩=some (.string t)) hmix (by kernel_rfl) (by rintro⟨a,w,h⟩;exact h) ⟨e0,e1,e2⟩ ?_;intro hS;refine tk 0 11 (.agg #[.slice ad n cap,.int .i64 K]) hS ?_;try simp only[Act.put,ag,ai,aj]
  refine tk 1 12 (.string t) hS ?_;try simp only[Act.put,ag,ai,aj]
  refine tk 2 13 (.int .i64 (y:Nat)) hS ?_;try simp only[Act.put,ag,ai,aj]
  refine tk 3 14 (.pointer (some ⟨c,1,none⟩)) hS ?_;try simp only[Act.put,ag,ai,aj]
  refine tk 4 15 (.int .i64 K) hS ?_;try simp only[Act.put,ag,ai,aj]
  refine tk 6 17 (.pointer (some ⟨c,1,none⟩)) hS ?_;try simp only[Act.put,ag,ai,aj]
  refine tk 7 18 (.int .i64 K) hS ?_;try simp only[Act.put,ag,ai,aj]
  have hrowd:=hrow.drew;have hvd:Boxed W.drew (c+2) 24 (.slice ad1 fl.length cap1):=hv;refine mw 5 (fun Kc hK=>?_);go_simp;go_at_call 139;refine(aie ad n cap K L t (by omega) y hyn K _ hRW).mono ?_;rintro e w2⟨⟨r,rfl,hr1,hr2⟩,hb2⟩;dsimp only;have hv2:=hvd.kept (gn hb2 none) (by simp);have hrow2:=fe hrowd hb2;have hz2:W.drew.heap.size<=w2.heap.size:=hb2.size;have hz2':W.heap.size<=w2.heap.size:=hz2;have hcl2:c+2<w2.heap.size:=by omega
  have hS2:w2.cell? ⟨c,0,none⟩=some (.slice ad n cap)/\w2.cell? ⟨c,1,none⟩=some (.int .i64 K)/\w2.cell? ⟨c+1,0,none⟩=some (.string t):=⟨(hb2.cell (p:=⟨c,0,none⟩) (show c<W.heap.size by omega)).trans e0,(hb2.cell (p:=⟨c,1,none⟩) (show c<W.heap.size by omega)).trans e1,(hb2.cell (p:=⟨c+1,0,none⟩) (show c+1<W.heap.size by omega)).trans e2⟩;refine hK.out _ _ hS2 (fun hH=>?_);try simp only[Act.put,ag,ai,aj]
  clear hK Kc;have hko:KeepsOthers W w2:=(KeepsOthers.drew W).trans (KeepsOthers.of_grownBy (gn hb2 none) (by simp));have hbW:Below c W w2:=(aw c W).drew.trans (hb2.mono (show c<=W.heap.size by omega));have hk3:∀b o,c+3<=b->b<c+3+3->w2.cell? ⟨b,o,none⟩=W.cell? ⟨b,o,none⟩:=fun b o h1 h2=>hb2.cell (p:=⟨b,o,none⟩) (show b<W.heap.size by omega)
  have HK3:=aa hk3;have hvc2:=hv2.cell;clear hk3 hvd hrowd e0 e1 e2 hS hRW hv hrow hb2 hvc;obtain⟨s0,s1,s2⟩:=hS2;by_cases hq:(ky t L y n:Int)<=K
  ·have hr:=hr1 hq
   have hrK:(r:Int)<=K:=by omega
   clear hr1 hr2 hr;rw[if_pos hq]at HSN;clear hq;refine tk 8 19 (.bool true) hH ?_;try simp only[Act.put,ag,ai,aj]
   refine wpAnyH_done (by kernel_rfl) ?_ _;gi_wp2_with(gi_at_builtin;refine wpListIn_append_own _ rfl _ _ 24 rfl (c+6) 3 i0 (.int .i64 0) 1 8 underlying24 hi hy0 hy1 hy2 rfl (by decide) _ _ _ rfl (hrow2.alloc _) ⟨w2.heap.size,0,none⟩ 1 1 [.int .i64 (y:Nat)] rfl rfl (cell_one_new _ _ _) (by simp[Value.oneCell']) (by unfold maxLen;omega) (by omega) (by simp;omega) ?_;intro v' w3 hown3 hgrow3 _;obtain⟨g3,cap3,rfl⟩:=ownsRow_succ hown3;obtain⟨hv3,hv4,hr4,hk4,hb4,hc4⟩:=Boxed.appended2 hv2 (m:=c) (by decide) hrow2 (by omega) (by omega) (by omega) hown3 hgrow3;have hvc3:=hv3.cell;have hvf3:=hv3.frozen)
   refine⟨(hko.trans hk4).from _,⟨hbW.trans hb4,fun b o h1 h2=>(hc4 b o (by omega) (by omega)).trans (HK3.out b o h1 h2)⟩,⟨⟨(hc4 c 0 (by omega) (by omega)).trans s0,(hc4 c 1 (by omega) (by omega)).trans s1,(hc4 (c+1) 0 (by omega) (by omega)).trans s2⟩,_,hv4,?_⟩,(hB.trans hbW).trans hb4⟩;rw[HSN,gz,bd];exact⟨hr4,trivial⟩
  ·have hr:=hr2 (by omega)
   have hrK:K<(r:Int):=by omega
   clear hr1 hr2 hr;rw[if_neg hq]at HSN;clear hq;refine tk 8 19 (.bool false) hH ?_;try simp only[Act.put,ag,ai,aj]
   refine wpAnyH_done (by kernel_rfl) ?_ _;gi_wp2
   exact⟨hko.from _,⟨hbW,HK3.out⟩,⟨⟨s0,s1,s2⟩,_,hv2,by rw[HSN];exact⟨hrow2,trivial⟩⟩,hB.trans hbW⟩
 case done=>
  rintro D ys W hD rfl⟨⟨⟨e0,e1,e2⟩,v,hv,hrow,-⟩,hB⟩hK;obtain⟨ad1,cap1,rfl⟩:=ey hrow;have hvc:=hv.cell;gi_wp2
  refine⟨by simp,.inl ⟨_,_,rfl,run_takeDeferred hK,?_⟩⟩;have hcw':w.heap.size<=c:=by have:=HCW.out;omega
  have hbe:=belowK_b (w:=w) ac W D _ (.deferred none) (by omega) hK rfl rfl;have hB':Below w.heap.size w W:=(hBw1.trans hB).mono hcw';have hrow':=fx (ownsRow_putObj hrow (.deferred none) hK rfl) (show w.heap.size<=c+6 by omega);have hpm:=pw_map t n L K 0 (many t n L K 0) ac (fun q=>q);rw[List.map_id']at hpm;rw[hpm]at hrow';exact⟨_,results_tmp rfl _ _ _,_,rfl,by show World.ownsRow _ _ 3 1 (.slice ad1 (qz t n L K (List.map (fun q=>pw t n L K 0 q) (kh 0 (many t n L K 0)))).length cap1) _ _;rw[hpm];exact hrow',hB'.trans hbe⟩
 case stop=>
  rintro D cc pre W _ _ h _;exact h.elim
end
section
theorem many_at(t:ByteArray)(n:Nat)(L:Nat->Nat->Bool)(K:Int)(k:Nat):vv t n L K (k:Nat)=decide (k<many t n L K 0):=by
 unfold vv many;cases fv n L K
 ·simp
 ·simp only[Bool.true_and,if_true]
  rw[Bool.eq_iff_iff];simp;omega
theorem cnts_to(t:ByteArray)(n:Nat)(L:Nat->Nat->Bool)(K:Int)(k:Nat):kj t n L K k=(kh 0 (min k (many t n L K 0))).map fun i=>((ky t L i n:Nat):Int):=by
 induction k with
 |zero=>simp[kj,kh]
 |succ k ih=>
  simp only[kj];rw[many_at,ih];by_cases h:k<many t n L K 0
  ·rw[cw h,if_pos rfl,Nat.min_eq_left (by omega),Nat.min_eq_left (by omega),n9,ep,dg]
   rfl
  ·rw[bv h,if_neg (by decide),Nat.min_eq_right (by omega),Nat.min_eq_right (by omega)]
theorem many_le(t:ByteArray)(n:Nat)(L:Nat->Nat->Bool)(K:Int)(s:Nat):many t n L K s<=t.size+1:=by unfold many;split<;>omega
theorem cnts_eq(t:ByteArray)(n:Nat)(L:Nat->Nat->Bool)(K:Int):kj t n L K (t.size+1)=(kh 0 (many t n L K 0)).map fun i=>((ky t L i n:Nat):Int):=by
 rw[cnts_to,Nat.min_eq_right (many_le _ _ _ _ _)]
theorem abd(t:ByteArray)(n:Nat)(L:Nat->Nat->Bool)(K:Int)(m k:Nat)(hk:k<=m):ix (gi ((kh 0 m).map fun i=>((ky t L i n:Nat):Int))) K k=qz t n L K (kh 0 k):=by
 induction k with
 |zero=>simp[ix,kh,qz]
 |succ k ih=>
  simp only[ix];rw[ih (by omega),n9,xe,dg];have e:gi ((kh 0 m).map fun i=>((ky t L i n:Nat):Int)) k=((ky t L k n:Nat):Int):=by
   unfold gi kh;rw[List.getElem?_map,List.getElem?_map,List.getElem?_range (by omega)];simp
  rw[e]
theorem aej(t:ByteArray)(n:Nat)(L:Nat->Nat->Bool)(K:Int):abg t n L K=qz t n L K (kh 0 (many t n L K 0)):=by
 unfold abg;rw[cnts_eq,List.length_map,r8];exact abd t n L K _ _ ac
end
section
set_option maxRecDepth 100000
open Go.RowKit Go.Shelf
structure ST(w wr:World)(c:Nat)(own:Value)(s t:ByteArray)(k fr to:Nat):Prop where
 ow:Boxed wr c 24 own
 row:wr.ownsRow (c+1) 3 1 (.slice (some ⟨c+1,0,none⟩) k t.size) k (ga ((kn s t).take k))
 ob:Boxed wr (c+2) 24 (.slice (some ⟨c+1,0,none⟩) k t.size)
 fb:Boxed wr (c+3) 3 (.int .i64 (fr:Nat))
 tb:Boxed wr (c+4) 3 (.int .i64 (to:Nat))
 be:Below c w wr
 sz:c+5<=wr.heap.size
theorem ST.below{w wr w':World}{c:Nat}{own:Value}{s t:ByteArray}{k fr to:Nat}(h:ST w wr c own s t k fr to)(hb:Below wr.heap.size wr w'):ST w w' c own s t k fr to where
 ow:=Boxed.below h.ow hb (by have:=h.sz;omega)
 row:=fe h.row hb
 ob:=Boxed.below h.ob hb (by have:=h.sz;omega)
 fb:=Boxed.below h.fb hb (by have:=h.sz;omega)
 tb:=Boxed.below h.tb hb (by have:=h.sz;omega)
 be:=h.be.trans (hb.mono (by have:=h.sz;omega))
 sz:=ba h.sz hb.size
theorem adl{w:World}{c k cap:Nat}{xs:List Value}(h:w.ownsRow (c+1) 3 1 (.slice (some ⟨c+1,0,none⟩) k cap) k xs)(b:Nat)(hb:b≠c+1)(v:Value):(w.setCell ⟨b,0,none⟩ v).ownsRow (c+1) 3 1 (.slice (some ⟨c+1,0,none⟩) k cap) k xs:=
 h.kept (grownBy_setCell' w b v) (.inr (by simp[Value.ownBlock];omega))
theorem ST.set{w wr:World}{c:Nat}{own:Value}{s t:ByteArray}{k fr to:Nat}(h:ST w wr c own s t k fr to)(fr' to':Nat):
 ST w ((wr.setCell ⟨c+3,0,none⟩ (.int .i64 (fr':Nat))).setCell ⟨c+4,0,none⟩ (.int .i64 (to':Nat))) c own s t k fr' to' where
 ow:=Boxed.other (Boxed.other h.ow (by omega) _) (by omega) _
 row:=adl (adl h.row _ (by omega) _) _ (by omega) _
 ob:=Boxed.other (Boxed.other h.ob (by omega) _) (by omega) _
 fb:=Boxed.other (Boxed.set _ h.fb) (by omega) _
 tb:=Boxed.set _ (Boxed.other h.tb (by omega) _)
 be:=(h.be.setCell (p:=⟨c+3,0,none⟩) (show c<=c+3 by omega) _).setCell (p:=⟨c+4,0,none⟩) (show c<=c+4 by omega) _
 sz:=by simpa using h.sz
theorem ST.app{w wr w5:World}{c:Nat}{own:Value}{s t:ByteArray}{k fr to:Nat}(h:ST w wr c own s t k fr to){tmp:Obj}(hg:(wr.alloc tmp).grownBy w5 (some (c+1)))
 (hr:w5.ownsRow (c+1) 3 1 (.slice (some ⟨c+1,0,none⟩) (k+1) t.size) (k+1) (ga ((kn s t).take (k+1)))):
 Boxed w5 (c+2) 24 (.slice (some ⟨c+1,0,none⟩) k t.size)/\ST w (w5.setCell ⟨c+2,0,none⟩ (.slice (some ⟨c+1,0,none⟩) (k+1) t.size)) c own s t (k+1) fr to:=by
 have h1:∀{B T:Nat}{v:Value},Boxed wr B T v->B≠c+1->Boxed w5 B T v:=fun hb hne=>(hb.alloc tmp).kept hg (fun e=>hne (by cases e;rfl))
 refine⟨h1 h.ob (by omega),?_⟩
 exact{
  ow:=Boxed.other (h1 h.ow (by omega)) (by omega) _
  row:=adl hr _ (by omega) _
  ob:=Boxed.set _ (h1 h.ob (by omega))
  fb:=Boxed.other (h1 h.fb (by omega)) (by omega) _
  tb:=Boxed.other (h1 h.tb (by omega)) (by omega) _
  be:=((h.be.alloc (by have:=h.sz;omega) tmp).grown hg (by have:=h.sz;simp;omega) (fun j e=>by cases e;omega)).setCell (p:=⟨c+2,0,none⟩) (show c<=c+2 by omega) _
  sz:=by have h2:=h.sz;have h3:=hg.size;simp at h3⊢;omega}
theorem make0(n:Nat)(hn:n<=1000000)(w:World):(Instr.makeSlice 24 (.int .i64 0) (.int .i64 (n:Nat))).run prog w=.ok (.slice (some ⟨w.heap.size,0,none⟩) 0 n) (w.alloc (.cells (madeCells #[.int .i64 0] n) 3)):=by
 obtain⟨i,hi,h1,h2,h3⟩:=info_parts (P:=prog) (show(prog.info? 3).map (fun i=>(i.zero,i.size,i.bytes))=some (some (.int .i64 0),1,8)from by kernel_rfl);have h:=run_make (P:=prog) w 24 3 i (.int .i64 0) underlying24 hi h1 .i64 .i64 0 n (by omega) (by omega) (by rw[h3];omega) (by omega);rw[h2,Nat.mul_one]at h;exact h
end
end Go.Proofs.YtjfkmoinldlmaaaGreat
