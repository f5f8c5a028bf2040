/- The walk of BeagleFails, part 26. Walk of the closure of split.Rare: a map from bytes to rows. Walk of the closure of split.Rare. Walks of split.sums, split.check, split.Rare. Walk of split.Rare. Walks of split.Counts and split.Find. Walks of block.Fit, eval.Size and eval.Way. Walks of eval.Size, eval.Way, and of match. -/
import Derived.Test.YtjfkmoinldlmaaaGreatFa25
import Derived.Maps.OwnSet
namespace Go.Proofs.YtjfkmoinldlmaaaGreat
open Go.Proofs.Tryz
section
set_option maxRecDepth 100000
open Go.RowKit Go.Shelf Go.Maps
theorem law5:Keyed prog 5:=int_keyed underlying5
theorem key5(x:Nat)(h:x<=255):keyOf prog 5 (.int .u8 (x:Nat))=some (.int .u8 (x:Nat)):=by
 have hw:(Lit.int .u8 (x:Nat)).wf=true:=WalkArith.wf_u8 ⟨by omega,by omega⟩;unfold keyOf;simp only[underlying5];simp[underlying5,hw,mapKey]
theorem zero24(w:World):(zeroValue 24).run prog w=.ok (.slice none 0 0) w:=by kernel_rfl
def qe(w:World)(b n:Nat)(p:Nat->Option Value):Prop:=
 ∃D:DataW Value,w.ownsMap prog 5 asIs b n D/\IsMap D/\∀x:Nat,x<=255->has D (.int .u8 (x:Nat))=(p x).isSome/\D.atKey (.int .u8 (x:Nat)) (.held (.slice none 0 0))=.held ((p x).getD (.slice none 0 0))
theorem qe.made(w:World):qe (w.alloc (.map #[] 0)) w.heap.size 0 fun _=>none:=
 ⟨.map [],World.ownsMap_made _ _ _ _,⟨[],rfl⟩,fun _ _=>⟨rfl,rfl⟩⟩
theorem qe.kept{w w':World}{b n:Nat}{p:Nat->Option Value}{row:Option Nat}(h:qe w b n p)(hg:w.grownBy w' row)(hne:some b≠row):qe w' b n p:=by
 obtain⟨D,h1,h2,h3⟩:=h;exact⟨D,h1.kept hg hne,h2,h3⟩
theorem qe.below{w w':World}{b n:Nat}{p:Nat->Option Value}(h:qe w b n p)(hb:Below w.heap.size w w'):qe w' b n p:=h.kept (gn hb none) (by simp)
theorem qe.lt{w:World}{b n:Nat}{p:Nat->Option Value}(h:qe w b n p):b<w.heap.size:=by
 obtain⟨D,h1,_⟩:=h;exact h1.lt
theorem qe.no_cells{w:World}{b n:Nat}{p:Nat->Option Value}(h:qe w b n p):∃o:Obj,w.heap[b]?=some o/\o.isCells=false:=by
 obtain⟨D,⟨es,clock,hb,_⟩,_⟩:=h;exact⟨_,hb,rfl⟩
theorem qe.look{w:World}{b n:Nat}{p:Nat->Option Value}(h:qe w b n p)(x:Nat)(hx:x<=255):(Instr.lookup 244 (.map (some b)) (.int .u8 (x:Nat)) true).run prog w=.ok (.tuple #[(p x).getD (.slice none 0 0),.bool (p x).isSome]) w:=by
 obtain⟨D,g1,g2,g3⟩:=h;obtain⟨v,ps,hrun,hv⟩:=g1.look_ok law5 underlying244 (zero24 w) (zd:=.held (.slice none 0 0)) (zp:=[]) rfl (key5 x hx);rw[(g3 x hx).2]at hv;obtain rfl:v=(p x).getD (.slice none 0 0):=by
  unfold asIs at hv;simp at hv;exact hv.1
 rw[(g3 x hx).1]at hrun;exact hrun
theorem qe.store{w:World}{b n:Nat}{p:Nat->Option Value}(h:qe w b n p)(hn:n<maxLen)(x:Nat)(hx:x<=255)(F:Value):∃w',(Instr.mapUpdate 244 (.map (some b)) (.int .u8 (x:Nat)) F).run prog w=.ok () w'/\qe w' b (n+1) (fun y=>if y=x then some F else p y)/\w.grownBy w' (some b):=by
 obtain⟨D,g1,g2,g3⟩:=h;obtain⟨w',hrun,r1,r2⟩:=g1.update law5 underlying244 hn (key5 x hx) (d:=.held F) (ps:=[]) rfl;refine⟨w',hrun,⟨_,r1,g2.put _ _,fun y hy=>?_⟩,r2⟩;by_cases he:y=x
 ·subst he
  rw[atKey_put_same g2 (law5.key (key5 y hy)),has_put_same g2 (law5.key (key5 y hy))];simp
 ·have hne:(Lit.int .u8 (y:Nat))≠(Lit.int .u8 (x:Nat)):=fun e=>he (by injection e with h1 h2;omega)
  rw[atKey_put_other hne,has_put_other hne,(g3 y hy).1,(g3 y hy).2];simp[he]
theorem aeu(w:World){ops:Array Oper}{rest:List Oper}{o:Oper}{a:Act}{Q:Exit->Act->World->Prop}(hg:o.guard=none)(m x v:Operand)(hop:o.op=Op.mapUpdate 244 m x v\/o.op=Op.insert 244 m x v)
 {b n:Nat} {p:Nat->Option Value} (hm:a.eval m=.map (some b)) (hM:qe w b n p) (hn:n<maxLen) (y:Nat) (hy:y<=255) (F:Value) (hx:a.eval x=.int .u8 (y:Nat)) (hv:a.eval v=F)
 (hK:∀w',qe w' b (n+1) (fun z=>if z=y then some F else p z)->w.grownBy w' (some b)->wpList prog ops Q rest (a.put o.dst undef) w'):
 wpList prog ops Q (o::rest) a w:=by
 refine wpList_plain hg fun K' hK'=>?_
 obtain⟨w',hrun,r1,r2⟩:=hM.store hn y hy F;unfold Oper.wp;rcases hop with hop|hop
 all_goals
  simp only[execOp,hop,hm,hx,hv,hrun,Result.andThen,Sem.run_bind,Sem.run_pure];exact hK' _ _ (hK w' r1 r2)
end
section
set_option maxRecDepth 100000
set_option maxHeartbeats 8000000
open Go.RowKit Go.Shelf
theorem af8{A B C:World}{r:Option Nat}(h:A.grownBy B r)(k:B.grownBy C r):A.grownBy C r:=
 ⟨k.os.trans h.os,k.tape.trans h.tape,k.output.trans h.output,ba h.size k.size,fun i hi hn=>(k.block i (az hi h.size) hn).trans (h.block i hi hn)⟩
theorem gg.kept{w w':World}{ad:Option Addr}{n m:Nat}{A:Nat->Int}{row:Option Nat}(h:gg w ad n A m)(hg:w.grownBy w' row)(hr:∀r,row=some r->∃o:Obj,w.heap[r]?=some o/\o.isCells=false):gg w' ad n A m:=by
 rcases h with h|⟨b,o,ha,hlt,hc⟩
 ·exact .inl h
 ·exact .inr ⟨b,o,ha,hlt,fun j hj=>cell_kept (hc j hj) hg hr⟩
def xv(w:World)(B:Nat)(rl:Nat->List Int)(p:Nat->Option Value):Prop:=
 ∀x v,p x=some v->∃ad cap,v=.slice ad (rl x).length cap/\gg w ad (rl x).length (gi (rl x)) w.heap.size/\∀a,ad=some a->B<=a.block
theorem xv.kept{w w':World}{B:Nat}{rl:Nat->List Int}{p:Nat->Option Value}{row:Option Nat}(h:xv w B rl p)(hg:w.grownBy w' row)(hr:∀r,row=some r->∃o:Obj,w.heap[r]?=some o/\o.isCells=false):xv w' B rl p:=fun x v hx=>by
 obtain⟨ad,cap,h1,h2,h3⟩:=h x v hx;exact⟨ad,cap,h1,(h2.kept hg hr).mono hg.size,h3⟩
theorem ame(bw bm bl bk:Nat)(ad:Option Addr)(n cap:Nat)(K:Int)(L:Nat->Nat->Bool)(hn:n<=1000)(ks:List (Nat->Bool))(hks:ks.length<=1000)(adk:Option Addr)(capk:Nat)(nt:Nat)(hcnt:nt<=100000)(p:Nat->Option Value)(x:Nat)(hx:x<=255)(w:World)(B:Nat)(hBw:B<=w.heap.size)
 (hbw:Boxed w bw 244 (.map (some bm))) (hM:qe w bm nt p) (hG:xv w B (fun b=>gu L ks b n) p) (hl:fk w bl ad n cap K) (hR:fm w ad n L w.heap.size) (hbk:Boxed w bk 50 (.slice adk ks.length capk)) (hRk:fm w adk ks.length (gc ks) w.heap.size):
 Calls prog 197 #[.int .u8 (x:Nat),.pointer (some ⟨bw,0,none⟩),.pointer (some ⟨bl,0,none⟩),.pointer (some ⟨bk,0,none⟩)] w fun e w'=>
  ∃ad' cap' cnt' p',e=.returned (.slice ad' (gu L ks x n).length cap')/\cnt'<=nt+1/\gg w' ad' (gu L ks x n).length (gi (gu L ks x n)) w'.heap.size/\(∀a,ad'=some a->B<=a.block)/\qe w' bm cnt' p'/\xv w' B (fun b=>gu L ks b n) p'/\w.grownBy w' (some bm):=by
 have hlook:=hM.look x hx;have c0:=hbw.cell;have hxI:(x:Int)<=255:=by omega
 have HRL:=aa fun k=>u4 L ks x k
 cases hp:p x with
 |some v=>
  obtain⟨adv,capv,rfl,hrv,hBv⟩:=hG x v hp;rw[hp]at hlook;have HRV:=aa hrv;have HM:=aa hM;have HG:=aa hG;clear hrv hM hG hl hR hbk hRk hp hbw;dsimp only at HRV;simp only[Option.getD_some,Option.isSome_some]at hlook;go_enter func197,ntmps197;go_wp2_with fail
  go_ret;exact⟨adv,capv,nt,p,rfl,by omega,HRV.out,hBv,HM.out,HG.out,⟨rfl,rfl,rfl,ac,fun _ _ _=>rfl⟩⟩
 |none=>
  rw[hp]at hlook;simp only[Option.getD_none,Option.isSome_none]at hlook;have hhas:=aa fun S(b:Bool)(hb:S x=b)w'=>show Calls prog 96 #[cv S,.int .u8 (x:Nat)] w' (fun e w2=>e=.returned (.bool b)/\Below w'.heap.size w' w2)from by
   have h:=xc S (x:Nat) (by omega) (by omega) w';rw[Int.toNat_natCast,hb]at h;exact h
  have hcon:=aa fun S w'(h:fm w' adk ks.length (gc ks) w'.heap.size)=>show Calls prog 92 #[.slice adk ks.length capk,cv S] w' (fun e w2=>e=.returned (.bool (nr S ks))/\Below w'.heap.size w' w2)from by
   have h2:=si adk ks.length capk (gc ks) S (by omega) w' h;rw[inL_any S ks];have he:(fun j=>fj S (gc ks j))=fun j=>fj (gc ks j) S:=funext fun j=>kv _ _
   rw[he]at h2;exact h2
  have HS1:Hid (∀k,L k x=true->nr (L k) ks=true->gu L ks x (k+1)=gu L ks x k++[(k:Int)]):=aa fun k h1 h2=>by
   show(if L k x&&nr (L k) ks then gu L ks x k++[(k:Int)]else gu L ks x k)=_;rw[h1,h2];rfl
  have HS2:Hid (∀k,(L k x&&nr (L k) ks)=false->gu L ks x (k+1)=gu L ks x k):=aa fun k h=>by
   show(if L k x&&nr (L k) ks then gu L ks x k++[(k:Int)]else gu L ks x k)=_;rw[h];rfl
  have HS0:Hid (gu L ks x 0=[]):=aa rfl;have HM:=aa hM;have HG:=aa hG;have HL:=aa hl;have HR:=aa hR;have HBW:=aa hbw;have HBK:=aa hbk;have HRK:=aa hRk;have hnI:(n:Int)<=1000:=by omega
  obtain⟨RT,hRT⟩:∃RT:Nat->List Int,RT=gu L ks x:=⟨_,rfl⟩;have HRT:=aa hRT;rw[<-hRT]at HRL HS0 HS1 HS2⊢;obtain⟨l0,l1,ll⟩:=id hl;clear hM hG hl hR hbw hbk hRk hp hRT;go_enter func197,ntmps197;go_wp2_with fail
  go_loopw[6,21] (fun v i wr=>∃q:Nat,q<=n/\i=.int .i64 q/\wr.ownsRow w.heap.size 3 1 v (RT q).length (ga (RT q))/\Below w.heap.size w wr) (fun _ i _=>n-(intOf i).toNat)
  case atStart=>exact⟨0,by omega,rfl,by rw[HS0.out];exact bj _ _ _ _,ae⟩
  case round=>
   obtain⟨q,hq,rfl,ho,hb⟩:=hrel;have HO:=aa ho;have Hb:=aa hb;have hz:=hb.size;have hlen:=HRL.out q;clear ho hb;by_cases hlt:q<n
   ·have hlti:(q:Int)<n:=by omega
    have hq0:(0:Int)<=q:=by omega
    obtain⟨b,o,rfl,hbm,e0,e1,e2,e3⟩:=(HR.out.below Hb.out ac).at hlt;have hA:Below wr.heap.size wr (wr.alloc (.cells #[.int .u64 (wd (L q) 0:Nat),.int .u64 (wd (L q) 1:Nat),.int .u64 (wd (L q) 2:Nat),.int .u64 (wd (L q) 3:Nat)] 100)):=ae.alloc ac _;have hCn:=fc.new wr (L q);obtain⟨⟨d0,d1,d2,d3⟩,-,dl⟩:=id hCn;cases h1:L q x
    ·have HC:=aa (hhas.out (L q) _ h1)
     have HN:=aa (HS2.out q (by rw[h1];rfl));clear h1;go_wp2_with(go_at_call 96;refine(HC.out _).mono ?_;rintro e w1⟨rfl,hb1⟩)
     have hr1:=hA.trans (hb1.mono hA.size);exact⟨⟨q+1,by omega,by go_num,by rw[HN.out];exact fe HO.out hr1,Hb.out.trans (hr1.mono hz)⟩,by simp[intOf];omega⟩
    ·have HC:=aa (hhas.out (L q) _ h1)
     cases h2:nr (L q) ks
     ·have HC2:=aa fun w' h=>h2▸hcon.out (L q) w' h
      have HN:=aa (HS2.out q (by rw[h1,h2];rfl));clear h1 h2;go_wp2_with(first|(go_at_call 96;refine(HC.out _).mono ?_;rintro e w1⟨rfl,hb1⟩;obtain⟨⟨f0,f1,f2,f3⟩,-,fl⟩:=hCn.below hb1 hCn.2.2;have hr1:=hA.trans (hb1.mono hA.size);have hx1:=(Boxed.below (Boxed.below HBK.out Hb.out HBK.out.lt) hr1 (az HBK.out.lt hz)).cell;have hrk:=aa ((((HRK.out.below Hb.out ac).mono hz).below hr1 ac).mono hr1.size))|(go_at_call 92;refine(HC2.out _ hrk.out).mono ?_;rintro e w2⟨rfl,hb2⟩))
      have hr2:=hr1.trans (hb2.mono hr1.size);exact⟨⟨q+1,by omega,by go_num,by rw[HN.out];exact fe HO.out hr2,Hb.out.trans (hr2.mono hz)⟩,by simp[intOf];omega⟩
     ·have HC2:=aa fun w' h=>h2▸hcon.out (L q) w' h
      have HN:=aa (HS1.out q h1 h2);clear h1 h2;go_wp2_with(first|(go_at_call 96;refine(HC.out _).mono ?_;rintro e w1⟨rfl,hb1⟩;obtain⟨⟨f0,f1,f2,f3⟩,-,fl⟩:=hCn.below hb1 hCn.2.2;have hr1:=hA.trans (hb1.mono hA.size);have hx1:=(Boxed.below (Boxed.below HBK.out Hb.out HBK.out.lt) hr1 (az HBK.out.lt hz)).cell;have hrk:=aa ((((HRK.out.below Hb.out ac).mono hz).below hr1 ac).mono hr1.size))|(go_at_call 92;refine(HC2.out _ hrk.out).mono ?_;rintro e w2⟨rfl,hb2⟩;have hr2:=hr1.trans (hb2.mono hr1.size);have ho2:=fe HO.out hr2;have hz2:=ba hz hr2.size)|(at_builtin;refine gj iv rfl _ _ rfl rfl ho2 [.int .i64 (q:Nat)] rfl rfl (by simp[Value.oneCell']) (by unfold maxLen;omega) (by omega) hz2 ?_;intro v3 w3 hown3 hb3))
      exact⟨⟨q+1,by omega,by go_num,by rw[HN.out,gz,bd];exact hown3,(Hb.out.trans (hr2.mono hz)).trans hb3⟩,by simp[intOf];omega⟩
   ·obtain rfl:q=n:=by omega
    have HMr:=aa (HM.out.below Hb.out);have c1:=(Boxed.below HBW.out Hb.out HBW.out.lt).cell;obtain⟨ad5,cap5,rfl⟩:=ey HO.out;go_wp2_with(refine aeu _ rfl _ _ _ (.inl rfl) rfl HMr.out (by unfold maxLen;omega) x hx (.slice ad5 (RT q).length cap5) rfl rfl ?_;intro w2 hM2 hg2)
    go_ret;have hnc:∀r,some bm=some r->∃o:Obj,wr.heap[r]?=some o/\o.isCells=false:=fun r e=>by cases e;exact HMr.out.no_cells
    have hrow:gg w2 ad5 (RT q).length (gi (RT q)) w2.heap.size:=((kc HO.out).kept hg2 hnc).mono hg2.size;have hB5:∀a,ad5=some a->B<=a.block:=fun a ha=>by
     rcases HO.out.2 with⟨h1,_⟩|⟨g,cp,cur,h1,hg,_⟩
     ·rw[ha]at h1;cases h1
     ·rw[ha]at h1;cases h1;exact ba hBw hg
    refine⟨ad5,cap5,nt+1,_,rfl,ac,hrow,hB5,hM2,?_,af8 (gn Hb.out (some bm)) hg2⟩;intro y v hy;replace hy:(if y=x then some (Value.slice ad5 (RT q).length cap5)else p y)=some v:=hy;by_cases he:y=x
    ·subst he
     rw[if_pos rfl]at hy;cases hy;refine⟨ad5,cap5,?_,?_,hB5⟩
     ·show Value.slice ad5 (RT q).length cap5=.slice ad5 (gu L ks y q).length cap5
      rw[HRT.out]
     ·show gg w2 ad5 (gu L ks y q).length (gi (gu L ks y q)) w2.heap.size
      rw[<-HRT.out];exact hrow
    ·rw[if_neg he]at hy
     exact((HG.out.kept (gn Hb.out none) (fun r e=>by cases e)).kept hg2 hnc) y v hy
end
section
set_option maxRecDepth 100000
set_option maxHeartbeats 4000000
open Go.RowKit Go.Shelf
theorem alo(ad:Option Addr)(n cap:Nat)(K:Int)(L:Nat->Nat->Bool)(t:ByteArray)(hn:n<=1000)(ht:t.size<=1000)(hr:fv n L K=true)(w:World)(hR:fm w ad n L w.heap.size):
 Calls prog 196 #[lv ad n cap K,.string t] w fun e w'=>e=.returned (.int .i64 (t.size+1-n:Nat))/\Below w.heap.size w w':=by
 have h2:=aa fun w'(h:fm w' ad n L w'.heap.size)=>(show _ from hr▸jn ad n cap K L (by omega) w' h)
 have hL:=fk.new w ad n cap K;have hA:Below w.heap.size w (w.alloc (.cells #[.slice ad n cap,.int .i64 K] 52)):=ae.alloc ac _;have HR1:=aa ((hR.below hA ac).mono hA.size);have HA:=aa hA;obtain⟨S,hS⟩:∃S,S=t.size+1-n:=⟨_,rfl⟩;rw[<-hS];obtain⟨D,hD⟩:∃D,(t.size:Int)-n+1=D:=⟨_,rfl⟩;have hmx:(if 0<D then D else 0)=(S:Nat):=by split<;>omega
 have hD1: -1000<=D:=by omega
 have hD2:D<=2000:=by omega
 have hnI:(n:Int)<=1000:=by omega
 have htI:(t.size:Int)<=1000:=by omega
 have HS:=aa hS;clear hS hR hA;go_enter func196,ntmps196;go_wp2_with fail
 generalize (w.alloc (.cells #[.slice ad n cap,.int .i64 K] 52))=W1 at hL HR1 HA⊢;refine(h2.out _ HR1.out).mono ?_;rintro e w2⟨rfl,hb2⟩;obtain⟨d0,d1,dl⟩:=id (hL.below hb2 hL.2.2);go_wp2_with fail
 go_ret;exact⟨by rw[HS.out];rfl,HA.out.trans (hb2.mono HA.out.size)⟩
theorem amp(ad:Option Addr)(n cap:Nat)(K:Int)(L:Nat->Nat->Bool)(t:ByteArray)(size:Int)(fq:Nat)(hn:n<=1000)(ht:t.size<=1000)(hr:fv n L K=true)(hp:ki L n=true)(hsz:fq=0\/t.size<n\/vn n size=true)(w:World)(hR:fm w ad n L w.heap.size):
 Calls prog 147 #[lv ad n cap K,.string t,.int .i64 size,.int .i64 (fq:Nat)] w fun e w'=>e=.returned (.int .i64 0)/\Below w.heap.size w w':=by
 have h1:=aa fun w'=>pg size w'
 have h2:=aa fun w'(h:fm w' ad n L w'.heap.size)=>(show _ from hr▸jn ad n cap K L (by omega) w' h)
 have h3:=aa fun w'(h:fm w' ad n L w'.heap.size)=>(show _ from hp▸yb ad n cap K L (by omega) w' h)
 have hL:=fk.new w ad n cap K;have hA:Below w.heap.size w (w.alloc (.cells #[.slice ad n cap,.int .i64 K] 52)):=ae.alloc ac _;have hR1:=aa ((hR.below hA ac).mono hA.size);have hA:=aa hA;have hnI:(n:Int)<=1000:=by omega
 have htI:(t.size:Int)<=1000:=by omega
 clear hR;rcases hsz with rfl|hlt|hs
 rotate_left 2
 ·unfold vn at hs
  rw[ce,cg]at hs;obtain⟨hs1,hs2⟩:=hs;rw[hs1]at h1;by_cases hfq:(0:Int)<fq;all_goals
   by_cases hle:(n:Int)<=t.size;all_goals
    clear hs1;go_enter func147,ntmps147;go_wp2_with fail
    generalize (w.alloc (.cells #[.slice ad n cap,.int .i64 K] 52))=W1 at hL hR1 hA⊢;refine(h1.out _).mono ?_;rintro e w1⟨rfl,hb1⟩;obtain⟨c0,c1,cl⟩:=id (hL.below hb1 hL.2.2);go_wp2_with fail
    refine(h2.out _ ((hR1.out.below hb1 ac).mono hb1.size)).mono ?_;rintro e w2⟨rfl,hb2⟩;have hb12:=hb1.trans (hb2.mono hb1.size);obtain⟨d0,d1,dl⟩:=id (hL.below hb12 hL.2.2);clear c0 c1 cl hb2 hb1;go_wp2_with fail
    refine(h3.out _ ((hR1.out.below hb12 ac).mono hb12.size)).mono ?_;rintro e w3⟨rfl,hb3⟩;have hb13:=hb12.trans (hb3.mono hb12.size);obtain⟨f0,f1,fl⟩:=id (hL.below hb13 hL.2.2);clear d0 d1 dl hb3 hb12;go_wp2_with fail
    go_ret;exact⟨rfl,hA.out.trans (hb13.mono hA.out.size)⟩
 ·go_enter func147,ntmps147
  go_wp2_with fail
  generalize (w.alloc (.cells #[.slice ad n cap,.int .i64 K] 52))=W1 at hL hR1 hA⊢;refine(h1.out _).mono ?_;rintro e w1⟨rfl,hb1⟩;obtain⟨c0,c1,cl⟩:=id (hL.below hb1 hL.2.2);go_wp2_with fail
  refine(h2.out _ ((hR1.out.below hb1 ac).mono hb1.size)).mono ?_;rintro e w2⟨rfl,hb2⟩;have hb12:=hb1.trans (hb2.mono hb1.size);obtain⟨d0,d1,dl⟩:=id (hL.below hb12 hL.2.2);clear c0 c1 cl hb2 hb1;go_wp2_with fail
  refine(h3.out _ ((hR1.out.below hb12 ac).mono hb12.size)).mono ?_;rintro e w3⟨rfl,hb3⟩;have hb13:=hb12.trans (hb3.mono hb12.size);obtain⟨f0,f1,fl⟩:=id (hL.below hb13 hL.2.2);clear d0 d1 dl hb3 hb12;go_wp2_with fail
  go_ret;exact⟨rfl,hA.out.trans (hb13.mono hA.out.size)⟩
 ·have hltI:¬(n:Int)<=t.size:=by omega
  by_cases hfq:(0:Int)<fq;all_goals
   go_enter func147,ntmps147;go_wp2_with fail
   generalize (w.alloc (.cells #[.slice ad n cap,.int .i64 K] 52))=W1 at hL hR1 hA⊢;refine(h1.out _).mono ?_;rintro e w1⟨rfl,hb1⟩;obtain⟨c0,c1,cl⟩:=id (hL.below hb1 hL.2.2);go_wp2_with fail
   refine(h2.out _ ((hR1.out.below hb1 ac).mono hb1.size)).mono ?_;rintro e w2⟨rfl,hb2⟩;have hb12:=hb1.trans (hb2.mono hb1.size);obtain⟨d0,d1,dl⟩:=id (hL.below hb12 hL.2.2);clear c0 c1 cl hb2 hb1;go_wp2_with fail
   refine(h3.out _ ((hR1.out.below hb12 ac).mono hb12.size)).mono ?_;rintro e w3⟨rfl,hb3⟩;have hb13:=hb12.trans (hb3.mono hb12.size);obtain⟨f0,f1,fl⟩:=id (hL.below hb13 hL.2.2);clear d0 d1 dl hb3 hb12;go_wp2_with fail
   go_ret;exact⟨rfl,hA.out.trans (hb13.mono hA.out.size)⟩
end
section
set_option maxRecDepth 100000
set_option maxHeartbeats 8000000
open Go.RowKit Go.Shelf
theorem kg.grown{w w':World}{g n:Nat}{x:Nat->Int}{row:Option Nat}(h:kg w g n x)(hg:w.grownBy w' row)(hne:some g≠row):kg w' g n x where
 cells j hj:=(World.cell?_of_block (a:=⟨g,j,none⟩) (hg.block g h.lt hne)).trans (h.cells j hj)
 free j hj:=(World.frozen?_of_block (a:=⟨g,j,none⟩) (hg.block g h.lt hne)).trans (h.free j hj)
 lt:=az h.lt hg.size
theorem fk.grown{w w':World}{B n cap:Nat}{ad:Option Addr}{K:Int}{row:Option Nat}(h:fk w B ad n cap K)(hg:w.grownBy w' row)(hne:some B≠row):fk w' B ad n cap K:=
 ⟨(World.cell?_of_block (a:=⟨B,0,none⟩) (hg.block B h.2.2 hne)).trans h.1,(World.cell?_of_block (a:=⟨B,1,none⟩) (hg.block B h.2.2 hne)).trans h.2.1,az h.2.2 hg.size⟩
theorem pn(w:World)(b o:Nat)(v:Value):w.grownBy (w.setCell ⟨b,o,none⟩ v) (some b):=
 ⟨rfl,rfl,rfl,by simp,fun k _ hk=>Below.heap_setCell _ _ _ k (fun e=>hk (by rw[e]))⟩
theorem gg.far{w:World}{ad:Option Addr}{n m:Nat}{A:Nat->Int}(h:gg w ad n A m){g o:Nat}(hne:∀a,ad=some a->a.block≠g)(v:Value):gg (w.setCell ⟨g,o,none⟩ v) ad n A m:=by
 rcases h with h|⟨b,o',ha,hlt,hc⟩
 ·exact .inl h
 ·exact .inr ⟨b,o',ha,hlt,fun j hj=>by rw[bh _ _ _ _ (by intro e;injection e with h1 h2;exact hne _ ha h1.symm)];exact hc j hj⟩
theorem xv.far{w:World}{B:Nat}{rl:Nat->List Int}{p:Nat->Option Value}(h:xv w B rl p){g o:Nat}(hg:g<B)(v:Value):xv (w.setCell ⟨g,o,none⟩ v) B rl p:=fun x u hx=>by
 obtain⟨ad,cap,h1,h2,h3⟩:=h x u hx;exact⟨ad,cap,h1,(h2.far (fun a ha=>by have:=h3 a ha;omega) v).mono (by simp),h3⟩
structure qv(w0 w:World)(c g S bm nt:Nat)(ad:Option Addr)(n cap:Nat)(K:Int)(adk:Option Addr)(lk capk:Nat)(x:Nat->Int)(rl:Nat->List Int)(p:Nat->Option Value):Prop where
 blk:kg w g S x
 map:qe w bm nt p
 good:xv w (g+1) rl p
 box:Boxed w (g+2) 244 (.map (some bm))
 leaf:fk w c ad n cap K
 kin:Boxed w (c+1) 50 (.slice adk lk capk)
 bel:Below w0.heap.size w0 w
theorem qv.set{w0 w:World}{c g S bm nt:Nat}{ad:Option Addr}{n cap:Nat}{K:Int}{adk:Option Addr}{lk capk:Nat}{x:Nat->Int}{rl:Nat->List Int}{p:Nat->Option Value}(h:qv w0 w c g S bm nt ad n cap K adk lk capk x rl p)
 (i:Nat) (b:Int) (hgm:g<bm) (hcg:c+1<g) (h0:w0.heap.size<=g):qv w0 (w.setCell ⟨g,i,none⟩ (.int .i64 b)) c g S bm nt ad n cap K adk lk capk (fun j=>if j=i then b else x j) rl p where
 blk:=h.blk.set i b
 map:=h.map.kept (pn w g i _) (by simp;omega)
 good:=h.good.far (by omega) _
 box:=h.box.kept (pn w g i _) (by simp)
 leaf:=h.leaf.grown (pn w g i _) (by simp;omega)
 kin:=h.kin.kept (pn w g i _) (by simp;omega)
 bel:=h.bel.setCell (p:=⟨g,i,none⟩) h0 _
theorem qv.congr{w0 w:World}{c g S bm nt:Nat}{ad:Option Addr}{n cap:Nat}{K:Int}{adk:Option Addr}{lk capk:Nat}{x y:Nat->Int}{rl:Nat->List Int}{p:Nat->Option Value}(h:qv w0 w c g S bm nt ad n cap K adk lk capk x rl p)(he:∀j,j<S->x j=y j):qv w0 w c g S bm nt ad n cap K adk lk capk y rl p:=
 ⟨h.blk.congr he,h.map,h.good,h.box,h.leaf,h.kin,h.bel⟩
theorem ap1(ad:Option Addr)(n cap:Nat)(K:Int)(L:Nat->Nat->Bool)(t:ByteArray)(ks:List (Nat->Bool))(hks:ks.length<=1000)(adk:Option Addr)(capk:Nat)(hn:n<=1000)(ht:t.size<=1000)(hr:fv n L K=true)(w:World)(hR:fm w ad n L w.heap.size)(hRk:fm w adk ks.length (gc ks) w.heap.size):
 Calls prog 148 #[lv ad n cap K,.string t,.slice adk ks.length capk] w fun e w'=>∃g,e=.returned (.slice (some ⟨g,0,none⟩) (t.size+1-n:Nat) (t.size+1-n:Nat))/\w.heap.size<=g/\kg w' g (t.size+1-n) (fun k=>(qj t L ks n t.size k:Nat))/\Below w.heap.size w w':=by
 have h1:=aa fun w'(h:fm w' ad n L w'.heap.size)=>alo ad n cap K L t hn ht hr w' h
 have hcl:=aa fun bw bm bl bk nt hcnt p x hx w' B hB a1 a2 a3 a4 a5 a6 a7=>ame bw bm bl bk ad n cap K L hn ks hks adk capk nt hcnt p x hx w' B hB a1 a2 a3 a4 a5 a6 a7
 have hQ0:=aa fun i k=>ahw t L ks n i k
 have hQa:=aa fun i k=>amd t L ks n i k
 have hQs:=aa fun i q k j h1 h2=>ahx t L ks n i q k j h1 h2
 have hRl:=aa fun b=>u4 L ks b n
 have hRm:=aa fun b x=>vt L ks b n x
 have hN0:Hid (∀k,qj t L ks n 0 k=0):=aa fun k=>rfl
 have hNl:Hid (∀i k,qj t L ks n i k<=i):=aa fun i k=>ur _ _
 have hQl:Hid (∀i q k,u7 t L ks n i q k<=i+1):=aa fun i q k=>by
  have h1:qj t L ks n i k<=i:=ur _ _;unfold u7 oz;split<;>omega
 generalize u7 t L ks n=RQ at *;generalize qj t L ks n=RN at *;obtain⟨S,hS⟩:∃S,S=t.size+1-n:=⟨_,rfl⟩;rw[<-hS]at h1⊢;have hS1:S<=1001:=by omega
 have hSI:(S:Int)<=1001:=by omega
 have HS:=aa hS;have hmk:=fun w'=>makeI S (by omega) w'
 have htI:(t.size:Int)<=1000:=by omega
 have hL:=fk.new w ad n cap K;have hX:=Boxed.new (w.alloc (.cells #[.slice ad n cap,.int .i64 K] 52)) 50 (.slice adk ks.length capk);have hA1:=(aw (w.heap.size+1) (w.alloc (.cells #[.slice ad n cap,.int .i64 K] 52))).alloc (by simp) (.cells #[.slice adk ks.length capk] 50);have hL2:=hL.below hA1 (Nat.lt_succ_self _);rw[bg]at hX;have hA:Below w.heap.size w ((w.alloc (.cells #[.slice ad n cap,.int .i64 K] 52)).alloc (.cells #[.slice adk ks.length capk] 50)):=(ae.alloc ac _).alloc (by simp) _;have hs2:((w.alloc (.cells #[.slice ad n cap,.int .i64 K] 52)).alloc (.cells #[.slice adk ks.length capk] 50)).heap.size=w.heap.size+2:=by simp
 have HS2:=aa hs2;have HX:=aa hX;have HL2:=aa hL2;have HA:=aa hA;have HR:=aa hR;have HRk:=aa hRk;obtain⟨c0,c1,cl⟩:=id hL2;clear hR hRk hS hL hX hA1 hL2 hA hs2;go_enter func148,ntmps148;go_wp2_with fail
 generalize ((w.alloc (.cells #[.slice ad n cap,.int .i64 K] 52)).alloc (.cells #[.slice adk ks.length capk] 50))=W0 at HS2 HX HL2 HA c0 c1 cl⊢;refine(h1.out _ ((HR.out.below HA.out ac).mono HA.out.size)).mono ?_;rintro e w1⟨rfl,hb1⟩;have hz1:=hb1.size;have hz0:=HS2.out;have hcg:w.heap.size+2<=w1.heap.size:=by omega
 have HL1:=aa (HL2.out.below hb1 cl);have HX1:=aa (Boxed.below HX.out hb1 HX.out.lt);have HB1:=aa (HA.out.trans (hb1.mono HA.out.size));clear hb1 hz1 hz0 c0 c1 cl HL2 HX HA HS2;have hblk:=kg.new w1 S;have hmap:=qe.made (w1.alloc (.cells (madeCells #[.int .i64 0] S) 3));have hbox:=Boxed.new ((w1.alloc (.cells (madeCells #[.int .i64 0] S) 3)).alloc (.map #[] 0)) 244 (.map (some (w1.heap.size+1)));simp only[bg]at hmap hbox;have hbel:Below w1.heap.size w1 (((w1.alloc (.cells (madeCells #[.int .i64 0] S) 3)).alloc (.map #[] 0)).alloc (.cells #[.map (some (w1.heap.size+1))] 244)):=((ae.alloc ac _).alloc (by simp) _).alloc (by simp;omega) _;have hmm:=@run_makeMap prog;have hst:Hid (qv w (((w1.alloc (.cells (madeCells #[.int .i64 0] S) 3)).alloc (.map #[] 0)).alloc (.cells #[.map (some (w1.heap.size+1))] 244)) w.heap.size w1.heap.size S (w1.heap.size+1) 0 ad n cap K adk ks.length capk (fun k=>(RN 0 k:Nat)) (fun b=>gu L ks b n) fun _=>none):=aa
  {blk:=((hblk.grown (World.grownBy_alloc _ _ none) (by simp)).grown (World.grownBy_alloc _ _ none) (by simp)).congr fun j _=>by rw[hN0.out];rfl
   map:=hmap.kept (World.grownBy_alloc _ _ none) (by simp)
   good:=fun x v hx=>by cases hx
   box:=hbox
   leaf:=HL1.out.below hbel (by omega)
   kin:=Boxed.below HX1.out hbel (by omega)
   bel:=HB1.out.trans (hbel.mono (by omega))}
 clear hblk hmap hbox hbel;go_wp2_with fail
 generalize (((w1.alloc (.cells (madeCells #[.int .i64 0] S) 3)).alloc (.map #[] 0)).alloc (.cells #[.map (some (w1.heap.size+1))] 244))=W3 at hst⊢;generalize w1.heap.size=g at *;have HNr:Hid (∀k b,k<(gu L ks b n).length->∃j:Nat,j<n/\gi (gu L ks b n) k=(j:Int)):=aa fun k b hk=>by
  have hm:(gu L ks b n)[k]∈gu L ks b n:=List.getElem_mem hk;obtain⟨j,hj,hjn,-⟩:=(hRm.out b _).1 hm;exact⟨j,hjn,by rw[<-hj];simp[gi,hk]⟩
 clear HL1 HX1 HB1 hmk hRm;go_loopw[21] (fun v wr=>∃(i nt:Nat)(p:Nat->Option Value),i<=t.size/\v=.int .i64 i/\nt<=i/\qv w wr w.heap.size g S (g+1) nt ad n cap K adk ks.length capk (fun k=>(RN i k:Nat)) (fun b=>gu L ks b n) p) (fun v _=>t.size-(intOf v).toNat)
 case atStart=>exact⟨0,0,_,by omega,rfl,ac,hst.out⟩
 case round=>
  obtain⟨i,nt,p,hi,rfl,hcn,hst1⟩:=hrel;have HST:=aa hst1;clear hst1;by_cases hlt:i<t.size
  ·have hlti:(i:Int)<t.size:=by omega
   have hi0:(0:Int)<=i:=by omega
   have htb:=aa (ia t i hlt);have hb255:=jq t i;obtain⟨x,hx⟩:∃x,x=tb t i:=⟨_,rfl⟩;have hbyte:Hid ((t[i].toNat:Nat)=x):=aa (by rw[htb.out,hx]);have hbI:((t[i].toNat:Nat):Int)=(x:Nat):=by rw[hbyte.out]
   rw[<-hx]at hb255;have hgl:=HST.out.blk.lt;have hcall:=hcl.out (g+2) (g+1) w.heap.size (w.heap.size+1) nt (by omega) p x hb255 wr (g+1) (by omega) HST.out.box HST.out.map HST.out.good HST.out.leaf ((HR.out.below HST.out.bel ac).mono HST.out.bel.size) HST.out.kin ((HRk.out.below HST.out.bel ac).mono HST.out.bel.size);have HC:=aa hcall;have hRLl:=hRl.out x;have HQS:=aa fun q k j=>hx▸hQs.out i q k j
   have HQA:=aa (hx▸hQa.out i);have HX:=aa hx;clear hcall htb hx;generalize hRL:gu L ks x n=RL at *;have HNX:Hid (∀k,k<RL.length->∃j:Nat,j<n/\gi RL k=(j:Int)):=aa fun k hk=>by
    have:=HNr.out k x (by rw[hRL];exact hk);rwa[hRL]at this
   clear hRL;go_wp2_with(go_at_call 197;refine HC.out.mono ?_;rintro e w2⟨ad5,cap5,cnt5,p5,rfl,hc5,hrow5,hB5,hM5,hG5,hg5⟩)
   have HROW:=aa hrow5;have HB5:=aa hB5;have hbelg:Below w.heap.size w w2:=HST.out.bel.trans (ib hg5 HST.out.bel.size (fun k hk=>by cases hk;omega));have hst2:Hid (qv w w2 w.heap.size g S (g+1) cnt5 ad n cap K adk ks.length capk (fun k=>(RQ i 0 k:Nat)) (fun b=>gu L ks b n) p5):=aa
    {blk:=(HST.out.blk.grown hg5 (by simp)).congr fun j _=>by rw[hQ0.out]
     map:=hM5
     good:=hG5
     box:=HST.out.box.kept hg5 (by simp)
     leaf:=HST.out.leaf.grown hg5 (by simp;omega)
     kin:=HST.out.kin.kept hg5 (by simp;omega)
     bel:=hbelg}
   clear hrow5 hB5 hM5 hG5 hg5 hbelg HC;go_loopw[30] (fun v wr=>∃q:Nat,q<=RL.length/\v=.int .i64 q/\qv w wr w.heap.size g S (g+1) cnt5 ad n cap K adk ks.length capk (fun k=>(RQ i q k:Nat)) (fun b=>gu L ks b n) p5/\gg wr ad5 RL.length (gi RL) wr.heap.size) (fun v _=>RL.length-(intOf v).toNat)
   case atStart=>exact⟨0,by omega,rfl,hst2.out,HROW.out⟩
   case round=>
    obtain⟨q,hq,rfl,hst3,hrow⟩:=hrel;have HST3:=aa hst3;have HROW3:=aa hrow;clear hst3 hrow;by_cases hlq:q<RL.length
    ·have hlqi:(q:Int)<RL.length:=by omega
     have hq0:(0:Int)<=q:=by omega
     obtain⟨b5,o5,rfl,hb5,e0⟩:=HROW3.out.at hlq;obtain⟨j,hjn,hjv⟩:=HNX.out q hlq;rw[hjv]at e0;have hj0:(0:Int)<=j:=by omega
     have hjI:(j:Int)<=1000:=by omega
     have HSTEP:=aa fun k=>HQS.out q k j hlq hjv
     have hgl3:=HST3.out.blk.lt;by_cases hji:j<=i
     ·obtain⟨m,hm⟩:∃m,m=i-j:=⟨_,rfl⟩
      have hmI:(i:Int)-j=(m:Nat):=by omega
      have hjiI:(j:Int)<=i:=by omega
      by_cases hmS:m<S
      ·have hmSI:(m:Int)<S:=by omega
       have d1:=HST3.out.blk.cells m hmS;have f1:=HST3.out.blk.free m hmS;have hql:=hQl.out i q m;obtain⟨r,hr⟩:∃r,r=RQ i q m:=⟨_,rfl⟩;rw[<-hr]at d1 hql;have hrI:(r:Int)<=1001:=by omega
       have HRr:=aa hr;have HMm:=aa hm;clear hjv hr hm;go_wp2_with fail
       go_roundw
       case rel=>
        refine⟨q+1,by omega,by go_num,(HST3.out.set m (r+1) (by omega) (by omega) (by omega)).congr fun k hk=>?_,(HROW3.out.far (fun a ha=>by have:=HB5.out a ha;omega) _).mono (by simp)⟩;rw[HSTEP.out k];have h1:=HRr.out;have h2:=HMm.out;by_cases he:k=m
        ·subst he
         rw[if_pos rfl,cw hji,cw h2,<-h1];rfl
        ·rw[if_neg he,bv (show¬k=i-j by omega),Bool.and_false]
         rfl
       case measure=>simp[intOf];omega
      ·have hmSI:¬(m:Int)<S:=by omega
       have HMm:=aa hm;clear hjv hm;go_wp2_with fail
       go_roundw
       case rel=>
        refine⟨q+1,by omega,by go_num,HST3.out.congr fun k hk=>?_,HROW3.out⟩;have h2:=HMm.out;rw[HSTEP.out k,bv (show¬k=i-j by omega),Bool.and_false];rfl
       case measure=>simp[intOf];omega
     ·have hjiI:¬(j:Int)<=i:=by omega
      clear hjv;go_wp2_with fail
      go_roundw
      case rel=>
       refine⟨q+1,by omega,by go_num,HST3.out.congr fun k hk=>?_,HROW3.out⟩;rw[HSTEP.out k,bv hji,Bool.false_and];rfl
      case measure=>simp[intOf];omega
    ·obtain rfl:q=RL.length:=by omega
     go_wp2_with fail
     go_roundw
     case rel=>exact⟨i+1,cnt5,p5,by omega,by go_num,by omega,HST3.out.congr fun k _=>by rw[HQA.out k]⟩
     case measure=>simp[intOf];omega
  ·obtain rfl:i=t.size:=by omega
   go_wp2_with fail
   go_ret;exact⟨g,rfl,by omega,HST.out.blk,HST.out.bel⟩
end
section
set_option maxRecDepth 100000
set_option maxHeartbeats 8000000
open Go.RowKit Go.Shelf
theorem afn(ad:Option Addr)(n cap:Nat)(K least:Int)(L:Nat->Nat->Bool)(t:ByteArray)(size:Int)(hn1:1<=n)(hn:n<=64)(ht:t.size<=1000)(hr:fv n L K=true)(hp:ki L n=true)(hsz:((fa L n).filter (lz L n least)).length=0\/t.size<n\/vn n size=true)(w:World)(hR:fm w ad n L w.heap.size):
 Calls prog 90 #[lv ad n cap K,.string t,.int .i64 size,.int .i64 least] w fun e w'=>∃g z,e=.returned (.tuple #[.slice (some ⟨g,0,none⟩) (t.size+1-n:Nat) (t.size+1-n:Nat),.int .i64 z,.int .i64 0])/\w.heap.size<=g/\kg w' g (t.size+1-n) (fun i=>(ky t L i n:Nat))/\Below w.heap.size w w':=by
 have hpa:=aa fun w' h=>afq ad n cap K least L (by omega) w' h
 have hck:=aa fun w'(h:fm w' ad n L w'.heap.size)=>amp ad n cap K L t size ((fa L n).filter (lz L n least)).length (by omega) ht hr hp hsz w' h
 have hbd:=aa fun w'(h:fm w' ad n L w'.heap.size)=>acv ad n cap K L (by omega) w' h
 have hkl:=iu L n;have hF1l:((fa L n).filter (lz L n least)).length<=64:=ba (d9 _ _) (by omega);have hF2l:((fa L n).filter fun S=> !lz L n least S).length<=64:=ba (d9 _ _) (by omega);have HLAW:=aa fun i hi=>alp t L n i (lz L n least) hi
 have hrr:=aa fun adk capk w' h1 h2=>ap1 ad n cap K L t ((fa L n).filter fun S=> !lz L n least S) (by omega) adk capk (by omega) ht hr w' h1 h2
 have hRNl:Hid (∀k,qj t L ((fa L n).filter fun S=> !lz L n least S) n t.size k<=1000):=aa fun k=>ba (ur _ _) ht
 have hsz2:((fa L n).filter (lz L n least)).length≠0->t.size<n\/vn n size=true:=fun h=>hsz.resolve_left h
 have HSZ:=aa hsz2;clear hsz hsz2;generalize (fa L n).filter (lz L n least)=F1 at *;generalize ((fa L n).filter fun S=> !lz L n least S)=F2 at *;generalize qj t L F2 n t.size=RN at *;have hpl:=aa fun c w'(h:fm w' ad n L w'.heap.size)=>afj ad n cap K L c (by omega) w' h
 have hmk:=aa fun c w'=>yf t (by omega) c w'
 have hco:=aa fun(hs:t.size<n\/vn n size=true)(ap at':Option Addr)c w'(h1:i8 w' ap n (fun j=>oz (fj (L j) c)) w'.heap.size)(h2:i8 w' at' t.size (fun i=>oz (c (tb t i))) w'.heap.size)=>qd ap at' n t.size n t.size (fun j=>oz (fj (L j) c)) (fun i=>oz (c (tb t i))) size hn1 (by omega) (by omega) ac (fun j _=>abp _) (fun j _=>abp _) hs w' h1 h2
 obtain⟨S,hS⟩:∃S,S=t.size+1-n:=⟨_,rfl⟩;rw[<-hS]at hrr hco⊢;have hS1:S<=1001:=by omega
 have hSI:(S:Int)<=1001:=by omega
 have HLAW2:Hid (∀i,i<S->((ja L n:Nat):Int)-((RN i:Nat)+(ko t L n F1 i:Nat))=(ky t L i n:Nat)):=aa fun i hi=>HLAW.out i (by omega)
 have hbn:ja L n<=n:=by have:=tr L n;omega
 have hbnI:(ja L n:Int)<=64:=by omega
 have HACC:Hid (∀q j,q<=F1.length->ko t L n (F1.take q) j<=4096):=aa fun q j hq=>by
  have h1:=akw t L n (F1.take q) j;have h2:(F1.take q).length<=64:=ba (List.length_take_le _ _) (by omega);have:=Nat.mul_le_mul h2 hn;omega
 have HASC:Hid (∀q j,q<F1.length->ko t L n (F1.take (q+1)) j=ko t L n (F1.take q) j+uw t L n (gc F1 q) j):=aa fun q j hq=>by
  rw[da hq,ac1];have:gc F1 q=F1[q]:=by simp[gc,hq]
  rw[this]
 have HHL:Hid (∀c j,uw t L n c j<=64):=aa fun c j=>by have:=aeh t L n c j;omega
 have htI:(t.size:Int)<=1000:=by omega
 have hnI:(n:Int)<=64:=by omega
 have hF1I:(F1.length:Int)<=64:=by omega
 have hL:=fk.new w ad n cap K;have hA:Below w.heap.size w (w.alloc (.cells #[.slice ad n cap,.int .i64 K] 52)):=ae.alloc ac _;have HR0:=aa hR;have HL0:=aa hL;have HA:=aa hA;have HS:=aa hS;obtain⟨c0,c1,cl⟩:=id hL;clear hR hL hA hS HLAW hkl;go_enter func90,ntmps90;go_wp2_with fail
 generalize (w.alloc (.cells #[.slice ad n cap,.int .i64 K] 52))=W0 at HL0 HA c0 c1 cl⊢;refine(hpa.out _ ((HR0.out.below HA.out ac).mono HA.out.size)).mono ?_;rintro e w1⟨adF,capF,adG,capG,rfl,hrF,hrG,hb1⟩;have HF1:=aa hrF;have HG1:=aa hrG;have H1:=aa (HA.out.trans (hb1.mono HA.out.size));have HL1:=aa (HL0.out.below hb1 cl);clear c0 c1 cl hb1 hrF hrG HL0 HA;obtain⟨c0,c1,cl⟩:=id HL1.out;go_wp2_with fail
 refine(hck.out _ ((HR0.out.below H1.out ac).mono H1.out.size)).mono ?_;rintro e w2⟨rfl,hb2⟩;have HF2:=aa ((HF1.out.below hb2 ac).mono hb2.size);have HG2:=aa ((HG1.out.below hb2 ac).mono hb2.size);have H2:=aa (H1.out.trans (hb2.mono H1.out.size));have HL2:=aa (HL1.out.below hb2 cl);clear c0 c1 cl hb2 HF1 HG1 H1 HL1;obtain⟨c0,c1,cl⟩:=id HL2.out;go_wp2_with fail
 refine(hrr.out _ _ _ ((HR0.out.below H2.out ac).mono H2.out.size) HG2.out).mono ?_;rintro e w3⟨g,rfl,hg,hB3,hb3⟩;have HB3:=aa hB3;have Hb3:=aa hb3;have hw2:=H2.out.size;have hz3:=hb3.size;clear c0 c1 hB3 hb3 HG2;go_wp2_with fail
 go_loopw[15,45] (fun z i wr=>∃(q:Nat)(zi:Int),q<=F1.length/\i=.int .i64 q/\z=.int .i64 zi/\kg wr g S (fun k=>((RN k+ko t L n (F1.take q) k:Nat):Int))/\Below w2.heap.size w2 wr) (fun _ i _=>F1.length-(intOf i).toNat)
 case atStart=>exact⟨0,0,by omega,rfl,rfl,HB3.out.congr fun j _=>by simp[ko],Hb3.out⟩
 case round=>
  obtain⟨q,zi,hq,rfl,rfl,hB,hb⟩:=hrel;obtain⟨wx,rfl⟩:∃wx,wx=wr:=⟨wr,rfl⟩;have HB:=aa hB;have Hb:=aa hb;have hzx:=hb.size;clear hB hb;by_cases hlt:q<F1.length
  ·have hlti:(q:Int)<F1.length:=by omega
   have hq0:(0:Int)<=q:=by omega
   have hs:=HSZ.out (by omega);obtain⟨d0,d1,dl⟩:=id (HL2.out.below Hb.out cl);obtain⟨b,o,rfl,hbm,e0,e1,e2,e3⟩:=(HF2.out.below Hb.out ac).at hlt;have HAq:=aa fun j=>HASC.out q j hlt
   obtain⟨c,hc⟩:∃c,c=gc F1 q:=⟨_,rfl⟩;rw[<-hc]at e0 e1 e2 e3 HAq;have hA:Below wx.heap.size wx (wx.alloc (.cells #[.int .u64 (wd c 0:Nat),.int .u64 (wd c 1:Nat),.int .u64 (wd c 2:Nat),.int .u64 (wd c 3:Nat)] 100)):=ae.alloc ac _;have hC:=fc.new wx c;obtain⟨⟨f0,f1,f2,f3⟩,-,fl⟩:=hC;obtain⟨p0,p1,pl⟩:=id ((HL2.out.below Hb.out cl).below hA dl);have HRa:=aa ((HR0.out.below (H2.out.trans ((Hb.out.trans (hA.mono hzx)).mono hw2)) ac).mono (H2.out.trans ((Hb.out.trans (hA.mono hzx)).mono hw2)).size);have HAa:=aa hA;have hbx:b<wx.heap.size:=by omega
   clear hc hA d0 d1 dl;go_wp2_with fail
   generalize (wx.alloc (.cells #[.int .u64 (wd c 0:Nat),.int .u64 (wd c 1:Nat),.int .u64 (wd c 2:Nat),.int .u64 (wd c 3:Nat)] 100))=wA at f0 f1 f2 f3 fl p0 p1 pl HRa HAa⊢;go_region_held3 (fun w'=>fo wA w') (first|with_reducible exact fo.start _|with_reducible exact fo.calld (fo.refl _) (by with_reducible assumption)|with_reducible exact fo.call (by with_reducible assumption) (by with_reducible assumption)) (first|(go_at_call 149;refine(hpl.out _ _ ((HRa.out.below (show fo wA _ by with_reducible assumption).2.2.2 ac).mono (show fo wA _ by with_reducible assumption).2.2.1)).mono ?_;rintro e wP⟨gP,rfl,hgP,hkP,hbP⟩)|(go_at_call 51;refine(hmk.out _ _).mono ?_;rintro e wM⟨gM,rfl,hgM,hkM,hbM⟩)|(go_at_call 13;refine(hco.out hs _ _ c _ (hkP.below hbM hkP.lt).row hkM.row).mono ?_;rintro e wC⟨vC,zC,rfl,hoC,hbC⟩;obtain⟨adC,capC,rfl⟩:=ey hoC))
   have hAC:Below wA.heap.size wA wC:=(show fo wA wC by with_reducible assumption).2.2.2;have hRC:Below wx.heap.size wx wC:=HAa.out.trans (hAC.mono HAa.out.size);have hgx:=HB.out.lt;have HBC:=aa (HB.out.below hRC hgx);have hzM:wx.heap.size<=wM.heap.size:=by
    have h1:=hbM.size;have h2:=hbP.size;have h3:=HAa.out.size;simp only[World.drew]at *;omega
   have HOC:=aa (fx hoC hzM);have HbC:=aa (Hb.out.trans (hRC.mono hzx));clear hAC hRC hoC hzM hkP hkM hbP hbM hbC hgP hgM;have hHc:=HHL.out c;have HHc:Hid (∀j,uw t L n c j<=64):=aa hHc;have HAl:=aa fun j=>HACC.out q j (by omega)
   have HHC:Hid (wC.ownsRow wx.heap.size 46 1 (.slice adC S capC) S (fh (uw t L n c) S)):=HOC;clear hHc HOC;generalize uw t L n c=H at *;generalize ko t L n (F1.take q)=A at *;go_wp2_with fail
   go_loopw[66] (fun i wr=>∃q2:Nat,q2<=S/\i=.int .i64 q2/\kg wr g S (fun j=>((RN j+A j+(if j<q2 then H j else 0):Nat):Int))/\i8 wr adC S H wr.heap.size/\Below w2.heap.size w2 wr) (fun i _=>S-(intOf i).toNat)
   case atStart=>exact⟨0,by omega,rfl,HBC.out.congr fun j _=>by rw[if_neg (by omega),Nat.add_zero],j5 HHC.out,HbC.out⟩
   case round=>
    obtain⟨q2,hq2,rfl,hB2,hrow2,hb2⟩:=hrel;have HB2:=aa hB2;have HRW2:=aa hrow2;have Hb2:=aa hb2;clear hB2 hrow2 hb2;by_cases hlt2:q2<S
    ·have hlt2i:(q2:Int)<S:=by omega
     have hq20:(0:Int)<=q2:=by omega
     have hne:∀a,adC=some a->wx.heap.size<=a.block:=fun a ha=>by
      rcases HHC.out.2 with⟨h1,_⟩|⟨g',cp,cur,h1,hg',_⟩
      ·rw[ha]at h1;cases h1
      ·rw[ha]at h1;cases h1;exact hg'
     obtain⟨b5,o5,rfl,hb5,x1⟩:=HRW2.out.at hlt2;have hb5g:wx.heap.size<=b5:=hne _ rfl;have y1:=HB2.out.cells q2 hlt2;have y2:=HB2.out.free q2 hlt2;have y3:=HB2.out.lt;rw[if_neg (by omega),Nat.add_zero]at y1;have a1:=HAl.out q2;have a2:=HHc.out q2;have a3:=hRNl.out q2;obtain⟨av,hav⟩:∃av:Nat,av=RN q2+A q2:=⟨_,rfl⟩;obtain⟨hv,hhv⟩:∃hv:Nat,hv=H q2:=⟨_,rfl⟩;rw[<-hav]at y1;rw[<-hhv]at x1;have avI:(av:Int)<=6000:=by omega
     have hvI:(hv:Int)<=64:=by omega
     have HAV:=aa hav;have HHV:=aa hhv;clear hav hhv hne;go_wp2_with fail
     go_roundw
     case rel=>
      refine⟨q2+1,by omega,by go_num,(HB2.out.set q2 (av+hv)).congr fun k hk=>?_,?_,Hb2.out.setCell (p:=⟨g,q2,none⟩) hg _⟩
      ·have h1:=HAV.out
       have h2:=HHV.out;by_cases he:k=q2
       ·subst he
        rw[if_pos rfl,if_pos (by omega)];omega
       ·rw[if_neg he]
        by_cases h3:k<q2
        ·rw[if_pos h3,if_pos (by omega)]
        ·rw[if_neg h3,if_neg (by omega)]
      ·rcases HRW2.out with h0|⟨b6,o6,h6,hl6,hc6⟩
       ·exact .inl h0
       ·cases h6
        exact .inr ⟨_,_,rfl,by simpa using hl6,fun j hj=>by rw[bh _ _ _ _ (by intro e;injection e with h1 h2;omega)];exact hc6 j hj⟩
     case measure=>simp[intOf];omega
    ·obtain rfl:q2=S:=by omega
     go_wp2_with fail
     go_roundw
     case rel=>exact⟨q+1,_,by omega,by go_num,rfl,HB2.out.congr fun k hk=>by rw[if_pos hk,HAq.out k,dy],Hb2.out⟩
     case measure=>simp[intOf];omega
  ·obtain rfl:q=F1.length:=by omega
   go_wp2_with fail
   go_loopw[83] (fun i wr=>∃q2:Nat,q2<=S/\i=.int .i64 q2/\kg wr g S (fun j=>if j<q2 then((ky t L j n:Nat):Int)else((RN j+ko t L n F1 j:Nat):Int))/\Below w2.heap.size w2 wr) (fun i _=>S-(intOf i).toNat)
   case atStart=>exact⟨0,by omega,rfl,HB.out.congr fun j _=>by rw[if_neg (by omega),dr],Hb.out⟩
   case round=>
    obtain⟨q2,hq2,rfl,hB2,hb2⟩:=hrel;have HB2:=aa hB2;have Hb2:=aa hb2;clear hB2 hb2;by_cases hlt2:q2<S
    ·have hlt2i:(q2:Int)<S:=by omega
     have hq20:(0:Int)<=q2:=by omega
     obtain⟨a0,a1,al⟩:=id (HL2.out.below Hb2.out cl);have y1:=HB2.out.cells q2 hlt2;have y2:=HB2.out.free q2 hlt2;have hgl:=HB2.out.lt;rw[if_neg (by omega)]at y1;have hlw:=HLAW2.out q2 hlt2;have hrl:=hRNl.out q2;have hal:=HACC.out F1.length q2 ac;rw[dr]at hal;have hmi:ky t L q2 n<=n:=aif t L q2 n;obtain⟨av,hav⟩:∃av:Nat,av=RN q2+ko t L n F1 q2:=⟨_,rfl⟩;obtain⟨mv,hmv⟩:∃mv:Nat,mv=ky t L q2 n:=⟨_,rfl⟩;rw[<-hav]at y1;have havm:(ja L n:Int)-av=mv:=by omega
     have havI:(av:Int)<=6000:=by omega
     have hmvI:(mv:Int)<=64:=by omega
     have HMV:=aa hmv;have HRr:Hid (fm wr.drew ad n L wr.drew.heap.size):=aa ((HR0.out.below (H2.out.trans (Hb2.out.drew.mono hw2)) ac).mono (H2.out.trans (Hb2.out.drew.mono hw2)).size);have HBd:Hid (kg wr.drew g S (fun j=>if j<q2 then((ky t L j n:Nat):Int)else((RN j+ko t L n F1 j:Nat):Int))):=aa (HB2.out.below (aw wr.heap.size wr).drew hgl);have hwr1:IntKind.i64.wrap ((ja L n:Int)-av)=(mv:Int):=by rw[havm,ci];omega
     clear hav hmv hlw hrl hal hmi havm;go_wp2_with fail
     have hS0:(wr.drew.cell? ⟨g,q2,none⟩=some (.int .i64 (av:Nat))/\wr.drew.cell? ⟨w.heap.size,0,none⟩=some (.slice ad n cap)/\wr.drew.cell? ⟨w.heap.size,1,none⟩=some (.int .i64 K)):=⟨y1,a0,a1⟩;go_region_law(first|(refine ajo 144 (by with_reducible rfl) ?_;go_simp;go_at_call 144;refine(hbd.out _ HRr.out).mono ?_;rintro e w'⟨rfl,hb'⟩;have hBq:=HBd.out.below hb' HBd.out.lt;have f1:=hBq.free q2 hlt2;have k1:w'.cell? ⟨g,q2,none⟩=some (.int .i64 (av:Nat)):=(hb'.cell (p:=⟨g,q2,none⟩) hgl).trans y1;have dl:=hBq.lt;have k2:=(hb'.cell (p:=⟨w.heap.size,0,none⟩) al).trans a0;have k3:=(hb'.cell (p:=⟨w.heap.size,1,none⟩) al).trans a1))
     all_goals
      clear hwr1;go_wp2;refine⟨⟨q2+1,by omega,by go_num,(hBq.set q2 mv).congr fun k hk=>?_,(Hb2.out.drew.trans (hb'.mono (show w2.heap.size<=wr.drew.heap.size from Hb2.out.size))).setCell (p:=⟨g,q2,none⟩) hg _⟩,by simp[intOf];omega⟩;by_cases he:k=q2
      ·subst he
       rw[if_pos rfl,if_pos (by omega),HMV.out]
      ·rw[if_neg he]
       by_cases h3:k<q2
       ·rw[if_pos h3,if_pos (by omega)]
       ·rw[if_neg h3,if_neg (by omega)]
    ·obtain rfl:q2=S:=by omega
     go_wp2_with fail
     refine ay (results_tmp3 rfl _ _ _) rfl ?_;exact⟨g,_,rfl,by omega,HB2.out.congr fun j hj=>by rw[if_pos hj],H2.out.trans (Hb2.out.mono hw2)⟩
theorem amo(ad:Option Addr)(n cap:Nat)(K least:Int)(L:Nat->Nat->Bool)(t:ByteArray)(size:Int)(hn1:1<=n)(hn:n<=64)(ht:t.size<=1000)(hr:fv n L K=true)(hp:ki L n=true)(hsz:((fa L n).filter (lz L n least)).length=0\/t.size<n\/vn n size=true)(w:World)(hR:fm w ad n L w.heap.size):
 Calls prog 88 #[lv ad n cap K,.string t,.int .i64 size,.int .i64 least] w fun e w'=>∃v z,e=.returned (.tuple #[v,.int .i64 z,.int .i64 0])/\w'.ownsRow w.heap.size 3 1 v (qz t n L K (kh 0 (many t n L K 0))).length (ga (qz t n L K (kh 0 (many t n L K 0))))/\Below w.heap.size w w':=by
 have hmany:many t n L K 0=t.size+1-n:=by unfold many;rw[hr,if_pos rfl];omega
 have h1:=aa fun w'(h:fm w' ad n L w'.heap.size)=>afn ad n cap K least L t size hn1 hn ht hr hp hsz w' h
 have h2:=fun ad' cap' w'(h:gg w' ad' (t.size+1-n) (gi ((kh 0 (t.size+1-n)).map fun i=>((ky t L i n:Nat):Int))) w'.heap.size)=>af7 ad' (t.size+1-n) cap' (gi ((kh 0 (t.size+1-n)).map fun i=>((ky t L i n:Nat):Int))) K (by omega) w' h
 rw[abd t n L K (t.size+1-n) (t.size+1-n) ac]at h2;rw[hmany];have H2:=aa h2;have HG:Hid (∀j,j<t.size+1-n->((ky t L j n:Nat):Int)=gi ((kh 0 (t.size+1-n)).map fun i=>((ky t L i n:Nat):Int)) j):=aa fun j hj=>by
  unfold gi kh;simp[hj]
 generalize gi ((kh 0 (t.size+1-n)).map fun i=>((ky t L i n:Nat):Int))=G at *;generalize qz t n L K (kh 0 (t.size+1-n))=F at *;clear h2 hmany hsz;have hL:=fk.new w ad n cap K;have hA:Below w.heap.size w (w.alloc (.cells #[.slice ad n cap,.int .i64 K] 52)):=ae.alloc ac _;have HR1:=aa ((hR.below hA ac).mono hA.size);have HA:=aa hA;have HL:=aa hL;obtain⟨c0,c1,cl⟩:=hL;clear hA hR;generalize t.size+1-n=S at *;go_enter func88,ntmps88;go_wp2_with fail
 refine(h1.out _ HR1.out).mono ?_;rintro e w1⟨g,z,rfl,hg,hB,hb1⟩;obtain⟨d0,d1,dl⟩:=id (HL.out.below hb1 cl);have HB:=aa hB;have Hb1:=aa (HA.out.trans (hb1.mono HA.out.size));clear hB hb1;go_wp2_with fail
 refine(H2.out _ _ _ (HB.out.row.congr HG.out)).mono ?_;rintro e w2⟨v,rfl,ho,hb2⟩;have hzz:=Hb1.out.size;go_wp2_with fail
 refine ay (results_tmp3 rfl _ _ _) rfl ?_;exact⟨v,z,rfl,fx ho hzz,Hb1.out.trans (hb2.mono hzz)⟩
end
section
set_option maxRecDepth 100000
set_option maxHeartbeats 1000000
open Go.RowKit Go.Shelf
def cN(m n size:Int):Int:=if 1<=m/\m<=n then ux m n size else 0
theorem cN_in{m n size:Int}(hn:n<=100000):(0<=cN m n size*size/\cN m n size*size<=700000*4096)/\0<=cN m n size:=by
 unfold cN;split
 ·rename_i h;exact ael h.1 h.2 hn
 ·rw[Int.zero_mul];omega
theorem cN_any(m n size:Int)(hm:m<=1000)(hn:n<=100000)(w:World):Calls prog 14 #[.int .i64 m,.int .i64 n,.int .i64 size] w fun e w'=>e=.returned (.int .i64 (cN m n size))/\Below w.heap.size w w':=by
 unfold cN;by_cases h:1<=m/\m<=n
 ·rw[if_pos h];exact yj m n size h.1 h.2 hm hn w
 ·rw[if_neg h];exact ar8 m n size h hn w
def abf(m n:Int):Nat->Int×Int
 |0=>(0,0)
 |k+1=>if 0<cN m n ((2:Int)^k)*(2:Int)^k*((k:Int)+1)/\((abf m n k).1=0\/cN m n ((2:Int)^k)*(2:Int)^k*((k:Int)+1)<(abf m n k).2)then((2:Int)^k,cN m n ((2:Int)^k)*(2:Int)^k*((k:Int)+1))else abf m n k
def fitV(m n:Int):Int:=(abf m n 13).1
theorem fit_any(m n:Int)(hm:m<=1000)(hn:n<=100000)(w:World):Calls prog 233 #[.int .i64 m,.int .i64 n] w fun e w'=>e=.returned (.int .i64 (fitV m n))/\Below w.heap.size w w':=by
 have hc:=aa fun size w'=>cN_any m n size hm hn w'
 have hin:=aa fun size=>cN_in (m:=m) (n:=n) (size:=size) hn
 have h0:Hid (abf m n 0=(0,0)):=aa rfl;have hS:Hid (∀(k:Nat)(c:Int),c=cN m n ((2:Int)^k)*(2:Int)^k*((k:Int)+1)->abf m n (k+1)=if 0<c/\((abf m n k).1=0\/c<(abf m n k).2)then((2:Int)^k,c)else abf m n k):=aa fun k c h=>by subst h;rfl
 have hV:fitV m n=(abf m n 13).1:=rfl;rw[hV];clear hV;generalize abf m n=F at *;go_enter func233,ntmps233;go_wp2_with fail
 go_loopw[5,6,10] (fun b l i wr=>∃k:Nat,k<=13/\i=.int .i64 k/\b=.int .i64 (F k).1/\l=.int .i64 (F k).2/\Below w.heap.size w wr) (fun _ _ i _=>13-(intOf i).toNat)
 case atStart=>exact⟨0,by omega,rfl,by rw[h0.out],by rw[h0.out],ae⟩
 case round=>
  obtain⟨k,hk,rfl,rfl,rfl,hb⟩:=hrel;have Hb:=aa hb;clear hb;by_cases hlt:k<13
  ·have hlti:(k:Int)<13:=by omega
   have hk0:(0:Int)<=k:=by omega
   obtain⟨hp1,hp2,hp3⟩:=pow2i k hlt;have HSk:=aa (hS.out k);have HC:=aa (hc.out ((2:Int)^k));obtain⟨⟨g1,g2⟩,g3⟩:=hin.out ((2:Int)^k);generalize hz:(2:Int)^k=z at *;generalize cN m n z=y at *;have hcost:=vx g1 g2 (show(0:Int)<=(k:Int)+1 by omega) (show(k:Int)+1<=13 by omega);have hw1:IntKind.i64.wrap (y*z)=y*z:=by rw[ci];omega
   have hw2:IntKind.i64.wrap (y*z*((k:Int)+1))=y*z*((k:Int)+1):=by rw[ci];omega
   obtain⟨c,hcc⟩:∃c,c=y*z*((k:Int)+1):=⟨_,rfl⟩;have HSC:=aa (HSk.out c hcc);have hc0:0<=c:=by omega
   have hc1:c<=40000000000:=by omega
   have hcw:wrap64 c=c:=by unfold wrap64;omega
   obtain⟨b,hb⟩:∃b,b=(F k).1:=⟨_,rfl⟩;obtain⟨l,hl⟩:∃l,l=(F k).2:=⟨_,rfl⟩;have hw2':IntKind.i64.wrap (y*z*((k:Int)+1))=c:=by rw[hcc];exact hw2
   have hcc':y*z*((k:Int)+1)=c:=hcc.symm;rw[<-hb,<-hl]at HSC⊢;have HB:=aa hb;have HL:=aa hl;clear hw2 hcc hb hl;by_cases h1:0<c
   ·by_cases h2:b=0
    ·have h2b:(b==0)=true:=by rw[h2];rfl
     have HN:=aa (HSC.out.trans (if_pos ⟨h1,.inl h2⟩));subst h2;clear hcost g1 g2;go_wp2_with(go_at_call 14;(with_reducible refine(HC.out _).mono ?_);rintro e w1⟨rfl,hb1⟩)
     go_roundw
     case rel=>exact⟨k+1,by omega,by go_num,by rw[HN.out],by rw[HN.out],Hb.out.trans (hb1.mono Hb.out.size)⟩
     case measure=>simp[intOf];omega
    ·have h2b:(b==0)=false:=by rw[ax];exact h2
     by_cases h3:c<l
     ·have HN:=aa (HSC.out.trans (if_pos ⟨h1,.inr h3⟩))
      clear hcost g1 g2 h2;go_wp2_with(go_at_call 14;(with_reducible refine(HC.out _).mono ?_);rintro e w1⟨rfl,hb1⟩)
      go_roundw
      case rel=>exact⟨k+1,by omega,by go_num,by rw[HN.out],by rw[HN.out],Hb.out.trans (hb1.mono Hb.out.size)⟩
      case measure=>simp[intOf];omega
     ·have HN:=aa (HSC.out.trans (if_neg (fun h=>h.2.elim h2 h3)))
      clear hcost g1 g2 h2;go_wp2_with(go_at_call 14;(with_reducible refine(HC.out _).mono ?_);rintro e w1⟨rfl,hb1⟩)
      go_roundw
      case rel=>exact⟨k+1,by omega,by go_num,by rw[HN.out,HB.out],by rw[HN.out,HL.out],Hb.out.trans (hb1.mono Hb.out.size)⟩
      case measure=>simp[intOf];omega
   ·have HN:=aa (HSC.out.trans (if_neg (fun h=>h1 h.1)))
    clear hcost g1 g2;go_wp2_with(go_at_call 14;(with_reducible refine(HC.out _).mono ?_);rintro e w1⟨rfl,hb1⟩)
    go_roundw
    case rel=>exact⟨k+1,by omega,by go_num,by rw[HN.out,HB.out],by rw[HN.out,HL.out],Hb.out.trans (hb1.mono Hb.out.size)⟩
    case measure=>simp[intOf];omega
  ·obtain rfl:k=13:=by omega
   go_wp2_with fail
   go_ret;exact⟨rfl,Hb.out⟩
end
section
set_option maxRecDepth 100000
set_option maxHeartbeats 4000000
open Go.RowKit Go.Shelf
def szV(m n sz:Int):Int:=if sz=0 then fitV m n else sz
def wayV(F sz nn K:Int)(L:Nat->Nat->Bool)(n:Nat):Int:=if s6 F nn (szV n nn sz) K L n=true then F else zg nn (szV n nn sz) K L n
abbrev wj(w:World)(B:Nat)(F sz:Int):Prop:=w.cell? ⟨B,0,none⟩=some (.int .i64 F)/\w.cell? ⟨B,1,none⟩=some (.int .i64 sz)/\B<w.heap.size
theorem wj.new(w:World)(F sz:Int):wj (w.alloc (.cells #[.int .i64 F,.int .i64 sz] 35)) w.heap.size F sz:=by
 refine⟨?_,?_,?_⟩<;>simp[go_sem]
theorem wj.below{w w':World}{B n':Nat}{F sz:Int}(h:wj w B F sz)(hb:Below n' w w')(hn:B<n'):wj w' B F sz:=
 ⟨(hb.cell (p:=⟨B,0,none⟩) hn).trans h.1,(hb.cell (p:=⟨B,1,none⟩) hn).trans h.2.1,az h.2.2 hb.size⟩
theorem ae4(ad:Option Addr)(n cap:Nat)(K nn F sz:Int)(hn:(n:Int)<=1000)(hnn:nn<=100000)(w:World):
 Calls prog 213 #[lv ad n cap K,.int .i64 nn,.agg #[.int .i64 F,.int .i64 sz]] w fun e w'=>e=.returned (.int .i64 (szV n nn sz))/\Below w.heap.size w w':=by
 have hf:=aa fun w'=>fit_any n nn hn hnn w'
 have hA:Below w.heap.size w ((w.alloc (.cells #[.slice ad n cap,.int .i64 K] 52)).alloc (.cells #[.int .i64 F,.int .i64 sz] 35)):=(ae.alloc ac _).alloc (by simp) _;unfold szV;by_cases h:sz=0
 ·subst h
  rw[if_pos rfl];go_enter func213,ntmps213;go_wp2_with fail
  refine(hf.out _).mono ?_;rintro e w1⟨rfl,hb1⟩;go_wp2_with fail
  go_ret;exact⟨rfl,hA.trans (hb1.mono hA.size)⟩
 ·rw[if_neg h]
  have hb:(sz==0)=false:=by rw[ax];exact h
  go_enter func213,ntmps213;go_wp2_with fail
  go_ret;exact⟨rfl,hA⟩
theorem way_any(ad:Option Addr)(n cap:Nat)(K nn F sz:Int)(L:Nat->Nat->Bool)(hn:(n:Int)<=1000)(hnn:nn<=100000)(w:World)(hR:fm w ad n L w.heap.size):
 Calls prog 212 #[lv ad n cap K,.int .i64 nn,.agg #[.int .i64 F,.int .i64 sz]] w fun e w'=>e=.returned (.int .i64 (wayV F sz nn K L n))/\Below w.heap.size w w':=by
 have h1:=aa fun w'=>ae4 ad n cap K nn F sz hn hnn w'
 unfold wayV;generalize szV n nn sz=z at *;have h2:=aa fun w'(h:fm w' ad n L w'.heap.size)=>ac4 F ad n cap K L hn nn z w' h
 have h3:=aa fun w'(h:fm w' ad n L w'.heap.size)=>ai9 ad n cap K L hn nn z w' h
 have hL:=fk.new w ad n cap K;have hG:=wj.new (w.alloc (.cells #[.slice ad n cap,.int .i64 K] 52)) F sz;have hA1:=(aw (w.heap.size+1) (w.alloc (.cells #[.slice ad n cap,.int .i64 K] 52))).alloc (by simp) (.cells #[.int .i64 F,.int .i64 sz] 35);have HL:=aa (hL.below hA1 (Nat.lt_succ_self _));have hA:Below w.heap.size w ((w.alloc (.cells #[.slice ad n cap,.int .i64 K] 52)).alloc (.cells #[.int .i64 F,.int .i64 sz] 35)):=(ae.alloc ac _).alloc (by simp) _;rw[bg]at hG;have HG:=aa hG;have HA:=aa hA;have HR:=aa hR;obtain⟨c0,c1,cl⟩:=id HL.out;obtain⟨d0,d1,dl⟩:=id hG;clear hR hL hG hA1 hA;cases hs:s6 F nn z K L n
 ·rw[if_neg (by decide)]
  rw[hs]at h2;clear hs;go_enter func212,ntmps212;go_wp2_with fail
  generalize ((w.alloc (.cells #[.slice ad n cap,.int .i64 K] 52)).alloc (.cells #[.int .i64 F,.int .i64 sz] 35))=W0 at HL HG HA c0 c1 cl d0 d1 dl⊢;refine(h1.out _).mono ?_;rintro e w1⟨rfl,hb1⟩;have HA1:=aa (HA.out.trans (hb1.mono HA.out.size));have HL1:=aa (HL.out.below hb1 cl);have HG1:=aa (HG.out.below hb1 dl);clear c0 c1 cl d0 d1 dl hb1;obtain⟨c0,c1,cl⟩:=id HL1.out;obtain⟨d0,d1,dl⟩:=id HG1.out;go_wp2_with fail
  refine(h2.out _ ((HR.out.below HA1.out ac).mono HA1.out.size)).mono ?_;rintro e w2⟨rfl,hb2⟩;have HA2:=aa (HA1.out.trans (hb2.mono HA1.out.size));have HL2:=aa (HL1.out.below hb2 cl);clear c0 c1 cl d0 d1 dl hb2;obtain⟨c0,c1,cl⟩:=id HL2.out;go_wp2_with fail
  refine(h3.out _ ((HR.out.below HA2.out ac).mono HA2.out.size)).mono ?_;rintro e w3⟨rfl,hb3⟩;go_wp2_with fail
  go_ret;exact⟨rfl,HA2.out.trans (hb3.mono HA2.out.size)⟩
 ·rw[if_pos rfl]
  rw[hs]at h2;clear hs;go_enter func212,ntmps212;go_wp2_with fail
  generalize ((w.alloc (.cells #[.slice ad n cap,.int .i64 K] 52)).alloc (.cells #[.int .i64 F,.int .i64 sz] 35))=W0 at HL HG HA c0 c1 cl d0 d1 dl⊢;refine(h1.out _).mono ?_;rintro e w1⟨rfl,hb1⟩;have HA1:=aa (HA.out.trans (hb1.mono HA.out.size));have HL1:=aa (HL.out.below hb1 cl);have HG1:=aa (HG.out.below hb1 dl);clear c0 c1 cl d0 d1 dl hb1;obtain⟨c0,c1,cl⟩:=id HL1.out;obtain⟨d0,d1,dl⟩:=id HG1.out;go_wp2_with fail
  refine(h2.out _ ((HR.out.below HA1.out ac).mono HA1.out.size)).mono ?_;rintro e w2⟨rfl,hb2⟩;have HG2:=aa (HG1.out.below hb2 dl);have HA2:=aa (HA1.out.trans (hb2.mono HA1.out.size));clear c0 c1 cl d0 d1 dl hb2;obtain⟨d0,d1,dl⟩:=id HG2.out;go_wp2_with fail
  go_ret;exact⟨rfl,HA2.out⟩
theorem ri(ad:Option Addr)(n cap:Nat)(K way:Int)(L:Nat->Nat->Bool)(t:ByteArray)(size:Int)(hn:(n:Int)<=1000)(hs:s6 way t.size size K L n=true)(w:World)(hR:fm w ad n L w.heap.size):
 Calls prog 44 #[.int .i64 way,lv ad n cap K,.string t,.int .i64 size] w fun e w'=>e=.returned (.int .i64 0)/\Below w.heap.size w w':=by
 have ha:rr way K L n=true:=by unfold s6 at hs;rw[ce]at hs;exact hs.1
 have h1:=aa fun w'(h:fm w' ad n L w'.heap.size)=>(show _ from ha▸abu way ad n cap K L hn w' h)
 have h2:=aa fun w'(h:fm w' ad n L w'.heap.size)=>(show _ from hs▸ac4 way ad n cap K L hn t.size size w' h)
 have hL:=fk.new w ad n cap K;have hA:Below w.heap.size w (w.alloc (.cells #[.slice ad n cap,.int .i64 K] 52)):=ae.alloc ac _;have hR1:=aa ((hR.below hA ac).mono hA.size);have hA:=aa hA;clear hR ha hs;go_enter func44,ntmps44;go_wp2_with fail
 generalize (w.alloc (.cells #[.slice ad n cap,.int .i64 K] 52))=W1 at hL hR1 hA⊢;refine(h1.out _ hR1.out).mono ?_;rintro e w1⟨rfl,hb1⟩;obtain⟨c0,c1,cl⟩:=id (hL.below hb1 hL.2.2);go_wp2_with fail
 refine(h2.out _ ((hR1.out.below hb1 ac).mono hb1.size)).mono ?_;rintro e w2⟨rfl,hb2⟩;have hb12:=hb1.trans (hb2.mono hb1.size);go_wp2_with fail
 go_ret;exact⟨rfl,hA.out.trans (hb12.mono hA.out.size)⟩
end
end Go.Proofs.YtjfkmoinldlmaaaGreat
