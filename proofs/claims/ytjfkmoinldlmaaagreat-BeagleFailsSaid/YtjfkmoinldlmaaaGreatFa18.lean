/- The walk of BeagleFails, part 18. Walks of zed.Leaf and of beagleref09.Leaf. -/
import Derived.Test.YtjfkmoinldlmaaaGreatFa15
import Derived.Test.YtjfkmoinldlmaaaGreatFa16
namespace Go.Proofs.YtjfkmoinldlmaaaGreat
open Go.Proofs.Tryz
section
set_option maxRecDepth 100000
set_option maxHeartbeats 4000000
open Go.RowKit Go.Shelf
def zok(L:Nat->Nat->Bool)(n:Nat)(K:Int):Bool:=jh L n&&(fv n L K&&decide (K=0))
def zl(L:Nat->Nat->Bool)(n:Nat)(K:Int)(t:ByteArray):List Int:=if zok L n K then zf (zj L n) t else[]
theorem txt_le(L:Nat->Nat->Bool)(n:Nat):(zj L n).size<=n:=by
 cases h:jh L n
 ·unfold zj;rw[h];exact cx _
 ·exact Nat.le_of_eq (aaj L n h)
theorem ak3(ad:Option Addr)(n cap:Nat)(K:Int)(L:Nat->Nat->Bool)(hn:(n:Int)<=1000)(t:ByteArray)(ht:t.size<=1000)(w:World)(hR:fm w ad n L w.heap.size):
 Calls prog 83 #[lv ad n cap K,.string t] w fun e w'=>∃v,e=.returned (.tuple #[v,.bool (zok L n K)])/\w'.ownsRow w.heap.size 3 1 v (zl L n K t).length (ga (zl L n K t))/\Below w.heap.size w w':=by
 have hl:=fk.new w ad n cap K;have HB:Below w.heap.size w (w.alloc (.cells #[.slice ad n cap,.int .i64 K] 52)):=ae.alloc ac _;have hR0:=(hR.below HB ac).mono HB.size;generalize hzo:zok L n K=zo;generalize hzz:zl L n K t=zz;go_enter func83,ntmps83;go_wp2_with fail
 refine(yx ad n cap K L (by omega) _ hR0).mono ?_;rintro e w1⟨rfl,hb1⟩;have hl1:=hl.below hb1 hl.2.2;have hR1:=(hR0.below hb1 ac).mono hb1.size;have HB1:=HB.trans (hb1.mono HB.size);clear hl HB hR0 hb1 hR;obtain⟨c0,c1,cl⟩:=hl1;have htx:=txt_le L n;cases hlet:jh L n
 ·obtain rfl:zo=false:=by rw[<-hzo];unfold zok;rw[hlet];rfl
  obtain rfl:zz=[]:=by rw[<-hzz];unfold zl;rw[hzo];rfl
  generalize zj L n=tx;clear hzo hzz hlet;go_wp2_with fail
  try rw[Exit.noGoto_ret]
  go_ret2
  exact⟨_,rfl,bj _ _ _ _,HB1⟩
 ·cases hri:fv n L K
  ·obtain rfl:zo=false:=by rw[<-hzo];unfold zok;rw[hri,hlet];rfl
   obtain rfl:zz=[]:=by rw[<-hzz];unfold zl;rw[hzo];rfl
   have HRI:=aa hri;generalize zj L n=tx at htx;clear hzo hzz hlet hri;go_wp2_with(go_at_call 134;refine(jn ad n cap K L (by omega) _ hR1).mono ?_;rw[HRI.out];rintro e w2⟨rfl,hb2⟩;have c1:w2.cell? ⟨w.heap.size,1,none⟩=some (.int .i64 K):=(hb2.cell (p:=⟨w.heap.size,1,none⟩) cl).trans c1)
   try rw[Exit.noGoto_ret]
   go_ret2
   exact⟨_,rfl,bj _ _ _ _,HB1.trans (hb2.mono HB1.size)⟩
  ·by_cases hk:K=0
   ·obtain rfl:zo=true:=by rw[<-hzo];unfold zok;rw[hri,hlet,cw hk];rfl
    obtain rfl:zz=zf (zj L n) t:=by rw[<-hzz];unfold zl;rw[hzo];rfl
    have HRI:=aa hri;generalize hte:zj L n=tx at htx;have HTX:=aa hte;clear hzo hzz hlet hri hte;subst hk;go_wp2_with(first|(go_at_call 134;refine(jn ad n cap 0 L (by omega) _ hR1).mono ?_;rw[HRI.out];rintro e w2⟨rfl,hb2⟩;have c1:w2.cell? ⟨w.heap.size,1,none⟩=some (.int .i64 0):=(hb2.cell (p:=⟨w.heap.size,1,none⟩) cl).trans c1)|(go_at_call 140;refine(ak4 tx t (by omega) (by omega) _).mono ?_;rintro e w3⟨v3,rfl,ho3,hb3⟩))
    go_ret2
    rw[HTX.out];exact⟨_,rfl,fx ho3 (ba HB1.size hb2.size),(HB1.trans (hb2.mono HB1.size)).trans (hb3.mono (ba HB1.size hb2.size))⟩
   ·obtain rfl:zo=false:=by rw[<-hzo];unfold zok;rw[hri,hlet,bv hk];rfl
    obtain rfl:zz=[]:=by rw[<-hzz];unfold zl;rw[hzo];rfl
    have HRI:=aa hri;generalize zj L n=tx at htx;clear hzo hzz hlet hri;go_wp2_with(go_at_call 134;refine(jn ad n cap K L (by omega) _ hR1).mono ?_;rw[HRI.out];rintro e w2⟨rfl,hb2⟩;have c1:w2.cell? ⟨w.heap.size,1,none⟩=some (.int .i64 K):=(hb2.cell (p:=⟨w.heap.size,1,none⟩) cl).trans c1)
    try rw[Exit.noGoto_ret]
    go_ret2
    exact⟨_,rfl,bj _ _ _ _,HB1.trans (hb2.mono HB1.size)⟩
end
end Go.Proofs.YtjfkmoinldlmaaaGreat
