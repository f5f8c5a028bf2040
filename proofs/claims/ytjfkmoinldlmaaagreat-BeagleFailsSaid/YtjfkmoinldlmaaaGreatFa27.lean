/- The walk of BeagleFails, part 27. Walks of the ways of match, of match.Find and of eval.Leaf. Walks of eval.Leaf and of feed. Whole blocks; walks of feed.New and feed.Read. -/
import Derived.Test.YtjfkmoinldlmaaaGreatFa26
import Derived.Test.YtjfkmoinldlmaaaGreatFa18
namespace Go.Proofs.YtjfkmoinldlmaaaGreat
open Go.Proofs.Tryz
section
set_option maxRecDepth 100000
set_option maxHeartbeats 4000000
open Go.RowKit Go.Shelf
theorem aqz(t:ByteArray)(L:Nat->Nat->Bool)(i n:Nat):ky t L i n=0↔∀j,j<n->L j (tb t (i+j))=true:=by
 induction n with
 |zero=>simp[ky]
 |succ n ih=>
  simp only[ky];constructor
  ·intro h j hj
   have h1:ky t L i n=0:=by omega
   by_cases hjn:j<n
   ·exact ih.1 h1 j hjn
   ·obtain rfl:j=n:=by omega
    cases hL:L j (tb t (i+j))
    ·rw[hL]at h;simp at h
    ·rfl
  ·intro h
   rw[ih.2 (fun j hj=>h j (by omega)),h n (by omega)];rfl
theorem tb_lt(s:ByteArray)(j:Nat):tb s j<256:=by
 unfold tb;cases h:s.data.toList[j]? with
 |none=>simp
 |some x=>simpa using x.toNat_lt
theorem aa8(L:Nat->Nat->Bool)(n:Nat)(h:jh L n=true)(j:Nat)(hj:j<n)(m:Nat)(hm:m<256):L j m=true↔tb (zj L n) j=m:=by
 have hs:=aaj L n h;have ha:=(jp _ _).1 ((aku _ _ _).1 (aov L n h) j hj) m hm;rw[<-ha];unfold ke tb;rw[bs (by simpa[hs]using hj)];simp
theorem zf_find(L:Nat->Nat->Bool)(n:Nat)(t:ByteArray)(h:jh L n=true)(hr:fv n L 0=true):zf (zj L n) t=abg t n L 0:=by
 have hs:=aaj L n h;have hn:1<=n:=by unfold fv at hr;simp at hr;omega
 have hm:many t n L 0 0=t.size+1-n:=by unfold many;rw[hr];simp
 rw[aej,hm];unfold zf;rw[if_neg (by omega),ak5 (zj L n) t (t.size+1-n) t.size ac (by omega) (by omega)];have key:∀k,k<=t.size+1-n->ru (zj L n) t k=qz t n L 0 (kh 0 k):=by
  intro k;induction k with
  |zero=>intro _;simp[ru,qz,kh]
  |succ k ih=>
   intro hk;rw[n9,xe,dg,<-ih (by omega)];simp only[ru];have e:lc (zj L n) t k=(zj L n).size↔((ky t L k n:Nat):Int)<=0:=by
    have e2:((ky t L k n:Nat):Int)<=0↔ky t L k n=0:=by omega
    rw[e2,aqz,hs];constructor
    ·intro hl j hj
     have:=((js _ _ _ _).1 ((np (zj L n) t k).1 j (by omega))).2.2;exact(aa8 L n h j hj _ (tb_lt _ _)).2 this
    ·intro ha
     refine lc_eq (fun j hj=>(js _ _ _ _).2 ⟨by omega,by omega,(aa8 L n h j hj _ (tb_lt _ _)).1 (ha j hj)⟩) ?_;rw[Bool.eq_false_iff];intro hg;have:=(js _ _ _ _).1 hg;omega
   by_cases hc:lc (zj L n) t k=(zj L n).size
   ·rw[if_pos hc,if_pos (e.1 hc)]
   ·rw[if_neg hc,if_neg (fun x=>hc (e.2 x))]
 exact key _ ac
def p4(t:ByteArray)(n:Nat)(L:Nat->Nat->Bool)(K:Int):List Int:=qz t n L K (kh 0 (many t n L K 0))
theorem frq_len(L:Nat->Nat->Bool)(n:Nat):((fa L n).filter (lz L n 3)).length=frq L n:=by
 unfold frq;have h:∀(l:List (Nat->Bool))(k:Nat),k<=l.length->((l.take k).filter (lz L n 3)).length=prF (fun j=>(im (gc l j) L n).length) k:=by
  intro l k;induction k with
  |zero=>intro _;rfl
  |succ k ih=>
   intro hk;have hg:gc l k=l[k]:=by simp[gc,show k<l.length by omega]
   rw[da (by omega),List.filter_append,bd,ih (by omega)];simp only[prF];congr 1;rw[<-hg];unfold lz;by_cases hd:3<=(im (gc l k) L n).length
   ·rw[if_pos hd]
    have:decide ((3:Int)<=((im (gc l k) L n).length:Int))=true:=cw (by omega);simp[this]
   ·rw[if_neg hd]
    have:decide ((3:Int)<=((im (gc l k) L n).length:Int))=false:=bv (by omega);simp[this]
 have:=h (fa L n) (fa L n).length ac;rw[dr]at this;exact this
theorem ly{way nn size K:Int}{L:Nat->Nat->Bool}{n:Nat}(h:s6 way nn size K L n=true):(1<=n/\n<=64)/\(1<=way/\way<=5)/\fv n L K=true/\rr way K L n=true/\(frB way L n=true\/nn<n\/vn n size=true):=by
 unfold s6 at h;rw[ce,Bool.or_eq_true,Bool.or_eq_true,cg]at h;obtain⟨h1,h2,h3⟩:=akv h.1;refine⟨h1,⟨h2,h3⟩,?_,h.1,h.2⟩;cases hr:fv n L K with
 |true=>rfl
 |false=>rw[aji hr]at h;cases h.1
theorem ahd(ad:Option Addr)(n cap:Nat)(K:Int)(L:Nat->Nat->Bool)(t:ByteArray)(size:Int)(hn1:1<=n)(hn:n<=64)(ht:t.size<=1000)(_:s6 1 t.size size K L n=true)(w:World)(hR:fm w ad n L w.heap.size):
 Calls prog 78 #[lv ad n cap K,.string t,.int .i64 size] w fun e w'=>∃v z,e=.returned (.tuple #[v,.int .i64 z,.int .i64 0])/\w'.ownsRow w.heap.size 3 1 v (p4 t n L K).length (ga (p4 t n L K))/\Below w.heap.size w w':=by
 have h1:=aa fun w'(h:fm w' ad n L w'.heap.size)=>ary ad n cap K L (by omega) t ht w' h
 have hA:Below w.heap.size w (w.alloc (.cells #[.slice ad n cap,.int .i64 K] 52)):=ae.alloc ac _;have HR1:=aa ((hR.below hA ac).mono hA.size);have HA:=aa hA;clear hA hR;have HO:Hid (∀w':World,p4 t n L K=qz t n L K (kh 0 (many t n L K 0))):=aa fun _=>rfl
 go_enter func78,ntmps78;go_wp2_with fail
 refine(h1.out _ HR1.out).mono ?_;rintro e w1⟨v,rfl,ho,hb1⟩;have hzz:=HA.out.size;go_wp2_with fail
 refine ay (results_tmp3 rfl _ _ _) rfl ?_;exact⟨v,0,rfl,fx ho hzz,HA.out.trans (hb1.mono hzz)⟩
theorem ahc(ad:Option Addr)(n cap:Nat)(K:Int)(L:Nat->Nat->Bool)(t:ByteArray)(size:Int)(hn1:1<=n)(hn:n<=64)(ht:t.size<=1000)(hs:s6 2 t.size size K L n=true)(w:World)(hR:fm w ad n L w.heap.size):
 Calls prog 82 #[lv ad n cap K,.string t,.int .i64 size] w fun e w'=>∃v z,e=.returned (.tuple #[v,.int .i64 z,.int .i64 0])/\w'.ownsRow w.heap.size 3 1 v (p4 t n L K).length (ga (p4 t n L K))/\Below w.heap.size w w':=by
 obtain⟨-,-,hr,ha,-⟩:=ly hs;rw[adm_2 hr,ce,cg]at ha;obtain⟨hlet,rfl⟩:=ha;have hzl:zl L n 0 t=p4 t n L 0:=by
  unfold zl zok;rw[hlet,hr];show(if(true&&(true&&decide ((0:Int)=0)))=true then _ else _)=_;rw[if_pos (by decide),zf_find L n t hlet hr,aej];rfl
 have h1:=aa fun w'(h:fm w' ad n L w'.heap.size)=>(show _ from hzl▸ak3 ad n cap 0 L (by omega) t ht w' h)
 have hA:Below w.heap.size w (w.alloc (.cells #[.slice ad n cap,.int .i64 0] 52)):=ae.alloc ac _;have HR1:=aa ((hR.below hA ac).mono hA.size);have HA:=aa hA;clear hA hR hs;clear hzl hlet hr;generalize p4 t n L 0=oc at *;go_enter func82,ntmps82;go_wp2_with fail
 refine(h1.out _ HR1.out).mono ?_;rintro e w1⟨v,rfl,ho,hb1⟩;have hzz:=HA.out.size;go_wp2_with fail
 refine ay (results_tmp3 rfl _ _ _) rfl ?_;exact⟨v,0,rfl,fx ho hzz,HA.out.trans (hb1.mono hzz)⟩
theorem ahb(ad:Option Addr)(n cap:Nat)(K:Int)(L:Nat->Nat->Bool)(t:ByteArray)(size:Int)(hn1:1<=n)(hn:n<=64)(ht:t.size<=1000)(hs:s6 3 t.size size K L n=true)(w:World)(hR:fm w ad n L w.heap.size):
 Calls prog 84 #[lv ad n cap K,.string t,.int .i64 size] w fun e w'=>∃v z,e=.returned (.tuple #[v,.int .i64 z,.int .i64 0])/\w'.ownsRow w.heap.size 3 1 v (p4 t n L K).length (ga (p4 t n L K))/\Below w.heap.size w w':=by
 obtain⟨-,-,hr,ha,hz⟩:=ly hs;rw[adm_3 hr,ce,cg]at ha;obtain⟨hpl,rfl⟩:=ha;have hz2:t.size<n\/vn n size=true:=by
  rcases hz with h|h|h
  ·unfold frB at h;simp at h
  ·exact .inl (by omega)
  ·exact .inr h
 exact ak9 ad n cap L t size hn1 hn ht hr hpl hz2 w hR
theorem aha(ad:Option Addr)(n cap:Nat)(K:Int)(L:Nat->Nat->Bool)(t:ByteArray)(size:Int)(hn1:1<=n)(hn:n<=64)(ht:t.size<=1000)(hs:s6 4 t.size size K L n=true)(w:World)(hR:fm w ad n L w.heap.size):
 Calls prog 85 #[lv ad n cap K,.string t,.int .i64 size] w fun e w'=>∃v z,e=.returned (.tuple #[v,.int .i64 z,.int .i64 0])/\w'.ownsRow w.heap.size 3 1 v (p4 t n L K).length (ga (p4 t n L K))/\Below w.heap.size w w':=by
 obtain⟨-,-,hr,-,hz⟩:=ly hs;have hz2:t.size<n\/vn n size=true:=by
  rcases hz with h|h|h
  ·unfold frB at h;simp at h
  ·exact .inl (by omega)
  ·exact .inr h
 exact alq ad n cap K L t size hn1 hn ht hr hz2 w hR
theorem ag9(ad:Option Addr)(n cap:Nat)(K:Int)(L:Nat->Nat->Bool)(t:ByteArray)(size:Int)(hn1:1<=n)(hn:n<=64)(ht:t.size<=1000)(hs:s6 5 t.size size K L n=true)(w:World)(hR:fm w ad n L w.heap.size):
 Calls prog 87 #[lv ad n cap K,.string t,.int .i64 size] w fun e w'=>∃v z,e=.returned (.tuple #[v,.int .i64 z,.int .i64 0])/\w'.ownsRow w.heap.size 3 1 v (p4 t n L K).length (ga (p4 t n L K))/\Below w.heap.size w w':=by
 obtain⟨-,-,hr,ha,hz⟩:=ly hs;rw[adm_5 hr]at ha;have hz2:((fa L n).filter (lz L n 3)).length=0\/t.size<n\/vn n size=true:=by
  rw[frq_len];rcases hz with h|h|h
  ·unfold frB at h;simp at h;exact .inl h
  ·exact .inr (.inl (by omega))
  ·exact .inr (.inr h)
 have h1:=aa fun w'(h:fm w' ad n L w'.heap.size)=>amo ad n cap K 3 L t size hn1 hn ht hr ha hz2 w' h
 have hA:Below w.heap.size w (w.alloc (.cells #[.slice ad n cap,.int .i64 K] 52)):=ae.alloc ac _;have HR1:=aa ((hR.below hA ac).mono hA.size);have HA:=aa hA;clear hA hR hs;have hO:p4 t n L K=qz t n L K (kh 0 (many t n L K 0)):=rfl;rw[<-hO]at h1;clear hO hr ha hz hz2;generalize p4 t n L K=oc at *;go_enter func87,ntmps87;go_wp2_with fail
 refine(h1.out _ HR1.out).mono ?_;rintro e w1⟨v,z,rfl,ho,hb1⟩;have hzz:=HA.out.size;go_wp2_with fail
 refine ay (results_tmp3 rfl _ _ _) rfl ?_;exact⟨v,z,rfl,fx ho hzz,HA.out.trans (hb1.mono hzz)⟩
theorem rj(x y:Value)(w:World):(Instr.field 105 (.agg #[x,y]) 0).run prog w=.ok x w:=by kernel_rfl
theorem ale(w:World):Calls prog 45 #[.int .i64 1] w fun e w'=>e=.returned (.agg #[.func (.func 78) #[] #[],.func (.func 80) #[] #[]])/\Below w.heap.size w w':=by
 go_enter func45,ntmps45;go_wp2;exact ay (v:=.agg #[.func (.func 78) #[] #[],.func (.func 80) #[] #[]]) (by simp[results,results45,go_sem]) rfl ⟨rfl,ae.alloc ac _⟩
theorem ald(w:World):Calls prog 45 #[.int .i64 2] w fun e w'=>e=.returned (.agg #[.func (.func 82) #[] #[],.nilFunc])/\Below w.heap.size w w':=by
 go_enter func45,ntmps45;go_wp2;exact ay (v:=.agg #[.func (.func 82) #[] #[],.nilFunc]) (by simp[results,results45,go_sem]) rfl ⟨rfl,ae.alloc ac _⟩
theorem alc(w:World):Calls prog 45 #[.int .i64 3] w fun e w'=>e=.returned (.agg #[.func (.func 84) #[] #[],.nilFunc])/\Below w.heap.size w w':=by
 go_enter func45,ntmps45;go_wp2;exact ay (v:=.agg #[.func (.func 84) #[] #[],.nilFunc]) (by simp[results,results45,go_sem]) rfl ⟨rfl,ae.alloc ac _⟩
theorem alb(w:World):Calls prog 45 #[.int .i64 4] w fun e w'=>e=.returned (.agg #[.func (.func 85) #[] #[],.func (.func 86) #[] #[]])/\Below w.heap.size w w':=by
 go_enter func45,ntmps45;go_wp2;exact ay (v:=.agg #[.func (.func 85) #[] #[],.func (.func 86) #[] #[]]) (by simp[results,results45,go_sem]) rfl ⟨rfl,ae.alloc ac _⟩
theorem ala(w:World):Calls prog 45 #[.int .i64 5] w fun e w'=>e=.returned (.agg #[.func (.func 87) #[] #[],.func (.func 89) #[] #[]])/\Below w.heap.size w w':=by
 go_enter func45,ntmps45;go_wp2;exact ay (v:=.agg #[.func (.func 87) #[] #[],.func (.func 89) #[] #[]]) (by simp[results,results45,go_sem]) rfl ⟨rfl,ae.alloc ac _⟩
theorem aik(ad:Option Addr)(n cap:Nat)(K:Int)(L:Nat->Nat->Bool)(t:ByteArray)(size:Int)(ht:t.size<=1000)(hs:s6 1 t.size size K L n=true)(w:World)(hR:fm w ad n L w.heap.size):
 Calls prog 19 #[.int .i64 1,lv ad n cap K,.string t,.int .i64 size] w fun e w'=>∃v z,e=.returned (.tuple #[v,.int .i64 z,.int .i64 0])/\w'.ownsRow w.heap.size 3 1 v (p4 t n L K).length (ga (p4 t n L K))/\Below w.heap.size w w':=by
 obtain⟨⟨hn1,hn⟩,-⟩:=ly hs;have h1:=aa fun w'(h:fm w' ad n L w'.heap.size)=>ri ad n cap K 1 L t size (by omega) hs w' h
 have h2:=aa ale;have h3:=aa fun w'(h:fm w' ad n L w'.heap.size)=>ahd ad n cap K L t size hn1 hn ht hs w' h
 have hfw:=rj;generalize p4 t n L K=oc at *;have hL:=fk.new w ad n cap K;have hA:Below w.heap.size w (w.alloc (.cells #[.slice ad n cap,.int .i64 K] 52)):=ae.alloc ac _;have HR:=aa hR;have HL:=aa hL;have HA:=aa hA;clear hR hs hA hL;go_enter func19,ntmps19;go_wp2_with fail
 generalize (w.alloc (.cells #[.slice ad n cap,.int .i64 K] 52))=W1 at HL HA⊢;refine(h1.out _ ((HR.out.below HA.out ac).mono HA.out.size)).mono ?_;rintro e w1⟨rfl,hb1⟩;have HA1:=aa (HA.out.trans (hb1.mono HA.out.size));have HL1:=aa (HL.out.below hb1 HL.out.2.2);clear hb1 HL HA;obtain⟨c0,c1,cl⟩:=id HL1.out;have HR1:=aa ((HR.out.below HA1.out ac).mono HA1.out.size);go_wp2_with fail
 go_region_held3 (fun w'=>fo w1 w') (first|with_reducible exact fo.start _|with_reducible exact fo.calld (fo.refl _) (by with_reducible assumption)|with_reducible exact fo.call (by with_reducible assumption) (by with_reducible assumption)) (first|(go_at_call 45;(with_reducible refine(h2.out _).mono ?_);rintro e w2⟨rfl,hb2⟩)|(go_at_call 78;refine(h3.out _ ((HR1.out.below (show fo w1 _ by with_reducible assumption).2.2.2 ac).mono (show fo w1 _ by with_reducible assumption).2.2.1)).mono ?_;rintro e w3⟨v3,z3,rfl,ho3,hb3⟩))
 have hO:Below w1.heap.size w1 w3:=(show fo w1 w3 by with_reducible assumption).2.2.2;have hzz:w.heap.size<=w2.heap.size:=ba HA1.out.size (by have:=hb2.size;simpa using this);go_wp2_with fail
 refine ay (results_tmp3 rfl _ _ _) rfl ?_;exact⟨v3,z3,rfl,fx ho3 hzz,HA1.out.trans (hO.mono HA1.out.size)⟩
theorem aij(ad:Option Addr)(n cap:Nat)(K:Int)(L:Nat->Nat->Bool)(t:ByteArray)(size:Int)(ht:t.size<=1000)(hs:s6 2 t.size size K L n=true)(w:World)(hR:fm w ad n L w.heap.size):
 Calls prog 19 #[.int .i64 2,lv ad n cap K,.string t,.int .i64 size] w fun e w'=>∃v z,e=.returned (.tuple #[v,.int .i64 z,.int .i64 0])/\w'.ownsRow w.heap.size 3 1 v (p4 t n L K).length (ga (p4 t n L K))/\Below w.heap.size w w':=by
 obtain⟨⟨hn1,hn⟩,-⟩:=ly hs;have h1:=aa fun w'(h:fm w' ad n L w'.heap.size)=>ri ad n cap K 2 L t size (by omega) hs w' h
 have h2:=aa ald;have h3:=aa fun w'(h:fm w' ad n L w'.heap.size)=>ahc ad n cap K L t size hn1 hn ht hs w' h
 have hfw:=rj;generalize p4 t n L K=oc at *;have hL:=fk.new w ad n cap K;have hA:Below w.heap.size w (w.alloc (.cells #[.slice ad n cap,.int .i64 K] 52)):=ae.alloc ac _;have HR:=aa hR;have HL:=aa hL;have HA:=aa hA;clear hR hs hA hL;go_enter func19,ntmps19;go_wp2_with fail
 generalize (w.alloc (.cells #[.slice ad n cap,.int .i64 K] 52))=W1 at HL HA⊢;refine(h1.out _ ((HR.out.below HA.out ac).mono HA.out.size)).mono ?_;rintro e w1⟨rfl,hb1⟩;have HA1:=aa (HA.out.trans (hb1.mono HA.out.size));have HL1:=aa (HL.out.below hb1 HL.out.2.2);clear hb1 HL HA;obtain⟨c0,c1,cl⟩:=id HL1.out;have HR1:=aa ((HR.out.below HA1.out ac).mono HA1.out.size);go_wp2_with fail
 go_region_held3 (fun w'=>fo w1 w') (first|with_reducible exact fo.start _|with_reducible exact fo.calld (fo.refl _) (by with_reducible assumption)|with_reducible exact fo.call (by with_reducible assumption) (by with_reducible assumption)) (first|(go_at_call 45;(with_reducible refine(h2.out _).mono ?_);rintro e w2⟨rfl,hb2⟩)|(go_at_call 82;refine(h3.out _ ((HR1.out.below (show fo w1 _ by with_reducible assumption).2.2.2 ac).mono (show fo w1 _ by with_reducible assumption).2.2.1)).mono ?_;rintro e w3⟨v3,z3,rfl,ho3,hb3⟩))
 have hO:Below w1.heap.size w1 w3:=(show fo w1 w3 by with_reducible assumption).2.2.2;have hzz:w.heap.size<=w2.heap.size:=ba HA1.out.size (by have:=hb2.size;simpa using this);go_wp2_with fail
 refine ay (results_tmp3 rfl _ _ _) rfl ?_;exact⟨v3,z3,rfl,fx ho3 hzz,HA1.out.trans (hO.mono HA1.out.size)⟩
theorem aii(ad:Option Addr)(n cap:Nat)(K:Int)(L:Nat->Nat->Bool)(t:ByteArray)(size:Int)(ht:t.size<=1000)(hs:s6 3 t.size size K L n=true)(w:World)(hR:fm w ad n L w.heap.size):
 Calls prog 19 #[.int .i64 3,lv ad n cap K,.string t,.int .i64 size] w fun e w'=>∃v z,e=.returned (.tuple #[v,.int .i64 z,.int .i64 0])/\w'.ownsRow w.heap.size 3 1 v (p4 t n L K).length (ga (p4 t n L K))/\Below w.heap.size w w':=by
 obtain⟨⟨hn1,hn⟩,-⟩:=ly hs;have h1:=aa fun w'(h:fm w' ad n L w'.heap.size)=>ri ad n cap K 3 L t size (by omega) hs w' h
 have h2:=aa alc;have h3:=aa fun w'(h:fm w' ad n L w'.heap.size)=>ahb ad n cap K L t size hn1 hn ht hs w' h
 have hfw:=rj;generalize p4 t n L K=oc at *;have hL:=fk.new w ad n cap K;have hA:Below w.heap.size w (w.alloc (.cells #[.slice ad n cap,.int .i64 K] 52)):=ae.alloc ac _;have HR:=aa hR;have HL:=aa hL;have HA:=aa hA;clear hR hs hA hL;go_enter func19,ntmps19;go_wp2_with fail
 generalize (w.alloc (.cells #[.slice ad n cap,.int .i64 K] 52))=W1 at HL HA⊢;refine(h1.out _ ((HR.out.below HA.out ac).mono HA.out.size)).mono ?_;rintro e w1⟨rfl,hb1⟩;have HA1:=aa (HA.out.trans (hb1.mono HA.out.size));have HL1:=aa (HL.out.below hb1 HL.out.2.2);clear hb1 HL HA;obtain⟨c0,c1,cl⟩:=id HL1.out;have HR1:=aa ((HR.out.below HA1.out ac).mono HA1.out.size);go_wp2_with fail
 go_region_held3 (fun w'=>fo w1 w') (first|with_reducible exact fo.start _|with_reducible exact fo.calld (fo.refl _) (by with_reducible assumption)|with_reducible exact fo.call (by with_reducible assumption) (by with_reducible assumption)) (first|(go_at_call 45;(with_reducible refine(h2.out _).mono ?_);rintro e w2⟨rfl,hb2⟩)|(go_at_call 84;refine(h3.out _ ((HR1.out.below (show fo w1 _ by with_reducible assumption).2.2.2 ac).mono (show fo w1 _ by with_reducible assumption).2.2.1)).mono ?_;rintro e w3⟨v3,z3,rfl,ho3,hb3⟩))
 have hO:Below w1.heap.size w1 w3:=(show fo w1 w3 by with_reducible assumption).2.2.2;have hzz:w.heap.size<=w2.heap.size:=ba HA1.out.size (by have:=hb2.size;simpa using this);go_wp2_with fail
 refine ay (results_tmp3 rfl _ _ _) rfl ?_;exact⟨v3,z3,rfl,fx ho3 hzz,HA1.out.trans (hO.mono HA1.out.size)⟩
theorem aih(ad:Option Addr)(n cap:Nat)(K:Int)(L:Nat->Nat->Bool)(t:ByteArray)(size:Int)(ht:t.size<=1000)(hs:s6 4 t.size size K L n=true)(w:World)(hR:fm w ad n L w.heap.size):
 Calls prog 19 #[.int .i64 4,lv ad n cap K,.string t,.int .i64 size] w fun e w'=>∃v z,e=.returned (.tuple #[v,.int .i64 z,.int .i64 0])/\w'.ownsRow w.heap.size 3 1 v (p4 t n L K).length (ga (p4 t n L K))/\Below w.heap.size w w':=by
 obtain⟨⟨hn1,hn⟩,-⟩:=ly hs;have h1:=aa fun w'(h:fm w' ad n L w'.heap.size)=>ri ad n cap K 4 L t size (by omega) hs w' h
 have h2:=aa alb;have h3:=aa fun w'(h:fm w' ad n L w'.heap.size)=>aha ad n cap K L t size hn1 hn ht hs w' h
 have hfw:=rj;generalize p4 t n L K=oc at *;have hL:=fk.new w ad n cap K;have hA:Below w.heap.size w (w.alloc (.cells #[.slice ad n cap,.int .i64 K] 52)):=ae.alloc ac _;have HR:=aa hR;have HL:=aa hL;have HA:=aa hA;clear hR hs hA hL;go_enter func19,ntmps19;go_wp2_with fail
 generalize (w.alloc (.cells #[.slice ad n cap,.int .i64 K] 52))=W1 at HL HA⊢;refine(h1.out _ ((HR.out.below HA.out ac).mono HA.out.size)).mono ?_;rintro e w1⟨rfl,hb1⟩;have HA1:=aa (HA.out.trans (hb1.mono HA.out.size));have HL1:=aa (HL.out.below hb1 HL.out.2.2);clear hb1 HL HA;obtain⟨c0,c1,cl⟩:=id HL1.out;have HR1:=aa ((HR.out.below HA1.out ac).mono HA1.out.size);go_wp2_with fail
 go_region_held3 (fun w'=>fo w1 w') (first|with_reducible exact fo.start _|with_reducible exact fo.calld (fo.refl _) (by with_reducible assumption)|with_reducible exact fo.call (by with_reducible assumption) (by with_reducible assumption)) (first|(go_at_call 45;(with_reducible refine(h2.out _).mono ?_);rintro e w2⟨rfl,hb2⟩)|(go_at_call 85;refine(h3.out _ ((HR1.out.below (show fo w1 _ by with_reducible assumption).2.2.2 ac).mono (show fo w1 _ by with_reducible assumption).2.2.1)).mono ?_;rintro e w3⟨v3,z3,rfl,ho3,hb3⟩))
 have hO:Below w1.heap.size w1 w3:=(show fo w1 w3 by with_reducible assumption).2.2.2;have hzz:w.heap.size<=w2.heap.size:=ba HA1.out.size (by have:=hb2.size;simpa using this);go_wp2_with fail
 refine ay (results_tmp3 rfl _ _ _) rfl ?_;exact⟨v3,z3,rfl,fx ho3 hzz,HA1.out.trans (hO.mono HA1.out.size)⟩
theorem aig(ad:Option Addr)(n cap:Nat)(K:Int)(L:Nat->Nat->Bool)(t:ByteArray)(size:Int)(ht:t.size<=1000)(hs:s6 5 t.size size K L n=true)(w:World)(hR:fm w ad n L w.heap.size):
 Calls prog 19 #[.int .i64 5,lv ad n cap K,.string t,.int .i64 size] w fun e w'=>∃v z,e=.returned (.tuple #[v,.int .i64 z,.int .i64 0])/\w'.ownsRow w.heap.size 3 1 v (p4 t n L K).length (ga (p4 t n L K))/\Below w.heap.size w w':=by
 obtain⟨⟨hn1,hn⟩,-⟩:=ly hs;have h1:=aa fun w'(h:fm w' ad n L w'.heap.size)=>ri ad n cap K 5 L t size (by omega) hs w' h
 have h2:=aa ala;have h3:=aa fun w'(h:fm w' ad n L w'.heap.size)=>ag9 ad n cap K L t size hn1 hn ht hs w' h
 have hfw:=rj;generalize p4 t n L K=oc at *;have hL:=fk.new w ad n cap K;have hA:Below w.heap.size w (w.alloc (.cells #[.slice ad n cap,.int .i64 K] 52)):=ae.alloc ac _;have HR:=aa hR;have HL:=aa hL;have HA:=aa hA;clear hR hs hA hL;go_enter func19,ntmps19;go_wp2_with fail
 generalize (w.alloc (.cells #[.slice ad n cap,.int .i64 K] 52))=W1 at HL HA⊢;refine(h1.out _ ((HR.out.below HA.out ac).mono HA.out.size)).mono ?_;rintro e w1⟨rfl,hb1⟩;have HA1:=aa (HA.out.trans (hb1.mono HA.out.size));have HL1:=aa (HL.out.below hb1 HL.out.2.2);clear hb1 HL HA;obtain⟨c0,c1,cl⟩:=id HL1.out;have HR1:=aa ((HR.out.below HA1.out ac).mono HA1.out.size);go_wp2_with fail
 go_region_held3 (fun w'=>fo w1 w') (first|with_reducible exact fo.start _|with_reducible exact fo.calld (fo.refl _) (by with_reducible assumption)|with_reducible exact fo.call (by with_reducible assumption) (by with_reducible assumption)) (first|(go_at_call 45;(with_reducible refine(h2.out _).mono ?_);rintro e w2⟨rfl,hb2⟩)|(go_at_call 87;refine(h3.out _ ((HR1.out.below (show fo w1 _ by with_reducible assumption).2.2.2 ac).mono (show fo w1 _ by with_reducible assumption).2.2.1)).mono ?_;rintro e w3⟨v3,z3,rfl,ho3,hb3⟩))
 have hO:Below w1.heap.size w1 w3:=(show fo w1 w3 by with_reducible assumption).2.2.2;have hzz:w.heap.size<=w2.heap.size:=ba HA1.out.size (by have:=hb2.size;simpa using this);go_wp2_with fail
 refine ay (results_tmp3 rfl _ _ _) rfl ?_;exact⟨v3,z3,rfl,fx ho3 hzz,HA1.out.trans (hO.mono HA1.out.size)⟩
theorem acm(way:Int)(ad:Option Addr)(n cap:Nat)(K:Int)(L:Nat->Nat->Bool)(t:ByteArray)(size:Int)(ht:t.size<=1000)(hs:s6 way t.size size K L n=true)(w:World)(hR:fm w ad n L w.heap.size):
 Calls prog 19 #[.int .i64 way,lv ad n cap K,.string t,.int .i64 size] w fun e w'=>∃v z,e=.returned (.tuple #[v,.int .i64 z,.int .i64 0])/\w'.ownsRow w.heap.size 3 1 v (p4 t n L K).length (ga (p4 t n L K))/\Below w.heap.size w w':=by
 obtain⟨-,hw,-⟩:=ly hs;have:way=1\/way=2\/way=3\/way=4\/way=5:=by omega
 rcases this with rfl|rfl|rfl|rfl|rfl
 ·exact aik ad n cap K L t size ht hs w hR
 ·exact aij ad n cap K L t size ht hs w hR
 ·exact aii ad n cap K L t size ht hs w hR
 ·exact aih ad n cap K L t size ht hs w hR
 ·exact aig ad n cap K L t size ht hs w hR
theorem alf(F sz nn K:Int)(L:Nat->Nat->Bool)(n:Nat)(hr:fv n L K=true):s6 (wayV F sz nn K L n) nn (szV n nn sz) K L n=true:=by
 unfold wayV;by_cases h:s6 F nn (szV n nn sz) K L n=true
 ·rw[if_pos h];exact h
 ·rw[if_neg h]
  refine aje fun h0=>?_
  have:=ajf nn (szV n nn sz) K L n;rw[hr,h0]at this;simp at this
end
section
set_option maxRecDepth 100000
set_option maxHeartbeats 4000000
open Go.RowKit Go.Shelf
theorem leaf_ev(ad:Option Addr)(n cap:Nat)(K F sz:Int)(L:Nat->Nat->Bool)(t:ByteArray)(hn:(n:Int)<=1000)(ht:t.size<=1000)(hr:fv n L K=true)(w:World)(hR:fm w ad n L w.heap.size):
 Calls prog 163 #[lv ad n cap K,.string t,.agg #[.int .i64 F,.int .i64 sz]] w fun e w'=>∃v z,e=.returned (.tuple #[v,.int .i64 z,.int .i64 0])/\w'.ownsRow w.heap.size 3 1 v (p4 t n L K).length (ga (p4 t n L K))/\Below w.heap.size w w':=by
 have h1:=aa fun w'(h:fm w' ad n L w'.heap.size)=>way_any ad n cap K (t.size:Int) F sz L hn (by omega) w' h
 have h2:=aa fun w'=>ae4 ad n cap K (t.size:Int) F sz hn (by omega) w'
 have hs:=alf F sz (t.size:Int) K L n hr;have h3:=aa fun w'(h:fm w' ad n L w'.heap.size)=>acm (wayV F sz (t.size:Int) K L n) ad n cap K L t (szV n (t.size:Int) sz) ht hs w' h
 clear hs;generalize wayV F sz (t.size:Int) K L n=way at *;generalize szV n (t.size:Int) sz=size at *;generalize p4 t n L K=oc at *;have hL:=fk.new w ad n cap K;have hG:=wj.new (w.alloc (.cells #[.slice ad n cap,.int .i64 K] 52)) F sz;have hA1:=(aw (w.heap.size+1) (w.alloc (.cells #[.slice ad n cap,.int .i64 K] 52))).alloc (by simp) (.cells #[.int .i64 F,.int .i64 sz] 35);have hL2:=hL.below hA1 (Nat.lt_succ_self _);have hA:Below w.heap.size w ((w.alloc (.cells #[.slice ad n cap,.int .i64 K] 52)).alloc (.cells #[.int .i64 F,.int .i64 sz] 35)):=(ae.alloc ac _).alloc (by simp) _;rw[bg]at hG;obtain⟨c0,c1,cl⟩:=hL2;obtain⟨d0,d1,dl⟩:=hG;have HR:=aa ((hR.below hA ac).mono hA.size);have HA:=aa hA;clear hR hL hA1 hA;go_enter func163,ntmps163;go_wp2_with fail
 generalize ((w.alloc (.cells #[.slice ad n cap,.int .i64 K] 52)).alloc (.cells #[.int .i64 F,.int .i64 sz] 35))=W0 at HR HA c0 c1 cl d0 d1 dl⊢;go_region_held3 (fun w'=>fo W0 w') (first|with_reducible exact fo.start _|with_reducible exact fo.calld (fo.refl _) (by with_reducible assumption)|with_reducible exact fo.call (by with_reducible assumption) (by with_reducible assumption)) (first|(go_at_call 212;refine(h1.out _ ((HR.out.below (show fo W0 _ by with_reducible assumption).2.2.2 ac).mono (show fo W0 _ by with_reducible assumption).2.2.1)).mono ?_;rintro e w1⟨rfl,hb1⟩)|(go_at_call 213;refine(h2.out _).mono ?_;rintro e w2⟨rfl,hb2⟩)|(go_at_call 19;refine(h3.out _ ((HR.out.below (show fo W0 _ by with_reducible assumption).2.2.2 ac).mono (show fo W0 _ by with_reducible assumption).2.2.1)).mono ?_;rintro e w3⟨v3,z3,rfl,ho3,hb3⟩))
 have hO:Below W0.heap.size W0 w3:=(show fo W0 w3 by with_reducible assumption).2.2.2;have hzz:w.heap.size<=w2.heap.size:=ba HA.out.size (by have h1:=hb2.size;have h2:=hb1.size;simp only[World.drew]at *;omega);go_wp2_with fail
 refine ay (results_tmp3 rfl _ _ _) rfl ?_;exact⟨v3,z3,rfl,fx ho3 hzz,HA.out.trans (hO.mono HA.out.size)⟩
end
section
set_option maxRecDepth 100000
set_option maxHeartbeats 4000000
open Go.RowKit Go.Shelf
def At(w:World)(B:Nat)(o:Obj):Prop:=w.heap[B]?=some o
theorem At.lt{w:World}{B:Nat}{o:Obj}(h:At w B o):B<w.heap.size:=(df.1 h).1
theorem At.kept{w w':World}{B:Nat}{o:Obj}{row:Option Nat}(h:At w B o)(hg:w.grownBy w' row)(hne:some B≠row):At w' B o:=(hg.block B h.lt hne).trans h
theorem At.below{w w':World}{B n:Nat}{o:Obj}(h:At w B o)(hb:Below n w w')(hn:B<n):At w' B o:=(hb.block B hn).trans h
theorem At.new(w:World)(o:Obj):At (w.alloc o) w.heap.size o:=World.alloc_heap_new w o
theorem At.alloc{w:World}{B:Nat}{o:Obj}(h:At w B o)(o':Obj):At (w.alloc o') B o:=h.kept (World.grownBy_alloc w o' none) (by simp)
theorem At.far{w:World}{B:Nat}{o:Obj}(h:At w B o){p:Addr}(hp:p.block≠B)(v:Value):At (w.setCell p v) B o:=(Below.heap_setCell _ _ _ B (fun e=>hp e.symm)).trans h
theorem At.cell{w:World}{B:Nat}{cs:Array Value}{t:TypeId}{fz:Nat×Nat}(h:At w B (.cells cs t fz))(j:Nat):w.cell? ⟨B,j,none⟩=cs[j]?:=by
 unfold At at h;simp[World.cell?,h]
theorem At.free{w:World}{B:Nat}{cs:Array Value}{t:TypeId}(h:At w B (.cells cs t (0,0)))(j:Nat):w.frozen? ⟨B,j,none⟩=false:=by
 unfold At at h;simp[World.frozen?,h]
theorem At.set{w:World}{B:Nat}{cs:Array Value}{t:TypeId}{fz:Nat×Nat}(h:At w B (.cells cs t fz))(j:Nat)(v:Value):At (w.setCell ⟨B,j,none⟩ v) B (.cells (cs.setIfInBounds j v) t fz):=by
 have hl:=(df.1 h);obtain⟨h1,h2⟩:=hl;unfold At;simp[World.setCell,h1,Array.getElem_modify_self,h2]
abbrev feedC(t:ByteArray)(ad:Option Addr)(n cap:Nat)(fr to en:Int):Obj:=.cells #[.string t,.slice ad n cap,.int .i64 fr,.int .i64 to,.int .i64 en] 132
structure abw(w:World)(fp:Nat)(t:ByteArray)(ps:List Int)(fr to:Nat)(en:Int):Prop where
 at_:∃ad cap,At w fp (feedC t ad ps.length cap fr to en)/\gg w ad ps.length (gi ps) fp/\ps.length<=cap
 le:fr<=to
 le2:to<=t.size
theorem abw.kept{w w':World}{fp:Nat}{t:ByteArray}{ps:List Int}{fr to:Nat}{en:Int}{m:Nat}(h:abw w fp t ps fr to en)(hb:Below m w w')(hm:fp<m):abw w' fp t ps fr to en:=by
 obtain⟨⟨ad,cap,h1,h2,h3⟩,h4,h5⟩:=h;exact⟨⟨ad,cap,h1.below hb hm,h2.below hb (by omega),h3⟩,h4,h5⟩
def rdN(ps:List Int)(left:Nat):Nat:=match ps with
 |[]=>left
 |p::_=>(max 0 (min (left:Int) p)).toNat
theorem apz(ps:List Int)(left:Nat):rdN ps left<=left:=by
 unfold rdN;split<;>omega
theorem akr(a b c d:Int)(w:World):(binOp .eql 130 (.agg #[.int .i64 a,.int .i64 b]) (.agg #[.int .i64 c,.int .i64 d])).run prog w=.ok (.bool (a==c&&b==d)) w:=by
 have hf:(prog.fieldsOf 130).toList.map (fun f=>(f.name,f.type,f.offset))=[("from",3,0),("to",3,1)]:=by kernel_rfl
 have hp:∀(x y:Value)(w:World),(part 3 #[x,y] 0).run prog w=.ok x w/\(part 3 #[x,y] 1).run prog w=.ok y w:=fun x y w=>⟨by kernel_rfl,by kernel_rfl⟩
 have he:∀a b:Int,(Op.equalIn 9999 3 (.int .i64 a) (.int .i64 b)).run prog w=.ok (a==b) w:=fun a b=>run_equalIn_int w 9998 3 .i64 .i64 a b underlying3
 rw[run_eql_struct,show(10000:Nat)=9999+1 from rfl,run_equalIn_agg w 9999 130 _ _ (by kernel_rfl) (by kernel_rfl)];generalize (prog.fieldsOf 130).toList=fs at hf;obtain⟨f0,fs,rfl,h0,hf⟩:∃f0 fs',fs=f0::fs'/\(f0.name,f0.type,f0.offset)=("from",3,0)/\fs'.map (fun f=>(f.name,f.type,f.offset))=[("to",3,1)]:=by
  cases fs with
  |nil=>simp at hf
  |cons f0 fs'=>simp only[List.map_cons,List.cons.injEq]at hf;exact⟨f0,fs',rfl,hf.1,hf.2⟩
 obtain⟨f1,fs,rfl,h1,hf⟩:∃f1 fs',fs=f1::fs'/\(f1.name,f1.type,f1.offset)=("to",3,1)/\fs'.map (fun f=>(f.name,f.type,f.offset))=[]:=by
  cases fs with
  |nil=>simp at hf
  |cons f1 fs'=>simp only[List.map_cons,List.cons.injEq]at hf;exact⟨f1,fs',rfl,hf.1,hf.2⟩
 obtain rfl:fs=[]:=by simpa using hf
 simp only[Prod.mk.injEq]at h0 h1;obtain⟨n0,t0,o0⟩:=h0;obtain⟨n1,t1,o1⟩:=h1;have hu0:f0.name≠ "_":=by rw[n0];decide
 have hu1:f1.name≠ "_":=by rw[n1];decide
 simp only[Op.eqFields,if_pos hu0,if_pos hu1,t0,o0,t1,o1,Sem.run_bind,(hp _ _ w).1,(hp _ _ w).2,he,Result.andThen_ok,Sem.run_ite,Sem.run_pure];cases h:a==c<;>cases h2:b==d<;>simp
theorem apx(fp:Nat)(t:ByteArray)(ps:List Int)(to:Nat)(en:Int)(w:World)(h:abw w fp t ps to to en):
 Calls prog 60 #[.pointer (some ⟨fp,0,none⟩)] w fun e w'=>e=.returned (.tuple #[.string ⟨#[]⟩,.int .i64 en])/\Below w.heap.size w w':=by
 obtain⟨⟨ad,cap,ha,-,-⟩,-,-⟩:=h;have c2:=ha.cell 2;have c3:=ha.cell 3;have c4:=ha.cell 4;have hl:=ha.lt;simp only[ak,am,au]at c2 c3 c4;have hA:Below w.heap.size w (w.alloc (.cells #[.int .i64 to,.int .i64 to] 130)):=ae.alloc ac _;clear ha;go_enter func60,ntmps60;go_wp2_with fail
 have heq:=akr;go_region;go_wp2_with fail
 go_region;go_wp2_with fail
 go_region;go_wp2_with fail
 go_ret2
 exact⟨rfl,hA.drew.drew.drew⟩
end
end Go.Proofs.YtjfkmoinldlmaaaGreat
