/- The walk of BeagleFails, part 39. Walk of the reference's Lex at any text. -/
import Derived.Test.YtjfkmoinldlmaaaGreatFa38
namespace Go.Proofs.YtjfkmoinldlmaaaGreat
open Go.Proofs.Tryz
section
set_option maxRecDepth 100000
set_option maxHeartbeats 8000000
open Go.RowKit Go.Shelf
theorem elem64:mi 64 71 4 48:=lj (z:=.agg #[.int .i64 0,.int .i64 0,.int .i64 0,.slice none 0 0]) underlying64 (by kernel_rfl) rfl (by decide)
def asp(s:ByteArray)(w:World)(e:Ending)(w':World):Prop:=
 ∃(v:Value)(a no:Int),e=.returned (.tuple #[v,.int .i64 a,.int .i64 no])/\Below w.heap.size w w'∧
  (no≠0\/(no=0/\∃l vs,qx s 0 l/\l.length<=1000/\f9 (rt w') l vs/\w'.ownsRow w.heap.size 71 4 v l.length vs))
structure RLSt(w0 w:World)(s:ByteArray)(q:Nat)(v:Value)(l:List gq)(vs:List Value):Prop where
 ql:q<=s.size
 ll:l.length<=q
 recs:f9 (rt w) l vs
 own:w.ownsRow w0.heap.size 71 4 v l.length vs
 bl:Below w0.heap.size w0 w
 cps:∀m,qx s q m->qx s 0 (l++m)
theorem apr(s:ByteArray)(w:World):Calls prog 23 #[.string s] w (asp s w):=by
 by_cases hs:1000<s.size
 ·have hsi:(1000:Int)<s.size:=by omega
  clear hs;go_enter func23,ntmps23;go_wp2_with fail
  refine ay (v:=.tuple #[.slice none 0 0,.int .i64 1000,.int .i64 135]) (by first|rfl|simp[results,results23,go_sem]) rfl ⟨_,_,_,rfl,ae,.inl (by decide)⟩
 ·have hs1:s.size<=1000:=by omega
  have hsi:¬(1000:Int)<s.size:=by omega
  clear hs;go_enter func23,ntmps23;go_wp2_with fail
  go_loopw[5,6] (fun v i wr=>∃(q:Nat)(l:List gq)(vs:List Value),i=.int .i64 (q:Nat)/\RLSt w wr s q v l vs) (fun _ i _=>s.size-(intOf i).toNat)
  case atStart=>exact⟨0,[],[],rfl,cx _,cx _,.nil,bj _ _ _ _,ae,fun m h=>h⟩
  case round=>
   obtain⟨q,l,vs,rfl,H⟩:=hrel;have HH:=aa H;have hql:=H.ql;have hll:=H.ll;have HO:=aa H.own;obtain⟨ad,cap,rfl⟩:=ey H.own;clear H;by_cases hlt:q<s.size
   ·have hqi:(q:Int)<s.size:=by omega
    have hb:s[q].toNat=tb s q:=ia s q hlt;by_cases h32:tb s q=32
    ·have g:((tb s q:Int)==32)=true:=by rw[h32];rfl
     have H32:=aa h32;clear h32;go_wp2_with fail
     go_roundw
     case rel=>exact⟨q+1,l,vs,by go_num,hlt,by omega,HH.out.recs,HH.out.own,HH.out.bl,fun m h=>HH.out.cps m (.blank q m hlt H32.out h)⟩
     case measure=>simp[intOf];omega
    ·have g:((tb s q:Int)==32)=false:=by rw[ax];omega
     have H32:=aa h32;have H53:=aa fun w'=>apn s q hs1 hlt w'
     clear h32;go_wp2_with fail
     go_at_call 53;refine(H53.out _).mono ?_;rintro e w3⟨k,a,n,ad3,m3,cap3,v,rfl,hb3,b,x0,x1,x2,x3,pa,pm,pc,n',nx,e,rfl,hres⟩;have HO3:=aa (fe HO.out hb3);have HR3:=aa (m6 HH.out.recs (Kt.below hb3));have HB3:=aa (HH.out.bl.trans (hb3.mono HH.out.bl.size));have HRes:=aa hres;clear hb3 hres;have hb':=((aw w3.heap.size w3).alloc ac (.cells #[.int .i64 k,.int .i64 a,.int .i64 n,.slice ad3 m3 cap3] 71)).alloc (by simp) (j7 b x0 x1 x2 x3 (.slice pa pm pc) n' nx e);have HO4:=aa (fe HO3.out hb');have HB4:=aa (HB3.out.trans (hb'.mono HB3.out.size));have HK4:=aa (Kt.below (ty:=100) hb');have HS4:=aa hb'.size;have HA4:=aa ((At.new w3 (.cells #[.int .i64 k,.int .i64 a,.int .i64 n,.slice ad3 m3 cap3] 71)).alloc (j7 b x0 x1 x2 x3 (.slice pa pm pc) n' nx e));have ht4:=At.new (w3.alloc (.cells #[.int .i64 k,.int .i64 a,.int .i64 n,.slice ad3 m3 cap3] 71)) (j7 b x0 x1 x2 x3 (.slice pa pm pc) n' nx e);rw[bg]at ht4;have HT4:=aa ht4;clear hb' ht4;by_cases he:e=0
     ·subst he
      obtain⟨t,q2,rfl,hT,hV⟩:∃(t:gq)(q2:Nat),nx=(q2:Nat)/\xq s q t q2/\rt w3 t [.int .i64 k,.int .i64 a,.int .i64 n,.slice ad3 m3 cap3]:=by
       rcases HRes.out with h|⟨t,q2,-,h⟩
       ·exact absurd rfl h
       ·exact⟨t,q2,h⟩
      have HT:=aa hT;have HV:=aa hV;clear hT hV;go_upto_region 9 with fail
      generalize ((w3.alloc (.cells #[.int .i64 k,.int .i64 a,.int .i64 n,.slice ad3 m3 cap3] 71)).alloc (j7 b x0 x1 x2 x3 (.slice pa pm pc) n' (q2:Nat) 0))=W4 at *;obtain⟨⟨t0,t1,t2,t3,t4,t5,t6,t7,t8⟩,-,tl⟩:=HT4.out.nine;have a0:=HA4.out.cell 0;have a1:=HA4.out.cell 1;have a2:=HA4.out.cell 2;have a3:=HA4.out.cell 3;have zl:=HA4.out.lt;simp only[ak,am,au]at a0 a1 a2 a3;have HNz:=aa (ba HB3.out.size HS4.out);go_wp2_with(at_builtin;refine gr elem64 rfl _ _ rfl rfl HO4.out [.int .i64 k,.int .i64 a,.int .i64 n,.slice ad3 m3 cap3] rfl rfl (by simp[Value.oneCell']) (by unfold maxLen;omega) (by omega) HNz.out ?_;intro v9 w9 hown9 hb9 hk9;have HO9:=aa hown9;have HB9:=aa hb9;have HK9:=aa hk9;have HT9:=aa (show At w9 _ _ from hk9 120 (by decide) _ _ _ HT4.out);clear t0 t1 t2 t3 t4 t5 t6 t7 t8 tl a0 a1 a2 a3 zl hown9 hb9 hk9;obtain⟨⟨t0,t1,t2,t3,t4,t5,t6,t7,t8⟩,-,tl⟩:=HT9.out.nine)
      have hq2:=HT.out.lt hlt;go_roundw
      case rel=>exact⟨q2,l++[t],_,rfl,hq2.2,by rw[bd];show l.length+1<=q2;omega,((m6 HR3.out HK4.out).append (f9.one (HV.out.keep HK4.out))).mono (fun _ _ h=>h.keep (HK9.out 100 (by decide))),by rw[bd];exact HO9.out,HB4.out.trans (HB9.out.mono ac),fun m h=>by rw[dc];exact HH.out.cps _ (.tok q t q2 m hlt H32.out HT.out h)⟩
      case measure=>simp[intOf];omega
     ·have hne2:(e !=0)=true:=by rw[bne_iff_ne];exact he
      have He:=aa he;clear he;go_upto_region 10 with fail
      generalize ((w3.alloc (.cells #[.int .i64 k,.int .i64 a,.int .i64 n,.slice ad3 m3 cap3] 71)).alloc (j7 b x0 x1 x2 x3 (.slice pa pm pc) n' nx e))=W4 at *;obtain⟨⟨t0,t1,t2,t3,t4,t5,t6,t7,t8⟩,-,tl⟩:=HT4.out.nine;go_region;all_goals(go_wp2_with fail)
      all_goals exact ay (v:=.tuple #[.slice none 0 0,.int .i64 nx,.int .i64 e]) (by first|rfl|simp[results,results23,go_sem]) rfl ⟨_,_,_,rfl,HB4.out.drew,.inl He.out⟩
   ·have hqi:¬(q:Int)<s.size:=by omega
    go_wp2_with fail
    refine ay (v:=.tuple #[.slice ad l.length cap,.int .i64 (s.size:Nat),.int .i64 0]) (by first|rfl|simp[results,results23,go_sem]) rfl ⟨_,_,_,rfl,HH.out.bl,.inr ⟨rfl,l,vs,?_,by omega,HH.out.recs,HH.out.own⟩⟩;have:=HH.out.cps [] (.fin q (by omega));rwa[dh]at this
end
end Go.Proofs.YtjfkmoinldlmaaaGreat
