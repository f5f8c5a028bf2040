/- The walk of BeagleFails, part 32. append of a row to a row of the call's own; walks of the reference's kind and with. Nodes to be read; walks of package query at the nodes of any tree: arity, size, deep, Depth. Walks of package query's deep and Depth at any tree. Walks of package query's deep and Depth at any tree, joined. Walks of the parser at one token: chains, query.Parse. What alive searches. Walks of package query's node, of a closure over it, of a search by it. Walks of package query's Right and of package stream's plain at any tree. -/
import Derived.Test.YtjfkmoinldlmaaaGreatFa30
import Derived.Deep.Cut
namespace Go.Proofs.YtjfkmoinldlmaaaGreat
open Go.Proofs.Tryz
section
set_option maxRecDepth 100000
set_option maxHeartbeats 4000000
open Go.RowKit Go.Shelf
theorem Kt.at2{ty t t':TypeId}{C D:Nat}{cs ds:Array Value}{fz fz':Nat×Nat}{w w':World}(h:Ex [C,D] w w')(hC:At w C (.cells cs t fz))(hD:At w D (.cells ds t' fz'))(hne:t≠ty:=by decide)(hne':t'≠ty:=by decide):Kt ty w w':=
 .ex h fun x hx cur fz2 e=>by
  rcases cz.1 hx with rfl|hx
  ·rw[show w.heap[x]?=some (.cells cs t fz)from hC]at e
   injection e with e;injection e with e1 e2;exact hne e2
  ·rw[cd.1 hx]at e
   rw[show w.heap[D]?=some (.cells ds t' fz')from hD]at e;injection e with e;injection e with e1 e2;exact hne' e2
theorem own_exS{w w':World}{base:Nat}{e:TypeId}{size n:Nat}{S:List Nat}{v:Value}{xs:List Value}(h:w.ownsRow base e size v n xs)(hb:Ex S w w')(hC:∀x∈S,x<base):w'.ownsRow base e size v n xs:=by
 refine⟨h.1,?_⟩;rcases h.2 with h2|⟨g,cap,cur,hv,hbb,hg,r⟩
 ·exact .inl h2
 ·refine .inr ⟨g,cap,cur,hv,hbb,?_,r⟩
  rw[hb.block g (df.1 hg).1 (fun hx=>by have:=hC g hx;omega)];exact hg
def ag0(w:World)(ad:Option Addr)(m:Nat)(news:List Value):Prop:=m=0\/∃b o,ad=some ⟨b,o,none⟩/\∀(j:Nat)u,news[j]?=some u->w.cell? ⟨b,o+j,none⟩=some u
theorem ft.news{w:World}{ty:TypeId}{ad:Option Addr}{n:Nat}{xs:List Value}(h:ft w ty ad n xs):ag0 w ad n xs:=by
 by_cases h0:n=0
 ·exact .inl h0
 ·obtain⟨b,o,ha,_,hc⟩:=h.cell (by omega)
  exact .inr ⟨b,o,ha,hc⟩
theorem ae9{T E size bytes base:Nat}(hE:mi T E size bytes){v:Value}{n:Nat}{xs:List Value}{w0:World}(hown:w0.ownsRow base E size v n xs){ad:Option Addr}{m c:Nat}{news:List Value}(hT:ag0 w0 ad m news)
 (hl:news.length=m*size) (h1:∀u∈news,u.oneCell'=true) (hn:n+m<=maxLen) (hbytes:(n+m)*bytes<=140737488355328) (hbase:base<=w0.heap.size) (ty:TypeId):
 ∃v' w',(Builtin.append_ #[T,T] ty #[v,.slice ad m c]).run prog w0=.ok v' w'/\w'.ownsRow base E size v' (n+m) (xs++news)/\w0.grownBy w' v.ownBlock/\(v'.ownBlock=v.ownBlock\/v'.ownBlock=some w0.heap.size):=by
 obtain⟨i,z,ht,hi,hz,hsize,hby,hzs,hsz⟩:=hE;by_cases hm:m=0
 ·subst hm
  obtain rfl:news=[]:=ei.1 (by omega);refine⟨v,w0,?_,by rw[Nat.add_zero,dh];exact hown,⟨rfl,rfl,rfl,ac,fun _ _ _=>rfl⟩,.inl rfl⟩;rcases hown.2 with⟨rfl,rfl⟩|⟨g,cap,cur,rfl,_,_,hnc,_⟩
  ·cases ad<;>simp[Builtin.append_,run_underlying ht,sizeOf,typeInfo,hi,Builtin.lenOf,Builtin.firstCells,loadCells,loadCellsFrom]
  ·cases ad<;>simp[Builtin.append_,run_underlying ht,sizeOf,typeInfo,hi,Builtin.lenOf,Builtin.firstCells,loadCells,loadCellsFrom,hnc,storeCells]
 ·obtain⟨b,o,rfl,hc⟩:=hT.resolve_left hm
  obtain⟨v',w',hr,h2,h3,_,h5⟩:=run_append_own_at (P:=prog) w0 base T ty E i z size bytes ht hi hz hsize hby hzs hsz v n xs hown ⟨b,o,none⟩ m c news hl (fun j u hj=>by rw[Addr.add_lit];exact hc j u hj) h1 hn hbytes hbase;exact⟨v',w',hr,h2,h3,h5⟩
theorem jb{T E size bytes base:Nat}(hE:mi T E size bytes){ops:Array Oper}{rest:List Oper}{o:Oper}{a:Act}{Q:Exit->Act->World->Prop}(hgd:o.guard=none)(s x:Operand)
 (ho:o.op=.call {callee:=.builtin .append,args:=#[s,x],argTypes:=#[T,T]})
 {v:Value} {n:Nat} {xs:List Value} (hs:a.eval s=v) {w0:World} (hown:w0.ownsRow base E size v n xs) {ad:Option Addr} {m c:Nat} {news:List Value} (hx:a.eval x=.slice ad m c) (hT:ag0 w0 ad m news)
 (hl:news.length=m*size) (h1:∀u∈news,u.oneCell'=true) (hn:n+m<=maxLen) (hbytes:(n+m)*bytes<=140737488355328) (hbase:base<=w0.heap.size)
 (h:∀v' w',w'.ownsRow base E size v' (n+m) (xs++news)->Below base w0 w'->(∀ty,E≠ty->Kt ty w0 w')->w0.grownBy w' v.ownBlock->(v'.ownBlock=v.ownBlock\/v'.ownBlock=some w0.heap.size)->wpList prog ops Q rest (a.put o.dst v') w'):
 wpList prog ops Q (o::rest) a w0:=by
 refine wpList_plain hgd fun K hK=>?_
 obtain⟨v',w',hr,h2,h3,h5⟩:=ae9 (c:=c) hE hown hT hl h1 hn hbytes hbase o.type;unfold Oper.wp execOp;simp only[ho,resolve,invoke,builtin,Sem.run_bind,Sem.run_pure,Result.andThen_ok,List.map_toArray,List.map_cons,List.map_nil,hs,hx,hr];exact hK _ _ (h v' w' h2 (ib h3 hbase fun k hk=>(hown.lt k hk).1) (fun ty hty=>Kt.grown h3 hown hty) h3 h5)
theorem ij{T E size bytes base:Nat}(hE:mi T E size bytes){ops:Array Oper}{o:Oper}{a:Act}{K:Act->World->Prop}{Q:Exit->Act->World->Prop}{E':Prop}(hgd:o.guard=none)(s x:Operand)
 (ho:o.op=.call {callee:=.builtin .append,args:=#[s,x],argTypes:=#[T,T]})
 {v:Value} {n:Nat} {xs:List Value} (hs:a.eval s=v) {w0:World} (hown:w0.ownsRow base E size v n xs) {ad:Option Addr} {m c:Nat} {news:List Value} (hx:a.eval x=.slice ad m c) (hT:ag0 w0 ad m news)
 (hl:news.length=m*size) (h1:∀u∈news,u.oneCell'=true) (hn:n+m<=maxLen) (hbytes:(n+m)*bytes<=140737488355328) (hbase:base<=w0.heap.size)
 (h:∀v' w',w'.ownsRow base E size v' (n+m) (xs++news)->Below base w0 w'->(∀ty,E≠ty->Kt ty w0 w')->w0.grownBy w' v.ownBlock->(v'.ownBlock=v.ownBlock\/v'.ownBlock=some w0.heap.size)->K (a.put o.dst v') w'):
 if Region.wanted o (yielded ops a.tmps)=true then Oper.wp prog o a w0 K Q else E':=by
 have hw:Region.wanted o (yielded ops a.tmps)=true:=by simp[Region.wanted,hgd]
 rw[if_pos hw];obtain⟨v',w',hr,h2,h3,h5⟩:=ae9 (c:=c) hE hown hT hl h1 hn hbytes hbase o.type;unfold Oper.wp execOp;simp only[ho,resolve,invoke,builtin,Sem.run_bind,Sem.run_pure,Result.andThen_ok,List.map_toArray,List.map_cons,List.map_nil,hs,hx,hr];exact h v' w' h2 (ib h3 hbase fun k hk=>(hown.lt k hk).1) (fun ty hty=>Kt.grown h3 hown hty) h3 h5
theorem jy{α:Type}{V:α->List Value->Prop}{l:List α}{xs:List Value}(h:f9 V l xs)(hv:∀a vs,V a vs->∀u∈vs,u.oneCell'=true):∀u∈xs,u.oneCell'=true:=by
 induction h with
 |nil=>intro u hu;cases hu
 |cons h r ih=>
  intro u hu;rcases List.mem_append.1 hu with h'|h'
  ·exact hv _ _ h u h'
  ·exact ih u h'
theorem jo{w:World}(a:QN)(vs:List Value)(h:ju w a vs):∀u∈vs,u.oneCell'=true:=by
 obtain⟨ad,cap,rfl,_⟩:=h;simp[Value.oneCell']
theorem jv(w:World)(k N:Nat):ju w ⟨k,N,[],0⟩ [.int .i64 (k:Nat),.int .i64 (N:Nat),.slice none 0 0,.int .i64 0]:=⟨none,0,rfl,.nil _ _ _ _⟩
def il(w:World)(ty:TypeId)(ad:Option Addr)(toks:List gq):Prop:=∃vs,ft w ty ad toks.length vs/\f9 (rt w) toks vs
theorem il.keep{w w':World}{ty:TypeId}{ad:Option Addr}{toks:List gq}(h:il w ty ad toks)(k:Kt ty w w')(k':Kt 100 w w'):il w' ty ad toks:=by
 obtain⟨vs,h1,h2⟩:=h;exact⟨vs,h1.keep k,m6 h2 k'⟩
theorem il.below{w w':World}{ty:TypeId}{ad:Option Addr}{toks:List gq}(h:il w ty ad toks)(hb:Below w.heap.size w w'):il w' ty ad toks:=h.keep (.below hb) (.below hb)
theorem il.at{w:World}{ty:TypeId}{ad:Option Addr}{toks:List gq}(h:il w ty ad toks){j:Nat}{t:gq}(hj:toks[j]?=some t):∃b o pa pc,ad=some ⟨b,o,none⟩/\b<w.heap.size∧
 w.cell? ⟨b,o+j*4,none⟩=some (.int .i64 (t.kind:Nat))/\w.cell? ⟨b,o+j*4+1,none⟩=some (.int .i64 (t.place:Nat))/\w.cell? ⟨b,o+j*4+2,none⟩=some (.int .i64 (t.num:Nat))/\w.cell? ⟨b,o+j*4+3,none⟩=some (.slice pa t.els.length pc)/\ft w 100 pa t.els.length (ji t.els):=by
 obtain⟨vs,h1,h2⟩:=h;have hlt:j<toks.length:=by
  rcases Nat.lt_or_ge j toks.length with h|h
  ·exact h
  ·rw[eb h]at hj;cases hj
 obtain⟨b,o,rfl,hb,hc⟩:=h1.cell (by omega);obtain⟨us,hu,hx⟩:=h2.at (fun _ _ h=>h.len) j t hj;obtain⟨pa,pc,rfl,hr⟩:=hu;refine⟨b,o,pa,pc,rfl,hb,?_,?_,?_,?_,hr⟩
 ·exact hc (j*4) _ (hx 0 (by omega))
 ·rw[dy];exact hc (j*4+1) _ (hx 1 (by omega))
 ·rw[dy];exact hc (j*4+2) _ (hx 2 (by omega))
 ·rw[dy];exact hc (j*4+3) _ (hx 3 (by omega))
def ik(toks:List gq)(j:Nat):Nat:=match toks[j]? with|some t=>t.kind|none=>0
theorem jz{toks:List gq}{j k:Nat}(h:ik toks j=k)(hk:k≠0):∃t,toks[j]?=some t/\t.kind=k/\j<toks.length/\toks.drop j=t::toks.drop (j+1):=by
 unfold ik at h;cases hj:toks[j]? with
 |none=>rw[hj]at h;exact absurd h.symm hk
 |some t=>
  rw[hj]at h;obtain⟨hlt,he⟩:=cy.1 hj;exact⟨t,rfl,h,hlt,by rw[ev hlt,he]⟩
theorem vz{toks:List gq}{j k:Nat}(h:ik toks j≠k):∀u r,toks.drop j=u::r->u.kind≠k:=by
 intro u r e hu;have hj:toks[j]?=some u:=by
  have:=congrArg List.head? e;simpa using this
 apply h;unfold ik;rw[hj];exact hu
theorem jx(ad:Option Addr)(cap:Nat)(toks:List gq)(hl:toks.length<=1000)(j:Nat)(w:World)(hT:il w 71 ad toks):
 Calls prog 55 #[.slice ad toks.length cap,.int .i64 (j:Nat)] w fun e w'=>e=.returned (.int .i64 (ik toks j:Nat))/\w'=w:=by
 by_cases hj:j<toks.length
 ·obtain⟨t,ht⟩:∃t,toks[j]?=some t:=⟨_,bs hj⟩
  obtain⟨b,o,pa,pc,rfl,hb,c0,-,-,-,-⟩:=hT.at ht;have hk:ik toks j=t.kind:=by unfold ik;rw[ht]
  have hji:(j:Int)<toks.length:=by omega
  have hli:(toks.length:Int)<=1000:=by omega
  rw[hk];clear hk ht hT;go_enter func55,ntmps55;go_wp2_with fail
  go_ret;exact⟨rfl,rfl⟩
 ·have hk:ik toks j=0:=by unfold ik;rw[eb (by omega)]
  have hji:¬(j:Int)<toks.length:=by omega
  have hli:(toks.length:Int)<=1000:=by omega
  rw[hk];clear hk hT;go_enter func55,ntmps55;go_wp2_with fail
  go_ret;exact⟨rfl,rfl⟩
abbrev fw(k N:Int)(pl:Value)(K:Int):Obj:=.cells #[.int .i64 k,.int .i64 N,pl,.int .i64 K] 81
abbrev ie(r:Value)(nx:Int)(bad:Bool):Obj:=.cells #[r,.int .i64 nx,.bool bad] 68
theorem acf(k N:Nat)(r:Value)(nx:Int)(bad:Bool)(ns:List QN)(vs:List Value)(hl:ns.length<=2000)(base:Nat)(w:World)(hO:w.ownsRow base 81 4 r ns.length vs)(hV:f9 (ju w) ns vs):
 Calls prog 153 #[.agg #[.int .i64 (k:Nat),.int .i64 (N:Nat),.slice none 0 0,.int .i64 0],.agg #[r,.int .i64 nx,.bool bad]] w fun e w'=>∃r' vs',e=.returned (.agg #[r',.int .i64 nx,.bool bad])/\w'.ownsRow w.heap.size 81 4 r' (ns.length+1) vs'/\f9 (ju w') (⟨k,N,[],0⟩::ns) vs'/\Below w.heap.size w w':=by
 obtain⟨ad,cap,rfl⟩:=ey hO;have hT:=ft.own hO;have hlen:=hV.len (fun _ _ h=>h.len);have hone:=jy hV jo;have hb3:=(((aw w.heap.size w).alloc ac (fw k N (.slice none 0 0) 0)).alloc (by simp) (ie (.slice ad ns.length cap) nx bad)).alloc (by simp;omega) (ie (.slice none 0 0) 0 false);have hA:=At.new (w.alloc (fw k N (.slice none 0 0) 0)) (ie (.slice ad ns.length cap) nx bad);rw[bg]at hA;have HA:=aa (hA.alloc (ie (.slice none 0 0) 0 false));have hN:=At.new w (fw k N (.slice none 0 0) 0);have HN:=aa ((hN.alloc (ie (.slice ad ns.length cap) nx bad)).alloc (ie (.slice none 0 0) 0 false));have hR:=At.new ((w.alloc (fw k N (.slice none 0 0) 0)).alloc (ie (.slice ad ns.length cap) nx bad)) (ie (.slice none 0 0) 0 false);rw[bg,bg]at hR;have HR:=aa hR;have HB:=aa hb3;have HV:=aa (gw hV (Kt.below hb3));have HT:=aa (hT.keep (Kt.below hb3));have hsz:(((w.alloc (fw k N (.slice none 0 0) 0)).alloc (ie (.slice ad ns.length cap) nx bad)).alloc (ie (.slice none 0 0) 0 false)).heap.size=w.heap.size+3:=by simp
 have HSZ:=aa hsz;clear hO hT hV hb3 hA hN hR hsz;go_enter func153,ntmps153;go_upto_region 1 with fail
 generalize (((w.alloc (fw k N (.slice none 0 0) 0)).alloc (ie (.slice ad ns.length cap) nx bad)).alloc (ie (.slice none 0 0) 0 false))=W3 at *;have a0:=HA.out.cell 0;have a1:=HA.out.cell 1;have a2:=HA.out.cell 2;have z0:=HA.out.free 0;have al:=HA.out.lt;have n0:=HN.out.cell 0;have n1:=HN.out.cell 1;have n2:=HN.out.cell 2;have n3:=HN.out.cell 3;have nl:=HN.out.lt;simp only[ak,am,au]at a0 a1 a2 n0 n1 n2 n3;have HOL:=aa (World.ownsRow_lit (base:=W3.heap.size) (e:=81) (size:=4) W3 #[.int .i64 (k:Nat),.int .i64 (N:Nat),.slice none 0 0,.int .i64 0] 1 ac (by unfold maxLen;omega) rfl);have HT4:=aa (HT.out.keep ((Kt.refl 81 W3).alloc (fw k N (.slice none 0 0) 0))).news;have HA4:=aa (HA.out.alloc (fw k N (.slice none 0 0) 0));have HR4:=aa (HR.out.alloc (fw k N (.slice none 0 0) 0));have HV4:=aa (gw HV.out ((Kt.refl 100 W3).alloc (fw k N (.slice none 0 0) 0)));have HB4:=aa (HB.out.alloc (by have:=HSZ.out;omega) (fw k N (.slice none 0 0) 0));have HZ:=aa (show W3.heap.size<=(W3.alloc (fw k N (.slice none 0 0) 0)).heap.size by simp);go_wp2_with(at_builtin;refine jb j2 rfl _ _ rfl rfl HOL.out rfl HT4.out hlen hone (by unfold maxLen;omega) (by omega) HZ.out ?_;intro v9 w9 hown9 hb9 hk9 hg9 hv9;obtain⟨ad9,cap9,rfl⟩:=ey hown9;have HO9:=aa hown9;have HB9:=aa (HB4.out.trans (hb9.mono (by have:=HSZ.out;omega)));have HK9:=aa hk9;have HA9:=aa (show At w9 _ _ from hk9 68 (by decide) _ _ _ HA4.out);have HR9:=aa (show At w9 _ _ from hk9 68 (by decide) _ _ _ HR4.out);clear a0 a1 a2 z0 al n0 n1 n2 n3 nl hown9 hb9 hk9 hg9 hv9;have b0:=HA9.out.cell 0;have b1:=HA9.out.cell 1;have b2:=HA9.out.cell 2;have y0:=HA9.out.free 0;have bl:=HA9.out.lt;have r0:=HR9.out.free 0;have r1:=HR9.out.free 1;have r2:=HR9.out.free 2;have rl:=HR9.out.lt;have q0:=HR9.out.cell 0;have q1:=HR9.out.cell 1;have q2:=HR9.out.cell 2;simp only[ak,am,au]at b0 b1 b2 q0 q1 q2)
 refine ay (v:=.agg #[.slice ad9 (1+ns.length) cap9,.int .i64 nx,.bool bad]) (by simp[results,results153,go_sem, *]) rfl ?_;have hE:=((((Ex.refl [w.heap.size+1,w.heap.size+1+1] w9).set (w.heap.size+1) 0 (.slice ad9 (1+ns.length) cap9) (by simp)).set (w.heap.size+1+1) 0 (.slice ad9 (1+ns.length) cap9) (by simp)).set (w.heap.size+1+1) 1 (.int .i64 nx) (by simp)).set (w.heap.size+1+1) 2 (.bool bad) (by simp);have hV9:=(f9.cons (jv W3 k N) HV.out).mono fun _ _ h=>((h.keep ((Kt.refl 100 W3).alloc (fw k N (.slice none 0 0) 0))).keep (HK9.out 100 (by decide))).keep (Kt.at2 hE HA9.out HR9.out)
 refine⟨_,rfl,_,?_,hV9,HB9.out.trans (hE.below (ba HB9.out.size ac) (by simp;omega))⟩;rw[show ns.length+1=1+ns.length from Nat.add_comm _ _];exact fx (own_exS HO9.out hE (by have:=HSZ.out;simp;omega)) (by have:=HSZ.out;omega)
end
section
set_option maxRecDepth 100000
set_option maxHeartbeats 4000000
open Go.RowKit Go.Shelf
theorem ft.sub{w:World}{ty:TypeId}{b o n k m size:Nat}{xs:List Value}(h:ft w ty (some ⟨b,o,none⟩) n xs)(hk:k+m<=n):ft w ty (some ⟨b,o+k*size,none⟩) m ((xs.drop (k*size)).take (m*size)):=by
 by_cases hm:m=0
 ·exact .inl hm
 ·rcases h with h|⟨b',o',cur,fz,ha,hh,hx⟩
  ·omega
  ·cases ha
   refine .inr ⟨b,o+k*size,cur,fz,rfl,hh,fun j u hj=>?_⟩;rw[List.getElem?_take]at hj;split at hj
   ·rw[List.getElem?_drop]at hj
    rw[dy];exact hx _ _ hj
   ·cases hj
theorem f9.drop{α:Type}{V:α->List Value->Prop}{l:List α}{xs:List Value}{k:Nat}(h:f9 V l xs)(hk:∀a vs,V a vs->vs.length=k):∀j,j<=l.length->f9 V (l.drop j) (xs.drop (j*k)):=by
 induction h with
 |nil=>intro j hj;simp at hj;subst hj;simp;exact .nil
 |@cons a vs l xs h r ih=>
  intro j hj;cases j with
  |zero=>simp;exact .cons h r
  |succ j=>
   have e:(vs++xs).drop ((j+1)*k)=xs.drop (j*k):=by
    rw[Nat.succ_mul,Nat.add_comm,<-List.drop_drop,<-hk _ _ h,List.drop_left]
   rw[e];exact ih j (by simpa using hj)
theorem f9.take{α:Type}{V:α->List Value->Prop}{l:List α}{xs:List Value}{k:Nat}(h:f9 V l xs)(hk:∀a vs,V a vs->vs.length=k):∀j,j<=l.length->f9 V (l.take j) (xs.take (j*k)):=by
 induction h with
 |nil=>intro j hj;simp at hj;subst hj;simp;exact .nil
 |@cons a vs l xs h r ih=>
  intro j hj;cases j with
  |zero=>simp;exact .nil
  |succ j=>
   have e:(vs++xs).take ((j+1)*k)=vs++xs.take (j*k):=by
    rw[Nat.succ_mul,Nat.add_comm,<-hk _ _ h,List.take_append,List.take_of_length_le (by omega)];congr 2;omega
   rw[e];exact .cons h (ih j (by simpa using hj))
def gd(w:World)(ad:Option Addr)(ns:List QN):Prop:=∃vs,ft w 81 ad ns.length vs/\f9 (ju w) ns vs
theorem gd.keep{w w':World}{ad:Option Addr}{ns:List QN}(h:gd w ad ns)(k:Kt 81 w w')(k':Kt 100 w w'):gd w' ad ns:=by
 obtain⟨vs,h1,h2⟩:=h;exact⟨vs,h1.keep k,gw h2 k'⟩
theorem gd.below{w w':World}{ad:Option Addr}{ns:List QN}(h:gd w ad ns)(hb:Below w.heap.size w w'):gd w' ad ns:=h.keep (.below hb) (.below hb)
theorem gd.own{w:World}{base cap:Nat}{ad:Option Addr}{ns:List QN}{vs:List Value}(h:w.ownsRow base 81 4 (.slice ad ns.length cap) ns.length vs)(hV:f9 (ju w) ns vs):gd w ad ns:=⟨vs,ft.own h,hV⟩
theorem gd.at{w:World}{ad:Option Addr}{ns:List QN}(h:gd w ad ns){j:Nat}{t:QN}(hj:ns[j]?=some t):∃b o pa pc,ad=some ⟨b,o,none⟩/\b<w.heap.size∧
 w.cell? ⟨b,o+j*4,none⟩=some (.int .i64 (t.kind:Nat))/\w.cell? ⟨b,o+j*4+1,none⟩=some (.int .i64 (t.num:Nat))/\w.cell? ⟨b,o+j*4+2,none⟩=some (.slice pa t.els.length pc)/\w.cell? ⟨b,o+j*4+3,none⟩=some (.int .i64 (t.k:Nat))/\ft w 100 pa t.els.length (ji t.els):=by
 obtain⟨vs,h1,h2⟩:=h;have hlt:j<ns.length:=by
  rcases Nat.lt_or_ge j ns.length with h|h
  ·exact h
  ·rw[eb h]at hj;cases hj
 obtain⟨b,o,rfl,hb,hc⟩:=h1.cell (by omega);obtain⟨us,hu,hx⟩:=h2.at (fun _ _ h=>h.len) j t hj;obtain⟨pa,pc,rfl,hr⟩:=hu;refine⟨b,o,pa,pc,rfl,hb,?_,?_,?_,?_,hr⟩
 ·exact hc (j*4) _ (hx 0 (by omega))
 ·rw[dy];exact hc (j*4+1) _ (hx 1 (by omega))
 ·rw[dy];exact hc (j*4+2) _ (hx 2 (by omega))
 ·rw[dy];exact hc (j*4+3) _ (hx 3 (by omega))
theorem gd.sub{w:World}{b o:Nat}{ns:List QN}(h:gd w (some ⟨b,o,none⟩) ns)(k m:Nat)(hk:k+m<=ns.length):gd w (some ⟨b,o+k*4,none⟩) ((ns.drop k).take m):=by
 obtain⟨vs,h1,h2⟩:=h;have hl:((ns.drop k).take m).length=m:=by rw[List.length_take,List.length_drop];omega
 refine⟨(vs.drop (k*4)).take (m*4),?_,(h2.drop (fun _ _ h=>h.len) k (by omega)).take (fun _ _ h=>h.len) m (by rw[List.length_drop];omega)⟩;rw[hl];exact h1.sub hk
theorem uu(k:Nat)(hk:1<=k/\k<=5)(N K:Int)(pl:Value)(w:World):
 Calls prog 211 #[.agg #[.int .i64 (k:Nat),.int .i64 N,pl,.int .i64 K]] w fun e w'=>e=.returned (.int .i64 (ar k:Nat))/\Below w.heap.size w w':=by
 have hA:Below w.heap.size w (w.alloc (fw k N pl K)):=ae.alloc ac _;obtain⟨h1,h2⟩:=hk;have h:k=1\/k=2\/k=3\/k=4\/k=5:=by omega
 clear h1 h2;rcases h with rfl|rfl|rfl|rfl|rfl
 all_goals(go_enter func211,ntmps211)
 all_goals(go_wp2_with fail)
 all_goals go_ret
 all_goals exact⟨rfl,hA⟩
theorem ar_le(k:Nat):ar k<=2:=by
 unfold ar;repeat' split
 all_goals omega
theorem opn_le(l:List QN):sv l<=l.length:=by
 induction l with
 |nil=>simp[sv]
 |cons x l ih=>have:=ar_le x.kind;simp only[sv,bz];omega
theorem ab0{ns:List QN}{k:Nat}{x:QN}(h:ns[k]?=some x):sv (ns.take (k+1))=sv (ns.take k)+((ar x.kind:Nat):Int)-1:=by
 obtain⟨hlt,he⟩:=cy.1 h;rw[da hlt,ws,he];simp only[sv];omega
theorem afr{T:QT}{ns:List QN}{F:Nat}(hO:∀k,k<=F->sv (ns.take k)=if k<F then sv ((ew T).take k)else -1)(hO2:∀k,k<F->0<=sv ((ew T).take k)){k:Nat}(hk:k<=F)(hl:k<F):0<=sv (ns.take k):=by
 rw[hO k hk,if_pos hl];exact hO2 k hl
theorem uh(T:QT)(s:List QN)(ad:Option Addr)(cap:Nat)(hl:(ew T++s).length<=2000)(w:World)(hN:gd w ad (ew T++s)):
 Calls prog 159 #[.slice ad (ew T++s).length cap] w fun e w'=>e=.returned (.int .i64 ((ew T).length:Nat))/\Below w.heap.size w w':=by
 have hp:=qc T;have hle:(ew T).length<=(ew T++s).length:=by simp
 have hO:=aa fun k hk=>adu T s k hk
 have hO2:=aa fun k hk=>aqk T k hk
 have hkd:=aa fun x hx=>po T x hx
 have hat:=aa (show∀k,k<(ew T).length->(ew T++s)[k]?=(ew T)[k]? from fun k hk=>ek hk);have HN:=aa hN;clear hN;generalize ew T++s=ns at *;have hli:(ns.length:Int)<=2000:=by omega
 obtain⟨F,hF⟩:∃F,F=(ew T).length:=⟨_,rfl⟩;rw[<-hF]at hp hle hO hO2 hat⊢;have HF:=aa hF;clear hF;go_enter func159,ntmps159;go_wp2_with fail
 go_step3;go_wp2_with fail
 go_step3;go_wp2_with fail
 go_loopw[3,9] (fun op i wr=>∃k:Nat,k<F/\i=.int .i64 (k:Nat)/\op=.int .i64 (1+sv (ns.take k))/\Below w.heap.size w wr) (fun _ i _=>F-(intOf i).toNat)
 case atStart=>exact⟨0,hp,rfl,rfl,ae⟩
 case round=>
  obtain⟨k,hk,rfl,rfl,hb⟩:=hrel;have hkn:k<ns.length:=by omega
  obtain⟨x,hx⟩:∃x,ns[k]?=some x:=⟨_,bs hkn⟩;have hxk:=hkd.out x (dm ((hat.out k hk).symm.trans hx));obtain⟨b,o,pa,pc,rfl,hbl,c0,c1,c2,c3,-⟩:=(HN.out.below (hb.mono ac)).at hx;have har:=aa fun N K pl w'=>uu x.kind hxk N K pl w'
  have hs1:=ab0 hx;have hP0:=afr hO.out hO2.out (dj hk) hk;have hP1:=opn_le (ns.take k);have hPk:(ns.take k).length<=k:=List.length_take_le _ _;have hS:=hO.out (k+1) (by omega);have har2:=ar_le x.kind;have hki:(k:Int)<ns.length:=by omega
  obtain⟨P,hP⟩:∃P,P=sv (ns.take k):=⟨_,rfl⟩;obtain⟨A,hA⟩:∃A,A=ar x.kind:=⟨_,rfl⟩;rw[<-hP]at hs1 hP0 hP1⊢;rw[<-hA]at hs1 har har2;rw[hs1]at hS;clear hP hA;have HS1:=aa hs1;have HB:=aa hb;clear hs1 hb hx;by_cases hF:k+1=F
  ·rw[if_neg (by omega)]at hS
   have hz:((1:Int)+P+((A:Int)-1)==0)=true:=by rw[beq_iff_eq];omega
   have hA0:¬((A:Int)<0):=by omega
   have HFk:=aa hF;clear hS hF;go_wp2_with(go_at_call 211;refine(har.out _ _ _ _).mono ?_;rintro e w2⟨rfl,hb2⟩;have HB2:=aa ((HB.out.alloc HB.out.size (fw x.kind x.num (.slice pa x.els.length pc) x.k)).trans (hb2.mono (HB.out.alloc HB.out.size _).size)))
   rw[Exit.noGoto_ret];go_ret;have e:(k:Int)+1=(F:Nat):=by have:=HFk.out;omega
   exact⟨by rw[<-e];rfl,HB2.out⟩
  ·rw[if_pos (by omega)]at hS
   have hS0:=hO2.out (k+1) (by omega);have hz:((1:Int)+P+((A:Int)-1)==0)=false:=by rw[ax];omega
   have hA0:¬((A:Int)<0):=by omega
   have HFk:=aa hF;clear hS hS0 hF;go_wp2_with(go_at_call 211;refine(har.out _ _ _ _).mono ?_;rintro e w2⟨rfl,hb2⟩;have HB2:=aa ((HB.out.alloc HB.out.size (fw x.kind x.num (.slice pa x.els.length pc) x.k)).trans (hb2.mono (HB.out.alloc HB.out.size _).size)))
   exact⟨⟨k+1,by have:=HFk.out;omega,by go_num,by rw[HS1.out];congr 1;omega,HB2.out⟩,by simp[intOf];omega⟩
end
section
set_option maxRecDepth 100000
set_option maxHeartbeats 4000000
open Go.RowKit Go.Shelf
theorem deep0(b o cap:Nat)(m:Int)(pl:Value)(e:Int)(w:World)
 (c0:w.cell? ⟨b,o,none⟩=some (.int .i64 1)) (c1:w.cell? ⟨b,o+1,none⟩=some (.int .i64 m)) (c2:w.cell? ⟨b,o+2,none⟩=some pl) (c3:w.cell? ⟨b,o+3,none⟩=some (.int .i64 e)):
 Calls prog 160 #[.slice (some ⟨b,o,none⟩) 1 cap] w fun e w'=>e=.returned (.int .i64 1)/\Below w.heap.size w w':=by
 have ha:Hid (Calls prog 211 #[.agg #[.int .i64 1,.int .i64 m,pl,.int .i64 e]] w fun e w'=>e=.returned (.int .i64 0)/\Below w.heap.size w w'):=aa (uu 1 (by omega) m e pl w);go_enter func160,ntmps160;go_wp2_with(go_at_call 211;(with_reducible refine ha.out.mono ?_);rintro e w1⟨rfl,hb1⟩;have B1:=aa hb1;clear hb1 c0 c1 c2 c3)
 refine du 3 ?_;rw[cj];go_wp2_with fail
 go_ret;exact⟨rfl,B1.out⟩
theorem deep1(k:Nat)(hk:k=4\/k=5)(b o cap n1 d1:Nat)(m:Int)(pl:Value)(e:Int)(h1:0<n1)(hn:1+n1<=2000)(hcap:1+n1<=cap)(hd:d1<=2000)(w:World)
 (c0:w.cell? ⟨b,o,none⟩=some (.int .i64 (k:Nat))) (c1:w.cell? ⟨b,o+1,none⟩=some (.int .i64 m)) (c2:w.cell? ⟨b,o+2,none⟩=some pl) (c3:w.cell? ⟨b,o+3,none⟩=some (.int .i64 e))
 (q1:∀w',Below w.heap.size w w'->Calls prog 159 #[.slice (some ⟨b,o+4,none⟩) n1 (cap-1)] w' fun e w''=>e=.returned (.int .i64 (n1:Nat))/\Below w'.heap.size w' w'')
 (q2:∀w',Below w.heap.size w w'->Calls prog 160 #[.slice (some ⟨b,o+4,none⟩) n1 (cap-1)] w' fun e w''=>e=.returned (.int .i64 (d1:Nat))/\Below w'.heap.size w' w''):
 Calls prog 160 #[.slice (some ⟨b,o,none⟩) (1+n1) cap] w fun e w'=>e=.returned (.int .i64 ((d1+1:Nat):Int))/\Below w.heap.size w w':=by
 have Q1:=aa q1;have Q2:=aa q2;have ha:Hid (Calls prog 211 #[.agg #[.int .i64 (k:Nat),.int .i64 m,pl,.int .i64 e]] w fun e w'=>e=.returned (.int .i64 1)/\Below w.heap.size w w'):=aa (by
  have:=uu k (by omega) m e pl w
  have e:ar k=1:=by rcases hk with rfl|rfl<;>rfl
  rw[e]at this
  exact this)
 have hNp:0<1+n1:=by omega
 clear q1 q2 hk;go_enter func160,ntmps160;go_wp2_with(go_at_call 211;(with_reducible refine ha.out.mono ?_);rintro e w1⟨rfl,hb1⟩;have B1:=aa hb1;clear hb1 c0 c1 c2 c3)
 refine du 3 ?_;rw[cj];go_wp2_with(first|(go_at_call 159;(with_reducible refine(Q1.out _ B1.out).mono ?_);rintro e w2⟨rfl,hb2⟩;have B2:=aa (B1.out.trans (hb2.mono B1.out.size));clear hb2)|(go_at_call 160;(with_reducible refine(Q2.out _ B2.out).mono ?_);rintro e w3⟨rfl,hb3⟩;have B3:=aa (B2.out.trans (hb3.mono B2.out.size));clear hb3))
 rw[cj];go_wp2_with fail
 go_ret;exact⟨by first|rfl|go_num,B3.out⟩
theorem deep2(k:Nat)(hk:k=2\/k=3)(b o cap n1 d1 n2 d2:Nat)(m:Int)(pl:Value)(e:Int)(h1:0<n1)(h2:0<n2)(hn:1+(n1+n2)<=2000)(hcap:1+(n1+n2)<=cap)(hd:d1<=2000)(hd2:d2<=2000)(w:World)
 (c0:w.cell? ⟨b,o,none⟩=some (.int .i64 (k:Nat))) (c1:w.cell? ⟨b,o+1,none⟩=some (.int .i64 m)) (c2:w.cell? ⟨b,o+2,none⟩=some pl) (c3:w.cell? ⟨b,o+3,none⟩=some (.int .i64 e))
 (q1:∀w',Below w.heap.size w w'->Calls prog 159 #[.slice (some ⟨b,o+4,none⟩) (n1+n2) (cap-1)] w' fun e w''=>e=.returned (.int .i64 (n1:Nat))/\Below w'.heap.size w' w'')
 (q2:∀w',Below w.heap.size w w'->Calls prog 160 #[.slice (some ⟨b,o+4,none⟩) n1 (cap-1)] w' fun e w''=>e=.returned (.int .i64 (d1:Nat))/\Below w'.heap.size w' w'')
 (q3:∀w',Below w.heap.size w w'->Calls prog 159 #[.slice (some ⟨b,o+(1+n1)*4,none⟩) (1+(n1+n2)-(1+n1)) (cap-(1+n1))] w' fun e w''=>e=.returned (.int .i64 (n2:Nat))/\Below w'.heap.size w' w'')
 (q4:∀w',Below w.heap.size w w'->Calls prog 160 #[.slice (some ⟨b,o+(1+n1)*4,none⟩) n2 (cap-(1+n1))] w' fun e w''=>e=.returned (.int .i64 (d2:Nat))/\Below w'.heap.size w' w''):
 Calls prog 160 #[.slice (some ⟨b,o,none⟩) (1+(n1+n2)) cap] w fun e w'=>e=.returned (.int .i64 ((max d1 d2+1:Nat):Int))/\Below w.heap.size w w':=by
 have Q1:=aa q1;have Q2:=aa q2;have Q3:=aa q3;have Q4:=aa q4;have ha:Hid (Calls prog 211 #[.agg #[.int .i64 (k:Nat),.int .i64 m,pl,.int .i64 e]] w fun e w'=>e=.returned (.int .i64 2)/\Below w.heap.size w w'):=aa (by
  have:=uu k (by omega) m e pl w
  have e:ar k=2:=by rcases hk with rfl|rfl<;>rfl
  rw[e]at this
  exact this)
 have hNp:0<1+(n1+n2):=by omega
 clear q1 q2 q3 q4 hk;go_enter func160,ntmps160;go_wp2_with(go_at_call 211;(with_reducible refine ha.out.mono ?_);rintro e w1⟨rfl,hb1⟩;have B1:=aa hb1;clear hb1 c0 c1 c2 c3)
 refine du 3 ?_;rw[cj];go_wp2_with(first|(go_at_call 159;(with_reducible refine(Q1.out _ B1.out).mono ?_);rintro e w2⟨rfl,hb2⟩;have B2:=aa (B1.out.trans (hb2.mono B1.out.size));clear hb2)|(go_at_call 160;(with_reducible refine(Q2.out _ B2.out).mono ?_);rintro e w3⟨rfl,hb3⟩;have B3:=aa (B2.out.trans (hb3.mono B2.out.size));clear hb3))
 rw[cj];go_wp2_with(first|(go_at_call 159;(with_reducible refine(Q3.out _ B3.out).mono ?_);rintro e w4⟨rfl,hb4⟩;have B4:=aa (B3.out.trans (hb4.mono B3.out.size));clear hb4)|(go_at_call 160;(with_reducible refine(Q4.out _ B4.out).mono ?_);rintro e w5⟨rfl,hb5⟩;have B5:=aa (B4.out.trans (hb5.mono B4.out.size));clear hb5))
 rw[cj];go_wp2_with fail
 go_ret;exact⟨by first|rfl|go_num,B5.out⟩
end
section
set_option maxRecDepth 100000
set_option maxHeartbeats 4000000
open Go.RowKit Go.Shelf
theorem gd.head{w:World}{b o:Nat}{x:QN}{ns:List QN}(h:gd w (some ⟨b,o,none⟩) (x::ns)):∃pa pc,w.cell? ⟨b,o,none⟩=some (.int .i64 (x.kind:Nat))/\w.cell? ⟨b,o+1,none⟩=some (.int .i64 (x.num:Nat))/\w.cell? ⟨b,o+2,none⟩=some (.slice pa x.els.length pc)/\w.cell? ⟨b,o+3,none⟩=some (.int .i64 (x.k:Nat))/\ft w 100 pa x.els.length (ji x.els):=by
 obtain⟨b',o',pa,pc,he,hb,c0,c1,c2,c3,r⟩:=h.at (j:=0) (t:=x) rfl;cases he;exact⟨pa,pc,by simpa using c0,by simpa using c1,by simpa using c2,by simpa using c3,r⟩
theorem gd.tail{w:World}{b o:Nat}{x:QN}{ns:List QN}(h:gd w (some ⟨b,o,none⟩) (x::ns)):gd w (some ⟨b,o+4,none⟩) ns:=by
 have:=h.sub 1 ns.length (by simp;omega);simpa using this
theorem gd.pre{w:World}{b o:Nat}{xs ys:List QN}(h:gd w (some ⟨b,o,none⟩) (xs++ys)):gd w (some ⟨b,o,none⟩) xs:=by
 have:=h.sub 0 xs.length (by simp);simpa using this
theorem gd.suf{w:World}{b o:Nat}{xs ys:List QN}(h:gd w (some ⟨b,o,none⟩) (xs++ys)):gd w (some ⟨b,o+xs.length*4,none⟩) ys:=by
 have:=h.sub xs.length ys.length (by simp);simpa using this
theorem ar5(T:QT):∀(b o cap:Nat)(w:World),(ew T).length<=2000->(ew T).length<=cap->gd w (some ⟨b,o,none⟩) (ew T)→
 Calls prog 160 #[.slice (some ⟨b,o,none⟩) (ew T).length cap] w fun e w'=>e=.returned (.int .i64 (jt T:Nat))/\Below w.heap.size w w':=by
 have hdep:=fun T:QT=>xj T
 have un:∀(x:QN)(a:QT)(hx:x.kind=4\/x.kind=5)(ih:∀(b o cap:Nat)(w:World),(ew a).length<=2000->(ew a).length<=cap->gd w (some ⟨b,o,none⟩) (ew a)→
  Calls prog 160 #[.slice (some ⟨b,o,none⟩) (ew a).length cap] w fun e w'=>e=.returned (.int .i64 (jt a:Nat))/\Below w.heap.size w w') (b o cap:Nat) (w:World) (hl:(x::ew a).length<=2000) (hc:(x::ew a).length<=cap) (hN:gd w (some ⟨b,o,none⟩) (x::ew a)),
  Calls prog 160 #[.slice (some ⟨b,o,none⟩) (x::ew a).length cap] w fun e w'=>e=.returned (.int .i64 ((jt a+1:Nat):Int))/\Below w.heap.size w w':=by
  intro x a hx ih b o cap w hl hc hN;obtain⟨pa,pc,c0,c1,c2,c3,-⟩:=hN.head;have hT:=hN.tail;simp only[bz]at hl hc;have:=hdep a;rw[show(x::ew a).length=1+(ew a).length by simp;omega];refine deep1 x.kind hx b o cap (ew a).length (jt a) _ _ _ (qc a) (by omega) (by omega) (by omega) w c0 c1 c2 c3 (fun w' hb=>?_) (fun w' hb=>ih b (o+4) (cap-1) w' (by omega) (by omega) (hT.below hb));have:=uh a [] (some ⟨b,o+4,none⟩) (cap-1) (by simp;omega) w' (by rw[dh];exact hT.below hb);rwa[dh]at this
 have bi:∀(x:QN)(a c:QT)(hx:x.kind=2\/x.kind=3)(iha:∀(b o cap:Nat)(w:World),(ew a).length<=2000->(ew a).length<=cap->gd w (some ⟨b,o,none⟩) (ew a)→
  Calls prog 160 #[.slice (some ⟨b,o,none⟩) (ew a).length cap] w fun e w'=>e=.returned (.int .i64 (jt a:Nat))/\Below w.heap.size w w') (ihc:∀(b o cap:Nat)(w:World),(ew c).length<=2000->(ew c).length<=cap->gd w (some ⟨b,o,none⟩) (ew c)→
  Calls prog 160 #[.slice (some ⟨b,o,none⟩) (ew c).length cap] w fun e w'=>e=.returned (.int .i64 (jt c:Nat))/\Below w.heap.size w w') (b o cap:Nat) (w:World) (hl:(x::(ew a++ew c)).length<=2000) (hc:(x::(ew a++ew c)).length<=cap) (hN:gd w (some ⟨b,o,none⟩) (x::(ew a++ew c))),
  Calls prog 160 #[.slice (some ⟨b,o,none⟩) (x::(ew a++ew c)).length cap] w fun e w'=>e=.returned (.int .i64 ((max (jt a) (jt c)+1:Nat):Int))/\Below w.heap.size w w':=by
  intro x a c hx iha ihc b o cap w hl hc hN;obtain⟨pa,pc,c0,c1,c2,c3,-⟩:=hN.head;have hT:=hN.tail;simp only[bz,bd]at hl hc;have:=hdep a;have:=hdep c;have hS:gd w (some ⟨b,o+(1+(ew a).length)*4,none⟩) (ew c):=by
   have:=hT.suf;rwa[show o+4+(ew a).length*4=o+(1+(ew a).length)*4 by omega]at this
  rw[show(x::(ew a++ew c)).length=1+((ew a).length+(ew c).length) by simp;omega];refine deep2 x.kind hx b o cap (ew a).length (jt a) (ew c).length (jt c) _ _ _ (qc a) (qc c) (by omega) (by omega) (by omega) (by omega) w c0 c1 c2 c3 (fun w' hb=>?_) (fun w' hb=>iha b (o+4) (cap-1) w' (by omega) (by omega) (hT.pre.below hb)) (fun w' hb=>?_) (fun w' hb=>ihc b _ _ w' (by omega) (by omega) (hS.below hb))
  ·have:=uh a (ew c) (some ⟨b,o+4,none⟩) (cap-1) (by simp;omega) w' (hT.below hb)
   rwa[bd]at this
  ·have:=uh c [] (some ⟨b,o+(1+(ew a).length)*4,none⟩) (cap-(1+(ew a).length)) (by simp;omega) w' (by rw[dh];exact hS.below hb)
   rw[dh]at this;rwa[show 1+((ew a).length+(ew c).length)-(1+(ew a).length)=(ew c).length by omega]
 induction T with
 |find e k=>
  intro b o cap w hl hc hN;obtain⟨pa,pc,c0,c1,c2,c3,-⟩:=gd.head (x:=⟨1,0,e,k⟩) (ns:=[]) hN;exact deep0 b o cap _ _ _ w c0 c1 c2 c3
 |and a c iha ihc=>exact bi ⟨2,0,[],0⟩ a c (.inl rfl) iha ihc
 |or a c iha ihc=>exact bi ⟨3,0,[],0⟩ a c (.inr rfl) iha ihc
 |not a ih=>exact un ⟨4,0,[],0⟩ a (.inl rfl) ih
 |shift m a ih=>exact un ⟨5,m,[],0⟩ a (.inr rfl) ih
theorem yi(T:QT)(hl:(ew T).length<=2000)(ad:Option Addr)(cap:Nat)(hc:(ew T).length<=cap)(w:World)(hN:gd w ad (ew T)):
 Calls prog 105 #[.slice ad (ew T).length cap] w fun e w'=>e=.returned (.int .i64 (jt T:Nat))/\Below w.heap.size w w':=by
 have hp:=qc T;obtain⟨x,hx⟩:∃x,(ew T)[0]?=some x:=⟨_,bs hp⟩;obtain⟨b,o,-,-,rfl,-⟩:=hN.at hx;have h1:=uh T [] (some ⟨b,o,none⟩) cap (by simp;omega) w (by rw[dh];exact hN);rw[dh]at h1;have H1:=aa h1;have H2:=aa fun w'(hb:Below w.heap.size w w')=>ar5 T b o cap w' hl hc (hN.below hb)
 have hd:=xj T;have hp':=aa hp;clear h1 hN hx;have hF:(ew T).length≠0:=by omega
 generalize (ew T).length=F at *;generalize jt T=D at *;go_enter func105,ntmps105;go_wp2_with(first|(go_at_call 159;(with_reducible refine H1.out.mono ?_);rintro e w1⟨rfl,hb1⟩;have B1:=aa hb1;clear hb1)|(go_at_call 160;(with_reducible refine(H2.out _ B1.out).mono ?_);rintro e w2⟨rfl,hb2⟩;have B2:=aa (B1.out.trans (hb2.mono B1.out.size));clear hb2))
 go_ret;exact⟨rfl,B2.out⟩
end
section
set_option maxRecDepth 100000
set_option maxHeartbeats 4000000
open Go.RowKit Go.Shelf
theorem ajb(P T cT:Nat)(hne:T≠P)(ad:Option Addr)(cap:Nat)(w:World)(hP:At w P (paC (.slice (some ⟨T,0,none⟩) 1 cT)))(hT:Tok w T ad cap):
 Calls prog 157 #[.pointer (some ⟨P,0,none⟩),.func (.func 210) #[.pointer (some ⟨P,0,none⟩)] #[],.int .i64 3,.int .i64 2] w (ac2 P ad cap w):=by
 have q1:=aa (item_at P T cT hne ad cap w hP hT);have q2:=aa fun a c w'(h:At w' P (paC (.slice a 0 c)))=>ye P a c 3 w' h
 clear hP hT hne;go_enter func157,ntmps157;go_wp2_with(go_at_call 210;(with_reducible refine q1.out.mono ?_);rintro e w1⟨Q,cq,rfl,h1,h2,h3,a1,c1,hP1⟩;have K1:=aa h1;have K2:=aa h2;have K3:=aa h3;have HP1:=aa hP1;have m0:=hP1.cell 0;have m3:=hP1.cell 3;have ml:=hP1.lt;simp only[ak,am,au]at m0 m3;clear h1 h2 h3 hP1)
 refine du 1 ?_;rw[cj];go_wp2_with(go_at_call 208;(with_reducible refine(q2.out a1 c1 w1 HP1.out).mono ?_);rintro e w2⟨rfl,hb2⟩;have J1:=aa (K1.out.1.below hb2 K1.out.1.lt);have J2:=aa ((K3.out.then hb2).alloc (kp 0 0 0 (.slice none 0 0)));have J3:=aa ((HP1.out.below hb2 ml).alloc (kp 0 0 0 (.slice none 0 0)));clear hb2)
 go_ret;exact⟨Q,cq,rfl,⟨J1.out.alloc _,K1.out.2⟩,K2.out,J2.out,a1,c1,J3.out⟩
theorem part_at(P T cT:Nat)(hne:T≠P)(ad:Option Addr)(cap:Nat)(w:World)(hP:At w P (paC (.slice (some ⟨T,0,none⟩) 1 cT)))(hT:Tok w T ad cap):
 Calls prog 158 #[.pointer (some ⟨P,0,none⟩)] w (ac2 P ad cap w):=by
 have q1:=aa (ajb P T cT hne ad cap w hP hT);clear hP hT hne;go_enter func158,ntmps158;go_wp2_with(go_at_call 157;(with_reducible refine q1.out.mono ?_);rintro e w1⟨Q,cq,rfl,h1,h2,h3,h4⟩;have K1:=aa h1;have K2:=aa h2;have K3:=aa h3;have K4:=aa h4;clear h1 h2 h3 h4)
 go_ret;exact⟨Q,cq,rfl,K1.out,K2.out,K3.out,K4.out⟩
theorem aja(P T cT:Nat)(hne:T≠P)(ad:Option Addr)(cap:Nat)(w:World)(hP:At w P (paC (.slice (some ⟨T,0,none⟩) 1 cT)))(hT:Tok w T ad cap):
 Calls prog 157 #[.pointer (some ⟨P,0,none⟩),.func (.func 158) #[.pointer (some ⟨P,0,none⟩)] #[],.int .i64 4,.int .i64 3] w (ac2 P ad cap w):=by
 have q1:=aa (part_at P T cT hne ad cap w hP hT);have q2:=aa fun a c w'(h:At w' P (paC (.slice a 0 c)))=>ye P a c 4 w' h
 clear hP hT hne;go_enter func157,ntmps157;go_wp2_with(go_at_call 158;(with_reducible refine q1.out.mono ?_);rintro e w1⟨Q,cq,rfl,h1,h2,h3,a1,c1,hP1⟩;have K1:=aa h1;have K2:=aa h2;have K3:=aa h3;have HP1:=aa hP1;have m0:=hP1.cell 0;have m3:=hP1.cell 3;have ml:=hP1.lt;simp only[ak,am,au]at m0 m3;clear h1 h2 h3 hP1)
 refine du 1 ?_;rw[cj];go_wp2_with(go_at_call 208;(with_reducible refine(q2.out a1 c1 w1 HP1.out).mono ?_);rintro e w2⟨rfl,hb2⟩;have J1:=aa (K1.out.1.below hb2 K1.out.1.lt);have J2:=aa ((K3.out.then hb2).alloc (kp 0 0 0 (.slice none 0 0)));have J3:=aa ((HP1.out.below hb2 ml).alloc (kp 0 0 0 (.slice none 0 0)));clear hb2)
 go_ret;exact⟨Q,cq,rfl,⟨J1.out.alloc _,K1.out.2⟩,K2.out,J2.out,a1,c1,J3.out⟩
theorem ap4(P T cT:Nat)(hne:T≠P)(ad:Option Addr)(cap:Nat)(w:World)(hP:At w P (paC (.slice (some ⟨T,0,none⟩) 1 cT)))(hT:Tok w T ad cap):
 Calls prog 103 #[.pointer (some ⟨P,0,none⟩)] w (ac2 P ad cap w):=by
 have q1:=aa (aja P T cT hne ad cap w hP hT);clear hP hT hne;go_enter func103,ntmps103;go_wp2_with(go_at_call 157;(with_reducible refine q1.out.mono ?_);rintro e w1⟨Q,cq,rfl,h1,h2,h3,h4⟩;have K1:=aa h1;have K2:=aa h2;have K3:=aa h3;have K4:=aa h4;clear h1 h2 h3 h4)
 go_ret;exact⟨Q,cq,rfl,K1.out,K2.out,K3.out,K4.out⟩
theorem am1{w:World}{Q:Nat}{ad:Option Addr}{cap:Nat}(h:At w Q (nd1 ad cap))(hT:ft w 100 ad 2 (ji lab)):gd w (some ⟨Q,0,none⟩) (ew (.find lab 0)):=
 ⟨[.int .i64 1,.int .i64 0,.slice ad 2 cap,.int .i64 0],.inr ⟨Q,0,_,(0,0),rfl,h,fun j u hj=>by simpa using hj⟩,f9.one ⟨ad,cap,rfl,hT⟩⟩
theorem aqh(w:World):
 Calls prog 57 #[.string qs] w fun e w'=>∃Q cq,e=.returned (.tuple #[.slice (some ⟨Q,0,none⟩) 1 cq,.int .i64 4,.int .i64 0])/\1<=cq/\gd w' (some ⟨Q,0,none⟩) (ew (.find lab 0))/\Below w.heap.size w w':=by
 have q1:=aa (lex_at w);have q2:=aa fun P T cT hne ad cap w' h h2=>ap4 P T cT hne ad cap w' h h2
 have q3:=aa fun Q cq hc w' h=>yi (.find lab 0) (by decide) (some ⟨Q,0,none⟩) cq hc w' h
 go_enter func57,ntmps57;go_wp2_with(first|(go_at_call 102;(with_reducible refine q1.out.mono ?_);rintro e w1⟨T,cT,ad,cap,rfl,hT1,hT2,hT3,hR1,hb1⟩;have B1:=aa hb1;have R1:=aa hR1;have T1:Hid (Tok w1 T ad cap):=aa ⟨hT3 0 _ rfl,hT3 1 _ rfl,hT3 2 _ rfl,hT3 3 _ rfl,hT2⟩;have P1:=aa (At.new w1 (paC (.slice (some ⟨T,0,none⟩) 1 cT)));have hTl:=aa hT2;clear hb1 hR1 hT1 hT2 hT3)|(go_at_call 103;refine(q2.out w1.heap.size T cT (by have:=hTl.out;omega) ad cap (w1.alloc (paC (.slice (some ⟨T,0,none⟩) 1 cT))) P1.out (T1.out.ex ((Ex.refl [] w1).alloc _) (by simp))).mono ?_;rintro e w2⟨Q,cq,rfl,h1,h2,h3,a2,c2,hP2⟩;have K1:=aa h1;have K2:=aa h2;have K3:=aa h3;have NI:=aa (am1 h1.1 (R1.out.keep (Kt.below ((((Ex.refl [w1.heap.size] w1).alloc (paC (.slice (some ⟨T,0,none⟩) 1 cT))).trans h3).below ac (by simp)))));have HP2:=aa hP2;have m0:=hP2.cell 0;have m3:=hP2.cell 3;have ml:=hP2.lt;simp only[ak,am,au]at m0 m3;clear h1 h2 h3 hP2)|(go_at_call 105;refine(q3.out Q cq K1.out.2 w2 NI.out).mono ?_;rintro e w3⟨rfl,hb3⟩;have J1:=aa (NI.out.below hb3);have hB3:=aa hb3;clear hb3))
 have z1:=B1.out.size;have z2:=K2.out;rw[bg]at z2;have E3:Ex [w1.heap.size] w1 w3:=((((Ex.refl [w1.heap.size] w1).alloc (paC (.slice (some ⟨T,0,none⟩) 1 cT))).trans K3.out).mono (by intro x hx;left;simpa using hx)).then hB3.out
 have Bf:Below w1.heap.size w1 w3:=E3.below ac (by simp);refine ay (results_tmp3 rfl _ _ _) rfl ?_;exact⟨Q,cq,rfl,K1.out.2,J1.out,B1.out.trans (Bf.mono z1)⟩
end
section
open Go.RowKit Go.Shelf
abbrev cfv:Value:=.agg #[.int .i64 0,.int .i64 0,.int .i64 9,.int .i64 9,.slice none 0 0,.int .i64 (-1)]
abbrev cfC:Obj:=.cells #[.int .i64 0,.int .i64 0,.int .i64 9,.int .i64 9,.slice none 0 0,.int .i64 (-1)] 37
theorem aq8:ir (.find lab 0)=true:=by decide+kernel
end
section
set_option linter.unusedSimpArgs false
set_option maxRecDepth 100000
set_option maxHeartbeats 8000000
open Go.RowKit Go.Shelf
theorem aol(ad:Option Addr)(n cap K:Nat)(w:World):
 Calls prog 214 #[lv ad n cap (K:Nat)] w fun e w'=>e=.returned (.bool (n==0&&K==0))/\Below w.heap.size w w':=by
 have hA:Below w.heap.size w (w.alloc (.cells #[.slice ad n cap,.int .i64 (K:Nat)] 52)):=ae.alloc ac _;have hl:=fk.new w ad n cap (K:Nat);by_cases hn:n=0
 ·subst hn
  by_cases hK:K=0
  ·subst hK
   go_enter func214,ntmps214;go_wp2_with fail
   go_ret;exact⟨rfl,hA⟩
  ·have h1:((K:Int)==0)=false:=by rw[ax];omega
   have h2:(K==0)=false:=by rw[ax];exact hK
   go_enter func214,ntmps214;go_wp2_with fail
   go_ret;exact⟨by simp[h2],hA⟩
 ·have h1:((n:Int)==0)=false:=by rw[ax];omega
  have h2:(n==0)=false:=by rw[ax];exact hn
  go_enter func214,ntmps214;go_wp2_with fail
  go_ret;exact⟨by simp[h2],hA⟩
abbrev vw(t:QN)(pa:Option Addr)(pc:Nat):Value:=.agg #[.int .i64 (t.kind:Nat),.int .i64 (t.num:Nat),.slice pa t.els.length pc,.int .i64 (t.k:Nat)]
theorem aqw(x:QN)(hk:1<=x.kind/\x.kind<=5)(hn:x.els.length<=2000)(pa:Option Addr)(pc:Nat)(w:World)(h:ft w 100 pa x.els.length (ji x.els)):
 Calls prog 165 #[vw x pa pc] w fun e w'=>e=.returned (.bool (my x))/\Below w.heap.size w w':=by
 obtain⟨k,num,els,kk⟩:=x;simp only at hk hn h;have hA:Below w.heap.size w (w.alloc (fw k num (.slice pa els.length pc) kk)):=ae.alloc ac _;have HA:=aa hA;have hl:=(At.new w (fw k num (.slice pa els.length pc) kk)).lt;have QR:=aa fun w'(hb:Below w.heap.size w w')=>jn pa els.length pc (kk:Nat) (gc els) (by omega) w' (h.keep (Kt.below hb)).rowC
 have QZ:=aa fun w'(_:Below w.heap.size w w')=>aol pa els.length pc kk w'
 have e0:my ⟨k,num,els,kk⟩=((k==5||num==0)&&(decide (num<=1000000)&&(if k=1 then fv els.length (gc els) kk else(els.length==0&&kk==0)))):=rfl;rw[show my ⟨k,num,els,kk⟩=_ from e0];clear e0 h hA;have hnn:¬((num:Int)<0):=by omega
 generalize fv els.length (gc els) kk=rb at *;have hkk:k=1\/k=5\/k=2\/k=3\/k=4:=by omega
 clear hk;by_cases h0:num=0
 ·subst h0
  rcases hkk with rfl|rfl|rfl|rfl|rfl
  ·go_enter func165,ntmps165
   go_wp2_with(first|go_region|(go_at_call 134;(with_reducible refine(QR.out _ ?_).mono ?_);exact HA.out.drew;rintro e w1⟨rfl,hb1⟩;have B1:Hid (Below w.heap.size w w1):=aa (HA.out.drew.trans (hb1.mono HA.out.drew.size));clear hb1))
   go_ret;exact⟨by simp,B1.out⟩
  ·go_enter func165,ntmps165
   go_wp2_with(first|go_region|(go_at_call 214;(with_reducible refine(QZ.out _ ?_).mono ?_);exact HA.out.drew;rintro e w1⟨rfl,hb1⟩;have B1:Hid (Below w.heap.size w w1):=aa (HA.out.drew.trans (hb1.mono HA.out.drew.size));clear hb1))
   go_ret;exact⟨by simp,B1.out⟩
  ·go_enter func165,ntmps165
   go_wp2_with(first|go_region|(go_at_call 214;(with_reducible refine(QZ.out _ ?_).mono ?_);exact HA.out.drew;rintro e w1⟨rfl,hb1⟩;have B1:Hid (Below w.heap.size w w1):=aa (HA.out.drew.trans (hb1.mono HA.out.drew.size));clear hb1))
   go_ret;exact⟨by simp,B1.out⟩
  ·go_enter func165,ntmps165
   go_wp2_with(first|go_region|(go_at_call 214;(with_reducible refine(QZ.out _ ?_).mono ?_);exact HA.out.drew;rintro e w1⟨rfl,hb1⟩;have B1:Hid (Below w.heap.size w w1):=aa (HA.out.drew.trans (hb1.mono HA.out.drew.size));clear hb1))
   go_ret;exact⟨by simp,B1.out⟩
  ·go_enter func165,ntmps165
   go_wp2_with(first|go_region|(go_at_call 214;(with_reducible refine(QZ.out _ ?_).mono ?_);exact HA.out.drew;rintro e w1⟨rfl,hb1⟩;have B1:Hid (Below w.heap.size w w1):=aa (HA.out.drew.trans (hb1.mono HA.out.drew.size));clear hb1))
   go_ret;exact⟨by simp,B1.out⟩
 ·have h1:((num:Int)==0)=false:=by rw[ax];omega
  have h2:(num==0)=false:=by rw[ax];exact h0
  have h3:((num:Int) !=0)=true:=by rw[bne_iff_ne];omega
  by_cases hM:(1000000:Int)<num
  ·have hM':¬num<=1000000:=by omega
   rcases hkk with rfl|rfl|rfl|rfl|rfl
   ·go_enter func165,ntmps165
    go_wp2_with go_region
    go_ret;exact⟨by simp[h0,hM'],HA.out.drew⟩
   ·go_enter func165,ntmps165
    go_wp2_with go_region
    go_ret;exact⟨by simp[h0,hM'],HA.out.drew⟩
   ·go_enter func165,ntmps165
    go_wp2_with go_region
    go_ret;exact⟨by simp[h0,hM'],HA.out.drew⟩
   ·go_enter func165,ntmps165
    go_wp2_with go_region
    go_ret;exact⟨by simp[h0,hM'],HA.out.drew⟩
   ·go_enter func165,ntmps165
    go_wp2_with go_region
    go_ret;exact⟨by simp[h0,hM'],HA.out.drew⟩
  ·have hM':num<=1000000:=by omega
   rcases hkk with rfl|rfl|rfl|rfl|rfl
   ·go_enter func165,ntmps165
    go_wp2_with go_region
    go_ret;exact⟨by simp[h0,hM'],HA.out.drew⟩
   ·go_enter func165,ntmps165
    go_wp2_with(first|go_region|(go_at_call 214;(with_reducible refine(QZ.out _ ?_).mono ?_);exact HA.out.drew;rintro e w1⟨rfl,hb1⟩;have B1:Hid (Below w.heap.size w w1):=aa (HA.out.drew.trans (hb1.mono HA.out.drew.size));clear hb1))
    go_ret;exact⟨by simp[hM'],B1.out⟩
   ·go_enter func165,ntmps165
    go_wp2_with go_region
    go_ret;exact⟨by simp[h0,hM'],HA.out.drew⟩
   ·go_enter func165,ntmps165
    go_wp2_with go_region
    go_ret;exact⟨by simp[h0,hM'],HA.out.drew⟩
   ·go_enter func165,ntmps165
    go_wp2_with go_region
    go_ret;exact⟨by simp[h0,hM'],HA.out.drew⟩
end
section
set_option maxRecDepth 100000
set_option maxHeartbeats 4000000
open Go.RowKit Go.Shelf
theorem anw(x:QN)(hk:1<=x.kind/\x.kind<=5)(hn:x.els.length<=2000)(pa:Option Addr)(pc:Nat)(w:World)(h:ft w 100 pa x.els.length (ji x.els)):
 Calls prog 164 #[vw x pa pc] w fun e w'=>e=.returned (.bool (!my x))/\Below w.heap.size w w':=by
 have hA:Below w.heap.size w (w.alloc (fw x.kind x.num (.slice pa x.els.length pc) x.k)):=ae.alloc ac _;have HA:=aa hA;have Q:=aa (aqw x hk hn pa pc _ (h.keep (Kt.below hA)));clear h hA hk hn;go_enter func164,ntmps164;go_wp2_with(go_at_call 165;(with_reducible refine Q.out.mono ?_);rintro e w1⟨rfl,hb1⟩;have B1:=aa (HA.out.trans (hb1.mono HA.out.size));clear hb1)
 go_ret;exact⟨rfl,B1.out⟩
theorem anx(x:QN)(hk:1<=x.kind/\x.kind<=5)(pa:Option Addr)(pc:Nat)(w:World):
 Calls prog 123 #[vw x pa pc] w fun e w'=>e=.returned (.bool (x.kind==4||x.kind==5))/\Below w.heap.size w w':=by
 obtain⟨k,num,els,kk⟩:=x;simp only at hk;have hA:Below w.heap.size w (w.alloc (fw k num (.slice pa els.length pc) kk)):=ae.alloc ac _;have HA:=aa hA;have hl:=(At.new w (fw k num (.slice pa els.length pc) kk)).lt;clear hA;have hkk:k=1\/k=2\/k=3\/k=4\/k=5:=by omega
 clear hk;rcases hkk with rfl|rfl|rfl|rfl|rfl
 all_goals(go_enter func123,ntmps123)
 all_goals(go_wp2_with fail)
 all_goals go_ret
 all_goals exact⟨rfl,HA.out⟩
theorem ait(ns:List QN)(hl:ns.length<=2000)(ad:Option Addr)(cap:Nat)(w:World)(hN:gd w ad ns)
 (hf:∀x∈ns,∀pa pc w',ft w' 100 pa x.els.length (ji x.els)->Calls prog 164 #[vw x pa pc] w' fun e w2=>e=.returned (.bool (!my x))/\Below w'.heap.size w' w2):
 Calls prog 171 #[.slice ad ns.length cap,.func (.func 164) #[] #[]] w fun e w'=>(∃i:Int,e=.returned (.int .i64 i)/\decide (i>=0)=ns.any fun x=> !my x)/\Below w.heap.size w w':=by
 have HF:=aa hf;have HN:=aa hN;have hnI:(ns.length:Int)<=2000:=by omega
 clear hf hN;go_enter func171,ntmps171;go_wp2_with fail
 go_loopw[8] (fun i wr=>∃q:Nat,q<=ns.length/\i=.int .i64 q/\Hid (∀j,j<q->∀x,ns[j]?=some x->(!my x)=false)/\Below w.heap.size w wr) (fun i _=>ns.length-(intOf i).toNat)
 case atStart=>exact⟨0,by omega,rfl,aa fun j h=>absurd h (Nat.not_lt_zero j),ae⟩
 case round=>
  obtain⟨q,hq,rfl,hno,hb⟩:=hrel;have Hb:=aa hb;clear hb;by_cases hlt:q<ns.length
  ·have hlti:(q:Int)<ns.length:=by omega
   have hq0:(0:Int)<=q:=by omega
   obtain⟨x,hx⟩:∃x,ns[q]?=some x:=⟨_,bs hlt⟩;obtain⟨b,o,pa,pc,rfl,hbm,e0,e1,e2,e3,hr⟩:=(HN.out.below Hb.out).at hx;have hcall:=aa (HF.out x (dm hx) pa pc wr hr);have HX:=aa hx;clear hx hr;cases hp:(!my x)
   ·have HC:=aa (hp▸hcall.out)
    have HP:=aa hp;clear hcall hp;go_wp2_with(go_at_call 164;refine HC.out.mono ?_;rintro e w1⟨rfl,hb1⟩)
    refine⟨⟨q+1,by omega,by go_num,aa fun j hj y hy=>?_,Hb.out.trans (hb1.mono Hb.out.size)⟩,by simp[intOf];omega⟩;by_cases he:j=q
    ·subst he
     have:=HX.out;rw[hy]at this;cases this;exact HP.out
    ·exact hno.out j (by omega) y hy
   ·have HC:=aa (hp▸hcall.out)
    have HP:=aa hp;clear hcall hp;go_wp2_with(go_at_call 164;refine HC.out.mono ?_;rintro e w1⟨rfl,hb1⟩)
    go_ret;refine⟨⟨(q:Nat),rfl,?_⟩,Hb.out.trans (hb1.mono Hb.out.size)⟩;rw[List.any_eq_true.2 ⟨x,dm HX.out,HP.out⟩];exact cw (by omega)
  ·obtain rfl:q=ns.length:=by omega
   go_wp2_with fail
   go_ret;refine⟨⟨-1,rfl,?_⟩,Hb.out⟩;rw[List.any_eq_false.2 fun x hx=>?_]
   ·rfl
   ·obtain⟨j,hj,he⟩:=List.getElem_of_mem hx
    rw[hno.out j hj x (by rw[bs hj,he])];decide
theorem aiw(ns:List QN)(hl:ns.length<=2000)(ad:Option Addr)(cap:Nat)(w:World)(hN:gd w ad ns)
 (hf:∀x∈ns,∀pa pc w',ft w' 100 pa x.els.length (ji x.els)->Calls prog 164 #[vw x pa pc] w' fun e w2=>e=.returned (.bool (!my x))/\Below w'.heap.size w' w2):
 Calls prog 122 #[.slice ad ns.length cap,.func (.func 164) #[] #[]] w fun e w'=>e=.returned (.bool (ns.any fun x=> !my x))/\Below w.heap.size w w':=by
 have Q:=aa (ait ns hl ad cap w hN hf);clear hf hN;go_enter func122,ntmps122;go_wp2_with fail
 go_at_call 171;refine Q.out.mono ?_;rintro e w1⟨⟨i,rfl,hi⟩,hb1⟩;have HI:=aa hi;have B1:=aa hb1;clear hi hb1;go_wp2_with fail
 go_ret;exact⟨by rw[<-HI.out];rfl,B1.out⟩
theorem aiu(ns:List QN)(hl:ns.length<=2000)(ad:Option Addr)(cap:Nat)(w:World)(hN:gd w ad ns)
 (hf:∀x∈ns,∀pa pc w',ft w' 100 pa x.els.length (ji x.els)->Calls prog 123 #[vw x pa pc] w' fun e w2=>e=.returned (.bool (x.kind==4||x.kind==5))/\Below w'.heap.size w' w2):
 Calls prog 171 #[.slice ad ns.length cap,.func (.func 123) #[] #[]] w fun e w'=>(∃i:Int,e=.returned (.int .i64 i)/\decide (i>=0)=ns.any fun x=>x.kind==4||x.kind==5)/\Below w.heap.size w w':=by
 have HF:=aa hf;have HN:=aa hN;have hnI:(ns.length:Int)<=2000:=by omega
 clear hf hN;go_enter func171,ntmps171;go_wp2_with fail
 go_loopw[8] (fun i wr=>∃q:Nat,q<=ns.length/\i=.int .i64 q/\Hid (∀j,j<q->∀x,ns[j]?=some x->(x.kind==4||x.kind==5)=false)/\Below w.heap.size w wr) (fun i _=>ns.length-(intOf i).toNat)
 case atStart=>exact⟨0,by omega,rfl,aa fun j h=>absurd h (Nat.not_lt_zero j),ae⟩
 case round=>
  obtain⟨q,hq,rfl,hno,hb⟩:=hrel;have Hb:=aa hb;clear hb;by_cases hlt:q<ns.length
  ·have hlti:(q:Int)<ns.length:=by omega
   have hq0:(0:Int)<=q:=by omega
   obtain⟨x,hx⟩:∃x,ns[q]?=some x:=⟨_,bs hlt⟩;obtain⟨b,o,pa,pc,rfl,hbm,e0,e1,e2,e3,hr⟩:=(HN.out.below Hb.out).at hx;have hcall:=aa (HF.out x (dm hx) pa pc wr hr);have HX:=aa hx;clear hx hr;cases hp:(x.kind==4||x.kind==5)
   ·have HC:=aa (hp▸hcall.out)
    have HP:=aa hp;clear hcall hp;go_wp2_with(go_at_call 123;refine HC.out.mono ?_;rintro e w1⟨rfl,hb1⟩)
    refine⟨⟨q+1,by omega,by go_num,aa fun j hj y hy=>?_,Hb.out.trans (hb1.mono Hb.out.size)⟩,by simp[intOf];omega⟩;by_cases he:j=q
    ·subst he
     have:=HX.out;rw[hy]at this;cases this;exact HP.out
    ·exact hno.out j (by omega) y hy
   ·have HC:=aa (hp▸hcall.out)
    have HP:=aa hp;clear hcall hp;go_wp2_with(go_at_call 123;refine HC.out.mono ?_;rintro e w1⟨rfl,hb1⟩)
    go_ret;refine⟨⟨(q:Nat),rfl,?_⟩,Hb.out.trans (hb1.mono Hb.out.size)⟩;rw[List.any_eq_true.2 ⟨x,dm HX.out,HP.out⟩];exact cw (by omega)
  ·obtain rfl:q=ns.length:=by omega
   go_wp2_with fail
   go_ret;refine⟨⟨-1,rfl,?_⟩,Hb.out⟩;rw[List.any_eq_false.2 fun x hx=>?_]
   ·rfl
   ·obtain⟨j,hj,he⟩:=List.getElem_of_mem hx
    rw[hno.out j hj x (by rw[bs hj,he])];decide
theorem aix(ns:List QN)(hl:ns.length<=2000)(ad:Option Addr)(cap:Nat)(w:World)(hN:gd w ad ns)
 (hf:∀x∈ns,∀pa pc w',ft w' 100 pa x.els.length (ji x.els)->Calls prog 123 #[vw x pa pc] w' fun e w2=>e=.returned (.bool (x.kind==4||x.kind==5))/\Below w'.heap.size w' w2):
 Calls prog 122 #[.slice ad ns.length cap,.func (.func 123) #[] #[]] w fun e w'=>e=.returned (.bool (ns.any fun x=>x.kind==4||x.kind==5))/\Below w.heap.size w w':=by
 have Q:=aa (aiu ns hl ad cap w hN hf);clear hf hN;go_enter func122,ntmps122;go_wp2_with fail
 go_at_call 171;refine Q.out.mono ?_;rintro e w1⟨⟨i,rfl,hi⟩,hb1⟩;have HI:=aa hi;have B1:=aa hb1;clear hi hb1;go_wp2_with fail
 go_ret;exact⟨by rw[<-HI.out];rfl,B1.out⟩
theorem ah5(T:QT)(hl:(ew T).length<=2000)(ad:Option Addr)(cap:Nat)(w:World)(hN:gd w ad (ew T)):
 Calls prog 62 #[.slice ad (ew T).length cap] w fun e w'=>e=.returned (.bool (jk T))/\Below w.heap.size w w':=by
 have Q:=aa (aix (ew T) hl ad cap w hN fun x hx pa pc w' _=>anx x (po T x hx) pa pc w');have e:jk T= !((ew T).any fun x=>x.kind==4||x.kind==5):=by
  unfold jk;rw[List.not_any_eq_all_not]
 rw[e];clear e hN;generalize (ew T).length=F at *;generalize ((ew T).any fun x=>x.kind==4||x.kind==5)=b at *;go_enter func62,ntmps62;go_wp2_with(go_at_call 122;(with_reducible refine Q.out.mono ?_);rintro e w1⟨rfl,hb1⟩;have B1:=aa hb1;clear hb1)
 go_ret;exact⟨rfl,B1.out⟩
theorem aav(T:QT)(hl:(ew T).length<=2000)(hE:∀x∈ew T,x.els.length<=2000)(ad:Option Addr)(cap:Nat)(hc:(ew T).length<=cap)(w:World)(hN:gd w ad (ew T)):
 Calls prog 113 #[.slice ad (ew T).length cap] w fun e w'=>e=.returned (.bool (ir T))/\Below w.heap.size w w':=by
 have Q:=aa (aiw (ew T) hl ad cap w hN fun x hx pa pc w' h=>anw x (po T x hx) (hE x hx) pa pc w' h);have QD:=aa fun w'(hb:Below w.heap.size w w')=>yi T hl ad cap hc w' (hN.below hb)
 have e:ir T=(!((ew T).any fun x=> !my x)&&(decide ((ew T).length<=64)&&decide (jt T<=16))):=by
  unfold ir;rw[List.not_any_eq_all_not];simp only[Bool.not_not]
 rw[e];have hp:=rp T;have hd:jt T<=2000:=ba (xj T) hl;clear e hN hE;generalize (ew T).length=F at *;generalize jt T=D at *;generalize ((ew T).any fun x=> !my x)=b at *;have hD0:(0:Int)<D:=by omega
 by_cases h64:(64:Int)<F
 ·have h64':¬F<=64:=by omega
  go_enter func113,ntmps113;go_wp2_with fail
  go_ret;exact⟨by simp[h64'],ae⟩
 ·have h64':F<=64:=by omega
  cases b
  ·by_cases h16:(16:Int)<D
   ·have h16':¬D<=16:=by omega
    have h16i:¬(D:Int)<=16:=by omega
    go_enter func113,ntmps113;go_wp2_with(first|(go_at_call 122;(with_reducible refine Q.out.mono ?_);rintro e w1⟨rfl,hb1⟩;have B1:=aa hb1;clear hb1)|(go_at_call 105;(with_reducible refine(QD.out _ B1.out).mono ?_);rintro e w2⟨rfl,hb2⟩;have B2:=aa (B1.out.trans (hb2.mono B1.out.size));clear hb2))
    go_ret;exact⟨by simp[h16',h16i],B2.out⟩
   ·have h16':D<=16:=by omega
    have h16i:(D:Int)<=16:=by omega
    go_enter func113,ntmps113;go_wp2_with(first|(go_at_call 122;(with_reducible refine Q.out.mono ?_);rintro e w1⟨rfl,hb1⟩;have B1:=aa hb1;clear hb1)|(go_at_call 105;(with_reducible refine(QD.out _ B1.out).mono ?_);rintro e w2⟨rfl,hb2⟩;have B2:=aa (B1.out.trans (hb2.mono B1.out.size));clear hb2))
    go_ret;exact⟨by simp[h16',h64'],B2.out⟩
  ·go_enter func113,ntmps113
   go_wp2_with(go_at_call 122;(with_reducible refine Q.out.mono ?_);rintro e w1⟨rfl,hb1⟩;have B1:=aa hb1;clear hb1)
   go_ret;exact⟨by simp,B1.out⟩
end
end Go.Proofs.YtjfkmoinldlmaaaGreat
