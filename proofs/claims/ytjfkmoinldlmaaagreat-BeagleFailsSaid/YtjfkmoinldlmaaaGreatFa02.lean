/- The walk of BeagleFails, part 2. What the walks share: a class as a value, a variable that holds one, and worlds that keep what was there. append of one element onto a slice of the call's own, for each element type of this program; rows that the call owns, kept while memory grows. Walks of the package residue: Prime, Of, Add, Sub, Mul, Inv, Root. '==' on classes and on pairs of bytes: what the model's comparison answers. -/
import Derived.Test.YtjfkmoinldlmaaaGreatFa01
import Derived.Test.YtjfkmoinldlmaaaGreatFa00
import Derived.Test.YtjfkmoinldlmaaaGreatRows
namespace Go.Proofs.YtjfkmoinldlmaaaGreat
open Go.Proofs.Tryz
section
open Go.RowKit
abbrev cv(S:Nat->Bool):Value:=.agg #[.int .u64 (wd S 0:Nat),.int .u64 (wd S 1:Nat),.int .u64 (wd S 2:Nat),.int .u64 (wd S 3:Nat)]
theorem agi{S T:Nat->Bool}(h:∀n,n<256->S n=T n):cv S=cv T:=by
 obtain⟨h0,h1,h2,h3⟩:=(xx S T).1 ((jp S T).2 h);unfold cv;rw[h0,h1,h2,h3]
abbrev fo(W w':World):Prop:=
 (∀b o,b<W.heap.size->w'.cell? ⟨b,o,none⟩=W.cell? ⟨b,o,none⟩)/\(∀b o,b<W.heap.size->w'.frozen? ⟨b,o,none⟩=W.frozen? ⟨b,o,none⟩)/\W.heap.size<=w'.heap.size/\Below W.heap.size W w'
theorem fo.of{W w':World}(h:Below W.heap.size W w'):fo W w':=
 ⟨fun b o hb=>h.cell (p:=⟨b,o,none⟩) hb,fun b o hb=>h.frozen (p:=⟨b,o,none⟩) hb,h.size,h⟩
theorem fo.refl(W:World):fo W W:=.of ae
theorem fo.start(W:World):fo W W.drew:=.of ae.drew
theorem fo.call{W w w':World}(h:fo W w)(hb:Below w.heap.size w w'):fo W w':=.of (h.2.2.2.trans (hb.mono h.2.2.1))
theorem fo.calld{W w w':World}(h:fo W w)(hb:Below w.drew.heap.size w.drew w'):fo W w':=.of (h.2.2.2.trans ((aw _ w).drew.trans (hb.mono h.2.2.1)))
theorem fo.alloc{W w:World}(h:fo W w)(o:Obj):fo W (w.alloc o):=.of (h.2.2.2.alloc h.2.2.1 o)
theorem fo.trans{a b c:World}(h:fo a b)(k:fo b c):fo a c:=.of (h.2.2.2.trans (k.2.2.2.mono h.2.2.1))
abbrev fc(w:World)(B:Nat)(S:Nat->Bool):Prop:=
 (w.cell? ⟨B,0,none⟩=some (.int .u64 (wd S 0:Nat))/\w.cell? ⟨B,1,none⟩=some (.int .u64 (wd S 1:Nat))/\w.cell? ⟨B,2,none⟩=some (.int .u64 (wd S 2:Nat))/\w.cell? ⟨B,3,none⟩=some (.int .u64 (wd S 3:Nat)))∧
 (w.frozen? ⟨B,0,none⟩=false/\w.frozen? ⟨B,1,none⟩=false/\w.frozen? ⟨B,2,none⟩=false/\w.frozen? ⟨B,3,none⟩=false)/\B<w.heap.size
abbrev setC(w:World)(B:Nat)(S:Nat->Bool):World:=
 (((w.setCell ⟨B,0,none⟩ (.int .u64 (wd S 0:Nat))).setCell ⟨B,1,none⟩ (.int .u64 (wd S 1:Nat))).setCell ⟨B,2,none⟩ (.int .u64 (wd S 2:Nat))).setCell ⟨B,3,none⟩ (.int .u64 (wd S 3:Nat))
theorem fc.set{w:World}{B:Nat}{S:Nat->Bool}(h:fc w B S)(T:Nat->Bool):fc (setC w B T) B T:=by
 obtain⟨⟨c0,c1,c2,c3⟩,⟨f0,f1,f2,f3⟩,hl⟩:=h;refine⟨⟨?_,?_,?_,?_⟩,⟨?_,?_,?_,?_⟩,?_⟩<;>simp[go_sem,c0,c1,c2,c3,f0,f1,f2,f3,hl]
theorem fc.below{w w':World}{B n:Nat}{S:Nat->Bool}(h:fc w B S)(hb:Below n w w')(hn:B<n):fc w' B S:=by
 obtain⟨⟨c0,c1,c2,c3⟩,⟨f0,f1,f2,f3⟩,hl⟩:=h;have hc:=fun o=>hb.cell (p:=⟨B,o,none⟩) hn
 have hf:=fun o=>hb.frozen (p:=⟨B,o,none⟩) hn
 exact⟨⟨(hc 0).trans c0,(hc 1).trans c1,(hc 2).trans c2,(hc 3).trans c3⟩,⟨(hf 0).trans f0,(hf 1).trans f1,(hf 2).trans f2,(hf 3).trans f3⟩,az hl hb.size⟩
theorem jg{n:Nat}{a w:World}(h:Below n a w){B:Nat}(hB:n<=B)(S:Nat->Bool):Below n a (setC w B S):=
 (((h.setCell (p:=⟨B,0,none⟩) hB _).setCell (p:=⟨B,1,none⟩) hB _).setCell (p:=⟨B,2,none⟩) hB _).setCell (p:=⟨B,3,none⟩) hB _
theorem fc.new(w:World)(S:Nat->Bool):fc (w.alloc (.cells #[.int .u64 (wd S 0:Nat),.int .u64 (wd S 1:Nat),.int .u64 (wd S 2:Nat),.int .u64 (wd S 3:Nat)] 100)) w.heap.size S:=by
 refine⟨⟨?_,?_,?_,?_⟩,⟨?_,?_,?_,?_⟩,?_⟩<;>simp[go_sem]
theorem fc.new0(w:World):fc (w.alloc (.cells #[.int .u64 0,.int .u64 0,.int .u64 0,.int .u64 0] 100)) w.heap.size fu:=by
 have h:=fc.new w fu;simp only[je]at h;simp only[fc,je];exact h
theorem fc.alloc{w:World}{B:Nat}{S:Nat->Bool}(h:fc w B S)(o:Obj):fc (w.alloc o) B S:=
 h.below ((aw _ w).alloc ac o) h.2.2
theorem x8{a b:Value}(h:a=b):Ending.returned a=.returned b:=by rw[h]
end
section
set_option maxRecDepth 100000
open Go.RowKit
def mi(T E size bytes:Nat):Prop:=
 ∃(i:TypeInfo)(z:Value),prog.underlying T=some (.slice E)/\prog.info? E=some i/\i.zero=some z/\i.size=size/\i.bytes=bytes/\z.cells.size=size/\0<size
theorem lj{T E size bytes:Nat}{z:Value}(ht:prog.underlying T=some (.slice E))(h:(prog.info? E).map (fun i=>(i.zero,i.size,i.bytes))=some (some z,size,bytes))(hz:z.cells.size=size)(hs:0<size):mi T E size bytes:=by
 obtain⟨i,hi,h1,h2,h3⟩:=info_parts h;exact⟨i,z,ht,hi,h1,h2,h3,hz,hs⟩
theorem iv:mi 24 3 1 8:=lj (z:=.int .i64 0) underlying24 (by kernel_rfl) rfl (by decide)
theorem elem112:mi 112 4 1 1:=lj (z:=.bool false) underlying112 (by kernel_rfl) rfl (by decide)
theorem ot:mi 50 100 4 32:=lj (z:=.agg #[.int .u64 0,.int .u64 0,.int .u64 0,.int .u64 0]) underlying50 (by kernel_rfl) rfl (by decide)
theorem elem118:mi 118 5 1 1:=lj (z:=.int .u8 0) underlying118 (by kernel_rfl) rfl (by decide)
theorem ib{base:Nat}{w w':World}{row:Option Nat}(hg:w.grownBy w' row)(hB:base<=w.heap.size)(hr:∀k,row=some k->base<=k):Below base w w':=
 (aw base w).grown hg hB hr
theorem gn{w w1:World}(h:Below w.heap.size w w1)(row:Option Nat):w.grownBy w1 row:=⟨h.os,h.tape,h.output,h.size,fun i hi _=>h.block i hi⟩
theorem fe{w w1:World}{base:Nat}{e:TypeId}{size n:Nat}{v:Value}{xs:List Value}(h:w.ownsRow base e size v n xs)(hb:Below w.heap.size w w1):w1.ownsRow base e size v n xs:=
 h.kept (gn hb none) (by cases v.ownBlock<;>simp)
theorem gj{T E size bytes base:Nat}(hE:mi T E size bytes){ops:Array Oper}{rest:List Oper}{o:Oper}{a:Act}{Q:Exit->Act->World->Prop}(hgd:o.guard=none)(s x:Operand)
 (ho:o.op=.call {callee:=.builtin .append,args:=#[s,x],argTypes:=#[T,T]})
 {v:Value} {n:Nat} {xs:List Value} (hs:a.eval s=v) {w0:World} (hown:w0.ownsRow base E size v n xs) (nc:List Value)
 (hx:a.eval x=.slice (some ⟨w0.heap.size,0,none⟩) 1 1) (hl:nc.length=size) (h1:∀u∈nc,u.oneCell'=true) (hn:n+1<=maxLen) (hbytes:(n+1)*bytes<=140737488355328) (hbase:base<=w0.heap.size)
 (h:∀v' w',w'.ownsRow base E size v' (n+1) (xs++nc)->Below base w0 w'->wpList prog ops Q rest (a.put o.dst v') w'):
 wpList prog ops Q (o::rest) a (w0.alloc (.cells nc.toArray E)):=by
 obtain⟨i,z,ht,hi,hz,hsize,hby,hzs,hsz⟩:=hE;refine wpList_append_own (w0.alloc (.cells nc.toArray E)) hgd s x T ho base E i z size bytes ht hi hz hsize hby hzs hsz v n xs hs (hown.alloc _) ⟨w0.heap.size,0,none⟩ 1 1 nc hx (by omega) ?_ h1 hn hbytes (by simp;omega) ?_
 ·intro j u hj
  have e:(⟨w0.heap.size,0,none⟩:Addr).add j=⟨w0.heap.size,j,none⟩:=by unfold Addr.add;split<;>simp_all
  rw[e,World.cell?_alloc_new];simpa using hj
 ·intro v' w' h2 h3 _
  refine h v' w' h2 ?_;have hlt:=(hown.alloc (.cells nc.toArray E)).lt;exact((aw base w0).alloc hbase _).trans (ib h3 (by simp;omega) fun k hk=>(hlt k hk).1)
end
section
set_option maxRecDepth 100000
open Go.RowKit
theorem lh(k:Nat)(hk:k<3)(w:World):Calls prog 42 #[.int .i64 (k:Nat)] w fun e w'=>e=.returned (.int .u64 (P3 k:Nat))/\Below w.heap.size w w':=by
 have h0:Calls prog 42 #[.int .i64 0] w fun e w'=>e=.returned (.int .u64 998244353)/\Below w.heap.size w w':=by
  go_enter func42,ntmps42;go_wp2;go_ret;exact⟨rfl,ae.alloc ac _⟩
 have h1:Calls prog 42 #[.int .i64 1] w fun e w'=>e=.returned (.int .u64 167772161)/\Below w.heap.size w w':=by
  go_enter func42,ntmps42;go_wp2;go_ret;exact⟨rfl,ae.alloc ac _⟩
 have h2:Calls prog 42 #[.int .i64 2] w fun e w'=>e=.returned (.int .u64 469762049)/\Below w.heap.size w w':=by
  go_enter func42,ntmps42;go_wp2;go_ret;exact⟨rfl,ae.alloc ac _⟩
 have:k=0\/k=1\/k=2:=by omega
 rcases this with rfl|rfl|rfl
 ·exact h0
 ·exact h1
 ·exact h2
theorem mq(k:Nat)(hk:k<3)(a:Nat)(w:World):Calls prog 17 #[.int .i64 (k:Nat),.int .u64 (a:Nat)] w fun e w'=>e=.returned (.int .u64 (a%P3 k:Nat))/\Below w.heap.size w w':=by
 have hp:=fun w'=>lh k hk w'
 have h0:=mt k;have hl:=abv k;generalize P3 k=p at hp h0 hl;have HP:=aa hp;clear hp;have hp0:(0:Int)<p:=by omega
 have ha:(0:Int)<=a:=by omega
 have hne:((p:Int)==0)=false:=by rw[ax];omega
 have hne2:¬((p:Int)=0):=by omega
 go_enter func17,ntmps17;go_wp2_with(first|(go_at_call 42;refine(HP.out _).mono ?_;rintro e w1⟨rfl,hb1⟩))
 go_ret;exact⟨rfl,hb1⟩
theorem add_res(k:Nat)(hk:k<3)(a b:Nat)(w:World):Calls prog 15 #[.int .i64 (k:Nat),.int .u64 (a:Nat),.int .u64 (b:Nat)] w fun e w'=>e=.returned (.int .u64 (addN k a b:Nat))/\Below w.heap.size w w':=by
 have h1:=fun w'=>mq k hk a w'
 have h2:=fun w'=>mq k hk b w'
 have h3:=fun w'=>mq k hk (a%P3 k+b%P3 k) w'
 have l1:=Nat.mod_lt a (mt k);have l2:=Nat.mod_lt b (mt k);have hl:=abv k;unfold addN;generalize (a%P3 k+b%P3 k)%P3 k=r at h3⊢;generalize a%P3 k=x at h1 h3 l1;generalize b%P3 k=y at h2 h3 l2;have hx:(x:Int)<=1073741824:=by omega
 have hy:(y:Int)<=1073741824:=by omega
 have hs:((x+y:Nat):Int)=(x:Int)+y:=by omega
 rw[hs]at h3;have H1:=aa h1;have H2:=aa h2;have H3:=aa h3;clear h1 h2 h3 l1 l2 hl hs;go_enter func15,ntmps15;go_wp2_with fail
 refine(H1.out _).mono ?_;rintro e w1⟨rfl,hb1⟩;go_wp2_with fail
 refine(H2.out _).mono ?_;rintro e w2⟨rfl,hb2⟩;go_wp2_with fail
 refine(H3.out _).mono ?_;rintro e w3⟨rfl,hb3⟩;go_wp2_with fail
 go_ret;exact⟨rfl,hb1.trans ((hb2.trans (hb3.mono hb2.size)).mono hb1.size)⟩
theorem uk(k:Nat)(hk:k<3)(a b:Nat)(w:World):Calls prog 16 #[.int .i64 (k:Nat),.int .u64 (a:Nat),.int .u64 (b:Nat)] w fun e w'=>e=.returned (.int .u64 (j1 k a b:Nat))/\Below w.heap.size w w':=by
 have h1:=fun w'=>mq k hk a w'
 have h2:=fun w'=>mq k hk b w'
 have h3:=fun w'=>mq k hk (a%P3 k*(b%P3 k)) w'
 have l1:=Nat.mod_lt a (mt k);have l2:=Nat.mod_lt b (mt k);have hl:=abv k;unfold j1;generalize (a%P3 k*(b%P3 k))%P3 k=r at h3⊢;generalize a%P3 k=x at h1 h3 l1;generalize b%P3 k=y at h2 h3 l2;have hxy:x*y<=1073741824*1073741824:=Nat.mul_le_mul (by omega) (by omega);have hs:((x*y:Nat):Int)=(x:Int)*y:=Int.natCast_mul _ _;have hw:IntKind.u64.wrap ((x:Int)*y)=(x:Int)*y:=by
  rw[<-hs];generalize x*y=z at hxy;rw[IntKind.wrap_u64];omega
 rw[hs]at h3;have H1:=aa h1;have H2:=aa h2;have H3:=aa h3;clear h1 h2 h3 l1 l2 hl hs hxy;go_enter func16,ntmps16;go_wp2_with fail
 refine(H1.out _).mono ?_;rintro e w1⟨rfl,hb1⟩;go_wp2_with fail
 refine(H2.out _).mono ?_;rintro e w2⟨rfl,hb2⟩;go_wp2_with fail
 refine(H3.out _).mono ?_;rintro e w3⟨rfl,hb3⟩;go_wp2_with fail
 go_ret;exact⟨rfl,hb1.trans ((hb2.trans (hb3.mono hb2.size)).mono hb1.size)⟩
theorem ac6(k:Nat)(hk:k<3)(a b:Nat)(w:World):Calls prog 176 #[.int .i64 (k:Nat),.int .u64 (a:Nat),.int .u64 (b:Nat)] w fun e w'=>e=.returned (.int .u64 (uv k a b:Nat))/\Below w.heap.size w w':=by
 have h1:=fun w'=>mq k hk a w'
 have h2:=fun w'=>mq k hk b w'
 have h3:=fun w'=>mq k hk (a%P3 k+P3 k-b%P3 k) w'
 have h4:=fun w'=>lh k hk w'
 have l1:=Nat.mod_lt a (mt k);have l2:=Nat.mod_lt b (mt k);have hl:=abv k;unfold uv;generalize (a%P3 k+P3 k-b%P3 k)%P3 k=r at h3⊢;generalize a%P3 k=x at h1 h3 l1;generalize b%P3 k=y at h2 h3 l2;generalize P3 k=p at h3 h4 l1 l2 hl;have hx:(x:Int)<=1073741824:=by omega
 have hp:(p:Int)<=1073741824:=by omega
 have hy:(y:Int)<=(x:Int)+p:=by omega
 have hs:((x+p-y:Nat):Int)=(x:Int)+p-y:=by omega
 rw[hs]at h3;have H1:=aa h1;have H2:=aa h2;have H3:=aa h3;have H4:=aa h4;clear h1 h2 h3 h4 l1 l2 hl hs;go_enter func176,ntmps176;go_wp2_with fail
 refine(H1.out _).mono ?_;rintro e w1⟨rfl,hb1⟩;go_wp2_with fail
 refine(H4.out _).mono ?_;rintro e w4⟨rfl,hb4⟩;go_wp2_with fail
 refine(H2.out _).mono ?_;rintro e w2⟨rfl,hb2⟩;go_wp2_with fail
 refine(H3.out _).mono ?_;rintro e w3⟨rfl,hb3⟩;go_wp2_with fail
 go_ret;have hb14:=hb1.trans (hb4.mono hb1.size);exact⟨rfl,hb14.trans ((hb2.trans (hb3.mono hb2.size)).mono hb14.size)⟩
end
section
set_option linter.unusedSimpArgs false
set_option maxRecDepth 100000
set_option linter.unusedSimpArgs false
open Go.RowKit
theorem aaq(x0 x1 x2 x3:Value)(w:World):(part 46 #[x0,x1,x2,x3] 0).run prog w=.ok x0 w/\(part 46 #[x0,x1,x2,x3] 1).run prog w=.ok x1 w/\(part 46 #[x0,x1,x2,x3] 2).run prog w=.ok x2 w/\(part 46 #[x0,x1,x2,x3] 3).run prog w=.ok x3 w:=
 ⟨by kernel_rfl,by kernel_rfl,by kernel_rfl,by kernel_rfl⟩
theorem apf(d:Nat)(a0 a1 a2 a3 b0 b1 b2 b3:Int)(w:World):
 (Op.equalIn (d+2) 100 (.agg #[.int .u64 a0,.int .u64 a1,.int .u64 a2,.int .u64 a3]) (.agg #[.int .u64 b0,.int .u64 b1,.int .u64 b2,.int .u64 b3])).run prog w=.ok (a0==b0&&(a1==b1&&(a2==b2&&a3==b3))) w:=by
 have hs:(sizeOf 46).run prog w=.ok 1 w:=by kernel_rfl
 obtain⟨p0,p1,p2,p3⟩:=aaq (.int .u64 a0) (.int .u64 a1) (.int .u64 a2) (.int .u64 a3) w;obtain⟨q0,q1,q2,q3⟩:=aaq (.int .u64 b0) (.int .u64 b1) (.int .u64 b2) (.int .u64 b3) w;have he:∀a b:Int,(Op.equalIn (d+1) 46 (.int .u64 a) (.int .u64 b)).run prog w=.ok (a==b) w:=fun a b=>run_equalIn_int w d 46 .u64 .u64 a b underlying46
 rw[Op.equalIn];simp only[Sem.run_bind,run_underlying underlying100,Result.andThen_ok,hs];have hr:∀{β:Type}(f:Nat->β->Sem (ForInStep β))(x:β),forIn ([0:4]:Std.Legacy.Range) x f=forIn [0,1,2,3] x f:=fun f x=>by simp[Std.Legacy.Range.forIn_eq_forIn_range'];rfl
 simp only[hr,List.forIn_cons,List.forIn_nil,Sem.run_bind,p0,q0,he,Result.andThen_ok,Nat.mul_one,Sem.run_ite,Sem.run_pure];cases h0:a0==b0
 ·simp
 ·simp only[Bool.not_true,Bool.false_eq_true,if_false,Result.andThen_ok,Sem.run_bind,p1,q1,he,Sem.run_ite,Sem.run_pure,Bool.true_and]
  cases h1:a1==b1
  ·simp
  ·simp only[Bool.not_true,Bool.false_eq_true,if_false,Result.andThen_ok,Sem.run_bind,p2,q2,he,Sem.run_ite,Sem.run_pure,Bool.true_and]
   cases h2:a2==b2
   ·simp
   ·simp only[Bool.not_true,Bool.false_eq_true,if_false,Result.andThen_ok,Sem.run_bind,p3,q3,he,Sem.run_ite,Sem.run_pure,Bool.true_and]
    cases h3:a3==b3<;>simp
theorem aev(S T:Nat->Bool):(((wd S 0:Nat):Int)==(wd T 0:Nat)&&(((wd S 1:Nat):Int)==(wd T 1:Nat)&&(((wd S 2:Nat):Int)==(wd T 2:Nat)&&((wd S 3:Nat):Int)==(wd T 3:Nat))))=fj S T:=by
 rw[Bool.eq_iff_iff,xx];simp only[ce,beq_iff_eq];omega
@[go_sem] theorem ahi (S T:Nat->Bool) (w:World):(Op.equalIn 10000 100 (cv S) (cv T)).run prog w=.ok (fj S T) w:=by
 rw[<-aev];exact apf 9998 _ _ _ _ _ _ _ _ w
@[go_sem] theorem run_eq_cls0 (S:Nat->Bool) (w:World):(Op.equalIn 10000 100 (cv S) (.agg #[.int .u64 0,.int .u64 0,.int .u64 0,.int .u64 0])).run prog w=.ok (fj S fu) w:=by
 have h:=ahi S fu w;simp only[cv,je]at h;exact h
end
end Go.Proofs.YtjfkmoinldlmaaaGreat
