/- The walk of BeagleFails, part 30. strings.IndexByte, off the shelf, in plain words. Walks of the scanner: a byte, a pattern, a token. Rows of cells of a type; rows of records; what keeps them. Walks of scanner.token and token.Lex at one text. Walks of the parser at one token. Plain: trees: their depth, which are right, their leaves, how nodes are joined to trees. Plain: what a search finds that goes on, a piece after a piece; numbers put into a rising row. Walks of the scanner at any text: end, has, fails, sign. -/
import Derived.Test.YtjfkmoinldlmaaaGreatFa29
import Derived.Shelf.Small.Strs
namespace Go.Proofs.YtjfkmoinldlmaaaGreat
open Go.Proofs.Tryz
section
open Go.RowKit Go.Shelf
def lay137r:Go.Shelf.Ren:=⟨fun|137=>205|217=>229|266=>241|n=>n,fun|9=>9|5=>5|3=>3|n=>n,fun|n=>n⟩
theorem lay137:Go.Proofs.Lays.n137 prog lay137r:={
 mixed:=by kernel_rfl
 f137:=func205.trans (congrArg some (by kernel_rfl))
 f217:=func229.trans (congrArg some (by kernel_rfl))
 f266:=func241.trans (congrArg some (by kernel_rfl))
 t3:=underlying3
 a3:=isAgg3
 z3:=sizeOf3
 v3:=zeroValue3
 t5:=underlying5
 a5:=isAgg5
 z5:=sizeOf5
 v5:=zeroValue5
 t9:=underlying9
 a9:=isAgg9
 z9:=sizeOf9
 v9:=zeroValue9}
theorem qa(s:ByteArray)(c:Int)(w:World):
 Calls prog 205 #[.string s,.int .u8 c] w fun e w'=>e=.returned (.int .i64 (Lib.indexByte s.data.toList c.toNat.toUInt8))/\w'=w:=Any.strings_IndexByte lay137 s c w
end
section
set_option maxRecDepth 100000
set_option maxHeartbeats 4000000
open Go.RowKit Go.Shelf
theorem ae6(b:Nat)(h1:32<=b)(h2:b<=126)(w:World):Calls prog 240 #[.int .u8 (b:Nat)] w fun e w'=>e=.returned (.bool true)/\w'=w:=by
 have h1':(32:Int)<=b:=by omega
 have h2':(b:Int)<=126:=by omega
 go_enter func240,ntmps240;go_wp2_with fail
 go_ret;exact⟨rfl,rfl⟩
theorem one_at(C:Nat)(k:Nat)(hk:k<4)(b:Nat)(hb:∀h:k<qs.size,(qs[k].toNat:Int)=(b:Int))(h1:32<=b)(h2:b<=126)(h9:b≠92)(w:World)(hC:At w C (qt k)):
 Calls prog 228 #[.pointer (some ⟨C,0,none⟩),.string ⟨#[]⟩,.int .i64 130] w fun e w'=>e=.returned (.int .u8 (b:Nat))/\Ex [C] w w'/\At w' C (qt ((k:Int)+1)):=by
 have g1:=aa fun w'=>ae6 b h1 h2 w'
 have g2:=aa fun w'=>qa ⟨#[]⟩ b w'
 have HC:=aa hC;have c0:=hC.cell 0;have c1:=hC.cell 1;have fz:=hC.free 1;have cl:=hC.lt;simp only[ak,am,au]at c0 c1;have hbb:=hb hk;have h92:((b:Int)==92)=false:=by simp;omega
 have hki:(k:Int)<4:=by omega
 clear hC hb;go_enter func228,ntmps228;go_wp2_with fail
 go_quiet(fail)
 go_wp2_with(first|(go_at_call 240;refine(g1.out _).mono ?_;rintro e w1⟨rfl,rfl⟩)|(go_at_call 205;refine(g2.out _).mono ?_;rintro e w1⟨rfl,rfl⟩))
 go_ret;exact⟨rfl,Ex.set (b:=w.drewN nq) (Ex.of (cu ae _)) C 1 _ (by simp),At.set (w:=w.drewN nq) HC.out 1 _⟩
def jmp(P:Program)(rest:Code)(l:Nat)(Q:Exit->Act->World->Prop):Nat->Act->World->Prop
 |0,_,_=>False
 |n+1,a,w=>rest.wp P (Exit.jump l (jmp P rest l Q n) Q) a w
theorem ag4{P:Program}{a:Act}{w:World}{Q:Exit->Act->World->Prop}{c rest:Code}(n l:Nat)(hf:findLabel c l=some rest)
 (first:c.wp P (Exit.jump l (jmp P rest l Q n) Q) a w):(Code.scope c).wp P Q a w:=by
 intro b k cs;have hg:gotoIn l (.inScope c::k)=some (.code rest::.inScope c::k):=by simp[gotoIn,hf]
 have key:∀n a w,jmp P rest l Q n a w->∃e a' w',Q e a' w'/\Arrives P (lone (b.at a (.code rest::.inScope c::k)) cs w) b k cs e a' w':=by
  intro n;induction n with
  |zero=>intro a w h;exact h.elim
  |succ n ih=>
   intro a w hJ;obtain⟨e,a₁,w₁,hq,harr⟩:=hJ b (.inScope c::k) cs;cases e with
   |normal=>exact⟨.normal,a₁,w₁,hq,Steps.trans harr (.one step_inScope)⟩
   |exit id=>exact⟨.exit id,a₁,w₁,hq,fun k' hk=>harr k' (by simp[exitTo,hk])⟩
   |goto l'=>
    obtain⟨rfl,hJ'⟩:=hq;obtain⟨e₂,a₂,w₂,hq₂,harr₂⟩:=ih a₁ w₁ hJ';exact⟨e₂,a₂,w₂,hq₂,.of_steps (harr _ hg) harr₂⟩
   |ret=>exact⟨_,a₁,w₁,hq,harr⟩
   |panic ch=>exact⟨_,a₁,w₁,hq,harr⟩
   |outgrown=>exact⟨_,a₁,w₁,hq,harr⟩
 obtain⟨e,a₁,w₁,hq,harr⟩:=first b (.inScope c::k) cs
 cases e with
 |normal=>exact⟨.normal,a₁,w₁,hq,.head step_scope (Steps.trans harr (.one step_inScope))⟩
 |exit id=>exact⟨.exit id,a₁,w₁,hq,fun k' hk=>.head step_scope (harr k' (by simp[exitTo,hk]))⟩
 |goto l'=>
  obtain⟨rfl,hJ'⟩:=hq;obtain⟨e₂,a₂,w₂,hq₂,harr₂⟩:=key n a₁ w₁ hJ';exact⟨e₂,a₂,w₂,hq₂,.of_steps (.head step_scope (harr _ hg)) harr₂⟩
 |ret=>exact⟨_,a₁,w₁,hq,.of_steps (.one step_scope) harr⟩
 |panic ch=>exact⟨_,a₁,w₁,hq,.of_steps (.one step_scope) harr⟩
 |outgrown=>exact⟨_,a₁,w₁,hq,.of_steps (.one step_scope) harr⟩
theorem jl{w w':World}{base:Nat}{e:TypeId}{size n C:Nat}{v:Value}{xs:List Value}(h:w.ownsRow base e size v n xs)(hb:Ex [C] w w')(hC:C<base):w'.ownsRow base e size v n xs:=by
 have hg:w.grownBy w' (some C):=⟨hb.os,hb.tape,hb.output,hb.size,fun i hi hn=>hb.block i hi (fun e=>hn (by rw[cd.1 e]))⟩;refine h.kept hg ?_;rcases h.2 with⟨rfl,_⟩|⟨g,cap,cur,rfl,hbb,_⟩
 ·exact .inl rfl
 ·refine .inr fun e'=>?_
  have:g=C:=by simpa[Value.ownBlock,eq_comm]using e'
  omega
theorem rq(b:Int)(W:World):(convert 118 9 (.slice (some ⟨W.heap.size,0,none⟩) 1 1)).run prog (W.alloc (.cells #[.int .u8 b] 5))=.ok (.string (strOfNums [b])) (W.alloc (.cells #[.int .u8 b] 5)):=by
 refine run_convert_bytes_arg _ 118 5 underlying118 underlying5 W.heap.size 0 1 1 [b] rfl (fun i hi=>?_) 9 underlying9;obtain rfl:i=0:=by omega
 simp
def sb(b:Int):Nat->Bool:=kq (strOfNums [b]) (strOfNums [b]).size
def sw(S:Nat->Bool):List Value:=[.int .u64 (wd S 0:Nat),.int .u64 (wd S 1:Nat),.int .u64 (wd S 2:Nat),.int .u64 (wd S 3:Nat)]
theorem aia(C:Nat)(w:World)(hC:At w C (qt 1)):
 Calls prog 204 #[.pointer (some ⟨C,0,none⟩)] w fun e w'=>∃v,e=.returned v/\w'.ownsRow w.heap.size 100 4 v 2 (sw (sb 97)++sw (sb 98))/\Ex [C] w w'/\At w' C (qt 4):=by
 have e1:=aa fun(k:Nat)w'(h:At w' C (qt k))=>abi C k w' h
 have q3:Hid (∀(k:Nat)(_:k<4)(_:∀h:k<qs.size,((qs[k].toNat:Int) !=63)=true)(w':World)(_:At w' C (qt k)),Calls prog 155 #[.pointer (some ⟨C,0,none⟩),.int .u8 63] w' fun e w2=>e=.returned (.bool false)/\Below w'.heap.size w' w2):=aa fun k hk hb w' h=>aiv C k hk 63 hb w' h
 have q4:Hid (∀(k:Nat)(_:k<4)(_:∀h:k<qs.size,((qs[k].toNat:Int) !=91)=true)(w':World)(_:At w' C (qt k)),Calls prog 155 #[.pointer (some ⟨C,0,none⟩),.int .u8 91] w' fun e w2=>e=.returned (.bool false)/\Below w'.heap.size w' w2):=aa fun k hk hb w' h=>aiv C k hk 91 hb w' h
 have q5:=aa fun(k:Nat)(hk:k<4)b(hb)h1 h2 h9 w'(h:At w' C (qt k))=>one_at C k hk b hb h1 h2 h9 w' h
 have q6:=aa fun(b:Int)w'=>aid (strOfNums [b]) (by rw[strOfNums_size];show 1<=_;decide) w'
 have c0:=hC.cell 0;have c1:=hC.cell 1;have c2:=hC.cell 2;have fz:=hC.free 1;have cl:=hC.lt;simp only[ak,am,au]at c0 c1 c2;have HC0:=aa hC;have cl0:=cl;have y1:(qs[1].toNat:Int)=97:=by decide
 have y2:(qs[2].toNat:Int)=98:=by decide
 have y3:(qs[3].toNat:Int)=34:=by decide
 have Hw0:Hid (w.ownsRow w.heap.size 100 4 (.slice none 0 0) 0 []):=aa (bj _ _ _ _);have He0:=aa (Ex.refl [C] w);clear hC c0 c1;go_enter func204,ntmps204;go_wp2_with fail
 refine ag4 2 0 rfl ?_;go_wp2_with fail
 go_step3;go_wp2_with(go_at_call 154;refine(e1.out 1 _ HC0.out).mono ?_;rintro e w1⟨rfl,hb1⟩;have C1:=aa (HC0.out.below hb1 cl0);have d0:=C1.out.cell 0;have d1:w1.cell? ⟨C,1,none⟩=some (.int .i64 1):=C1.out.cell 1;have d2:=C1.out.cell 2;have dz:=C1.out.free 1;have dl:=C1.out.lt;have hw1:=aa (fe Hw0.out hb1);have hE1:=aa (He0.out.then hb1);clear hb1;simp only[ak,am,au]at d0 d2)
 go_quiet(fail)
 go_wp2_with fail
 go_quiet(fail)
 have hcv:=rq 97;have q3k:Hid (∀(w':World),At w' C (qt 1)->Calls prog 155 #[.pointer (some ⟨C,0,none⟩),.int .u8 63] w' fun e w2=>e=.returned (.bool false)/\Below w'.heap.size w' w2):=aa fun w' h=>q3.out 1 (by omega) (fun _=>rfl) w' h
 have q4k:Hid (∀(w':World),At w' C (qt 1)->Calls prog 155 #[.pointer (some ⟨C,0,none⟩),.int .u8 91] w' fun e w2=>e=.returned (.bool false)/\Below w'.heap.size w' w2):=aa fun w' h=>q4.out 1 (by omega) (fun _=>rfl) w' h
 have q5k:Hid (∀(w':World),At w' C (qt 1)->Calls prog 228 #[.pointer (some ⟨C,0,none⟩),.string ⟨#[]⟩,.int .i64 130] w' fun e w2=>e=.returned (.int .u8 97)/\Ex [C] w' w2/\At w2 C (qt 2)):=aa fun w' h=>q5.out 1 (by omega) 97 (fun _=>rfl) (by omega) (by omega) (by omega) w' h
 go_wp2_with(first|(go_at_call 155;(with_reducible refine(q3k.out _ ?_).mono ?_);exact C1.out;rintro e w2⟨rfl,hb2'⟩;have hb2:Below w1.heap.size w1 w2:=⟨hb2'.os,hb2'.tape,hb2'.output,hb2'.size,hb2'.block⟩;clear hb2';have C2:Hid (At w2 C (qt 1)):=aa ((hb2.block C dl).trans C1.out);have hw2:=aa (fe (hb:=hb2) hw1.out);have hE2:=aa (Ex.then (k:=hb2) hE1.out);have dl2:=aa C2.out.lt;clear hb2)|(go_at_call 155;(with_reducible refine(q4k.out _ ?_).mono ?_);exact C2.out;rintro e w3⟨rfl,hb3⟩;have C3:Hid (At w3 C (qt 1)):=aa ((hb3.block C dl2.out).trans C2.out);have hw3:=aa (fe (hb:=hb3) hw2.out);have hE3:=aa (Ex.then (k:=hb3) hE2.out);clear hb3)|(go_at_call 228;(with_reducible refine(q5k.out _ ?_).mono ?_);exact C3.out;rintro e w4⟨rfl,he4,C4'⟩;have C4:Hid (At w4 C (qt 2)):=aa C4';have hw4:=aa (jl hw3.out he4 cl0);have hE4:Hid (Ex [C] w w4):=aa ((hE3.out.trans he4).mono (by intro x hx;left;simpa using hx));clear he4 C4')|(go_at_call 43;refine(q6.out 97 _).mono ?_;rintro e w5⟨rfl,hb5⟩;have C5:Hid (At w5 C (qt 2)):=aa ((hb5.block C (by have:=C4.out.lt;simp;omega)).trans (C4.out.alloc _));have hw5:=aa (fe (hb:=hb5) (hw4.out.alloc _));have hE5:=aa (Ex.then (k:=hb5) (hE4.out.alloc _));have hz5:=hE5.out.size;clear hb5)|(at_builtin;refine gj ot rfl _ _ rfl rfl hw5.out (sw (sb 97)) (by simp[go_sem]) rfl (by simp[Value.oneCell',sw]) (by unfold maxLen;omega) (by omega) hz5 ?_;intro v6 wA hown6 hb6;obtain⟨adA,capA,rfl⟩:=ey hown6;have HC1:Hid (At wA C (qt 2)):=aa (C5.out.below hb6 cl0);have Hw1:Hid (wA.ownsRow w.heap.size 100 4 (.slice adA 1 capA) 1 (sw (sb 97))):=aa hown6;have He1:Hid (Ex [C] w wA):=aa (hE5.out.far hb6 ac);have cl1:=HC1.out.lt))
 clear C1 d0 d1 d2 dz dl hw1 hE1 C2 hw2 hE2 dl2 C3 hw3 hE3 C4 hw4 hE4 C5 hw5 hE5 hz5 q3k q4k q5k hcv;go_step3;refine⟨rfl,?_⟩;unfold jmp;have u1:=HC1.out.cell 2;simp only[ak,am,au]at u1;go_wp2_with(go_at_call 154;refine(e1.out 2 _ HC1.out).mono ?_;rintro e w1⟨rfl,hb1⟩;have C1:=aa (HC1.out.below hb1 cl1);have d0:=C1.out.cell 0;have d1:w1.cell? ⟨C,1,none⟩=some (.int .i64 2):=C1.out.cell 1;have d2:=C1.out.cell 2;have dz:=C1.out.free 1;have dl:=C1.out.lt;have hw1:=aa (fe Hw1.out hb1);have hE1:=aa (He1.out.then hb1);clear hb1;simp only[ak,am,au]at d0 d2)
 go_quiet(fail)
 go_wp2_with fail
 go_quiet(fail)
 have hcv:=rq 98;have q3k:Hid (∀(w':World),At w' C (qt 2)->Calls prog 155 #[.pointer (some ⟨C,0,none⟩),.int .u8 63] w' fun e w2=>e=.returned (.bool false)/\Below w'.heap.size w' w2):=aa fun w' h=>q3.out 2 (by omega) (fun _=>rfl) w' h
 have q4k:Hid (∀(w':World),At w' C (qt 2)->Calls prog 155 #[.pointer (some ⟨C,0,none⟩),.int .u8 91] w' fun e w2=>e=.returned (.bool false)/\Below w'.heap.size w' w2):=aa fun w' h=>q4.out 2 (by omega) (fun _=>rfl) w' h
 have q5k:Hid (∀(w':World),At w' C (qt 2)->Calls prog 228 #[.pointer (some ⟨C,0,none⟩),.string ⟨#[]⟩,.int .i64 130] w' fun e w2=>e=.returned (.int .u8 98)/\Ex [C] w' w2/\At w2 C (qt 3)):=aa fun w' h=>q5.out 2 (by omega) 98 (fun _=>rfl) (by omega) (by omega) (by omega) w' h
 go_wp2_with(first|(go_at_call 155;(with_reducible refine(q3k.out _ ?_).mono ?_);exact C1.out;rintro e w2⟨rfl,hb2'⟩;have hb2:Below w1.heap.size w1 w2:=⟨hb2'.os,hb2'.tape,hb2'.output,hb2'.size,hb2'.block⟩;clear hb2';have C2:Hid (At w2 C (qt 2)):=aa ((hb2.block C dl).trans C1.out);have hw2:=aa (fe (hb:=hb2) hw1.out);have hE2:=aa (Ex.then (k:=hb2) hE1.out);have dl2:=aa C2.out.lt;clear hb2)|(go_at_call 155;(with_reducible refine(q4k.out _ ?_).mono ?_);exact C2.out;rintro e w3⟨rfl,hb3⟩;have C3:Hid (At w3 C (qt 2)):=aa ((hb3.block C dl2.out).trans C2.out);have hw3:=aa (fe (hb:=hb3) hw2.out);have hE3:=aa (Ex.then (k:=hb3) hE2.out);clear hb3)|(go_at_call 228;(with_reducible refine(q5k.out _ ?_).mono ?_);exact C3.out;rintro e w4⟨rfl,he4,C4'⟩;have C4:Hid (At w4 C (qt 3)):=aa C4';have hw4:=aa (jl hw3.out he4 cl0);have hE4:Hid (Ex [C] w w4):=aa ((hE3.out.trans he4).mono (by intro x hx;left;simpa using hx));clear he4 C4')|(go_at_call 43;refine(q6.out 98 _).mono ?_;rintro e w5⟨rfl,hb5⟩;have C5:Hid (At w5 C (qt 3)):=aa ((hb5.block C (by have:=C4.out.lt;simp;omega)).trans (C4.out.alloc _));have hw5:=aa (fe (hb:=hb5) (hw4.out.alloc _));have hE5:=aa (Ex.then (k:=hb5) (hE4.out.alloc _));have hz5:=hE5.out.size;clear hb5)|(at_builtin;refine gj ot rfl _ _ rfl rfl hw5.out (sw (sb 98)) (by simp[go_sem]) rfl (by simp[Value.oneCell',sw]) (by unfold maxLen;omega) (by omega) hz5 ?_;intro v6 wB hown6 hb6;obtain⟨adB,capB,rfl⟩:=ey hown6;have HC2:Hid (At wB C (qt 3)):=aa (C5.out.below hb6 cl0);have Hw2:Hid (wB.ownsRow w.heap.size 100 4 (.slice adB 2 capB) 2 (sw (sb 97)++sw (sb 98))):=aa hown6;have He2:Hid (Ex [C] w wB):=aa (hE5.out.far hb6 ac);have cl2:=HC2.out.lt))
 clear C1 d0 d1 d2 dz dl hw1 hE1 C2 hw2 hE2 dl2 C3 hw3 hE3 C4 hw4 hE4 C5 hw5 hE5 hz5 q3k q4k q5k hcv;go_step3;refine⟨rfl,?_⟩;unfold jmp;have u2:=HC2.out.cell 2;simp only[ak,am,au]at u2;go_wp2_with(go_at_call 154;refine(e1.out 3 _ HC2.out).mono ?_;rintro e w1⟨rfl,hb1⟩;have C1:=aa (HC2.out.below hb1 cl2);have d0:=C1.out.cell 0;have d1:w1.cell? ⟨C,1,none⟩=some (.int .i64 3):=C1.out.cell 1;have d2:=C1.out.cell 2;have dz:=C1.out.free 1;have dl:=C1.out.lt;have hw1:=aa (fe Hw2.out hb1);have hE1:=aa (He2.out.then hb1);clear hb1;simp only[ak,am,au]at d0 d2)
 go_quiet(fail)
 go_wp2_with fail
 simp only[Exit.jump];have eF:Ex [C] w1 ((w1.drewN nq).setCell ⟨C,1,none⟩ (.int .i64 4)):=Ex.set (show Ex [C] w1 (w1.drewN nq)from⟨rfl,rfl,rfl,ac,fun _ _ _=>rfl⟩) C 1 _ (cd.2 rfl);go_ret;exact⟨_,rfl,jl hw1.out eF cl0,(hE1.out.trans eF).mono (by intro x hx;left;simpa using hx),At.set (w:=w1.drewN nq) C1.out 1 _⟩
end
section
open Go.RowKit Go.Shelf
def Kt(ty:TypeId)(w w':World):Prop:=∀(b:Nat)cur fz,w.heap[b]?=some (.cells cur ty fz)->w'.heap[b]?=some (.cells cur ty fz)
theorem Kt.refl(ty:TypeId)(w:World):Kt ty w w:=fun _ _ _ h=>h
theorem Kt.trans{ty:TypeId}{a b c:World}(h:Kt ty a b)(k:Kt ty b c):Kt ty a c:=fun i cur fz e=>k i cur fz (h i cur fz e)
theorem Kt.ex{ty:TypeId}{S:List Nat}{w w':World}(h:Ex S w w')(hn:∀x∈S,∀cur fz,w.heap[x]?≠some (.cells cur ty fz)):Kt ty w w':=by
 intro b cur fz e;have hlt:b<w.heap.size:=(df.1 e).1;rw[h.block b hlt (fun hb=>hn b hb cur fz e)];exact e
theorem Kt.below{ty:TypeId}{w w':World}(h:Below w.heap.size w w'):Kt ty w w':=.ex (Ex.of (S:=[]) h) (by simp)
theorem Kt.alloc{ty:TypeId}{w w':World}(h:Kt ty w w')(o:Obj):Kt ty w (w'.alloc o):=h.trans (.below (ae.alloc ac o))
theorem Kt.drew{ty:TypeId}{w w':World}(h:Kt ty w w'):Kt ty w w'.drew:=h
theorem Kt.at1{ty t:TypeId}{C:Nat}{cs:Array Value}{fz:Nat×Nat}{w w':World}(h:Ex [C] w w')(hC:At w C (.cells cs t fz))(hne:t≠ty:=by decide):Kt ty w w':=
 .ex h fun x hx cur fz' e=>by
  rw[cd.1 hx]at e;rw[show w.heap[C]?=some (.cells cs t fz)from hC]at e;injection e with e;injection e with e1 e2;exact hne e2
theorem Kt.set{ty t:TypeId}{C:Nat}{cs:Array Value}{fz:Nat×Nat}{w:World}(hC:At w C (.cells cs t fz))(j:Nat)(v:Value)(hne:t≠ty:=by decide):Kt ty w (w.setCell ⟨C,j,none⟩ v):=
 .at1 ((Ex.refl [C] w).set C j v (by simp)) hC hne
theorem Kt.grown{ty e:TypeId}{size n base:Nat}{v:Value}{xs:List Value}{w w':World}(hg:w.grownBy w' v.ownBlock)(ho:w.ownsRow base e size v n xs)(hne:e≠ty:=by decide):Kt ty w w':=by
 intro b cur fz h;have hlt:b<w.heap.size:=(df.1 h).1;rw[hg.block b hlt ?_]
 ·exact h
 ·rcases ho.2 with⟨rfl,_⟩|⟨g,cap,cur',rfl,_,hh,_⟩
  ·simp[Value.ownBlock]
  ·simp only[Value.ownBlock]
   intro hb;cases hb;rw[hh]at h;injection h with h;injection h with h1 h2;exact hne h2
def ft(w:World)(ty:TypeId)(ad:Option Addr)(n:Nat)(xs:List Value):Prop:=
 n=0\/∃b o cur fz,ad=some ⟨b,o,none⟩/\w.heap[b]?=some (.cells cur ty fz)/\∀(j:Nat)u,xs[j]?=some u->cur[o+j]?=some u
theorem ft.keep{w w':World}{ty:TypeId}{ad:Option Addr}{n:Nat}{xs:List Value}(h:ft w ty ad n xs)(k:Kt ty w w'):ft w' ty ad n xs:=by
 rcases h with h|⟨b,o,cur,fz,ha,hh,hx⟩
 ·exact .inl h
 ·exact .inr ⟨b,o,cur,fz,ha,k b cur fz hh,hx⟩
theorem ft.nil(w:World)(ty:TypeId)(ad:Option Addr)(xs:List Value):ft w ty ad 0 xs:=.inl rfl
theorem ft.own{w:World}{base:Nat}{ty:TypeId}{size n cap:Nat}{ad:Option Addr}{xs:List Value}(h:w.ownsRow base ty size (.slice ad n cap) n xs):ft w ty ad n xs:=by
 rcases h.2 with⟨_,h0⟩|⟨g,c,cur,hv,_,hh,_,_,_,hx⟩
 ·exact .inl h0
 ·cases hv
  refine .inr ⟨g,0,cur,_,rfl,hh,fun j u hj=>?_⟩;rw[<-hx]at hj;rw[dg];by_cases hlt:j<n*size
  ·rw[List.getElem?_take_of_lt hlt]at hj
   rwa[Array.getElem?_toList]at hj
  ·rw[List.getElem?_take_eq_none (by omega)]at hj
   cases hj
theorem ft.cell{w:World}{ty:TypeId}{ad:Option Addr}{n:Nat}{xs:List Value}(h:ft w ty ad n xs)(hn:0<n):∃b o,ad=some ⟨b,o,none⟩/\b<w.heap.size/\∀(j:Nat)u,xs[j]?=some u->w.cell? ⟨b,o+j,none⟩=some u:=by
 rcases h with h|⟨b,o,cur,fz,ha,hh,hx⟩
 ·omega
 ·refine⟨b,o,ha,(df.1 hh).1,fun j u hj=>?_⟩
  rw[At.cell (show At w b (.cells cur ty fz)from hh)];exact hx j u hj
theorem ft.ne{w:World}{ty t:TypeId}{ad:Option Addr}{n C:Nat}{xs:List Value}{cs:Array Value}{fz:Nat×Nat}(h:ft w ty ad n xs)(hn:0<n)(hC:At w C (.cells cs t fz))(hne:t≠ty:=by decide):∀a,ad=some a->a.block≠C:=by
 intro a ha e;rcases h with h|⟨b,o,cur,fz',hb,hh,hx⟩
 ·omega
 ·rw[ha]at hb
  cases hb;subst e;have hC':w.heap[b]?=some (.cells cs t fz):=hC;rw[hC']at hh;injection hh with hh;injection hh with h1 h2;exact hne h2
theorem ft.rowC{w:World}{ad:Option Addr}{l:List (Nat->Bool)}(h:ft w 100 ad l.length (ji l)):fm w ad l.length (gc l) w.heap.size:=by
 rcases ed l.length with h0|h0
 ·exact .inl h0
 ·obtain⟨b,o,ha,hlt,hx⟩:=h.cell h0
  refine .inr ⟨b,o,ha,hlt,fun j hj=>?_⟩;obtain⟨h0,h1,h2,h3⟩:=tq (gc l) l.length j hj;rw[<-we]at h0 h1 h2 h3;exact⟨hx _ _ h0,hx _ _ h1,hx _ _ h2,hx _ _ h3⟩
theorem ft.rowI{w:World}{ad:Option Addr}{l:List Int}(h:ft w 3 ad l.length (ga l)):gg w ad l.length (gi l) w.heap.size:=by
 rcases ed l.length with h0|h0
 ·exact .inl h0
 ·obtain⟨b,o,ha,hlt,hx⟩:=h.cell h0
  exact .inr ⟨b,o,ha,hlt,fun j hj=>hx _ _ (acp l j hj)⟩
theorem ft.tail{w:World}{ty:TypeId}{b o n:Nat}{x xs:List Value}(h:ft w ty (some ⟨b,o,none⟩) (n+1) (x++xs)):ft w ty (some ⟨b,o+x.length,none⟩) n xs:=by
 rcases h with h|⟨b',o',cur,fz,ha,hh,hx⟩
 ·omega
 ·cases ha
  refine .inr ⟨b,o+x.length,cur,fz,rfl,hh,fun j u hj=>?_⟩;rw[dy];exact hx _ _ (by rw[ef (by omega)];simpa using hj)
inductive f9{α:Type}(V:α->List Value->Prop):List α->List Value->Prop
 |nil:f9 V [] []
 |cons {a vs l xs} (h:V a vs) (r:f9 V l xs):f9 V (a::l) (vs++xs)
theorem f9.mono{α:Type}{V V':α->List Value->Prop}{l:List α}{xs:List Value}(h:f9 V l xs)(hv:∀a vs,V a vs->V' a vs):f9 V' l xs:=by
 induction h with
 |nil=>exact .nil
 |cons h r ih=>exact .cons (hv _ _ h) ih
theorem f9.append{α:Type}{V:α->List Value->Prop}{l m:List α}{xs ys:List Value}(h:f9 V l xs)(k:f9 V m ys):f9 V (l++m) (xs++ys):=by
 induction h with
 |nil=>exact k
 |cons h r ih=>rw[dc];exact .cons h ih
theorem f9.one{α:Type}{V:α->List Value->Prop}{a:α}{vs:List Value}(h:V a vs):f9 V [a] vs:=by
 have:=f9.cons (V:=V) h .nil;rwa[dh]at this
theorem f9.len{α:Type}{V:α->List Value->Prop}{l:List α}{xs:List Value}{k:Nat}(h:f9 V l xs)(hk:∀a vs,V a vs->vs.length=k):xs.length=l.length*k:=by
 induction h with
 |nil=>simp
 |cons h r ih=>rw[bd,ih,hk _ _ h,bz,Nat.succ_mul,Nat.add_comm]
theorem f9.at{α:Type}{V:α->List Value->Prop}{l:List α}{xs:List Value}{k:Nat}(h:f9 V l xs)(hk:∀a vs,V a vs->vs.length=k):∀(j:Nat)a,l[j]?=some a->∃vs,V a vs/\∀i,i<k->xs[j*k+i]?=vs[i]?:=by
 induction h with
 |nil=>intro j a h;simp at h
 |@cons a vs l xs h r ih=>
  intro j b hj;cases j with
  |zero=>
   simp at hj;subst hj;refine⟨vs,h,fun i hi=>?_⟩;rw[Nat.zero_mul,dg,ek (by rw[hk _ _ h];exact hi)]
  |succ j=>
   simp at hj;obtain⟨us,hu,hx⟩:=ih j b hj;refine⟨us,hu,fun i hi=>?_⟩;rw[ef (by rw[hk _ _ h,Nat.succ_mul];omega),hk _ _ h,<-hx i hi];congr 1;rw[Nat.succ_mul];omega
theorem f9.cons_inv{α:Type}{V:α->List Value->Prop}{a:α}{l:List α}{xs:List Value}(h:f9 V (a::l) xs):∃vs ys,xs=vs++ys/\V a vs/\f9 V l ys:=by
 cases h with
 |cons h r=>exact⟨_,_,rfl,h,r⟩
def rt(w:World)(t:gq)(vs:List Value):Prop:=
 ∃ad cap,vs=[.int .i64 (t.kind:Nat),.int .i64 (t.place:Nat),.int .i64 (t.num:Nat),.slice ad t.els.length cap]/\ft w 100 ad t.els.length (ji t.els)
theorem rt.len{w:World}{t:gq}{vs:List Value}(h:rt w t vs):vs.length=4:=by obtain⟨ad,cap,rfl,_⟩:=h;rfl
theorem rt.keep{w w':World}{t:gq}{vs:List Value}(h:rt w t vs)(k:Kt 100 w w'):rt w' t vs:=by
 obtain⟨ad,cap,h1,h2⟩:=h;exact⟨ad,cap,h1,h2.keep k⟩
structure QN where
 kind:Nat
 num:Nat
 els:List (Nat->Bool)
 k:Nat
def ew:QT->List QN
 | .find els k=>[⟨1,0,els,k⟩]
 | .and a b=>⟨2,0,[],0⟩::(ew a++ew b)
 | .or a b=>⟨3,0,[],0⟩::(ew a++ew b)
 | .not a=>⟨4,0,[],0⟩::ew a
 | .shift n a=>⟨5,n,[],0⟩::ew a
def ju(w:World)(t:QN)(vs:List Value):Prop:=
 ∃ad cap,vs=[.int .i64 (t.kind:Nat),.int .i64 (t.num:Nat),.slice ad t.els.length cap,.int .i64 (t.k:Nat)]/\ft w 100 ad t.els.length (ji t.els)
theorem ju.len{w:World}{t:QN}{vs:List Value}(h:ju w t vs):vs.length=4:=by obtain⟨ad,cap,rfl,_⟩:=h;rfl
theorem ju.keep{w w':World}{t:QN}{vs:List Value}(h:ju w t vs)(k:Kt 100 w w'):ju w' t vs:=by
 obtain⟨ad,cap,h1,h2⟩:=h;exact⟨ad,cap,h1,h2.keep k⟩
theorem m6{w w':World}{l:List gq}{xs:List Value}(h:f9 (rt w) l xs)(k:Kt 100 w w'):f9 (rt w') l xs:=h.mono fun _ _ h=>h.keep k
theorem gw{w w':World}{l:List QN}{xs:List Value}(h:f9 (ju w) l xs)(k:Kt 100 w w'):f9 (ju w') l xs:=h.mono fun _ _ h=>h.keep k
end
section
set_option maxRecDepth 100000
set_option maxHeartbeats 4000000
open Go.RowKit Go.Shelf
abbrev kp(k a n:Int)(v:Value):Obj:=.cells #[.int .i64 k,.int .i64 a,.int .i64 n,v] 217
theorem aox(C:Nat)(w:World)(hC:At w C (qt 0)):
 Calls prog 156 #[.pointer (some ⟨C,0,none⟩)] w fun e w'=>∃v,e=.returned (.agg #[.int .i64 8,.int .i64 0,.int .i64 0,v])/\w'.ownsRow w.heap.size 100 4 v 2 (sw (sb 97)++sw (sb 98))/\Ex [C] w w'/\At w' C (qt 4):=by
 have q1:Hid (∀(w':World),At w' C (qt 0)->Calls prog 155 #[.pointer (some ⟨C,0,none⟩),.int .u8 34] w' fun e w2=>e=.returned (.bool true)/\Ex [C] w' w2/\At w2 C (qt 1)):=aa fun w' h=>has_yes C 0 (by omega) 34 (fun _=>rfl) w' h
 have q2:=aa fun w'(h:At w' C (qt 1))=>aia C w' h
 have cl:=hC.lt;have c1:=hC.cell 1;simp only[ak,am,au]at c1;have HC2:=aa ((hC.alloc (kp 0 0 0 (.slice none 0 0))).alloc (kp 0 0 0 (.slice none 0 0)));have A1:=At.new w (kp 0 0 0 (.slice none 0 0))|>.alloc (kp 0 0 0 (.slice none 0 0));have A2:=At.new (w.alloc (kp 0 0 0 (.slice none 0 0))) (kp 0 0 0 (.slice none 0 0));rw[bg]at A2;have E2:Ex [C] w ((w.alloc (kp 0 0 0 (.slice none 0 0))).alloc (kp 0 0 0 (.slice none 0 0))):=((Ex.refl [C] w).alloc _).alloc _;have z2:((w.alloc (kp 0 0 0 (.slice none 0 0))).alloc (kp 0 0 0 (.slice none 0 0))).heap.size=w.heap.size+2:=by simp
 clear hC;go_enter func156,ntmps156;go_wp2_with fail
 generalize ((w.alloc (kp 0 0 0 (.slice none 0 0))).alloc (kp 0 0 0 (.slice none 0 0)))=W2 at *;have HA1:=aa A1;have HA2:=aa A2;have HE2:=aa E2;have hz2:=aa z2;have hCn:Hid (w.heap.size∉[C]/\w.heap.size+1∉[C]):=aa (by simp;omega);clear A1 A2 E2 z2 c1;go_wp2_with(first|(go_at_call 155;refine(q1.out W2 HC2.out).mono ?_;rintro e w3⟨rfl,he3,hC3⟩;have B1:=aa (HA1.out.ex he3 hCn.out.1);have B2:=aa (HA2.out.ex he3 hCn.out.2);have HE3:Hid (Ex [C] w w3):=aa ((HE2.out.trans he3).mono (by intro x hx;left;simpa using hx));have HC3:=aa hC3;have hz3:=aa he3.size;clear he3 hC3)|(go_at_call 204;refine(q2.out w3 HC3.out).mono ?_;rintro e w4⟨v,rfl,ho4,he4,hC4⟩;have D1:=B1.out.ex he4 hCn.out.1;have D2:=B2.out.ex he4 hCn.out.2;have x0:=D1.free 0;have x1:=D1.free 1;have x2:=D1.free 2;have x3:=D1.free 3;have y0:=D2.free 0;have y1:=D2.free 1;have y2:=D2.free 2;have y3:=D2.free 3;have k0:=D1.cell 0;have k1:=D1.cell 1;have k2:=D1.cell 2;have k3:=D1.cell 3;have m0:=D2.cell 0;have m1:=D2.cell 1;have m2:=D2.cell 2;have m3:=D2.cell 3;have l1:=D1.lt;have l2:=D2.lt;simp only[ak,am,au]at k0 k1 k2 k3 m0 m1 m2 m3;obtain⟨g4,c4,rfl,hg4,hl4,-⟩:=yd ho4 (Nat.succ_pos _) rfl;have HO4:=aa ho4;have HE4:Hid (Ex [C] w w4):=aa ((HE3.out.trans he4).mono (by intro x hx;left;simpa using hx));have HC4:=aa hC4;clear he4 ho4 hC4 D2))
 have hc3:w.heap.size+2<=w3.heap.size:=by have h1:=hz2.out;have h2:=hz3.out;omega
 have eF:Ex [w.heap.size,w.heap.size+1] w4 ((((((w4.setCell ⟨w.heap.size+1,0,none⟩ (.int .i64 8)).setCell ⟨w.heap.size+1,3,none⟩ (.slice (some ⟨g4,0,none⟩) 2 c4)).setCell ⟨w.heap.size,0,none⟩ (.int .i64 8)).setCell ⟨w.heap.size,1,none⟩ (.int .i64 0)).setCell ⟨w.heap.size,2,none⟩ (.int .i64 0)).setCell ⟨w.heap.size,3,none⟩ (.slice (some ⟨g4,0,none⟩) 2 c4)):=
  ((((((Ex.refl [w.heap.size,w.heap.size+1] w4).set (w.heap.size+1) 0 _ (by simp)).set (w.heap.size+1) 3 _ (by simp)).set w.heap.size 0 _ (by simp)).set w.heap.size 1 _ (by simp)).set w.heap.size 2 _ (by simp)).set w.heap.size 3 _ (by simp)
 have o1:=ownsRow_setCell_below HO4.out (a:=⟨w.heap.size+1,0,none⟩) (by show w.heap.size+1<_;omega) (.int .i64 8);have o2:=ownsRow_setCell_below o1 (a:=⟨w.heap.size+1,3,none⟩) (by show w.heap.size+1<_;omega) (.slice (some ⟨g4,0,none⟩) 2 c4);have o3:=ownsRow_setCell_below o2 (a:=⟨w.heap.size,0,none⟩) (by show w.heap.size<_;omega) (.int .i64 8);have o4:=ownsRow_setCell_below o3 (a:=⟨w.heap.size,1,none⟩) (by show w.heap.size<_;omega) (.int .i64 0);have o5:=ownsRow_setCell_below o4 (a:=⟨w.heap.size,2,none⟩) (by show w.heap.size<_;omega) (.int .i64 0);have o6:=ownsRow_setCell_below o5 (a:=⟨w.heap.size,3,none⟩) (by show w.heap.size<_;omega) (.slice (some ⟨g4,0,none⟩) 2 c4);refine ay (v:=.agg #[.int .i64 8,.int .i64 0,.int .i64 0,.slice (some ⟨g4,0,none⟩) 2 c4]) ?_ rfl ⟨_,rfl,fx o6 (by omega),(HE4.out.trans eF).mono (by intro x hx;simp at hx;rcases hx with rfl|rfl|rfl<;>simp),HC4.out.ex eF (by simp;omega)⟩;have a1:Hid (At w4 w.heap.size (kp 0 0 0 (.slice none 0 0))):=aa (by assumption);clear o1 o2 o3 o4 o5 o6 eF;simp[results,results156,go_sem, *]
theorem elem166:mi 166 217 4 48:=lj (z:=.agg #[.int .i64 0,.int .i64 0,.int .i64 0,.slice none 0 0]) underlying166 (by kernel_rfl) rfl (by decide)
def lab:List (Nat->Bool):=[sb 97,sb 98]
theorem am8:ji lab=sw (sb 97)++sw (sb 98):=by simp[ji,lab,sw]
theorem lex_at(w:World):
 Calls prog 102 #[.string qs] w fun e w'=>∃T cT ad cap,e=.returned (.tuple #[.slice (some ⟨T,0,none⟩) 1 cT,.int .i64 4,.int .i64 0])/\w.heap.size<=T/\T<w'.heap.size/\(∀(j:Nat)u,[Value.int .i64 8,.int .i64 0,.int .i64 0,.slice ad 2 cap][j]?=some u->w'.cell? ⟨T,j,none⟩=some u)/\ft w' 100 ad 2 (ji lab)/\Below w.heap.size w w':=by
 have q1:Hid (∀C(w':World),At w' C (qt 0)->Calls prog 154 #[.pointer (some ⟨C,0,none⟩)] w' fun e w2=>e=.returned (.bool false)/\Below w'.heap.size w' w2):=aa fun C w' h=>abi C 0 w' h
 have q2:Hid (∀C(w':World),At w' C (qt 4)->Calls prog 154 #[.pointer (some ⟨C,0,none⟩)] w' fun e w2=>e=.returned (.bool true)/\Below w'.heap.size w' w2):=aa fun C w' h=>abi C 4 w' h
 have q3:Hid (∀C(w':World),At w' C (qt 0)->Calls prog 155 #[.pointer (some ⟨C,0,none⟩),.int .u8 32] w' fun e w2=>e=.returned (.bool false)/\Below w'.heap.size w' w2):=aa fun C w' h=>aiv C 0 (by omega) 32 (fun _=>rfl) w' h
 have q4:=aa fun C w'(h:At w' C (qt 0))=>aox C w' h
 have HC0:=aa (At.new w (qt 0));have cl:Hid (w.heap.size<(w.alloc (qt 0)).heap.size):=aa (by simp);have B0:=aa ((aw w.heap.size w).alloc ac (qt 0));go_enter func102,ntmps102;go_wp2_with fail
 generalize w.alloc (qt 0)=W0 at *;refine du 2 ?_;rw[cj];go_wp2_with(first|(go_at_call 154;refine(q1.out _ W0 HC0.out).mono ?_;rintro e w1⟨rfl,hb1⟩;have C1:=aa (HC0.out.below hb1 cl.out);have B1:=aa (B0.out.trans (hb1.mono B0.out.size));have d2:=C1.out.cell 2;have dl:=C1.out.lt;simp only[ak,am,au]at d2;clear hb1)|(go_at_call 155;refine(q3.out _ w1 C1.out).mono ?_;rintro e w2⟨rfl,hb2⟩;have C2:=aa (C1.out.below hb2 dl);have B2:=aa (B1.out.trans (hb2.mono B1.out.size));clear hb2)|(go_at_call 156;refine(q4.out _ w2 C2.out).mono ?_;rintro e w3⟨v3,rfl,ho3,he3,hC3⟩;obtain⟨ad,cap,rfl⟩:=ey ho3;have HO3:=aa ho3;have HC3:=aa hC3;have B3:=aa (B2.out.trans (he3.below B2.out.size (by simp)));have hz3:=B3.out.size;clear ho3 hC3 he3)|(at_builtin;refine gj elem166 rfl _ _ rfl rfl (show w3.ownsRow w3.heap.size 217 4 (.slice none 0 0) 0 []from bj _ _ _ _) [.int .i64 8,.int .i64 0,.int .i64 0,.slice ad 2 cap] (by simp[go_sem]) rfl (by simp[Value.oneCell']) (by unfold maxLen;omega) (by omega) ac ?_;intro v4 w4 hown4 hb4;obtain⟨T,cT,rfl,hT,hTl,cc⟩:=yd hown4 (Nat.succ_pos _) rfl;have CC:=aa cc;have HC4:=aa (HC3.out.below hb4 HC3.out.lt);have B4:=aa (B3.out.trans (hb4.mono B3.out.size));have HR4:Hid (ft w4 100 ad 2 (ji lab)):=aa (ft.own (by rw[am8];exact fe HO3.out hb4));clear hown4 cc hb4))
 rw[cj];have dl4:=HC4.out.lt;go_wp2_with(go_at_call 154;refine(q2.out _ w4 HC4.out).mono ?_;rintro e w5⟨rfl,hb5⟩;have B5:=aa (B4.out.trans (hb5.mono B4.out.size));have HR5:=aa (HR4.out.keep (Kt.below hb5));have C5:=aa (HC4.out.below hb5 dl4);have CC5:Hid (∀(j:Nat)u,[Value.int .i64 8,.int .i64 0,.int .i64 0,.slice ad 2 cap][j]?=some u->w5.cell? ⟨T,j,none⟩=some u):=aa (fun j u hj=>(hb5.cell (p:=⟨T,j,none⟩) hTl).trans (CC.out j u hj));have x2:=C5.out.cell 2;simp only[ak,am,au]at x2;have zz:=hb5.size;clear hb5)
 refine ay (results_tmp3 rfl _ _ _) rfl ?_;exact⟨T,cT,ad,cap,rfl,by omega,by omega,CC5.out,HR5.out,B5.out⟩
end
section
set_option maxRecDepth 100000
set_option maxHeartbeats 4000000
open Go.RowKit Go.Shelf
abbrev paC(l:Value):Obj:=.cells #[l,.int .i64 4,.int .i64 0,.int .i64 0] 171
structure Tok(w:World)(T:Nat)(ad:Option Addr)(cap:Nat):Prop where
 c0:w.cell? ⟨T,0,none⟩=some (.int .i64 8)
 c1:w.cell? ⟨T,1,none⟩=some (.int .i64 0)
 c2:w.cell? ⟨T,2,none⟩=some (.int .i64 0)
 c3:w.cell? ⟨T,3,none⟩=some (.slice ad 2 cap)
 lt:T<w.heap.size
theorem Tok.ex{w w':World}{T:Nat}{ad:Option Addr}{cap:Nat}{S:List Nat}(h:Tok w T ad cap)(hb:Ex S w w')(hn:T∉S):Tok w' T ad cap:=by
 obtain⟨h0,h1,h2,h3,h4⟩:=h;exact⟨(hb.cell h4 hn 0).trans h0,(hb.cell h4 hn 1).trans h1,(hb.cell h4 hn 2).trans h2,(hb.cell h4 hn 3).trans h3,az h4 hb.size⟩
abbrev tz:Value:=.agg #[.int .i64 0,.int .i64 0,.int .i64 0,.slice none 0 0]
theorem aj7(P T cT:Nat)(ad:Option Addr)(cap:Nat)(k:Int)(hk:((8:Int) !=k)=true)(w:World)(hP:At w P (paC (.slice (some ⟨T,0,none⟩) 1 cT)))(hT:Tok w T ad cap):
 Calls prog 208 #[.pointer (some ⟨P,0,none⟩),.int .i64 k] w fun e w'=>e=.returned (.tuple #[tz,.bool false])/\Below w.heap.size w w':=by
 have c0:=hP.cell 0;have pl:=hP.lt;obtain⟨t0,t1,t2,t3,tl⟩:=hT;simp only[ak,am]at c0;have hA:Below w.heap.size w (w.alloc (kp 0 0 0 (.slice none 0 0))):=ae.alloc ac _;clear hP;go_enter func208,ntmps208;go_wp2_with fail
 refine ay (v:=.tuple #[tz,.bool false]) ?_ rfl ⟨rfl,hA⟩;simp[results,results208,go_sem, *]
theorem ye(P:Nat)(a:Option Addr)(cT:Nat)(k:Int)(w:World)(hP:At w P (paC (.slice a 0 cT))):
 Calls prog 208 #[.pointer (some ⟨P,0,none⟩),.int .i64 k] w fun e w'=>e=.returned (.tuple #[tz,.bool false])/\Below w.heap.size w w':=by
 have c0:=hP.cell 0;have pl:=hP.lt;simp only[ak,am]at c0;have hA:Below w.heap.size w (w.alloc (kp 0 0 0 (.slice none 0 0))):=ae.alloc ac _;clear hP;go_enter func208,ntmps208;go_wp2_with fail
 refine ay (v:=.tuple #[tz,.bool false]) ?_ rfl ⟨rfl,hA⟩;simp[results,results208,go_sem, *]
theorem aqx(P T cT:Nat)(ad:Option Addr)(cap:Nat)(w:World)(hP:At w P (paC (.slice (some ⟨T,0,none⟩) 1 cT)))(hT:Tok w T ad cap):
 Calls prog 208 #[.pointer (some ⟨P,0,none⟩),.int .i64 8] w fun e w'=>e=.returned (.tuple #[.agg #[.int .i64 8,.int .i64 0,.int .i64 0,.slice ad 2 cap],.bool true])/\Ex [P] w w'/\∃a c,At w' P (paC (.slice a 0 c)):=by
 have HP:=aa hP;have c0:=hP.cell 0;have fz:=hP.free 0;have pl:=hP.lt;obtain⟨t0,t1,t2,t3,tl⟩:=hT;simp only[ak,am]at c0;clear hP;go_enter func208,ntmps208;go_wp2_with fail
 all_goals(refine ay (v:=.tuple #[.agg #[.int .i64 8,.int .i64 0,.int .i64 0,.slice ad 2 cap],.bool true]) ?_ rfl ⟨rfl,(((Ex.refl [P] w).set P 0 _ (cd.2 rfl)).alloc _).alloc _,_,_,((HP.out.set 0 _).alloc _).alloc _⟩)
 all_goals(simp[results,results208,go_sem, *])
abbrev nd1(ad:Option Addr)(cap:Nat):Obj:=.cells #[.int .i64 1,.int .i64 0,.slice ad 2 cap,.int .i64 0] 81
def ac2(P:Nat)(ad:Option Addr)(cap:Nat)(w:World)(e:Ending)(w':World):Prop:=
 ∃Q cq,e=.returned (.slice (some ⟨Q,0,none⟩) 1 cq)/\(At w' Q (nd1 ad cap)/\1<=cq)/\w.heap.size<=Q/\Ex [P] w w'/\∃a c,At w' P (paC (.slice a 0 c))
theorem find_at(P:Nat)(a:Option Addr)(c:Nat)(ad:Option Addr)(cap:Nat)(w:World)(hP:At w P (paC (.slice a 0 c))):
 Calls prog 231 #[.pointer (some ⟨P,0,none⟩),.agg #[.int .i64 8,.int .i64 0,.int .i64 0,.slice ad 2 cap]] w (ac2 P ad cap w):=by
 have q1:=aa fun w'(h:At w' P (paC (.slice a 0 c)))=>ye P a c 7 w' h
 have c0:=hP.cell 0;have pl:=hP.lt;simp only[ak,am]at c0;have HP1:=aa (hP.alloc (kp 8 0 0 (.slice ad 2 cap)));have HA1:=aa (At.new w (kp 8 0 0 (.slice ad 2 cap)));have HE1:=aa ((Ex.refl [P] w).alloc (kp 8 0 0 (.slice ad 2 cap)));have ll:Hid (w.heap.size<(w.alloc (kp 8 0 0 (.slice ad 2 cap))).heap.size):=aa (by simp);clear hP;go_enter func231,ntmps231;go_wp2_with(go_at_call 208;refine(q1.out (w.alloc (kp 8 0 0 (.slice ad 2 cap))) HP1.out).mono ?_;rintro e w2⟨rfl,hb2⟩;have HP2:=aa (HP1.out.below hb2 HP1.out.lt);have k3:w2.cell? ⟨w.heap.size,3,none⟩=some (.slice ad 2 cap):=(HA1.out.below hb2 ll.out).cell 3;have l2:=aa (az ll.out hb2.size);have HE2:Hid (Ex [P] w w2):=aa (HE1.out.then hb2);have k3l:w.heap.size<w2.heap.size:=l2.out;clear hb2)
 go_ret;refine⟨w2.heap.size+1,1,rfl,⟨?_,ac⟩,by have:=HE2.out.size;omega,(HE2.out.alloc _).alloc _,a,c,(HP2.out.alloc _).alloc _⟩;have h:=At.new (w2.alloc (kp 0 0 0 (.slice none 0 0))) (nd1 ad cap);rwa[bg]at h
theorem item_at(P T cT:Nat)(hne:T≠P)(ad:Option Addr)(cap:Nat)(w:World)(hP:At w P (paC (.slice (some ⟨T,0,none⟩) 1 cT)))(hT:Tok w T ad cap):
 Calls prog 210 #[.pointer (some ⟨P,0,none⟩)] w (ac2 P ad cap w):=by
 have q5:Hid (∀w',At w' P (paC (.slice (some ⟨T,0,none⟩) 1 cT))->Tok w' T ad cap->Calls prog 208 #[.pointer (some ⟨P,0,none⟩),.int .i64 5] w' fun e w2=>e=.returned (.tuple #[tz,.bool false])/\Below w'.heap.size w' w2):=aa fun w' h h2=>aj7 P T cT ad cap 5 rfl w' h h2
 have q6:Hid (∀w',At w' P (paC (.slice (some ⟨T,0,none⟩) 1 cT))->Tok w' T ad cap->Calls prog 208 #[.pointer (some ⟨P,0,none⟩),.int .i64 6] w' fun e w2=>e=.returned (.tuple #[tz,.bool false])/\Below w'.heap.size w' w2):=aa fun w' h h2=>aj7 P T cT ad cap 6 rfl w' h h2
 have q8:=aa fun w'(h:At w' P (paC (.slice (some ⟨T,0,none⟩) 1 cT)))h2=>aqx P T cT ad cap w' h h2
 have qf:=aa fun a c w'(h:At w' P (paC (.slice a 0 c)))=>find_at P a c ad cap w' h
 have HP:=aa hP;have HT:=aa hT;have hn:Hid (T∉[P]):=aa (by simpa using hne);clear hP hT hne;go_enter func210,ntmps210;go_wp2_with(first|(go_at_call 208;(with_reducible refine(q5.out w HP.out HT.out).mono ?_);rintro e w1⟨rfl,hb1⟩;have E1:Hid (Ex [P] w (w1.alloc (kp 0 0 0 (.slice none 0 0)))):=aa ((Ex.of hb1).alloc _);have P1:=aa ((HP.out.below hb1 HP.out.lt).alloc (kp 0 0 0 (.slice none 0 0)));have T1:=aa (HT.out.ex E1.out hn.out);clear hb1)|(go_at_call 208;(with_reducible refine(q6.out _ P1.out T1.out).mono ?_);rintro e w2⟨rfl,hb2⟩;have E2:Hid (Ex [P] w (w2.alloc (kp 0 0 0 (.slice none 0 0)))):=aa ((E1.out.then hb2).alloc _);have P2:=aa ((P1.out.below hb2 P1.out.lt).alloc (kp 0 0 0 (.slice none 0 0)));have T2:=aa (HT.out.ex E2.out hn.out);clear hb2)|(go_at_call 208;(with_reducible refine(q8.out _ P2.out T2.out).mono ?_);rintro e w3⟨rfl,he3,a3,c3,hP3⟩;have E3:Hid (Ex [P] w (w3.alloc (kp 8 0 0 (.slice ad 2 cap)))):=aa (((E2.out.trans he3).mono (by intro x hx;left;simpa using hx)).alloc _);have P3:=aa (hP3.alloc (kp 8 0 0 (.slice ad 2 cap)));clear he3 hP3)|(go_at_call 231;(with_reducible refine(qf.out a3 c3 _ P3.out).mono ?_);rintro e w4⟨Q,cq,rfl,h1,h2,h3,h4⟩;have K1:=aa h1;have K2:=aa h2;have K3:=aa h3;have K4:=aa h4;clear h1 h2 h3 h4))
 go_ret;exact⟨Q,cq,rfl,K1.out,ba E3.out.size K2.out,(E3.out.trans K3.out).mono (by intro x hx;left;simpa using hx),K4.out⟩
end
section
def jt:QT->Nat
 | .find _ _=>1
 | .and a b=>max (jt a) (jt b)+1
 | .or a b=>max (jt a) (jt b)+1
 | .not a=>jt a+1
 | .shift _ a=>jt a+1
def my(x:QN):Bool:=(x.kind==5||x.num==0)&&(decide (x.num<=1000000)&&(if x.kind=1 then fv x.els.length (gc x.els) x.k else(x.els.length==0&&x.k==0)))
def ir(T:QT):Bool:=(ew T).all my&&(decide ((ew T).length<=64)&&decide (jt T<=16))
def ar(k:Nat):Nat:=if k=1 then 0 else if k=4\/k=5 then 1 else 2
theorem rp(T:QT):1<=jt T:=by cases T<;>simp[jt]
theorem qc(T:QT):1<=(ew T).length:=by cases T<;>simp[ew]
theorem po(T:QT):∀x∈ew T,1<=x.kind/\x.kind<=5:=by
 induction T with
 |find e k=>intro x hx;simp[ew]at hx;subst hx;simp
 |and a b iha ihb=>
  intro x hx;simp[ew]at hx;rcases hx with rfl|h|h
  ·simp
  ·exact iha x h
  ·exact ihb x h
 |or a b iha ihb=>
  intro x hx;simp[ew]at hx;rcases hx with rfl|h|h
  ·simp
  ·exact iha x h
  ·exact ihb x h
 |not a ih=>
  intro x hx;simp[ew]at hx;rcases hx with rfl|h
  ·simp
  ·exact ih x h
 |shift n a ih=>
  intro x hx;simp[ew]at hx;rcases hx with rfl|h
  ·simp
  ·exact ih x h
theorem xj(T:QT):jt T<=(ew T).length:=by
 induction T with
 |find e k=>simp[jt,ew]
 |and a b iha ihb=>simp[jt,ew];omega
 |or a b iha ihb=>simp[jt,ew];omega
 |not a ih=>simp[jt,ew];omega
 |shift n a ih=>simp[jt,ew];omega
def sv:List QN->Int
 |[]=>0
 |x::l=>((ar x.kind:Nat):Int)-1+sv l
theorem ws(l m:List QN):sv (l++m)=sv l+sv m:=by
 induction l with
 |nil=>simp[sv]
 |cons x l ih=>simp only[dk,sv,ih];omega
theorem aa0(T:QT):sv (ew T)= -1:=by
 induction T with
 |find e k=>rfl
 |and a b iha ihb=>simp only[ew,sv,ws,iha,ihb];rfl
 |or a b iha ihb=>simp only[ew,sv,ws,iha,ihb];rfl
 |not a ih=>simp only[ew,sv,ih];rfl
 |shift n a ih=>simp only[ew,sv,ih];rfl
theorem aqk(T:QT):∀k,k<(ew T).length->0<=sv ((ew T).take k):=by
 induction T with
 |find e k=>intro k hk;simp[ew]at hk;subst hk;simp[sv]
 |and a b iha ihb=>
  intro k hk;cases k with
  |zero=>simp[sv]
  |succ k=>
   simp only[ew,List.take_succ_cons,sv,List.take_append,ws];simp only[ew,bz,bd]at hk;have e:((ar 2:Nat):Int)=2:=rfl;rw[e];by_cases h:k<(ew a).length
   ·have:=iha k h
    have e2:k-(ew a).length=0:=by omega
    rw[e2];simp[sv];omega
   ·have e2:(ew a).take k=ew a:=List.take_of_length_le (by omega)
    rw[e2,aa0];have:=ihb (k-(ew a).length) (by omega);omega
 |or a b iha ihb=>
  intro k hk;cases k with
  |zero=>simp[sv]
  |succ k=>
   simp only[ew,List.take_succ_cons,sv,List.take_append,ws];simp only[ew,bz,bd]at hk;have e:((ar 3:Nat):Int)=2:=rfl;rw[e];by_cases h:k<(ew a).length
   ·have:=iha k h
    have e2:k-(ew a).length=0:=by omega
    rw[e2];simp[sv];omega
   ·have e2:(ew a).take k=ew a:=List.take_of_length_le (by omega)
    rw[e2,aa0];have:=ihb (k-(ew a).length) (by omega);omega
 |not a ih=>
  intro k hk;cases k with
  |zero=>simp[sv]
  |succ k=>
   simp only[ew,List.take_succ_cons,sv];simp only[ew,bz]at hk;have e:((ar 4:Nat):Int)=1:=rfl;rw[e];have:=ih k (by omega);omega
 |shift n a ih=>
  intro k hk;cases k with
  |zero=>simp[sv]
  |succ k=>
   simp only[ew,List.take_succ_cons,sv];simp only[ew,bz]at hk;have e:((ar 5:Nat):Int)=1:=rfl;rw[e];have:=ih k (by omega);omega
theorem adu(T:QT)(s:List QN)(k:Nat)(hk:k<=(ew T).length):sv ((ew T++s).take k)=(if k<(ew T).length then sv ((ew T).take k)else -1):=by
 have e:(ew T++s).take k=(ew T).take k:=by
  rw[List.take_append,show k-(ew T).length=0 by omega];simp
 rw[e];split
 ·rfl
 ·rw[List.take_of_length_le (by omega),aa0]
def rg:List QN->List QT
 |[]=>[]
 |x::l=>
  if x.kind=1 then .find x.els x.k::rg l
  else if x.kind=4 then(match rg l with|a::r=>.not a::r|[]=>[])
  else if x.kind=5 then(match rg l with|a::r=>.shift x.num a::r|[]=>[])
  else(match rg l with|a::b::r=>(if x.kind=2 then .and a b else .or a b)::r|_=>[])
theorem py(T:QT):∀s,rg (ew T++s)=T::rg s:=by
 induction T with
 |find e k=>intro s;simp[ew,rg]
 |and a b iha ihb=>intro s;simp[ew,rg,iha,ihb]
 |or a b iha ihb=>intro s;simp[ew,rg,iha,ihb]
 |not a ih=>intro s;simp[ew,rg,ih]
 |shift n a ih=>intro s;simp[ew,rg,ih]
def okp:List QN->Prop
 |[]=>True
 |x::l=>okp l/\ar x.kind<=(rg l).length
theorem aqo(T:QT):∀s,okp s->okp (ew T++s):=by
 induction T with
 |find e k=>intro s h;exact⟨h,cx _⟩
 |and a b iha ihb=>
  intro s h;simp only[ew,dk,dc,okp];refine⟨iha _ (ihb _ h),?_⟩;rw[py,py];show 2<=_;simp
 |or a b iha ihb=>
  intro s h;simp only[ew,dk,dc,okp];refine⟨iha _ (ihb _ h),?_⟩;rw[py,py];show 2<=_;simp
 |not a ih=>
  intro s h;simp only[ew,dk,okp];refine⟨ih _ h,?_⟩;rw[py];show 1<=_;simp
 |shift n a ih=>
  intro s h;simp only[ew,dk,okp];refine⟨ih _ h,?_⟩;rw[py];show 1<=_;simp
theorem aqp(l:List QN):∀k,okp l->okp (l.drop k):=by
 induction l with
 |nil=>intro k h;rw[List.drop_nil];exact trivial
 |cons x l ih=>
  intro k h;cases k with
  |zero=>exact h
  |succ k=>exact ih k h.1
theorem okp_all(T:QT):okp (ew T):=by
 have:=aqo T [] trivial;rwa[dh]at this
theorem pil_all(T:QT):rg (ew T)=[T]:=by
 have:=py T [];rwa[dh]at this
def fy(l:List QN):List (List (Nat->Bool)×Nat):=l.filterMap fun x=>if x.kind=1 then some (x.els,x.k)else none
theorem pf(l m:List QN):fy (l++m)=fy l++fy m:=by simp[fy]
theorem akb:fy []=[]:=rfl
theorem aj9(x:QN)(l:List QN)(h:x.kind=1):fy (x::l)=(x.els,x.k)::fy l:=by simp[fy,h]
theorem mf(x:QN)(l:List QN)(h:x.kind≠1):fy (x::l)=fy l:=by simp[fy,h]
theorem se(l:List QN):(fy l).length<=l.length:=List.length_filterMap_le _ _
theorem aka(T:QT):1<=(fy (ew T)).length:=by
 induction T with
 |find e k=>simp[ew,fy]
 |and a b iha ihb=>simp only[ew];rw[mf _ _ (by simp),pf,bd];omega
 |or a b iha ihb=>simp only[ew];rw[mf _ _ (by simp),pf,bd];omega
 |not a ih=>simp only[ew];rw[mf _ _ (by simp)];exact ih
 |shift n a ih=>simp only[ew];rw[mf _ _ (by simp)];exact ih
def te:List (List (Nat->Bool)×Nat)->Nat
 |[]=>0
 |x::l=>max x.1.length (te l)
theorem lng_app(l m:List (List (Nat->Bool)×Nat)):te (l++m)=max (te l) (te m):=by
 induction l with
 |nil=>simp[te]
 |cons x l ih=>simp only[dk,te,ih];omega
theorem akd(l:List (List (Nat->Bool)×Nat)):∀x∈l,x.1.length<=te l:=by
 induction l with
 |nil=>intro x hx;cases hx
 |cons y l ih=>
  intro x hx;simp only[te];rcases cz.1 hx with rfl|h
  ·omega
  ·have:=ih x h;omega
theorem lng_le(l:List (List (Nat->Bool)×Nat))(m:Nat)(h:∀x∈l,x.1.length<=m):te l<=m:=by
 induction l with
 |nil=>exact cx _
 |cons y l ih=>
  simp only[te];have h1:=h y dp;have h2:=ih fun x hx=>h x (db _ hx)
  omega
theorem akc{l:List QN}{e:List (Nat->Bool)}{k:Nat}(h:(e,k)∈fy l):∃x∈l,x.kind=1/\x.els=e/\x.k=k:=by
 obtain⟨x,hx,h2⟩:=List.mem_filterMap.1 h;refine⟨x,hx,?_⟩;split at h2
 ·next h1=>simp at h2;exact⟨h1,h2.1,h2.2⟩
 ·cases h2
theorem j6{T:QT}(h:ir T=true){e:List (Nat->Bool)}{k:Nat}(hm:(e,k)∈fy (ew T)):fv e.length (gc e) (k:Int)=true:=by
 obtain⟨x,hx,h1,rfl,rfl⟩:=akc hm;unfold ir at h;simp only[ce,List.all_eq_true]at h;have:=h.1 x hx;unfold my at this;rw[if_pos h1]at this;simp only[ce]at this;exact this.2.2
theorem m9{T:QT}(h:ir T=true):(ew T).length<=64:=by
 unfold ir at h;simp only[ce,cg]at h;exact h.2.1
def jj(l:List Int):Prop:=l.Pairwise (·<·)/\∀x∈l,0<=x
theorem afe{l:List Int}(h:l.Pairwise (·<·)):∀{m:List Int},m.Pairwise (·<·)->(∀x,x∈l↔x∈m)->l=m:=by
 induction l with
 |nil=>
  intro m k e;cases m with
  |nil=>rfl
  |cons y m=>have:=(e y).2 dp;cases this
 |cons x l ih=>
  intro m k e;cases m with
  |nil=>have:=(e x).1 dp;cases this
  |cons y m=>
   rw[List.pairwise_cons]at h k;have hxy:x=y:=by
    have h1:=(e x).1 dp;have h2:=(e y).2 dp;rcases cz.1 h1 with h1|h1
    ·exact h1
    ·rcases cz.1 h2 with h2|h2
     ·exact h2.symm
     ·have:=h.1 _ h2;have:=k.1 _ h1;omega
   subst hxy;congr 1;refine ih h.2 k.2 fun z=>⟨fun hz=>?_,fun hz=>?_⟩
   ·rcases cz.1 ((e z).1 (db _ hz))with h1|h1
    ·subst h1;have:=h.1 _ hz;omega
    ·exact h1
   ·rcases cz.1 ((e z).2 (db _ hz))with h1|h1
    ·subst h1;have:=k.1 _ hz;omega
    ·exact h1
theorem kr{l:List Int}(h:jj l){n:Nat}(hn:∀x∈l,x<(n:Int)):l.length<=n:=by
 suffices H:∀(l:List Int)(a:Int),l.Pairwise (·<·)->(∀x∈l,a<=x)->(∀x∈l,x<(n:Int))->a<=n->(l.length:Int)<=n-a by
  have:=H l 0 h.1 h.2 hn (by omega);omega
 intro l;induction l with
 |nil=>intro a _ _ _ ha;simp;omega
 |cons x l ih=>
  intro a hp h1 h2 ha;rw[List.pairwise_cons]at hp;have hx:=h1 x dp;have hx2:=h2 x dp;have:=ih (x+1) hp.2 (fun y hy=>by have:=hp.1 y hy;omega) (fun y hy=>h2 y (db _ hy)) (by omega);simp only[bz];omega
def qy:List Int->List Int->List Int
 |[],b=>b
 |x::a,[]=>x::a
 |x::a,y::b=>if x<y then x::qy a (y::b)else if y<x then y::qy (x::a) b else x::qy a b
theorem mrg_nil(a:List Int):qy a []=a:=by cases a<;>simp[qy]
theorem pe:∀(a b:List Int)(z:Int),z∈qy a b↔z∈a\/z∈b
 |[],b,z=>by simp[qy]
 |x::a,[],z=>by simp[qy]
 |x::a,y::b,z=>by
  rw[qy];split
  ·rw[cz,pe a (y::b) z];simp only[cz];grind
  ·split
   ·rw[cz,pe (x::a) b z];simp only[cz];grind
   ·have e:x=y:=by omega
    subst e;rw[cz,pe a b z];simp only[cz];grind
theorem td:∀(a b:List Int),a.Pairwise (·<·)->b.Pairwise (·<·)->(qy a b).Pairwise (·<·)
 |[],b,_,h=>by simpa[qy]using h
 |x::a,[],h,_=>by simpa[qy]using h
 |x::a,y::b,h,k=>by
  have h':=List.pairwise_cons.1 h;have k':=List.pairwise_cons.1 k;rw[qy];split
  ·refine List.pairwise_cons.2 ⟨fun z hz=>?_,td a (y::b) h'.2 k⟩
   rcases(pe _ _ _).1 hz with hz|hz
   ·exact h'.1 z hz
   ·rcases cz.1 hz with rfl|hz
    ·assumption
    ·have:=k'.1 z hz;omega
  ·split
   ·refine List.pairwise_cons.2 ⟨fun z hz=>?_,td (x::a) b h k'.2⟩
    rcases(pe _ _ _).1 hz with hz|hz
    ·rcases cz.1 hz with rfl|hz
     ·assumption
     ·have:=h'.1 z hz;omega
    ·exact k'.1 z hz
   ·refine List.pairwise_cons.2 ⟨fun z hz=>?_,td a b h'.2 k'.2⟩
    rcases(pe _ _ _).1 hz with hz|hz
    ·exact h'.1 z hz
    ·have:=k'.1 z hz;omega
def qh(f:List (Nat->Bool)->Nat->List Int)(n:Nat):QT->List Int
 | .find e k=>f e k
 | .and a b=>(qh f n a).filter fun x=>decide (x∈qh f n b)
 | .or a b=>qy (qh f n a) (qh f n b)
 | .not a=>((List.range (min n 100000)).map Int.ofNat).filter fun x=>decide (x∉qh f n a)
 | .shift m a=>((qh f n a).filter fun x=>decide ((m:Int)<=x)).map fun x=>x-m
theorem rm(f:List (Nat->Bool)->Nat->List Int)(n:Nat)(T:QT)(hf:∀e k,(e,k)∈fy (ew T)->jj (f e k)/\∀x∈f e k,x<(n:Int)):jj (qh f n T)/\∀x∈qh f n T,x<(n:Int):=by
 induction T with
 |find e k=>exact hf e k (by simp[ew,fy])
 |and a b iha ihb=>
  have ha:=iha fun e k h=>hf e k (by simp only[ew];rw[mf _ _ (by simp),pf];exact List.mem_append_left _ h)
  exact⟨⟨ha.1.1.filter _,fun x hx=>ha.1.2 x (List.mem_filter.1 hx).1⟩,fun x hx=>ha.2 x (List.mem_filter.1 hx).1⟩
 |or a b iha ihb=>
  have ha:=iha fun e k h=>hf e k (by simp only[ew];rw[mf _ _ (by simp),pf];exact List.mem_append_left _ h)
  have hb:=ihb fun e k h=>hf e k (by simp only[ew];rw[mf _ _ (by simp),pf];exact List.mem_append_right _ h)
  refine⟨⟨td _ _ ha.1.1 hb.1.1,fun x hx=>?_⟩,fun x hx=>?_⟩
  ·rcases(pe _ _ _).1 hx with h|h
   ·exact ha.1.2 x h
   ·exact hb.1.2 x h
  ·rcases(pe _ _ _).1 hx with h|h
   ·exact ha.2 x h
   ·exact hb.2 x h
 |not a ih=>
  refine⟨⟨List.Pairwise.filter _ ?_,fun x hx=>?_⟩,fun x hx=>?_⟩
  ·rw[List.pairwise_map]
   exact List.Pairwise.imp (fun h=>by simpa using h) List.pairwise_lt_range
  ·obtain⟨y,-,rfl⟩:=List.mem_map.1 (List.mem_filter.1 hx).1
   exact Int.natCast_nonneg y
  ·obtain⟨y,hy,rfl⟩:=List.mem_map.1 (List.mem_filter.1 hx).1
   have:=List.mem_range.1 hy;show(y:Int)<n;omega
 |shift m a ih=>
  have ha:=ih fun e k h=>hf e k (by simp only[ew];rw[mf _ _ (by simp)];exact h)
  refine⟨⟨?_,fun x hx=>?_⟩,fun x hx=>?_⟩
  ·rw[qh,List.pairwise_map]
   exact List.Pairwise.imp (fun h=>by omega) (ha.1.1.filter _)
  ·obtain⟨y,hy,rfl⟩:=List.mem_map.1 hx
   have:=(List.mem_filter.1 hy).2;simp at this;omega
  ·obtain⟨y,hy,rfl⟩:=List.mem_map.1 hx
   have:=ha.2 y (List.mem_filter.1 hy).1;omega
def jk(T:QT):Bool:=(ew T).all fun x=> !(x.kind==4||x.kind==5)
end
section
theorem tb_ext(t:ByteArray)(a b i:Nat)(hi:a+i<b)(hb:b<=t.size):tb (t.extract a b) i=tb t (a+i):=by
 have h1:i<(t.extract a b).size:=by simp;omega
 have h2:a+i<t.size:=by omega
 rw[<-ia _ i h1,<-ia t (a+i) h2,ByteArray.getElem_extract]
theorem aaa(t:ByteArray)(L:Nat->Nat->Bool)(a b q:Nat)(hb:b<=t.size):∀n,a+q+n<=b->ky (t.extract a b) L q n=ky t L (a+q) n
 |0,_=>rfl
 |n+1,h=>by
  simp only[ky];rw[aaa t L a b q hb n (by omega),tb_ext t a b (q+n) (by omega) hb,dy]
def qm(t:ByteArray)(n:Nat)(L:Nat->Nat->Bool)(K:Int)(j:Nat):List Int:=qz t n L K (kh 0 j)
theorem fnd_app(t:ByteArray)(n:Nat)(L:Nat->Nat->Bool)(K:Int)(l m:List Nat):qz t n L K (l++m)=qz t n L K l++qz t n L K m:=by
 simp[qz]
theorem plc_app(a b:Nat):kh 0 (a+b)=kh 0 a++kh a b:=by
 unfold kh;rw[List.range_add,ep,List.map_map];congr 1;exact List.map_congr_left fun x _=>by simp
theorem xf(t:ByteArray)(n:Nat)(L:Nat->Nat->Bool)(K:Int)(s k:Nat):(qz t n L K (kh s k)).Pairwise (·<·):=by
 unfold qz kh;rw[List.pairwise_map];refine List.Pairwise.filter _ ?_;rw[List.pairwise_map];exact List.Pairwise.imp (fun h=>by omega) List.pairwise_lt_range
theorem sd(t:ByteArray)(n:Nat)(L:Nat->Nat->Bool)(K:Int)(l:List Nat)(x:Int):x∈qz t n L K l↔∃q:Nat,q∈l/\(ky t L q n:Int)<=K/\x=(q:Int):=by
 unfold qz;rw[List.mem_map];constructor
 ·rintro⟨q,hq,rfl⟩
  have:=List.mem_filter.1 hq;exact⟨q,this.1,by simpa using this.2,rfl⟩
 ·rintro⟨q,hq,h,rfl⟩
  exact⟨q,List.mem_filter.2 ⟨hq,by simpa using h⟩,rfl⟩
theorem sc(s k x:Nat):x∈kh s k↔s<=x/\x<s+k:=by
 unfold kh;rw[List.mem_map];constructor
 ·rintro⟨y,hy,rfl⟩;have:=List.mem_range.1 hy;omega
 ·intro h;exact⟨x-s,List.mem_range.2 (by omega),by omega⟩
theorem aa2(t:ByteArray)(n:Nat)(L:Nat->Nat->Bool)(K:Int)(j:Nat):jj (qm t n L K j)/\∀x∈qm t n L K j,x<(j:Int):=by
 refine⟨⟨xf _ _ _ _ _ _,fun x hx=>?_⟩,fun x hx=>?_⟩
 ·obtain⟨q,_,_,rfl⟩:=(sd _ _ _ _ _ _).1 hx;exact Int.natCast_nonneg q
 ·obtain⟨q,hq,_,rfl⟩:=(sd _ _ _ _ _ _).1 hx
  have:=(sc _ _ _).1 hq;omega
theorem amz(t:ByteArray)(n:Nat)(L:Nat->Nat->Bool)(K:Int)(j:Nat):(qm t n L K j).length<=j:=by
 have h:=aa2 t n L K j;exact kr h.1 h.2
theorem amy(t:ByteArray)(n:Nat)(L:Nat->Nat->Bool)(K:Int)(hr:fv n L K=true)(m:Nat)(hm:m<=t.size):p4 (t.extract 0 m) n L K=qm t n L K (m+1-n):=by
 have hs:(t.extract 0 m).size=m:=by simp;omega
 unfold p4 qm many;rw[if_pos hr,hs,Nat.sub_zero];unfold qz;congr 1;refine List.filter_congr fun q hq=>?_
 have:=(sc _ _ _).1 hq;rw[aaa t L 0 m q hm n (by omega),dg]
def nxt(nx m n:Nat):Nat:=max nx (m+1-n)
theorem amx(t:ByteArray)(n:Nat)(L:Nat->Nat->Bool)(K:Int)(hr:fv n L K=true)(b nx m:Nat)(hb:b<=nx)(hbm:b<=m)(hm:m<=t.size):
 qm t n L K (nxt nx m n)=qm t n L K nx++((p4 (t.extract b m) n L K).map fun x=>(b:Int)+x).filter fun x=>decide ((nx:Int)<=x):=by
 have hs:(t.extract b m).size=m-b:=by simp;omega
 have hn:nxt nx m n=nx+(m+1-n-nx):=by unfold nxt;omega
 rw[hn];unfold qm;rw[plc_app,fnd_app];congr 1;refine afe (xf _ _ _ _ _ _) (List.Pairwise.filter _ ?_) fun x=>?_
 ·rw[List.pairwise_map]
  exact List.Pairwise.imp (fun h=>by omega) (show(p4 (t.extract b m) n L K).Pairwise (·<·)from xf _ _ _ _ _ _)
 ·rw[List.mem_filter,List.mem_map,sd]
  unfold p4 many;rw[if_pos hr,hs];constructor
  ·rintro⟨q,hq,hk,rfl⟩
   have hq:=(sc _ _ _).1 hq;refine⟨⟨((q-b:Nat):Int),(sd _ _ _ _ _ _).2 ⟨q-b,(sc _ _ _).2 (by omega),?_,rfl⟩,by omega⟩,by simp;omega⟩;rw[aaa t L b m (q-b) hm n (by omega),show b+(q-b)=q by omega];exact hk
  ·rintro⟨⟨y,hy,rfl⟩,hx⟩
   obtain⟨q,hq,hk,rfl⟩:=(sd _ _ _ _ _ _).1 hy;have hq:=(sc _ _ _).1 hq;have hx:(nx:Int)<=(b:Int)+q:=by simpa using hx
   refine⟨b+q,(sc _ _ _).2 (by omega),?_,by omega⟩;rw[aaa t L b m q hm n (by omega)]at hk;exact hk
theorem aqq(t:ByteArray)(n:Nat)(L:Nat->Nat->Bool)(K:Int):jj (p4 t n L K)/\∀x∈p4 t n L K,x<((t.size+1-n:Nat):Int):=by
 refine⟨⟨xf _ _ _ _ _ _,fun x hx=>?_⟩,fun x hx=>?_⟩
 ·obtain⟨q,_,_,rfl⟩:=(sd _ _ _ _ _ _).1 hx;exact Int.natCast_nonneg q
 ·obtain⟨q,hq,_,rfl⟩:=(sd _ _ _ _ _ _).1 hx
  have:=(sc _ _ _).1 hq;unfold many at this;split at this<;>omega
def wk(x:Int):List Int->Bool->List Int
 |[],d=>if d then[]else[x]
 |y::l,d=>(if x<=y/\d=false then[x]else[])++(if y=x then[]else[y])++wk x l (d||decide (x<=y))
theorem aay(x:Int)(l:List Int):wk x l true=l.filter fun y=>decide (y≠x):=by
 induction l with
 |nil=>rfl
 |cons y l ih=>
  simp only[wk,Bool.true_or,ih];by_cases h:y=x
  ·simp[h]
  ·simp[h]
theorem amm(x:Int)(l:List Int)(h:l.Pairwise (·<·)):(wk x l false).Pairwise (·<·)/\∀z,z∈wk x l false↔z∈l\/z=x:=by
 induction l with
 |nil=>simp[wk]
 |cons y l ih=>
  rw[List.pairwise_cons]at h;simp only[wk];by_cases hx:x<=y
  ·have e:(false||decide (x<=y))=true:=by simpa using hx
   rw[e,aay,if_pos (by simp[hx])];by_cases hy:y=x
   ·rw[if_pos hy]
    subst hy;simp only[dh,List.singleton_append];refine⟨List.pairwise_cons.2 ⟨fun z hz=>h.1 z (List.mem_filter.1 hz).1,h.2.filter _⟩,fun z=>?_⟩;simp only[cz,List.mem_filter,cg];grind
   ·rw[if_neg hy]
    simp only[dk,List.nil_append];refine⟨List.pairwise_cons.2 ⟨fun z hz=>?_,List.pairwise_cons.2 ⟨fun z hz=>h.1 z (List.mem_filter.1 hz).1,h.2.filter _⟩⟩,fun z=>?_⟩
    ·rcases cz.1 hz with rfl|hz
     ·omega
     ·have:=h.1 z (List.mem_filter.1 hz).1;omega
    ·simp only[cz,List.mem_filter,cg]
     have:=h.1;grind
  ·have e:(false||decide (x<=y))=false:=by simpa using hx
   have hy:y≠x:=by omega
   rw[e,if_neg (by simp[hx]),if_neg hy];simp only[List.nil_append,dk];obtain⟨ih1,ih2⟩:=ih h.2;refine⟨List.pairwise_cons.2 ⟨fun z hz=>?_,ih1⟩,fun z=>?_⟩
   ·rcases(ih2 z).1 hz with hz|rfl
    ·exact h.1 z hz
    ·omega
   ·simp only[cz,ih2]
    grind
def puts(a:List Int)(b:List Int):List Int:=b.foldl (fun o x=>wk x o false) a
theorem amh(b:List Int):∀a:List Int,jj a->(∀x∈b,0<=x)->jj (puts a b)/\∀z,z∈puts a b↔z∈a\/z∈b:=by
 induction b with
 |nil=>intro a h _;exact⟨h,fun z=>by simp[puts]⟩
 |cons x b ih=>
  intro a h hb;obtain⟨h1,h2⟩:=amm x a h.1;have hx:=hb x dp;obtain⟨h3,h4⟩:=ih (wk x a false) ⟨h1,fun z hz=>by rcases(h2 z).1 hz with hz|rfl;exact h.2 z hz;exact hx⟩ (fun y hy=>hb y (db _ hy));refine⟨h3,fun z=>?_⟩;show z∈puts (wk x a false) b↔_;rw[h4,h2,cz];grind
theorem ap6(a b:List Int)(ha:jj a)(hb:jj b):puts a b=qy a b:=by
 obtain⟨h1,h2⟩:=amh b a ha hb.2;exact afe h1.1 (td a b ha.1 hb.1) fun z=>by rw[h2,pe]
theorem ami(a b:List Int)(x:Int):puts a (b++[x])=wk x (puts a b) false:=by simp[puts]
end
section
set_option maxRecDepth 100000
set_option maxHeartbeats 4000000
open Go.RowKit Go.Shelf
abbrev mj(s:ByteArray)(p e:Int):Obj:=.cells #[.string s,.int .i64 p,.int .i64 e] 215
def lu(w:World)(C:Nat)(s:ByteArray):Prop:=∃p e:Int,At w C (mj s p e)/\(0<=p/\p<=s.size)/\0<e/\e<200
theorem At.drewN{w:World}{C:Nat}{o:Obj}(h:At w C o)(n:Nat):At (w.drewN n) C o:=h.below (cu (aw w.heap.size w) n) h.lt
theorem Kt.drewN{ty:TypeId}{w w':World}(h:Kt ty w w')(n:Nat):Kt ty w (w'.drewN n):=h.trans (.below (cu ae n))
theorem li(C:Nat)(s:ByteArray)(p e:Int)(w:World)(hC:At w C (mj s p e)):
 Calls prog 154 #[.pointer (some ⟨C,0,none⟩)] w fun e w'=>e=.returned (.bool (decide ((s.size:Int)<=p)))/\∃m,w'=w.drewN m:=by
 have c0:=hC.cell 0;have c1:=hC.cell 1;have cl:=hC.lt;simp only[ak,am,au]at c0 c1;clear hC;go_enter func154,ntmps154;go_wp2_with fail
 go_quiet(fail)
 go_wp2_with fail
 go_ret;exact⟨rfl,_,rfl⟩
theorem arm(C:Nat)(s:ByteArray)(p e:Int)(hp:(s.size:Int)<=p)(b:Int)(w:World)(hC:At w C (mj s p e)):
 Calls prog 155 #[.pointer (some ⟨C,0,none⟩),.int .u8 b] w fun e w'=>e=.returned (.bool false)/\Below w.heap.size w w':=by
 have h1:=aa fun n=>li C s p e (w.drewN n) (hC.drewN n)
 rw[cw hp]at h1;clear hC;go_enter func155,ntmps155;go_wp2_with fail
 go_quiet((go_at_call 154;exact Calls.quiet_of (h1.out _)))
 go_wp2_with fail
 go_ret;exact⟨rfl,cu ae _⟩
theorem has_not(C:Nat)(s:ByteArray)(p:Nat)(e:Int)(hp:p<s.size)(b:Nat)(hb:tb s p≠b)(w:World)(hC:At w C (mj s p e)):
 Calls prog 155 #[.pointer (some ⟨C,0,none⟩),.int .u8 (b:Nat)] w fun e w'=>e=.returned (.bool false)/\Below w.heap.size w w':=by
 have h1:=aa fun n=>li C s p e (w.drewN n) (hC.drewN n)
 have c0:=hC.cell 0;have c1:=hC.cell 1;have cl:=hC.lt;simp only[ak,am,au]at c0 c1;have hki:decide ((s.size:Int)<=p)=false:=by simp;omega
 rw[hki]at h1;have hbb:((s[p].toNat:Int) !=(b:Int))=true:=by rw[ia s p hp,bne_iff_ne];omega
 have hpi:(p:Int)<s.size:=by omega
 clear hC hki hb;go_enter func155,ntmps155;go_wp2_with fail
 go_quiet((go_at_call 154;exact Calls.quiet_of (h1.out _)))
 go_wp2_with fail
 go_ret;exact⟨rfl,cu ae _⟩
theorem sf(C:Nat)(s:ByteArray)(p:Nat)(e:Int)(b:Nat)(hb:¬(p<s.size/\tb s p=b))(w:World)(hC:At w C (mj s p e)):
 Calls prog 155 #[.pointer (some ⟨C,0,none⟩),.int .u8 (b:Nat)] w fun e w'=>e=.returned (.bool false)/\Below w.heap.size w w':=by
 by_cases hp:p<s.size
 ·exact has_not C s p e hp b (fun h=>hb ⟨hp,h⟩) w hC
 ·exact arm C s p e (by omega) b w hC
theorem qb(C:Nat)(s:ByteArray)(p:Nat)(e:Int)(hs:s.size<=1000)(hp:p<s.size)(b:Nat)(hb:tb s p=b)(w:World)(hC:At w C (mj s p e)):
 Calls prog 155 #[.pointer (some ⟨C,0,none⟩),.int .u8 (b:Nat)] w fun e' w'=>e'=.returned (.bool true)/\Ex [C] w w'/\At w' C (mj s ((p+1:Nat):Int) e):=by
 have h1:=aa fun n=>li C s p e (w.drewN n) (hC.drewN n)
 have HC:=aa hC;have c0:=hC.cell 0;have c1:=hC.cell 1;have fz:=hC.free 1;have cl:=hC.lt;simp only[ak,am,au]at c0 c1;have hki:decide ((s.size:Int)<=p)=false:=by simp;omega
 rw[hki]at h1;have hbb:((s[p].toNat:Int) !=(b:Int))=false:=by rw[ia s p hp];simp;omega
 have hpi:(p:Int)<s.size:=by omega
 have hsi:(s.size:Int)<=1000:=by omega
 clear hC hki hb;go_enter func155,ntmps155;go_wp2_with fail
 go_quiet((go_at_call 154;exact Calls.quiet_of (h1.out _)))
 go_wp2_with fail
 go_ret;exact⟨rfl,(Ex.of (S:=[C]) (cu ae _)).set C 1 _ (by simp),(HC.out.drewN _).set 1 _⟩
theorem i9(C:Nat)(s:ByteArray)(p e p' e':Int)(w:World)(hC:At w C (mj s p e)):
 Calls prog 206 #[.pointer (some ⟨C,0,none⟩),.int .i64 p',.int .i64 e'] w fun e w'=>e=.returned (.tuple #[])/\Ex [C] w w'/\At w' C (mj s p' e'):=by
 have HC:=aa hC;have c0:=hC.cell 0;have c1:=hC.cell 1;have c2:=hC.cell 2;have fz:=hC.free 1;have fz2:=hC.free 2;have cl:=hC.lt;simp only[ak,am,au]at c0 c1 c2;clear hC;go_enter func206,ntmps206;go_wp2_with fail
 refine⟨rfl,.tuple #[],by first|rfl|simp[results,results206,go_sem],rfl,((Ex.refl [C] w).set C 1 _ (by simp)).set C 2 _ (by simp),(HC.out.set 1 _).set 2 _⟩
theorem sign_no(b:Nat)(h:mg b=false)(w:World):Calls prog 240 #[.int .u8 (b:Nat)] w fun e w'=>e=.returned (.bool false)/\w'=w:=by
 by_cases h1:(32:Int)<=b
 ·have h2:¬(b:Int)<=126:=by simp[mg]at h;omega
  go_enter func240,ntmps240;go_wp2_with fail
  go_ret;exact⟨rfl,rfl⟩
 ·go_enter func240,ntmps240
  go_wp2_with fail
  go_ret;exact⟨rfl,rfl⟩
theorem ae5(b:Nat)(h:mg b=true)(w:World):Calls prog 240 #[.int .u8 (b:Nat)] w fun e w'=>e=.returned (.bool true)/\w'=w:=by
 simp[mg]at h;exact ae6 b h.1 h.2 w
end
end Go.Proofs.YtjfkmoinldlmaaaGreat
