/- The walk of BeagleFails, part 36. Walks of set.Shift and set.Or at rising rows. Walks of the reference's rows: Right, Has, And, put, Or. Walks of the reference's put and Or. Walks of the reference's lexer: in, sign, hex. Walks of the reference's lexer: Escape, item. -/
import Derived.Test.YtjfkmoinldlmaaaGreatFa35
namespace Go.Proofs.YtjfkmoinldlmaaaGreat
open Go.Proofs.Tryz
section
set_option maxRecDepth 100000
set_option maxHeartbeats 8000000
open Go.RowKit Go.Shelf
theorem own_put{w:World}{base g n cap:Nat}{e:TypeId}{xs:List Value}(h:w.ownsRow base e 1 (.slice (some ⟨g,0,none⟩) n cap) n xs)(j:Nat)(u:Value):(w.setCell ⟨g,j,none⟩ u).ownsRow base e 1 (.slice (some ⟨g,0,none⟩) n cap) n (xs.set j u):=by
 refine⟨by rw[List.length_set];exact h.1,.inr ?_⟩;rcases h.2 with⟨h2,_⟩|⟨g',cap',cur,hv,hb,hg,h1,h2,h3,h4⟩
 ·cases h2
 ·cases hv
  have hA:At w g (.cells cur e (0,0)):=hg;refine⟨g,cap,cur.setIfInBounds j u,rfl,hb,hA.set j u,h1,h2,by simpa using h3,?_⟩;rw[<-h4,Array.toList_setIfInBounds,List.take_set]
theorem aqi{w:World}{base g n cap size:Nat}{e:TypeId}{xs:List Value}(h:w.ownsRow base e size (.slice (some ⟨g,0,none⟩) n cap) n xs)(j:Nat):w.frozen? ⟨g,j,none⟩=false:=by
 rcases h.2 with⟨h2,_⟩|⟨g',cap',cur,hv,hb,hg,_⟩
 ·cases h2
 ·cases hv
  exact At.free (show At w g (.cells cur e (0,0))from hg) j
def shL(l:List Int)(m:Nat):List Int:=(l.filter fun x=>decide ((m:Int)<=x)).map fun x=>x-m
def zm(q:List Int)(m k:Nat):List Int:=(q.take k).map (fun x=>x-(m:Int))++q.drop k
theorem rf(q:List Int)(m k:Nat):(zm q m k).length=q.length:=by simp[zm];omega
theorem shTo_gi(q:List Int)(m k:Nat)(hk:k<q.length):gi (zm q m k) k=gi q k:=by
 rw[tj (by rw[rf];exact hk),tj hk];unfold zm;rw[List.getElem_append_right (by simp;omega)];simp;congr 1;omega
theorem ao7(q:List Int)(m k:Nat)(hk:k<q.length):(ga (zm q m k)).set k (.int .i64 (gi q k-m))=ga (zm q m (k+1)):=by
 refine List.ext_getElem (by simp[iw,rf]) fun j h1 h2=>?_
 rw[iw,rf]at h2;rw[List.getElem_set];simp only[ga,List.getElem_map];unfold zm;split
 ·next h=>subst h;rw[List.getElem_append_left (by simp;omega)];simp[tj hk]
 ·next h=>
  rcases Nat.lt_or_ge j k with hjk|hjk
  ·rw[List.getElem_append_left (by simp;omega),List.getElem_append_left (by simp;omega)];simp
  ·rw[List.getElem_append_right (by simp;omega),List.getElem_append_right (by simp;omega)];simp;congr 1;omega
theorem ahe(NB m:Nat)(x:Int)(w:World)(h:At w NB (.cells #[.int .i64 (m:Nat)] 3)):
 Calls prog 217 #[.int .i64 x,.pointer (some ⟨NB,0,none⟩)] w fun e w'=>e=.returned (.bool (decide ((m:Int)<=x)))/\w'=w:=by
 have c0:=h.cell 0;have hl:=h.lt;simp only[ak,am]at c0;clear h;go_enter func217,ntmps217;go_wp2_with fail
 go_ret;exact⟨rfl,rfl⟩
theorem ac7(l:List Int)(hr:jj l)(hl:(l.length:Int)<=100000)(hlx:∀x∈l,x<=100000)(m:Nat)(hm:m<=1000000)(ad:Option Addr)(cap:Nat)(w:World)(hR:gg w ad l.length (gi l) w.heap.size):
 Calls prog 170 #[.slice ad l.length cap,.int .i64 (m:Nat)] w fun e w'=>∃v,e=.returned v/\w'.ownsRow w.heap.size 3 1 v (shL l m).length (ga (shL l m))/\Below w.heap.size w w':=by
 have hb1:=(aw w.heap.size w).alloc ac (.cells #[.int .i64 (m:Nat)] 3);have hNB:=At.new w (.cells #[.int .i64 (m:Nat)] 3);have hmi:¬((m:Int)<0):=by omega
 have h3:=aa fun C I w' q1 q2 q3 q4 q5 q6=>af0 C l hr hl ad cap (fun x=>decide ((m:Int)<=x)) I w' q1 q2 q3 q4 q5 q6
 have HR:=aa hR;have HB1:=aa hb1;have HNB:=aa hNB;clear hR hb1 hNB;go_enter func170,ntmps170;go_wp2_with fail
 go_at_call 215;refine(h3.out w.heap.size (fun _ w'=>At w' w.heap.size (.cells #[.int .i64 (m:Nat)] 3)) _ HNB.out.lt (fun hn=>HR.out.ne ac hn) ((HR.out.below HB1.out ac).mono HB1.out.size) HNB.out ?_ ?_).mono ?_
 ·rintro k w' hk hA
  refine(ahe w.heap.size m (gi l k) w' hA).mono ?_;rintro e w''⟨rfl,rfl⟩;exact⟨rfl,Ex.refl _ _,hA⟩
 ·rintro k w' w'' hA hz hb'
  exact hA.below hb' HNB.out.lt
 ·rintro e w3⟨v,rfl,ho,he,hi⟩
  have HI:=aa (show At w3 w.heap.size (.cells #[.int .i64 (m:Nat)] 3)from hi);obtain⟨q,hq⟩:∃q,q=l.filter fun x=>decide ((m:Int)<=x):=⟨_,rfl⟩
  rw[<-hq]at ho;have HQ:=aa hq;have HO:=aa ho;have HE:=aa he;clear hq;obtain⟨adq,cq,rfl⟩:=ey ho;clear ho he;have hqx:∀j,j<q.length->(m:Int)<=gi q j/\gi q j<=100000:=fun j hj=>by
   have:=ai1 hj;rw[HQ.out]at this;have h:=List.mem_filter.1 this;rw[<-HQ.out]at h;exact⟨by simpa using h.2,hlx _ h.1⟩
  have hql:q.length<=l.length:=by rw[HQ.out];exact d9 _ _
  have HQX:=aa hqx;have HB3:=aa (HB1.out.trans (HE.out.below HB1.out.size (by simp)));clear hqx hi;go_wp2_with fail
  go_loopw[14] (fun i wr=>∃k:Nat,k<=q.length/\i=.int .i64 (k:Nat)/\wr.ownsRow (w.alloc (.cells #[.int .i64 (m:Nat)] 3)).heap.size 3 1 (.slice adq q.length cq) q.length (ga (zm q m k))/\At wr w.heap.size (.cells #[.int .i64 (m:Nat)] 3)/\Below w.heap.size w wr) (fun i _=>q.length-(intOf i).toNat)
  case atStart=>exact⟨0,cx _,rfl,by simpa[zm]using HO.out,HI.out,HB3.out⟩
  case round=>
   obtain⟨k,hk,rfl,hown,hA,hb⟩:=hrel;have HOk:=aa hown;have HAk:=aa hA;have HBk:=aa hb;by_cases hlt:k<q.length
   ·obtain⟨g,cap',hv,hbg,hgl,hc⟩:=yd hown (by omega) (by rw[iw,rf];omega)
    cases hv;have e0:=hc k _ (acp (zm q m k) k (by rw[rf];exact hlt));rw[shTo_gi q m k hlt]at e0;have z0:=aqi hown k;have c0:=hA.cell 0;have hl0:=hA.lt;simp only[ak,am]at c0;have hki:(k:Int)<q.length:=by omega
    obtain⟨hx1,hx2⟩:=HQX.out k hlt;rw[bg]at hbg;have hne:w.heap.size≠g:=by omega
    have hne2:g≠w.heap.size:=by omega
    have HS:=aa (ao7 q m k hlt);have HN:=aa hne2;clear hown hA hb hc;go_wp2_with fail
    go_region;go_wp2_with fail
    go_roundw
    case rel=>exact⟨k+1,hlt,by go_num,by rw[<-HS.out];exact own_put HOk.out k _,HAk.out.far HN.out _,(HBk.out.setCell (p:=⟨g,k,none⟩) (by show w.heap.size<=g;omega) _).drew⟩
    case measure=>simp[intOf];omega
   ·have hki:¬(k:Int)<q.length:=by omega
    obtain rfl:k=q.length:=by omega
    clear hown hA hb;go_wp2_with fail
    go_ret;have hsh:zm q m q.length=shL l m:=by unfold zm shL;rw[dr,List.drop_length,dh,HQ.out]
    have hln:(shL l m).length=q.length:=by rw[<-hsh,rf]
    rw[hsh]at HOk;refine⟨_,rfl,?_,HBk.out⟩;rw[hln];exact fx HOk.out (by simp)
theorem gg.tlif{w:World}{b o m c:Nat}{x:Int}{l:List Int}(h:gg w (some ⟨b,o,none⟩) (x::l).length (gi (x::l)) m)(hc:l.length+1<=c):gg w (if c=1 then some ⟨b,o,none⟩else some ⟨b,o+1,none⟩) l.length (gi l) m:=by
 split
 ·exact .inl (by omega)
 ·exact h.tl
def slen:Value->Nat
 | .slice _ n _=>n
 |_=>0
theorem wv(x y:Int)(a b:List Int):qy (x::a) (y::b)=if x<y then x::qy a (y::b)else if y<x then y::qy (x::a) b else x::qy a b:=by rw[qy]
theorem mrg_len(a b:List Int):(qy a b).length<=a.length+b.length:=by
 induction a generalizing b with
 |nil=>simp[qy]
 |cons x a ih=>
  induction b with
  |nil=>simp[qy]
  |cons y b ihb=>
   rw[wv];split
   ·have:=ih (y::b);simp only[bz]at *;omega
   ·split
    ·simp only[bz]at *;omega
    ·have:=ih b;simp only[bz]at *;omega
theorem alr(a b:List Int)(ha:jj a)(hb:jj b)(hla:(a.length:Int)<=100000)(hlb:(b.length:Int)<=100000)(ad:Option Addr)(ca:Nat)(ad':Option Addr)(cb:Nat)(hca:a.length<=ca)(hcb:b.length<=cb)(w:World)(hA:gg w ad a.length (gi a) w.heap.size)(hB:gg w ad' b.length (gi b) w.heap.size):
 Calls prog 168 #[.slice ad a.length ca,.slice ad' b.length cb] w fun e w'=>∃v,e=.returned v/\w'.ownsRow w.heap.size 3 1 v (qy a b).length (ga (qy a b))/\Below w.heap.size w w':=by
 have h1:=aa (ka a ha hla ad ca w hA);have h2:=aa (ka b hb hlb ad' cb w hB);have HA:=aa hA;have HB:=aa hB;have hml:=mrg_len a b;clear hA hB;go_enter func168,ntmps168;go_wp2_with(first|(go_at_call 112;(with_reducible refine h1.out.mono ?_);rintro e w1⟨rfl,rfl⟩)|(go_at_call 112;(with_reducible refine h2.out.mono ?_);rintro e w1⟨rfl,rfl⟩))
 go_loopw[0,1,5] (fun va vb v wr=>∃(a' b' o:List Int)(ada adb:Option Addr)(ca' cb':Nat),va=.slice ada a'.length ca'/\vb=.slice adb b'.length cb'/\a'.length<=ca'/\b'.length<=cb'/\a'.length<=a.length/\b'.length<=b.length/\gg wr ada a'.length (gi a') w1.heap.size/\gg wr adb b'.length (gi b') w1.heap.size/\o++qy a' b'=qy a b/\wr.ownsRow w1.heap.size 3 1 v o.length (ga o)/\Below w1.heap.size w1 wr) (fun va vb _ _=>slen va+slen vb)
 case atStart=>exact⟨a,b,[],ad,ad',ca,cb,rfl,rfl,hca,hcb,ac,ac,HA.out,HB.out,rfl,bj _ _ _ _,ae⟩
 case round=>
  obtain⟨a',b',o,ada,adb,ca',cb',rfl,rfl,hca',hcb',hla',hlb',hRa,hRb,hm,hown,hbw⟩:=hrel;have hol:o.length+(qy a' b').length=(qy a b).length:=by rw[<-hm,bd]
  have HO:=aa hown;have HRa:=aa hRa;have HRb:=aa hRb;have HBw:=aa hbw;have HNz:=aa hbw.size;have hoB:(o.length:Int)<=200000:=by omega
  obtain⟨ad5,c5,rfl⟩:=ey hown;clear hown hRa hRb hbw hol;cases a' with
  |nil=>
   have HM:=aa (show o++[]++b'=qy a b by rw[dh,<-hm];simp[qy]);clear hm;go_wp2_with(first|(at_builtin;(with_reducible refine jb iv rfl (.tmp 48) (.tmp 49) rfl rfl HO.out rfl HRa.out.news (by rw[iw];omega) (wz _) (by unfold maxLen;omega) (by omega) HNz.out ?_);intro v8 w8 hown8 hb8 hk8 hg8 hv8;have HO8:=aa hown8;have HB8:=aa hb8;have HRb8:=aa (HRb.out.below hb8 ac);have HN8:=aa (ba HNz.out hb8.size);clear hown8 hb8 hk8 hg8 hv8)|(at_builtin;(with_reducible refine jb iv rfl (.tmp 50) (.tmp 51) rfl rfl HO8.out rfl HRb8.out.news (by rw[iw];omega) (wz _) (by unfold maxLen;omega) (by omega) HN8.out ?_);intro v9 w9 hown9 hb9 hk9 hg9 hv9;have HO9:=aa hown9;have HB9:=aa hb9;clear hown9 hb9 hk9 hg9 hv9))
   go_ret;refine⟨_,rfl,?_,HBw.out.trans (HB8.out.trans HB9.out)⟩;have h:=HO9.out;rw[<-jd,<-jd,<-bd,<-bd,HM.out]at h;exact h
  |cons x a'=>
   cases b' with
   |nil=>
    have HM:=aa (show o++(x::a')++[]=qy a b by rw[dh,<-hm,mrg_nil]);have hxl:((x::a').length:Int)=(a'.length:Int)+1:=by simp
    have hxl2:(x::a').length=a'.length+1:=by simp
    clear hm;go_wp2_with(first|(at_builtin;(with_reducible refine jb iv rfl (.tmp 48) (.tmp 49) rfl rfl HO.out rfl HRa.out.news (by rw[iw];omega) (wz _) (by unfold maxLen;omega) (by omega) HNz.out ?_);intro v8 w8 hown8 hb8 hk8 hg8 hv8;have HO8:=aa hown8;have HB8:=aa hb8;have HRb8:=aa (HRb.out.below hb8 ac);have HN8:=aa (ba HNz.out hb8.size);clear hown8 hb8 hk8 hg8 hv8)|(at_builtin;(with_reducible refine jb iv rfl (.tmp 50) (.tmp 51) rfl rfl HO8.out rfl HRb8.out.news (by rw[iw];omega) (wz _) (by unfold maxLen;omega) (by omega) HN8.out ?_);intro v9 w9 hown9 hb9 hk9 hg9 hv9;have HO9:=aa hown9;have HB9:=aa hb9;clear hown9 hb9 hk9 hg9 hv9))
    go_ret;refine⟨_,rfl,?_,HBw.out.trans (HB8.out.trans HB9.out)⟩;have h:=HO9.out;rw[<-jd,<-jd,<-bd,<-bd,HM.out]at h;exact h
   |cons y b'=>
    have hxl:((x::a').length:Int)=(a'.length:Int)+1:=by simp
    have hyl:((y::b').length:Int)=(b'.length:Int)+1:=by simp
    have hxl2:(x::a').length=a'.length+1:=by simp
    have hyl2:(y::b').length=b'.length+1:=by simp
    obtain⟨b1,o1,rfl,hb1l,e1⟩:=HRa.out.at (show 0<(x::a').length by simp);obtain⟨b2,o2,rfl,hb2l,e2⟩:=HRb.out.at (show 0<(y::b').length by simp);have e1':wr.cell? ⟨b1,o1,none⟩=some (.int .i64 x):=e1;have e2':wr.cell? ⟨b2,o2,none⟩=some (.int .i64 y):=e2;have HM:=aa hm;have hb1w:b1<wr.heap.size:=az hb1l HNz.out;have hb2w:b2<wr.heap.size:=az hb2l HNz.out;clear hm e1 e2 hb1l hb2l;rcases Int.lt_trichotomy x y with hxy|rfl|hxy
    ·have hs:qy (x::a') (y::b')=x::qy a' (y::b'):=by rw[wv];rw[if_pos hxy]
     have HS:=aa hs;have hmn:min x y=x:=by omega
     have hne:(x==x)=true:=by simp
     have hne2:(y==x)=false:=by rw[ax];omega
     clear hs;have HOd:=aa (show wr.drew.ownsRow w1.heap.size 3 1 (.slice ad5 o.length c5) o.length (ga o)from HO.out);have HRad:=aa (show gg wr.drew (some ⟨b1,o1,none⟩) _ _ _ from HRa.out);have HRbd:=aa (show gg wr.drew (some ⟨b2,o2,none⟩) _ _ _ from HRb.out);have HBd:=aa (show Below w1.heap.size w1 wr.drew from HBw.out.drew);have HNd:=aa (show w1.heap.size<=wr.drew.heap.size from HNz.out);go_wp2_with fail
     go_region;generalize wr.drew=W3 at *;go_wp2_with(at_builtin;refine gr iv rfl _ _ rfl rfl HOd.out [.int .i64 x] rfl rfl (by simp[Value.oneCell']) (by unfold maxLen;omega) (by omega) HNd.out ?_;intro v9 w9 hown9 hb9 hk9;have HO9:=aa hown9;have HB9:=aa (HBd.out.trans hb9);have HRa9:=HRad.out.below hb9 ac;have HRb9:=HRbd.out.below hb9 ac;obtain⟨b1,o1,hb1,-,e1⟩:=HRa9.at (show 0<(x::a').length by simp);cases hb1;obtain⟨b2,o2,hb2,-,e2⟩:=HRb9.at (show 0<(y::b').length by simp);cases hb2;have e1':w9.cell? ⟨b1,o1,none⟩=some (.int .i64 x):=e1;have e2':w9.cell? ⟨b2,o2,none⟩=some (.int .i64 y):=e2;have HRA:=aa HRa9;have HRB:=aa HRb9;clear hown9 hk9 hb9 HRa9 HRb9 e1 e2)
     go_roundw
     case rel=>exact⟨a',y::b',o++[x],_,_,_,_,rfl,rfl,by simp only[bz]at *;omega,by simp only[bz]at *;omega,by simp only[bz]at *;omega,by simp only[bz]at *;omega,HRA.out.tlif (by simp only[bz]at *;omega),HRB.out,by rw[<-HM.out,HS.out];simp,by rw[jd,bd];exact HO9.out,HB9.out⟩
     case measure=>simp[slen];try omega
    ·have hs:qy (x::a') (x::b')=x::qy a' b':=by rw[wv];rw[if_neg (by omega),if_neg (by omega)]
     have HS:=aa hs;have hmn:min x x=x:=by omega
     have hne:(x==x)=true:=by simp
     clear hs;have HOd:=aa (show wr.drew.ownsRow w1.heap.size 3 1 (.slice ad5 o.length c5) o.length (ga o)from HO.out);have HRad:=aa (show gg wr.drew (some ⟨b1,o1,none⟩) _ _ _ from HRa.out);have HRbd:=aa (show gg wr.drew (some ⟨b2,o2,none⟩) _ _ _ from HRb.out);have HBd:=aa (show Below w1.heap.size w1 wr.drew from HBw.out.drew);have HNd:=aa (show w1.heap.size<=wr.drew.heap.size from HNz.out);go_wp2_with fail
     go_region;generalize wr.drew=W3 at *;go_wp2_with(at_builtin;refine gr iv rfl _ _ rfl rfl HOd.out [.int .i64 x] rfl rfl (by simp[Value.oneCell']) (by unfold maxLen;omega) (by omega) HNd.out ?_;intro v9 w9 hown9 hb9 hk9;have HO9:=aa hown9;have HB9:=aa (HBd.out.trans hb9);have HRa9:=HRad.out.below hb9 ac;have HRb9:=HRbd.out.below hb9 ac;obtain⟨b1,o1,hb1,-,e1⟩:=HRa9.at (show 0<(x::a').length by simp);cases hb1;obtain⟨b2,o2,hb2,-,e2⟩:=HRb9.at (show 0<(x::b').length by simp);cases hb2;have e1':w9.cell? ⟨b1,o1,none⟩=some (.int .i64 x):=e1;have e2':w9.cell? ⟨b2,o2,none⟩=some (.int .i64 x):=e2;have HRA:=aa HRa9;have HRB:=aa HRb9;clear hown9 hk9 hb9 HRa9 HRb9 e1 e2)
     go_roundw
     case rel=>exact⟨a',b',o++[x],_,_,_,_,rfl,rfl,by simp only[bz]at *;omega,by simp only[bz]at *;omega,by simp only[bz]at *;omega,by simp only[bz]at *;omega,HRA.out.tlif (by simp only[bz]at *;omega),HRB.out.tlif (by simp only[bz]at *;omega),by rw[<-HM.out,HS.out];simp,by rw[jd,bd];exact HO9.out,HB9.out⟩
     case measure=>simp[slen];try omega
    ·have hs:qy (x::a') (y::b')=y::qy (x::a') b':=by rw[wv];rw[if_neg (by omega),if_pos hxy]
     have HS:=aa hs;have hmn:min x y=y:=by omega
     have hne:(y==y)=true:=by simp
     have hne2:(x==y)=false:=by rw[ax];omega
     clear hs;have HOd:=aa (show wr.drew.ownsRow w1.heap.size 3 1 (.slice ad5 o.length c5) o.length (ga o)from HO.out);have HRad:=aa (show gg wr.drew (some ⟨b1,o1,none⟩) _ _ _ from HRa.out);have HRbd:=aa (show gg wr.drew (some ⟨b2,o2,none⟩) _ _ _ from HRb.out);have HBd:=aa (show Below w1.heap.size w1 wr.drew from HBw.out.drew);have HNd:=aa (show w1.heap.size<=wr.drew.heap.size from HNz.out);go_wp2_with fail
     go_region;generalize wr.drew=W3 at *;go_wp2_with(at_builtin;refine gr iv rfl _ _ rfl rfl HOd.out [.int .i64 y] rfl rfl (by simp[Value.oneCell']) (by unfold maxLen;omega) (by omega) HNd.out ?_;intro v9 w9 hown9 hb9 hk9;have HO9:=aa hown9;have HB9:=aa (HBd.out.trans hb9);have HRa9:=HRad.out.below hb9 ac;have HRb9:=HRbd.out.below hb9 ac;obtain⟨b1,o1,hb1,-,e1⟩:=HRa9.at (show 0<(x::a').length by simp);cases hb1;obtain⟨b2,o2,hb2,-,e2⟩:=HRb9.at (show 0<(y::b').length by simp);cases hb2;have e1':w9.cell? ⟨b1,o1,none⟩=some (.int .i64 x):=e1;have e2':w9.cell? ⟨b2,o2,none⟩=some (.int .i64 y):=e2;have HRA:=aa HRa9;have HRB:=aa HRb9;clear hown9 hk9 hb9 HRa9 HRb9 e1 e2)
     go_roundw
     case rel=>exact⟨x::a',b',o++[y],_,_,_,_,rfl,rfl,by simp only[bz]at *;omega,by simp only[bz]at *;omega,by simp only[bz]at *;omega,by simp only[bz]at *;omega,HRA.out,HRB.out.tlif (by simp only[bz]at *;omega),by rw[<-HM.out,HS.out];simp,by rw[jd,bd];exact HO9.out,HB9.out⟩
     case measure=>simp[slen];try omega
end
section
set_option maxRecDepth 100000
set_option maxHeartbeats 4000000
open Go.RowKit Go.Shelf
theorem mn(l:List Int)(hr:jj l)(hl:(l.length:Int)<=100000)(ad:Option Addr)(cap:Nat)(w:World)(hR:gg w ad l.length (gi l) w.heap.size):
 Calls prog 66 #[.slice ad l.length cap] w fun e w'=>e=.returned (.bool true)/\Below w.heap.size w w':=by
 have HR:=aa hR;clear hR;go_enter func66,ntmps66;go_wp2_with fail
 go_loopw[3] (fun i wr=>∃k:Nat,k<=l.length/\i=.int .i64 (k:Nat)/\Below w.heap.size w wr) (fun i _=>l.length-(intOf i).toNat)
 case atStart=>exact⟨0,cx _,rfl,ae⟩
 case round=>
  obtain⟨k,hk,rfl,hb⟩:=hrel;have HB:=aa hb;by_cases hlt:k<l.length
  ·obtain⟨b,o,rfl,hbm,c0⟩:=(HR.out.below hb ac).at hlt
   have hbl:b<wr.heap.size:=az hbm hb.size;have hki:(k:Int)<l.length:=by omega
   have h0:=ajs hr hlt;have h0':¬(gi l k<0):=by omega
   by_cases hk0:k=0
   ·have hkp:¬((0:Int)<k):=by omega
    have hkn:¬(0<k):=by omega
    have hd0:decide (gi l k<0)=false:=bv h0';have hd1:decide ((0:Int)<k)=false:=bv hkp;have hd2:decide (0<k)=false:=bv hkn;clear hb h0 hk0 h0' hkp hkn;go_wp2_with fail
    go_quiet(fail)
    go_wp2_with fail
    exact⟨⟨k+1,by omega,by go_num,cu HB.out _⟩,by simp[intOf];omega⟩
   ·have hkp:(0:Int)<k:=by omega
    have hkn:0<k:=by omega
    obtain⟨b',o',hb',-,c1⟩:=(HR.out.below hb ac).at (show k-1<l.length by omega);cases hb';have hle:=wq hr (show k-1<k by omega) hlt;have hle':¬(gi l k<=gi l (k-1)):=by omega
    have hks:((k-1:Nat):Int)=(k:Int)-1:=by omega
    have hk1:(k:Int)-1<l.length:=by omega
    have hk2:(0:Int)<=(k:Int)-1:=by omega
    have htn:((k:Int)-1).toNat=k-1:=by omega
    have hd0:decide (gi l k<0)=false:=bv h0';have hd1:decide ((0:Int)<k)=true:=cw hkp;have hd2:decide (0<k)=true:=cw hkn;have hd3:decide (gi l k<=gi l (k-1))=false:=bv hle';clear hb h0 hle h0' hle';go_wp2_with fail
    go_quiet(fail)
    go_wp2_with fail
    exact⟨⟨k+1,by omega,by go_num,cu HB.out _⟩,by simp[intOf];omega⟩
  ·have hki:¬(k:Int)<l.length:=by omega
   go_wp2_with fail
   go_ret;exact⟨rfl,hb⟩
theorem ahr(l:List Int)(hl:(l.length:Int)<=100000)(x:Int)(ad:Option Addr)(cap:Nat)(w:World)(hR:gg w ad l.length (gi l) w.heap.size):
 Calls prog 174 #[.slice ad l.length cap,.int .i64 x] w fun e w'=>e=.returned (.bool (decide (x∈l)))/\w'=w:=by
 have HR:=aa hR;clear hR;go_enter func174,ntmps174;go_wp2_with fail
 go_loopw[5] (fun i wr=>∃k:Nat,k<=l.length/\i=.int .i64 (k:Nat)/\(∀j,j<k->gi l j≠x)/\wr=w) (fun i _=>l.length-(intOf i).toNat)
 case atStart=>exact⟨0,cx _,rfl,fun j hj=>by omega,rfl⟩
 case round=>
  obtain⟨k,hk,rfl,hno,rfl⟩:=hrel;have HN:=aa hno;clear hno;by_cases hlt:k<l.length
  ·obtain⟨b,o,rfl,hb,c0⟩:=HR.out.at hlt
   have hki:(k:Int)<l.length:=by omega
   by_cases hx:gi l k=x
   ·have g:(gi l k==x)=true:=by rw[beq_iff_eq];exact hx
    have hd:decide (x∈l)=true:=by rw[decide_eq_true_iff,<-hx];exact ai1 hlt
    have HD:=aa hd;clear hd hx;go_wp2_with fail
    go_ret;exact⟨by rw[HD.out];rfl,rfl⟩
   ·have g:(gi l k==x)=false:=by rw[ax];exact hx
    have HX:=aa hx;clear hx;go_wp2_with fail
    refine⟨⟨k+1,by omega,by go_num,fun j hj=>?_,trivial⟩,by simp[intOf];omega⟩;by_cases h:j<k
    ·exact HN.out j h
    ·obtain rfl:j=k:=by omega
     exact HX.out
  ·have hki:¬(k:Int)<l.length:=by omega
   have hd:decide (x∈l)=false:=by
    rw[dw];intro hm;obtain⟨j,hj,e⟩:=aq1 hm;exact HN.out j (by omega) e
   have HD:=aa hd;clear hd;go_wp2_with fail
   go_ret;exact⟨by rw[HD.out];rfl,rfl⟩
theorem ahz(a b:List Int)(ha:jj a)(hb:jj b)(hla:(a.length:Int)<=100000)(hlb:(b.length:Int)<=100000)(ad:Option Addr)(ca:Nat)(ad':Option Addr)(cb:Nat)(w:World)(hA:gg w ad a.length (gi a) w.heap.size)(hB:gg w ad' b.length (gi b) w.heap.size):
 Calls prog 128 #[.slice ad a.length ca,.slice ad' b.length cb] w fun e w'=>∃v,e=.returned v/\w'.ownsRow w.heap.size 3 1 v (andL a b).length (ga (andL a b))/\Below w.heap.size w w':=by
 have h1:=aa (mn a ha hla ad ca w hA);have h2:=aa fun w' h=>mn b hb hlb ad' cb w' h
 have h3:=aa fun x w' h=>ahr b hlb x ad' cb w' h
 have HA:=aa hA;have HB:=aa hB;clear hA hB;go_enter func128,ntmps128;go_wp2_with(first|(go_at_call 66;(with_reducible refine h1.out.mono ?_);rintro e w1⟨rfl,hb1⟩;have B1:=aa hb1)|(go_at_call 66;(with_reducible refine(h2.out _ ((HB.out.below B1.out ac).mono B1.out.size)).mono ?_);rintro e w2⟨rfl,hb2⟩;have B2:=aa (B1.out.trans (hb2.mono B1.out.size));clear hb2))
 go_loopw[5,6] (fun v i wr=>∃k:Nat,k<=a.length/\i=.int .i64 (k:Nat)/\wr.ownsRow w.heap.size 3 1 v ((a.take k).filter fun x=>decide (x∈b)).length (ga ((a.take k).filter fun x=>decide (x∈b)))/\Below w.heap.size w wr) (fun _ i _=>a.length-(intOf i).toNat)
 case atStart=>exact⟨0,cx _,rfl,bj _ _ _ _,B2.out⟩
 case round=>
  obtain⟨k,hk,rfl,hown,hb⟩:=hrel;have hlen:((a.take k).filter fun x=>decide (x∈b)).length<=k:=ba (d9 _ _) (List.length_take_le _ _);have HO:=aa hown;have HB3:=aa hb;have HNz:=aa hb.size;obtain⟨ad5,c5,rfl⟩:=ey hown;by_cases hlt:k<a.length
  ·obtain⟨b',o,rfl,hbm,e0⟩:=(HA.out.below hb ac).at hlt
   have hbl:b'<wr.heap.size:=az hbm hb.size;have hki:(k:Int)<a.length:=by omega
   have hs:=aa (nd (fun x=>decide (x∈b)) hlt);have hh:=aa (h3.out (gi a k) wr ((HB.out.below hb ac).mono hb.size));clear hown hb;cases hp:decide (gi a k∈b)
   ·rw[hp]at hh hs
    go_wp2_with(go_at_call 174;refine hh.out.mono ?_;rintro e w4⟨rfl,rfl⟩)
    exact⟨⟨k+1,hlt,by go_num,by rw[hs.out];simpa using HO.out,HB3.out⟩,by simp[intOf];omega⟩
   ·rw[hp]at hh hs
    go_wp2_with(first|(go_at_call 174;refine hh.out.mono ?_;rintro e w4⟨rfl,rfl⟩)|(at_builtin;refine gr iv rfl _ _ rfl rfl HO.out [.int .i64 (gi a k)] rfl rfl (by simp[Value.oneCell']) (by unfold maxLen;omega) (by omega) HNz.out ?_;intro v9 w9 hown9 hb9 hk9;have HO9:=aa hown9;have HB9:=aa hb9;clear hown9 hb9 hk9))
    exact⟨⟨k+1,hlt,by go_num,by rw[hs.out,jd,bd];exact HO9.out,HB3.out.trans HB9.out⟩,by simp[intOf];omega⟩
  ·have hki:¬(k:Int)<a.length:=by omega
   obtain rfl:k=a.length:=by omega
   rw[dr]at HO;go_wp2_with fail
   go_ret;exact⟨_,rfl,HO.out,HB3.out⟩
end
section
set_option maxRecDepth 100000
set_option maxHeartbeats 4000000
open Go.RowKit Go.Shelf
theorem drop_gi{l:List Int}{k:Nat}(hk:k<l.length):l.drop k=gi l k::l.drop (k+1):=by rw[ev hk,tj hk]
theorem aj1(x:Int)(l:List Int)(d:Bool):(wk x l d).length<=l.length+1:=by
 induction l generalizing d with
 |nil=>simp only[wk];split<;>simp
 |cons y l ih=>
  cases d with
  |true=>
   rw[aay];exact Nat.le_succ_of_le (d9 _ _)
  |false=>
   simp only[wk,bd];by_cases h:x<=y
   ·have e:(false||decide (x<=y))=true:=by simpa using h
    rw[e,aay];have:=d9 (fun z=>decide (z≠x)) l;split<;>split<;>simp only[bz,List.length_nil]at * <;>omega
   ·have e:(false||decide (x<=y))=false:=by simpa using h
    rw[e,if_neg (by simp[h])];have:=ih false;split<;>simp only[bz,List.length_nil]at * <;>omega
theorem apg(l:List Int)(hl:l.length<=100000)(x:Int)(ad:Option Addr)(cap:Nat)(w:World)(hR:gg w ad l.length (gi l) w.heap.size):
 Calls prog 175 #[.slice ad l.length cap,.int .i64 x] w fun e w'=>∃v,e=.returned v/\w'.ownsRow w.heap.size 3 1 v (wk x l false).length (ga (wk x l false))/\Below w.heap.size w w':=by
 have HR:=aa hR;have hli:(l.length:Int)<=100000:=by omega
 have hpl:=aj1 x l false;obtain⟨P,hP⟩:∃P,P=wk x l false:=⟨_,rfl⟩;rw[<-hP]at hpl⊢;have HP:=aa hP;clear hR hP;go_enter func175,ntmps175;go_wp2_with fail
 go_loopw[5,6,7] (fun v dn i wr=>∃(k:Nat)(o:List Int)(d:Bool),k<=l.length/\i=.int .i64 (k:Nat)/\dn=.bool d/\o++wk x (l.drop k) d=P/\wr.ownsRow w.heap.size 3 1 v o.length (ga o)/\Below w.heap.size w wr) (fun _ _ i _=>l.length-(intOf i).toNat)
 case atStart=>exact⟨0,[],false,cx _,rfl,rfl,HP.out.symm,bj _ _ _ _,ae⟩
 case round=>
  obtain⟨k,o,d,hk,rfl,rfl,hm,hown,hbw⟩:=hrel;have hol:o.length<=P.length:=by rw[<-hm,bd];omega
  have HO:=aa hown;have HBw:=aa hbw;have HNz:=aa hbw.size;obtain⟨ad5,c5,rfl⟩:=ey hown;by_cases hlt:k<l.length
  ·obtain⟨b,oo,rfl,hbm,c0⟩:=(HR.out.below hbw ac).at hlt
   have hbl:b<wr.heap.size:=az hbm hbw.size;have hki:(k:Int)<l.length:=by omega
   have hol1:o.length+(wk x (l.drop k) d).length=P.length:=by rw[<-hm,bd]
   rw[drop_gi hlt]at hm hol1;simp only[wk]at hm hol1;obtain⟨y,hy⟩:∃y,y=gi l k:=⟨_,rfl⟩;rw[<-hy]at hm c0 hol1;have HR1:=aa fun w'(hb':Below w.heap.size wr w')=>((HR.out.below (hbw.trans hb') ac).at hlt)
   clear hown hbw;cases d with
   |true=>
    by_cases hxy:x<=y
    ·by_cases hyx:y=x
     ·have e1:(true||decide (x<=y))=true:=rfl
      rw[e1]at hm hol1;have hm2:o++([]++wk x (l.drop (k+1)) true)=P:=by
       rw[<-hm];simp[hyx]
      have hol2:o.length+0<=P.length:=by rw[<-hm2];simp
      have HM:=aa hm2;have hd1:decide (x<=y)=true:=cw hxy;have hd2:(y !=x)=false:=by simp[hyx]
      have HY:=aa hy;clear hm hm2 hol1 e1 hxy hyx hy;go_wp2_with fail
      go_roundw
      case rel=>exact⟨k+1,o,true,hlt,by go_num,rfl,by rw[<-HM.out];simp,HO.out,HBw.out⟩
      case measure=>simp[intOf];omega
     ·have e1:(true||decide (x<=y))=true:=rfl
      rw[e1]at hm hol1;have hm2:o++([y]++wk x (l.drop (k+1)) true)=P:=by
       rw[<-hm];simp[hxy,hyx]
      have hol2:o.length+1<=P.length:=by rw[<-hm2];simp
      have HM:=aa hm2;have hd1:decide (x<=y)=true:=cw hxy;have hd2:(y !=x)=true:=by simp[hyx]
      have HY:=aa hy;clear hm hm2 hol1 e1 hxy hyx hy;go_wp2_with(first|(at_builtin;(with_reducible refine gr iv rfl (.tmp 34) (.tmp 39) rfl rfl HO.out [.int .i64 y] rfl rfl (by simp[Value.oneCell']) (by unfold maxLen;omega) (by omega) HNz.out ?_);intro v8 w8 hown8 hb8 hk8;have HO8:=aa hown8;have HB8:=aa hb8;have HN8:=aa (ba HNz.out HB8.out.size);clear hown8 hb8 hk8))
      go_roundw
      case rel=>exact⟨k+1,o++[y],true,hlt,by go_num,rfl,by rw[<-HM.out];simp,by rw[jd,bd];exact HO8.out,HBw.out.trans HB8.out⟩
      case measure=>simp[intOf];omega
    ·have hyx:¬y=x:=by omega
     have e1:(true||decide (x<=y))=true:=rfl;rw[e1]at hm hol1;have hm2:o++([y]++wk x (l.drop (k+1)) true)=P:=by
      rw[<-hm];simp[hxy,hyx]
     have hol2:o.length+1<=P.length:=by rw[<-hm2];simp
     have HM:=aa hm2;have hd1:decide (x<=y)=false:=bv hxy;have hd2:(y !=x)=true:=by simp[hyx]
     have HY:=aa hy;clear hm hm2 hol1 e1 hxy hyx hy;go_wp2_with(first|(at_builtin;(with_reducible refine gr iv rfl (.tmp 34) (.tmp 39) rfl rfl HO.out [.int .i64 y] rfl rfl (by simp[Value.oneCell']) (by unfold maxLen;omega) (by omega) HNz.out ?_);intro v8 w8 hown8 hb8 hk8;have HO8:=aa hown8;have HB8:=aa hb8;have HN8:=aa (ba HNz.out HB8.out.size);clear hown8 hb8 hk8))
     go_roundw
     case rel=>exact⟨k+1,o++[y],true,hlt,by go_num,rfl,by rw[<-HM.out];simp,by rw[jd,bd];exact HO8.out,HBw.out.trans HB8.out⟩
     case measure=>simp[intOf];omega
   |false=>
    by_cases hxy:x<=y
    ·by_cases hyx:y=x
     ·have e1:(false||decide (x<=y))=true:=by simp[hxy]
      rw[e1]at hm hol1;have hm2:o++([x]++wk x (l.drop (k+1)) true)=P:=by
       rw[<-hm];simp[hyx]
      have hol2:o.length+1<=P.length:=by rw[<-hm2];simp
      have HM:=aa hm2;have hd1:decide (x<=y)=true:=cw hxy;have hd2:(y !=x)=false:=by simp[hyx]
      have HY:=aa hy;clear hm hm2 hol1 e1 hxy hyx hy;go_wp2_with(first|(at_builtin;(with_reducible refine gr iv rfl (.tmp 24) (.tmp 26) rfl rfl HO.out [.int .i64 x] rfl rfl (by simp[Value.oneCell']) (by unfold maxLen;omega) (by omega) HNz.out ?_);intro v8 w8 hown8 hb8 hk8;have HO8:=aa hown8;have HB8:=aa hb8;have HN8:=aa (ba HNz.out HB8.out.size);clear c0;obtain⟨b2,o2,hb2,-,c0⟩:=HR1.out w8 HB8.out;cases hb2;rw[<-HY.out]at c0;have hbl8:b<w8.heap.size:=az hbl HB8.out.size;clear hown8 hb8 hk8))
      go_roundw
      case rel=>exact⟨k+1,o++[x],true,hlt,by go_num,rfl,by rw[<-HM.out];simp,by rw[jd,bd];exact HO8.out,HBw.out.trans HB8.out⟩
      case measure=>simp[intOf];omega
     ·have e1:(false||decide (x<=y))=true:=by simp[hxy]
      rw[e1]at hm hol1;have hm2:o++([x,y]++wk x (l.drop (k+1)) true)=P:=by
       rw[<-hm];simp[hxy,hyx]
      have hol2:o.length+2<=P.length:=by rw[<-hm2];simp
      have HM:=aa hm2;have hd1:decide (x<=y)=true:=cw hxy;have hd2:(y !=x)=true:=by simp[hyx]
      have HY:=aa hy;clear hm hm2 hol1 e1 hxy hyx hy;go_wp2_with(first|(at_builtin;(with_reducible refine gr iv rfl (.tmp 24) (.tmp 26) rfl rfl HO.out [.int .i64 x] rfl rfl (by simp[Value.oneCell']) (by unfold maxLen;omega) (by omega) HNz.out ?_);intro v8 w8 hown8 hb8 hk8;have HO8:=aa hown8;have HB8:=aa hb8;have HN8:=aa (ba HNz.out HB8.out.size);clear c0;obtain⟨b2,o2,hb2,-,c0⟩:=HR1.out w8 HB8.out;cases hb2;rw[<-HY.out]at c0;have hbl8:b<w8.heap.size:=az hbl HB8.out.size;clear hown8 hb8 hk8)|(at_builtin;(with_reducible refine gr iv rfl (.tmp 34) (.tmp 39) rfl rfl HO8.out [.int .i64 y] rfl rfl (by simp[Value.oneCell']) (by unfold maxLen;omega) (by omega) HN8.out ?_);intro v9 w9 hown9 hb9 hk9;have HO9:=aa hown9;have HB9:=aa (HB8.out.trans hb9);have HN9:=aa (ba HNz.out HB9.out.size);clear hown9 hb9 hk9))
      go_roundw
      case rel=>exact⟨k+1,o++[x,y],true,hlt,by go_num,rfl,by rw[<-HM.out];simp,by rw[jd,bd];simpa[ga,dc]using HO9.out,HBw.out.trans HB9.out⟩
      case measure=>simp[intOf];omega
    ·have hyx:¬y=x:=by omega
     have e1:(false||decide (x<=y))=false:=by simp[hxy]
     rw[e1]at hm hol1;have hm2:o++([y]++wk x (l.drop (k+1)) false)=P:=by
      rw[<-hm];simp[hxy,hyx]
     have hol2:o.length+1<=P.length:=by rw[<-hm2];simp
     have HM:=aa hm2;have hd1:decide (x<=y)=false:=bv hxy;have hd2:(y !=x)=true:=by simp[hyx]
     have HY:=aa hy;clear hm hm2 hol1 e1 hxy hyx hy;go_wp2_with(first|(at_builtin;(with_reducible refine gr iv rfl (.tmp 34) (.tmp 39) rfl rfl HO.out [.int .i64 y] rfl rfl (by simp[Value.oneCell']) (by unfold maxLen;omega) (by omega) HNz.out ?_);intro v8 w8 hown8 hb8 hk8;have HO8:=aa hown8;have HB8:=aa hb8;have HN8:=aa (ba HNz.out HB8.out.size);clear hown8 hb8 hk8))
     go_roundw
     case rel=>exact⟨k+1,o++[y],false,hlt,by go_num,rfl,by rw[<-HM.out];simp,by rw[jd,bd];exact HO8.out,HBw.out.trans HB8.out⟩
     case measure=>simp[intOf];omega
  ·have hki:¬(k:Int)<l.length:=by omega
   obtain rfl:k=l.length:=by omega
   rw[List.drop_length]at hm;have HM:=aa hm;clear hown hbw hm;cases d with
   |true=>
    go_wp2_with fail
    go_ret;have e:o=P:=by rw[<-HM.out];simp[wk]
    exact⟨_,rfl,e▸HO.out,HBw.out⟩
   |false=>
    have hol1:o.length+1=P.length:=by rw[<-HM.out];simp[wk]
    go_wp2_with(at_builtin;(with_reducible refine gr iv rfl (.tmp 43) (.tmp 45) rfl rfl HO.out [.int .i64 x] rfl rfl (by simp[Value.oneCell']) (by unfold maxLen;omega) (by omega) HNz.out ?_);intro v9 w9 hown9 hb9 hk9;have HO9:=aa hown9;have HB9:=aa hb9;clear hown9 hb9 hk9)
    go_ret;have e:o++[x]=P:=by rw[<-HM.out];simp[wk]
    have h:w9.ownsRow w.heap.size 3 1 v9 (o++[x]).length (ga (o++[x])):=by rw[jd,bd];exact HO9.out
    exact⟨_,rfl,e▸h,HBw.out.trans HB9.out⟩
theorem alz(a b:List Int)(ha:jj a)(hb:jj b)(hla:a.length<=1000)(hlb:b.length<=1000)(ad:Option Addr)(ca:Nat)(ad':Option Addr)(cb:Nat)(w:World)(hA:gg w ad a.length (gi a) w.heap.size)(hB:gg w ad' b.length (gi b) w.heap.size):
 Calls prog 129 #[.slice ad a.length ca,.slice ad' b.length cb] w fun e w'=>∃ad2 c2,e=.returned (.slice ad2 (qy a b).length c2)/\gg w' ad2 (qy a b).length (gi (qy a b)) w'.heap.size/\Below w.heap.size w w':=by
 have h1:=aa (mn a ha (by omega) ad ca w hA);have h2:=aa fun w' h=>mn b hb (by omega) ad' cb w' h
 have h3:=aa fun(o:List Int)ho x ado co w' h=>apg o ho x ado co w' h
 have hpm:=ap6 a b ha hb;have HA:=aa hA;have HB:=aa hB;clear hA hB;go_enter func129,ntmps129;go_wp2_with(first|(go_at_call 66;(with_reducible refine h1.out.mono ?_);rintro e w1⟨rfl,hb1⟩;have B1:=aa hb1)|(go_at_call 66;(with_reducible refine(h2.out _ ((HB.out.below B1.out ac).mono B1.out.size)).mono ?_);rintro e w2⟨rfl,hb2⟩;have B2:=aa (B1.out.trans (hb2.mono B1.out.size));clear hb2))
 go_loopw[5,6] (fun v i wr=>∃(k:Nat)(ado:Option Addr)(co:Nat),k<=b.length/\i=.int .i64 (k:Nat)/\v=.slice ado (puts a (b.take k)).length co/\gg wr ado (puts a (b.take k)).length (gi (puts a (b.take k))) wr.heap.size/\(puts a (b.take k)).length<=a.length+k/\Below w.heap.size w wr) (fun _ i _=>b.length-(intOf i).toNat)
 case atStart=>exact⟨0,ad,ca,cx _,rfl,rfl,(HA.out.below B2.out ac).mono B2.out.size,ac,B2.out⟩
 case round=>
  obtain⟨k,ado,co,hk,rfl,rfl,hro,hlo,hbw⟩:=hrel;have HRo:=aa hro;have HBw:=aa hbw;by_cases hlt:k<b.length
  ·obtain⟨b',o,rfl,hbm,c0⟩:=(HB.out.below hbw ac).at hlt
   have hbl:b'<wr.heap.size:=az hbm hbw.size;have hki:(k:Int)<b.length:=by omega
   have hs:puts a (b.take (k+1))=wk (gi b k) (puts a (b.take k)) false:=by rw[da hlt,ami,tj hlt]
   have HS:=aa hs;have hpl:=aj1 (gi b k) (puts a (b.take k)) false;have hh:=aa (h3.out (puts a (b.take k)) (by omega) (gi b k) ado co wr HRo.out);rw[<-hs]at hpl;clear hs hro hbw;go_wp2_with(go_at_call 175;refine hh.out.mono ?_;rintro e w4⟨v4,rfl,ho4,hb4⟩;obtain⟨ad4,c4,rfl⟩:=ey ho4;have HO4:=aa (kc ho4);have HB4:=aa (HBw.out.trans (hb4.mono HBw.out.size));clear ho4 hb4)
   go_roundw
   case rel=>exact⟨k+1,ad4,c4,hlt,by go_num,by rw[HS.out],by rw[HS.out];exact HO4.out,by omega,HB4.out⟩
   case measure=>simp[intOf];omega
  ·have hki:¬(k:Int)<b.length:=by omega
   obtain rfl:k=b.length:=by omega
   rw[dr,hpm]at HRo;go_wp2_with fail
   go_ret;exact⟨_,⟨_,rfl⟩,HRo.out,HBw.out⟩
end
section
set_option maxRecDepth 100000
set_option maxHeartbeats 4000000
open Go.RowKit Go.Shelf
def inA(x:ByteArray)(b:Nat):Bool:=(List.range x.size).any fun i=>tb x i==b
theorem inA_yes{x:ByteArray}{b k:Nat}(hk:k<x.size)(h:tb x k=b):inA x b=true:=by
 unfold inA;rw[List.any_eq_true];exact⟨k,by simp[hk],by simp[h]⟩
theorem inA_no{x:ByteArray}{b:Nat}(h:∀i,i<x.size->tb x i≠b):inA x b=false:=by
 unfold inA;rw[List.any_eq_false];intro i hi;simp at hi;simpa using h i hi
theorem akg:∀b:Nat,b<256->inA ⟨#[92,34,63,91,93,45,94]⟩ b=zr [92,34,63,91,93,45,94] b:=by decide+kernel
theorem arj:∀b:Nat,b<256->inA ⟨#[34,91,93,45,94]⟩ b=zr [34,91,93,45,94] b:=by decide+kernel
theorem ade(x:ByteArray)(hx:x.size<=100)(b:Nat)(w:World):
 Calls prog 224 #[.string x,.int .u8 (b:Nat)] w fun e w'=>e=.returned (.bool (inA x b))/\w'=w:=by
 have hxi:(x.size:Int)<=100:=by omega
 go_enter func224,ntmps224;go_wp2_with fail
 go_loopw[5] (fun n wr=>∃k:Nat,n=.int .i64 (k:Nat)/\k<=x.size/\(∀i,i<k->tb x i≠b)/\wr=w) (fun n _=>x.size-(intOf n).toNat)
 case atStart=>exact⟨0,rfl,by omega,fun i hi=>by omega,rfl⟩
 case round=>
  obtain⟨k,rfl,hk,hn,rfl⟩:=hrel;by_cases hlt:k<x.size
  ·have hki:(k:Int)<x.size:=by omega
   have hb:x[k].toNat=tb x k:=ia x k hlt;by_cases he:tb x k=b
   ·have hbe:((tb x k:Int)==(b:Int))=true:=by rw[he];simp
    go_wp2_with fail
    go_ret;exact⟨by rw[inA_yes hlt he];rfl,rfl⟩
   ·have hbe:((tb x k:Int)==(b:Int))=false:=by rw[ax];omega
    go_wp2_with fail
    refine⟨⟨k+1,by go_num,by omega,fun i hi=>?_,trivial⟩,by simp[intOf];omega⟩;by_cases h:i<k
    ·exact hn i h
    ·obtain rfl:i=k:=by omega
     exact he
  ·have hki:¬(k:Int)<x.size:=by omega
   go_wp2_with fail
   go_ret;exact⟨by rw[inA_no fun i hi=>hn i (by omega)];rfl,rfl⟩
theorem acg(b:Nat)(w:World):
 Calls prog 202 #[.int .u8 (b:Nat)] w fun e w'=>e=.returned (.bool (mg b))/\w'=w:=by
 by_cases h1:(32:Int)<=b
 ·by_cases h2:(b:Int)<=126
  ·have h:mg b=true:=by simp[mg];omega
   rw[h];go_enter func202,ntmps202;go_wp2_with fail
   go_ret;exact⟨rfl,rfl⟩
  ·have h:mg b=false:=by simp[mg];omega
   rw[h];go_enter func202,ntmps202;go_wp2_with fail
   go_ret;exact⟨rfl,rfl⟩
 ·have h:mg b=false:=by simp[mg];omega
  rw[h];go_enter func202,ntmps202;go_wp2_with fail
  go_ret;exact⟨rfl,rfl⟩
theorem s9(b:Nat)(hb:b<=255)(w:World):
 Calls prog 225 #[.int .u8 (b:Nat)] w fun e w'=>e=.returned (.int .i64 (kd b))/\w'=w:=by
 by_cases h1:(48:Int)<=b
 ·by_cases h2:(b:Int)<=57
  ·have h:kd b=(b:Int)-48:=by unfold kd ku;rw[if_pos (by rw[if_pos (by omega)];omega),if_pos (by omega)];omega
   rw[h];go_enter func225,ntmps225;go_wp2_with fail
   go_ret;exact⟨rfl,rfl⟩
  ·by_cases h3:(97:Int)<=b
   ·by_cases h4:(b:Int)<=102
    ·have h:kd b=(b:Int)-87:=by unfold kd ku;rw[if_pos (by rw[if_neg (by omega),if_pos (by omega)];omega),if_neg (by omega),if_pos (by omega)];omega
     rw[h];go_enter func225,ntmps225;go_wp2_with fail
     go_ret;exact⟨rfl,rfl⟩
    ·have h:kd b= -1:=by unfold kd ku;rw[if_neg (by rw[if_neg (by omega),if_neg (by omega)];omega)]
     rw[h];go_enter func225,ntmps225;go_wp2_with fail
     go_ret;exact⟨rfl,rfl⟩
   ·have h:kd b= -1:=by unfold kd ku;rw[if_neg (by rw[if_neg (by omega),if_neg (by omega)];omega)]
    rw[h];go_enter func225,ntmps225;go_wp2_with fail
    go_ret;exact⟨rfl,rfl⟩
 ·have h:kd b= -1:=by unfold kd ku;rw[if_neg (by rw[if_neg (by omega),if_neg (by omega)];omega)]
  have hd:decide ((48:Int)<=(b:Int))=false:=bv h1;have h3:¬(97:Int)<=b:=by omega
  rw[h];go_enter func225,ntmps225;go_wp2_with fail
  go_ret;exact⟨rfl,rfl⟩
end
section
set_option maxRecDepth 100000
set_option maxHeartbeats 1000000
open Go.RowKit Go.Shelf
abbrev gv(b x0 x1 x2 x3:Nat)(pl:Value)(n nx e:Int):Value:=
 .agg #[.int .u8 (b:Nat),.int .u64 (x0:Nat),.int .u64 (x1:Nat),.int .u64 (x2:Nat),.int .u64 (x3:Nat),pl,.int .i64 n,.int .i64 nx,.int .i64 e]
def GBad(v:Value):Prop:=∃nx e:Int,v=gv 0 0 0 0 0 (.slice none 0 0) 0 nx e/\e≠0
def GotB(o:Option (Nat×Nat))(v:Value):Prop:=GBad v\/∃b q:Nat,o=some (b,q)/\v=gv b 0 0 0 0 (.slice none 0 0) 0 (q:Nat) 0
theorem akl{b:Nat}(h:0<=kd b):ku b<16/\kd b=ku b:=by
 unfold kd at h⊢;split at h
 ·next h1=>exact⟨h1,if_pos h1⟩
 ·omega
theorem yt(s:ByteArray)(p:Nat)(hs:s.size<=1000)(hp:p<s.size)(w:World):
 Calls prog 201 #[.string s,.int .i64 (p:Nat)] w fun e w'=>∃v,e=.returned v/\Below w.heap.size w w'/\GotB (sh s p) v:=by
 have hsi:(s.size:Int)<=1000:=by omega
 have hpi:(p:Int)<s.size:=by omega
 go_enter func201,ntmps201;by_cases h1:p+1<s.size
 ·have h1i:(p:Int)+1<s.size:=by omega
  have hb:s[p+1].toNat=tb s (p+1):=ia s (p+1) h1;have hle:=jq s (p+1);have Hle:=aa (Nat.lt_succ_of_le hle);cases he:inA ⟨#[92,34,63,91,93,45,94]⟩ (tb s (p+1))with
  |true=>
   have hin:=aa fun w=>ade ⟨#[92,34,63,91,93,45,94]⟩ (by decide) (tb s (p+1)) w
   rw[he]at hin;have hE:sh s p=some (tb s (p+1),p+2):=by unfold sh;rw[if_pos ⟨h1,by rw[<-akg _ Hle.out];exact he⟩]
   have HE:=aa hE;clear hE he;go_wp2_with(go_at_call 224;refine(hin.out _).mono ?_;rintro e w1⟨rfl,rfl⟩)
   exact ay (v:=gv (tb s (p+1)) 0 0 0 0 (.slice none 0 0) 0 (p+2) 0) (by simp[results,results201,go_sem]) rfl ⟨_,rfl,ae.alloc ac _,.inr ⟨_,_,HE.out,by go_num⟩⟩
  |false=>
   have hin:=aa fun w=>ade ⟨#[92,34,63,91,93,45,94]⟩ (by decide) (tb s (p+1)) w
   rw[he]at hin;have hA:¬(p+1<s.size/\zr [92,34,63,91,93,45,94] (tb s (p+1))=true):=fun h=>by rw[<-akg _ Hle.out,he]at h;cases h.2
   have HA:=aa hA;clear hA he;by_cases h3:p+3<s.size
   ·have h3i:(p:Int)+3<s.size:=by omega
    have h2i:(p:Int)+2<s.size:=by omega
    have hb2:s[p+2].toNat=tb s (p+2):=ia s (p+2) (by omega);have hb3:s[p+3].toNat=tb s (p+3):=ia s (p+3) h3;have hx2:=jq s (p+2);have hx3:=jq s (p+3);obtain⟨o,ho⟩:∃o,o=sh s p:=⟨_,rfl⟩;rw[<-ho];have ho2:o=if tb s (p+1)=120/\ku (tb s (p+2))<16/\ku (tb s (p+3))<16 then some (16*ku (tb s (p+2))+ku (tb s (p+3)),p+4)else none:=by
     rw[ho];unfold sh;rw[if_neg HA.out];by_cases h:tb s (p+1)=120/\ku (tb s (p+2))<16/\ku (tb s (p+3))<16
     ·rw[if_pos h,if_pos ⟨h3,h⟩]
     ·rw[if_neg h,if_neg fun k=>h k.2]
    have HO:=aa ho2;clear ho ho2 HA Hle;generalize tb s (p+1)=b1 at *;generalize tb s (p+2)=b2 at *;generalize tb s (p+3)=b3 at *;by_cases hx:b1=120
    ·subst hx
     by_cases k2:0<=kd b2
     ·by_cases k3:0<=kd b3
      ·obtain⟨v2,e2⟩:=akl k2
       obtain⟨v3,e3⟩:=akl k3;have hE:=HO.out;rw[if_pos ⟨rfl,v2,v3⟩]at hE;have HE:=aa hE;have hw1:kd b2<16:=by omega
       have hw2:kd b3<16:=by omega
       have hN:((16*ku b2+ku b3:Nat):Int)=16*kd b2+kd b3:=by omega
       have HN:=aa hN;clear hE e2 e3 HO hN v2 v3;have hr:IntKind.u8.wrap (16*kd b2+kd b3)=16*kd b2+kd b3:=by rw[IntKind.wrap_u8];omega
       go_wp2_with(first|(go_at_call 224;refine(hin.out _).mono ?_;rintro e w1⟨rfl,rfl⟩)|(go_at_call 225;refine(s9 _ (by assumption) _).mono ?_;rintro e w1⟨rfl,rfl⟩))
       have w2:IntKind.i64.wrap ((p:Int)+2)=(p:Int)+2:=by rw[ci];omega
       have w3:IntKind.i64.wrap ((p:Int)+3)=(p:Int)+3:=by rw[ci];omega
       have w4:IntKind.i64.wrap ((p:Int)+4)=(p:Int)+4:=by rw[ci];omega
       have w5:IntKind.i64.wrap (16*kd b2)=16*kd b2:=by rw[ci];omega
       have w6:IntKind.i64.wrap (16*kd b2+kd b3)=16*kd b2+kd b3:=by rw[ci];omega
       have hb2i:∀h:((p:Int)+2).toNat<s.size,(s[((p:Int)+2).toNat]'h).toNat=b2:=fun h=>hb2
       have hb3i:∀h:((p:Int)+3).toNat<s.size,(s[((p:Int)+3).toNat]'h).toNat=b3:=fun h=>hb3
       have hq2:=aa fun w=>s9 b2 hx2 w
       have hq3:=aa fun w=>s9 b3 hx3 w
       go_region_with(first|(go_at_call 225;with_reducible refine(hq2.out _).mono ?_;rintro e w4⟨rfl,rfl⟩)|(go_at_call 225;with_reducible refine(hq3.out _).mono ?_;rintro e w4⟨rfl,rfl⟩))
       all_goals go_wp2_with fail
       all_goals exact ay (v:=gv (16*ku b2+ku b3) 0 0 0 0 (.slice none 0 0) 0 (p+4) 0) (by simp[results,results201,go_sem];have:=HN.out;omega) rfl ⟨_,rfl,cu (ae.alloc ac _) 1,.inr ⟨_,_,HE.out,by go_num⟩⟩
      ·have d2:decide ((0:Int)<=kd b3)=false:=bv k3
       have HK:=aa k3;clear k3;go_wp2_with(first|(go_at_call 224;refine(hin.out _).mono ?_;rintro e w1⟨rfl,rfl⟩)|(go_at_call 225;refine(s9 _ (by assumption) _).mono ?_;rintro e w1⟨rfl,rfl⟩))
       exact ay (v:=gv 0 0 0 0 0 (.slice none 0 0) 0 p 131) (by simp[results,results201,go_sem]) rfl ⟨_,rfl,ae.alloc ac _,.inl ⟨_,_,rfl,by decide⟩⟩
     ·have d2:decide ((0:Int)<=kd b2)=false:=bv k2
      have HK:=aa k2;clear k2;go_wp2_with(first|(go_at_call 224;refine(hin.out _).mono ?_;rintro e w1⟨rfl,rfl⟩)|(go_at_call 225;refine(s9 _ (by assumption) _).mono ?_;rintro e w1⟨rfl,rfl⟩))
      exact ay (v:=gv 0 0 0 0 0 (.slice none 0 0) 0 p 131) (by simp[results,results201,go_sem]) rfl ⟨_,rfl,ae.alloc ac _,.inl ⟨_,_,rfl,by decide⟩⟩
    ·have g1:((b1:Int)==120)=false:=by rw[ax];omega
     go_wp2_with(go_at_call 224;refine(hin.out _).mono ?_;rintro e w1⟨rfl,rfl⟩)
     exact ay (v:=gv 0 0 0 0 0 (.slice none 0 0) 0 p 131) (by simp[results,results201,go_sem]) rfl ⟨_,rfl,ae.alloc ac _,.inl ⟨_,_,rfl,by decide⟩⟩
   ·have h3i:decide ((p:Int)+3<s.size)=false:=bv (by omega)
    generalize tb s (p+1)=b1 at *;go_wp2_with(go_at_call 224;refine(hin.out _).mono ?_;rintro e w1⟨rfl,rfl⟩)
    exact ay (v:=gv 0 0 0 0 0 (.slice none 0 0) 0 p 131) (by simp[results,results201,go_sem]) rfl ⟨_,rfl,ae.alloc ac _,.inl ⟨_,_,rfl,by decide⟩⟩
 ·have h1i:decide ((p:Int)+1<s.size)=false:=bv (by omega)
  have h3i:decide ((p:Int)+3<s.size)=false:=bv (by omega);go_wp2_with fail
  exact ay (v:=gv 0 0 0 0 0 (.slice none 0 0) 0 p 131) (by simp[results,results201,go_sem]) rfl ⟨_,rfl,ae.alloc ac _,.inl ⟨_,_,rfl,by decide⟩⟩
abbrev j7(b x0 x1 x2 x3:Nat)(pl:Value)(n nx e:Int):Obj:=
 .cells #[.int .u8 (b:Nat),.int .u64 (x0:Nat),.int .u64 (x1:Nat),.int .u64 (x2:Nat),.int .u64 (x3:Nat),pl,.int .i64 n,.int .i64 nx,.int .i64 e] 120
theorem At.nine{w:World}{B:Nat}{b x0 x1 x2 x3:Nat}{pl:Value}{n nx e:Int}(h:At w B (j7 b x0 x1 x2 x3 pl n nx e)):
 (w.cell? ⟨B,0,none⟩=some (.int .u8 (b:Nat))/\w.cell? ⟨B,1,none⟩=some (.int .u64 (x0:Nat))/\w.cell? ⟨B,2,none⟩=some (.int .u64 (x1:Nat))/\w.cell? ⟨B,3,none⟩=some (.int .u64 (x2:Nat))/\w.cell? ⟨B,4,none⟩=some (.int .u64 (x3:Nat))/\w.cell? ⟨B,5,none⟩=some (pl)/\w.cell? ⟨B,6,none⟩=some (.int .i64 n)/\w.cell? ⟨B,7,none⟩=some (.int .i64 nx)/\w.cell? ⟨B,8,none⟩=some (.int .i64 e))/\(w.frozen? ⟨B,0,none⟩=false/\w.frozen? ⟨B,1,none⟩=false/\w.frozen? ⟨B,2,none⟩=false/\w.frozen? ⟨B,3,none⟩=false/\w.frozen? ⟨B,4,none⟩=false/\w.frozen? ⟨B,5,none⟩=false/\w.frozen? ⟨B,6,none⟩=false/\w.frozen? ⟨B,7,none⟩=false/\w.frozen? ⟨B,8,none⟩=false)/\B<w.heap.size:=
 ⟨⟨h.cell 0,h.cell 1,h.cell 2,h.cell 3,h.cell 4,h.cell 5,h.cell 6,h.cell 7,h.cell 8⟩,⟨h.free 0,h.free 1,h.free 2,h.free 3,h.free 4,h.free 5,h.free 6,h.free 7,h.free 8⟩,h.lt⟩
abbrev put9(w:World)(B:Nat)(b x0 x1 x2 x3:Nat)(pl:Value)(n nx e:Int):World:=
 ((((((((w.setCell ⟨B,0,none⟩ (.int .u8 (b:Nat))).setCell ⟨B,1,none⟩ (.int .u64 (x0:Nat))).setCell ⟨B,2,none⟩ (.int .u64 (x1:Nat))).setCell ⟨B,3,none⟩ (.int .u64 (x2:Nat))).setCell ⟨B,4,none⟩ (.int .u64 (x3:Nat))).setCell ⟨B,5,none⟩ (pl)).setCell ⟨B,6,none⟩ (.int .i64 n)).setCell ⟨B,7,none⟩ (.int .i64 nx)).setCell ⟨B,8,none⟩ (.int .i64 e)
theorem At.put9{w:World}{B:Nat}{b x0 x1 x2 x3:Nat}{pl:Value}{n nx e:Int}(h:At w B (j7 b x0 x1 x2 x3 pl n nx e))(b' x0' x1' x2' x3':Nat)(pl':Value)(n' nx' e':Int):
 At (put9 w B b' x0' x1' x2' x3' pl' n' nx' e') B (j7 b' x0' x1' x2' x3' pl' n' nx' e'):=by
 have h0:At _ B (j7 b' x0 x1 x2 x3 pl n nx e):=h.set 0 (.int .u8 (b':Nat));have h1:At _ B (j7 b' x0' x1 x2 x3 pl n nx e):=h0.set 1 (.int .u64 (x0':Nat));have h2:At _ B (j7 b' x0' x1' x2 x3 pl n nx e):=h1.set 2 (.int .u64 (x1':Nat));have h3:At _ B (j7 b' x0' x1' x2' x3 pl n nx e):=h2.set 3 (.int .u64 (x2':Nat));have h4:At _ B (j7 b' x0' x1' x2' x3' pl n nx e):=h3.set 4 (.int .u64 (x3':Nat));have h5:At _ B (j7 b' x0' x1' x2' x3' pl' n nx e):=h4.set 5 (pl');have h6:At _ B (j7 b' x0' x1' x2' x3' pl' n' nx e):=h5.set 6 (.int .i64 n');have h7:At _ B (j7 b' x0' x1' x2' x3' pl' n' nx' e):=h6.set 7 (.int .i64 nx');have h8:At _ B (j7 b' x0' x1' x2' x3' pl' n' nx' e'):=h7.set 8 (.int .i64 e');exact h8
theorem fg{base:Nat}{w0 w:World}{B:Nat}(h:Below base w0 w)(hB:base<=B)(b x0 x1 x2 x3:Nat)(pl:Value)(n nx e:Int):Below base w0 (put9 w B b x0 x1 x2 x3 pl n nx e):=
 ((((((((h.setCell hB _).setCell hB _).setCell hB _).setCell hB _).setCell hB _).setCell hB _).setCell hB _).setCell hB _).setCell hB _
theorem ach(s:ByteArray)(p:Nat)(hs:s.size<=1000)(w:World):
 Calls prog 221 #[.string s,.int .i64 (p:Nat)] w fun e w'=>∃v,e=.returned v/\Below w.heap.size w w'/\GotB (lq s p) v:=by
 have hsi:(s.size:Int)<=1000:=by omega
 go_enter func221,ntmps221;by_cases hp:p<s.size
 ·have hpi:(p:Int)<s.size:=by omega
  have hb:s[p].toNat=tb s p:=ia s p hp;have hle:=jq s p;obtain⟨o,ho⟩:∃o,o=lq s p:=⟨_,rfl⟩;rw[<-ho];have ho2:o=if tb s p=92 then sh s p else if mg (tb s p)=true/\zr [34,91,93,45,94] (tb s p)=false then some (tb s p,p+1)else none:=by
   rw[ho];unfold lq pz;rw[if_pos hp]
  have HO:=aa ho2;have hesc:=aa fun w=>yt s p hs hp w
  clear ho ho2;generalize tb s p=b at *;by_cases h92:b=92
  ·subst h92
   have HE:=HO.out;rw[if_pos rfl]at HE;subst HE;have HA:=aa (At.new w (j7 0 0 0 0 0 (.slice none 0 0) 0 0 0));have HB:=aa ((aw w.heap.size w).alloc ac (j7 0 0 0 0 0 (.slice none 0 0) 0 0 0));go_wp2_with(go_at_call 201;refine(hesc.out _).mono ?_;rintro e w1⟨v,rfl,hb1,hg⟩;have HA1:=aa (HA.out.below hb1 HA.out.lt);have HB1:=aa (HB.out.trans (hb1.mono (by simp)));obtain⟨⟨c0,c1,c2,c3,c4,c5,c6,c7,c8⟩,⟨f0,f1,f2,f3,f4,f5,f6,f7,f8⟩,hl⟩:=HA1.out.nine;clear hb1;obtain⟨nx,e,rfl,hne⟩|⟨b,q,hE,rfl⟩:=hg)
   ·exact ay (v:=gv 0 0 0 0 0 (.slice none 0 0) 0 nx e) (by simp[results,results221,go_sem,c0,c1,c2,c3,c4,c5,c6,c7,c8]) rfl ⟨_,rfl,fg HB1.out ac ..,.inl ⟨_,_,rfl,hne⟩⟩
   ·exact ay (v:=gv b 0 0 0 0 (.slice none 0 0) 0 q 0) (by simp[results,results221,go_sem,c0,c1,c2,c3,c4,c5,c6,c7,c8]) rfl ⟨_,rfl,fg HB1.out ac ..,.inr ⟨_,_,hE,rfl⟩⟩
  ·have g1:((b:Int)==92)=false:=by rw[ax];omega
   have HE:=HO.out;rw[if_neg h92]at HE;have hsg:=aa fun w=>acg b w
   have hin:=aa fun w=>ade ⟨#[34,91,93,45,94]⟩ (by decide) b w
   rw[arj b (by omega)]at hin;cases k1:mg b with
   |true=>
    rw[k1]at HE hsg;cases k2:zr [34,91,93,45,94] b with
    |true=>
     rw[k2]at HE hin;rw[if_neg (by simp)]at HE;subst HE;go_wp2_with(first|(go_at_call 202;refine(hsg.out _).mono ?_;rintro e w1⟨rfl,rfl⟩)|(go_at_call 224;refine(hin.out _).mono ?_;rintro e w1⟨rfl,rfl⟩))
     exact ay (v:=gv 0 0 0 0 0 (.slice none 0 0) 0 p 132) (by simp[results,results221,go_sem]) rfl ⟨_,rfl,ae.alloc ac _,.inl ⟨_,_,rfl,by decide⟩⟩
    |false=>
     rw[k2]at HE hin;rw[if_pos ⟨rfl,rfl⟩]at HE;subst HE;go_wp2_with(first|(go_at_call 202;refine(hsg.out _).mono ?_;rintro e w1⟨rfl,rfl⟩)|(go_at_call 224;refine(hin.out _).mono ?_;rintro e w1⟨rfl,rfl⟩))
     exact ay (v:=gv b 0 0 0 0 (.slice none 0 0) 0 (p+1) 0) (by simp[results,results221,go_sem]) rfl ⟨_,rfl,ae.alloc ac _,.inr ⟨_,_,rfl,by go_num⟩⟩
   |false=>
    rw[k1]at HE hsg;rw[if_neg (by simp)]at HE;subst HE;go_wp2_with(go_at_call 202;refine(hsg.out _).mono ?_;rintro e w1⟨rfl,rfl⟩)
    exact ay (v:=gv 0 0 0 0 0 (.slice none 0 0) 0 p 132) (by simp[results,results221,go_sem]) rfl ⟨_,rfl,ae.alloc ac _,.inl ⟨_,_,rfl,by decide⟩⟩
 ·have hpi:¬(p:Int)<s.size:=by omega
  have hE:lq s p=none:=by unfold lq;rw[if_neg hp]
  rw[hE];go_wp2_with fail
  exact ay (v:=gv 0 0 0 0 0 (.slice none 0 0) 0 s.size 133) (by simp[results,results221,go_sem]) rfl ⟨_,rfl,ae.alloc ac _,.inl ⟨_,_,rfl,by decide⟩⟩
end
end Go.Proofs.YtjfkmoinldlmaaaGreat
