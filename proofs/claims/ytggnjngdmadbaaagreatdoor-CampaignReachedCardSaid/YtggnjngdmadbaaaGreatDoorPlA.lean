/-
  Moves in a yard in plain terms; what blocks; what is taken at once is never worse.
-/
import Derived.Test.YtggnjngdmadbaaaGreatDoorYaB
import Derived.Test.YtggnjngdmadbaaaGreatDoorPlF
set_option linter.unusedSectionVars false
set_option linter.unusedVariables false
set_option linter.unusedSimpArgs false
namespace Go.Lift
open Go
theorem zu5{x y:ByteArray}:seqb x y=true↔x=y:=by
 unfold seqb;rw[beq_iff_eq];constructor
 ·intro h;rw[ByteArray.toList_eq,ByteArray.toList_eq] at h;exact ByteArray.ext (Array.toList_inj.mp h)
 ·intro h;rw[h]
instance decBA:DecidableEq ByteArray:=fun a b=>decidable_of_iff (seqb a b=true) zu5
theorem z64{l:List ByteArray}{x:ByteArray}:hasB l x=true↔x∈l:=by
 unfold hasB;rw[List.any_eq_true];constructor
 ·rintro⟨z,hz,h⟩;rw[←zu5.1 h];exact hz
 ·exact fun h=>⟨x,h,zu5.2 rfl⟩
abbrev YdT:=List (List ByteArray)
abbrev StT:=YdT×List ByteArray
def pl(y:YdT)(a:Nat):List ByteArray:=y.getD a []
def popY(y:YdT)(a:Nat):YdT:=y.set a (pl y a).dropLast
def zcn(y:YdT)(b:Nat)(x:ByteArray):YdT:=y.set b (pl y b++[x])
theorem zn0{y:YdT}{a:Nat}(h:a < y.length):∃l1 l2,y=l1++pl y a::l2∧l1.length=a∧∀q,y.set a q=l1++q::l2:=by
 refine⟨y.take a,y.drop (a+1),?_,by rw[List.length_take];omega,fun q => ?_⟩
 ·unfold pl;rw[List.getD_eq_getElem?_getD,qr h,Option.getD_some];rw[List.getElem_cons_drop,List.take_append_drop]
 ·rw[List.set_eq_take_append_cons_drop,if_pos h]
theorem zkf(y:YdT)(a:Nat):(popY y a).length=y.length:=by unfold popY;rw[List.length_set]
theorem y7u(y:YdT)(b:Nat)(x:ByteArray):(zcn y b x).length=y.length:=by unfold zcn;rw[List.length_set]
theorem y35{y:YdT}{a i:Nat}{q:List ByteArray}(h:a < y.length):pl (y.set a q) i=if i=a then q else pl y i:=by
 unfold pl;rw[List.getD_eq_getElem?_getD,List.getD_eq_getElem?_getD,List.getElem?_set];by_cases e:i=a
 ·subst e;rw[if_pos rfl,if_pos rfl,if_pos h];rfl
 ·rw[if_neg (Ne.symm e),if_neg e]
theorem y36{y:YdT}{a i:Nat}(h:a < y.length):pl (popY y a) i=if i=a then(pl y a).dropLast else pl y i:=y35 h
theorem y7y{y:YdT}{b i:Nat}{x:ByteArray}(h:b < y.length):pl (zcn y b x) i=if i=b then pl y b++[x] else pl y i:=y35 h
theorem y37{y:YdT}{a:Nat}(h:a < y.length):pl y a∈y:=by
 unfold pl;rw[List.getD_eq_getElem?_getD,qr h,Option.getD_some];exact List.getElem_mem h
theorem zox{y:YdT}{a:Nat}{q:List ByteArray}{x:ByteArray}(h:pl y a=q++[x]):a < y.length:=by
 rcases Nat.lt_or_ge a y.length with h1|h1
 ·exact h1
 ·unfold pl at h;rw[List.getD_eq_getElem?_getD,List.getElem?_eq_none h1,Option.getD_none] at h;simp at h
theorem znk{y:YdT}{a:Nat}{q:List ByteArray}{x:ByteArray}(h:pl y a=q++[x]):y.flatten.Perm (x::(popY y a).flatten):=by
 obtain⟨l1,l2,h1,h2,h3⟩:=zn0 (zox h);have e:popY y a=l1++q::l2:=by
  unfold popY;rw[h3,h,List.dropLast_concat]
 rw[e];rw[h] at h1;rw[h1];simp only[List.flatten_append,List.flatten_cons,List.append_assoc,List.singleton_append];refine List.Perm.trans (List.Perm.append_left l1.flatten (List.perm_middle (l₁:=q) (a:=x) (l₂:=l2.flatten))) ?_;exact List.perm_middle
theorem y7t{y:YdT}{b:Nat}{x:ByteArray}(h:b < y.length):(zcn y b x).flatten.Perm (x::y.flatten):=by
 obtain⟨l1,l2,h1,h2,h3⟩:=zn0 h;have e:zcn y b x=l1++(pl y b++[x])::l2:=by unfold zcn;rw[h3]
 rw[e];rw(occs :=.pos [2]) [h1];simp only[List.flatten_append,List.flatten_cons,List.append_assoc,List.singleton_append];refine List.Perm.trans (List.Perm.append_left l1.flatten (List.perm_middle (l₁:=pl y b) (a:=x) (l₂:=l2.flatten))) ?_;exact List.perm_middle
inductive Stp:StT→(Int×Int)→StT→Nat→Prop
 |out {y:YdT} {left q:List ByteArray} {x:ByteArray} {a:Nat}:pl y a=q++[x]→Stp (y,x::left) ((a:Int),-1) (popY y a,left) 0
 |mv {y:YdT} {left q:List ByteArray} {x:ByteArray} {a b:Nat}:pl y a=q++[x]→b < y.length→a≠b→(pl y b).length < 6→Stp (y,left) ((a:Int),(b:Int)) (zcn (popY y a) b x,left) 1
inductive Run:StT→List (Int×Int)→StT→Nat→Prop
 |nil (s:StT):Run s [] s 0
 |cons {s s1 s2:StT} {m:Int×Int} {l:List (Int×Int)} {c k:Nat}:Stp s m s1 c→Run s1 l s2 k→Run s (m::l) s2 (c+k)
theorem Stp.det{s s1 s2:StT}{m:Int×Int}{c d:Nat}(h:Stp s m s1 c)(k:Stp s m s2 d):s1=s2∧c=d:=by
 cases h with
 | @out y left q x a h1=>
  generalize hm:((a:Int),(-1:Int))=m at k;cases k with
  | @out _ _ q' x' a' h2=>
   simp only[Prod.mk.injEq,Int.natCast_inj,and_true] at hm;subst hm;exact⟨rfl,rfl⟩
  | @mv _ _ q' x' a' b' h2 h3 h4 h5=>
   simp only[Prod.mk.injEq] at hm;omega
 | @mv y left q x a b h1 h2 h3 h4=>
  generalize hm:((a:Int),(b:Int))=m at k;cases k with
  | @out _ _ q' x' a' h2=>
   simp only[Prod.mk.injEq] at hm;omega
  | @mv _ _ q' x' a' b' g1 g2 g3 g4=>
   simp only[Prod.mk.injEq,Int.natCast_inj] at hm;obtain⟨rfl,rfl⟩:=hm;rw[h1] at g1;obtain⟨rfl,e⟩:=List.append_inj' g1 rfl;simp only[List.cons.injEq,and_true] at e;subst e;exact⟨rfl,rfl⟩
theorem Run.append{s1 s2 s3:StT}{l1 l2:List (Int×Int)}{j k:Nat}(h:Run s1 l1 s2 j)(h2:Run s2 l2 s3 k):Run s1 (l1++l2) s3 (j+k):=by
 induction h with
 |nil s=>rw[Nat.zero_add];exact h2
 |cons hs _ ih=>rw[Nat.add_assoc];exact .cons hs (ih h2)
theorem Run.one{s s1:StT}{m:Int×Int}{c:Nat}(h:Stp s m s1 c):Run s [m] s1 c:=by
 have:=Run.cons h (Run.nil s1);rwa [Nat.add_zero] at this
structure Vd (names req:List ByteArray) (p:Nat) (s:StT):Prop where
 len:s.1.length=p
 small:∀a,(pl s.1 a).length≤6
 nd:s.1.flatten.Nodup
 sub:∀x∈s.1.flatten,x∈names
 left:s.2=req.filter fun x=>hasB s.1.flatten x
theorem zph{P:ByteArray→Bool}{req left:List ByteArray}{x:ByteArray}(hn:req.Nodup)(h:x::left=req.filter P):left=req.filter fun z=>P z&&decide (z≠x):=by
 have h1:(req.filter P).filter (fun z=>decide (z≠x))=left:=by
  rw[←h];have hnd:(x::left).Nodup:=by rw[h];exact hn.filter _
  rw[List.nodup_cons] at hnd;rw[List.filter_cons_of_neg (by simp),List.filter_eq_self.2];intro z hz;simp only[decide_eq_true_eq];exact fun e=>hnd.1 (e ▸ hz)
 rw[←h1,List.filter_filter];congr 1
 funext z
 exact Bool.and_comm _ _
theorem Vd.stp{names req:List ByteArray}{p:Nat}{s s':StT}{m:Int×Int}{c:Nat}(hr:req.Nodup)(h:Vd names req p s)(hs:Stp s m s' c):Vd names req p s':=by
 cases hs with
 | @out y left q x a h1=>
  have hf:=znk h1;have hnd:=hf.nodup h.nd;rw[List.nodup_cons] at hnd;have hlt:=zox h1;refine⟨(zkf y a).trans h.len,fun i => ?_,hnd.2,fun z hz=>h.sub z (hf.mem_iff.2 (qo _ hz)),?_⟩
  ·show(pl (popY y a) i).length≤6;rw[y36 hlt];split
   ·have:=h.small a;simp only at this;rw[List.length_dropLast];omega
   ·exact h.small i
  ·show left=_;rw[zph hr h.left];congr 1
   funext z
   simp only;rw[Bool.eq_iff_iff];simp only[qg,decide_eq_true_eq,z64];constructor
   ·rintro⟨h2,h3⟩;rcases List.mem_cons.1 (hf.mem_iff.1 h2) with e|e
    ·exact absurd e h3
    ·exact e
   ·intro h2;exact⟨hf.mem_iff.2 (qo _ h2),fun e=>hnd.1 (e ▸ h2)⟩
 | @mv y left q x a b h1 h2 h3 h4=>
  have hlt:=zox h1;have hb:b < (popY y a).length:=by rw[zkf];exact h2
  have hf:(zcn (popY y a) b x).flatten.Perm y.flatten:=(y7t hb).trans (znk h1).symm;refine⟨by show(zcn _ b x).length=p;rw[y7u,zkf];exact h.len,fun i => ?_,hf.symm.nodup h.nd,fun z hz=>h.sub z (hf.mem_iff.1 hz),?_⟩
  ·show(pl (zcn (popY y a) b x) i).length≤6;rw[y7y hb];split
   ·rw[y36 hlt,if_neg (Ne.symm h3),qe,qj];omega
   ·rw[y36 hlt];split
    ·have:=h.small a;simp only at this;rw[List.length_dropLast];omega
    ·exact h.small i
  ·show left=_;refine h.left.trans ?_;congr 1
   funext z
   simp only;rw[Bool.eq_iff_iff,z64,z64];exact hf.mem_iff.symm
theorem Vd.run{names req:List ByteArray}{p:Nat}{s s':StT}{l:List (Int×Int)}{k:Nat}(hr:req.Nodup)(h:Vd names req p s)(hs:Run s l s' k):Vd names req p s':=by
 induction hs with
 |nil _=>exact h
 |cons hs _ ih=>exact ih (h.stp hr hs)
theorem Vd.lsub{names req:List ByteArray}{p:Nat}{s:StT}(h:Vd names req p s):∀x∈s.2,x∈s.1.flatten:=by
 intro x hx;rw[h.left,List.mem_filter] at hx;exact z64.1 hx.2
def hL(left:List ByteArray)(y:YdT):Nat:=(blkA left y).length
abbrev hS(s:StT):Nat:=hL s.2 s.1
theorem zti(req:List ByteArray)(x:ByteArray):∀(r pre:List ByteArray),blkG req pre (r++[x])=blkG req pre r++(bif (pre++r).any (blkQ req x) then[x] else[])
 |[],pre=>by
  rw[List.nil_append,z84,List.append_nil];show _++[]=[]++_;rw[List.append_nil,List.nil_append]
 |z::r,pre=>by
  rw[List.cons_append,z84,z84,zti req x r (pre++[z]),List.append_assoc,List.append_assoc];rfl
theorem zvu(left:List ByteArray)(l1 l2:YdT)(q:List ByteArray):hL left (l1++q::l2)=hL left l1+(blkG left [] q).length+hL left l2:=by
 unfold hL blkA;rw[List.flatMap_append,List.flatMap_cons,qe,qe];omega
theorem h_set{left:List ByteArray}{y:YdT}{a:Nat}{q:List ByteArray}(h:a < y.length):hL left (y.set a q)+(blkG left [] (pl y a)).length=hL left y+(blkG left [] q).length:=by
 obtain⟨l1,l2,h1,h2,h3⟩:=zn0 h;rw[h3,zvu];rw(occs :=.pos [2]) [h1];rw[zvu];omega
theorem h_pop{left:List ByteArray}{y:YdT}{a:Nat}{q:List ByteArray}{x:ByteArray}(h:pl y a=q++[x]):hL left y=hL left (popY y a)+(bif q.any (blkQ left x) then 1 else 0):=by
 have:=h_set (left:=left) (q:=(pl y a).dropLast) (zox h);unfold popY;rw[h,List.dropLast_concat,zti,qe,List.nil_append] at this;rw[h,List.dropLast_concat];cases hc:q.any (blkQ left x)<;>rw[hc] at this<;>simp at this⊢ <;> omega
theorem h_push{left:List ByteArray}{y:YdT}{b:Nat}{x:ByteArray}(h:b < y.length):hL left y≤hL left (zcn y b x):=by
 have:=h_set (left:=left) (q:=pl y b++[x]) h;rw[zti,qe] at this;unfold zcn;omega
theorem zej(x z:ByteArray)(l:List ByteArray):zs0 (x::l) z=if x=z then 0 else zs0 l z+1:=by
 unfold zs0;rw[zzr];by_cases h:x=z
 ·rw[if_pos h,show seqb x z=true from zu5.2 h];rfl
 ·rw[if_neg h];have:seqb x z=false:=by
   cases e:seqb x z with
   |false=>rfl
   |true=>exact absurd (zu5.1 e) h
  rw[this];rfl
theorem y6e(x z:ByteArray)(l:List ByteArray):blkQ (x::l) x z=false:=by
 unfold blkQ;rw[zej x x,if_pos rfl];exact decide_eq_false (by omega)
theorem y01{x u z:ByteArray}{l:List ByteArray}(h1:x≠u)(h2:x≠z):blkQ (x::l) u z=blkQ l u z:=by
 unfold blkQ;rw[zej,zej,if_neg h1,if_neg h2];congr 1
 simp only[eq_iff_iff];omega
theorem y02{x:ByteArray}{l:List ByteArray}:∀(r pre:List ByteArray),(∀u∈pre,x≠u)→(∀u∈r,x≠u)→blkG (x::l) pre r=blkG l pre r
 |[],pre,_,_=>rfl
 | z::r,pre,h1,h2=>by
  have hz:=h2 z (by simp);rw[z84,z84,y02 r (pre++[z]) (fun u hu=>by
   rcases List.mem_append.1 hu with h|h
   ·exact h1 u h
   ·rw[List.mem_singleton.1 h];exact hz) (fun u hu=>h2 u (qo _ hu))]
  congr 2
  rw[Bool.eq_iff_iff];simp only[List.any_eq_true];constructor
  ·rintro⟨u,hu,h⟩;exact⟨u,hu,by rw[←y01 hz (h1 u hu)];exact h⟩
  ·rintro⟨u,hu,h⟩;exact⟨u,hu,by rw[y01 hz (h1 u hu)];exact h⟩
theorem y8w{x:ByteArray}{l:List ByteArray}:∀ {y:YdT},x∉y.flatten→hL (x::l) y=hL l y
 |[],_=>rfl
 |q::y,h=>by
  rw[List.flatten_cons,List.mem_append,not_or] at h;have ih:=y8w (l:=l) h.2;unfold hL blkA at ih⊢;rw[List.flatMap_cons,List.flatMap_cons,qe,qe,ih,y02 q [] (fun u hu=>by cases hu) (fun u hu e=>h.1 (by rw[e];exact hu))]
theorem h_out{y:YdT}{left q:List ByteArray}{x:ByteArray}{a:Nat}(hn:y.flatten.Nodup)(h:pl y a=q++[x]):hL (x::left) y=hL left (popY y a):=by
 rw[h_pop h];have hnd:=(znk h).nodup hn;rw[List.nodup_cons] at hnd;have:q.any (blkQ (x::left) x)=false:=by
  rw[List.any_eq_false];intro z _;rw[y6e];exact Bool.false_ne_true
 rw[this,cond_false,Nat.add_zero];exact y8w hnd.1
theorem ye9{s s':StT}{m:Int×Int}{c:Nat}(hn:s.1.flatten.Nodup)(h:Stp s m s' c):hS s≤c+hS s':=by
 cases h with
 | @out y left q x a h1=>
  show hL (x::left) y≤0+hL left (popY y a);rw[h_out (show y.flatten.Nodup from hn) h1];omega
 | @mv y left q x a b h1 h2 h3 h4=>
  show hL left y≤1+hL left (zcn (popY y a) b x);have e1:=h_pop (left:=left) h1;have e2:=h_push (left:=left) (y:=popY y a) (b:=b) (x:=x) (by rw[zkf];exact h2);cases hc:q.any (blkQ left x)<;>rw[hc] at e1<;>simp at e1<;>omega
theorem yea{names req:List ByteArray}{p:Nat}{s s':StT}{l:List (Int×Int)}{k:Nat}(hr:req.Nodup)(hv:Vd names req p s)(h:Run s l s' k):hS s≤k+hS s':=by
 induction h with
 |nil s=>omega
 |cons hs _ ih=>
  have:=ye9 hv.nd hs;have:=ih (hv.stp hr hs);omega
theorem yc0(u z:ByteArray):blkQ [] u z=false:=by
 unfold blkQ zs0 fIdx;exact decide_eq_false (by omega)
theorem y4e:∀(r pre:List ByteArray),blkG [] pre r=[]
 |[],_=>rfl
 | z::r,pre=>by
  rw[z84,y4e r];have:pre.any (blkQ [] z)=false:=by
   rw[List.any_eq_false];intro u _;rw[yc0];exact Bool.false_ne_true
  rw[this];rfl
theorem yeb(y:YdT):hL [] y=0:=by
 unfold hL blkA;rw[List.length_eq_zero_iff,List.flatMap_eq_nil_iff];intro q _;exact y4e q []
theorem y4d{x u:ByteArray}{left:List ByteArray}(hu:u≠x):∀(r pre:List ByteArray),x∈pre→u∈r→blkG (x::left) pre r≠[]
 |[],_,_,h=>by cases h
 | z::r,pre,h1,h2=>by
  rw[z84];by_cases e:z=x
  ·subst e;have hu':u∈r:=(List.mem_cons.1 h2).resolve_left hu;intro h;exact y4d hu r (pre++[z]) (List.mem_append_left _ h1) hu' (List.append_eq_nil_iff.1 h).2
  ·have:pre.any (blkQ (x::left) z)=true:=by
    rw[List.any_eq_true];refine⟨x,h1,?_⟩;unfold blkQ;rw[zej,zej,if_pos rfl,if_neg (Ne.symm e)];exact decide_eq_true (by omega)
   rw[this];simp
theorem h_zero{y:YdT}{left:List ByteArray}{x:ByteArray}(hn:y.flatten.Nodup)(hx:x∈y.flatten)(h:hL (x::left) y=0):∃a q,pl y a=q++[x]:=by
 rw[List.mem_flatten] at hx;obtain⟨p,hp,hxp⟩:=hx;obtain⟨a,ha,rfl⟩:=List.mem_iff_getElem.1 hp;have hpl:pl y a=y[a]:=by
  unfold pl;rw[List.getD_eq_getElem?_getD,qr ha,Option.getD_some]
 have hz:blkG (x::left) [] (pl y a)=[]:=by
  unfold hL blkA at h;rw[List.length_eq_zero_iff,List.flatMap_eq_nil_iff] at h;exact h _ (y37 ha)
 have hnp:(pl y a).Nodup:=by rw[hpl];exact(List.pairwise_flatten.1 hn).1 _ hp
 rw[←hpl] at hxp;obtain⟨q,r,e⟩:=List.append_of_mem hxp;refine⟨a,q,?_⟩;cases r with
 |nil=>exact e
 | cons u r=>
  exfalso;rw[e] at hz hnp;have hu:u≠x:=by
   rw[List.nodup_append] at hnp;have:=(List.nodup_cons.1 hnp.2.1).1;intro e2;exact this (by rw[e2];simp)
  have e3:∀(l1 pre:List ByteArray),blkG (x::left) pre (l1++x::u::r)≠[]:=by
   intro l1;induction l1 with
   |nil=>
    intro pre;rw[List.nil_append,z84];intro h;exact y4d hu (u::r) (pre++[x]) (by simp) (by simp) (List.append_eq_nil_iff.1 h).2
   |cons z l1 ih=>
    intro pre;rw[List.cons_append,z84];intro h;exact ih (pre++[z]) (List.append_eq_nil_iff.1 h).2
  exact e3 q [] hz
theorem zw7{y:YdT}{x:ByteArray}{i:Nat}(h:zm3 y x=some i):∃q,pl y i=q++[x]:=by
 unfold zm3 at h;rw[List.findIdx?_eq_some_iff_getElem] at h;obtain⟨hi,h1,_⟩:=h;have hpl:pl y i=y[i]:=by
  unfold pl;rw[List.getD_eq_getElem?_getD,qr hi,Option.getD_some]
 rw[hpl];generalize y[i]=p at h1;by_cases hp:0 < p.length
 ·rw[decide_eq_true hp,cond_true] at h1;have:=zu5.1 h1;refine⟨p.dropLast,?_⟩;rw[←this,List.getD_eq_getElem?_getD,qr (by omega),Option.getD_some];have hne:p≠[]:=List.ne_nil_of_length_pos hp;have e:p[p.length-1]=p.getLast hne:=(List.getLast_eq_getElem hne).symm;rw[e];exact(List.dropLast_concat_getLast hne).symm
 ·rw[decide_eq_false hp,cond_false] at h1;cases h1
theorem y4s{y:YdT}{x:ByteArray}(h:zm3 y x=none)(a:Nat)(q:List ByteArray):pl y a≠q++[x]:=by
 intro e;have hlt:=zox e;unfold zm3 at h;rw[List.findIdx?_eq_none_iff] at h;have:=h _ (y37 hlt);rw[e] at this;rw[decide_eq_true (by rw[qe,qj];omega),cond_true] at this;rw[List.getD_eq_getElem?_getD,qe,qj,Nat.add_sub_cancel,List.getElem?_append_right (ql _),Nat.sub_self] at this;simp only[List.getElem?_cons_zero,Option.getD_some] at this;rw[zu5.2 rfl] at this;cases this
def z7n:Nat→StT→StT
 |0,s=>s
 | k+1,s=>match s.2 with
  |[]=>s
  |x::l=>match zm3 s.1 x with
   |none=>s
   |some i=>z7n k (popY s.1 i,l)
def tS(s:StT):StT:=z7n s.2.length s
def y0b(s:StT):Prop:=∀x l,s.2=x::l→∀a q,pl s.1 a≠q++[x]
theorem zuk:∀(k:Nat) (s:StT),∃l,Run s l (z7n k s) 0∧l.length+(z7n k s).2.length=s.2.length
 |0,s=>⟨[],.nil s,by simp[z7n]⟩
 |k+1,(y,[])=>⟨[],.nil _,by simp[z7n]⟩
 | k+1,(y,x::l)=>by
  unfold z7n;simp only;cases h:zm3 y x with
  |none=>exact⟨[],.nil _,by simp⟩
  | some i=>
   obtain⟨q,hq⟩:=zw7 h;obtain⟨ms,h1,h2⟩:=zuk k (popY y i,l);refine⟨((i:Int),-1)::ms,?_,?_⟩
   ·have:=Run.cons (.out hq) h1;exact this
   ·simp only[qk] at h2⊢;omega
theorem zn6:∀(k:Nat) (s:StT),s.2.length≤k→y0b (z7n k s)
 |0,(y,[]),_=>fun x l h=>by cases h
 |0,(y,x::l),h=>by simp at h
 |k+1,(y,[]),_=>fun x l h=>by
  unfold z7n at h;cases h
 | k+1,(y,x::l),h=>by
  unfold z7n;simp only;cases ht:zm3 y x with
  |none=>
   intro z r e a q;simp only[List.cons.injEq] at e;obtain⟨rfl,_⟩:=e;exact y4s ht a q
  |some i=>
   refine zn6 k (popY y i,l) ?_;simp only[qk] at h⊢;omega
theorem y6z(s:StT):∃l,Run s l (tS s) 0∧l.length+(tS s).2.length=s.2.length:=zuk _ s
theorem zr4(s:StT):y0b (tS s):=zn6 _ s (ql _)
def FR(R:List ByteArray)(p:List ByteArray):List ByteArray:=p.filter fun z => !hasB R z
theorem zyn{y:YdT}{R:List ByteArray}(a:Nat):pl (y.map (FR R)) a=FR R (pl y a):=by
 unfold pl;rw[List.getD_eq_getElem?_getD,List.getD_eq_getElem?_getD,List.getElem?_map];cases y[a]?<;>rfl
theorem ycf{y:YdT}(a:Nat):y.set a (pl y a)=y:=by
 rcases Nat.lt_or_ge a y.length with h|h
 ·obtain⟨l1,l2,h1,_,h3⟩:=zn0 h;rw[h3];exact h1.symm
 ·exact List.set_eq_of_length_le h
theorem y2n{R q:List ByteArray}{x:ByteArray}:FR R (q++[x])=FR R q++(if hasB R x=true then[] else[x]):=by
 unfold FR;rw[List.filter_append];congr 1
 cases h:hasB R x<;>simp[h]
theorem zsf{y:YdT}{R q:List ByteArray}{x:ByteArray}{a:Nat}(h:pl y a=q++[x])(hx:hasB R x=true):(popY y a).map (FR R)=y.map (FR R):=by
 have e:FR R q=pl (y.map (FR R)) a:=by rw[zyn,h,y2n,if_pos hx,List.append_nil]
 unfold popY;rw[List.map_set,h,List.dropLast_concat,e,ycf]
theorem y8i{y:YdT}{R q:List ByteArray}{x:ByteArray}{a:Nat}(h:pl y a=q++[x])(hx:hasB R x=false):(popY y a).map (FR R)=popY (y.map (FR R)) a∧pl (y.map (FR R)) a=FR R q++[x]:=by
 have e:pl (y.map (FR R)) a=FR R q++[x]:=by rw[zyn,h,y2n,if_neg (by rw[hx];exact Bool.false_ne_true)]
 refine⟨?_,e⟩;unfold popY;rw[List.map_set,h,List.dropLast_concat,e,List.dropLast_concat]
theorem zz5{y:YdT}{R:List ByteArray}{x:ByteArray}{b:Nat}:(zcn y b x).map (FR R)=if hasB R x=true then y.map (FR R) else zcn (y.map (FR R)) b x:=by
 unfold zcn;rw[List.map_set,y2n,zyn];by_cases hx:hasB R x=true
 ·rw[if_pos hx,if_pos hx,List.append_nil,←zyn,ycf]
 ·rw[if_neg hx,if_neg hx]
theorem y9z{R p:List ByteArray}(h:∀z∈p,z∉R):FR R p=p:=by
 unfold FR;rw[List.filter_eq_self];intro z hz;cases e:hasB R z with
 |false=>rfl
 |true=>exact absurd (z64.1 e) (h z hz)
theorem znr{y:YdT}{R:List ByteArray}(h:∀z∈y.flatten,z∉R):y.map (FR R)=y:=by
 conv=>rhs;rw[←List.map_id y]
 refine List.map_congr_left fun p hp => ?_
 exact y9z fun z hz=>h z (List.mem_flatten.2 ⟨p,hp,hz⟩)
theorem FR_FR{R S p:List ByteArray}:FR S (FR R p)=FR (R++S) p:=by
 unfold FR;rw[List.filter_filter];congr 1
 funext z
 have:hasB (R++S) z=(hasB R z||hasB S z):=by unfold hasB;rw[List.any_append]
 rw[this];cases hasB R z<;>cases hasB S z<;>rfl
def zu0(s t:StT):Prop:=∃R,s.2=R++t.2∧t.1=s.1.map (FR R)
theorem zu0.refl(s:StT):zu0 s s:=⟨[],rfl,(znr fun z _ h=>by cases h).symm⟩
theorem y9v{s:StT}{y:YdT}{l q:List ByteArray}{x:ByteArray}{i:Nat}(hn:s.1.flatten.Nodup)(h:zu0 s (y,x::l))(hp:pl y i=q++[x]):zu0 s (popY y i,l):=by
 obtain⟨R,h1,h2⟩:=h;simp only at h1 h2;refine⟨R++[x],by simp[h1],?_⟩;have hny:y.flatten.Nodup:=by
  rw[h2];have:(s.1.map (FR R)).flatten=s.1.flatten.filter fun z => !hasB R z:=by
   rw[List.filter_flatten];rfl
  rw[this];exact hn.filter _
 have hnd:=(znk hp).nodup hny;rw[List.nodup_cons] at hnd;have e1:(popY y i).map (FR [x])=popY y i:=znr fun z hz hz2=>by
  rw[List.mem_singleton] at hz2;exact hnd.1 (hz2 ▸ hz)
 show popY y i=_;rw[←e1,zsf hp (z64.2 (by simp)),h2,List.map_map];refine List.map_congr_left fun p _ => ?_
 exact FR_FR
theorem zmu{s:StT}(hn:s.1.flatten.Nodup):∀(k:Nat) (t:StT),zu0 s t→zu0 s (z7n k t)
 |0,t,h=>h
 |k+1,(y,[]),h=>h
 | k+1,(y,x::l),h=>by
  unfold z7n;simp only;cases ht:zm3 y x with
  |none=>exact h
  |some i=>
   obtain⟨q,hq⟩:=zw7 ht;exact zmu hn k _ (y9v hn h hq)
theorem y9u{names req:List ByteArray}{p:Nat}{s s' t:StT}{m:Int×Int}{c:Nat}(hr:req.Nodup)(hv:Vd names req p s)(ha:zu0 s t)(ht:y0b t)(h:Stp s m s' c) :
  zu0 s' t∨(c=1∧∃t1,Stp t m t1 1∧zu0 s' t1):=by
 obtain⟨R,h1,h2⟩:=ha;obtain⟨yt,lt⟩:=t;simp only at h1 h2;cases h with
 | @out y left q x a hp=>
  left;cases R with
  |nil=>
   exfalso;simp only[List.nil_append] at h1;have e:yt=y:=by rw[h2];exact znr fun z _ h=>by cases h
   exact ht x left h1.symm a q (by show pl yt a=_;rw[e];exact hp)
  | cons x' R=>
   simp only[List.cons_append,List.cons.injEq] at h1;obtain⟨rfl,h1⟩:=h1;refine⟨R,h1,?_⟩;have hnd:=(znk hp).nodup hv.nd;rw[List.nodup_cons] at hnd;show yt=(popY y a).map (FR R);rw[h2,←zsf hp (R:=x::R) (z64.2 (by simp))];refine List.map_congr_left fun z hz => ?_
   unfold FR;refine List.filter_congr fun u hu => ?_
   have hne:x≠u:=fun e=>hnd.1 (by rw[e];exact List.mem_flatten.2 ⟨z,hz,hu⟩)
   have:seqb x u=false:=by
    cases e:seqb x u with
    |false=>rfl
    |true=>exact absurd (zu5.1 e) hne
   show(!(seqb x u||hasB R u)) = !hasB R u;rw[this,Bool.false_or]
 | @mv y left q x a b hp hb hab hl=>
  cases hx:hasB R x with
  |true=>
   left;refine⟨R,h1,?_⟩;show yt=(zcn (popY y a) b x).map (FR R);rw[zz5,if_pos hx,zsf hp hx];exact h2
  | false=>
   right;obtain⟨k1,k2⟩:=y8i hp hx;refine⟨rfl,(zcn (popY yt a) b x,lt),?_,R,h1,?_⟩
   ·rw[h2];refine .mv k2 (by rw[List.length_map];exact hb) hab ?_;rw[zyn];exact Nat.lt_of_le_of_lt (List.length_filter_le _ _) hl
   ·show zcn (popY yt a) b x=(zcn (popY y a) b x).map (FR R);rw[zz5,if_neg (by rw[hx];exact Bool.false_ne_true),k1,h2]
def TStp(t t':StT):Prop:=∃m t1,Stp t m t1 1∧t'=tS t1
inductive TRun (t0:StT):StT→Nat→Prop
 |nil:TRun t0 t0 0
 |snoc {t t':StT} {k:Nat}:TRun t0 t k→TStp t t'→TRun t0 t' (k+1)
theorem TRun.head{s t:StT}(h:TStp s t):∀ {u:StT} {k:Nat},TRun t u k→TRun s u (k+1):=by
 intro u k hk;induction hk with
 |nil=>exact .snoc .nil h
 |snoc _ h2 ih=>exact .snoc ih h2
theorem sim{names req:List ByteArray}{p:Nat}(hr:req.Nodup){s s':StT}{l:List (Int×Int)}{k:Nat}(h:Run s l s' k):∀ {t:StT},Vd names req p s→s'.2=[]→zu0 s t→y0b t→∃t' j,TRun t t' j∧j≤k∧t'.2=[]:=by
 induction h with
 |nil s=>
  intro t hv h0 ha ht;obtain⟨R,h1,_⟩:=ha;rw[h0] at h1;exact⟨t,0,.nil,ql _,(List.append_eq_nil_iff.1 h1.symm).2⟩
 | @cons s s1 s2 m l c k hs hl ih=>
  intro t hv h0 ha ht;have hv1:=hv.stp hr hs;rcases y9u hr hv ha ht hs with h1|⟨rfl,t1,h1,h2⟩
  ·obtain⟨t',j,g1,g2,g3⟩:=ih hv1 h0 h1 ht;exact⟨t',j,g1,by omega,g3⟩
  ·obtain⟨t',j,g1,g2,g3⟩:=ih hv1 h0 (zmu hv1.nd _ _ h2) (zr4 t1);exact⟨t',j+1,g1.head ⟨m,t1,h1,rfl⟩,by omega,g3⟩
theorem sim0{names req:List ByteArray}{p:Nat}(hr:req.Nodup){s s':StT}{l:List (Int×Int)}{k:Nat}(h:Run s l s' k)(hv:Vd names req p s)(h0:s'.2=[]):∃t' j,TRun (tS s) t' j∧j≤k∧t'.2=[]:=
 sim hr h hv h0 (zmu hv.nd _ _ (zu0.refl s)) (zr4 s)
structure Cx (names req:List ByteArray) (p:Nat):Prop where
 nl:names.length≤6
 nm:∀x∈names,zam x=true
 rn:req.Nodup
 rs:∀x∈req,x∈names
 p4:p≤4
theorem Cx.rl{names req:List ByteArray}{p:Nat}(h:Cx names req p):req.length≤6:=
 Nat.le_trans (List.Nodup.length_le_of_subset h.rn h.rs) h.nl
theorem zv2{x:ByteArray}(h:zam x=true):1≤x.size∧x.size≤12:=by
 unfold zam at h;rw[qg,decide_eq_true_eq] at h;omega
theorem Vd.left_le{names req:List ByteArray}{p:Nat}(hc:Cx names req p){s:StT}(h:Vd names req p s):s.2.length≤6:=by
 rw[h.left];exact Nat.le_trans (List.length_filter_le _ _) hc.rl
theorem Vd.piles{names req:List ByteArray}{p:Nat}{s:StT}(h:Vd names req p s):∀q∈s.1,q.length≤6:=by
 intro q hq;obtain⟨a,ha,rfl⟩:=List.mem_iff_getElem.1 hq;have:=h.small a;unfold pl at this;rw[List.getD_eq_getElem?_getD,qr ha,Option.getD_some] at this;exact this
theorem Vd.few{names req:List ByteArray}{p:Nat}(hc:Cx names req p){s:StT}(h:Vd names req p s):Few s.1 s.2:=by
 have hs:∀x∈s.1.flatten,x.size≤20:=fun x hx=>by have:=(zv2 (hc.nm x (h.sub x hx))).2;omega
 refine⟨by have:=h.len;have:=hc.p4;omega,⟨by have:=h.left_le hc;omega,fun x hx=>hs x (h.lsub x hx)⟩,fun q hq=>⟨by have:=h.piles q hq;omega,fun x hx=>hs x (List.mem_flatten.2 ⟨q,hq,hx⟩)⟩⟩
abbrev stN(n:z2w):StT:=(n.1,n.2.1)
theorem zsj(y:YdT)(a:Nat):lget [] y (a:Int)=pl y a:=rfl
theorem y3n{y:YdT}{a:Nat}{q:List ByteArray}:lset y (a:Int) q=y.set a q:=rfl
theorem zul{q:List ByteArray}{x:ByteArray}:(q++[x]).take ((q++[x]).length-1)=q:=by
 rw[qe,qj,Nat.add_sub_cancel,List.take_left'];rfl
theorem y8h{y:YdT}{a:Nat}{q:List ByteArray}{x:ByteArray}(h:pl y a=q++[x]):zco y ((a:Int),-1)=some (popY y a):=by
 unfold zco popY;simp only[zsj,h,zul,y3n,List.dropLast_concat];rfl
theorem yba{y:YdT}{a b:Nat}{q:List ByteArray}{x:ByteArray}(h:pl y a=q++[x])(hb:b < y.length)(hab:a≠b)(hl:(pl y b).length≤1000):zco y ((a:Int),(b:Int))=some (zcn (popY y a) b x):=by
 have e:lget ByteArray.empty (q++[x]) ((((q++[x]).length:Nat):Int)-1)=x:=by
  rw[qe,qj,show((q.length+1:Nat):Int)-1=(q.length:Int) by omega];exact z3i (post:=[])
 unfold zco;simp only[zsj,h,zul,y3n,e];have hb1:((b:Int) != -1)=true:=by rw[bne_iff_ne];omega
 have h1:pl (y.set a q) b=pl y b:=by rw[y35 (zox h),if_neg (Ne.symm hab)]
 rw[hb1,cond_true,h1,zlu (by rw[qj];omega),qh];unfold zcn popY;rw[h,List.dropLast_concat,h1]
theorem y1f{names req:List ByteArray}{p:Nat}(hc:Cx names req p){n:z2w}{m:Int×Int}{s':StT}{c:Nat}(hv:Vd names req p (stN n))(hs:Stp (stN n) m s' c)(hm:n.2.2.1.length≤1000000)(hw:0≤n.2.2.2∧n.2.2.2≤4294967296) :
  z0w n m=some (s'.1,s'.2,n.2.2.1++[m],n.2.2.2+(c:Int)):=by
 obtain⟨y,left,ms,wk⟩:=n;have hlen:y.length=p:=hv.len;have hp4:=hc.p4;have hall:y.all (fun p=>decide (p.length≤999))=true:=by
  rw[List.all_eq_true];intro q hq;have:=hv.piles q hq;exact decide_eq_true (by omega)
 unfold z0w zv0;generalize hst:stN (y,left,ms,wk)=st at hs;cases hs with
 | @out y' left' q x a hp=>
  simp only[stN,Prod.mk.injEq] at hst;obtain⟨rfl,rfl⟩:=hst;have hlt:=zox hp;simp only[zsj,hp];rw[z01 (show(0:Int)≤(a:Int) by omega),z01 (show(a:Int) < (y.length:Int) by omega),z01 (show 0 < (q++[x]).length by rw[qe,qj];omega),show((-1:Int) == -1)=true from rfl,cond_true,z01 (show 0 < (x::left').length by simp),z01 (show y.length≤1000 by omega),hall,z01 (show ms.length≤1000000 from hm)];simp only[Bool.and_self,cond_true];rw[y8h hp,qh];simp
 | @mv y' left' q x a b hp hb hab hl=>
  simp only[stN,Prod.mk.injEq] at hst;obtain⟨rfl,rfl⟩:=hst;have hlt:=zox hp;have hb1:((b:Int) == -1)=false:=by rw[beq_eq_false_iff_ne];omega
  have hb2:((b:Int) != (a:Int))=true:=by rw[bne_iff_ne];omega
  simp only[zsj,hp];rw[z01 (show(0:Int)≤(a:Int) by omega),z01 (show(a:Int) < (y.length:Int) by omega),z01 (show 0 < (q++[x]).length by rw[qe,qj];omega),hb1,cond_false,z01 (show(0:Int)≤(b:Int) by omega),z01 (show(b:Int) < (y.length:Int) by omega),hb2,z01 (show y.length≤1000 by omega),hall,z01 (show ms.length≤1000000 from hm)];simp only[Bool.and_self,cond_true,cond_false];rw[yba hp hb hab (by omega),qh,z2p (by simp only at hw;omega) (by simp only at hw;omega)];rfl
theorem zy3{names req:List ByteArray}{p:Nat}(hc:Cx names req p):∀(k:Nat) (n:z2w),Vd names req p (stN n)→n.2.2.1.length+k≤1000000→0≤n.2.2.2∧n.2.2.2≤4294967296→
  ∃l,zdi k n=some ((z7n k (stN n)).1,(z7n k (stN n)).2,n.2.2.1++l,n.2.2.2)∧Run (stN n) l (z7n k (stN n)) 0∧l.length+(z7n k (stN n)).2.length=n.2.1.length
 |0,n,hv,hm,hw=>⟨[],by simp[zdi,z7n],.nil _,by simp[z7n]⟩
 |k+1,(y,[],ms,wk),hv,hm,hw=>⟨[],by simp[zdi,z7n],.nil _,by simp[z7n]⟩
 | k+1,(y,x::left,ms,wk),hv,hm,hw=>by
  unfold zdi z7n;simp only;cases ht:zm3 y x with
  |none=>exact⟨[],by simp,.nil _,by simp⟩
  | some i=>
   obtain⟨q,hq⟩:=zw7 ht;have hs:Stp (y,x::left) ((i:Int),-1) (popY y i,left) 0 :=.out hq;have hnx:=y1f hc hv hs (by simp only at hm⊢;omega) hw;have hv2:Vd names req p (stN (popY y i,left,ms++[((i:Int),-1)],wk+((0:Nat):Int))):=hv.stp hc.rn hs;obtain⟨l,h1,h2,h3⟩:=zy3 hc k (popY y i,left,ms++[((i:Int),-1)],wk+((0:Nat):Int)) hv2 (by simp only[qe,qj] at hm⊢;omega) (by simp only at hw⊢;omega);refine⟨((i:Int),-1)::l,?_,.cons hs h2,?_⟩
   ·show(z0w (y,x::left,ms,wk) ((i:Int),-1)).bind (fun t=>zdi k t)=_;rw[hnx,qh];refine h1.trans ?_;simp only[List.append_assoc,List.singleton_append];rw[show wk+((0:Nat):Int)=wk by omega]
   ·have h3':l.length+(z7n k (popY y i,left)).2.length=left.length:=h3;show l.length+1+(z7n k (popY y i,left)).2.length=left.length+1;omega
theorem ya2{names req:List ByteArray}{p:Nat}(hc:Cx names req p){s:StT}(hv:Vd names req p s):zce s.1=true:=by
 have hlen:=hv.len;have hp4:=hc.p4;unfold zce;rw[z01 (show s.1.length≤1000 by omega),Bool.true_and,List.all_eq_true];intro q hq;have:=hv.piles q hq;exact decide_eq_true (by omega)
theorem ya8{names req:List ByteArray}{p:Nat}(hc:Cx names req p){n:z2w}(hv:Vd names req p (stN n))(hm:n.2.2.1.length≤999990)(hw:0≤n.2.2.2∧n.2.2.2≤4294967296) :
  ∃l,z45 n=some ((tS (stN n)).1,(tS (stN n)).2,n.2.2.1++l,n.2.2.2)∧Run (stN n) l (tS (stN n)) 0∧l.length+(tS (stN n)).2.length=n.2.1.length:=by
 have hl:=hv.left_le hc;simp only at hl;unfold z45;rw[ya2 hc hv,z01 (show n.2.1.length≤1000 by omega)];simp only[Bool.and_self,cond_true];exact zy3 hc n.2.1.length n hv (by omega) hw
theorem ybz{names req:List ByteArray}{p:Nat}(hc:Cx names req p){s:StT}(hv:Vd names req p s):z1l s.1 s.2=some (blkA s.2 s.1):=zth (hv.few hc)
theorem hS_le{names req:List ByteArray}{p:Nat}(hc:Cx names req p){s:StT}(hv:Vd names req p s):hS s≤6:=by
 have h1:hS s≤s.1.flatten.length:=by
  have:∀y:YdT,hL s.2 y≤y.flatten.length:=by
   intro y;induction y with
   |nil=>exact ql _
   |cons q y ih=>
    unfold hL blkA at ih⊢;rw[List.flatMap_cons,List.flatten_cons,qe,qe];have:=zxn s.2 q [];omega
  exact this s.1
 have h2:=List.Nodup.length_le_of_subset hv.nd hv.sub;have:=hc.nl;omega
end Go.Lift
