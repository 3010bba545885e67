/-
  Loops, numbers in their kinds, names on both sides.
-/
import Derived.Test.YtggnjngdmadbaaaGreatDoorFunF
set_option linter.unusedSectionVars false
set_option linter.unusedVariables false
set_option linter.unusedSimpArgs false
namespace Go.Lift
open Go
theorem zp4{S R:Type}{f:S→Option (S⊕R)}:∀ {n m:Nat} {s:S} {r:R},zf2 f n s=some r→n≤m→zf2 f m s=some r
 |0,_,_,_,h,_=>by simp[zf2] at h
 |n+1,0,_,_,_,h=>by omega
 |n+1,m+1,s,r,h,hm=>by
  simp only[zf2] at h⊢;split at h
  ·exact zp4 h (by omega)
  ·exact h
  ·cases h
theorem zwv{S R:Type}{f:S→Option (S⊕R)}{s:S}{r:R}{n:Nat}(h:zf2 f n s=some r):z2l f s=some r:=by
 unfold z2l;have hx:∃n r,zf2 f n s=some r:=⟨n,r,h⟩
 rw[dif_pos hx];have h2:=Classical.choose_spec (Classical.choose_spec hx);have a:=zp4 h (Nat.le_max_left n (Classical.choose hx));have b:=zp4 h2 (Nat.le_max_right n (Classical.choose hx));rw[b] at a;exact a
theorem zz9{S R:Type}{f:S→Option (S⊕R)}{s:S}{r:R}:z2l f s=some r↔∃n,zf2 f n s=some r:=by
 constructor
 ·intro h;unfold z2l at h;split at h
  ·rename_i hx;simp only[qb] at h;subst h;exact⟨_,Classical.choose_spec (Classical.choose_spec hx)⟩
  ·cases h
 ·exact fun⟨n,h⟩=>zwv h
theorem zva{S R:Type}{f:S→Option (S⊕R)}{s s':S}(h:f s=some (.inl s')):z2l f s=z2l f s':=by
 have key:∀r,z2l f s=some r↔z2l f s'=some r:=fun r=>by
  rw[zz9,zz9];constructor
  ·rintro⟨n,hn⟩;cases n with
   |zero=>simp[zf2] at hn
   |succ n=>simp only[zf2,h] at hn;exact⟨n,hn⟩
  ·rintro⟨n,hn⟩;exact⟨n+1,by simp only[zf2,h];exact hn⟩
 cases h1:z2l f s with
 |some r=>exact((key r).1 h1).symm
 |none=>
  cases h2:z2l f s' with
  |some r=>rw[(key r).2 h2] at h1;cases h1
  |none=>rfl
theorem zko{S R:Type}{f:S→Option (S⊕R)}{s:S}{r:R}(h:f s=some (.inr r)):z2l f s=some r:=
 zwv (n:=1) (by simp only[zf2,h])
theorem yd6(x:Int):wi64 x=if x % 18446744073709551616≥9223372036854775808 then x % 18446744073709551616-18446744073709551616 else x % 18446744073709551616:=by
 unfold wi64 IntKind.wrap;have h1:IntKind.i64.signed=true:=rfl;have h2:IntKind.i64.bits=64:=rfl;have e1:(2:Int) ^ 64=18446744073709551616:=by decide
 have e2:(2:Int) ^ (64-1)=9223372036854775808:=by decide
 simp only[h1,h2,Bool.true_and,e1,e2,decide_eq_true_eq]
theorem z2p{x:Int}(h0 : -9223372036854775808≤x)(h1:x < 9223372036854775808):wi64 x=x:=by
 rw[yd6];split<;>omega
theorem zlu{α:Type}{l m:List α}(h:l.length+m.length≤4294967296):app l m=some (l++m):=by unfold app;rw[if_pos h]
theorem z3b{A:Type}{c:Bool}{k:Option A}(h:c=true):chk c k=k:=by subst h;rfl
theorem z0q{a b:Bool}(ha:a=true)(hb:b=true):(a&&b)=true:=by rw[ha,hb];rfl
theorem z01{p:Prop}[Decidable p](h:p):decide p=true:=decide_eq_true h
theorem z0a{p:Prop}[Decidable p](h:¬p):decide p=false:=decide_eq_false h
theorem zgn(n lo hi:Int):z0m n lo hi=some (decide (lo≤n∧n≤hi)):=by
 unfold z0m;simp only[qb];by_cases h1:lo≤n<;>by_cases h2:n≤hi<;>simp[h1,h2]
theorem zvb{X S R:Type}{f:S→Option (S⊕R)}(I:List X→S→Prop)(Q:R→Prop)
  (hstep:∀x l s,I (x::l) s→(∃s',f s=some (.inl s')∧I l s')∨∃r,f s=some (.inr r)∧Q r)
  (hend:∀s,I [] s→∃r,f s=some (.inr r)∧Q r):∀ {l:List X} {s:S},I l s→∃r,z2l f s=some r∧Q r
 |[],s,h=>by
  obtain⟨r,h1,h2⟩:=hend s h;exact⟨r,zko h1,h2⟩
 | x::l,s,h=>by
  rcases hstep x l s h with⟨s',h1,h2⟩|⟨r,h1,h2⟩
  ·rw[zva h1];exact zvb I Q hstep hend h2
  ·exact⟨r,zko h1,h2⟩
theorem z1d{X S R:Type}{f:S→Option (S⊕R)}{t:R}(I:List X→S→Prop)
  (hstep:∀x l s,I (x::l) s→(∃s',f s=some (.inl s')∧I l s')∨f s=some (.inr t))
  (hend:∀s,I [] s→f s=some (.inr t)) {l:List X} {s:S} (h:I l s):z2l f s=some t:=by
 obtain⟨r,h1,h2⟩:=zvb I (fun r=>r=t) (fun x l s hi=>by
  rcases hstep x l s hi with h|h
  ·exact Or.inl h
  ·exact Or.inr ⟨t,h,rfl⟩) (fun s hi=>⟨t,hend s hi,rfl⟩) h
 rw[h1,h2]
theorem z3i{A:Type}{d x:A}{pre post:List A}:lget d (pre++x::post) (pre.length:Int)=x:=by
 unfold lget;rw[Int.toNat_natCast];simp
def zi9:List Int→Int
 |[]=>0
 |x::l=>if x=0 then zi9 l else x
theorem zht{l:List Int}(hl:l.length≤1000):z1e l=some (zi9 l):=by
 unfold z1e;refine qi.2 ⟨(if zi9 l=0 then .inl () else .inr (zi9 l)),?_,by
  by_cases h:zi9 l=0
  ·rw[if_pos h,h]
  ·rw[if_neg h]⟩
 refine z1d (X:=Int) (l:=l) (fun l' s=>∃pre,l=pre++l'∧s=(pre.length:Int)∧zi9 l=zi9 l') ?_ ?_ ⟨[],rfl,rfl,rfl⟩
 ·rintro x l' s ⟨pre,e1,rfl,e2⟩;have hL:l.length=pre.length+(l'.length+1):=by rw[e1,qe,qk]
  have g1:∀d,lget d l (pre.length:Int)=x:=fun d=>by rw[e1];exact z3i
  rw[z01 (show(pre.length:Int) < (l.length:Int) by omega),cond_true,z3b (z0q (z01 (by omega)) rfl),g1];by_cases h:x=0
  ·left;have:zi9 (x::l')=zi9 l':=if_pos h;rw[this] at e2;rw[h,show((0:Int) != 0)=false from rfl,cond_false,z2p (by omega) (by omega)];exact⟨_,rfl,pre++[x],by rw[e1];simp,by rw[qe,qj];rfl,e2⟩
  ·right;have:zi9 (x::l')=x:=if_neg h;rw[e2,this,if_neg h,show(x != 0)=true by simpa using h,cond_true];rfl
 ·rintro s ⟨pre,e1,rfl,e2⟩;have hL:l.length=pre.length:=by rw[e1,List.append_nil]
  rw[z0a (show ¬(pre.length:Int) < (l.length:Int) by omega),cond_false,e2];rfl
def nameAt(i:Nat)(c:Int):Bool:=(decide (97≤c∧c≤122)||decide (65≤c∧c≤90))||(decide (i≠0)&&(decide (c=45)||decide (48≤c∧c≤57)))
def zl4:Nat→List Int→Bool
 |_,[]=>true
 |i,c::l=>nameAt i c&&zl4 (i+1) l
def zam(s:ByteArray):Bool:=zl4 0 (z3k s)&&decide (1≤(s.size:Int)∧(s.size:Int)≤12)
theorem zut(s:ByteArray):(z3k s).length=s.size:=by
 unfold z3k;rw[List.length_map];rfl
theorem zpt{s:ByteArray}{c:Int}(h:c∈z3k s):0≤c∧c < 256:=by
 unfold z3k at h;obtain⟨b,_,rfl⟩:=List.mem_map.1 h;have:=b.toNat_lt;omega
theorem y75{s:ByteArray}{i:Int}(h0:0≤i)(h1:i < s.size):sget s i=lget 0 (z3k s) i:=by
 unfold sget lget z3k;obtain⟨n,rfl⟩:∃n:Nat,i=(n:Int):=⟨i.toNat,by omega⟩
 rw[Int.toNat_natCast];have hn:n < s.data.size:=by
  have:(n:Int) < (s.data.size:Int):=h1;omega
 have hn2:n < s.data.toList.length:=hn;rw[Array.getD_eq_getD_getElem?,List.getD_eq_getElem?_getD,List.getElem?_map,Array.getElem?_eq_getElem hn,qr hn2];rfl
theorem y8r{s:ByteArray}(h:s.size≤9223372036854775807):z1o s=some (zam s):=by
 unfold z1o;have hlen:=zut s;refine qi.2 ⟨(if zl4 0 (z3k s) then .inl () else .inr false),?_,?_⟩
 ·refine z1d (X:=Int) (l:=z3k s) (fun l' t=>∃pre,z3k s=pre++l'∧t=(pre.length:Int)∧zl4 0 (z3k s)=zl4 pre.length l') ?_ ?_ ⟨[],rfl,rfl,rfl⟩
  ·rintro x l' t ⟨pre,e1,rfl,e2⟩;have hL:(z3k s).length=pre.length+(l'.length+1):=by rw[e1,qe,qk]
   have g1:∀d,lget d (z3k s) (pre.length:Int)=x:=fun d=>by rw[e1];exact z3i
   have hx:=zpt (s:=s) (c:=x) (by rw[e1];simp);rw[z01 (show(pre.length:Int) < ((z3k s).length:Int) by omega),cond_true,z3b (z0q (z01 (by omega)) rfl),g1];simp only;rw[z2p (by omega) (by omega),zgn,qh,zgn,qh,zgn,qh];have e3:zl4 pre.length (x::l')=(nameAt pre.length x&&zl4 (pre.length+1) l'):=rfl;rw[e3] at e2;have hb:((bif decide (97≤x∧x≤122) then some true else some (decide (65≤x∧x≤90))).bind fun c_1=>
     (bif !c_1 then(bif ((pre.length:Int) == 0) then some true else(bif (x != 45) then some (!decide (48≤x∧x≤57)) else some false).bind fun c_2=>some c_2).bind fun c_3=>some c_3 else some false))=some (!nameAt pre.length x):=by
    unfold nameAt;by_cases h1:97≤x∧x≤122
    ·rw[z01 h1];rfl
    ·rw[z0a h1,cond_false,qh,Bool.false_or];by_cases h2:65≤x∧x≤90
     ·rw[z01 h2];rfl
     ·rw[z0a h2,Bool.not_false,cond_true,Bool.false_or];by_cases h3:pre.length=0
      ·rw[show((pre.length:Int) == 0)=true by rw[h3];rfl,z0a (show ¬pre.length≠0 by omega)];rfl
      ·rw[show((pre.length:Int) == 0)=false by rw[beq_eq_false_iff_ne]; omega,z01 (show pre.length≠0 from h3),cond_false,Bool.true_and];by_cases h4:x=45
       ·rw[z01 h4,show(x != 45)=false by rw[h4];rfl];rfl
       ·rw[z0a h4,show(x != 45)=true by rw[bne_iff_ne];exact h4,Bool.false_or];rfl
   generalize nameAt pre.length x=b at*;rw[qi] at hb;obtain⟨c1,hc1,hc2⟩:=hb;rw[hc1,qh,hc2,qh];cases b with
   |true=>
    left;rw[Bool.not_true,cond_false,z2p (by omega) (by omega)];rw[Bool.true_and] at e2;exact⟨_,rfl,pre++[x],by rw[e1];simp,by rw[qe,qj];rfl,by rw[qe,qj];exact e2⟩
   |false=>
    right;rw[Bool.false_and] at e2;rw[e2];rfl
  ·rintro t ⟨pre,e1,rfl,e2⟩;have hL:(z3k s).length=pre.length:=by rw[e1,List.append_nil]
   rw[z0a (show ¬(pre.length:Int) < ((z3k s).length:Int) by omega),cond_false,e2];rfl
 ·unfold zam;cases zl4 0 (z3k s) with
  |true=>simp only[if_true,Bool.true_and];rw[zgn,qh]
  |false=>rfl
theorem y9x{s:ByteArray}(h:s.size≤9223372036854775807):zh2 s=some (zam s):=by
 unfold zh2 zam;have hlen:=zut s;by_cases hs:1≤(s.size:Int)∧(s.size:Int)≤12
 ·rw[z01 hs,Bool.and_true,z0a (show ¬(s.size:Int) < 1 by omega),z0a (show ¬(s.size:Int) > 12 by omega),Bool.or_self,cond_false];refine qi.2 ⟨(if zl4 0 (z3k s) then .inl () else .inr false),?_,by cases zl4 0 (z3k s)<;>rfl⟩;refine z1d (X:=Int) (l:=z3k s) (fun l' t=>∃pre,z3k s=pre++l'∧t=(pre.length:Int)∧zl4 0 (z3k s)=zl4 pre.length l') ?_ ?_ ⟨[],rfl,rfl,rfl⟩
  ·rintro x l' t ⟨pre,e1,rfl,e2⟩;have hL:(z3k s).length=pre.length+(l'.length+1):=by rw[e1,qe,qk]
   have g1:sget s (pre.length:Int)=x:=by rw[y75 (by omega) (by omega),e1];exact z3i
   have hx:=zpt (s:=s) (c:=x) (by rw[e1];simp);rw[z01 (show(pre.length:Int) < (s.size:Int) by omega),cond_true,z3b (z0q (z01 (by omega)) rfl),g1];simp only;have e3:zl4 pre.length (x::l')=(nameAt pre.length x&&zl4 (pre.length+1) l'):=rfl;rw[e3] at e2;have hb:((!((decide (x≥97)&&decide (x≤122))||(decide (x≥65)&&decide (x≤90))))&&(((pre.length:Int) == 0)||((x != 45)&&(decide (x < 48)||decide (x > 57))))) = !nameAt pre.length x:=by
    unfold nameAt;rw[Bool.eq_iff_iff];simp only[qg,Bool.or_eq_true,Bool.not_eq_true',decide_eq_true_eq,beq_iff_eq,bne_iff_ne,Bool.or_eq_false_iff,Bool.and_eq_false_iff,decide_eq_false_iff_not];omega
   rw[hb];generalize nameAt pre.length x=b at*;cases b with
   |true=>
    left;rw[Bool.not_true,cond_false,z2p (by omega) (by omega)];rw[Bool.true_and] at e2;exact⟨_,rfl,pre++[x],by rw[e1];simp,by rw[qe,qj];rfl,by rw[qe,qj];exact e2⟩
   |false=>
    right;rw[Bool.false_and] at e2;rw[e2];rfl
  ·rintro t ⟨pre,e1,rfl,e2⟩;have hL:(z3k s).length=pre.length:=by rw[e1,List.append_nil]
   rw[z0a (show ¬(pre.length:Int) < (s.size:Int) by omega),cond_false,e2];rfl
 ·rw[z0a hs,Bool.and_false];have:(decide ((s.size:Int) < 1)||decide ((s.size:Int) > 12))=true:=by
   rw[Bool.or_eq_true,decide_eq_true_eq,decide_eq_true_eq];omega
  rw[this,cond_true]
theorem z59(b:Bool)(e:Int):z0c b e=some (if b then 0 else e):=by
 unfold z0c;cases b<;>rfl
end Go.Lift
