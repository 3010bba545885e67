/-
  That there are plans; how a plan is checked; the law holds of the plain functions.
-/
import Derived.Test.YtggnjngdmadbaaaGreatDoorPlB
set_option linter.unusedSectionVars false
set_option linter.unusedVariables false
set_option linter.unusedSimpArgs false
namespace Go.Lift
open Go
theorem y7z{y:YdT}{a:Nat}(h:a < y.length)(q:List ByteArray):(y.set a q).flatten.length+(pl y a).length=y.flatten.length+q.length:=by
 obtain⟨l1,l2,h1,h2,h3⟩:=zn0 h;rw[h3];rw(occs :=.pos [2]) [h1];simp only[List.flatten_append,List.flatten_cons,qe];omega
theorem pl_two{y:YdT}{a b:Nat}(ha:a < y.length)(hb:b < y.length)(h:a≠b):(pl y a).length+(pl y b).length≤y.flatten.length:=by
 have h1:=y7z ha [];have h2:=y7z (y:=y.set a []) (a:=b) (by rw[List.length_set];exact hb) [];rw[y35 ha,if_neg (Ne.symm h)] at h2;rw[List.length_nil] at h1 h2;omega
theorem y9g{names req:List ByteArray}{p:Nat}(hc:Cx names req p)(hp:2≤p){left q:List ByteArray}{x:ByteArray}{a:Nat}:∀(k:Nat) {y:YdT} {r:List ByteArray},r.length=k→Vd names req p (y,left)→pl y a=q++x::r→∃l y1,Run (y,left) l (y1,left) k∧pl y1 a=q++[x]:=by
 intro k;induction k with
 |zero=>
  intro y r hr hv hpl;rw[List.eq_nil_of_length_eq_zero hr] at hpl;exact⟨[],y,.nil _,hpl⟩
 | succ k ih=>
  intro y r hr hv hpl;obtain⟨r',z,rfl⟩:=zou (l:=r) (by omega);have hpl':pl y a=(q++x::r')++[z]:=by rw[hpl];simp
  have ha:=zox hpl';have hlen:y.length=p:=hv.len;obtain⟨b,hb,hab⟩:∃b,b < y.length∧a≠b:=by
   by_cases h:a=0
   ·exact⟨1,by omega,by omega⟩
   ·exact⟨0,by omega,h⟩
  have h2:=pl_two ha hb hab;have h6:y.flatten.length≤6:=Nat.le_trans (List.Nodup.length_le_of_subset hv.nd hv.sub) hc.nl;have h3:(pl y b).length < 6:=by
   rw[hpl] at h2;simp only[qe,qk] at h2;omega
  have hs:Stp (y,left) ((a:Int),(b:Int)) (zcn (popY y a) b z,left) 1 :=.mv hpl' hb hab h3;have hv1:=hv.stp hc.rn hs;obtain⟨l,y1,h4,h5⟩:=ih (y:=zcn (popY y a) b z) (r:=r') (by simp only[qe,qj] at hr;omega) hv1 (by
   rw[y7y (by rw[zkf];exact hb),if_neg hab,y36 ha,if_pos rfl,hpl',List.dropLast_concat])
  refine⟨((a:Int),(b:Int))::l,y1,?_,h5⟩;have:=Run.cons hs h4;rwa [Nat.add_comm] at this
theorem y7w{names req:List ByteArray}{p:Nat}(hc:Cx names req p)(hp:2≤p):∀(left:List ByteArray) {y:YdT},Vd names req p (y,left)→∃l s' w,Run (y,left) l s' w∧s'.2=[]∧w≤5*left.length
 |[],y,_=>⟨[],_,0,.nil _,rfl,Nat.zero_le _⟩
 | x::left,y,hv=>by
  have hx:=hv.lsub x (by simp);simp only at hx;rw[List.mem_flatten] at hx;obtain⟨q0,hq0,hxq⟩:=hx;obtain⟨a,ha,rfl⟩:=List.mem_iff_getElem.1 hq0;have hpl:pl y a=y[a]:=by
   unfold pl;rw[List.getD_eq_getElem?_getD,qr ha,Option.getD_some]
  rw[←hpl] at hxq;obtain⟨q,r,e⟩:=List.append_of_mem hxq;have h6:=hv.small a;simp only at h6;rw[e] at h6;simp only[qe,qk] at h6;obtain⟨l1,y1,h1,h2⟩:=y9g hc hp r.length rfl hv e;have hv1:=hv.run hc.rn h1;have hs:Stp (y1,x::left) ((a:Int),-1) (popY y1 a,left) 0 :=.out h2;obtain⟨l2,s',w,h3,h4,h5⟩:=y7w hc hp left (hv1.stp hc.rn hs);refine⟨_,s',_,h1.append (.cons hs h3),h4,?_⟩;rw[qk];omega
theorem zry{names req:List ByteArray}{p:Nat}(hr:req.Nodup):∀(left:List ByteArray) {y:YdT},Vd names req p (y,left)→hL left y=0→∃l s',Run (y,left) l s' 0∧s'.2=[]
 |[],y,_,_=>⟨[],_,.nil _,rfl⟩
 |x::left,y,hv,h0=>by
  obtain⟨a,q,hq⟩:=h_zero hv.nd (hv.lsub x (by simp)) h0;have hs:Stp (y,x::left) ((a:Int),-1) (popY y a,left) 0 :=.out hq;rw[h_out (show y.flatten.Nodup from hv.nd) hq] at h0;obtain⟨l,s',h1,h2⟩:=zry hr left (hv.stp hr hs) h0;exact⟨_,s',.cons hs h1,h2⟩
theorem yap{s s':StT}{l:List (Int×Int)}{w:Nat}(h:Run s l s' w):∀ {l0:List ByteArray} {x:ByteArray},s.2=l0++[x]→s'.2=[]→∃l' s'' w',Run (s.1,l0) l' s'' w'∧s''.2=[]∧w'≤w:=by
 induction h with
 |nil s=>
  intro l0 x h1 h2;rw[h1] at h2;simp at h2
 | @cons s s1 s2 m l c k hs hl ih=>
  intro l0 x h1 h2;cases l0 with
  |nil=>exact⟨[],_,0,.nil _,rfl,Nat.zero_le _⟩
  | cons z l0=>
   cases hs with
   | @out y left q u a hp=>
    simp only[List.cons_append,List.cons.injEq] at h1;obtain⟨rfl,h1⟩:=h1;obtain⟨l',s'',w',g1,g2,g3⟩:=ih h1 h2;exact⟨_,s'',_,.cons (.out hp) g1,g2,by omega⟩
   | @mv y left q u a b hp hb hab hlt=>
    obtain⟨l',s'',w',g1,g2,g3⟩:=ih h1 h2;exact⟨_,s'',_,.cons (.mv hp hb hab hlt) g1,g2,by omega⟩
theorem y55{names req:List ByteArray}{p:Nat}(hc:Cx names req p){y:YdT}(hv:Vd names req p (y,req)){l:List (Int×Int)}{s':StT}{w:Nat}(h:Run (y,req) l s' w)(h0:s'.2=[]):∃l' s'' w',Run (y,req) l' s'' w'∧s''.2=[]∧w'≤30:=by
 have hl:=hc.rl;rcases Nat.lt_or_ge p 2 with hp|hp
 ·refine⟨l,s',w,h,h0,?_⟩;have key:∀ {s s':StT} {l:List (Int×Int)} {w:Nat},Run s l s' w→s.1.length < 2→w=0:=by
   intro s s' l w h;induction h with
   |nil s=>intro _;rfl
   | cons hs _ ih=>
    intro hlt;cases hs with
    |out hp=>rw[ih (by simpa [zkf] using hlt)]
    |mv hp hb hab _=>
     have:=zox hp;simp only at hlt;omega
  have:=key h (by have:=hv.len;simp only at this⊢;omega);omega
 ·obtain⟨l',s'',w',h1,h2,h3⟩:=y7w hc hp req hv;exact⟨l',s'',w',h1,h2,by omega⟩
theorem y39{all':List ByteArray}:∀ {p:List ByteArray} {all:List ByteArray},zdy all p = .inl all'→all.Nodup→all'=all++p∧all'.Nodup∧∀x∈p,zam x=true
 |[],all,h,hn=>by
  have:all=all':=Sum.inl.inj h;subst this;exact⟨by simp,hn,fun x hx=>by cases hx⟩
 | x :: p,all,h,hn=>by
  rw[zkh] at h;cases h1:zam x with
  |false=>rw[h1] at h;cases h
  | true=>
   cases h2:hasB all x with
   |true=>rw[h1,h2] at h;cases h
   | false=>
    rw[h1,h2] at h;have hx:x∉all:=fun e=>by rw[z64.2 e] at h2;cases h2
    obtain⟨e1,e2,e3⟩:=y39 (p:=p) (all:=all++[x]) h (by
     rw[List.nodup_append];refine⟨hn,by simp,fun a ha b hb => ?_⟩;rw[List.mem_singleton] at hb;subst hb;exact fun e=>hx (e ▸ ha))
    refine⟨by rw[e1];simp,e2,fun z hz => ?_⟩;rcases List.mem_cons.1 hz with rfl|hz
    ·exact h1
    ·exact e3 z hz
theorem zw4{all':List ByteArray}:∀ {y:YdT} {i:Nat} {all:List ByteArray},zm0 i all y = .inl all'→all.Nodup→all'=all++y.flatten∧all'.Nodup∧(∀q∈y,q.length≤6)∧∀x∈y.flatten,zam x=true
 |[],i,all,h,hn=>by
  have:all=all':=Sum.inl.inj h;subst this;exact⟨by simp,hn,fun q hq=>(by cases hq),fun x hx=>(by cases hx)⟩
 | p :: y,i,all,h,hn=>by
  rw[zk5] at h;by_cases hl:((p.length:Int) > 6)
  ·rw[z01 hl] at h;cases h
  ·rw[z0a hl,cond_false] at h;cases hp:zdy all p with
   |inr e=>rw[hp] at h;cases h
   | inl all1=>
    rw[hp] at h;obtain⟨e1,e2,e3⟩:=y39 hp hn;obtain⟨f1,f2,f3,f4⟩:=zw4 (y:=y) h e2;refine⟨by rw[f1,e1];simp,f2,fun q hq => ?_,fun x hx => ?_⟩
    ·rcases List.mem_cons.1 hq with rfl|hq
     ·omega
     ·exact f3 q hq
    ·rw[List.flatten_cons] at hx;rcases List.mem_append.1 hx with hx|hx
     ·exact e3 x hx
     ·exact f4 x hx
theorem y4o{y:YdT}(h:(zgm y).2=0):y.length≤4∧y.flatten.Nodup∧(∀q∈y,q.length≤6)∧∀x∈y.flatten,zam x=true:=by
 unfold zgm at h;by_cases h0:(y.length:Int)=0
 ·rw[h0] at h;cases h
 ·rw [show ((y.length:Int) == 0)=false by rw[beq_eq_false_iff_ne]; exact h0,cond_false] at h;by_cases h1:(y.length:Int) > 4
  ·rw[z01 h1] at h;cases h
  ·rw [z0a h1,cond_false] at h;cases hg:zm0 0 [] y with
   | inr e =>
    rw[hg] at h;obtain⟨i,e⟩:=e;exfalso
    have key:∀ {y:YdT} {j:Nat} {all:List ByteArray},zm0 j all y = .inr (i,e)→e≠0:=by
     intro y;induction y with
     |nil=>intro j all h;cases h
     | cons p y ih=>
      intro j all h;rw[zk5] at h;by_cases hl:((p.length:Int) > 6)
      ·rw[z01 hl] at h;cases h;decide
      ·rw [z0a hl,cond_false] at h;cases hp:zdy all p with
       |inl all1=>rw[hp] at h;exact ih h
       | inr e'=>
        rw[hp] at h;have h:=Sum.inr.inj h;simp only[Prod.mk.injEq] at h;obtain⟨_,rfl⟩:=h;clear hg;have k2:∀ {p:List ByteArray} {all:List ByteArray},zdy all p = .inr e'→e'≠0:=by
         intro p;induction p with
         |nil=>intro all h;cases h
         | cons x p ih=>
          intro all h;rw[zkh] at h;cases h1:zam x with
          |false=>rw[h1] at h;cases h;decide
          |true=>
           cases h2:hasB all x with
           |true=>rw[h1,h2] at h;cases h;decide
           |false=>rw[h1,h2] at h;exact ih h
        exact k2 hp
    exact key hg h
   |inl all=>
    obtain⟨_,e2,e3,e4⟩:=zw4 hg List.nodup_nil;have e1:=(zw4 hg List.nodup_nil).1;rw[List.nil_append] at e1;exact⟨by omega,by rw[←e1];exact e2,e3,e4⟩
theorem y0s{y:YdT}:∀ {r pre:List ByteArray},reqG y pre r=0→pre.Nodup→(pre++r).Nodup∧∀x∈r,x∈y.flatten
 |[],pre,_,hn=>⟨by simpa using hn,fun x hx=>by cases hx⟩
 | x :: r,pre,h,hn=>by
  rw[znd] at h;cases h1:y.any fun p=>hasB p x with
  |false=>rw[h1] at h;cases h
  | true=>
   cases h2:hasB pre x with
   |true=>rw[h1,h2] at h;cases h
   | false=>
    rw[h1,h2] at h;have hx:x∉pre:=fun e=>by rw[z64.2 e] at h2;cases h2
    obtain⟨e1,e2⟩:=y0s (r:=r) (pre:=pre++[x]) h (by
     rw[List.nodup_append];refine⟨hn,by simp,fun a ha b hb => ?_⟩;rw[List.mem_singleton] at hb;subst hb;exact fun e=>hx (e ▸ ha))
    refine⟨by simpa using e1,fun z hz => ?_⟩;rcases List.mem_cons.1 hz with rfl|hz
    ·rw[List.any_eq_true] at h1;obtain⟨q,hq,h1⟩:=h1;exact List.mem_flatten.2 ⟨q,hq,z64.1 h1⟩
    ·exact e2 z hz
theorem y2r{y:YdT}{req:List ByteArray}(hy:(zgm y).2=0)(hr:reqE y req=0)(h6:y.flatten.length≤6):Cx y.flatten req y.length∧Vd y.flatten req y.length (y,req):=by
 obtain⟨h1,h2,h3,h4⟩:=y4o hy;obtain⟨e1,e2⟩:=y0s hr List.nodup_nil;refine⟨⟨h6,h4,by simpa using e1,e2,h1⟩,⟨rfl,fun a => ?_,h2,fun x hx=>hx,?_⟩⟩
 ·show(pl y a).length≤6;rcases Nat.lt_or_ge a y.length with h|h
  ·exact h3 _ (y37 h)
  ·unfold pl;rw[List.getD_eq_getElem?_getD,List.getElem?_eq_none h,Option.getD_none];exact Nat.zero_le _
 ·show req=req.filter _;rw[List.filter_eq_self.2];intro x hx;exact z64.2 (e2 x hx)
theorem zsc{y:YdT}{a:Nat}(ha:a < y.length):z8z y ((a:Int),-1)=0↔0 < (pl y a).length:=by
 have e:z8z y ((a:Int),-1)=(bif !inR (a:Int) 0 ((y.length:Int)-1)||(!inR (-1) 0 ((y.length:Int)-1)&&((-1:Int) != -1)) then 6 else bif ((pl y a).length:Int) == 0 then 11 else bif (a:Int) == -1 then 3 else bif ((-1:Int) != -1)&&decide (((lget [] y (-1)).length:Int)≥6) then 16 else 0):=rfl;rw[e];unfold inR;rw[z01 (show(0:Int)≤(a:Int)∧(a:Int)≤(y.length:Int)-1 by omega),show((-1:Int) != -1)=false from rfl,show((a:Int) == -1)=false by rw[beq_eq_false_iff_ne];omega];simp only[Bool.not_true,Bool.false_and,Bool.and_false,Bool.or_self,cond_false];by_cases h:(pl y a).length=0
 ·rw[h];simp
 ·rw[show(((pl y a).length:Int) == 0)=false by rw[beq_eq_false_iff_ne]; omega,cond_false];simp only[true_iff];omega
theorem zsb{y:YdT}{m:Int×Int}(h:z8z y m=0):∃a:Nat,m.1=(a:Int)∧a < y.length∧(m.2 = -1∨∃b:Nat,m.2=(b:Int)∧b < y.length):=by
 unfold z8z inR at h;by_cases h1:0≤m.1∧m.1≤(y.length:Int)-1
 ·refine⟨m.1.toNat,by omega,by omega,?_⟩;by_cases h2:0≤m.2∧m.2≤(y.length:Int)-1
  ·exact .inr ⟨m.2.toNat,by omega,by omega⟩
  ·by_cases h3:m.2 = -1
   ·exact .inl h3
   ·rw[z0a h2,show(m.2 != -1)=true by rw[bne_iff_ne]; exact h3] at h;simp at h
 ·rw[z0a h1] at h;simp at h
def topY(y:YdT)(a:Int):ByteArray:=(lget [] y a).getLastD ByteArray.empty
def zhe(s:StT)(m:Int×Int):Bool:=match s.2 with
 |[]=>true
 |x::_ => !seqb (topY s.1 m.1) x
def okM(s:StT)(m:Int×Int):Int:=if z8z s.1 m=0 then(if m.2 = -1∧zhe s m=true then 24 else 0) else z8z s.1 m
def nxS(s:StT)(m:Int×Int):StT:=if m.2 = -1 then(popY s.1 m.1.toNat,s.2.drop 1) else(zcn (popY s.1 m.1.toNat) m.2.toNat (topY s.1 m.1),s.2)
def cpG:Nat→Nat→StT→List (Int×Int)→Int×Int
 |i,w,s,[]=>if s.2=[] then((w:Int),0) else((i:Int),14)
 |i,w,s,m::ms=>if okM s m=0 then cpG (i+1) (if m.2 = -1 then w else w+1) (nxS s m) ms else((i:Int),okM s m)
theorem zn4{y:YdT}{a:Nat}{q:List ByteArray}{x:ByteArray}(h:pl y a=q++[x]):topY y (a:Int)=x:=by
 unfold topY;rw[zsj,h,List.getLastD_eq_getLast?,List.getLast?_append];rfl
theorem y1d{s:StT}{m:Int×Int}(h:okM s m=0):Stp s m (nxS s m) (if m.2 = -1 then 0 else 1):=by
 obtain⟨y,left⟩:=s;obtain⟨m1,m2⟩:=m;unfold okM at h;by_cases h0:z8z y (m1,m2)=0
 ·rw[if_pos h0] at h;obtain⟨a,e1,ha,hb⟩:=zsb h0;simp only at e1 hb h;subst e1;rcases hb with rfl|⟨b,rfl,hb⟩
  ·rw[zsc ha] at h0;obtain⟨q,x,hq⟩:=zou h0;have hr:zhe (y,left) ((a:Int),-1)=false:=by
    cases e:zhe (y,left) ((a:Int),-1) with
    |false=>rfl
    |true=>rw[if_pos ⟨rfl,e⟩] at h;cases h
   unfold zhe at hr;cases left with
   |nil=>cases hr
   |cons z left=>
    simp only[zn4 hq] at hr;have:seqb x z=true:=by simpa using hr
    obtain rfl:=zu5.1 this;exact .out hq
  ·rw[zqn ha hb] at h0;obtain⟨h3,h4,h5⟩:=h0;obtain⟨q,x,hq⟩:=zou h3;have e:nxS (y,left) ((a:Int),(b:Int))=(zcn (popY y a) b x,left):=by
    unfold nxS;rw[if_neg (show ¬((b:Int) = -1) by omega)];simp only[zn4 hq];rfl
   rw[e,if_neg (show ¬((b:Int) = -1) by omega)];exact .mv hq hb h4 h5
 ·rw[if_neg h0] at h;exact absurd h h0
theorem ydc{s s':StT}{m:Int×Int}{c:Nat}(h:Stp s m s' c):okM s m=0:=by
 cases h with
 | @out y left q x a hp=>
  unfold okM;have h0:z8z y ((a:Int),-1)=0:=by
   rw[zsc (zox hp),hp,qe,qj];omega
  have hr:zhe (y,x::left) ((a:Int),-1)=false:=by
   unfold zhe;simp only[zn4 hp];rw[zu5.2 rfl];rfl
  rw[if_pos h0,if_neg (by rw[hr];rintro⟨_,h⟩;cases h)]
 | @mv y left q x a b hp hb hab hl=>
  unfold okM;have h0:z8z y ((a:Int),(b:Int))=0:=by
   rw[zqn (zox hp) hb,hp,qe,qj];exact⟨by omega,hab,hl⟩
  rw[if_pos h0,if_neg];rintro⟨h,_⟩;have:(b:Int) = -1:=h;omega
theorem yeq{s s':StT}{ms:List (Int×Int)}{c:Nat}(h:Run s ms s' c):s'.2=[]→∀i w,cpG i w s ms=(((w+c:Nat):Int),0):=by
 induction h with
 |nil s=>
  intro h0 i w;unfold cpG;rw[if_pos h0,Nat.add_zero]
 | @cons s s1 s2 m l c k hs hl ih=>
  intro h0 i w;have h1:=ydc hs;obtain⟨e1,e2⟩:=hs.det (y1d h1);unfold cpG;rw[if_pos h1,←e1,ih h0];congr 2
  rw[e2];split<;>omega
theorem y4a:∀ {ms:List (Int×Int)} {s:StT} {i w:Nat},(cpG i w s ms).2=0→∃s' c,Run s ms s' c∧s'.2=[]∧(cpG i w s ms).1=((w+c:Nat):Int)
 | [],s,i,w,h=>by
  unfold cpG at h⊢;by_cases h0:s.2=[]
  ·rw[if_pos h0];exact⟨s,0,.nil s,h0,rfl⟩
  ·rw[if_neg h0] at h;cases h
 | m::ms,s,i,w,h=>by
  unfold cpG at h⊢;by_cases h0:okM s m=0
  ·rw[if_pos h0] at h⊢;obtain⟨s',c,h1,h2,h3⟩:=y4a h;refine⟨s',_,.cons (y1d h0) h1,h2,?_⟩;rw[h3];congr 1
   split<;>omega
  ·rw[if_neg h0] at h;exact absurd h h0
theorem top_ok{y:YdT}{a:Nat}(hy:y.length≤1000)(hp:∀q∈y,q.length≤1000)(ha:a < y.length)(h:0 < (pl y a).length):z57 y (a:Int)=some (topY y (a:Int)):=by
 obtain⟨q,x,hq⟩:=zou h;have hl:=hp _ (y37 ha);unfold z57;rw[z3b (z0q (z01 (by omega)) (z01 (by omega))),z3b (z0q (z01 (by omega)) (z01 (by omega)))];simp only;rw[hq] at hl;rw[show lget [] y (a:Int)=q++[x] from hq];rw[qe,qj] at hl;rw[qe,qj,z2p (by omega) (by omega),z3b (z0q (z01 (by omega)) (z01 (by omega))),zn4 hq];have e:lget ByteArray.empty (q++[x]) (((q.length+1:Nat):Int)-1)=x:=by
  rw[show((q.length+1:Nat):Int)-1=(q.length:Int) by omega];exact z3i (post:=[])
 rw[e]
theorem y9c{names req:List ByteArray}{p:Nat}(hc:Cx names req p){moves:List (Int×Int)}(hm:moves.length≤40){F:Int×z39→Option ((Int×z39)⊕(z39⊕(Int×Int)))}(hF:F=fun s=>
   let t_2:Int:=s.1
   let n:z39:=s.2
   bif decide (t_2 < (List.length moves:Int)) then
    chk (decide ((0:Int)≤t_2)&&decide (t_2 < (List.length moves:Int))) (
     let m:z0t:=lget (0,0) moves t_2
     (z19 n.1 m).bind fun(t_3:Int)=>
     bif (t_3 != 0) then
      Option.map Sum.inr (Option.map Sum.inr (
       some (t_2,t_3)))
     else
      (bif (m.2 == (-1)) then
       (bif ((List.length n.2.1:Int) == 0) then some true else
        (z57 n.1 m.1).bind fun(t_4:ByteArray)=>
        chk (decide ((0:Int)≤0)&&decide (0 < (List.length n.2.1:Int))) (
         some (!seqb t_4 (lget ByteArray.empty n.2.1 0)))).bind fun(c:Bool)=>
       some c
      else some false).bind fun(c_1:Bool)=>
      bif c_1 then
       Option.map Sum.inr (Option.map Sum.inr (
        some (t_2,24)))
      else
       (z0w n m).bind fun(t_5:z39)=>
       some (.inl (wi64 (t_2+1),t_5)))
   else
    some (.inr (.inl n))):∀(rest:List (Int×Int)) {pre:List (Int×Int)} {n:z2w} {w:Nat},moves=pre++rest→Vd names req p (stN n)→n.2.2.2=(w:Int)→n.2.2.1.length=pre.length→w≤pre.length→
  ∃j,z2l F ((pre.length:Int),n)=some j∧(match j with
   |.inl n1=>(if n1.2.1=[] then(n1.2.2.2,0) else((moves.length:Int),14))
   |.inr r=>r)=cpG pre.length w (stN n) rest
 | [],pre,n,w,hpre,hv,hw,hl,hwp=>by
  rw[List.append_nil] at hpre;subst hpre;refine⟨.inl n,zko ?_,?_⟩
  ·rw[hF];simp only[];rw[z0a (show ¬(moves.length:Int) < (moves.length:Int) by omega),cond_false]
  ·unfold cpG;show(if n.2.1=[] then(n.2.2.2,0) else((moves.length:Int),14))=(if n.2.1=[] then((w:Int),0) else((moves.length:Int),14))
   rw[hw]
 | m :: rest,pre,n,w,hpre,hv,hw,hl,hwp=>by
  have hlen:=congrArg List.length hpre;rw[qe,qk] at hlen;have hx:lget ((0,0):Int×Int) moves (pre.length:Int)=m:=by rw[hpre];exact z3i
  have hy:n.1.length≤1000:=by have:=hv.len;have:=hc.p4;simp only at *;omega
  have hy6:∀q∈n.1,q.length≤1000:=fun q hq=>by have:=hv.piles q hq;omega
  have step:F ((pre.length:Int),n)=if okM (stN n) m=0 then(z0w n m).bind fun t=>some (.inl (((pre++[m]).length:Int),t)) else some (.inr (.inr ((pre.length:Int),okM (stN n) m))):=by
   rw[hF];simp only[];rw[z01 (show(pre.length:Int) < (moves.length:Int) by omega),cond_true,z3b (z0q (z01 (by omega)) rfl),hx,zp2 hy,qh];unfold okM;by_cases h0:z8z n.1 m=0
   ·rw [h0,show((0:Int) != 0)=false from rfl,cond_false,if_pos (show(0:Int)=0 from rfl)];obtain⟨m1,m2⟩:=m;obtain⟨a,e1,ha,hb⟩:=zsb h0;simp only at e1 hb;subst e1;have hfin:(z0w n ((a:Int),m2)).bind (fun t=>some (Sum.inl (wi64 ((pre.length:Int)+1),t)):z2w→Option ((Int×z2w)⊕(z2w⊕(Int×Int))))=(z0w n ((a:Int),m2)).bind fun t=>some (.inl (((pre++[((a:Int),m2)]).length:Int),t)):=by
     rw[z2p (by omega) (by omega),qe,qj];rfl
    by_cases h1:m2 = -1
    ·subst h1;rw[zsc ha] at h0;simp only[show((-1:Int) == -1)=true from rfl,cond_true,true_and];unfold zhe;cases hl0:n.2.1 with
     |nil=>
      rw[show(((([]:List ByteArray).length:Nat):Int) == 0)=true from rfl,cond_true];simp only[qh,cond_true,hl0,stN,if_true];rfl
     | cons z left=>
      rw[show((((z::left).length:Nat):Int) == 0)=false by rw[beq_eq_false_iff_ne,qk];omega,cond_false,top_ok hy hy6 ha h0,qh,z3b (show(decide ((0:Int)≤0)&&decide (0 < (((z::left).length:Nat):Int)))=true from z0q (z01 (Int.le_refl 0)) (z01 (by rw[qk];omega)))];have e0:lget ByteArray.empty (z::left) 0=z:=rfl;simp only[qh,e0,stN,hl0];cases hq:seqb (topY n.1 (a:Int)) z with
      |true=>
       simp only[Bool.not_true,cond_false,Bool.false_eq_true,if_false,if_true];exact hfin
      |false=>
       simp only[Bool.not_false,cond_true,if_true];rfl
    ·simp only[show(m2 == -1)=false by rw[beq_eq_false_iff_ne]; exact h1,cond_false,qh,h1,false_and,if_false,if_true];exact hfin
   ·rw[show(z8z n.1 m != 0)=true by rw[bne_iff_ne]; exact h0,cond_true,if_neg (show ¬z8z (stN n).1 m=0 from h0),if_neg (show ¬z8z (stN n).1 m=0 from h0)];rfl
  unfold cpG;by_cases h0:okM (stN n) m=0
  ·rw[if_pos h0] at step⊢;have hs:=y1d h0;have hnx:=y1f hc hv hs (by omega) (by omega);rw[hnx,qh] at step;obtain⟨j,h1,h2⟩:=y9c hc hm hF rest (pre:=pre++[m]) (n:=((nxS (stN n) m).1,(nxS (stN n) m).2,n.2.2.1++[m],n.2.2.2+((if m.2 = -1 then 0 else 1:Nat):Int))) (w:=if m.2 = -1 then w else w+1) (by rw[hpre];simp) (hv.stp hc.rn hs) (by simp only[hw];split<;>omega) (by simp[hl]) (by rw[qe,qj];split<;>omega);refine⟨j,(zva step).trans h1,?_⟩;rw[h2,qe,qj]
  ·rw[if_neg h0] at step⊢;exact⟨_,zko step,rfl⟩
theorem zq8{names req:List ByteArray}{p:Nat}(hc:Cx names req p){y:YdT}(hv:Vd names req p (y,req))(hF:Few y req)(hy:(zgm y).2=0)(hr:reqE y req=0)(moves:List (Int×Int)) :
  z2h y req moves=some (if moves.length≤40 then cpG 0 0 (y,req) moves else(0,8)):=by
 unfold z2h;rw[zg7 hF,hy,hr,qh];simp only[show((0:Int) != 0)=false from rfl,show((0:Int) == 0)=true from rfl,cond_false,cond_true];rw[z59,qh];by_cases hm:moves.length≤40
 ·rw[z01 (show(moves.length:Int)≤40 by omega),if_pos rfl,zht (by simp),qh,if_pos hm];simp only[show zi9 [0,0]=0 from rfl,show((0:Int) != 0)=false from rfl,cond_false];obtain⟨j,h1,h2⟩:=y9c hc hm rfl moves (pre:=[]) (n:=(y,req,[],0)) (w:=0) rfl hv rfl rfl (ql _);rw[show(([]:List (Int×Int)).length:Int)=0 from rfl] at h1;rw[h1,qh];rw[List.length_nil] at h2;rw[←h2];cases j with
  |inr r=>rfl
  |inl n1=>
   simp only[];by_cases h0:n1.2.1=[]
   ·rw[h0,if_pos rfl,z0a (show ¬((([]:List ByteArray).length:Nat):Int) > 0 by simp),cond_false]
   ·rw[if_neg h0,z01 (show((n1.2.1.length:Nat):Int) > 0 by have:=List.length_pos_iff.2 h0;omega),cond_true]
 ·rw[z0a (show ¬(moves.length:Int)≤40 by omega),if_neg (by simp),zht (by simp),qh,if_neg hm];rfl
theorem y6l{names req:List ByteArray}{p:Nat}(hc:Cx names req p){y:YdT}(hv:Vd names req p (y,req))(hF:Few y req)(hy:(zgm y).2=0)(hr:reqE y req=0) :
  ∃r:List (Int×Int)×Bool,z4l y req=some (r.1,if r.2 then 0 else 12)∧Best req y r:=by
 obtain⟨r,h1,h2⟩:=ydq hc hv;refine⟨r,?_,h2⟩;unfold z4l;rw[zg7 hF,hy,hr,qh];simp only[show((0:Int) != 0)=false from rfl,show((0:Int) == 0)=true from rfl,cond_false,cond_true];rw[h1,qh,z59,qh]
theorem y6j{y:YdT}{request:List ByteArray}(h:Few y request):zgr y=some (zgm y).2:=by
 unfold zgr;rw[ztu h,qh]
theorem yad{y:YdT}(hy:y.length≤6)(hp:∀q∈y,q.length≤8):znw y=some (y.flatten.length:Int):=by
 have hfl:∀z:YdT,(∀q∈z,q.length≤8)→z.flatten.length≤8*z.length:=by
  intro z;induction z with
  |nil=>intro _;exact Nat.zero_le _
  |cons q z ih=>
   intro h;have h1:=h q (by simp);have h2:=ih fun r hr=>h r (qo _ hr)
   rw[List.flatten_cons,qe,qk];omega
 unfold znw;rw[qi];refine⟨_,z1d (X:=List ByteArray) (fun rest s=>∃pre,y=pre++rest∧s=((pre.flatten.length:Int),(pre.length:Int))) ?_ ?_ (l:=y) ⟨[],rfl,rfl⟩,rfl⟩
 ·rintro x rest _ ⟨pre,h1,rfl⟩;have hlen:=congrArg List.length h1;rw[qe,qk] at hlen;have hx:lget [] y (pre.length:Int)=x:=by rw[h1];exact z3i
  have h8:=hp x (by rw[h1];simp);have hf:=hfl pre fun q hq=>hp q (by rw[h1];simp[hq])
  refine Or.inl ⟨(((pre++[x]).flatten.length:Int),((pre++[x]).length:Int)),?_,pre++[x],by rw[h1];simp,rfl⟩;simp only[];rw[z01 (show(pre.length:Int) < (y.length:Int) by omega),cond_true,z3b (z0q (z01 (by omega)) rfl),hx,z2p (by omega) (by omega),z2p (by omega) (by omega),List.flatten_append,qe,qe,qj];simp
 ·rintro _ ⟨pre,h1,rfl⟩;rw[List.append_nil] at h1;subst h1;simp only[];rw[z0a (show ¬(y.length:Int) < (y.length:Int) by omega),cond_false]
theorem zmx{l:List (Int×Int)}(h:l.length≤1000):z9n l=some l:=by
 unfold z9n;rw[zlu (by rw[List.length_nil];omega),qh,List.nil_append]
theorem zyb{y:YdT}:∀ {r pre:List ByteArray},(pre++r).Nodup→(∀x∈r,x∈y.flatten)→reqG y pre r=0
 |[],pre,_,_=>rfl
 | x::r,pre,hn,hs=>by
  rw[znd];have h1:(y.any fun p=>hasB p x)=true:=by
   obtain⟨q,hq,hx⟩:=List.mem_flatten.1 (hs x (by simp));rw[List.any_eq_true];exact⟨q,hq,z64.2 hx⟩
  have h2:hasB pre x=false:=by
   cases e:hasB pre x with
   |false=>rfl
   |true=>
    rw[List.nodup_append] at hn;exact absurd rfl (hn.2.2 x (z64.1 e) x (by simp))
  rw[h1,h2];exact zyb (by simpa using hn) fun z hz=>hs z (qo _ hz)
structure Ready (y:YdT) (req:List ByteArray):Prop where
 few:Few y req
 ye:(zgm y).2=0
 re:reqE y req=0
 six:y.flatten.length≤6
theorem Ready.cx{y:YdT}{req:List ByteArray}(h:Ready y req):Cx y.flatten req y.length:=(y2r h.ye h.re h.six).1
theorem Ready.vd{y:YdT}{req:List ByteArray}(h:Ready y req):Vd y.flatten req y.length (y,req):=(y2r h.ye h.re h.six).2
theorem Ready.cut{y:YdT}{req:List ByteArray}{x:ByteArray}(h:Ready y (req++[x])):Ready y req:=by
 obtain⟨e1,e2⟩:=y0s h.re List.nodup_nil;obtain⟨h1,⟨h2,h3⟩,h4⟩:=h.few;refine⟨⟨h1,⟨by rw[qe] at h2;omega,fun z hz=>h3 z (List.mem_append_left _ hz)⟩,h4⟩,h.ye,?_,h.six⟩;refine zyb ?_ fun z hz=>e2 z (List.mem_append_left _ hz)
 rw[List.nil_append] at e1⊢;exact(List.nodup_append.1 e1).1
theorem Ready.best{y:YdT}{req:List ByteArray}(h:Ready y req):∃r:List (Int×Int)×Bool,z4l y req=some (r.1,if r.2 then 0 else 12)∧
  (r.2=true→∃w:Nat,z2h y req r.1=some ((w:Int),0)∧r.1.length=w+req.length∧r.1.length≤36∧hL req y≤w∧(∃s,Run (y,req) r.1 s w∧s.2=[])∧∀l s c,Run (y,req) l s c→s.2=[]→w≤c)∧
  (r.2=false→r.1=[]∧∀l s c,Run (y,req) l s c→s.2≠[]):=by
 obtain⟨r,h1,h2,h3⟩:=y6l h.cx h.vd h.few h.ye h.re;refine⟨r,h1,fun e => ?_,h3⟩;obtain⟨s,w,g1,g2,g3,g4⟩:=h2 e;obtain⟨l',s'',w',f1,f2,f3⟩:=y55 h.cx h.vd g1 g2;have hw:=g4 _ _ _ f1 f2;have hl:=h.cx.rl;have hh:=yea h.cx.rn h.vd g1;have hz:hS s=0:=by
  show hL s.2 s.1=0;rw[g2];exact yeb _
 refine⟨w,?_,g3,by omega,?_,⟨s,g1,g2⟩,g4⟩
 ·rw[zq8 h.cx h.vd h.few h.ye h.re,if_pos (by omega),yeq g1 g2,Nat.zero_add]
 ·have:hL req y≤w+hS s:=hh;omega
theorem Ready.check{y:YdT}{req:List ByteArray}(h:Ready y req)(plan:List (Int×Int)):∃r:Int×Int,z2h y req plan=some r∧(r.2=0→∃s c,Run (y,req) plan s c∧s.2=[]∧r.1=((c:Nat):Int)):=by
 rw[zq8 h.cx h.vd h.few h.ye h.re];refine⟨_,rfl,fun e => ?_⟩;by_cases hm:plan.length≤40
 ·rw[if_pos hm] at e⊢;obtain⟨s,c,h1,h2,h3⟩:=y4a e;exact⟨s,c,h1,h2,by rw[h3,Nat.zero_add]⟩
 ·rw[if_neg hm] at e;cases e
theorem zos(hw:zhn=some true)(y:List (List ByteArray))(request:List ByteArray)(plan:List z0t):z5q y request plan=some true:=by
 unfold z5q;rw[hw,qh,Bool.not_true,cond_false,y28,qh];cases hf:fewB y request with
 |false=>rfl
 | true =>
  have hF:=few_of hf;rw[Bool.not_true,Bool.false_or];by_cases hpl:(plan.length:Int) > 40
  ·rw[z01 hpl];rfl
  ·rw [z0a hpl,cond_false,y6j hF,qh,qh];cases hye:(zgm y).2 != 0 with
   |true=>rfl
   | false=>
    rw[cond_false,yad hF.1 (fun q hq=>(hF.2.2 q hq).1),qh,qh];by_cases h6:(y.flatten.length:Int) > 6
    ·rw[z01 h6];rfl
    ·rw [z0a h6,cond_false,zxs hF,qh,qh];cases hre:reqE y request != 0 with
     |true=>rfl
     | false=>
      have hye0:(zgm y).2=0:=by simpa using hye
      have hre0:reqE y request=0:=by simpa using hre
      have hR:Ready y request:=⟨hF,hye0,hre0,by omega⟩
      have hrl:=hR.cx.rl;obtain⟨r,p1,p2,p3⟩:=hR.best;have hcy:=y2q hF;have hct:z3g request=some request:=zk4 (by omega);have hbl:(blkA request y).length≤6:=hS_le hR.cx hR.vd;rw[cond_false,hcy,hct];simp only[qh];rw[p1];simp only[qh];rw[y0f hF,hye0,hre0];simp only[qh,show((0:Int) != 0)=false from rfl,show((0:Int) == 0)=true from rfl,cond_false,cond_true,Bool.false_or];rw[z0a (show ¬((blkA request y).length:Int) > 6 by omega),cond_false];cases hr2:r.2 with
      | false=>
       obtain⟨q1,q2⟩:=p3 hr2;simp only[Bool.false_eq_true,if_false,show((12:Int) != 0)=true from rfl,cond_true,show((12:Int) == 12)=true from rfl,q1,List.length_nil];have:0 < (blkA request y).length:=by
        rcases Nat.eq_zero_or_pos (blkA request y).length with h0|h0
        ·exfalso;obtain⟨l,s',h1,h2⟩:=zry hR.cx.rn request hR.vd h0;exact q2 l s' 0 h1 h2
        ·exact h0
       rw[z01 (show((blkA request y).length:Int) > 0 by omega)];rfl
      | true=>
       obtain⟨w,c1,c2,c3,c4,⟨s0,c5,c6⟩,c7⟩:=p2 hr2;simp only[if_true,show((0:Int) != 0)=false from rfl,cond_false];rw[zmx (by omega)];simp only[qh];rw[c1];simp only[qh,show((0:Int) != 0)=false from rfl,Bool.false_or];have hb:hL request y=(blkA request y).length:=rfl;rw[z0a (show ¬(w:Int) < ((blkA request y).length:Int) by omega),Bool.false_or];have hz:((((blkA request y).length:Int) == 0)&&((w:Int) != 0))=false:=by
        by_cases h0:(blkA request y).length=0
        ·obtain⟨l,s',h1,h2⟩:=zry hR.cx.rn request hR.vd h0;have:=c7 l s' 0 h1 h2;rw[show w=0 by omega];exact Bool.and_false _
        ·rw[show(((blkA request y).length:Int) == 0)=false by rw[beq_eq_false_iff_ne]; omega];rfl
       rw[hz,cond_false,z2p (by omega) (by omega),show((r.1.length:Int) != (w:Int)+(request.length:Int))=false by rw[c2];simp,qh,cond_false,zmx (show plan.length≤1000 by omega)];simp only[qh];obtain⟨r3,k1,k2⟩:=hR.check plan;rw[k1,qh];have hk:((r3.2 == 0)&&decide (r3.1 < (w:Int)))=false:=by
        by_cases h0:r3.2=0
        ·obtain⟨s,c,h1,h2,h3⟩:=k2 h0;have:=c7 plan s c h1 h2;rw[z0a (show ¬r3.1 < (w:Int) by omega),Bool.and_false]
        ·rw[show(r3.2 == 0)=false by rw[beq_eq_false_iff_ne]; exact h0];rfl
       rw[hk,cond_false];by_cases hl0:(request.length:Int)=0
       ·rw[hl0];rfl
       ·rw[show((request.length:Int) == 0)=false by rw[beq_eq_false_iff_ne]; exact hl0,cond_false,z2p (by omega) (by omega),z3b (z0q (z0q (z01 (Int.le_refl 0)) (z01 (by omega))) (z01 (by omega)))];obtain⟨some',x,hx⟩:=zou (l:=request) (by omega);have hcut:List.drop (Int.toNat 0) (List.take (Int.toNat ((request.length:Int)-1)) request)=some':=by
         rw[hx,qe,qj,show Int.toNat (((some'.length+1:Nat):Int)-1)=some'.length by omega,List.take_left']
         ·rfl
         ·rfl
        rw[hcut];have hR2:Ready y some':=by
         rw[hx] at hR;exact hR.cut
        have hc2:z3g some'=some some':=zk4 (by have:=hR2.cx.rl;omega);obtain⟨r4,m1,m2,m3⟩:=hR2.best;obtain⟨l',s'',w',n1,n2,n3⟩:=yap (l0:=some') (x:=x) c5 hx c6;rw[hc2];simp only[qh];rw[hc2];simp only[qh];rw[m1];simp only[qh];cases hr4:r4.2 with
        |false=>exact absurd n2 ((m3 hr4).2 _ _ _ n1)
        |true=>
         obtain⟨w4,d1,d2,d3,d4,_,d7⟩:=m2 hr4;simp only[if_true,show((0:Int) != 0)=false from rfl,cond_false];rw[zmx (by omega)];simp only[qh];rw[d1];simp only[qh];have:=d7 _ _ _ n1 n2;rw[z01 (show(w4:Int)≤(w:Int) by omega)];rfl
end Go.Lift
