/-
  Single operations, first part.
-/
import Derived.Test.YtggnjngdmadbaaaGreatDoorLiftB
set_option linter.all false
namespace Go.Lift
open Go Go.RowKit
variable [wB] [Mf]
variable {P:Program}
def ml(f:List Value→Option (List Value)):Nat→List Value→Option (List Value)
 |0,cs=>some cs
 |n+1,cs=>match f cs with
  |some r=>ml f n r
  |none=>none
def HK:Ty→List Value→Option (List Value)
 |.int k,.int k' n::r=>if k=k'∧n=0 then some r else none
 |.bool,.bool false::r=>some r
 |.str,.string s::r=>if s.size=0 then some r else none
 |.unit,r=>some r
 |.err,.nilIface::r=>some r
 |.one t,cs=>HK t cs
 |.pair a b,cs=>match HK a cs with
  |some r=>HK b r
  |none=>none
 |.arr n e,cs=>ml (HK e) n cs
 |.slice _,.slice none 0 0::r=>some r
 |_,_=>none
def nX:Ty→Option Value→Bool
 |.int k,some (.int k' n)=>decide (k=k')&&n==0
 |.bool,some (.bool b) => !b
 |.str,some (.string s)=>s.size==0
 |_,_=>false
def dH:List Value→Bool
 |[]=>true
 |_=>false
def fits(P:Program):Ty→Sum TypeId (List Field×Nat)→Bool
 | t,.inl T=>match P.info? T,P.underlying T with
  | some i,some d=>Nat.beq i.size t.size&&Nat.ble i.bytes 32768&&
   (!t.plain||(match i.zero with|some z=>(match HK t z.cells.toList with|some r=>dH r|none=>false)|none=>false))&&
   (match t,d with
   |.int k,.int k'=>decide (k=k')
   |.bool,.bool=>true
   |.str,.string=>true
   |.err,.interface _=>true
   |.unit,.struct fs=>Nat.beq fs.size 0
   |.slice e,.slice E=>fits P e (.inl E)
   |.arr n e,.array m E=>Nat.beq n m&&fits P e (.inl E)
   |.one t,.struct fs=>(match fs.toList with | [f]=>Nat.beq f.offset 0&&fits P t (.inl f.type)|_=>false)
   |.pair a b,.struct fs=>(match fs.toList with
    |f::g::[]=>Nat.beq f.offset 0&&fits P a (.inl f.type)&&Nat.beq g.offset a.size&&fits P b (.inl g.type)
    |f::g::h::r=>Nat.beq f.offset 0&&fits P a (.inl f.type)&&fits P b (.inr (g::h::r,a.size))
    |_=>false)
   |.fn _ _,.func .. => true
   |.seq _,.func .. => true
   |.mapT k v,.map K V=>k.scal&&v.scal&&fits P k (.inl K)&&fits P v (.inl V)&&(match P.info? V with|some i=>nX v i.zero|none=>false)
   |_,_=>false)
  |_,_=>false
 |.pair a b,.inr (f::g::[],off)=>Nat.beq f.offset off&&fits P a (.inl f.type)&&Nat.beq g.offset (off+a.size)&&fits P b (.inl g.type)
 |.pair a b,.inr (f::g::h::r,off)=>Nat.beq f.offset off&&fits P a (.inl f.type)&&fits P b (.inr (g::h::r,off+a.size))
 |_,.inr _=>false
theorem zqe{R:List Value→Prop}{f:List Value→Option (List Value)}{s:Nat}(hf:∀cs r,f cs=some r→∃zs,cs=zs++r∧zs.length=s∧R zs):
  ∀(n:Nat) (cs r:List Value),ml f n cs=some r→∃zs,cs=zs++r∧zs.length=n*s∧∀i,i<n→R ((zs.drop (i*s)).take s)
 |0,cs,r,h=>by simp only[ml,qb]at h;subst h;exact⟨[],rfl,by simp,fun i hi=>absurd hi (zW _)⟩
 | n+1,cs,r,h=>by
  simp only[ml]at h;split at h
  ·rename_i r1 h1;obtain⟨z1,e1,l1,p1⟩:=hf cs r1 h1;obtain⟨z2,e2,l2,p2⟩:=zqe hf n r1 r h;refine⟨z1++z2,by rw[e1,e2,zM],by simp[l1,l2,zC];omega,fun i hi =>?_⟩;cases i with
   |zero=>rw[Nat.zero_mul,yz,y9 (by omega),zF (by omega)];exact p1
   |succ i=>
    have:=p2 i (by omega);rw[jg];have h0:z1.drop ((i+1)*s)=[]:=xl (by rw[l1,zC];omega);rw[h0,qP,l1,show(i+1)*s-s=i*s by rw[zC];omega];exact this
  ·cases h
theorem ie(M:Mem):∀(t:Ty) (cs r:List Value),t.plain=true→HK t cs=some r→∃zs,cs=zs++r∧jB P t M t.dflt zs
 | .int k,cs,r,_,h=>by
  match cs,h with
  |.int k' n::r',h=>
   simp only[HK]at h;split at h
   ·rename_i hk;simp only[qb]at h;subst h;obtain⟨rfl,rfl⟩:=hk;exact⟨[_],rfl,rfl⟩
   ·cases h
 |.bool,cs,r,_,h=>by
  match cs,h with
  |.bool false::r',h=>simp only[HK,qb]at h;subst h;exact⟨[_],rfl,rfl⟩
 | .str,cs,r,_,h=>by
  match cs,h with
  | .string s::r',h=>
   simp only[HK]at h;split at h
   ·rename_i hs;simp only[qb]at h;subst h;refine⟨[_],rfl,?_⟩;have:s=ByteArray.empty:=by
     obtain⟨d⟩:=s;have hd:d.size=0:=hs;have:=xt hd;subst this;rfl
    subst this;rfl
   ·cases h
 |.unit,cs,r,_,h=>by simp only[HK,qb]at h;subst h;exact⟨[],rfl,rfl⟩
 |.err,cs,r,_,h=>by
  match cs,h with
  |.nilIface::r',h=>simp only[HK,qb]at h;subst h;exact⟨[_],rfl,_,rfl,fun _=>rfl,fun h=>by cases h⟩
 |.one t,cs,r,hp,h=>ie M t cs r hp h
 | .pair a b,cs,r,hp,h=>by
  simp only[HK]at h;split at h
  ·rename_i r1 h1;simp only[Ty.plain,qg]at hp;obtain⟨z1,e1,p1⟩:=ie M a cs r1 hp.1 h1;obtain⟨z2,e2,p2⟩:=ie M b r1 r hp.2 h;have hl:=Qp a M _ z1 p1;refine⟨z1++z2,by rw[e1,e2,zM],?_,?_⟩
   ·rw[y9 (by omega),zF (by omega)];exact p1
   ·rw[xF (by omega),xl (by omega),qP];exact p2
  ·cases h
 | .arr n e,cs,r,hp,h=>by
  obtain⟨zs,e1,e2,e3⟩:=zqe (R:=jB P e M e.dflt) (s:=e.size) (fun cs r h=>by
   obtain⟨zs,a,b⟩:=ie M e cs r hp h;exact⟨zs,a,Qp e M _ zs b,b⟩) n cs r h
  exact⟨zs,e1,e2,e3⟩
 |.slice e,cs,r,_,h=>by
  match cs,h with
  |.slice none 0 0::r',h=>simp only[HK,qb]at h;subst h;exact⟨[_],rfl,_,rfl,.inl ⟨rfl,rfl⟩⟩
 |.ptr _,_,_,hp,_=>by cases hp
 |.fn _ _,_,_,hp,_=>by cases hp
 |.seq _,_,_,hp,_=>by cases hp
theorem tA:∀(t:Ty) (cs r:List Value),t.plain=true→HK t cs=some r→∀p s,(p,s)∈Ec t→s=none∧∃off e,jN t p=some off∧t.atP p=some (.slice e)∧off<t.size∧cs[off]?=some (.slice none 0 0)
 |.slice e,cs,r,_,h=>by
  intro p s hm;simp only[Ec,qE,qX]at hm;obtain⟨rfl,rfl⟩:=hm;match cs,h with
  |.slice none 0 0::r',_=>exact⟨rfl,0,e,by simp[jN],by simp[Ty.atP],by simp[Ty.size],rfl⟩
 |.one t,cs,r,hp,h=>by
  intro p s hm;simp only[Ec,bp,zG]at hm;obtain⟨⟨r',s'⟩,hr,he⟩:=hm;simp only[qX]at he;obtain⟨rfl,rfl⟩:=he;obtain⟨h0,o,e,h1,h2,h3,h4⟩:=tA t cs r hp h r' s' hr;exact⟨h0,o,e,h1,h2,h3,h4⟩
 | .pair a b,cs,r,hp,h=>by
  intro p s hm;simp only[Ty.plain,qg]at hp;simp only[HK]at h;split at h
  ·rename_i r1 h1;simp only[Ec,bp,zB,zG]at hm;rcases hm with hm|hm
   ·obtain⟨⟨r',s'⟩,hr,he⟩:=hm;simp only[qX]at he;obtain⟨rfl,rfl⟩:=he;obtain⟨h0,o,e,g1,g2,g3,g4⟩:=tA a cs r1 hp.1 h1 r' s' hr;exact⟨h0,o,e,g1,g2,by simp only[Ty.size];omega,g4⟩
   ·obtain⟨⟨r',s'⟩,hr,he⟩:=hm;simp only[qX]at he;obtain⟨rfl,rfl⟩:=he;obtain⟨h0,o,e,g1,g2,g3,g4⟩:=tA b r1 r hp.2 h r' s' hr;obtain⟨zs,e1,e2⟩:=ie (P:=⟨default,#[]⟩) (fun _ _=>none) a cs r1 hp.1 h1;have hl:=Qp a _ _ zs e2;refine⟨h0,a.size+o,e,by simp only[qS,qP,jN,g1];rfl,g2,by simp only[Ty.size];omega,?_⟩;rw[e1,zm (by omega),hl,yC];exact g4
  ·cases h
 |.int _,_,_,_,_=>by intro p s hm;cases hm
 |.bool,_,_,_,_=>by intro p s hm;cases hm
 |.str,_,_,_,_=>by intro p s hm;cases hm
 |.unit,_,_,_,_=>by intro p s hm;cases hm
 |.err,_,_,_,_=>by intro p s hm;cases hm
 |.arr _ _,_,_,_,_=>by intro p s hm;cases hm
 |.ptr _,_,_,_,_=>by intro p s hm;cases hm
 |.fn _ _,_,_,_,_=>by intro p s hm;cases hm
 |.seq _,_,_,_,_=>by intro p s hm;cases hm
structure F8 (P:Program) (t:Ty) (T:TypeId) (i:TypeInfo) (d:TypeDesc):Prop where
 info:P.info? T=some i
 und:P.underlying T=some d
 size:i.size=t.size
 bytes:i.bytes≤32768
 zero:t.plain=true→∃z,i.zero=some z∧(∀M,jB P t M t.dflt z.cells.toList)∧∀κ M w tk,z93 κ M w tk t z.cells.toList (Ec t)
 agg:t.agg=true↔(match d with |.struct _ |.array _ _=>true|_=>false)=true
theorem Qx{t:Ty}{T:TypeId}(h:fits P t (.inl T)=true):∃i d,F8 P t T i d:=by
 unfold fits at h;split at h
 ·rename_i i d hi hd;refine⟨i,d,hi,hd,?_,?_,?_,?_⟩
  ·simp only[qg]at h;exact qq h.1.1.1
  ·simp only[qg]at h;exact Nat.le_of_ble_eq_true h.1.1.2
  ·intro hp;simp only[qg,hp,zi,yF]at h;have hz:=h.1.2;split at hz
   ·rename_i z Bw;split at hz
    ·rename_i r hr;refine⟨z,Bw,fun M =>?_,fun κ M w tk p s hm =>?_⟩;rotate_left
     ·obtain⟨h0,o,e,g1,g2,_,g4⟩:=tA t z.cells.toList r hp hr p s hm;exact⟨o,e,_,g1,g2,g4,by rw[h0];rfl⟩
     obtain⟨zs,e1,e2⟩:=ie (P:=P) M t z.cells.toList r hp hr;cases r with
     |nil=>rw[e1,qL];exact e2
     |cons _ _=>cases hz
    ·cases hz
   ·cases hz
  ·simp only[qg]at h;have h2:=h.2;cases t<;>cases d<;>first|(simp only[qA]at h2;done)|simp[Ty.agg]
 ·cases h
theorem Lv{t:Ty}{T:TypeId}{i:TypeInfo}{d:TypeDesc}(h:F8 P t T i d)(w:World):(isAgg T).run P w = .ok t.agg w:=by
 have:=h.agg;unfold isAgg;rw[qy,qG h.und];simp only[qt];cases ht:t.agg with
 |true=>rw[ht]at this;have:=this.1 rfl;cases d<;>first|rfl|(simp at this)
 |false=>rw[ht]at this;cases d<;>first|rfl|(simp at this)
theorem Kj{t:Ty}{T:TypeId}{i:TypeInfo}{d:TypeDesc}(h:F8 P t T i d)(w:World):(sizeOf T).run P w = .ok t.size w:=by
 simp[sizeOf,typeInfo,program,Sem.run,h.info,h.size]
theorem Addr.add_mk(b o n:Nat):(⟨b,o,none⟩:Addr).add n=⟨b,o+n,none⟩:=by
 unfold Addr.add;split<;>simp_all
theorem Ao:∀(t:Ty) {M:Mem} (x:t.den) (cs:List Value),jB P t M x cs→∀u∈cs,u.oneCell'=true
 |.int _,_,_,_,h=>by rw[jB]at h;subst h;intro u hu;simp at hu;subst hu;rfl
 |.bool,_,_,_,h=>by rw[jB]at h;subst h;intro u hu;simp at hu;subst hu;rfl
 |.str,_,_,_,h=>by rw[jB]at h;subst h;intro u hu;simp at hu;subst hu;rfl
 |.unit,_,_,_,h=>by rw[jB]at h;subst h;intro u hu;simp at hu
 |.err,_,x,_,h=>by
  obtain⟨v,rfl,h1,h2⟩:=h;intro u hu;simp at hu;subst hu;cases x with
  |true=>rw[h1 rfl];rfl
  |false=>obtain⟨t,y,h2⟩:=h2 rfl;rw[h2];rfl
 |.one t,_,x,cs,h=>Ao t x cs h
 |.pair a b,_,x,cs,h=>by
  intro u hu;rw[←List.take_append_drop a.size cs,zB]at hu;rcases hu with hu|hu
  ·exact Ao a x.1 _ h.1 u hu
  ·exact Ao b x.2 _ h.2 u hu
 | .arr n e,_,x,cs,h=>by
  intro u hu;obtain⟨j,hj,rfl⟩:=kH hu;have hl:=h.1;have hs:0<e.size:=by
   rcases Nat.eq_zero_or_pos e.size with h0|h0
   ·rw[h0]at hl;omega
   ·exact h0
  have hi:j / e.size<n:=by rw[Nat.div_lt_iff_lt_mul hs];omega
  have hm:=Nat.mod_add_div j e.size;have hlt:=Nat.mod_lt j hs;refine Ao e _ _ (h.2 _ hi) _ (xc.2 ⟨j%e.size,?_⟩);rw[zb,qH hlt,zd,show j / e.size*e.size+j%e.size=j by rw[Nat.mul_comm];omega,qr hj]
 |.slice _,_,_,_,h=>by
  obtain⟨v,rfl,h⟩:=h;intro u hu;simp at hu;subst hu;rcases h with⟨rfl,_⟩|⟨_,_,_,_,rfl,_⟩|⟨_,_,rfl,_⟩<;>rfl
 |.ptr _,_,_,_,h=>by obtain⟨_,_,_,rfl,_⟩:=h;intro u hu;simp at hu;subst hu;rfl
 |.fn _ _,_,_,_,h=>by obtain⟨_,_,_,rfl,_⟩:=h;intro u hu;simp at hu;subst hu;rfl
 |.seq _,_,_,_,h=>by obtain⟨_,_,rfl,_⟩:=h;intro u hu;simp at hu;subst hu;rfl
def TD(w:World)(b off:Nat)(cs:List Value):Prop:=∀j u,cs[j]?=some u→w.cell? ⟨b,off+j,none⟩=some u
theorem uh{M:Mem}{w:World}(hg:Good M w){b off:Nat}{cs:List Value}(h:M.has b off cs):TD w b off cs:=
 fun j u hj=>hg.2 _ _ _ (h j u hj)
theorem zql{w:World}{g:Nat}{jT:Array Value}{e:TypeId}{fr:Nat×Nat}(h:w.heap[g]?=some (.cells jT e fr))(off:Nat)(n:Nat):
  TD w g off ((jT.toList.drop off).take n):=by
 intro j u hj;rw[zb]at hj;split at hj
 ·rw[zd]at hj;simp only[World.cell?,h,xu,qA,zp];simpa using hj
 ·cases hj
theorem bL{t:Ty}{T:TypeId}{i:TypeInfo}{d:TypeDesc}(h:F8 P t T i d){M:Mem}{x:t.den}{cs:List Value}(hr:jB P t M x cs){w:World}{b off:Nat}(hc:TD w b off cs):
  (loadVar T ⟨b,off,none⟩).run P w = .ok (KY t cs) w:=by
 have hl:=Qp t M x cs hr;unfold loadVar;rw[qy,Lv h];simp only[qt];unfold KY;cases ha:t.agg with
 |true=>
  simp only[yp,qy,Kj h,qt,←hl];rw[run_loadCells_list w ⟨b,off,none⟩ cs (fun j v hj=>by rw[Addr.add_mk];exact hc j v hj)];rfl
 |false=>
  have h1:t.size=1:=by cases t<;>simp_all [Ty.agg,Ty.size]
  rw[h1]at hl;match cs,hl,hc with
  |[c],_,hc=>
   have:=hc 0 c rfl;simp only[qA,zp,run_load,List.headD];simp only[yK]at this;rw[this]
theorem zyv{t:Ty}{T:TypeId}{i:TypeInfo}{d:TypeDesc}(h:F8 P t T i d){M:Mem}{x:t.den}{v:Value}(hr:jz P t M x v){w:World}{g off:Nat}{jT:Array Value}{E:TypeId}
    (hg:w.heap[g]?=some (.cells jT E (0,0))) (hl:off+t.size≤jT.size):
    (storeVar T ⟨g,off,none⟩ v).run P w = .ok () (w.setRow g (vg jT.toList off v.cells.toList).toArray):=by
  have hs:=y8h hr;have Gb:=Ao t x _ (HP hr);unfold storeVar;rw[qy,Kj h];simp only[qt,hs,ne_eq,not_true,zp];have Zd:=run_storeCells_at P g off E v.cells.toList 0 jT w hg (by simp[hs];omega) Gb;simp only[yK]at Zd;first
    |exact Zd
    |(rw[show(storeCells ⟨g,off,none⟩ v.cells.toList).run P w=_ from Zd];rfl)
    |simpa [vg]using Zd
end Go.Lift
namespace Go.Lift
open Go Go.RowKit
variable [wB] [Mf]
variable {P:Program}
theorem ir:∀(p q r:wm),WH p q=some r→q=p++r∧EP p=true
 |[],q,r,h=>by simp only[WH,qb]at h;subst h;exact⟨rfl,rfl⟩
 |.one::p,q,r,h=>by
  match q,h with
  |.one::q,h=>obtain⟨rfl,hs⟩:=ir p q r h;exact⟨rfl,hs⟩
 |.fst::p,q,r,h=>by
  match q,h with
  |.fst::q,h=>obtain⟨rfl,hs⟩:=ir p q r h;exact⟨rfl,hs⟩
 |.snd::p,q,r,h=>by
  match q,h with
  |.snd::q,h=>obtain⟨rfl,hs⟩:=ir p q r h;exact⟨rfl,hs⟩
 |.idx i::p,q,r,h=>by cases q<;>simp[WH]at h
 |.el i::p,q,r,h=>by cases q<;>simp[WH]at h
theorem bI:∀(p r:wm) (t u:Ty),t.atP p=some u→t.atP (p++r)=u.atP r
 |[],r,t,u,h=>by simp only[Ty.atP,qb]at h;subst h;rfl
 |.one::p,r,t,u,h=>by
  cases t<;>simp only[Ty.atP,reduceCtorEq]at h
  rename_i t;exact bI p r t u h
 |.fst::p,r,t,u,h=>by
  cases t<;>simp only[Ty.atP,reduceCtorEq]at h
  rename_i a b;exact bI p r a u h
 |.snd::p,r,t,u,h=>by
  cases t<;>simp only[Ty.atP,reduceCtorEq]at h
  rename_i a b;exact bI p r b u h
 |.idx i::p,r,t,u,h=>by
  cases t<;>simp only[Ty.atP,reduceCtorEq]at h
  rename_i n e;exact bI p r e u h
 |.el i::p,r,t,u,h=>by
  cases t<;>simp only[Ty.atP,reduceCtorEq]at h
  rename_i e;exact bI p r e u h
theorem AD:∀(p r:wm) (t u:Ty) (o1:Nat),t.atP p=some u→jN t p=some o1→jN t (p++r)=(jN u r).map (o1 + ·)
 |[],r,t,u,o1,h,ho=>by
  simp only[Ty.atP,qb]at h;subst h;simp only[jN,qb]at ho;subst ho;simp
 |.one::p,r,t,u,o1,h,ho=>by
  cases t<;>simp only[Ty.atP,reduceCtorEq]at h
  rename_i t;exact AD p r t u o1 h ho
 |.fst::p,r,t,u,o1,h,ho=>by
  cases t<;>simp only[Ty.atP,reduceCtorEq]at h
  rename_i a b;exact AD p r a u o1 h ho
 |.snd::p,r,t,u,o1,h,ho=>by
  cases t<;>simp only[Ty.atP,reduceCtorEq]at h
  rename_i a b;simp only[jN]at ho;obtain⟨o',wQ,rfl⟩:=qB.1 ho;simp only[qS,jN,AD p r b u o' h wQ,Option.map_map];congr 1;funext x;simp[xA]
 | .idx i::p,r,t,u,o1,h,ho=>by
  cases t<;>simp only[Ty.atP,reduceCtorEq]at h
  rename_i n e;simp only[jN]at ho;split at ho
  ·rename_i hi;obtain⟨o',wQ,rfl⟩:=qB.1 ho;simp only[qS,jN,qH hi,AD p r e u o' h wQ,Option.map_map];congr 1;funext x;simp[xA]
  ·cases ho
 |.el i::p,r,t,u,o1,h,ho=>by cases t<;>simp only[jN,reduceCtorEq]at ho
theorem me:∀(p:wm) (t:Ty) (o:Nat),jN t p=some o→∃u,t.atP p=some u
 |[],t,_,_=>⟨t,by simp[Ty.atP]⟩
 |.one::p,t,o,h=>by
  cases t<;>simp only[jN,reduceCtorEq]at h
  rename_i t;exact me p t o h
 |.fst::p,t,o,h=>by
  cases t<;>simp only[jN,reduceCtorEq]at h
  rename_i a b;exact me p a o h
 |.snd::p,t,o,h=>by
  cases t<;>simp only[jN,reduceCtorEq]at h
  rename_i a b;obtain⟨o',wQ,_⟩:=qB.1 h;exact me p b o' wQ
 | .idx i::p,t,o,h=>by
  cases t<;>simp only[jN,reduceCtorEq]at h
  rename_i n e;split at h
  ·obtain⟨o',wQ,_⟩:=qB.1 h;exact me p e o' wQ
  ·cases h
 |.el i::p,t,o,h=>by cases t<;>simp only[jN,reduceCtorEq]at h
section own
variable {κ:Nat→Option Nat} {M:Mem} {w:World} {tk:Nat→Bool}
theorem z93.under{t u:Ty}{cs:List Value}{own:Own}{p:wm}{off:Nat}(h:z93 κ M w tk t cs own)(ho:jN t p=some off)(ha:t.atP p=some u):
  z93 κ M w tk u ((cs.drop off).take u.size) (CU own p):=by
 intro r s hm;simp only[CU,yd]at hm;obtain⟨⟨q,s'⟩,hq,hm⟩:=hm;obtain⟨r',hr,he⟩:=qB.1 hm;simp only[qX]at he;obtain⟨rfl,rfl⟩:=he;obtain⟨rfl,_⟩:=ir p q r' hr;obtain⟨o,e,v,h1,h2,h3,h4⟩:=h _ _ hq;rw[AD p r' t u off ha ho]at h1;obtain⟨o2,h5,rfl⟩:=qB.1 h1;rw[bI p r' t u ha]at h2;have jL:=Fv r' u o2 h2 h5;simp only[Ty.size]at jL;refine⟨o2,e,v,h5,h2,?_,h4⟩;rw[zb,qH (by omega),zd];exact h3
theorem z93.nonstatic{u:Ty}{cs:List Value}{own:Own}{p:wm}(hp:EP p=false):z93 κ M w tk u cs (CU own p):=by
 intro r s hm;simp only[CU,yd]at hm;obtain⟨⟨q,s'⟩,hq,hm⟩:=hm;obtain⟨r',hr,he⟩:=qB.1 hm;obtain⟨_,hs⟩:=ir p q r' hr;rw[hp]at hs;cases hs
theorem td:∀(p q:wm) (t u v:Ty) (o1 o2:Nat),WH p q=none→WH q p=none→EP p=true→t.atP p=some u→jN t p=some o1→t.atP q=some v→jN t q=some o2→
  o2+v.size≤o1∨o1+u.size≤o2
 |[],q,_,_,_,_,_,h,_,_,_,_,_,_=>by simp[WH]at h
 |p,[],_,_,_,_,_,_,h,_,_,_,_,_=>by simp[WH]at h
 |.idx _::_,_::_,_,_,_,_,_,_,_,hs,_,_,_,_=>by simp[EP]at hs
 |.el _::_,_::_,_,_,_,_,_,_,_,hs,_,_,_,_=>by simp[EP]at hs
 |.one::p,s::q,t,u,v,o1,o2,h1,h2,hs,a1,b1,a2,b2=>by
  cases t<;>simp only[jN,reduceCtorEq]at b1
  rename_i t;cases s<;>simp only[jN,reduceCtorEq]at b2
  simp only[WH]at h1 h2;exact td p q t u v o1 o2 h1 h2 hs a1 b1 a2 b2
 | .fst::p,s::q,t,u,v,o1,o2,h1,h2,hs,a1,b1,a2,b2=>by
  cases t<;>simp only[jN,reduceCtorEq]at b1
  rename_i a b;cases s<;>simp only[jN,reduceCtorEq]at b2
  ·simp only[WH]at h1 h2;exact td p q a u v o1 o2 h1 h2 hs a1 b1 a2 b2
  ·obtain⟨o',wQ,rfl⟩:=qB.1 b2;have:=Fv p a o1 a1 b1;right;omega
 | .snd::p,s::q,t,u,v,o1,o2,h1,h2,hs,a1,b1,a2,b2=>by
  cases t<;>simp only[jN,reduceCtorEq]at b1
  rename_i a b;obtain⟨o',wQ,rfl⟩:=qB.1 b1;cases s<;>simp only[jN,reduceCtorEq]at b2
  ·have:=Fv q a o2 a2 b2;left;omega
  ·obtain⟨Nt,N9,rfl⟩:=qB.1 b2;simp only[WH]at h1 h2;have:=td p q b u v o' Nt h1 h2 hs a1 wQ a2 N9;omega
theorem z93.put{t u:Ty}{cs ds:List Value}{own n:Own}{p:wm}{off:Nat}(h:z93 κ M w tk t cs own)(hn:z93 κ M w tk u ds n)(ho:jN t p=some off)(ha:t.atP p=some u)
  (hd:ds.length=u.size) (hl:off+u.size≤cs.length):z93 κ M w tk t (vg cs off ds) (lP own p n):=by
 intro q s hm;unfold lP at hm;split at hm
 ·rename_i hs;rw[zB]at hm;rcases hm with hm|hm
  ·simp only[yw,qg,Option.isNone_iff_eq_none]at hm;obtain⟨hm,G8,VP⟩:=hm;obtain⟨o,e,v,h1,h2,h3,h4⟩:=h q s hm;have hap:=td p q t u (.slice e) off o G8 VP hs ha ho h2 h1;simp only[Ty.size]at hap;refine⟨o,e,v,h1,h2,?_,h4⟩;rw[getElem?_splice _ _ _ _ (by omega),qT (by omega)];exact h3
  ·simp only[bp,zG]at hm;obtain⟨⟨r,s'⟩,hr,he⟩:=hm;simp only[qX]at he;obtain⟨rfl,rfl⟩:=he;obtain⟨o,e,v,h1,h2,h3,h4⟩:=hn r s' hr;have hlt:o<ds.length:=by
    rcases z7 o ds.length with hlt|hge
    ·exact hlt
    ·rw[zD hge]at h3;cases h3
   refine⟨off+o,e,v,?_,?_,?_,h4⟩
   ·rw[AD p r t u off ha ho,h1];rfl
   ·rw[bI p r t u ha];exact h2
   ·rw[getElem?_splice _ _ _ _ (by omega),qH (by omega),yC];exact h3
 ·cases hm
end own
end Go.Lift
namespace Go.Lift
open Go Go.RowKit
variable [wB] [Mf]
variable {P:Program}
theorem Rl:∀(t:Ty) (fs:List Field) (off i:Nat) (f:Field),2≤fs.length→fits P t (.inr (fs,off))=true→fs[i]?=some f→
  ∃u o,t.atP (z12 fs.length i)=some u∧jN t (z12 fs.length i)=some o∧off+o=f.offset∧fits P u (.inl f.type)=true
 | .pair a b,f::g::[],off,i,f',_,h,hi=>by
  rw[fits.eq_2]at h;simp only[qg]at h;obtain⟨⟨⟨h1,h2⟩,h3⟩,h4⟩:=h;have h1:=qq h1;have h3:=qq h3;match i,hi with
  |0,hi=>
   simp only[zr,qb]at hi;subst hi;exact⟨a,0,by simp[z12,Ty.atP],by simp[z12,jN],by omega,h2⟩
  |1,hi=>
   simp only[z8,zr,qb]at hi;subst hi;exact⟨b,a.size,by simp[z12,Ty.atP],by simp[z12,jN],by omega,h4⟩
  |i+2,hi=>simp at hi
 | .pair a b,f::g::k::r,off,i,f',_,h,hi=>by
  rw[fits.eq_3]at h;simp only[qg]at h;obtain⟨⟨h1,h2⟩,h3⟩:=h;have h1:=qq h1;match i,hi with
  |0,hi=>
   simp only[zr,qb]at hi;subst hi;exact⟨a,0,by simp[z12,Ty.atP],by simp[z12,jN],by omega,h2⟩
  |i+1,hi=>
   simp only[z8]at hi;obtain⟨u,o,g1,g2,g3,g4⟩:=Rl b (g::k::r) (off+a.size) i f' (by simp) h3 hi;have e:z12 (f::g::k::r).length (i+1) = .snd::z12 (g::k::r).length i:=by simp[z12]
   rw[e];exact⟨u,a.size+o,g1,by simp only[jN,g2];rfl,by omega,g4⟩
 |.pair _ _,[],_,_,_,hl,_,_=>by simp at hl
 |.pair _ _,[_],_,_,_,hl,_,_=>by simp at hl
 |.int _,_,_,_,_,_,h,_=>by simp[fits]at h
 |.bool,_,_,_,_,_,h,_=>by simp[fits]at h
 |.str,_,_,_,_,_,h,_=>by simp[fits]at h
 |.unit,_,_,_,_,_,h,_=>by simp[fits]at h
 |.err,_,_,_,_,_,h,_=>by simp[fits]at h
 |.one _,_,_,_,_,_,h,_=>by simp[fits]at h
 |.arr _ _,_,_,_,_,_,h,_=>by simp[fits]at h
 |.slice _,_,_,_,_,_,h,_=>by simp[fits]at h
 |.ptr _,_,_,_,_,_,h,_=>by simp[fits]at h
 |.fn _ _,_,_,_,_,_,h,_=>by simp[fits]at h
 |.seq _,_,_,_,_,_,h,_=>by simp[fits]at h
 |.mapT _ _,_,_,_,_,_,h,_=>by simp[fits]at h
theorem tI{t:Ty}{T:TypeId}{fs:Array Field}(h:fits P t (.inl T)=true)(hu:P.underlying T=some (.struct fs)){i:Nat}{f:Field}(hi:fs[i]?=some f):
  ∃u,t.atP (z12 fs.size i)=some u∧jN t (z12 fs.size i)=some f.offset∧fits P u (.inl f.type)=true:=by
 have Xq:fs.toList[i]?=some f:=by simpa using hi
 unfold fits at h;split at h
 ·rename_i i' d Gf hd;rw[hu]at hd;simp only[qb]at hd;subst hd;simp only[qg]at h;have h2:=h.2;cases t with
  |unit=>
   have:=qq h2;have:fs=#[]:=xt this;subst this;simp at hi
  |one t=>
   simp only at h2;split at h2
   ·rename_i f0 hf;rw[hf]at Xq;simp only[qg]at h2;have hs:fs.size=1:=by rw[←zN,hf];rfl
    match i,Xq with
    |0,Xq=>
     simp only[zr,qb]at Xq;subst Xq;rw[hs];exact⟨t,by simp[z12,Ty.atP],by simp[z12,jN,(qq h2.1).symm],h2.2⟩
    |i+1,Xq=>simp at Xq
   ·cases h2
  |pair a b=>
   simp only at h2;have hs:fs.size=fs.toList.length:=by simp
   rw[hs];split at h2
   ·rename_i f0 g0 hf;simp only[qg]at h2;have QT:fits P (.pair a b) (.inr (fs.toList,0))=true:=by
     rw[hf,fits.eq_2];simp only[qg,qY];exact h2
    obtain⟨u,o,g1,g2,g3,g4⟩:=Rl (.pair a b) fs.toList 0 i f (by rw[hf];simp) QT Xq;exact⟨u,g1,by rw[g2];congr 1;omega,g4⟩
   ·rename_i f0 g0 k0 r0 hf;simp only[qg]at h2;have QT:fits P (.pair a b) (.inr (fs.toList,0))=true:=by
     rw[hf,fits.eq_3];simp only[qg,qY];exact h2
    obtain⟨u,o,g1,g2,g3,g4⟩:=Rl (.pair a b) fs.toList 0 i f (by rw[hf];simp) QT Xq;exact⟨u,g1,by rw[g2];congr 1;omega,g4⟩
   ·cases h2
  |_=>simp only[qA]at h2
 ·cases h
theorem Fy{e:Ty}{T:TypeId}(h:fits P (.slice e) (.inl T)=true):∃E,P.underlying T=some (.slice E)∧fits P e (.inl E)=true:=by
 unfold fits at h;split at h
 ·rename_i i d hi hd;simp only[qg]at h;cases d<;>first|exact⟨_,hd,h.2⟩|exact absurd h.2 yg
 ·cases h
theorem Aj{n:Nat}{e:Ty}{T:TypeId}(h:fits P (.arr n e) (.inl T)=true):∃E,P.underlying T=some (.array n E)∧fits P e (.inl E)=true:=by
 unfold fits at h;split at h
 ·rename_i i d hi hd;simp only[qg]at h;cases d<;>first|(have h2:=h.2;simp only[qg]at h2;have:=qq h2.1;subst this;exact⟨_,hd,h2.2⟩)|exact absurd h.2 yg
 ·cases h
theorem AC{t:Ty}{T:TypeId}(h:fits P t (.inl T)=true)(ht:t = .unit∨(∃u,t = .one u)∨∃a b,t = .pair a b):∃fs,P.underlying T=some (.struct fs):=by
 unfold fits at h;split at h
 ·rename_i i d hi hd;simp only[qg]at h;have h2:=h.2;rcases ht with rfl|⟨u,rfl⟩|⟨a,b,rfl⟩<;>cases d<;>first|exact⟨_,hd⟩|exact absurd h2 yg
 ·cases h
theorem fits_int{k:IntKind}{T:TypeId}(h:fits P (.int k) (.inl T)=true):P.underlying T=some (.int k):=by
 unfold fits at h;split at h
 ·rename_i i d hi hd;simp only[qg]at h;cases d<;>first|(have:=xI h.2;subst this;exact hd)|exact absurd h.2 yg
 ·cases h
theorem Ak{T:TypeId}(h:fits P .str (.inl T)=true):P.underlying T=some .string:=by
 unfold fits at h;split at h
 ·rename_i i d hi hd;simp only[qg]at h;cases d<;>first|exact hd|exact absurd h.2 yg
 ·cases h
theorem fits_bool{T:TypeId}(h:fits P .bool (.inl T)=true):P.underlying T=some .bool:=by
 unfold fits at h;split at h
 ·rename_i i d hi hd;simp only[qg]at h;cases d<;>first|exact hd|exact absurd h.2 yg
 ·cases h
theorem Ut{rows:Bool}{t u:Ty}{M:Mem}{x:t.den}{y:u.den}{p:wm}{off:Nat}{cs:List Value}(h:EI P rows t M x cs)(ho:vo rows t x p=some off)(hg:Qv t x p u=some y):
  jB P u M y ((cs.drop off).take u.size)∧off+u.size≤cs.length:=by
 cases rows with
 |false=>exact Am p t x y off cs hg (by cases t<;>exact ho) (by cases t<;>exact h)
 |true=>
  cases t with
  |slice e=>
   match p,ho,hg with
   | .el i::p,ho,hg=>
    simp only[vo]at ho;split at ho
    ·rename_i hi;obtain⟨o',wQ,rfl⟩:=qB.1 ho;have wy:i.toNat<x.length:=by omega
     simp only[Qv,jt,qC,qr wy,qO]at hg;obtain⟨h1,h2⟩:=Am p e _ y o' _ hg wQ (h.2 i.toNat wy);have jL:(i.toNat+1)*e.size≤x.length*e.size:=q9 _ wy;have hl:=h.1;simp only[zE,zT,zC,zZ]at h2 jL;refine⟨?_,by omega⟩;rw[ke,xQ,xk]at h1;rwa [show min u.size (e.size-o')=u.size from by omega]at h1
    ·cases ho
   |[],ho,_=>simp[vo]at ho
   |.one::_,ho,_=>simp[vo]at ho
   |.fst::_,ho,_=>simp[vo]at ho
   |.snd::_,ho,_=>simp[vo]at ho
   |.idx _::_,ho,_=>simp[vo]at ho
  |_=>exact absurd h id
theorem y8l{rows:Bool}{t u:Ty}{M:Mem}{x x':t.den}{y:u.den}{p:wm}{off:Nat}{cs ds:List Value}(h:EI P rows t M x cs)(ho:vo rows t x p=some off)(hs:QH t x p u y=some x')(hd:jB P u M y ds):
  EI P rows t M x' (vg cs off ds)∧off+u.size≤cs.length∧∀q,vo rows t x' q=vo rows t x q:=by
 have an:=Qp u M y ds hd;cases rows with
 |false=>
  have h':jB P t M x cs:=by cases t<;>exact h
  have wQ:jN t p=some off:=by cases t<;>exact ho
  have jL:=Fv p t off (EM p t x x' y hs) wQ;have hl:=Qp t M x cs h';have:=Aq p t x x' y off cs ds hs wQ h' hd;exact⟨by cases t<;>exact this,by omega,fun q=>by cases t<;>rfl⟩
 |true =>
  cases t with
  |slice e=>
   match p,ho,hs with
   | .el i::p,ho,hs=>
    simp only[vo]at ho;split at ho
    ·rename_i hi;obtain⟨o',wQ,rfl⟩:=qB.1 ho;have wy:i.toNat<x.length:=by omega
     simp only[QH,jt,qC,qr wy,qO]at hs;split at hs
     ·rename_i v hv;simp only[qb]at hs;subst hs;have ZT:=Fv p e o' (EM p e _ v y hv) wQ;have jL:(i.toNat+1)*e.size≤x.length*e.size:=q9 _ wy;simp only[zC,zZ]at jL;have hl:=h.1;have ih:=Aq p e _ v y o' _ ds hv wQ (h.2 i.toNat wy) hd;refine⟨⟨by rw[vP (by omega)];simpa [QK]using hl,fun j hj =>?_⟩,by omega,fun q =>?_⟩
      ·have Y9:j<x.length:=by simpa [QK]using hj
       by_cases X3:j=i.toNat
       ·subst X3;have e2:=tx (cs:=cs) (ds:=ds) (off:=i.toNat*e.size+o') (s:=i.toNat*e.size) (n:=e.size) (by omega) (by omega) (by omega);rw[yC]at e2;rw[e2];simpa [QK]using ih
       ·have Qn:j*e.size+e.size≤i.toNat*e.size+o'∨i.toNat*e.size+o'+ds.length≤j*e.size:=by
         rcases z7 j i.toNat with hlt|hge
         ·left;have:(j+1)*e.size≤i.toNat*e.size:=q9 _ hlt;simp only[zC,zZ]at this;omega
         ·right;have:(i.toNat+1)*e.size≤j*e.size:=q9 _ (by omega);simp only[zC,zZ]at this;omega
        rw[tZ (by omega) Qn];have ju:i.toNat≠j:=fun h=>X3 h.symm
        simp only[QK,List.getElem_set,qT ju];exact h.2 j Y9
      ·match q with
       |.el _::_=>simp[vo,QK]
       |[]=>simp[vo]
       |.one::_=>simp[vo]
       |.fst::_=>simp[vo]
       |.snd::_=>simp[vo]
       |.idx _::_=>simp[vo]
     ·cases hs
    ·cases ho
   |[],ho,_=>simp[vo]at ho
   |.one::_,ho,_=>simp[vo]at ho
   |.fst::_,ho,_=>simp[vo]at ho
   |.snd::_,ho,_=>simp[vo]at ho
   |.idx _::_,ho,_=>simp[vo]at ho
  |_=>exact absurd h id
theorem IL{rows:Bool}{t u:Ty}{x:t.den}{p r:wm}{o1:Nat}(ho:vo rows t x p=some o1)(ha:t.atP p=some u):vo rows t x (p++r)=(jN u r).map (o1 + ·):=by
 cases rows with
 |false=>
  have wQ:jN t p=some o1:=by cases t<;>exact ho
  have:=AD p r t u o1 ha wQ;cases t<;>exact this
 |true=>
  cases t with
  |slice e=>
   match p,ho,ha with
   | .el i::p,ho,ha=>
    simp only[vo]at ho;split at ho
    ·rename_i hi;obtain⟨o',wQ,rfl⟩:=qB.1 ho;simp only[Ty.atP]at ha;simp only[qS,vo,qH hi,AD p r e u o' ha wQ,Option.map_map];congr 1;funext z;simp[xA]
    ·cases ho
   |[],ho,_=>simp[vo]at ho
   |.one::_,ho,_=>simp[vo]at ho
   |.fst::_,ho,_=>simp[vo]at ho
   |.snd::_,ho,_=>simp[vo]at ho
   |.idx _::_,ho,_=>simp[vo]at ho
  |_=>simp[vo]at ho
end Go.Lift
namespace Go.Lift
open Go Go.RowKit
variable [wB] [Mf]
def y5k(P:Program)(g:FuncId)(args:Array Value)(M:Mem)(w:World)(e:Ty)(l:List e.den):Prop:=
 Calls P g args w fun e' w'=>∃M' b cap jT E,e' = .returned (.slice (some ⟨b,0,none⟩) l.length cap)∧Good M' w'∧vm M w M' w'∧w.heap.size≤b∧w'.heap[b]?=some (.cells jT E (0,0))∧
  s9 P e M' l jT.toList∧(∀o,M' b o=none)∧l.length≤cap∧cap≤maxLen
def FCn(P:Program)(s:Sig):Prop:=
 ∀e x l,s.listRun e x=some l→∀M w vs,Good M w→Kh P M s.ats x vs→y5k P s.f vs.toArray M w e l
def z9n(P:Program)(g:FuncId)(args:Array Value)(M:Mem)(w:World)(e:Ty)(l:List e.den):Prop:=
 Calls P g args w fun e' w'=>∃M' v,e' = .returned v∧Good M' w'∧vm M w M' w'∧jz P (.slice e) M' l v∧
  (v = .slice none 0 0∨∃b n cap,v = .slice (some ⟨b,0,none⟩) n cap∧w.heap.size≤b∧zpd M' w' e.size b n cap)
def aX(P:Program)(s:Sig):Prop:=
 ∀e x l,s.listRun e x=some l→∀M w vs,Good M w→Kh P M s.ats x vs→z9n P s.f vs.toArray M w e l
def y1a(P:Program)(g:FuncId)(args:Array Value)(M:Mem)(w:World)(e:Ty)(F:js→Option (List e.den))(x:js):Prop:=
 Calls P g args w fun e' w'=>∃M' b E gf lb,e' = .returned (.func (.func gf) #[] lb)∧Good M' w'∧vm M w M' w'∧w.heap.size≤b∧w'.heap[b]?=some (.cells #[.string x] E (0,0))∧(∀o,M' b o=none)∧zwn P (encS e) M' gf lb b F
def FCi(P:Program)(f:FuncId)(I:aW):Prop:=Enters P f∧∀(s Yr:js) (M:Mem) (w:World),Good M w→y1a P f #[.string s,.string Yr] M w I.e (I.F Yr) s
structure Qw (P:Program) (Γ:QW):Prop where
 ty:∀T t,Γ.ty T=some t→fits P t (.inl T)=true
 mf:Γ.maps=Mf.on
 nf:∀T t fs,Γ.ty T=some t→P.underlying T=some (.struct fs)→Γ.nf T=fs.size
 sig:∀f s,Γ.sig f=some s→s.f=f∧Enters P f∧FC P s
 news:∀f s,Γ.news f=true→Γ.sig f=some s→FCn P s
 owns:∀f s,Γ.owns f=true→Γ.sig f=some s→aX P s
 iters:∀f I,Γ.iters f=some I→FCi P f I
 eq:∀T t,Γ.eqs T=true→Γ.ty T=some t→∀(M:Mem) (x y:t.den) (u v:Value) (w:World) (p q:Operand),jz P t M x u→jz P t M y v→
  (do eqGuard .eql T p q u v;binOp .eql T u v:Sem Value).run P w = .ok (.bool (t.eqb x y)) w∧(do eqGuard .neq T p q u v;binOp .neq T u v:Sem Value).run P w = .ok (.bool (!t.eqb x y)) w
variable {P:Program} {Γ:QW} {base:Nat} {κ:Nat→Option Nat} {M:Mem} {σ:St} {a:Act} {w:World}
def ZL(P:Program)(κ:Nat→Option Nat)(M:Mem)(w:World)(σ:St)(a:Act)(o:Oper):Eff→Prop
 |.fail=>True
 |.val v=>∃u,(execOp a.eval o).run P w = .ok (.value u) w∧RelA P κ M w σ.box σ.tok v u
 |.chk c v=>c=true→∃u,(execOp a.eval o).run P w = .ok (.value u) w∧RelA P κ M w σ.box σ.tok v u
 |.cat x y=>x.size+y.size≤4294967296→(execOp a.eval o).run P w = .ok (.value (.string (x++y))) w
 |.bytes x=>∃v w',(execOp a.eval o).run P w = .ok (.value v) w'∧Below w.heap.size w w'∧∃M',Good M' w'∧(∀b,b<w.heap.size→M' b=M b)∧jz P (.slice (.int .u8)) M' (Zj x) v
 |.call s x=>∃vs:Array Value,(execOp a.eval o).run P w = .ok (.enter s.f vs) w∧Kh P M s.ats x vs.toList∧FC P s
 |.newRow _ e y=>∀l,y=some l→∃g args,(execOp a.eval o).run P w = .ok (.enter g args) w∧y5k P g args M w e l
 |.newOwn e y=>∀l,y=some l→∃g args,(execOp a.eval o).run P w = .ok (.enter g args) w∧z9n P g args M w e l
 |.newIter e F x=>∃g args,(execOp a.eval o).run P w = .ok (.enter g args) w∧y1a P g args M w e F x
 |.dyn _ r φ x=>∀y,φ x=some y→∃g args,(execOp a.eval o).run P w = .ok (.enter g args) w∧CK P g args M w fun M' v=>jz P r M' y v
 |.alloc B=>(∃cells,(execOp a.eval o).run P w = .ok (.value (.pointer (some ⟨w.heap.size,0,none⟩))) (w.alloc (.cells cells B.tid))∧EI P B.rows B.t M B.x cells.toList∧z93 κ M w σ.tok B.t cells.toList B.own∧B.rows=false)∨
  ∃tid k v,B=⟨tid,.mapT k v,[],[],true⟩∧Mf.on=true∧(execOp a.eval o).run P w = .ok (.value (.map (some w.heap.size))) (w.alloc (.map #[] 0))
 |.store b B'=>(∃B g jT Xt E,σ.box b=some B∧κ b=some g∧w.heap[g]?=some (.cells jT E (0,0))∧(execOp a.eval o).run P w = .ok .skip (w.setRow g Xt)∧EI P B'.rows B'.t M B'.x Xt.toList∧
  z93 κ M w σ.tok B'.t Xt.toList B'.own∧B'.tid=B.tid∧Alike B B'∧Xt.size=jT.size)∨
  ∃tid k v l l' own g es Zx c c',Mf.on=true∧σ.box b=some ⟨tid,.mapT k v,l,own,true⟩∧B'=⟨tid,.mapT k v,l',[],true⟩∧κ b=some g∧w.heap[g]?=some (.map es c)∧(execOp a.eval o).run P w = .ok .skip (w.putObj g (.map Zx c'))∧XB k v l' Zx
 |.fresh c e l=>c=true→∃cells E,(execOp a.eval o).run P w = .ok (.value (.slice (some ⟨w.heap.size,0,none⟩) l.length l.length)) (w.alloc (.cells cells E))∧KG P e M l cells.toList∧l.length≤maxLen
 |.row c _ e l=>c=true→∃cells E,(execOp a.eval o).run P w = .ok (.value (.slice (some ⟨w.heap.size,0,none⟩) l.length l.length)) (w.alloc (.cells cells E))∧KG P e M l cells.toList∧l.length≤maxLen
 | .app e l m src=>l.length+m.length≤4294967296→∃v w' M',(execOp a.eval o).run P w = .ok (.value v) w'∧Good M' w'∧Mem.le M M'∧jz P (.slice e) M' (l++m) v∧Below 0 w w'∧
  ((v = .slice none 0 0∧w'=w∧M'=M)∨∃g n cap,v = .slice (some ⟨g,0,none⟩) n cap∧zpd M' w' e.size g n cap∧(g=w.heap.size∨∃k,src=some k∧κ k=some g∧σ.tok k=true∧∀o:Obj,w.heap[g]?=some o→oN o=true)∧
   (∀j,j≠g→j<w.heap.size→w'.heap[j]?=w.heap[j]?)∧∀j,j≠g→M' j=M j)
theorem vh{o:Oper}:ZL P κ M w σ a o .fail:=True.intro
theorem HQ{t u:Ty}{x:t.den}{y:u.den}(h:Z8 t u x=some y):∃e:t=u,y=e▸x:=by
 unfold Z8 at h;split at h
 ·rename_i e;simp only[qb]at h;exact⟨e,h.symm⟩
 ·cases h
theorem LI{t u:Ty}{x:t.den}{y:u.den}(h:Z8 t u x=some y){v:Value}(hr:jz P t M x v):jz P u M y v:=by
 obtain⟨rfl,rfl⟩:=HQ h;exact hr
theorem YX{k:IntKind}{x:Int}{v:Value}:jz P (.int k) M x v↔v = .int k x:=by
 unfold jz Qd;simp[Ty.agg,jB]
theorem X8{x:Bool}{v:Value}:jz P .bool M x v↔v = .bool x:=by
 unfold jz Qd;simp[Ty.agg,jB]
theorem Xj{x:js}{v:Value}:jz P .str M x v↔v = .string x:=by
 unfold jz Qd;simp[Ty.agg,jB]
theorem WJ{tk:Nat→Bool}{t:Ty}{cs:List Value}:z93 κ M w tk t cs []:=by intro p s h;cases h
theorem Fx{k:IntKind}{x:Int}:RelA P κ M w σ.box σ.tok (.data (.int k) x []) (.int k x):=⟨YX.2 rfl,WJ⟩
theorem Ef{x:Bool}:RelA P κ M w σ.box σ.tok (.data .bool x []) (.bool x):=⟨X8.2 rfl,WJ⟩
theorem mr{x:js}:RelA P κ M w σ.box σ.tok (.data .str x []) (.string x):=⟨Xj.2 rfl,WJ⟩
theorem HN{t:Ty}{x:t.den}{v:Value}(h:jz P t M x v):RelA P κ M w σ.box σ.tok (.data t x []) v:=⟨h,WJ⟩
theorem XK(hR:jW P base κ M σ a w){x:Operand}{v:AVal}(h:σ.opd x=some v):RelA P κ M w σ.box σ.tok v (a.eval x):=by
 unfold St.opd at h;split at h
 ·exact hR.env _ _ h
 ·simp only[qb]at h;subst h;exact Fx
 ·simp only[qb]at h;subst h;exact Ef
 ·simp only[qb]at h;subst h;exact mr
 ·simp only[qb]at h;subst h;exact⟨#[],rfl,rfl⟩
 ·simp only[qb]at h;subst h;rfl
 ·simp only[qb]at h;subst h;rfl
 ·cases h
theorem mz{v:Option AVal}{t:Ty}{y:t.den}(h:AVal.get v t=some y):∃own,v=some (.data t y own):=by
 unfold AVal.get at h;split at h
 ·obtain⟨rfl,rfl⟩:=HQ h;exact⟨_,rfl⟩
 ·cases h
theorem GH(hR:jW P base κ M σ a w){x:Operand}{t:Ty}{y:t.den}(h:AVal.get (σ.opd x) t=some y):jz P t M y (a.eval x):=by
 obtain⟨own,h⟩:=mz h;exact(XK hR h).1
theorem y9t(hR:jW P base κ M σ a w){x:Operand}{j:Int}(h:AVal.int (σ.opd x)=some j):∃k,a.eval x = .int k j:=by
 unfold AVal.int at h;split at h
 ·rename_i k v own he;simp only[qb]at h;subst h;exact⟨k,YX.1 (XK hR he).1⟩
 ·cases h
theorem bu(hR:jW P base κ M σ a w){x:Operand}{b:Bool}(h:σ.bool x=some b):a.eval x = .bool b:=X8.1 (GH hR h)
theorem Z9(hR:jW P base κ M σ a w){x:Operand}{t:Ty}{y:t.den}{own:Own}(h:σ.opd x=some (.data t y own)):jz P t M y (a.eval x):=(XK hR h).1
theorem y4c(hR:jW P base κ M σ a w){T:Option Ty}{y:Operand}{v:AVal}(h:σ.opdN T y=some v):RelA P κ M w σ.box σ.tok v (a.eval y):=by
 unfold St.opdN at h;split at h
 ·simp only[qb]at h;subst h;refine⟨?_,?_⟩
  ·unfold jz Qd;simp only[Ty.agg,qA,zp];exact⟨_,rfl,.inl ⟨rfl,rfl⟩⟩
  ·intro p s hm;simp only[qE,qX]at hm;obtain⟨rfl,rfl⟩:=hm;exact⟨0,_,.slice none 0 0,by simp[jN],by rw[Ty.atP],rfl,rfl⟩
 ·exact XK hR h
theorem ycs(hR:jW P base κ M σ a w){T:Option Ty}{y:Operand}{t:Ty}{z:t.den}(h:AVal.get (σ.opdN T y) t=some z):jz P t M z (a.eval y):=by
 obtain⟨own,h⟩:=mz h;exact(y4c hR h).1
section jA
variable (hR:jW P base κ M σ a w) (hC:Qw P Γ)
include hR
theorem y96{o:Oper}{x:Operand}(jx:o.op = .move x∨o.op = .assign x):ZL P κ M w σ a o (jK Γ o σ):=by
 have jF:(execOp a.eval o).run P w = .ok (.value (a.eval x)) w:=by
  rcases jx with h|h<;>simp[execOp,h]
 have key:ZL P κ M w σ a o (match(generalizing:=false) x with
  |.const (.slice none 0 0)=>match(generalizing:=false) Γ.ty o.type with
   |some (.slice e) =>.val (.data (.slice e) [] [([],none)])
   |_ =>.fail
  |x=>EH (σ.opd x)):=by
  split
  ·split
   ·refine⟨_,jF,?_,?_⟩
    ·unfold jz Qd;simp only[Ty.agg,qA,zp];exact⟨_,rfl,.inl ⟨rfl,rfl⟩⟩
    ·intro p s hm;simp only[qE,qX]at hm;obtain⟨rfl,rfl⟩:=hm;exact⟨0,_,.slice none 0 0,by simp[jN],by rw[Ty.atP],rfl,rfl⟩
   ·exact vh
  ·unfold EH;split
   ·rename_i v hv;exact⟨_,jF,XK hR hv⟩
   ·exact vh
 rcases jx with h|h<;>(simp only[jK,h];exact key)
theorem yf2{o:Oper}{c x y:Operand}(jx:o.op = .pick c x y):ZL P κ M w σ a o (jK Γ o σ):=by
 simp only[jK,jx];split
 ·rename_i g hg;have e1:=bu hR hg;split
  ·rename_i v hv;refine⟨.bool v,?_,Ef⟩;simp only[execOp,jx,e1,asBool,qy,qD,qt];cases g with
   |true=>simp only[yp]at hv⊢;rw[bu hR hv]
   |false=>simp only[qA,zp]at hv⊢;rw[bu hR hv]
  ·exact vh
 ·exact vh
theorem y28{o:Oper}{x:Operand}(jx:o.op = .nilCheck x):ZL P κ M w σ a o (jK Γ o σ):=by
 simp only[jK,jx];split
 ·rename_i b p hv;have h:=XK hR hv;have h':=h;obtain⟨B,g,off,_,_,_,h4⟩:=h;exact⟨a.eval x,by simp only[execOp,jx,h4,qD],h'⟩
 ·rename_i t v own hv;have h:=Z9 hR hv;have h':=h;obtain⟨b,off,cells,h1,_⟩:jB P (.ptr t) M v [a.eval x]:=h;simp only[qM,zA]at h1;exact⟨a.eval x,by simp only[execOp,jx,h1,qD],HN h'⟩
 ·exact vh
theorem y6b{o:Oper}{x:Operand}{i:Nat}(jx:o.op = .extract x i):ZL P κ M w σ a o (jK Γ o σ):=by
 simp only[jK,jx];split
 ·rename_i ts v hv;obtain⟨vs,h1,h2⟩:=XK hR hv;unfold EH;split
  ·rename_i r hr;have key:∀(ts:List Ty) (x:vx ts) (l:List Value) (i:Nat) (r:AVal),Kh P M ts x l→Aa ts x i=some r→∃u,l[i]?=some u∧RelA P κ M w σ.box σ.tok r u:=by
    intro ts;induction ts with
    |nil=>intro x l i r _ h;simp[Aa]at h
    |cons t rest ih=>
     intro x l i r hl h;cases rest with
     |nil=>
      obtain⟨u,rfl,hu⟩:=hl;cases i with
      |zero=>simp only[Aa,qb]at h;subst h;exact⟨u,rfl,HN hu⟩
      |succ i=>simp[Aa]at h
     |cons t' rest=>
      obtain⟨u,rs,rfl,hu,Vf⟩:=hl;cases i with
      |zero=>simp only[Aa,qb]at h;subst h;exact⟨u,rfl,HN hu⟩
      |succ i=>simp only[Aa]at h;exact ih x.2 rs i r Vf h
   obtain⟨u,hu,Xo⟩:=key ts v vs.toList i r h2 hr;refine⟨u,?_,Xo⟩;simp only[zh]at hu;simp[execOp,jx,Instr.extract,h1,hu]
  ·exact vh
 ·exact vh
theorem yf1{o:Oper}{op:UnOp}{T:TypeId}{x:Operand}(jx:o.op = .unOp op T x):ZL P κ M w σ a o (jK Γ o σ):=by
 cases op<;>simp only[jK,jx]<;>try exact vh
 ·split
  ·rename_i k n own hv;have e:=YX.1 (Z9 hR hv);exact⟨_,by simp[execOp,jx,Op.unary,e,Op.intArith],Fx⟩
  ·exact vh
 ·split
  ·rename_i b hb;have e:=bu hR hb;exact⟨_,by simp[execOp,jx,Op.unary,e],Ef⟩
  ·exact vh
end jA
end Go.Lift
namespace Go.Lift
open Go Go.RowKit
variable [wB] [Mf]
variable {P:Program} {Γ:QW} {base:Nat} {κ:Nat→Option Nat} {M:Mem} {σ:St} {a:Act} {w:World}
theorem bN(ad:Addr):(Instr.sureAddr (.pointer (some ad))).run P w = .ok ad w:=rfl
theorem If(T:TypeId)(v:Value)(w:World):(newVar T v).run P w = .ok ⟨w.heap.size,0,none⟩ (w.alloc (.cells v.cells T)):=rfl
theorem gF{u:Ty}:∀(p:wm) (t:Ty) (x:t.den) (y:u.den),Qv t x p u=some y→t.atP p=some u
 |[],t,x,y,h=>by
  unfold Qv Z8 at h;split at h
  ·rename_i e;subst e;simp[Ty.atP]
  ·cases h
 |.one::p,t,x,y,h=>by
  cases t<;>simp only[Qv,reduceCtorEq]at h
  exact gF p _ x y h
 |.fst::p,t,x,y,h=>by
  cases t<;>simp only[Qv,reduceCtorEq]at h
  exact gF p _ x.1 y h
 |.snd::p,t,x,y,h=>by
  cases t<;>simp only[Qv,reduceCtorEq]at h
  exact gF p _ x.2 y h
 |.idx i::p,t,x,y,h=>by
  cases t<;>simp only[Qv,reduceCtorEq]at h
  exact gF p _ _ y h
 |.el i::p,t,x,y,h=>by
  cases t<;>simp only[Qv,reduceCtorEq]at h
  exact gF p _ _ y h
section jA
variable (hR:jW P base κ M σ a w) (hC:Qw P Γ)
include hR hC
theorem yf3{o:Oper}{T:TypeId}{x:Operand}(jx:o.op = .load T x):ZL P κ M w σ a o (jK Γ o σ):=by
 simp only[jK,jx];split
 ·rename_i u b p hu hx;split
  ·rename_i B hB;split
   ·rename_i v hv;obtain⟨B',g,off,h1,h2,h3,h4⟩:=XK hR hx;rw[hB]at h1;simp only[qb]at h1;subst h1;obtain⟨g',jT,E,h5,h6,h7,h8,_⟩:=(hR.bx b B hB).cells (TB h3);rw[h2]at h5;simp only[qb]at h5;subst h5;obtain⟨i,d,hi⟩:=Qx (hC.ty T u hu);obtain⟨r1,r2⟩:=Ut h7 h3 hv;have jF:=bL hi r1 (w:=w) (zql h6 off u.size);refine⟨_,by simp only[execOp,jx,h4,Instr.loadAt,qy,bN,qt,jF,qD],GQ r1,?_⟩;rw[show(KY u ((jT.toList.drop off).take u.size)).cells.toList=(jT.toList.drop off).take u.size from ?_]
    ·by_cases hs:EP p=true
     ·cases FO:B.rows with
      |false=>
       have ho:jN B.t p=some off:=by rw[FO]at h3;cases WT:B.t<;>simp_all [vo]
       obtain⟨u',ha⟩:=me p B.t off ho;have:u'=u:=by
        have:=gF p B.t B.x v hv;rw[ha]at this;simpa using this
       subst this;exact h8.under ho ha
      |true=>
       rw[FO]at h3;match p,hs,h3 with
       |[],_,h3=>cases WT:B.t<;>simp_all [vo]
       |.one::_,_,h3=>cases WT:B.t<;>simp_all [vo]
       |.fst::_,_,h3=>cases WT:B.t<;>simp_all [vo]
       |.snd::_,_,h3=>cases WT:B.t<;>simp_all [vo]
       |.idx _::_,hs,_=>simp[EP]at hs
       |.el _::_,hs,_=>simp[EP]at hs
     ·exact z93.nonstatic (by simpa using hs)
    ·exact zp6 r1
   ·exact vh
  ·exact vh
 ·rename_i u t v own hu hx;split
  ·rename_i v' ZC;obtain⟨rfl,rfl⟩:=HQ ZC;have wn:=Z9 hR hx;unfold jz Qd at wn;simp only[Ty.agg,qA,zp,jB]at wn;obtain⟨b,off,cells,he,hr,hm⟩:=wn;simp only[qM,zA]at he;obtain⟨i,d,hi⟩:=Qx (hC.ty T _ hu);have jF:=bL hi hr (w:=w) (uh hR.good hm);exact⟨_,by simp only[execOp,jx,he,Instr.loadAt,qy,bN,qt,jF,qD],HN (GQ hr)⟩
  ·exact vh
 ·exact vh
theorem yc2{o:Oper}{T:TypeId}{x y:Operand}(jx:o.op = .store T x y):ZL P κ M w σ a o (jK Γ o σ):=by
 simp only[jK,jx];split
 ·rename_i u b p u' v ow hu hx hy;split
  ·rename_i B v' hB ZC;split
   ·rename_i x' wn;obtain⟨rfl,rfl⟩:=HQ ZC;obtain⟨B',g,off,h1,h2,h3,h4⟩:=XK hR hx;rw[hB]at h1;simp only[qb]at h1;subst h1;obtain⟨g',jT,E,h5,h6,h7,h8,_⟩:=(hR.bx b B hB).cells (TB h3);rw[h2]at h5;simp only[qb]at h5;subst h5;obtain⟨i,d,hi⟩:=Qx (hC.ty T _ hu);have Hz:=y4c hR hy;have G5:=Hz.1;obtain⟨r1,r2,r3⟩:=y8l h7 h3 wn (HP G5);have jF:=zyv hi G5 (w:=w) h6 (by simpa using r2);have WR:=Qp _ M _ _ (HP G5);refine .inl ⟨B,g,jT,(vg jT.toList off (a.eval y).cells.toList).toArray,E,hB,h2,h6,by simp only[execOp,jx,h4,Instr.storeAt,qy,bN,qt,jF,qD],by simpa using r1,?_,rfl,⟨x',_,rfl,r3⟩,?_⟩
    ·cases FO:B.rows with
     |false=>
      have ho:jN B.t p=some off:=by rw[FO]at h3;cases WT:B.t<;>simp_all [vo]
      have:=h8.put Hz.2 ho (EM p B.t B.x x' _ wn) WR r2;simpa using this
     |true=>
      rw[FO]at h3;have ah:EP p=false:=by
       match p,h3 with
       |[],h3=>cases WT:B.t<;>simp_all [vo]
       |.one::_,h3=>cases WT:B.t<;>simp_all [vo]
       |.fst::_,h3=>cases WT:B.t<;>simp_all [vo]
       |.snd::_,h3=>cases WT:B.t<;>simp_all [vo]
       |.idx _::_,_=>rfl
       |.el _::_,_=>rfl
      simp only[lP,ah,qA,zp];exact WJ
    ·have:=vP (cs:=jT.toList) (ds:=(a.eval y).cells.toList) (off:=off) (by omega);simpa using this
   ·exact vh
  ·exact vh
 ·exact vh
omit hC in
theorem dp{o:Oper}{T:TypeId}{x:Operand}(jx:o.op = .box T x):ZL P κ M w σ a o (jK Γ o σ):=by
 simp only[jK,jx];split
 ·rename_i t u v ow ht hx;split
  ·rename_i v' ZC;obtain⟨rfl,rfl⟩:=HQ ZC;have Cp:=XK hR hx;refine .inl ⟨(a.eval x).cells,by simp[execOp,jx,Instr.box,If],?_,Cp.2,rfl⟩;have:=HP Cp.1;cases u<;>exact this
  ·exact vh
 ·exact vh
omit hR in
theorem yc8{o:Oper}{T:TypeId}(jx:o.op = .alloc T):ZL P κ M w σ a o (jK Γ o σ):=by
 simp only[jK,jx];split
 ·rename_i t ht;split
  ·rename_i hp;obtain⟨i,d,hi⟩:=Qx (hC.ty T t ht);obtain⟨z,hz,Z4,G3⟩:=hi.zero hp;refine .inl ⟨z.cells,?_,?_,G3 κ M w σ.tok,rfl⟩
   ·simp only[execOp,jx,Instr.alloc,zeroValue,typeInfo,program,qy,Sem.run,qt,hi.info,hz,qD,If]
   ·have:=Z4 M;cases t<;>exact this
  ·exact vh
 ·exact vh
end jA
end Go.Lift
namespace Go.Lift
open Go Go.RowKit
variable [wB] [Mf]
variable {P:Program} {Γ:QW} {base:Nat} {κ:Nat→Option Nat} {M:Mem} {σ:St} {a:Act} {w:World}
theorem zm2{u:Ty}{f:Field}(h:fits P u (.inl f.type)=true)(hu:0<u.size)(b off:Nat)(w:World):(fieldPlace ⟨b,off,none⟩ f).run P w = .ok ⟨b,off+f.offset,none⟩ w:=by
 obtain⟨i,d,hi⟩:=Qx h;unfold fieldPlace;simp only[qy,Kj hi,qt];rw[qT (by omega)];simp[Addr.add_mk]
theorem LF{t:Ty}{n i:Nat}{u:Ty}(hn:0<n)(h:t.atP (z12 n i)=some u):t = .unit∨(∃u,t = .one u)∨∃a b,t = .pair a b:=by
 match n,i,h with
 |1,i,h=>cases t<;>simp[z12,Ty.atP]at h;exact .inr (.inl ⟨_,rfl⟩)
 |n+2,0,h=>cases t<;>simp[z12,Ty.atP]at h;exact .inr (.inr ⟨_,_,rfl⟩)
 |2,i+1,h=>cases t<;>simp[z12,Ty.atP]at h;exact .inr (.inr ⟨_,_,rfl⟩)
 |n+3,i+1,h=>cases t<;>simp[z12,Ty.atP]at h;exact .inr (.inr ⟨_,_,rfl⟩)
theorem gU{u:Ty}{T:TypeId}(h:fits P u (.inl T)=true){M:Mem}{y:u.den}{cs:List Value}{off:Nat}(hr:jB P u M y ((cs.drop off).take u.size))(hl:off+u.size≤cs.length)(w:World):
  (part T cs.toArray off).run P w = .ok (KY u ((cs.drop off).take u.size)) w:=by
 obtain⟨i,d,hi⟩:=Qx h;unfold part;rw[qy,Lv hi];simp only[qt];unfold KY;by_cases ha:u.agg=true
 ·simp only[ha,yp,qy,Kj hi,qt,qD];congr 2
  apply yR;simp[yC]
 ·have h1:u.size=1:=by cases u<;>simp_all [Ty.agg,Ty.size]
  rw[h1]at hl hr⊢;simp only[ha,qA,zp];have hlt:off<cs.length:=by omega
  have e:(cs.drop off).take 1=[cs[off]]:=by
   rw[xr hlt];rfl
  rw[e];simp[qr hlt]
theorem gS{j:Int}{n:Nat}(h:(decide (0≤j)&&decide (j<(n:Int)))=true):(0≤j∧j<(n:Int))∧j.toNat<n:=by
 simp only[qg,qI]at h;omega
theorem iq(k:IntKind)(n:Int)(w:World):(asIntOf (.int k n)).run P w = .ok (k,n) w:=rfl
section
variable (hC:Qw P Γ)
include hC
theorem UH{s:TypeId}{t u:Ty}{f:Nat}(hs:Γ.ty s=some t)(hf:f<Γ.nf s)(ha:t.atP (z12 (Γ.nf s) f)=some u):
  ∃fs BY,P.underlying s=some (.struct fs)∧fs[f]?=some BY∧jN t (z12 (Γ.nf s) f)=some BY.offset∧fits P u (.inl BY.type)=true:=by
 have wF:=hC.ty s t hs;obtain⟨fs,Yh⟩:=AC wF (LF (by omega) ha);have hn:=hC.nf s t fs hs Yh;rw[hn]at hf ha⊢;obtain⟨u',g1,g2,g3⟩:=tI wF Yh (qZ hf);rw[ha]at g1;simp only[qb]at g1;subst g1;exact⟨fs,_,Yh,qZ hf,g2,g3⟩
end
section jA
variable (hR:jW P base κ M σ a w) (hC:Qw P Γ)
include hR hC
theorem zzm{o:Oper}{s:TypeId}{x:Operand}{f:Nat}(jx:o.op = .fieldAddr s x f):ZL P κ M w σ a o (jK Γ o σ):=by
 simp only[jK,jx];split
 ·rename_i hf;split
  ·rename_i t b p ht hx;split
   ·rename_i B u hB hu;split
    ·rename_i hc;obtain⟨Yt,Vj⟩:=hc;obtain⟨fs,BY,h1,h2,h3,h4⟩:=UH hC ht hf hu;obtain⟨B',g,off,g1,g2,g3,g4⟩:=XK hR hx;rw[hB]at g1;simp only[qb]at g1;subst g1;have jF:=zm2 h4 Vj g off w;refine⟨_,by simp only[execOp,jx,g4,Instr.fieldAt,qy,qG h1,bN,qt,h2,jF,qD],B,g,off+BY.offset,hB,g2,?_,rfl⟩;rw[IL g3 Yt,h3];rfl
    ·exact vh
   ·exact vh
  ·rename_i t t' v own ht hx;split
   ·rename_i v' u ZC hu;split
    ·rename_i hc;split
     ·rename_i y hy;obtain⟨rfl,rfl⟩:=HQ ZC;obtain⟨fs,BY,h1,h2,h3,h4⟩:=UH hC ht hf hu;have wn:=Z9 hR hx;unfold jz Qd at wn;simp only[Ty.agg,qA,zp,jB]at wn;obtain⟨b,off,cells,he,hr,hm⟩:=wn;simp only[qM,zA]at he;have jF:=zm2 h4 hc b off w;obtain⟨r1,r2⟩:=Am _ t' _ y _ cells hy h3 hr;refine⟨.pointer (some ⟨b,off+BY.offset,none⟩),by simp only[execOp,jx,he,Instr.fieldAt,qy,qG h1,bN,qt,h2,jF,qD],?_⟩;refine HN ?_;unfold jz Qd;simp only[Ty.agg,qA,zp,jB];refine⟨b,off+BY.offset,_,rfl,r1,fun j z hj =>?_⟩;rw[zb]at hj;split at hj
      ·rw[zd]at hj;have:=hm _ _ hj;rwa [←xA]at this
      ·cases hj
     ·exact vh
    ·exact vh
   ·exact vh
  ·exact vh
 ·exact vh
theorem yc5{o:Oper}{s:TypeId}{x:Operand}{f:Nat}(jx:o.op = .field s x f):ZL P κ M w σ a o (jK Γ o σ):=by
 simp only[jK,jx];split
 ·rename_i hf;split
  ·rename_i t t' v own ht hx;split
   ·rename_i v' u ZC hu;split
    ·rename_i y hy;obtain⟨rfl,rfl⟩:=HQ ZC;obtain⟨fs,BY,h1,h2,h3,h4⟩:=UH hC ht hf hu;have Cp:=XK hR hx;have O7:t'.agg=true:=by
      rcases LF (by omega) hu with rfl|⟨_,rfl⟩|⟨_,_,rfl⟩<;>rfl
     have oP:=Cp.1;unfold jz Qd at oP;rw[qH O7]at oP;obtain⟨cs,he,hr⟩:=oP;obtain⟨r1,r2⟩:=Am _ t' _ y _ cs.toList hy h3 hr;have jF:=gU h4 r1 r2 w;simp only[yl]at jF;refine⟨_,by simp only[execOp,jx,he,Instr.field,qy,qG h1,qt,h2,asAgg,qD,jF],GQ r1,?_⟩;rw[zp6 r1];have:=Cp.2;rw[he]at this;exact this.under h3 hu
    ·exact vh
   ·exact vh
  ·exact vh
 ·exact vh
theorem zzl{o:Oper}{T:TypeId}{x i:Operand}(jx:o.op = .indexAddr T x i):ZL P κ M w σ a o (jK Γ o σ):=by
 simp only[jK,jx];split
 ·exact vh
 ·rename_i j hj;have hi:=YX.1 (GH hR hj);split
  ·rename_i e' e l own ht hx;split
   ·rename_i he;subst he;intro JL;obtain⟨hc,Fh⟩:=gS JL;obtain⟨E,hE,ZG⟩:=Fy (hC.ty T _ ht);obtain⟨iE,dE,Q5⟩:=Qx ZG;have wn:=Z9 hR hx;unfold jz Qd at wn;simp only[Ty.agg,qA,zp,jB]at wn;obtain⟨v,hv,wn⟩:=wn;simp only[qM,zA]at hv;rcases wn with⟨_,hl⟩|⟨b,off,cap,cells,hb,ZS,jH,hm,Xb⟩|⟨_,_,_,hl⟩
    ·subst hl;exact absurd Fh (zW _)
    ·refine⟨.pointer (some ⟨b,off+j.toNat*e'.size,none⟩),?_,?_⟩
     ·simp only[execOp,jx,hi,hv,hb,Instr.indexAt,qy,iq,qG hE,qt,qD,Kj Q5,qH hc,Addr.add_mk,kg]
     ·refine HN ?_;unfold jz Qd;simp only[Ty.agg,qA,zp,jB,jt,qC,qr Fh,qO];refine⟨b,_,_,rfl,Xb j.toNat Fh,fun q z hq =>?_⟩;rw[zb]at hq;split at hq
      ·rw[zd]at hq;have:=hm _ _ hq;rwa [←xA]at this
      ·cases hq
    ·subst hl;exact absurd Fh (zW _)
   ·exact vh
  ·rename_i n e b p ht hx;split
   ·rename_i B hB;split
    ·rename_i ZT
     intro JL;obtain⟨hc,Fh⟩:=gS JL;obtain⟨E,hE,ZG⟩:=Aj (hC.ty T _ ht);obtain⟨iE,dE,Q5⟩:=Qx ZG;obtain⟨B',g,off,g1,g2,g3,g4⟩:=XK hR hx;rw[hB]at g1;simp only[qb]at g1;subst g1;refine⟨.pointer (some ⟨g,off+j.toNat*e.size,none⟩),?_,B,g,off+j.toNat*e.size,hB,g2,?_,rfl⟩
     ·simp[execOp,jx,hi,g4,Instr.indexAt,iq,qG hE,bN,Kj Q5,hc,Addr.add_mk]
     ·rw[IL g3 ZT];simp only[jN,qH hc,zK,yK]
    ·exact vh
   ·exact vh
  ·rename_i n' e' n e v own ht hx;split
   ·rename_i he;obtain⟨rfl,rfl⟩:=he;intro JL;obtain⟨hc,Fh⟩:=gS JL;obtain⟨E,hE,ZG⟩:=Aj (hC.ty T _ ht);obtain⟨iE,dE,Q5⟩:=Qx ZG;have wn:=Z9 hR hx;unfold jz Qd at wn;simp only[Ty.agg,qA,zp,jB]at wn;obtain⟨b,off,cells,hb,⟨jH,Xb⟩,hm⟩:=wn;simp only[qM,zA]at hb;refine⟨.pointer (some ⟨b,off+j.toNat*e'.size,none⟩),?_,?_⟩
    ·simp[execOp,jx,hi,hb,Instr.indexAt,iq,qG hE,bN,Kj Q5,hc,Addr.add_mk]
    ·refine HN ?_;unfold jz Qd;simp only[Ty.agg,qA,zp,jB,Gw];refine⟨b,_,_,rfl,Xb j.toNat Fh,fun q z hq =>?_⟩;rw[zb]at hq;split at hq
     ·rw[zd]at hq;have:=hm _ _ hq;rwa [←xA]at this
     ·cases hq
   ·exact vh
  ·rename_i e' b ht hx;split
   ·rename_i tid e l own hB;split
    ·rename_i he;subst he;intro JL;obtain⟨hc,Fh⟩:=gS JL;obtain⟨E,hE,ZG⟩:=Fy (hC.ty T _ ht);obtain⟨iE,dE,Q5⟩:=Qx ZG;obtain⟨FF,e2,l2,oD,g,cap,g1,g2,g0,g3⟩:=XK hR hx;rw[hB]at g1;simp only[qb,Box.mk.injEq,Ty.slice.injEq]at g1;obtain⟨_,rfl,hl,_,_⟩:=g1;have hl:=eq_of_heq hl;subst hl;refine⟨.pointer (some ⟨g,j.toNat*e'.size,none⟩),?_,_,g,j.toNat*e'.size,hB,g2,?_,rfl⟩
     ·simp[execOp,jx,hi,g3,Instr.indexAt,iq,qG hE,Kj Q5,hc,Addr.add_mk]
     ·simp only[vo,qH hc,jN,zK,yK]
    ·exact vh
   ·exact vh
  ·exact vh
theorem yc4{o:Oper}{T:TypeId}{x i:Operand}(jx:o.op = .index T x i):ZL P κ M w σ a o (jK Γ o σ):=by
 simp only[jK,jx];split
 ·rename_i n' e' n e v own j ht hx hj;obtain⟨ki,hi⟩:=y9t hR hj;split
  ·rename_i he;obtain⟨rfl,rfl⟩:=he;intro JL;obtain⟨hc,Fh⟩:=gS JL;obtain⟨E,hE,ZG⟩:=Aj (hC.ty T _ ht);obtain⟨iE,dE,Q5⟩:=Qx ZG;have wn:=Z9 hR hx;unfold jz Qd at wn;simp only[Ty.agg,yp,jB]at wn;obtain⟨cs,Kt,jH,Xb⟩:=wn;have jL:(j.toNat+1)*e'.size≤n'*e'.size:=q9 _ Fh;simp only[zC,zZ]at jL;have r1:=Xb j.toNat Fh;have jF:=gU ZG r1 (by omega) w;simp only[yl]at jF;refine⟨_,?_,HN (GQ r1)⟩;simp[execOp,jx,hi,Kt,Instr.index,iq,qG hE,Kj Q5,hc,jF]
  ·exact vh
 ·rename_i s own j ht hx hj;obtain⟨ki,hi⟩:=y9t hR hj;intro JL;obtain⟨hc,Fh⟩:=gS JL;have hu:=Ak (hC.ty T _ ht);have hs:=Xj.1 (Z9 hR hx);have hge:s[j.toNat]?=some s[j.toNat]:=by simp[getElem?_pos,Fh]
  refine⟨.int .u8 ((s[j.toNat]).toNat:Int),?_,?_⟩
  ·simp[execOp,jx,hi,hs,Instr.index,iq,qG hu,hc.1,hge]
  ·have:Xk s j=((s[j.toNat]).toNat:Int):=by
    unfold Xk;have:s.data.getD j.toNat 0=s[j.toNat]:=by
     have Ow:j.toNat<s.data.size:=Fh;simp only[Array.getD,dif_pos Ow];rfl
    rw[this]
   rw[←this];exact Fx
 ·exact vh
end jA
end Go.Lift
