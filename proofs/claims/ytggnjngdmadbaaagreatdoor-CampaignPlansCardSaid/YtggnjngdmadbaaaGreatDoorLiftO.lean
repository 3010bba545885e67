/-
  Package variables of one cell, from the world's shape and from what a row lists.
-/
import Derived.Test.YtggnjngdmadbaaaGreatDoorLiftL
import Derived.Stop.LaidErr
set_option linter.all false
namespace Go.Lift
open Go Go.RowKit Go.ChangeShapes
theorem yeg{P:Program}{w:World}{g:Nat}{t:TypeId}{zero:Array Value}(h:w.ShapedOpen P)(hg:g<P.globals.size)
  (h0:((begin P (fun _ _=>0) default).world.heap[g]?).bind Obj.row?=some (zero,t)) (hz:zero.size=1)
  (hb:P.buildable t=true) (hc:P.cellTypes P.depth t=some [t]) (hu:P.underlying t=some (.int .i64)):y7h g false (Qt w):=by
 obtain⟨cs,hh,hs,hr⟩:=h.1 g zero t hg h0;obtain⟨ts,Dk,_,ZU⟩:=hr hb;obtain rfl:=zQ (hc.symm.trans Dk);have h1:0<cs.size:=by omega
 obtain⟨u,Cs,jP⟩:=ZU 0 cs[0] (by simp[h1]);obtain rfl:t=u:=by simpa using Cs
 have Qr:w.cell? ⟨g,0,none⟩=some cs[0]:=by simp[World.cell?,hh,h1]
 unfold Cell.ok at jP;rw[hu]at jP;refine⟨cs[0],Qr,?_⟩;cases hv:cs[0]with
 |int k n=>
  rw[hv]at jP;exact⟨n,by rw[jP.1]⟩
 |_=>rw[hv]at jP;exact jP.elim
def ye1(P:Program)(t:TypeId):Bool:=match P.underlying t with
 |some (.interface _)=>true
 |_=>false
def oF(P:Program)(t ts:TypeId):Bool:=match P.underlying t with
 |some (.struct fs)=>match fs.toList with
  |[f]=>f.type==ts&&f.offset==0
  |_=>false
 |_=>false
theorem y7t{P:Program}{n nm:String}{Ng:List UInt8}{r:List (String×DataW Unit)}{W:World}{g:Nat}{ti tp te ts:TypeId}
  (h:laidMet P ((n,.iface nm (.ptr (.agg [.lit (.string Ng)])))::r) W)
  (hg:P.globalNamed n=some g) (ht:(P.globals[g]?).map (·.type)=some ti) (hi:ye1 P ti=true) (vX:∀u,P.typeName? 3 u=some nm→u=tp)
  (hp:P.underlying tp=some (.pointer te)) (he:oF P te ts=true) (hs:P.underlying ts=some .string) (hc:P.cellsOf te=1) (Kt:P.cellsOf ts=1):y7h g true (Qt W):=by
 unfold ye1 at hi;split at hi
 ·rename_i ms Xq;unfold oF at he;split at he
  ·rename_i fs FU;split at he
   ·rename_i f hf;rw[qg,yo,yo]at he;have Yh:fs=#[f]:=by cases fs;simp at hf;rw[hf]
    rw[Yh]at FU;obtain⟨a,s,hv,_⟩:=laid_sentinel h hg ht Xq vX hp FU he.1 he.2 hs hc Kt;refine⟨.iface tp (.pointer (some a)),?_,Or.inr ⟨_,_,rfl⟩⟩;exact World.var?_cell hg hv 0
   ·cases he
  ·cases he
 ·cases hi
theorem zuu{H:Type}{enc:TypeId×Value→H}{a:Assume}{C:Checked}{os:Os}{f:FuncId}{fn:Func}{s:ChangeSpec}{aO:List PathCond}{apart fresh Fo aU:Bool}{X:World→Array Value→Prop}
  (hX:∀(w w':World) (args:Array Value),w.heap=w'.heap→X w args→X w' args)
  (own:ownKnob C.prog.godebug=none) (Y0:os.Started) (dx:C.prog.inits.idxOf? f=none) (Fl:C.prog.funcs[f]?=some fn)
  (Bg:∃(w:World) (tape:Tape) (i:Input),w.os=os∧(w.forCall tape i).Shaped C.prog∧i.vars=[]∧Input.okWide C.prog (w.forCall tape i) .any w.heap.size f i∧
   ((s.pre enc C.prog fn aO apart (w.forCall tape i).memory i.args∧X (w.forCall tape i).memory i.args)∧sizedMet enc C.prog fn (OpenSpec.ofChange s) apart (w.forCall tape i).memory i.args)∧a.holds C.prog (lone (Frame.enter C.prog f i.args .normal) [] (w.forCall tape i)))
  (DW:∀(W:World) (base:Nat) (args:Array Value) (ds gs:List (DataW H)) (Xw:List MemPlace),W.ShapedOpen C.prog→
   (∀(j:Nat) t v,fn.params[j]?=some t→args[j]?=some v→Value.okWide C.prog W .any base t v)→
   DataW.Whole enc C.prog fn.params.toList s.vars apart W args.toList ds gs Xw→X W args→
   Calls C.prog f args W fun e W'=>∃v,e = .returned v∧s.post enc C.prog fn apart fresh Fo aU W args v W'):
  ReturnsInHanded a C os f .any (fun w args=>(s.pre enc C.prog fn aO apart w args∧X w args)∧sizedMet enc C.prog fn (OpenSpec.ofChange s) apart w args) (s.post enc C.prog fn apart fresh Fo aU):=by
 refine returnsInHanded_of_calls own Y0 dx Bg ?_;intro w tape i _ NO _ jP vc _;obtain⟨_,_,_,g,hg,_,_,_,_,Kq⟩:=jP;obtain rfl:g=fn:=zQ (hg.symm.trans Fl);obtain⟨⟨⟨ds,gs,Xw,hw,_⟩,hx⟩,_⟩:=vc;refine(DW (w.forCall tape i) w.heap.size i.args ds gs Xw NO Kq (DataW.Whole.of_heap (w':=w.forCall tape i) (by rfl) hw) (hX _ _ _ (by rfl) hx)).mono fun e W' he =>?_
 obtain⟨v,rfl,hp⟩:=he;exact ChangeSpec.post_blind hp
end Go.Lift
