/-
  The walk of ParseSlab, and its contract; the contract of Join.
-/
import Derived.Test.YtggnjngdmadbaaaGreatDoorSlF
import Derived.Test.YtggnjngdmadbaaaGreatDoorFunH
import Derived.Test.YtggnjngdmadbaaaGreatDoorManI
import Derived.Test.YtggnjngdmadbaaaGreatDoorManA
set_option linter.unusedSectionVars false
set_option linter.unusedVariables false
set_option linter.unusedSimpArgs false
namespace Go.Lift
open Go Go.Proofs Go.RowKit
theorem yk1 {P : Program} {F : Fence} (hF : Open F) {n c : Nat} {ops : Array Oper} {o : Oper} {a : Act} {w w' : World} {v : Value} (ho : ops[c]? = some o) (hw : Region.wanted o (yielded ops a.tmps) = true) (hno : ∀ c', o.op ≠ .defer c')
  {Q : Exit → Act → World → Prop} {K : Act → World → Prop} (hrun : (execOp a.eval o).run P w = .ok (.value v) w') (hK : K (a.put o.dst v) w') : wpOpIn F n P ops Q c K a w := by
 refine zk2 ho ?_
 rw [hw, if_pos rfl]
 refine ⟨fun f _ => hF.fn f, ?_⟩
 rw [Oper.semAt_eq _ _ _ (fun c' hc => absurd hc (hno c'))]
 rw [hrun, Oper.uponIn_value]
 exact hK
abbrev NI2 : Ty := .int .i64
noncomputable def c61 : Code := Tryz.f61.body.getD .skip
noncomputable abbrev q61 (n : Nat) : Code := Nat.rec c61 (fun _ c => Code.snd c) n
abbrev TSl : Ty := z0o
abbrev TWs : Ty := .slice .str
def yjn (b2 b4 : Nat) : zzo := ⟨23, TSl, b2, 23, TSl, b4⟩
abbrev bs61 (x y : z09) : List (Nat × Box) := [(100, ⟨23, TSl, x, [], false⟩), (101, ⟨23, TSl, y, [], false⟩)]
noncomputable abbrev cxS : Ctx := cx [] [z61, zbc, z8k]
abbrev yk0 (k : Nat) : Path := z14 5 (k + 1)
abbrev a61 (s : ByteArray) (e : Int) : z4b := [(0, .data .str s []), (2, .bptr 100 []), (3, .data NI2 e []), (4, .bptr 101 [])]
abbrev w61 (ws : List ByteArray) (e : Int) (p5 : Value) : z4b := [(2, .bptr 100 []), (3, .data NI2 e []), (4, .bptr 101 []), (5, .raw p5), (6, .data TWs ws [])]
abbrev l61 (ws : List ByteArray) (e : Int) (ps : Value) (i : Int) : z4b := [(2, .bptr 100 []), (3, .data NI2 e []), (4, .bptr 101 []), (6, .data TWs ws []), (33, .raw ps), (34, .data NI2 i [])]
noncomputable abbrev ymi : Code := Code.fst c61
noncomputable abbrev ylz : Code := Code.fst (q61 1)
noncomputable abbrev ylf : Code := Code.fst (q61 2)
noncomputable abbrev ynz : Code := Code.fst (q61 3)
noncomputable abbrev d4_61 : Code := Code.fst (q61 4)
noncomputable abbrev r6_61 : Code := Code.fst (q61 5)
noncomputable abbrev ymh : Code := Code.fst (Code.fst (q61 6))
noncomputable def ykr : Code := Code.fst (Code.fst (Code.snd (Code.fst (q61 6))))
noncomputable abbrev ym6 : Code := Code.snd (q61 6)
noncomputable abbrev r8_61 : Code := Code.fst ykr
noncomputable def yld : Code := Code.fst (Code.fst (Code.snd (Code.snd ykr)))
noncomputable abbrev ymp : Code := Code.snd (Code.snd (Code.snd ykr))
noncomputable abbrev ymg : Code := Code.fst yld
noncomputable abbrev ymq : Code := Code.fst (Code.snd yld)
noncomputable abbrev yn5 : Code := Code.fst (Code.snd (Code.snd yld))
noncomputable abbrev yl2 : Code := Code.snd (Code.snd (Code.snd yld))
def yjd : Code → Array Oper
 | .region _ ops _ => ops
 | _ => #[]
noncomputable def rts61 : List Ty := [TSl, NI2]
section
variable (s w0 : ByteArray) (ws : List ByteArray) (x y : z09) (e i j v : Int) (p5 ps : Value) (ok : Bool)
theorem e2_61 : z2u (cx [] []) (yjd ylf).toList (List.range' 0 4) (stB (a61 s e) (bs61 x y)) [] (zil [0, 2, 3, 4, 12, 13, 14, 15] []) = some (a61 s e ++ [(12, .bptr 101 (yk0 0)), (13, .bptr 101 (yk0 1)), (14, .bptr 101 (yk0 2)), (15, .bptr 101 (yk0 3))], bs61 x y) := by kernel_rfl
theorem e3_61 : z1w cxS ynz .nil (stB ((5, .raw p5) :: a61 s e) (bs61 x y)) (zs8 [2, 3, 4, 5, 6] []) = (strings_Split s (bytes [32])).bind fun ws => some (.normal, w61 ws e p5, bs61 x y) := by kernel_rfl
theorem e4_61 : z1w cxS d4_61 (.seq .nil (.cond (.seq .nil .nil) .nil)) (stB (w61 ws e p5) (bs61 x y)) (zs8 [2, 3, 4, 5, 6] []) = (bif ((ws.length : Int) != 5) then some true else chk (decide ((0 : Int) ≤ 0) && decide ((0 : Int) < (ws.length : Int))) (some (seqb (lget ByteArray.empty ws 0) ByteArray.empty))).bind fun c => bif c then some (.ret, w61 ws 7 p5, bs61 yj6 y) else some (.normal, w61 ws e p5, bs61 x y) := by kernel_rfl
theorem e6_61 : z1w cxS r6_61 .nil (stB (w61 ws e p5) (bs61 x y)) (zs8 [2, 3, 4, 5, 6] []) = chk (decide ((0 : Int) ≤ 0) && decide ((0 : Int) < (ws.length : Int))) (some (.normal, w61 ws e p5, bs61 x (lget ByteArray.empty ws 0, y.2))) := by kernel_rfl
theorem e8_61 : z1w cxS r8_61 .nil (stB (l61 ws e ps i) (bs61 x y)) (zs8 [2, 3, 4, 6, 33, 34, 35] []) = some (.normal, l61 ws e ps i ++ [(35, .data .bool (decide (i < 4)) [])], bs61 x y) := by kernel_rfl
theorem e10_61 : z1w cxS ymq .nil (stB (l61 ws e ps i ++ [(7, .data NI2 j []), (8, .raw p5)]) (bs61 x y)) (zs8 [2, 3, 4, 6, 33, 34, 8, 9, 10] []) = chk (decide ((0 : Int) ≤ wi64 (j + 1)) && decide (wi64 (j + 1) < (ws.length : Int))) ((z6x (lget ByteArray.empty ws (wi64 (j + 1)))).bind fun r => some (.normal, l61 ws e ps i ++ [(8, .raw p5), (9, .data NI2 r.1 []), (10, .data .bool r.2 [])], bs61 x y)) := by kernel_rfl
theorem e11_61 : z1w cxS yn5 (.seq .nil (.cond (.seq .nil .nil) .nil)) (stB (l61 ws e ps i ++ [(8, .raw p5), (9, .data NI2 v []), (10, .data .bool ok [])]) (bs61 x y)) (zs8 [2, 3, 4, 6, 33, 34, 8, 9] []) = bif !ok then some (.ret, [(2, .bptr 100 []), (3, .data NI2 7 []), (4, .bptr 101 []), (6, .data TWs ws []), (33, .raw ps), (34, .data NI2 i []), (8, .raw p5), (9, .data NI2 v [])], bs61 yj6 y) else some (.normal, l61 ws e ps i ++ [(8, .raw p5), (9, .data NI2 v [])], bs61 x y) := by kernel_rfl
theorem ynj : z1w cxS yl2 .nil (stB (l61 ws e ps i ++ [(8, .bptr 101 (yk0 0)), (9, .data NI2 v [])]) (bs61 x y)) (zs8 [2, 3, 4, 6, 33, 34] []) = some (.normal, l61 ws e ps i, bs61 x (yjt 0 v y)) := by kernel_rfl
theorem yni : z1w cxS yl2 .nil (stB (l61 ws e ps i ++ [(8, .bptr 101 (yk0 1)), (9, .data NI2 v [])]) (bs61 x y)) (zs8 [2, 3, 4, 6, 33, 34] []) = some (.normal, l61 ws e ps i, bs61 x (yjt 1 v y)) := by kernel_rfl
theorem ynh : z1w cxS yl2 .nil (stB (l61 ws e ps i ++ [(8, .bptr 101 (yk0 2)), (9, .data NI2 v [])]) (bs61 x y)) (zs8 [2, 3, 4, 6, 33, 34] []) = some (.normal, l61 ws e ps i, bs61 x (yjt 2 v y)) := by kernel_rfl
theorem yng : z1w cxS yl2 .nil (stB (l61 ws e ps i ++ [(8, .bptr 101 (yk0 3)), (9, .data NI2 v [])]) (bs61 x y)) (zs8 [2, 3, 4, 6, 33, 34] []) = some (.normal, l61 ws e ps i, bs61 x (yjt 3 v y)) := by kernel_rfl
theorem e13_61 {k : Nat} (hk : k < 4) : z1w cxS yl2 .nil (stB (l61 ws e ps i ++ [(8, .bptr 101 (yk0 k)), (9, .data NI2 v [])]) (bs61 x y)) (zs8 [2, 3, 4, 6, 33, 34] []) = some (.normal, l61 ws e ps i, bs61 x (yjt k v y)) := by
 rcases (by omega : k = 0 ∨ k = 1 ∨ k = 2 ∨ k = 3) with rfl | rfl | rfl | rfl
 ·exact ynj ws x y e i v ps
 ·exact yni ws x y e i v ps
 ·exact ynh ws x y e i v ps
 ·exact yng ws x y e i v ps
theorem e14_61 : z1w cxS ymp .nil (stB (l61 ws e ps i) (bs61 x y)) (zs8 [2, 3, 4, 6, 33, 34] []) = some (.normal, l61 ws e ps (wi64 (i + 1)), bs61 x y) := by kernel_rfl
theorem e15_61 : z1w cxS ym6 (.seq (.seq .nil (.seq .nil (.cond (.seq .nil .nil) .nil))) (.seq .nil .nil)) (stB (l61 ws e ps i) (bs61 x y)) (zs8 [2, 3, 4] []) = (z36 y).bind fun c => bif c != 0 then some (.ret, [(2, .bptr 100 []), (3, .data NI2 c []), (4, .bptr 101 [])], bs61 yj6 y) else some (.ret, [(2, .bptr 100 []), (3, .data NI2 0 []), (4, .bptr 101 [])], bs61 y y) := by kernel_rfl
end
theorem yo2 : c61 = .seq ymi (.seq ylz (.seq ylf (.seq ynz (.seq d4_61 (.seq r6_61 (.seq (.seq ymh (.block 0 (.loop ykr))) ym6)))))) := by kernel_rfl
theorem yn2 : ykr = .seq r8_61 (.seq (.cond (.tmp 35) .skip (.exit 0)) (.seq (.block 1 (.seq ymg (.seq ymq (.seq yn5 yl2)))) ymp)) := by kernel_rfl
end Go.Lift
namespace Go.Lift
open Go Go.Proofs Go.RowKit
noncomputable def yku (k : Nat) : Oper := (yjd ylf).getD k default
theorem ynp : (yku 4).op = .build 179 #[(0, .tmp 12), (1, .tmp 13), (2, .tmp 14), (3, .tmp 15)] := by kernel_rfl
theorem yno : (yku 5).op = .alloc 179 := by kernel_rfl
theorem ynn : (yku 6).op = .store 179 (.tmp 5) (.tmp 16) := by kernel_rfl
theorem run4 (ρ : Operand → Value) (w : World) {p0 p1 p2 p3 : Option Addr} (h0 : ρ (.tmp 12) = .pointer p0) (h1 : ρ (.tmp 13) = .pointer p1) (h2 : ρ (.tmp 14) = .pointer p2) (h3 : ρ (.tmp 15) = .pointer p3) : (execOp ρ (yku 4)).run Tryz.prog w = .ok (.value (.agg #[.pointer p0, .pointer p1, .pointer p2, .pointer p3])) w := by
 simp [execOp, ynp, Instr.build, Sem.run_bind, Sem.run_pure, Result.andThen_ok, run_underlying Tryz.underlying179, Tryz.zeroValue179, h0, h1, h2, h3]
 rfl
theorem run5 (ρ : Operand → Value) (w : World) : (execOp ρ (yku 5)).run Tryz.prog w = .ok (.value (.pointer (some ⟨w.heap.size, 0, none⟩))) (w.alloc (.cells #[.pointer none, .pointer none, .pointer none, .pointer none] 179)) := by
 simp [execOp, yno, Instr.alloc, Sem.run_bind, Result.andThen_ok, Tryz.zeroValue179, zww]
 rfl
theorem run6 (ρ : Operand → Value) (w : World) {g : Nat} {vs : Array Value} {cur : Array Value} {E : TypeId} (h0 : ρ (.tmp 5) = .pointer (some ⟨g, 0, none⟩)) (h1 : ρ (.tmp 16) = .agg vs) (hg : w.heap[g]? = some (.cells cur E (0, 0))) (hs : vs.size = 4) (hc : cur.size = 4) (hone : ∀ v ∈ vs.toList, v.oneCell' = true) :
  (execOp ρ (yku 6)).run Tryz.prog w = .ok .skip (w.setRow g vs) := by
 have hst := run_storeCells_at Tryz.prog g 0 E vs.toList 0 cur w hg (by simp; omega) hone
 have e : (cur.toList.take (0 + 0) ++ vs.toList ++ cur.toList.drop (0 + 0 + vs.toList.length)).toArray = vs := by
  rw [List.drop_of_length_le (by simp; omega)]
  simp
 rw [e] at hst
 simp [execOp, ynn, Instr.storeAt, Instr.sureAddr, storeVar, Sem.run_bind, Sem.run_pure, Result.andThen_ok, Tryz.sizeOf179, h0, h1]
 rw [show (Value.agg vs).cells = vs from rfl, if_pos hs, hst]
 rfl
noncomputable def ym0 (k : Nat) : Oper := (yjd ymh).getD k default
noncomputable def ykk (k : Nat) : Oper := (yjd ymg).getD k default
theorem ymw : (ym0 0).op = .load 179 (.tmp 5) := by kernel_rfl
theorem ymt : (ykk 1).op = .index 179 (.tmp 33) (.tmp 34) := by kernel_rfl
theorem run7 (ρ : Operand → Value) (w : World) {g : Nat} {vs : Array Value} (h0 : ρ (.tmp 5) = .pointer (some ⟨g, 0, none⟩)) (hs : vs.size = 4) (hc : ∀ j v, vs.toList[j]? = some v → w.cell? ⟨g, j, none⟩ = some v) : (execOp ρ (ym0 0)).run Tryz.prog w = .ok (.value (.agg vs)) w := by
 have hl := run_loadCells_list (P := Tryz.prog) w ⟨g, 0, none⟩ vs.toList (fun j v hj => by rw [Addr.add_mk, Nat.zero_add]; exact hc j v hj)
 simp [execOp, ymw, Instr.loadAt, Instr.sureAddr, loadVar, Sem.run_bind, Sem.run_pure, Result.andThen_ok, Tryz.isAgg179, Tryz.sizeOf179, h0]
 rw [show vs.toList.length = 4 by simpa using hs] at hl
 rw [hl]
 simp [Sem.run_pure, Result.andThen_ok]
theorem run9 (ρ : Operand → Value) (w : World) {vs : Array Value} {i : Nat} {v : Value} (h0 : ρ (.tmp 33) = .agg vs) (h1 : ρ (.tmp 34) = .int .i64 i) (hs : vs.size = 4) (hi : vs[i]? = some v) : (execOp ρ (ykk 1)).run Tryz.prog w = .ok (.value v) w := by
 have hi4 : i < 4 := by rw [← hs]; exact (Array.getElem?_eq_some_iff.1 hi).1
 simp [execOp, ymt, asIntOf, part, Tryz.sizeOf178, Tryz.isAgg178, Sem.run_pure, hi4, Sem.run_bind, Result.andThen_ok, h0, h1, Instr.index, run_underlying Tryz.underlying179]
 rw [hi]
 rfl
theorem cokS : COk Tryz.prog cxS := zpv z0s z0t z0u (all_cons z6q (all_cons (zr3 z5e z5f) (all_cons zei all_nil)))
theorem yny : ymi = .region 0 (yjd ymi) false := by kernel_rfl
theorem ynx : ylz = .region 1 (yjd ylz) false := by kernel_rfl
theorem ynw : ylf = .region 2 (yjd ylf) false := by kernel_rfl
theorem ynv : ymh = .region 7 (yjd ymh) false := by kernel_rfl
theorem ynu : ymg = .region 9 (yjd ymg) false := by kernel_rfl
theorem sz0_61 : (yjd ymi).size = 2 := by kernel_rfl
theorem sz1_61 : (yjd ylz).size = 1 := by kernel_rfl
theorem ymm : (yjd ylf).size = 7 := by kernel_rfl
theorem sz7_61 : (yjd ymh).size = 2 := by kernel_rfl
theorem sz9_61 : (yjd ymg).size = 4 := by kernel_rfl
noncomputable def ym1 (k : Nat) : Oper := (yjd ymi).getD k default
noncomputable def ynd (k : Nat) : Oper := (yjd ylz).getD k default
theorem ymz : (ym1 0).op = .alloc 23 := by kernel_rfl
theorem ymy : (ym1 1).op = .assign (.const (.int .i64 0)) := by kernel_rfl
theorem ymx : (ynd 0).op = .alloc 23 := by kernel_rfl
theorem ymv : (ym0 1).op = .move (.const (.int .i64 0)) := by kernel_rfl
theorem ymu : (ykk 0).op = .move (.tmp 34) := by kernel_rfl
theorem yms : (ykk 2).op = .assign (.tmp 36) := by kernel_rfl
theorem ymr : (ykk 3).op = .assign (.tmp 37) := by kernel_rfl
theorem ylr (o : Oper) (x : Operand) (h : o.op = .move x ∨ o.op = .assign x) (a : Act) (W : World) (hx : ∀ g, x ≠ .global g) : (execOp a.eval o).run Tryz.prog W = .ok (.value (a.eval x)) W := by
 rcases h with h | h <;> simp [execOp, h]
theorem ymo (o : Oper) (h : o.op = .alloc 23) {M : Mem} {l : z4b} {a : Act} {w : World} (hT : Thin Tryz.prog M l a w) : ∃ cells : Array Value, (execOp a.eval o).run Tryz.prog w = .ok (.value (.pointer (some ⟨w.heap.size, 0, none⟩))) (w.alloc (.cells cells 23)) ∧ relC Tryz.prog TSl M yj6 cells.toList := by
 have hfx : z8y Tryz.prog (fun _ => none) M w (stOf l) a o (eff (cx [] []) o (stOf l)) := yc2 z16 h
 have he : eff (cx [] []) o (stOf l) = .alloc ⟨23, TSl, yj6, zac TSl, false⟩ := by
  unfold eff
  rw [h]
  kernel_rfl
 rw [he] at hfx
 rcases hfx with ⟨cells, h1, h2, _, _⟩ | ⟨tid, k, v, h1, _⟩
 ·exact ⟨cells, h1, h2⟩
 ·cases h1
theorem fin61 {b2 b4 : Nat} {M0 : Mem} {w0 : World} {M : Mem} {a : Act} {w : World} {x y : z09} {e : Int} (hT : Two Tryz.prog (yjn b2 b4) M [(2, .bptr 100 []), (3, .data NI2 e [])] x y a w) (hF : Fra [b2, b4] M0 w0 M w) (hb2 : w0.heap.size ≤ b2) (hb4 : w0.heap.size ≤ b4) (hd : a.defers = []) :
  bodyPost Tryz.prog Tryz.f61 (fun e' w' => ∃ M' v, e' = .returned v ∧ relR Tryz.prog M' yj5.rts (x, e) v ∧ Good M' w' ∧ Grow M0 w0 M' w') .ret a w := by
 have hR := y81 hT
 have hres : results cxS (stB [(2, .bptr 100 []), (3, .data NI2 e [])] (bs61 x y)) rts61 Tryz.f61.results.toList = some (x, e) := by kernel_rfl
 obtain ⟨v, h4, h5⟩ := y8m cokS hR hres
 refine bodyPost_ret h4 hd ⟨M, v, rfl, h5, hT.good, yn4 hF (fun g hg => ?_) (Nat.le_refl _), fun b hb => ?_⟩
 ·simp only [List.mem_cons, List.not_mem_nil, or_false] at hg
  rcases hg with rfl | rfl <;> assumption
 ·funext o
  have := hF.mem b hb (by simp only [List.mem_cons, List.not_mem_nil, or_false]; omega)
  rw [this]
theorem yj8 {G : List Nat} {M0 M M' : Mem} {w0 w w' : World} {a a' : Act} (h : Fra G M0 w0 M w) (k : yo3 G M a w M' a' w') : Fra G M0 w0 M' w' := h.trans k.fra
def ptrS (b4 k : Nat) : Value := .pointer (some ⟨b4, k + 1, none⟩)
theorem ym8 {k : Nat} (hk : k < 4) : offV TSl (yk0 k) = some (k + 1) := by
 rcases (by omega : k = 0 ∨ k = 1 ∨ k = 2 ∨ k = 3) with rfl | rfl | rfl | rfl <;> rfl
set_option maxRecDepth 100000 in
set_option maxHeartbeats 2000000 in
theorem yna {F : Fence} (hF : Open F) (hro : F.round = none) {nn : Nat} {b2 b4 : Nat} {M0 : Mem} {w0 : World} {ws : List ByteArray} {x : z09} (hws : ws.length = 5) (hb2 : w0.heap.size ≤ b2) (hb4 : w0.heap.size ≤ b4) {Q : Exit → Act → World → Prop} {res : z09 × Int}
  (hQ : ∀ (M : Mem) (a : Act) (w : World) (z : z09 × z09) (e : Int), Two Tryz.prog (yjn b2 b4) M [(2, .bptr 100 []), (3, .data NI2 e [])] z.1 z.2 a w → Fra [b2, b4] M0 w0 M w → a.defers = [] → res = (z.1, e) → Q .ret a w) :
  ∀ (k : Nat), k ≤ 4 → ∀ (y : z09) (M : Mem) (a : Act) (w : World), Two Tryz.prog (yjn b2 b4) M (l61 ws 0 (.agg #[ptrS b4 0, ptrS b4 1, ptrS b4 2, ptrS b4 3]) (k : Int)) x y a w → Fra [b2, b4] M0 w0 M w → a.tmps.size = 61 → a.defers = [] →
   (∃ r, ykq ws (4 - k) k y = some r ∧ (match r with
    | none => some (yj6, 7)
    | some s => (z36 s).bind fun e => bif e != 0 then some (yj6, e) else some (s, 0)) = some res) →
   Code.roundsIn F nn Tryz.prog ykr (Exit.inBlock 0 (Exit.then (fun a w => ym6.wpIn F nn Tryz.prog Q a w) Q)) ((4 - k) + 1) a w := by
 intro k
 obtain ⟨d, hd⟩ : ∃ d, d = 4 - k := ⟨_, rfl⟩
 induction d generalizing k with
 | zero =>
  intro hk y M a w hT hFr hsz hdf hr
  have hk4 : k = 4 := by omega
  subst hk4
  rw [show 4 - 4 + 1 = 0 + 1 from rfl, roundsIn_succ, yn2]
  refine wpIn_seq (zgx (D := yjn b2 b4) z04 cokS hF _ (.inr (by kernel_rfl)) (e8_61 ws x y 0 ((4 : Nat) : Int) (.agg #[ptrS b4 0, ptrS b4 1, ptrS b4 2, ptrS b4 3])) (by rw [hsz]; kernel_rfl) (by kernel_rfl) (by kernel_rfl) rfl hT fun M1 a1 w1 hT1 hK1 => ?_)
  refine wpIn_seq (wpIn_cond_split (z1v.1 (hT1.env (35, .data .bool (decide (((4 : Nat) : Int) < 4)) []) (by simp)).1) (fun ht => absurd ht (by decide)) (fun ht => wpIn_exit ?_))
  show ym6.wpIn F nn Tryz.prog Q a1 w1
  obtain ⟨r, hr1, hr2⟩ := hr
  unfold ykq at hr1
  rw [show 4 - 4 = 0 from rfl] at hr1
  simp only [Option.some.injEq] at hr1
  subst hr1
  simp only at hr2
  obtain ⟨c, hc, hr2⟩ := Option.bind_eq_some_iff.1 hr2
  have ht := e15_61 ws x y 0 ((4 : Nat) : Int) (.agg #[ptrS b4 0, ptrS b4 1, ptrS b4 2, ptrS b4 3])
  rw [hc, Option.bind_some] at ht
  have hs1 : a1.tmps.size = 61 := hK1.size.trans hsz
  cases hce : (c != 0) with
  | true =>
   rw [hce, cond_true] at ht hr2
   refine zgx (D := yjn b2 b4) z04 cokS hF _ (.inr (by kernel_rfl)) ht (by rw [hs1]; kernel_rfl) (by kernel_rfl) (by kernel_rfl) rfl (hT1.sub (by simp)) fun M2 a2 w2 hT2 hK2 => ?_
   refine hQ M2 a2 w2 (yj6, y) c (Two.sub (m := [(2, .bptr 100 []), (3, .data NI2 c [])]) hT2 (by simp)) (yj8 (yj8 hFr hK1) hK2) (hK2.defers.trans (hK1.defers.trans hdf)) ?_
   simp only [Option.some.injEq] at hr2
   exact hr2.symm
  | false =>
   rw [hce, cond_false] at ht hr2
   refine zgx (D := yjn b2 b4) z04 cokS hF _ (.inr (by kernel_rfl)) ht (by rw [hs1]; kernel_rfl) (by kernel_rfl) (by kernel_rfl) rfl (hT1.sub (by simp)) fun M2 a2 w2 hT2 hK2 => ?_
   refine hQ M2 a2 w2 (y, y) 0 (Two.sub (m := [(2, .bptr 100 []), (3, .data NI2 0 [])]) hT2 (by simp)) (yj8 (yj8 hFr hK1) hK2) (hK2.defers.trans (hK1.defers.trans hdf)) ?_
   simp only [Option.some.injEq] at hr2
   exact hr2.symm
 | succ d ih =>
  intro hk y M a w hT hFr hsz hdf hr
  have hk4 : k < 4 := by omega
  obtain ⟨ps, hps⟩ : ∃ ps : Array Value, ps = #[ptrS b4 0, ptrS b4 1, ptrS b4 2, ptrS b4 3] := ⟨_, rfl⟩
  rw [← hps] at hT ih
  have hpk : ps[k]? = some (ptrS b4 k) := by
   rw [hps]
   rcases (by omega : k = 0 ∨ k = 1 ∨ k = 2 ∨ k = 3) with rfl | rfl | rfl | rfl <;> rfl
  obtain ⟨r, hr1, hr2⟩ := hr
  rw [← hd] at hr1
  unfold ykq at hr1
  obtain ⟨q, hq, hr1⟩ := Option.bind_eq_some_iff.1 hr1
  rw [← hd, roundsIn_succ, yn2]
  refine wpIn_seq (zgx (D := yjn b2 b4) z04 cokS hF _ (.inr (by kernel_rfl)) (e8_61 ws x y 0 (k : Int) (.agg ps)) (by rw [hsz]; kernel_rfl) (by kernel_rfl) (by kernel_rfl) rfl hT fun M1 a1 w1 hT1 hK1 => ?_)
  have hs1 : a1.tmps.size = 61 := hK1.size.trans hsz
  have hf1 := yj8 hFr hK1
  refine wpIn_seq (wpIn_cond_split (z1v.1 (hT1.env (35, .data .bool (decide ((k : Int) < 4)) []) (by simp)).1) (fun ht => wpIn_skip ?_) (fun ht => absurd (of_decide_eq_false ht) (by omega)))
  refine wpIn_seq (wpIn_block (wpIn_seq ?_))
  rw [ynu]
  refine wpIn_region ?_
  rw [show List.range (yjd ymg).size = 0 :: 1 :: 2 :: 3 :: [] from by rw [sz9_61]; rfl, wpOpsIn_cons]
  have hi1 : a1.eval (.tmp 34) = .int .i64 (k : Int) := z2m.1 (hT1.env (34, .data NI2 (k : Int) []) (by simp)).1
  have hp1 : a1.eval (.tmp 33) = .agg ps := hT1.env (33, .raw (.agg ps)) (by simp)
  refine yk1 hF (o := ykk 0) (by kernel_rfl) (z6f (by kernel_rfl)) (fun c' h => by rw [ymu] at h; cases h) (ylr _ _ (.inl ymu) a1 w1 (fun g h => by cases h)) ?_
  rw [show (ykk 0).dst = some 36 from by kernel_rfl, wpOpsIn_cons, hi1]
  obtain ⟨a2, ha2⟩ : ∃ a2, a2 = a1.put (some 36) (.int .i64 (k : Int)) := ⟨_, rfl⟩
  rw [← ha2]
  have e33 : a2.eval (.tmp 33) = .agg ps := by rw [ha2]; exact (z9z a1 (some 36) _ 33 (by decide)).trans hp1
  have e34 : a2.eval (.tmp 34) = .int .i64 (k : Int) := by rw [ha2]; exact (z9z a1 (some 36) _ 34 (by decide)).trans hi1
  refine yk1 hF (o := ykk 1) (by kernel_rfl) (z6f (by kernel_rfl)) (fun c' h => by rw [ymt] at h; cases h) (run9 a2.eval w1 e33 e34 (by rw [hps]; rfl) hpk) ?_
  rw [show (ykk 1).dst = some 37 from by kernel_rfl, wpOpsIn_cons]
  obtain ⟨a3, ha3⟩ : ∃ a3, a3 = a2.put (some 37) (ptrS b4 k) := ⟨_, rfl⟩
  rw [← ha3]
  have hs2 : a2.tmps.size = 61 := by rw [ha2, z4f]; exact hs1
  have hs3 : a3.tmps.size = 61 := by rw [ha3, z4f]; exact hs2
  have e36 : a3.eval (.tmp 36) = .int .i64 (k : Int) := by
   rw [ha3]
   refine (z9z a2 (some 37) _ 36 (by decide)).trans ?_
   rw [ha2]
   exact zsn a1 36 _ (by rw [hs1]; decide)
  have e37 : a3.eval (.tmp 37) = ptrS b4 k := by rw [ha3]; exact zsn a2 37 _ (by rw [hs2]; decide)
  refine yk1 hF (o := ykk 2) (by kernel_rfl) (z6f (by kernel_rfl)) (fun c' h => by rw [yms] at h; cases h) (ylr _ _ (.inr yms) a3 w1 (fun g h => by cases h)) ?_
  rw [show (ykk 2).dst = some 7 from by kernel_rfl, wpOpsIn_cons, e36]
  have e37' : (a3.put (some 7) (.int .i64 (k : Int))).eval (.tmp 37) = ptrS b4 k := (z9z a3 (some 7) _ 37 (by decide)).trans e37
  refine yk1 hF (o := ykk 3) (by kernel_rfl) (z6f (by kernel_rfl)) (fun c' h => by rw [ymr] at h; cases h) (ylr _ _ (.inr ymr) (a3.put (some 7) (.int .i64 (k : Int))) w1 (fun g h => by cases h)) ?_
  rw [show (ykk 3).dst = some 8 from by kernel_rfl, e37']
  show (Code.seq ymq (.seq yn5 yl2)).wpIn F nn Tryz.prog _ ((a3.put (some 7) (.int .i64 (k : Int))).put (some 8) (ptrS b4 k)) w1
  have hT3 : Two Tryz.prog (yjn b2 b4) M1 (l61 ws 0 (.agg ps) (k : Int) ++ [(7, .data NI2 (k : Int) []), (8, .raw (ptrS b4 k))]) x y ((a3.put (some 7) (.int .i64 (k : Int))).put (some 8) (ptrS b4 k)) w1 := by
   have c1 := Two.call (d := 36) (v := .data NI2 (k : Int) []) (hT1.sub (m := l61 ws 0 (.agg ps) (k : Int)) (by simp)) (Fra.refl) hT1.good hT1.b1 hT1.b2 (by rw [hs1]; decide) ⟨z2m.2 rfl, rfl⟩ rfl
   rw [← ha2] at c1
   have c2 := Two.call (d := 37) (v := .raw (ptrS b4 k)) c1 (Fra.refl) c1.good c1.b1 c1.b2 (by rw [hs2]; decide) rfl rfl
   rw [← ha3] at c2
   have c3 := Two.call (d := 7) (v := .data NI2 (k : Int) []) c2 (Fra.refl) c2.good c2.b1 c2.b2 (by rw [hs3]; decide) ⟨z2m.2 rfl, rfl⟩ rfl
   have c4 := Two.call (d := 8) (v := .raw (ptrS b4 k)) c3 (Fra.refl) c3.good c3.b1 c3.b2 (by rw [z4f, hs3]; decide) rfl rfl
   exact c4.sub (by simp)
  have hs4 : ((a3.put (some 7) (.int .i64 (k : Int))).put (some 8) (ptrS b4 k)).tmps.size = 61 := by rw [z4f, z4f]; exact hs3
  have hd4 : ((a3.put (some 7) (.int .i64 (k : Int))).put (some 8) (ptrS b4 k)).defers = [] := by rw [put_defers, put_defers, ha3, put_defers, ha2, put_defers]; exact hK1.defers.trans hdf
  generalize (a3.put (some 7) (.int .i64 (k : Int))).put (some 8) (ptrS b4 k) = a4 at hT3 hs4 hd4 ⊢
  have hw1 : wi64 ((k : Int) + 1) = (k : Int) + 1 := z0j (by omega) (by omega)
  have h10 := e10_61 ws x y 0 (k : Int) (k : Int) (ptrS b4 k) (.agg ps)
  rw [hw1, show (decide ((0 : Int) ≤ (k : Int) + 1) && decide ((k : Int) + 1 < (ws.length : Int))) = true by rw [hws]; simp only [Bool.and_eq_true, decide_eq_true_eq]; omega, hq] at h10
  refine wpIn_seq (zgx (D := yjn b2 b4) z04 cokS hF _ (.inr (by kernel_rfl)) (h10.trans rfl) (by rw [hs4]; kernel_rfl) (by kernel_rfl) (by kernel_rfl) rfl hT3 fun M5 a5 w5 hT5 hK5 => ?_)
  have hf5 := yj8 hf1 hK5
  have hs5 : a5.tmps.size = 61 := hK5.size.trans hs4
  have hd5 : a5.defers = [] := hK5.defers.trans hd4
  have h11 := e11_61 ws x y 0 (k : Int) q.1 (ptrS b4 k) (.agg ps) q.2
  cases hq2 : q.2 with
  | false =>
   rw [hq2] at h11 hT5 hr1
   rw [Bool.not_false, cond_true] at h11 hr1
   simp only [Option.some.injEq] at hr1
   subst hr1
   simp only [Option.some.injEq] at hr2
   refine wpIn_seq (zgx (D := yjn b2 b4) z04 cokS hF _ (.inr (by kernel_rfl)) h11 (by rw [hs5]; kernel_rfl) (by kernel_rfl) (by kernel_rfl) rfl hT5 fun M6 a6 w6 hT6 hK6 => ?_)
   exact hQ M6 a6 w6 (yj6, y) 7 (Two.sub (m := [(2, .bptr 100 []), (3, .data NI2 7 [])]) hT6 (by simp)) (yj8 hf5 hK6) (hK6.defers.trans hd5) hr2.symm
  | true =>
   rw [hq2] at h11 hT5 hr1
   rw [Bool.not_true, cond_false] at h11 hr1
   refine wpIn_seq (zgx (D := yjn b2 b4) z04 cokS hF _ (.inr (by kernel_rfl)) h11 (by rw [hs5]; kernel_rfl) (by kernel_rfl) (by kernel_rfl) rfl hT5 fun M6 a6 w6 hT6 hK6 => ?_)
   have hf6 := yj8 hf5 hK6
   have hs6 : a6.tmps.size = 61 := hK6.size.trans hs5
   have hT7 : Two Tryz.prog (yjn b2 b4) M6 (l61 ws 0 (.agg ps) (k : Int) ++ [(8, .bptr 101 (yk0 k)), (9, .data NI2 q.1 [])]) x y a6 w6 := by
    refine ⟨hT6.good, hT6.ne, hT6.b1, hT6.b2, fun e he => ?_⟩
    rcases List.mem_append.1 he with he | he
    ·exact hT6.env e (List.mem_append_left _ he)
    ·simp only [List.mem_cons, List.not_mem_nil, or_false] at he
     rcases he with rfl | rfl
     ·exact .inr ⟨rfl, k + 1, ym8 hk4, hT6.env (8, .raw (ptrS b4 k)) (by simp)⟩
     ·exact hT6.env (9, .data NI2 q.1 []) (by simp)
   refine zgx (D := yjn b2 b4) z04 cokS hF _ (.inr (by kernel_rfl)) (e13_61 ws x y 0 (k : Int) q.1 (.agg ps) hk4) (by rw [hs6]; kernel_rfl) (by kernel_rfl) (by kernel_rfl) rfl hT7 fun M8 a8 w8 hT8 hK8 => ?_
   show ymp.wpIn F nn Tryz.prog _ a8 w8
   have hf8 := yj8 hf6 hK8
   have hs8 : a8.tmps.size = 61 := hK8.size.trans hs6
   refine zgx (D := yjn b2 b4) z04 cokS hF _ (.inr (by kernel_rfl)) (e14_61 ws x (yjt k q.1 y) 0 (k : Int) (.agg ps)) (by rw [hs8]; kernel_rfl) (by kernel_rfl) (by kernel_rfl) rfl hT8 fun M9 a9 w9 hT9 hK9 => ?_
   show Code.roundsIn F nn Tryz.prog ykr _ (d + 1) a9 w9
   rw [hw1] at hT9
   have := ih (k + 1) (by omega) (by omega) (yjt k q.1 y) M9 a9 w9 hT9 (yj8 hf8 hK9) (hK9.size.trans hs8) (hK9.defers.trans (hK8.defers.trans (hK6.defers.trans hd5))) ⟨r, by rw [show 4 - (k + 1) = d by omega]; exact hr1, hr2⟩
   rw [show 4 - (k + 1) = d by omega] at this
   exact this
end Go.Lift
namespace Go.Lift
open Go Go.Proofs Go.RowKit
theorem ync {P : Program} {F : Fence} (hF : Open F) {n c : Nat} {ops : Array Oper} {o : Oper} {a : Act} {w w' : World} (ho : ops[c]? = some o) (hw : Region.wanted o (yielded ops a.tmps) = true) (hno : ∀ c', o.op ≠ .defer c')
  {Q : Exit → Act → World → Prop} {K : Act → World → Prop} (hrun : (execOp a.eval o).run P w = .ok .skip w') (hK : K (a.put o.dst undef) w') : wpOpIn F n P ops Q c K a w := by
 refine zk2 ho ?_
 rw [hw, if_pos rfl]
 refine ⟨fun f _ => hF.fn f, ?_⟩
 rw [Oper.semAt_eq _ _ _ (fun c' hc => absurd hc (hno c'))]
 rw [hrun, Oper.uponIn_skip]
 exact hK
theorem ymf (w : World) (c c' : Array Value) (t : TypeId) : (w.alloc (.cells c t)).setRow w.heap.size c' = w.alloc (.cells c' t) := by
 simp only [World.setRow, World.alloc]
 congr 1
 apply Array.ext_getElem?
 intro j
 rw [Array.getElem?_modify]
 split
 ·subst_vars; simp
 ·rw [Array.getElem?_push, Array.getElem?_push]; split
  ·omega
  ·rfl
set_option maxRecDepth 100000 in
set_option maxHeartbeats 4000000 in
theorem yja : Has Tryz.prog yj5 := by
 refine ⟨enters_of (by kernel_rfl), fun s res hr M w vs hg hvs => ?_⟩
 obtain ⟨v, rfl, hv⟩ := hvs
 have hr : yj4 s = some res := hr
 unfold yj4 at hr
 obtain ⟨ws, hws, hr⟩ := Option.bind_eq_some_iff.1 hr
 unfold zoe
 refine (callsIn_wide (n := 3)).1 ?_
 refine callsIn_of_wp (c := c61) Tryz.func61 (by kernel_rfl) True.intro ?_ rfl
 obtain ⟨a0, ha0⟩ : ∃ a0 : Act, a0 = { tmps := #[v] ++ Array.replicate (Tryz.f61.ntmps - (#[v] : Array Value).size) undef, defers := [] } := ⟨_, rfl⟩
 show c61.wpIn _ _ _ _ { tmps := #[v] ++ Array.replicate (Tryz.f61.ntmps - (#[v] : Array Value).size) undef, defers := [] } w
 rw [← ha0]
 have hs0 : a0.tmps.size = 61 := by rw [ha0, Tryz.ntmps61]; simp
 have hd0 : a0.defers = [] := by rw [ha0]
 have hT0 : Thin Tryz.prog M [(0, .data .str s [])] a0 w := by
  rw [ha0]
  refine zar hg fun e he => ?_
  simp only [List.mem_cons, List.not_mem_nil, or_false] at he
  subst he
  exact ⟨by show 0 < 1; omega, hv, rfl⟩
 have hF : Open Fence.wide := z8m
 have hro : Fence.wide.round = none := rfl
 generalize Fence.wide = F at hF hro ⊢
 obtain ⟨Q, hQ⟩ : ∃ Q : Exit → Act → World → Prop, Q = bodyPost Tryz.prog Tryz.f61 (fun e' w' => ∃ M' v, e' = .returned v ∧ relR Tryz.prog M' yj5.rts res v ∧ Good M' w' ∧ Grow M w M' w') := ⟨_, rfl⟩
 rw [← hQ, yo2]
 obtain ⟨cells1, hn1, hc1⟩ := ymo (ym1 0) ymz hT0
 refine wpIn_seq ?_
 rw [yny]
 refine wpIn_region ?_
 rw [show List.range (yjd ymi).size = 0 :: 1 :: [] from by rw [sz0_61]; rfl, wpOpsIn_cons]
 refine yk1 hF (o := ym1 0) (by kernel_rfl) (z6f (by kernel_rfl)) (fun c' h => by rw [ymz] at h; cases h) hn1 ?_
 rw [show (ym1 0).dst = some 2 from by kernel_rfl, wpOpsIn_cons]
 obtain ⟨w1, hw1⟩ : ∃ w1, w1 = w.alloc (.cells cells1 23) := ⟨_, rfl⟩
 rw [← hw1]
 have hb1 : Below w.heap.size w w1 := by rw [hw1]; exact (Below.refl _ w).alloc (Nat.le_refl _) _
 have hg1 := z2g hg hb1
 have z1 : w1.heap.size = w.heap.size + 1 := by rw [hw1, World.size_alloc]
 have hbk1 : w1.heap[w.heap.size]? = some (.cells cells1 23 (0, 0)) := by rw [hw1]; exact World.alloc_heap_new w _
 refine yk1 hF (o := ym1 1) (by kernel_rfl) (z6f (by kernel_rfl)) (fun c' h => by rw [ymy] at h; cases h) (ylr _ _ (.inr ymy) _ w1 (fun g h => by cases h)) ?_
 rw [show (ym1 1).dst = some 3 from by kernel_rfl]
 show (Code.seq ylz _).wpIn F 3 Tryz.prog Q ((a0.put (some 2) (.pointer (some ⟨w.heap.size, 0, none⟩))).put (some 3) (.int .i64 0)) w1
 have hT1 : Thin Tryz.prog M [(3, .data NI2 0 []), (2, .raw (.pointer (some ⟨w.heap.size, 0, none⟩))), (0, .data .str s [])] ((a0.put (some 2) (.pointer (some ⟨w.heap.size, 0, none⟩))).put (some 3) (.int .i64 0)) w1 :=
  ((hT0.turn hg1 (Mem.le_refl _)).put (d := 2) (v := .pointer (some ⟨w.heap.size, 0, none⟩)) (x := .raw (.pointer (some ⟨w.heap.size, 0, none⟩))) (by rw [hs0]; decide) rfl rfl).put (d := 3) (v := .int .i64 0) (x := .data NI2 0 []) (by rw [z4f, hs0]; decide) ⟨z2m.2 rfl, rfl⟩ rfl
 have hs1 : ((a0.put (some 2) (.pointer (some ⟨w.heap.size, 0, none⟩))).put (some 3) (.int .i64 0)).tmps.size = 61 := by rw [z4f, z4f]; exact hs0
 have hd1 : ((a0.put (some 2) (.pointer (some ⟨w.heap.size, 0, none⟩))).put (some 3) (.int .i64 0)).defers = [] := by rw [put_defers, put_defers]; exact hd0
 generalize (a0.put (some 2) (.pointer (some ⟨w.heap.size, 0, none⟩))).put (some 3) (.int .i64 0) = a1 at hT1 hs1 hd1 ⊢
 obtain ⟨cells2, hn2, hc2⟩ := ymo (ynd 0) ymx hT1
 refine wpIn_seq ?_
 rw [ynx]
 refine wpIn_region ?_
 rw [show List.range (yjd ylz).size = 0 :: [] from by rw [sz1_61]; rfl, wpOpsIn_cons]
 refine yk1 hF (o := ynd 0) (by kernel_rfl) (z6f (by kernel_rfl)) (fun c' h => by rw [ymx] at h; cases h) hn2 ?_
 rw [show (ynd 0).dst = some 4 from by kernel_rfl]
 obtain ⟨w2, hw2⟩ : ∃ w2, w2 = w1.alloc (.cells cells2 23) := ⟨_, rfl⟩
 rw [← hw2]
 have hb2 : Below w1.heap.size w1 w2 := by rw [hw2]; exact (Below.refl _ w1).alloc (Nat.le_refl _) _
 have hg2 := z2g hg1 hb2
 have z2 : w2.heap.size = w1.heap.size + 1 := by rw [hw2, World.size_alloc]
 have hbk2 : w2.heap[w1.heap.size]? = some (.cells cells2 23 (0, 0)) := by rw [hw2]; exact World.alloc_heap_new w1 _
 show (Code.seq ylf _).wpIn F 3 Tryz.prog Q (a1.put (some 4) (.pointer (some ⟨w1.heap.size, 0, none⟩))) w2
 have hT2' : Thin Tryz.prog M [(4, .raw (.pointer (some ⟨w1.heap.size, 0, none⟩))), (3, .data NI2 0 []), (2, .raw (.pointer (some ⟨w.heap.size, 0, none⟩))), (0, .data .str s [])] (a1.put (some 4) (.pointer (some ⟨w1.heap.size, 0, none⟩))) w2 :=
  (hT1.turn hg2 (Mem.le_refl _)).put (d := 4) (v := .pointer (some ⟨w1.heap.size, 0, none⟩)) (x := .raw (.pointer (some ⟨w1.heap.size, 0, none⟩))) (by rw [hs1]; decide) rfl rfl
 have hs2 : (a1.put (some 4) (.pointer (some ⟨w1.heap.size, 0, none⟩))).tmps.size = 61 := by rw [z4f]; exact hs1
 have hd2 : (a1.put (some 4) (.pointer (some ⟨w1.heap.size, 0, none⟩))).defers = [] := by rw [put_defers]; exact hd1
 generalize a1.put (some 4) (.pointer (some ⟨w1.heap.size, 0, none⟩)) = a2 at hT2' hs2 hd2 ⊢
 obtain ⟨b2, hb2e⟩ : ∃ b2, b2 = w.heap.size := ⟨_, rfl⟩
 obtain ⟨b4, hb4e⟩ : ∃ b4, b4 = w1.heap.size := ⟨_, rfl⟩
 rw [← hb2e] at hbk1
 rw [← hb4e] at hbk2
 rw [← hb2e, ← hb4e] at hT2'
 have hT2 : Two Tryz.prog (yjn b2 b4) M (a61 s 0) yj6 yj6 a2 w2 := by
  refine ⟨hg2, by show b2 ≠ b4; omega, ⟨⟨cells1, 23, ?_, hc1⟩, fun o => zad hg (by show w.heap.size ≤ b2; omega) o⟩, ⟨⟨cells2, 23, hbk2, hc2⟩, fun o => zad hg1 (by show w1.heap.size ≤ b4; omega) o⟩, fun e he => ?_⟩
  ·exact (hb2.block b2 (by omega)).trans hbk1
  ·simp only [List.mem_cons, List.not_mem_nil, or_false] at he
   rcases he with rfl | rfl | rfl | rfl
   ·exact hT2'.2 (0, .data .str s []) (by simp)
   ·exact .inl ⟨rfl, 0, rfl, hT2'.2 (2, .raw (.pointer (some ⟨b2, 0, none⟩))) (by simp)⟩
   ·exact hT2'.2 (3, .data NI2 0 []) (by simp)
   ·exact .inr ⟨rfl, 0, rfl, hT2'.2 (4, .raw (.pointer (some ⟨b4, 0, none⟩))) (by simp)⟩
 have hf2 : Fra [b2, b4] M w M w2 := (z1p hg ⟨hb1, fun _ _ => rfl⟩).trans (z1p hg1 ⟨hb2, fun _ _ => rfl⟩)
 have lb2 : w.heap.size ≤ b2 := by omega
 have lb4 : w.heap.size ≤ b4 := by omega
 have lw2 : w.heap.size ≤ w2.heap.size := by omega
 clear hT2' hbk1 hbk2 hc1 hc2 hb1 hb2 hg1 hg2 hT1 hT0 hn1 hn2 hw1 hw2 z1 z2 hb2e hb4e hs1 hd1 hs0 hd0 ha0
 refine wpIn_seq ?_
 rw [ynw]
 refine wpIn_region ?_
 refine z86 (D := yjn b2 b4) z16 hF 0 4 (by rw [ymm]; rfl) (by rw [ymm]; decide) (e2_61 s yj6 yj6 0) hs2 (by kernel_rfl) (by kernel_rfl) (by kernel_rfl) rfl hT2 fun M3 a3 w3 hT3 hK3 => ?_
 have hs3 : a3.tmps.size = 61 := hK3.size.trans hs2
 have hd3 : a3.defers = [] := hK3.defers.trans hd2
 have hf3 := yj8 hf2 hK3
 have pl : ∀ (k t : Nat), k < 4 → (t, AVal.bptr 101 (yk0 k)) ∈ a61 s 0 ++ [(12, .bptr 101 (yk0 0)), (13, .bptr 101 (yk0 1)), (14, .bptr 101 (yk0 2)), (15, .bptr 101 (yk0 3))] → a3.eval (.tmp t) = ptrS b4 k := fun k t hk hm => by
  rcases hT3.env _ hm with ⟨h, _⟩ | ⟨_, off, h1, h2⟩
  ·cases h
  ·replace h1 : offV TSl (yk0 k) = some off := h1
   rw [ym8 hk] at h1
   cases h1
   exact h2
 have p0 := pl 0 12 (by omega) (by simp)
 have p1 := pl 1 13 (by omega) (by simp)
 have p2 := pl 2 14 (by omega) (by simp)
 have p3 := pl 3 15 (by omega) (by simp)
 clear pl
 rw [show List.range' (0 + 4) ((yjd ylf).size - (0 + 4)) = 4 :: 5 :: 6 :: [] from by rw [ymm]; rfl, wpOpsIn_cons]
 refine yk1 hF (o := yku 4) (by kernel_rfl) (z6f (by kernel_rfl)) (fun c' h => by rw [ynp] at h; cases h) (run4 a3.eval w3 p0 p1 p2 p3) ?_
 rw [show (yku 4).dst = some 16 from by kernel_rfl, wpOpsIn_cons]
 refine yk1 hF (o := yku 5) (by kernel_rfl) (z6f (by kernel_rfl)) (fun c' h => by rw [yno] at h; cases h) (run5 _ w3) ?_
 rw [show (yku 5).dst = some 5 from by kernel_rfl, wpOpsIn_cons]
 obtain ⟨ps, hps⟩ : ∃ ps : Array Value, ps = #[ptrS b4 0, ptrS b4 1, ptrS b4 2, ptrS b4 3] := ⟨_, rfl⟩
 show wpOpIn F 3 Tryz.prog (yjd ylf) _ 6 _ ((a3.put (some 16) (.agg #[ptrS b4 0, ptrS b4 1, ptrS b4 2, ptrS b4 3])).put (some 5) (.pointer (some ⟨w3.heap.size, 0, none⟩))) (w3.alloc (.cells #[.pointer none, .pointer none, .pointer none, .pointer none] 179))
 rw [← hps]
 have hr6 := run6 ((a3.put (some 16) (.agg ps)).put (some 5) (.pointer (some ⟨w3.heap.size, 0, none⟩))).eval (w3.alloc (.cells #[.pointer none, .pointer none, .pointer none, .pointer none] 179)) (g := w3.heap.size) (vs := ps) (zsn _ 5 _ (by rw [z4f, hs3]; decide)) ((z9z _ (some 5) _ 16 (by decide)).trans (zsn _ 16 _ (by rw [hs3]; decide))) (World.alloc_heap_new w3 _) (by rw [hps]; rfl) rfl (fun v hv => by
  rw [hps] at hv
  simp only [List.mem_cons, List.not_mem_nil, or_false] at hv
  rcases hv with rfl | rfl | rfl | rfl <;> rfl)
 rw [ymf] at hr6
 refine ync hF (o := yku 6) (by kernel_rfl) (z6f (by kernel_rfl)) (fun c' h => by rw [ynn] at h; cases h) hr6 ?_
 rw [show (yku 6).dst = none from by kernel_rfl]
 obtain ⟨b5, hb5⟩ : ∃ b5, b5 = w3.heap.size := ⟨_, rfl⟩
 obtain ⟨w4, hw4⟩ : ∃ w4, w4 = w3.alloc (.cells ps 179) := ⟨_, rfl⟩
 rw [← hw4]
 have hbb : Below w3.heap.size w3 w4 := by rw [hw4]; exact (Below.refl _ w3).alloc (Nat.le_refl _) _
 have hbk5 : w4.heap[b5]? = some (.cells ps 179 (0, 0)) := by rw [hw4, hb5]; exact World.alloc_heap_new w3 _
 have z4 : w4.heap.size = b5 + 1 := by rw [hw4, World.size_alloc, hb5]
 have hg4 := z2g hT3.good hbb
 have hf34 : Fra [b2, b4] M3 w3 M3 w4 := z1p hT3.good ⟨hbb, fun _ _ => rfl⟩
 have hf34' : Fra [] M3 w3 M3 w4 := z1p hT3.good ⟨hbb, fun _ _ => rfl⟩
 have hT4 : Two Tryz.prog (yjn b2 b4) M3 ((5, .raw (.pointer (some ⟨b5, 0, none⟩))) :: a61 s 0) yj6 yj6 ((a3.put (some 16) (.agg ps)).put (some 5) (.pointer (some ⟨w3.heap.size, 0, none⟩))) w4 := by
  have c1 := Two.call (d := 16) (v := .raw (.agg ps)) (hT3.sub (m := a61 s 0) (by simp)) hf34 hg4 (hT3.b1.keep hf34' (by simp)) (hT3.b2.keep hf34' (by simp)) (by rw [hs3]; decide) rfl rfl
  have c2 := Two.call (d := 5) (v := .raw (.pointer (some ⟨b5, 0, none⟩))) (u := .pointer (some ⟨w3.heap.size, 0, none⟩)) (c1.sub (m := a61 s 0) (by simp)) (Fra.refl) c1.good c1.b1 c1.b2 (by rw [z4f, hs3]; decide) (by rw [hb5]; rfl) rfl
  exact c2
 have hs4 : ((a3.put (some 16) (.agg ps)).put (some 5) (.pointer (some ⟨w3.heap.size, 0, none⟩))).tmps.size = 61 := by rw [z4f, z4f]; exact hs3
 have hd4 : ((a3.put (some 16) (.agg ps)).put (some 5) (.pointer (some ⟨w3.heap.size, 0, none⟩))).defers = [] := by rw [put_defers, put_defers]; exact hd3
 show (Code.seq ynz _).wpIn F 3 Tryz.prog Q ((a3.put (some 16) (.agg ps)).put (some 5) (.pointer (some ⟨w3.heap.size, 0, none⟩))) w4
 generalize (a3.put (some 16) (.agg ps)).put (some 5) (.pointer (some ⟨w3.heap.size, 0, none⟩)) = a4 at hT4 hs4 hd4 ⊢
 have hf4 := hf3.trans hf34
 have l5 : b5 ∉ [b2, b4] := by
  have := hf3.size
  have h1 := (Array.getElem?_eq_some_iff.1 hT3.b1.1.choose_spec.choose_spec.1).1
  have h2 := (Array.getElem?_eq_some_iff.1 hT3.b2.1.choose_spec.choose_spec.1).1
  have h1' : b2 < w3.heap.size := h1
  have h2' : b4 < w3.heap.size := h2
  simp only [List.mem_cons, List.not_mem_nil, or_false, not_or]
  omega
 clear hr6 p0 p1 p2 p3 hT3 hK3 hf34 hf34' hbb hg4 hw4 hf2 hf3
 have lt5 : b5 < w4.heap.size := by omega
 have h3 := e3_61 s yj6 yj6 0 (.pointer (some ⟨b5, 0, none⟩))
 rw [hws, Option.bind_some] at h3
 refine wpIn_seq (zgx (D := yjn b2 b4) z04 cokS hF _ (.inr (by kernel_rfl)) h3 (by rw [hs4]; kernel_rfl) (by kernel_rfl) (by kernel_rfl) rfl hT4 fun M5 a5 w5 hT5 hK5 => ?_)
 have hf5 := yj8 hf4 hK5
 have hs5 : a5.tmps.size = 61 := hK5.size.trans hs4
 have hd5 : a5.defers = [] := hK5.defers.trans hd4
 have hk5 : w5.heap[b5]? = some (.cells ps 179 (0, 0)) := (hK5.fra.block b5 lt5 l5).trans hbk5
 have lt5' : b5 < w5.heap.size := Nat.lt_of_lt_of_le lt5 hK5.fra.size
 have fin : ∀ (M' : Mem) (a' : Act) (w' : World) (z : z09 × z09) (e : Int), Two Tryz.prog (yjn b2 b4) M' [(2, .bptr 100 []), (3, .data NI2 e [])] z.1 z.2 a' w' → Fra [b2, b4] M w M' w' → a'.defers = [] → res = (z.1, e) → Q .ret a' w' := fun M' a' w' z e hT hFr hd he => by
  rw [hQ, he]
  exact fin61 hT hFr lb2 lb4 hd
 have h4 := e4_61 ws yj6 yj6 0 (.pointer (some ⟨b5, 0, none⟩))
 by_cases hbad : ((ws.length : Int) != 5) = true ∨ seqb (lget ByteArray.empty ws 0) ByteArray.empty = true
 ·have hc : (bif ((ws.length : Int) != 5) then some true else chk (decide ((0 : Int) ≤ 0) && decide ((0 : Int) < (ws.length : Int))) (some (seqb (lget ByteArray.empty ws 0) ByteArray.empty))) = some true := by
   cases h5 : ((ws.length : Int) != 5) with
   | true => rfl
   | false =>
    rw [cond_false]
    have hl : (ws.length : Int) = 5 := by simpa using h5
    rw [show (decide ((0 : Int) ≤ 0) && decide ((0 : Int) < (ws.length : Int))) = true by rw [hl]; rfl]
    rcases hbad with h | h
    ·rw [h5] at h; cases h
    ·rw [h]; rfl
  rw [hc, Option.bind_some, cond_true] at h4
  rw [show (((ws.length : Int) != 5) || seqb (lget ByteArray.empty ws 0) ByteArray.empty) = true by rcases hbad with h | h <;> rw [h] <;> simp, cond_true, Option.some.injEq] at hr
  refine wpIn_seq (zgx (D := yjn b2 b4) z04 cokS hF _ (.inr (by kernel_rfl)) h4 (by rw [hs5]; kernel_rfl) (by kernel_rfl) (by kernel_rfl) rfl hT5 fun M6 a6 w6 hT6 hK6 => ?_)
  exact fin M6 a6 w6 (yj6, yj6) 7 (Two.sub (m := [(2, .bptr 100 []), (3, .data NI2 7 [])]) hT6 (by simp)) (yj8 hf5 hK6) (hK6.defers.trans hd5) hr.symm
 ·have h5 : ((ws.length : Int) != 5) = false := by cases h : ((ws.length : Int) != 5) with
   | false => rfl
   | true => exact absurd (.inl h) hbad
  have h0 : seqb (lget ByteArray.empty ws 0) ByteArray.empty = false := by cases h : seqb (lget ByteArray.empty ws 0) ByteArray.empty with
   | false => rfl
   | true => exact absurd (.inr h) hbad
  have hl : (ws.length : Int) = 5 := by simpa using h5
  have hin : (decide ((0 : Int) ≤ 0) && decide ((0 : Int) < (ws.length : Int))) = true := by rw [hl]; rfl
  rw [h5, cond_false, hin, h0, show chk true (some false) = some false from rfl, Option.bind_some, cond_false] at h4
  rw [h5, h0, Bool.or_false, cond_false] at hr
  refine wpIn_seq (zgx (D := yjn b2 b4) z04 cokS hF _ (.inr (by kernel_rfl)) h4 (by rw [hs5]; kernel_rfl) (by kernel_rfl) (by kernel_rfl) rfl hT5 fun M6 a6 w6 hT6 hK6 => ?_)
  have hf6 := yj8 hf5 hK6
  have hs6 : a6.tmps.size = 61 := hK6.size.trans hs5
  have hd6 : a6.defers = [] := hK6.defers.trans hd5
  have hk6 : w6.heap[b5]? = some (.cells ps 179 (0, 0)) := (hK6.fra.block b5 lt5' l5).trans hk5
  have lt6 : b5 < w6.heap.size := Nat.lt_of_lt_of_le lt5' hK6.fra.size
  have h6 := e6_61 ws yj6 yj6 0 (.pointer (some ⟨b5, 0, none⟩))
  rw [hin] at h6
  refine wpIn_seq (zgx (D := yjn b2 b4) z04 cokS hF _ (.inr (by kernel_rfl)) (h6.trans rfl) (by rw [hs6]; kernel_rfl) (by kernel_rfl) (by kernel_rfl) rfl hT6 fun M7 a7 w7 hT7 hK7 => ?_)
  have hf7 := yj8 hf6 hK7
  have hs7 : a7.tmps.size = 61 := hK7.size.trans hs6
  have hd7 : a7.defers = [] := hK7.defers.trans hd6
  have hk7 : w7.heap[b5]? = some (.cells ps 179 (0, 0)) := (hK7.fra.block b5 lt6 l5).trans hk6
  refine wpIn_seq (wpIn_seq ?_)
  rw [ynv]
  refine wpIn_region ?_
  rw [show List.range (yjd ymh).size = 0 :: 1 :: [] from by rw [sz7_61]; rfl, wpOpsIn_cons]
  have h05 : a7.eval (.tmp 5) = .pointer (some ⟨b5, 0, none⟩) := hT7.env (5, .raw (.pointer (some ⟨b5, 0, none⟩))) (by simp)
  refine yk1 hF (o := ym0 0) (by kernel_rfl) (z6f (by kernel_rfl)) (fun c' h => by rw [ymw] at h; cases h) (run7 a7.eval w7 h05 (vs := ps) (by rw [hps]; rfl) (fun j v hj => z6u hk7 (by simpa using hj))) ?_
  rw [show (ym0 0).dst = some 33 from by kernel_rfl, wpOpsIn_cons]
  refine yk1 hF (o := ym0 1) (by kernel_rfl) (z6f (by kernel_rfl)) (fun c' h => by rw [ymv] at h; cases h) (ylr _ _ (.inl ymv) _ w7 (fun g h => by cases h)) ?_
  rw [show (ym0 1).dst = some 34 from by kernel_rfl]
  show (Code.block 0 (.loop ykr)).wpIn F 3 Tryz.prog _ ((a7.put (some 33) (.agg ps)).put (some 34) (.int .i64 0)) w7
  have hT8 : Two Tryz.prog (yjn b2 b4) M7 (l61 ws 0 (.agg ps) ((0 : Nat) : Int)) yj6 (lget ByteArray.empty ws 0, yj6.2) ((a7.put (some 33) (.agg ps)).put (some 34) (.int .i64 0)) w7 := by
   have c1 := Two.call (d := 33) (v := .raw (.agg ps)) (hT7.sub (m := [(2, .bptr 100 []), (3, .data NI2 0 []), (4, .bptr 101 []), (6, .data TWs ws [])]) (by simp)) (Fra.refl) hT7.good hT7.b1 hT7.b2 (by rw [hs7]; decide) rfl rfl
   have c2 := Two.call (d := 34) (v := .data NI2 0 []) (u := .int .i64 0) c1 (Fra.refl) c1.good c1.b1 c1.b2 (by rw [z4f, hs7]; decide) ⟨z2m.2 rfl, rfl⟩ rfl
   exact c2.sub (by simp)
  refine wpIn_block (wpIn_loop_rounds ((4 - 0) + 1) ?_)
  subst hps
  refine yna hF hro (x := yj6) (ws := ws) (by omega) lb2 lb4 fin 0 (by omega) _ M7 _ w7 hT8 hf7 (by rw [z4f, z4f]; exact hs7) (by rw [put_defers, put_defers]; exact hd7) ?_
  obtain ⟨r, h1, h2⟩ := Option.bind_eq_some_iff.1 hr
  exact ⟨r, h1, h2⟩
end Go.Lift
namespace Go.Lift
open Go Go.Proofs Go.RowKit Go.Sort
theorem yjc : Has Tryz.prog yjf := by
 refine ⟨enters_of (by kernel_rfl), fun x r hr M w vs hg hvs => ?_⟩
 obtain ⟨v, rest, rfl, hv, u, rfl, hu⟩ := hvs
 have hu : u = .string x.2 := z3o.1 hu
 subst hu
 have hr : strings_Join x.1 x.2 = some r := hr
 unfold strings_Join at hr
 cases hc : decide (x.1.length ≤ 4294967296) && decide ((Lib.join (x.1.map (·.data.toList)) x.2.data.toList).length ≤ 4294967296) with
 | false => rw [hc] at hr; cases hr
 | true =>
  rw [hc, cond_true, Option.some.injEq] at hr
  rw [Bool.and_eq_true, decide_eq_true_eq, decide_eq_true_eq] at hc
  obtain ⟨v', hv1, hv2⟩ := z4p hv
  have hvv : v = v' := by
   have h := zp2 hv
   rw [hv1] at h
   exact h.symm
  subst hvv
  have none_ : ∀ (a : Option Addr) (c : Nat), v = .slice a 0 c → x.1 = [] → zoe Tryz.prog yjf.f #[v, .string x.2] M w fun M' v => relR Tryz.prog M' [.str] r v := by
   rintro a c rfl h0
   refine Calls.mono (Any.strings_Join_none Tryz.lays156 Tryz.Builder_Extra_156 a c x.2 w) fun e w' he => ?_
   obtain ⟨rfl, rfl⟩ := he
   refine ⟨M, _, rfl, ?_, hg, Below.refl _ _, fun _ _ => rfl⟩
   rw [← hr, h0]
   exact z3o.2 rfl
  rcases hv2 with ⟨rfl, h0⟩ | ⟨b, off, cap, cells, rfl, h2, h3, h4, h5⟩ | ⟨a, cap, rfl, h0⟩
  ·exact none_ none 0 rfl h0
  ·by_cases hne : 0 < x.1.length
   ·have hcell : ∀ (j : Nat) s, x.1[j]? = some s → w.cell? ⟨b, off + j, none⟩ = some (.string s) := by
     intro j s hs
     obtain ⟨hj, hjs⟩ := List.getElem?_eq_some_iff.1 hs
     have h6 : (cells.drop (j * Ty.str.size)).take Ty.str.size = [Value.string x.1[j]] := h5 j hj
     have h7 : cells[j]? = some (.string s) := by
      have h8 := congrArg (·[0]?) h6
      simp only [Ty.size, Nat.mul_one, List.getElem?_take, List.getElem?_drop] at h8
      rw [hjs] at h8
      simpa using h8
     exact hg.2 _ _ _ (h4 j _ h7)
    have hb0 : b < w.heap.size := World.block_lt_of_cell? w _ (hcell 0 x.1[0] (List.getElem?_eq_getElem hne))
    refine Calls.mono (Tryz.strings_Join b off cap x.1 x.2 w hcell hb0 (Nat.le_trans hc.1 (by decide)) h2 (Nat.le_trans hc.2 (by decide))) fun e w' he => ?_
    obtain ⟨rfl, hb⟩ := he
    exact ⟨M, _, rfl, by rw [← hr]; exact z3o.2 rfl, z2g hg hb, hb, fun _ _ => rfl⟩
   ·have h0 : x.1 = [] := List.length_eq_zero_iff.1 (by omega)
    exact none_ (some ⟨b, off, none⟩) cap (by rw [h0]; rfl) h0
  ·exact none_ (some a) cap rfl h0
end Go.Lift
