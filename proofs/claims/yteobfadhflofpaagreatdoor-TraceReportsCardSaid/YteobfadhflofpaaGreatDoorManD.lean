/-
  One round of the search for explanations.
-/
import Derived.Test.YteobfadhflofpaaGreatDoorManC
set_option linter.unusedSectionVars false
set_option linter.unusedVariables false
set_option linter.unusedSimpArgs false
namespace Go.Lift
open Go Go.Proofs Go.RowKit
def cL : Code → Code | .seq a _ => a | c => c
def cR : Code → Code | .seq _ b => b | c => c
def cIn : Code → Code | .block _ c => c | c => c
def cBody : Code → Code | .rangeFunc _ _ _ b => b | c => c
noncomputable def b44 : Code := Tryz.f62.body.getD .skip
noncomputable def bd44 : Code := cBody (cIn (cR (cL (cR (cR b44)))))
def σ44 (v : Dtrace_evidence) (r : Int) (out : List Int) (s : Int) : St where
  env := fun i => match i with
    | 2 => some (.bptr 2 [])
    | 3 => some (.bptr 3 [])
    | 5 => some (.bptr 5 [])
    | 6 => some (.data (.int .u64) s [])
    | _ => none
  box := fun i => match i with
    | 2 => some ⟨132, Ttrace_evidence, v, [], false⟩
    | 3 => some ⟨137, .int .u64, r, [], false⟩
    | 5 => some ⟨129, .slice (.int .u64), out, [([], some 1000)], false⟩
    | _ => none
  tok := fun i => Nat.beq i 1000
  dirty := fun _ => false
def out44 (b : Bool) (σ : St) : Option (Bool × List Int) :=
  bif (σ.dirty 2 || σ.dirty 3) || (σ.tok 2 || σ.tok 3) then none else match σ.box 5 with
    | some ⟨129, .slice (.int .u64), x, [([], some _)], false⟩ => some (b, x)
    | _ => none
def K44 : Ex → St → Option (Bool × List Int)
  | .normal, σ => out44 false σ
  | .exit 0, σ => out44 true σ
  | _, _ => none
noncomputable def step44 (v : Dtrace_evidence) (r : Int) (out : List Int) (s : Int) : Option (Bool × List Int) :=
  (bif decide ((List.length out : Int) > 0) then (bits_OnesCount s).bind fun (a : Int) => chk (decide ((0 : Int) ≤ 0) && decide ((0 : Int) < (List.length out : Int))) ((bits_OnesCount (lget 0 out 0)).bind fun (b : Int) => some (decide (a > b))) else some false).bind fun (c : Bool) =>
  bif c then some (true, out)
  else (trace_evidence_firstWrong v s r).bind fun (w : Int) =>
    bif decide (w < 0) then (app out [s]).bind fun (o : List Int) => some (false, o) else some (false, out)
set_option maxRecDepth 100000 in
theorem ck44 (v : Dtrace_evidence) (r : Int) (out : List Int) (s : Int) : codeK (cx [] [sg_bits_OnesCount, sg_trace_evidence_firstWrong]) bd44 .nil (σ44 v r out s) K44 = step44 v r out s := by kernel_rfl
theorem ok44 : okB 33 bd44 = true := by kernel_rfl
theorem onesCount_some (s : Int) : ∃ c, bits_OnesCount s = some c := by
  unfold bits_OnesCount bits_OnesCount64
  exact ⟨_, rfl⟩
theorem step44_ok {v : Dtrace_evidence} {r : Int} {out : List Int} {s : Int} (h : ∃ w, trace_evidence_firstWrong v s r = some w) (hl : out.length < 4294967296) :
    ∃ b o, step44 v r out s = some (b, o) ∧ o.length ≤ out.length + 1 ∧ ((b = true ∧ o = out ∧ explStep v r out s = some none) ∨ (b = false ∧ explStep v r out s = some (some o))) := by
  obtain ⟨w, hw⟩ := h
  obtain ⟨a, ha⟩ := onesCount_some s
  obtain ⟨b, hb⟩ := onesCount_some (lget 0 out 0)
  have fin : ∀ c : Bool, ∃ b' o, (bif c then some (true, out) else (trace_evidence_firstWrong v s r).bind fun (w : Int) => bif decide (w < 0) then (app out [s]).bind fun (o : List Int) => some (false, o) else some (false, out)) = some (b', o) ∧ o.length ≤ out.length + 1 ∧
      ((b' = true ∧ o = out ∧ (bif c then some none else (trace_evidence_firstWrong v s r).bind fun (w : Int) => bif decide (w < 0) then (app out [s]).bind fun (o : List Int) => some (some o) else some (some out)) = some none) ∨
       (b' = false ∧ (bif c then some none else (trace_evidence_firstWrong v s r).bind fun (w : Int) => bif decide (w < 0) then (app out [s]).bind fun (o : List Int) => some (some o) else some (some out)) = some (some o))) := by
    intro c
    cases c with
    | true => exact ⟨true, out, rfl, by omega, .inl ⟨rfl, rfl, rfl⟩⟩
    | false =>
      rw [hw]
      simp only [cond_false, Option.bind_some]
      cases decide (w < 0) with
      | false => exact ⟨false, out, rfl, by omega, .inr ⟨rfl, rfl⟩⟩
      | true =>
        have happ : app out [s] = some (out ++ [s]) := by
          unfold app
          rw [if_pos (by simp only [List.length_singleton]; omega)]
        rw [cond_true, cond_true, happ]
        exact ⟨false, out ++ [s], rfl, by simp, .inr ⟨rfl, rfl⟩⟩
  unfold step44 explStep
  rw [ha, hb]
  cases hd : decide ((List.length out : Int) > 0) with
  | false => exact fin false
  | true =>
    exact fin (decide (a > b))
end Go.Lift
namespace Go.Lift
open Go Go.Proofs Go.RowKit
def BoxAt (M : Mem) (W : World) (g : Nat) (t : Ty) (x : t.den) : Prop := ∃ cur E, W.heap[g]? = some (.cells cur E (0, 0)) ∧ relC Tryz.prog t M x cur.toList ∧ ∀ o, M g o = none
def TipAt (base : Nat) (M : Mem) (W : World) (out : List Int) : Prop :=
  ∃ E u, W.heap[base + 2]? = some (.cells #[u] E (0, 0)) ∧ relC Tryz.prog (.slice (.int .u64)) M out [u] ∧ (∀ o, M (base + 2) o = none) ∧
    (u = .slice none 0 0 ∨ ∃ g n cap, base ≤ g ∧ g ≠ base ∧ g ≠ base + 1 ∧ g ≠ base + 2 ∧ g < W.heap.size ∧ u = .slice (some ⟨g, 0, none⟩) n cap ∧ OwnBlk M W 1 g n cap)
def Inv44 (w0 : World) (M0 : Mem) (v : Dtrace_evidence) (r : Int) (out : List Int) (W : World) : Prop :=
  ∃ M, Good M W ∧ M (w0.heap.size + 3) 0 = some (.int .i64 v.1) ∧ Grow M0 w0 M W ∧ BoxAt M W w0.heap.size Ttrace_evidence v ∧ BoxAt M W (w0.heap.size + 1) (.int .u64) r ∧ TipAt w0.heap.size M W out
theorem inv44_own {w0 : World} {M0 : Mem} {v : Dtrace_evidence} {r : Int} {out : List Int} {W W' : World} {row : Option Nat} (h : Inv44 w0 M0 v r out W) (hg : W.grownBy W' row)
    (hr : ∀ k, row = some k → w0.heap.size ≤ k ∧ ∃ o : Obj, W.heap[k]? = some o ∧ o.isCells = false) : Inv44 w0 M0 v r out W' := by
  obtain ⟨M, h1, h2, h3, ⟨c2, E2, b1, b2, b3⟩, ⟨c3, E3, d1, d2, d3⟩, ⟨E, u, e1, e2, e3, e4⟩⟩ := h
  have hk : ∀ {g : Nat} {c : Array Value} {E : TypeId} {fr : Nat × Nat}, W.heap[g]? = some (.cells c E fr) → W'.heap[g]? = some (.cells c E fr) := fun {g c E fr} hc =>
    (grownBy_keeps_cells hg (fun k e => (hr k e).2) hc rfl).trans hc
  refine ⟨M, ⟨Tab.keep (w := W) (Mem.le_refl M) (fun j c t fr hc => ⟨c, fr, hk hc, rfl⟩) h1.1, fun b o x hx => ?_⟩, h2, ⟨?_, h3.mem⟩, ⟨c2, E2, hk b1, b2, b3⟩, ⟨c3, E3, hk d1, d2, d3⟩, ⟨E, u, hk e1, e2, e3, ?_⟩⟩
  · exact cell_kept (h1.2 b o x hx) hg (fun k e => (hr k e).2)
  · exact h3.below.grown hg h3.below.size (fun k e => (hr k e).1)
  · rcases e4 with e4 | ⟨g, n, cap, f1, f2, f3, f4, f5, f6, cur, E', p1, p2, p3, p4, p5⟩
    · exact .inl e4
    · exact .inr ⟨g, n, cap, f1, f2, f3, f4, Nat.lt_of_lt_of_le f5 hg.size, f6, cur, E', hk p1, p2, p3, p4, p5⟩
def κ44 (base : Nat) (g : Option Nat) : Nat → Option Nat := fun i => if i = 2 then some base else if i = 3 then some (base + 1) else if i = 5 then some (base + 2) else if i = 1000 then g else none
theorem inv44_rel {w0 : World} {M0 : Mem} {v : Dtrace_evidence} {r : Int} {out : List Int} {W : World} (h : Inv44 w0 M0 v r out W) {a : Act} {s : Int}
    (a2 : a.tmps.getD 2 undef = .pointer (some ⟨w0.heap.size, 0, none⟩)) (a3 : a.tmps.getD 3 undef = .pointer (some ⟨w0.heap.size + 1, 0, none⟩)) (a5 : a.tmps.getD 5 undef = .pointer (some ⟨w0.heap.size + 2, 0, none⟩)) (a6 : a.tmps.getD 6 undef = .int .u64 s) :
    ∃ κ M, Rel Tryz.prog w0.heap.size κ M (σ44 v r out s) a W ∧ (κ 2 = some w0.heap.size ∧ κ 3 = some (w0.heap.size + 1) ∧ κ 5 = some (w0.heap.size + 2)) ∧ M (w0.heap.size + 3) 0 = some (.int .i64 v.1) ∧ Grow M0 w0 M W ∧
      BoxAt M W w0.heap.size Ttrace_evidence v ∧ BoxAt M W (w0.heap.size + 1) (.int .u64) r := by
  obtain ⟨M, h1, h2, h3, hb2, hb3, ⟨E, u, e1, e2, e3, e4⟩⟩ := h
  obtain ⟨c2, E2, b1, b2, b3⟩ := hb2
  obtain ⟨c3, E3, d1, d2, d3⟩ := hb3
  obtain ⟨g, hg, hu⟩ : ∃ g : Option Nat, (∀ k, g = some k → w0.heap.size ≤ k ∧ k ≠ w0.heap.size ∧ k ≠ w0.heap.size + 1 ∧ k ≠ w0.heap.size + 2 ∧ k < W.heap.size) ∧
      (u = .slice none 0 0 ∨ ∃ k n cap, g = some k ∧ u = .slice (some ⟨k, 0, none⟩) n cap ∧ OwnBlk M W 1 k n cap) := by
    rcases e4 with e4 | ⟨g, n, cap, f1, f2, f3, f4, f5, f6, f7⟩
    · exact ⟨none, fun k e => (by cases e), .inl e4⟩
    · exact ⟨some g, fun k e => by cases e; exact ⟨f1, f2, f3, f4, f5⟩, .inr ⟨g, n, cap, rfl, f6, f7⟩⟩
  have l1 := (Array.getElem?_eq_some_iff.1 b1).1
  have l2 := (Array.getElem?_eq_some_iff.1 d1).1
  have l3 := (Array.getElem?_eq_some_iff.1 e1).1
  have ks : ∀ {i k : Nat}, κ44 w0.heap.size g i = some k → (i = 2 ∧ k = w0.heap.size) ∨ (i = 3 ∧ k = w0.heap.size + 1) ∨ (i = 5 ∧ k = w0.heap.size + 2) ∨ (i = 1000 ∧ g = some k) := by
    intro i k hi
    unfold κ44 at hi
    split at hi
    · cases hi; exact .inl ⟨by assumption, rfl⟩
    · split at hi
      · cases hi; exact .inr (.inl ⟨by assumption, rfl⟩)
      · split at hi
        · cases hi; exact .inr (.inr (.inl ⟨by assumption, rfl⟩))
        · split at hi
          · exact .inr (.inr (.inr ⟨by assumption, hi⟩))
          · cases hi
  refine ⟨κ44 w0.heap.size g, M, ⟨?_, ?_, h1, ?_, ?_, ?_, h3.below.size⟩, ⟨rfl, rfl, rfl⟩, h2, h3, ⟨c2, E2, b1, b2, b3⟩, ⟨c3, E3, d1, d2, d3⟩⟩
  · intro s' v' hs
    unfold σ44 at hs
    simp only at hs
    split at hs
    · cases hs; exact ⟨_, w0.heap.size, 0, rfl, rfl, rfl, a2⟩
    · cases hs; exact ⟨_, w0.heap.size + 1, 0, rfl, rfl, rfl, a3⟩
    · cases hs; exact ⟨_, w0.heap.size + 2, 0, rfl, rfl, rfl, a5⟩
    · cases hs; rw [a6]; exact ⟨rfl, OwnsC_nil⟩
    · cases hs
  · intro b B hB
    unfold σ44 at hB
    simp only at hB
    split at hB
    · cases hB; exact .mk (g := w0.heap.size) rfl b1 b2 OwnsC_nil b3
    · cases hB; exact .mk (g := w0.heap.size + 1) rfl d1 d2 OwnsC_nil d3
    · cases hB
      refine .mk (g := w0.heap.size + 2) (cur := #[u]) rfl e1 e2 ?_ e3
      intro p s hm
      simp only [List.mem_singleton, Prod.mk.injEq] at hm
      obtain ⟨rfl, rfl⟩ := hm
      refine ⟨0, .int .u64, u, by simp [offV], by rw [Ty.atP], rfl, rfl, ?_⟩
      rcases hu with hu | ⟨k, n, cap, rfl, q1, q2⟩
      · exact .inl hu
      · exact .inr ⟨k, n, cap, rfl, q1, q2⟩
    · cases hB
  · intro i j k hi hj
    rcases ks hi with ⟨rfl, rfl⟩ | ⟨rfl, rfl⟩ | ⟨rfl, rfl⟩ | ⟨rfl, e⟩ <;> rcases ks hj with ⟨rfl, e'⟩ | ⟨rfl, e'⟩ | ⟨rfl, e'⟩ | ⟨rfl, e'⟩ <;> first | rfl | omega | (have := hg _ e; omega) | (have := hg _ e'; omega)
  · intro i k hi
    rcases ks hi with ⟨rfl, rfl⟩ | ⟨rfl, rfl⟩ | ⟨rfl, rfl⟩ | ⟨rfl, e⟩
    · omega
    · omega
    · omega
    · have := hg _ e; omega
  · intro i B hB
    unfold σ44 at hB ⊢
    simp only at hB ⊢
    split at hB <;> first | rfl | cases hB
theorem out44_some {b b' : Bool} {σ : St} {x : List Int} (h : out44 b σ = some (b', x)) : b' = b ∧ σ.dirty 2 = false ∧ σ.dirty 3 = false ∧ σ.tok 2 = false ∧ σ.tok 3 = false ∧ ∃ k, σ.box 5 = some ⟨129, .slice (.int .u64), x, [([], some k)], false⟩ := by
  unfold out44 at h
  cases h1 : σ.dirty 2 <;> cases h2 : σ.dirty 3 <;> cases h3 : σ.tok 2 <;> cases h4 : σ.tok 3 <;> rw [h1, h2, h3, h4] at h <;> first | (cases h; done) | skip
  simp only [Bool.or_false, cond_false] at h
  split at h
  · rename_i x' k hb
    cases h
    exact ⟨rfl, rfl, rfl, rfl, rfl, _, hb⟩
  · cases h
theorem rel_inv44 {w0 : World} {M0 M M' : Mem} {v : Dtrace_evidence} {r : Int} {out o : List Int} {s : Int} {W W' : World} {a a' : Act} {κ κ' : Nat → Option Nat} {σ' : St} {ws : List Nat} {k : Nat}
    (hκ : κ 2 = some w0.heap.size ∧ κ 3 = some (w0.heap.size + 1) ∧ κ 5 = some (w0.heap.size + 2)) (hM : M (w0.heap.size + 3) 0 = some (.int .i64 v.1)) (hG : Grow M0 w0 M W)
    (hb2 : BoxAt M W w0.heap.size Ttrace_evidence v) (hb3 : BoxAt M W (w0.heap.size + 1) (.int .u64) r)
    (hR : Rel Tryz.prog w0.heap.size κ' M' σ' a' W') (hF : Fr w0.heap.size ws κ M (σ44 v r out s) a W κ' M' σ' a' W') (h2 : 2 ∉ ws) (h3 : 3 ∉ ws) (h5 : 5 ∉ ws)
    (d2 : σ'.dirty 2 = false) (d3 : σ'.dirty 3 = false) (t2 : σ'.tok 2 = false) (t3 : σ'.tok 3 = false) (hb : σ'.box 5 = some ⟨129, .slice (.int .u64), o, [([], some k)], false⟩) : Inv44 w0 M0 v r o W' := by
  obtain ⟨_, k2, j2⟩ := hF.ids 2 h2 d2
  obtain ⟨_, k3, j3⟩ := hF.ids 3 h3 d3
  obtain ⟨k5, _⟩ := hF.bx 5 h5 _ hb
  rw [hκ.1] at k2
  rw [hκ.2.1] at k3
  rw [hκ.2.2] at k5
  obtain ⟨i2, m2⟩ := j2 _ hκ.1
  obtain ⟨i3, m3⟩ := j3 _ hκ.2.1
  have t5 := hR.dis 5 _ hb
  refine ⟨M', hR.good, hF.le _ _ _ hM, ⟨hG.below.trans hF.below, fun b hlt => (hF.mem b hlt).trans (hG.mem b hlt)⟩, ?_, ?_, ?_⟩
  · obtain ⟨c, E, x1, x2, x3⟩ := hb2
    exact ⟨c, E, i2.trans x1, relC_mono _ hF.le _ _ x2, fun o => (m2 o).trans (x3 o)⟩
  · obtain ⟨c, E, x1, x2, x3⟩ := hb3
    exact ⟨c, E, i3.trans x1, relC_mono _ hF.le _ _ x2, fun o => (m3 o).trans (x3 o)⟩
  · obtain ⟨g, cur, E, x1, x2, x3, x4, x5⟩ := (hR.bx 5 _ hb).cells (flat_of rfl)
    rw [k5] at x1
    cases x1
    obtain ⟨off, e, u, y1, y2, y3, y4, y5⟩ := x4 [] (some k) (List.mem_singleton_self _)
    have e0 : off = 0 := by simpa [offV] using y1.symm
    have e1 : e = .int .u64 := by rw [Ty.atP] at y2; simpa using y2.symm
    subst e0 e1
    have hlen : cur.toList.length = 1 := relC_len (.slice (.int .u64)) M' o cur.toList x3
    have hcur : cur = #[u] := by
      apply Array.ext'
      match hc : cur.toList, hlen with
      | [c], _ =>
        rw [hc] at y3
        simp only [List.getElem?_cons_zero, Option.some.injEq] at y3
        rw [y3]
    subst hcur
    refine ⟨E, u, x2, x3, x5, ?_⟩
    rcases y5 with y5 | ⟨g, n, cap, z1, z2, z3⟩
    · exact .inl y5
    · have hkap := hR.kap _ _ z1
      refine .inr ⟨g, n, cap, hkap.1, ?_, ?_, ?_, hkap.2, z2, z3⟩
      · intro e; rw [e] at z1; have := hR.inj _ _ _ z1 k2; rw [this, t2] at y4; cases y4
      · intro e; rw [e] at z1; have := hR.inj _ _ _ z1 k3; rw [this, t3] at y4; cases y4
      · intro e; rw [e] at z1; have := hR.inj _ _ _ z1 k5; rw [this, t5] at y4; cases y4
end Go.Lift
