/-
  Single operations, third part.
-/
import Derived.Test.YtkoojmbkjgbdgaaGreatDoorLiftD
import Derived.Laws.Small
import Derived.Lib.SliceRun
set_option linter.unusedSectionVars false
set_option linter.unusedVariables false
set_option linter.unusedSimpArgs false
namespace Go.Lift
open Go Go.RowKit
variable [Tab] [Mf]
variable {P : Program} {Γ : Ctx} {base : Nat} {κ : Nat → Option Nat} {M : Mem} {σ : St} {a : Act} {w : World}
theorem ownTop_mem0 : ∀ {o : Own} {s : Option Nat}, ownTop o = some s → ([], s) ∈ o
  | [], _, h => by cases h
  | ([], s) :: _, _, h => by simp only [ownTop, Option.some.injEq] at h; subst h; exact List.mem_cons_self
  | (_ :: _, _) :: r, _, h => by simp only [ownTop] at h; exact List.mem_cons_of_mem _ (ownTop_mem0 h)
theorem run_callFunc {f : FuncId} (h : Enters P f) (args : Array Value) (w : World) : (callFunc f args).run P w = .ok (.enter f args) w := by
  obtain ⟨fn, h1, h2, h3⟩ := h
  simp only [callFunc, program, Sem.run_bind, Sem.run, Result.andThen_ok, h1, h3, h2, Bool.false_eq_true, if_false]
  rfl
theorem caps_data {caps : List Cap} {cs : List (Sigma Ty.den)} (h : capsData caps = some cs) {bo : Nat → Option Box} : ∀ {vs : List Value}, RelCaps P κ M bo caps vs → ∀ {M' : Mem}, Mem.le M M' → ∀ (a : Ty) (x : a.den) (u : Value), relV P a M' x u → relVs P M' (a :: cs.map fun c => .ptr c.1) (consArgs a x cs) (u :: vs) := by
  induction caps generalizing cs with
  | nil =>
    intro vs hv M' _ a x u hu
    simp only [capsData, Option.some.injEq] at h; subst h
    simp only [RelCaps] at hv; subst hv
    exact ⟨u, rfl, hu⟩
  | cons c r ih =>
    intro vs hv M' hM a x u hu
    cases c with
    | inl b => simp [capsData] at h
    | inr d =>
      simp only [capsData] at h
      split at h
      · rename_i l hl
        simp only [Option.some.injEq] at h; subst h
        obtain ⟨v, rest, rfl, h1, h2⟩ := hv
        exact ⟨u, v :: rest, rfl, hu, ih hl h2 hM (.ptr d.1) d.2 v (relV_mono hM h1)⟩
      · cases h
theorem closeFn_rel {s : Sig} {cs : List (Sigma Ty.den)} {ta tr : Ty} {φ : ta.den → Option tr.den} (h : closeFn s cs ta tr = some φ) (hs : Enters P s.f) (hF : FC P s) {caps : List Cap} (hd : capsData caps = some cs) {bo : Nat → Option Box} {vs : Array Value} (hv : RelCaps P κ M bo caps vs.toList) :
    relV P (.fn ta tr) M φ (.func (.func s.f) #[] vs) := by
  unfold closeFn at h
  split at h
  · rename_i h1
    split at h
    · rename_i h2
      simp only [Option.some.injEq] at h; subst h
      obtain ⟨f, ats, rts, run⟩ := s
      simp only at h1 h2
      subst h1 h2
      refine ⟨f, #[], vs, rfl, hs, fun M' w x y u hM hG hy hu => ?_⟩
      have hargs := caps_data hd hv hM ta x u hu
      have := hF (consArgs ta x cs) y hy M' w (u :: vs.toList) hG hargs
      have e : #[] ++ #[u] ++ vs = (u :: vs.toList).toArray := by apply Array.ext'; simp
      rw [e]; exact this
    · cases h
  · cases h
section
variable {T : TypeId} {d : TypeDesc}
theorem run_equalIn_nil1 (n : Nat) {ms} (h : P.underlying T = some (.interface ms)) (w : World) : (Op.equalIn (n + 1) T .nilIface .nilIface).run P w = .ok true w := by
  simp [Op.equalIn, run_underlying h]
theorem run_equalIn_nil2 (n : Nat) {ms} (h : P.underlying T = some (.interface ms)) (s : TypeId) (u : Value) (w : World) : (Op.equalIn (n + 1) T (.iface s u) .nilIface).run P w = .ok false w := by
  simp [Op.equalIn, run_underlying h]
theorem run_equal_nil1 {ms} (h : P.underlying T = some (.interface ms)) (w : World) : (Op.equal T .nilIface .nilIface).run P w = .ok true w := run_equalIn_nil1 9999 h w
theorem run_equal_nil2 {ms} (h : P.underlying T = some (.interface ms)) (s : TypeId) (u : Value) (w : World) : (Op.equal T (.iface s u) .nilIface).run P w = .ok false w := run_equalIn_nil2 9999 h s u w
end
section ops
variable (hR : Rel P base κ M σ a w) (hC : COk P Γ)
include hR hC
theorem arg_rel {x : Operand} {t : Ty} {y : t.den} (h : St.arg Γ σ x t = some y) : relV P t M y (a.eval x) := by
  unfold St.arg at h
  split at h
  · split at h
    · rename_i g
      split at h
      · rename_i s hs
        obtain ⟨h1, h2, h3⟩ := hC.sig g s hs
        subst h1
        exact closeFn_rel (κ := κ) (bo := σ.box) (vs := #[]) h h2 h3 (caps := []) rfl rfl
      · cases h
    · split at h
      · rename_i g caps hx
        split at h
        · rename_i s cs hs hcs
          obtain ⟨h1, h2, h3⟩ := hC.sig g s hs
          subst h1
          obtain ⟨vs, hv, hr⟩ := opd_rel hR hx
          rw [hv]
          exact closeFn_rel h h2 h3 hcs hr
        · cases h
      · exact get_rel hR h
  · split at h
    · simp only [Option.some.injEq] at h; subst h
      unfold relV viaCells
      simp only [Ty.agg, Bool.false_eq_true, if_false, relC]
      exact ⟨_, rfl, .inl ⟨rfl, trivial⟩⟩
    · exact get_rel hR h
  · exact get_rel hR h
theorem collect_rel : ∀ (ts : List Ty) (xs : List Operand) (x : Args ts), collect σ (St.arg Γ σ) ts xs = some x → relVs P M ts x (xs.map a.eval)
  | [], [], x, _ => rfl
  | [t], [y], x, h => by
    simp only [collect] at h
    exact ⟨_, rfl, arg_rel hR hC h⟩
  | t :: u :: r, y :: ys, x, h => by
    simp only [collect] at h
    split at h
    · rename_i v hv
      split at h
      · rename_i v' hv'
        simp only [Option.some.injEq] at h; subst h
        exact ⟨_, _, rfl, arg_rel hR hC hv, collect_rel (u :: r) ys v' hv'⟩
      · cases h
    · cases h
  | [], _ :: _, _, h => by simp [collect] at h
  | [_], [], _, h => by simp [collect] at h
  | [_], _ :: _ :: _, _, h => by simp [collect] at h
  | _ :: _ :: _, [], _, h => by simp [collect] at h
theorem ok_callFn {o : Oper} {c : Call} {f : FuncId} (hop : o.op = .call c) (hcal : c.callee = .value (.func f)) : EffOK P κ M w σ a o (eff Γ o σ) := by
  simp only [eff, hop, hcal]
  split
  · rename_i I hI
    split
    · rename_i x y hg hargs
      split
      · rename_i s sep hs hsep
        obtain ⟨h2, h3⟩ := hC.iters f I hI
        have hrun : (execOp a.eval o).run P w = .ok (.enter f (c.args.map a.eval)) w := by simp [execOp, hop, resolve, hcal, Act.eval, Deferred.ofValue, invoke, run_callFunc h2]
        have e1 : a.eval x = .string s := relV_str.1 (get_rel hR hs)
        have e2 : a.eval y = .string sep := relV_str.1 (get_rel hR hsep)
        have hm : c.args.map a.eval = #[.string s, .string sep] := by
          apply Array.ext'
          rw [Array.toList_map, hargs, List.map_cons, List.map_cons, List.map_nil, e1, e2]
        exact ⟨f, _, hrun, by rw [hm]; exact h3 s sep M w hR.good⟩
      · exact ok_fail
    · exact ok_fail
  split
  · rename_i s hs
    split
    · rename_i xs hxs
      obtain ⟨h1, h2, h3⟩ := hC.sig f s hs
      have hrun : (execOp a.eval o).run P w = .ok (.enter f (c.args.map a.eval)) w := by simp [execOp, hop, resolve, hcal, Act.eval, Deferred.ofValue, invoke, run_callFunc h2]
      have hargs : relVs P M s.ats xs (c.args.map a.eval).toList := by rw [Array.toList_map]; exact collect_rel hR hC _ _ _ hxs
      subst h1
      split
      · rename_i hn
        simp only [Bool.and_eq_true] at hn
        split
        · rename_i e he
          intro l hl
          have := hC.owns _ s hn.2 hs e xs l hl M w _ hR.good hargs
          rw [Array.toArray_toList] at this
          exact ⟨s.f, c.args.map a.eval, hrun, this⟩
        · exact ok_fail
      split
      · rename_i hn
        simp only [Bool.and_eq_true] at hn
        split
        · rename_i e he
          intro l hl
          have := hC.news _ s hn.1.2 hs e xs l hl M w _ hR.good hargs
          rw [Array.toArray_toList] at this
          exact ⟨s.f, c.args.map a.eval, hrun, this⟩
        · exact ok_fail
      · exact ⟨c.args.map a.eval, hrun, hargs, h3⟩
    · exact ok_fail
  · exact ok_fail
theorem collectC_rel : ∀ (ts : List Ty) (xs : List Operand) (cs : List (Sigma Ty.den)) (us : List Value) (x : Args ts), collectC σ (St.arg Γ σ) ts xs cs = some x → RelCaps P κ M σ.box (cs.map .inr) us → relVs P M ts x (xs.map a.eval ++ us)
  | [], [], [], us, x, _, hu => by have hu : us = [] := hu; subst hu; rfl
  | [t], [y], [], us, x, h, hu => by
    have hu : us = [] := hu
    subst hu
    simp only [collectC] at h
    exact ⟨_, rfl, arg_rel hR hC h⟩
  | [t], [], [c], us, x, h, hu => by
    obtain ⟨v, rest, rfl, h1, h2⟩ := hu
    have h2 : rest = [] := h2
    subst h2
    simp only [collectC] at h
    exact ⟨v, rfl, castTy_rel h h1⟩
  | t :: u :: r, y :: ys, cs, us, x, h, hu => by
    simp only [collectC] at h
    split at h
    · rename_i v v' hv hv'
      simp only [Option.some.injEq] at h; subst h
      exact ⟨_, _, rfl, arg_rel hR hC hv, collectC_rel (u :: r) ys cs us v' hv' hu⟩
    · cases h
  | t :: u :: r, [], c :: cs, us, x, h, hu => by
    obtain ⟨v0, rest, rfl, h1, h2⟩ := hu
    simp only [collectC] at h
    split at h
    · rename_i v v' hv hv'
      simp only [Option.some.injEq] at h; subst h
      exact ⟨_, _, rfl, castTy_rel hv h1, collectC_rel (u :: r) [] cs rest v' hv' h2⟩
    · cases h
  | [], _ :: _, _, _, _, h, _ => by simp [collectC] at h
  | [], [], _ :: _, _, _, h, _ => by simp [collectC] at h
  | [_], [], [], _, _, h, _ => by simp [collectC] at h
  | [_], [], _ :: _ :: _, _, _, h, _ => by simp [collectC] at h
  | [_], [_], _ :: _, _, _, h, _ => by simp [collectC] at h
  | [_], _ :: _ :: _, _, _, _, h, _ => by simp [collectC] at h
  | _ :: _ :: _, [], [], _, _, h, _ => by simp [collectC] at h
omit hR hC in
theorem capsData_map : ∀ {caps : List Cap} {cs : List (Sigma Ty.den)}, capsData caps = some cs → caps = cs.map .inr
  | [], cs, h => by simp only [capsData, Option.some.injEq] at h; subst h; rfl
  | .inr c :: r, cs, h => by
    simp only [capsData] at h
    split at h
    · rename_i l hl
      simp only [Option.some.injEq] at h; subst h
      rw [capsData_map hl]; rfl
    · cases h
  | .inl _ :: _, _, h => by simp only [capsData] at h; cases h
theorem ok_callDyn {o : Oper} {c : Call} {x : Operand} (hop : o.op = .call c) (hcal : c.callee = .value x) (hx : ∀ f, x ≠ .func f) : EffOK P κ M w σ a o (eff Γ o σ) := by
  have : eff Γ o σ = (match σ.opd x, c.args.toList with
      | some (.data (.fn a r) φ _), [y] => match AVal.get (σ.opd y) a with
        | some v => .dyn a r φ v
        | none => .fail
      | some (.clo g caps), ys => match Γ.sig g, capsData caps with
        | some s, some cs => match collectC σ (St.arg Γ σ) s.ats ys cs with
          | some xs => .call s xs
          | none => .fail
        | _, _ => .fail
      | _, _ => .fail) := by
    simp only [eff, hop, hcal]
    cases x with
    | func f => exact absurd rfl (hx f)
    | _ => rfl
  rw [this]
  split
  · rename_i ta tr φ own y hx' hy
    split
    · rename_i v hv
      intro z hz
      have h1 := data_eval hR hx'
      unfold relV viaCells at h1
      simp only [Ty.agg, Bool.false_eq_true, if_false, relC] at h1
      obtain ⟨g, first, cap, he, hent, hcall⟩ := h1
      simp only [List.cons.injEq, and_true] at he
      have hargs : c.args = #[y] := by
        apply Array.ext'
        rw [hy]
      refine ⟨g, first ++ #[a.eval y] ++ cap, ?_, hcall M w v z (a.eval y) (Mem.le_refl M) hR.good hz (get_rel hR hv)⟩
      simp [execOp, hop, resolve, hcal, he, Deferred.ofValue, invoke, run_callFunc hent, hargs]
    · exact ok_fail
  · rename_i g caps hx'
    split
    · rename_i s cs hs hcs
      split
      · rename_i xs hxs
        obtain ⟨h1, h2, h3⟩ := hC.sig g s hs
        obtain ⟨vs, he, hcap⟩ := opd_rel hR hx'
        rw [capsData_map hcs] at hcap
        have := collectC_rel hR hC s.ats c.args.toList cs vs.toList xs hxs hcap
        subst h1
        refine ⟨c.args.map a.eval ++ vs, ?_, by rw [Array.toList_append, Array.toList_map]; exact this, h3⟩
        simp [execOp, hop, resolve, hcal, he, Deferred.ofValue, invoke, run_callFunc h2]
      · exact ok_fail
    · exact ok_fail
  · exact ok_fail
omit hR hC in
theorem map_und {k v : Ty} {T : TypeId} (h : fits P (.mapT k v) (.inl T) = true) : ∃ K V, P.underlying T = some (.map K V) ∧ k.scal = true ∧ v.scal = true ∧ fits P k (.inl K) = true ∧ fits P v (.inl V) = true ∧ ∃ i, P.info? V = some i ∧ zeroS v i.zero = true := by
  unfold fits at h
  cases hi : P.info? T with
  | none => rw [hi] at h; cases h
  | some i =>
    cases hd : P.underlying T with
    | none => rw [hi, hd] at h; cases h
    | some d =>
      rw [hi, hd] at h
      simp only [Bool.and_eq_true] at h
      have h2 := h.2
      cases d <;> first | (cases h2; done) | skip
      rename_i K V
      simp only [Bool.and_eq_true] at h2
      refine ⟨K, V, rfl, h2.1.1.1.1, h2.1.1.1.2, h2.1.1.2, h2.1.2, ?_⟩
      have h3 := h2.2
      cases hv : P.info? V with
      | none => rw [hv] at h3; cases h3
      | some i' => rw [hv] at h3; exact ⟨i', rfl, h3⟩
omit hR hC in
theorem map_box {κ : Nat → Option Nat} {tk : Nat → Bool} {b : Nat} {tid : TypeId} {k v : Ty} {l : List (k.den × v.den)} {own : Own} (h : RelB P κ M w tk b ⟨tid, .mapT k v, l, own, true⟩) :
    ∃ g es c, κ b = some g ∧ w.heap[g]? = some (.map es c) ∧ relMap k v l es := by
  obtain ⟨g, h1, h2, ⟨cur, E, h3, h4, h5⟩ | ⟨tid', k', v', l', es, c, h3, h4, h5⟩⟩ := h
  · exact h4.elim
  · cases h3
    exact ⟨g, es, c, h1, h4, h5.1⟩
theorem ok_len {o : Oper} {c : Call} (hop : o.op = .call c) (hcal : c.callee = .builtin .len) : EffOK P κ M w σ a o (eff Γ o σ) := by
  simp only [eff, hop, hcal]
  split
  · rename_i x T hx hT
    have hargs : c.args = #[x] := by apply Array.ext'; rw [hx]
    have htys : c.argTypes = #[T] := by apply Array.ext'; rw [hT]
    split
    · rename_i e l own e' hl ht
      obtain ⟨E, hE, _⟩ := fits_slice (hC.ty T _ ht)
      have hx' := data_eval hR hl
      unfold relV viaCells at hx'
      simp only [Ty.agg, Bool.false_eq_true, if_false, relC] at hx'
      obtain ⟨v, hv, hx'⟩ := hx'
      simp only [List.cons.injEq, and_true] at hv
      refine ⟨_, ?_, data_int⟩
      rcases hx' with ⟨hb, hl⟩ | ⟨b, off, cap, cells, hb, _⟩ | ⟨ad, cap, hb, hl⟩
      · subst hl
        simp [execOp, hop, resolve, hcal, hargs, htys, hv, hb, invoke, builtin, Builtin.len_, run_underlying hE, goInt]
      · simp [execOp, hop, resolve, hcal, hargs, htys, hv, hb, invoke, builtin, Builtin.len_, run_underlying hE, goInt]
      · subst hl
        simp [execOp, hop, resolve, hcal, hargs, htys, hv, hb, invoke, builtin, Builtin.len_, run_underlying hE, goInt]
    · rename_i s own hl ht
      have hu := fits_str (hC.ty T _ ht)
      have hv := relV_str.1 (data_eval hR hl)
      exact ⟨_, by simp [execOp, hop, resolve, hcal, hargs, htys, hv, invoke, builtin, Builtin.len_, run_underlying hu, goInt], data_int⟩
    · rename_i b e' hl ht
      obtain ⟨E, hE, _⟩ := fits_slice (hC.ty T _ ht)
      split
      · rename_i tid e l own hB
        obtain ⟨tid', e2, l2, own2, g, cap, g1, g2, _, g3⟩ := opd_rel hR hl
        rw [hB] at g1
        simp only [Option.some.injEq, Box.mk.injEq, Ty.slice.injEq] at g1
        obtain ⟨_, rfl, hl, _, _⟩ := g1
        have hl := eq_of_heq hl
        subst hl
        exact ⟨_, by simp [execOp, hop, resolve, hcal, hargs, htys, g3, invoke, builtin, Builtin.len_, run_underlying hE, goInt], data_int⟩
      · exact ok_fail
    · rename_i b kt vt hl ht
      split
      · rename_i tid k v l own hB
        obtain ⟨K, V, hE, _⟩ := map_und (hC.ty T _ ht)
        obtain ⟨tid', k2, v2, l2, own2, g, g1, g2, g3⟩ := opd_rel hR hl
        obtain ⟨g', es, c', h1, h2, h3⟩ := map_box (hR.bx b _ hB)
        rw [g2] at h1; cases h1
        have hn : es.size = l.length := by have := congrArg List.length h3; simpa using this
        refine ⟨_, ?_, data_int⟩
        have hget : (getObj g).run P w = .ok (Obj.map es c') w := by simp [getObj, Sem.run, h2]
        simp [execOp, hop, resolve, hcal, hargs, htys, g3, invoke, builtin, Builtin.len_, run_underlying hE, goInt, hget, hn]
      · exact ok_fail
    · exact ok_fail
  · exact ok_fail
omit hC in
theorem ok_max {o : Oper} {c : Call} (hop : o.op = .call c) (hcal : c.callee = .builtin .max) : EffOK P κ M w σ a o (eff Γ o σ) := by
  simp only [eff, hop, hcal]
  split
  · rename_i x y hx
    have hargs : c.args = #[x, y] := by apply Array.ext'; rw [hx]
    split
    · rename_i k p own j q own' hp hq
      split
      · rename_i hkj; subst hkj
        have h1 := relV_int.1 (data_eval hR hp)
        have h2 := relV_int.1 (data_eval hR hq)
        refine ⟨.int k (imax p q), ?_, data_int⟩
        simp [execOp, hop, resolve, hcal, hargs, h1, h2, invoke, builtin, Builtin.max_, Builtin.max2, imax]
      · exact ok_fail
    · exact ok_fail
  · exact ok_fail
omit hC in
theorem ok_min {o : Oper} {c : Call} (hop : o.op = .call c) (hcal : c.callee = .builtin .min) : EffOK P κ M w σ a o (eff Γ o σ) := by
  simp only [eff, hop, hcal]
  split
  · rename_i x y hx
    have hargs : c.args = #[x, y] := by apply Array.ext'; rw [hx]
    split
    · rename_i k p own j q own' hp hq
      split
      · rename_i hkj; subst hkj
        have h1 := relV_int.1 (data_eval hR hp)
        have h2 := relV_int.1 (data_eval hR hq)
        refine ⟨.int k (imin p q), ?_, data_int⟩
        simp [execOp, hop, resolve, hcal, hargs, h1, h2, invoke, builtin, Builtin.min_, Builtin.min2, imin]
      · exact ok_fail
    · exact ok_fail
  · exact ok_fail
omit hR hC in
theorem run_guard_int (op : BinOp) (T : TypeId) (x y : Operand) (k j : IntKind) (p q : Int) (w : World) : (eqGuard op T x y (.int k p) (.int j q)).run P w = .ok () w := by
  unfold eqGuard
  cases op <;> rfl
omit hC in
theorem ok_intBin {o : Oper} {op : BinOp} {T U : TypeId} {x y : Operand} {k : IntKind} {p q : Int} (hop : o.op = .binOp op T x y U) (hx : a.eval x = .int k p) (hy : a.eval y = .int k q) : EffOK P κ M w σ a o (intBin op k p q) := by
  have hg := run_guard_int (P := P) op T x y k k p q w
  cases op <;> unfold intBin <;> try exact ok_fail
  all_goals first
    | (intro hc
       have hc : q ≠ 0 := by simpa using hc
       exact ⟨_, by simp [execOp, hop, hx, hy, hg, binOp, Op.intDiv, hc], data_int⟩)
    | exact ⟨_, by simp [execOp, hop, hx, hy, hg, binOp, Op.intArith, Op.intBits, Op.intCmp], data_int⟩
    | exact ⟨_, by simp [execOp, hop, hx, hy, hg, binOp, Op.intArith, Op.intBits, Op.intCmp], data_bool⟩
omit hC in
theorem ok_intShift {o : Oper} {op : BinOp} {T U : TypeId} {x y : Operand} {k j : IntKind} {p q : Int} (hop : o.op = .binOp op T x y U) (hx : a.eval x = .int k p) (hy : a.eval y = .int j q) : EffOK P κ M w σ a o (intShift op k p q) := by
  have hg := run_guard_int (P := P) op T x y k j p q w
  cases op <;> unfold intShift <;> try exact ok_fail
  all_goals
    intro hc
    have hc : 0 ≤ q := by simpa using hc
    have hn : ¬ q < 0 := by omega
    exact ⟨_, by simp [execOp, hop, hx, hy, hg, binOp, Op.shift, hn], data_int⟩
theorem ok_binOp {o : Oper} {op : BinOp} {T U : TypeId} {x y : Operand} (hop : o.op = .binOp op T x y U) : EffOK P κ M w σ a o (eff Γ o σ) := by
  simp only [eff, hop]
  split
  · rename_i k p own j q own' hp hq
    have h1 := relV_int.1 (data_eval hR hp)
    have h2 := relV_int.1 (data_eval hR hq)
    split
    · exact ok_intShift hR hop h1 h2
    · exact ok_intShift hR hop h1 h2
    · split
      · rename_i hkj; subst hkj; exact ok_intBin hR hop h1 h2
      · exact ok_fail
  · rename_i p own q own' hp hq
    have h1 := relV_str.1 (data_eval hR hp)
    have h2 := relV_str.1 (data_eval hR hq)
    have hg : ∀ op, (eqGuard op T x y (.string p) (.string q)).run P w = .ok () w := by intro op; unfold eqGuard; cases op <;> rfl
    split
    · intro hsz
      have : ¬ (((p.size + q.size : Nat) : Int) > IntKind.i64.max) := by
        simp only [IntKind.max, IntKind.signed, IntKind.bits]; simp; omega
      simp only [execOp, hop, h1, h2, Sem.run_bind, hg, Result.andThen_ok, binOp, Op.stringOp, if_neg this, Sem.run_pure]
    · exact ⟨_, by simp only [execOp, hop, h1, h2, Sem.run_bind, hg, Result.andThen_ok, binOp, Op.stringOp, Sem.run_pure]; rfl, data_bool⟩
    · exact ⟨_, by simp only [execOp, hop, h1, h2, Sem.run_bind, hg, Result.andThen_ok, binOp, Op.stringOp, Sem.run_pure]; rfl, data_bool⟩
    · exact ok_fail
  · rename_i t p own u q own' hni hns hp hq
    split
    · rename_i t' ht
      split
      · rename_i hc
        obtain ⟨rfl, hc⟩ := hc
        split
        · rename_i q' hq'
          obtain ⟨rfl, rfl⟩ := castTy_some hq'
          have h1 := data_eval hR hp
          have h2 := data_eval hR hq
          have key : (do eqGuard .eql T x y (a.eval x) (a.eval y); binOp .eql T (a.eval x) (a.eval y) : Sem Value).run P w = .ok (.bool (u.eqb p q')) w ∧ (do eqGuard .neq T x y (a.eval x) (a.eval y); binOp .neq T (a.eval x) (a.eval y) : Sem Value).run P w = .ok (.bool (!u.eqb p q')) w := by
            rcases hc with rfl | hc
            · have hu := fits_bool (hC.ty T _ ht)
              have e1 := relV_bool.1 h1
              have e2 := relV_bool.1 h2
              rw [e1, e2]
              have he := run_equal_bool (P := P) w T p q' hu
              constructor
              · simp only [Sem.run_bind]
                rw [show (eqGuard .eql T x y (.bool p) (.bool q')).run P w = .ok () w from rfl]
                simp only [Result.andThen_ok, binOp, Sem.run_bind, he, Sem.run_pure]; rfl
              · simp only [Sem.run_bind]
                rw [show (eqGuard .neq T x y (.bool p) (.bool q')).run P w = .ok () w from rfl]
                simp only [Result.andThen_ok, binOp, Sem.run_bind, he, Sem.run_pure]; rfl
            · exact hC.eq T u hc ht M p q' (a.eval x) (a.eval y) w x y h1 h2
          simp only [Sem.run_bind] at key
          split
          · refine ⟨_, ?_, data_bool⟩
            simp only [execOp, hop, Sem.run_bind, key.1, Result.andThen_ok, Sem.run_pure]
          · refine ⟨_, ?_, data_bool⟩
            simp only [execOp, hop, Sem.run_bind, key.2, Result.andThen_ok, Sem.run_pure]
          · exact ok_fail
        · exact ok_fail
      · exact ok_fail
    · exact ok_fail
  · rename_i p own hp hq
    split
    · rename_i ht
      have hui : ∃ ms, P.underlying T = some (.interface ms) := by
        have hf := hC.ty T _ ht
        unfold fits at hf
        split at hf
        · rename_i i d hi hd
          simp only [Bool.and_eq_true] at hf
          cases d <;> first | exact ⟨_, hd⟩ | exact absurd hf.2 Bool.false_ne_true
        · cases hf
      obtain ⟨ms, hms⟩ := hui
      have h1 := data_eval hR hp
      unfold relV viaCells at h1
      simp only [Ty.agg, Bool.false_eq_true, if_false, relC] at h1
      obtain ⟨v, hv, hv1, hv2⟩ := h1
      simp only [List.cons.injEq, and_true] at hv
      have key : (Op.equal T v .nilIface).run P w = .ok p w ∧ ∀ op, (eqGuard op T x (.const .nilIface) v .nilIface).run P w = .ok () w := by
        cases p with
        | true =>
          rw [hv1 rfl]
          refine ⟨run_equal_nil1 hms w, fun op => ?_⟩
          unfold eqGuard
          cases op <;> simp
        | false =>
          obtain ⟨s, u, hsu⟩ := hv2 rfl
          rw [hsu]
          refine ⟨run_equal_nil2 hms s u w, fun op => ?_⟩
          unfold eqGuard
          cases op <;> rfl
      have hb : (binOp .eql T v .nilIface).run P w = .ok (.bool p) w ∧ (binOp .neq T v .nilIface).run P w = .ok (.bool (!p)) w := by
        have hk := key.1
        cases p with
        | true =>
          rw [hv1 rfl] at hk ⊢
          constructor <;> simp only [binOp, Sem.run_bind, hk, Result.andThen_ok, Sem.run_pure]
        | false =>
          obtain ⟨s, u, hsu⟩ := hv2 rfl
          rw [hsu] at hk ⊢
          constructor <;> simp only [binOp, Sem.run_bind, hk, Result.andThen_ok, Sem.run_pure]
      split
      · refine ⟨_, ?_, data_bool⟩
        simp only [execOp, hop, Sem.run_bind, hv, show a.eval (.const .nilIface) = .nilIface from rfl, key.2, Result.andThen_ok, hb.1, Sem.run_pure]
      · refine ⟨_, ?_, data_bool⟩
        simp only [execOp, hop, Sem.run_bind, hv, show a.eval (.const .nilIface) = .nilIface from rfl, key.2, Result.andThen_ok, hb.2, Sem.run_pure]
      · exact ok_fail
    · exact ok_fail
  · rename_i e l own hp hq
    split
    · rename_i ht
      obtain ⟨E, hE, hfE⟩ := fits_slice (hC.ty T _ ht)
      obtain ⟨h1, ho⟩ := opd_rel hR hp
      have hel : P.elem T = E := by simp [Program.elem, hE]
      split
      · split
        · rename_i hto
          obtain ⟨off, e2, v, o1, o2, o3, o4⟩ := ho _ _ (ownTop_mem0 hto)
          simp only [offV, Option.some.injEq] at o1; subst o1
          have hv : a.eval x = .slice none 0 0 := by
            have h2 := relV_cells h1
            obtain ⟨v', hv1, hv2⟩ := h2
            have hve : a.eval x = v' := by
              have h := ofCells_cells h1
              rw [hv1] at h
              exact h.symm
            rw [hv1] at o3
            simp only [List.getElem?_cons_zero, Option.some.injEq] at o3
            rw [hve, o3]
            exact o4
          refine ⟨.bool true, ?_, data_bool⟩
          simp only [execOp, hop, Sem.run_bind, hv, show a.eval (.const (.slice none 0 0)) = .slice none 0 0 from rfl, eqGuard, Bool.not_true, Bool.false_eq_true, if_false, Sem.run_pure, Result.andThen_ok, Lib.run_eql_slice_nil w T E none 0 0 0 0 hE, Option.isNone_none]
        · intro hc
          unfold relV viaCells at h1
          simp only [Ty.agg, Bool.false_eq_true, if_false, relC] at h1
          obtain ⟨v, hv, h1⟩ := h1
          simp only [List.cons.injEq, and_true] at hv
          have hsome : ∃ ad n cap, a.eval x = .slice (some ad) n cap := by
            rcases h1 with ⟨_, rfl⟩ | ⟨b, off, cap, cells, rfl, _⟩ | ⟨_, _, _, rfl⟩
            · cases hc
            · exact ⟨_, _, _, hv⟩
            · cases hc
          obtain ⟨ad, n, cap, hv⟩ := hsome
          refine ⟨.bool false, ?_, data_bool⟩
          simp only [execOp, hop, Sem.run_bind, hv, show a.eval (.const (.slice none 0 0)) = .slice none 0 0 from rfl, eqGuard, Bool.not_true, Bool.false_eq_true, if_false, Sem.run_pure, Result.andThen_ok, Lib.run_eql_slice_nil w T E (some ad) n cap 0 0 hE, Option.isNone_some]
      · exact ok_fail
    · exact ok_fail
  · exact ok_fail
end ops
end Go.Lift
