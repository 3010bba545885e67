/-
  What it means that memory represents pure values.
-/
import Derived.Test.YtkoojmbkjgbdgaaGreatDoorLiftA
import Derived.OrdersIn
import Derived.Below
import Derived.Laws.AppendOwn
import Derived.RangeFuncFrom
import Derived.RangeFuncLeaves
import Derived.RangeFuncBound
set_option linter.unusedSectionVars false
set_option linter.unusedVariables false
set_option linter.unusedSimpArgs false
namespace Go.Lift
open Go Go.RowKit
def isC : Obj → Bool
  | .cells .. => true
  | _ => false
def keepO [Mf] : Obj → Bool
  | .cells .. => false
  | .map .. => !Mf.on
  | _ => true
theorem keepO_c [Mf] {o : Obj} (h : isC o = true) : keepO o = false := by cases o <;> first | rfl | cases h
theorem keepO_off [Mf] {o : Obj} (hm : Mf.on = false) (h : isC o = false) : keepO o = true := by
  cases o <;> first | rfl | (simp [keepO, hm]; done) | cases h
abbrev Mem := Nat → Nat → Option Value
def Mem.le (M M' : Mem) : Prop := ∀ b o v, M b o = some v → M' b o = some v
theorem Mem.le_refl (M : Mem) : Mem.le M M := fun _ _ _ h => h
theorem Mem.le_trans {A B C : Mem} (h : Mem.le A B) (k : Mem.le B C) : Mem.le A C := fun b o v x => k b o v (h b o v x)
theorem old_alloc (w : World) (o : Obj) (i : Nat) (h : i < w.heap.size) : (w.alloc o).heap[i]? = w.heap[i]? := Below.heap_alloc w o i h
def SameSizes (w w' : World) : Prop := ∀ (j : Nat) (c : Array Value) (t : TypeId) (fr : Nat × Nat), w.heap[j]? = some (.cells c t fr) → ∃ c' fr', w'.heap[j]? = some (.cells c' t fr') ∧ c'.size = c.size
theorem SameSizes.refl (w : World) : SameSizes w w := fun _ c _ fr h => ⟨c, fr, h, rfl⟩
def KeepM (M : Mem) (A B : World) : Prop := ∀ b o v, M b o = some v → A.cell? ⟨b, o, none⟩ = some v → B.cell? ⟨b, o, none⟩ = some v
theorem KeepM.trans {M : Mem} {A B C : World} (h : KeepM M A B) (k : KeepM M B C) : KeepM M A C := fun b o v x y => k b o v x (h b o v x y)
theorem KeepM.anti {M M' : Mem} (hM : Mem.le M M') {A B : World} (h : KeepM M' A B) : KeepM M A B := fun b o v x y => h b o v (hM b o v x) y
def Yields (P : Program) {X : Type} (enc : X → Value) (M : Mem) (xs : List X) (gf : Nat) (lb : Array Value) : Prop :=
  (∀ args w, (callFunc gf args).run P w = .ok (.enter gf args) w) ∧
    ∀ (F : Fence) (n : Nat) (w : World), F.depth = none → (∀ f, F.fn f) → F.round = none → (∀ b o v, M b o = some v → w.cell? ⟨b, o, none⟩ = some v) →
      SeqStopsK F n P gf lb (fun x : {x : X // x ∈ xs} => #[enc x.1]) (KeepM M) (fun ys => ys.map (·.1) = xs) (fun ys => ys.map (·.1) <+: xs) xs.length w
theorem SeqStopsK.keeps {α : Type} {F : Fence} {n : Nat} {P : Program} {g : Nat} {lb : Array Value} {encs : α → Array Value} {Kp Kp' : World → World → Prop} {S Sp : List α → Prop} {N : Nat} {w : World}
    (h : SeqStopsK F n P g lb encs Kp S Sp N w) (hk : ∀ A B, Kp' A B → Kp A B) : SeqStopsK F n P g lb encs Kp' S Sp N w :=
  fun l J Jx W hW hJ hJx hY h0 => h l J Jx W hW hJ hJx (fun pre x W1 hj hl => YieldAt.mono (hY pre x W1 hj hl) fun e W' he => he.imp (fun ⟨a, b, c⟩ => ⟨a, b, hk _ _ c⟩) id) h0
theorem Yields.mono {P : Program} {X : Type} {enc : X → Value} {M M' : Mem} (hM : Mem.le M M') {xs : List X} {gf : Nat} {lb : Array Value} (h : Yields P enc M xs gf lb) : Yields P enc M' xs gf lb :=
  ⟨h.1, fun F n w h1 h2 h3 h4 => SeqStopsK.keeps (h.2 F n w h1 h2 h3 fun b o v hv => h4 b o v (hM b o v hv)) fun _ _ hk => KeepM.anti hM hk⟩
structure OwnStep (g : Nat) (W W' : World) : Prop where
  below : Below 0 W W'
  size : W'.heap.size = W.heap.size
  same : ∀ j, j ≠ g → W'.heap[j]? = W.heap[j]?
  own : ∃ s s' E, W.heap[g]? = some (.cells #[.string s] E (0, 0)) ∧ W'.heap[g]? = some (.cells #[.string s'] E (0, 0))
def IterAt (P : Program) {X : Type} (enc : X → Value) (M : Mem) (gf : Nat) (lb : Array Value) (g : Nat) (Fs : ByteArray → Option (List X)) : Prop :=
  (∀ args w, (callFunc gf args).run P w = .ok (.enter gf args) w) ∧
    ∀ (s : ByteArray) (xs : List X), Fs s = some xs → ∀ (F : Fence) (n : Nat) (l : Nat) (J Jx : List X → World → Prop) (W : World) (E : TypeId), F.depth = none → (∀ f, F.fn f) → F.alive = false → F.round = none → (∀ b o v, M b o = some v → W.cell? ⟨b, o, none⟩ = some v) →
      W.heap[g]? = some (.cells #[.string s] E (0, 0)) → (∀ o, M g o = none) → AbidesFrom W.heap.size J → AbidesFrom W.heap.size Jx → (∀ pre A B, J pre A → OwnStep g A B → J pre B) →
      (∀ pre x W1, J pre W1 → pre ++ [x] <+: xs → YieldAt F (n - 1) P l #[enc x] W1 fun e W' =>
        (e = .returned (.bool true) ∧ J (pre ++ [x]) W' ∧ KeepM M W1 W' ∧ W'.heap[g]? = W1.heap[g]?) ∨ (e = .returned (.bool false) ∧ Jx (pre ++ [x]) W')) →
      J [] W → CallsIn F n P gf (#[.func (.yield l) #[] #[]] ++ lb) W fun e W' => (∃ v, e = .returned v) ∧ (J xs W' ∨ ∃ pre, pre <+: xs ∧ Jx pre W')
theorem IterAt.mono {P : Program} {X : Type} {enc : X → Value} {M M' : Mem} (hM : Mem.le M M') {gf : Nat} {lb : Array Value} {g : Nat} {Fs : ByteArray → Option (List X)} (h : IterAt P enc M gf lb g Fs) : IterAt P enc M' gf lb g Fs :=
  ⟨h.1, fun s xs hs F n l J Jx W E h1 h2 ha h3 h4 h5 h6 h7 h8 h9 hY h0 => h.2 s xs hs F n l J Jx W E h1 h2 ha h3 (fun b o v hv => h4 b o v (hM b o v hv)) h5 (fun o => by
    cases hc : M g o with
    | none => rfl
    | some v => have := hM g o v hc; rw [h6] at this; cases this) h7 h8 h9
    (fun pre x W1 hj hp => YieldAt.mono (hY pre x W1 hj hp) fun e W' he => he.imp (fun ⟨a, b, c, d⟩ => ⟨a, b, KeepM.anti hM c, d⟩) id) h0⟩
class Tab where
  T : Mem → World → Prop
  keep : ∀ {M M' : Mem} {w w' : World}, Mem.le M M' → SameSizes w w' → T M w → T M' w'
  vars : ∀ {M : Mem} {w : World}, T M w → ∀ g x, gvar g = some x → M g 0 = some (.int .i64 x.1) ∧ M g 1 = some (.int .i64 x.2)
variable [Tab]
def Good (M : Mem) (w : World) : Prop := Tab.T M w ∧ ∀ b o v, M b o = some v → w.cell? ⟨b, o, none⟩ = some v
def Mem.has (M : Mem) (b off : Nat) (cells : List Value) : Prop := ∀ j u, cells[j]? = some u → M b (off + j) = some u
structure Grow (M : Mem) (w : World) (M' : Mem) (w' : World) : Prop where
  below : Below w.heap.size w w'
  mem : ∀ b, b < w.heap.size → M' b = M b
def CallsTo (P : Program) (g : FuncId) (args : Array Value) (M : Mem) (w : World) (R : Mem → Value → Prop) : Prop :=
  Calls P g args w fun e w' => ∃ M' v, e = .returned v ∧ R M' v ∧ Good M' w' ∧ Grow M w M' w'
def Enters (P : Program) (f : FuncId) : Prop := ∃ fn, P.funcs[f]? = some fn ∧ fn.body.isNone = false ∧ (fn.name == "runtime.NumGoroutine") = false
def viaCells (agg : Bool) (R : List Value → Prop) (v : Value) : Prop :=
  if agg then ∃ cs : Array Value, v = .agg cs ∧ R cs.toList else R [v]
def GrowClosed {β : Type} (J : β → Mem → World → Prop) : Prop := ∀ s N W N' W', J s N W → Good N' W' → Grow N W N' W' → J s N' W'
def SeqAt (P : Program) {X : Type} (R : Mem → X → Value → Prop) (M : Mem) (xs : List X) (gf : Nat) (lb : Array Value) : Prop :=
  (∀ args w, (callFunc gf args).run P w = .ok (.enter gf args) w) ∧
    ∀ (F : Fence) (n l : Nat) (J Jx : List X → Mem → World → Prop) (M0 : Mem) (W : World), Mem.le M M0 → F.depth = none → (∀ f, F.fn f) → F.alive = false → F.round = none →
      (∀ pre N W, J pre N W → Good N W) → (∀ pre N W, Jx pre N W → Good N W) → GrowClosed J → GrowClosed Jx →
      (∀ pre x N W1 v, J pre N W1 → pre ++ [x] <+: xs → R N x v → YieldAt F (n - 1) P l #[v] W1 fun e W' =>
        ∃ N', Mem.le N N' ∧ ((e = .returned (.bool true) ∧ J (pre ++ [x]) N' W') ∨ (e = .returned (.bool false) ∧ Jx (pre ++ [x]) N' W'))) →
      J [] M0 W → CallsIn F n P gf (#[.func (.yield l) #[] #[]] ++ lb) W fun e W' => (∃ v, e = .returned v) ∧ ∃ N', Mem.le M0 N' ∧ (J xs N' W' ∨ ∃ pre, pre <+: xs ∧ Jx pre N' W')
theorem SeqAt.mono {P : Program} {X : Type} {R : Mem → X → Value → Prop} {M M' : Mem} (hM : Mem.le M M') {xs : List X} {gf : Nat} {lb : Array Value} (h : SeqAt P R M xs gf lb) : SeqAt P R M' xs gf lb :=
  ⟨h.1, fun F n l J Jx M0 W h1 => h.2 F n l J Jx M0 W (Mem.le_trans hM h1)⟩
def relC (P : Program) : (t : Ty) → Mem → t.den → List Value → Prop
  | .int k, _, x, cs => cs = [.int k x]
  | .bool, _, x, cs => cs = [.bool x]
  | .str, _, x, cs => cs = [.string x]
  | .unit, _, _, cs => cs = []
  | .err, _, x, cs => ∃ v, cs = [v] ∧ (x = true → v = .nilIface) ∧ (x = false → ∃ t u, v = .iface t u)
  | .one t, M, x, cs => relC P t M x cs
  | .pair a b, M, x, cs => relC P a M x.1 (cs.take a.size) ∧ relC P b M x.2 (cs.drop a.size)
  | .arr n e, M, x, cs => cs.length = n * e.size ∧ ∀ i, i < n → relC P e M (x i) ((cs.drop (i * e.size)).take e.size)
  | .slice e, M, x, cs => ∃ v, cs = [v] ∧ ((v = .slice none 0 0 ∧ x = []) ∨
      (∃ b off cap cells, v = .slice (some ⟨b, off, none⟩) x.length cap ∧ x.length ≤ cap ∧ cells.length = x.length * e.size ∧ M.has b off cells ∧
        (∀ i (h : i < x.length), relC P e M x[i] ((cells.drop (i * e.size)).take e.size))) ∨ ∃ a cap, v = .slice (some a) 0 cap ∧ x = [])
  | .ptr t, M, x, cs => ∃ b off cells, cs = [.pointer (some ⟨b, off, none⟩)] ∧ relC P t M x cells ∧ M.has b off cells
  | .fn a r, M, φ, cs => ∃ g first cap, cs = [.func (.func g) first cap] ∧ Enters P g ∧
      ∀ M' w x y u, Mem.le M M' → Good M' w → φ x = some y → viaCells a.agg (relC P a M' x) u →
        CallsTo P g (first ++ #[u] ++ cap) M' w fun M'' v => viaCells r.agg (relC P r M'' y) v
  | .seq e, M, xs, cs => ∃ gf lb, cs = [.func (.func gf) #[] lb] ∧ SeqAt P (fun M' x v => viaCells e.agg (relC P e M' x) v) M xs gf lb
  | .mapT _ _, _, _, _ => False
def relV (P : Program) (t : Ty) (M : Mem) (x : t.den) (v : Value) : Prop := viaCells t.agg (relC P t M x) v
variable {P : Program}
theorem relC_len : ∀ (t : Ty) (M : Mem) (x : t.den) (cs : List Value), relC P t M x cs → cs.length = t.size
  | .int _, _, _, _, h => by rw [relC] at h; rw [h]; rfl
  | .bool, _, _, _, h => by rw [relC] at h; rw [h]; rfl
  | .str, _, _, _, h => by rw [relC] at h; rw [h]; rfl
  | .unit, _, _, _, h => by rw [relC] at h; rw [h]; rfl
  | .err, _, _, _, h => by obtain ⟨v, h, _⟩ := h; rw [h]; rfl
  | .one t, M, x, cs, h => relC_len t M x cs h
  | .pair a b, M, x, cs, h => by
    have h1 := relC_len a M x.1 _ h.1
    have h2 := relC_len b M x.2 _ h.2
    simp only [List.length_take, List.length_drop] at h1 h2
    simp only [Ty.size]; omega
  | .arr _ _, _, _, _, h => h.1
  | .slice _, _, _, _, h => by obtain ⟨v, h, _⟩ := h; rw [h]; rfl
  | .ptr _, _, _, _, h => by obtain ⟨_, _, _, h, _⟩ := h; rw [h]; rfl
  | .fn _ _, _, _, _, h => by obtain ⟨_, _, _, h, _⟩ := h; rw [h]; rfl
  | .seq _, _, _, _, h => by obtain ⟨_, _, h, _⟩ := h; rw [h]; rfl
  | .mapT _ _, _, _, _, h => h.elim
theorem Mem.has.mono {M M' : Mem} (hM : Mem.le M M') {b off : Nat} {cells : List Value} (h : M.has b off cells) : M'.has b off cells :=
  fun j u hj => hM _ _ _ (h j u hj)
theorem relC_mono : ∀ (t : Ty) {M M' : Mem} (_ : Mem.le M M') (x : t.den) (cs : List Value), relC P t M x cs → relC P t M' x cs
  | .int _, _, _, _, _, _, h => h
  | .bool, _, _, _, _, _, h => h
  | .str, _, _, _, _, _, h => h
  | .unit, _, _, _, _, _, h => h
  | .err, _, _, _, _, _, h => h
  | .one t, _, _, hM, x, cs, h => relC_mono t hM x cs h
  | .pair a b, _, _, hM, x, _, h => ⟨relC_mono a hM x.1 _ h.1, relC_mono b hM x.2 _ h.2⟩
  | .arr _ e, _, _, hM, x, _, h => ⟨h.1, fun i hi => relC_mono e hM (x i) _ (h.2 i hi)⟩
  | .slice e, _, _, hM, x, _, h => by
    obtain ⟨v, hv, h⟩ := h
    refine ⟨v, hv, h.imp id (Or.imp ?_ id)⟩
    rintro ⟨b, off, cap, cells, h1, h2, h3, h4, h5⟩
    exact ⟨b, off, cap, cells, h1, h2, h3, h4.mono hM, fun i hi => relC_mono e hM _ _ (h5 i hi)⟩
  | .ptr t, _, _, hM, x, _, h => by
    obtain ⟨b, off, cells, h1, h2, h3⟩ := h
    exact ⟨b, off, cells, h1, relC_mono t hM x _ h2, h3.mono hM⟩
  | .fn _ _, _, _, hM, _, _, h => by
    obtain ⟨g, first, cap, h1, h0, h2⟩ := h
    exact ⟨g, first, cap, h1, h0, fun M' w x y u hle => h2 M' w x y u (Mem.le_trans hM hle)⟩
  | .seq _, _, _, hM, _, _, h => by
    obtain ⟨gf, lb, h1, h2⟩ := h
    exact ⟨gf, lb, h1, h2.mono hM⟩
  | .mapT _ _, _, _, _, _, _, h => h.elim
theorem relV_mono {t : Ty} {M M' : Mem} (hM : Mem.le M M') {x : t.den} {v : Value} (h : relV P t M x v) : relV P t M' x v := by
  unfold relV viaCells at *
  by_cases ha : t.agg = true
  · rw [if_pos ha] at *
    obtain ⟨cs, h1, h2⟩ := h; exact ⟨cs, h1, relC_mono t hM x _ h2⟩
  · rw [if_neg ha] at *
    exact relC_mono t hM x _ h
theorem relC_scalar : ∀ (t : Ty) (M : Mem) (x : t.den) (v : Value), t.agg = false → relC P t M x [v] → ∀ cs, v ≠ .agg cs
  | .int _, _, _, _, _, h => by rw [relC] at h; injection h with h; subst h; intro cs hc; cases hc
  | .bool, _, _, _, _, h => by rw [relC] at h; injection h with h; subst h; intro cs hc; cases hc
  | .str, _, _, _, _, h => by rw [relC] at h; injection h with h; subst h; intro cs hc; cases hc
  | .unit, _, _, _, ha, _ => by cases ha
  | .err, _, x, _, _, h => by
    obtain ⟨v, h, h1, h2⟩ := h; injection h with h; subst h; intro cs hc
    cases x with
    | true => rw [h1 rfl] at hc; cases hc
    | false => obtain ⟨t, u, h2⟩ := h2 rfl; rw [h2] at hc; cases hc
  | .one _, _, _, _, ha, _ => by cases ha
  | .pair _ _, _, _, _, ha, _ => by cases ha
  | .arr _ _, _, _, _, ha, _ => by cases ha
  | .slice _, _, _, _, _, h => by
    obtain ⟨v, h, h'⟩ := h; injection h with h; subst h; intro cs hc
    rcases h' with ⟨h', _⟩ | ⟨_, _, _, _, h', _⟩ | ⟨_, _, h', _⟩ <;> rw [h'] at hc <;> cases hc
  | .ptr _, _, _, _, _, h => by obtain ⟨_, _, _, h, _⟩ := h; injection h with h; subst h; intro cs hc; cases hc
  | .fn _ _, _, _, _, _, h => by obtain ⟨_, _, _, h, _⟩ := h; injection h with h; subst h; intro cs hc; cases hc
  | .seq _, _, _, _, _, h => by obtain ⟨_, _, h, _⟩ := h; injection h with h; subst h; intro cs hc; cases hc
  | .mapT _ _, _, _, _, _, h => h.elim
theorem relV_cells {t : Ty} {M : Mem} {x : t.den} {v : Value} (h : relV P t M x v) : relC P t M x v.cells.toList := by
  unfold relV viaCells at h
  split at h
  · obtain ⟨cs, rfl, h⟩ := h; exact h
  · rename_i ha
    have hs := relC_scalar t M x v (by simpa using ha) h
    cases v <;> first | exact h | exact absurd rfl (hs _)
theorem relV_size {t : Ty} {M : Mem} {x : t.den} {v : Value} (h : relV P t M x v) : v.cells.size = t.size := by
  have := relC_len t M x _ (relV_cells h)
  simpa using this
def ofCells (t : Ty) (cs : List Value) : Value := if t.agg then .agg cs.toArray else cs.headD undef
theorem relV_ofCells {t : Ty} {M : Mem} {x : t.den} {cs : List Value} (h : relC P t M x cs) : relV P t M x (ofCells t cs) := by
  unfold relV viaCells ofCells
  by_cases ha : t.agg = true
  · simp only [ha, if_true]; exact ⟨_, rfl, by simpa using h⟩
  · have hl := relC_len t M x cs h
    have : t.size = 1 := by cases t <;> simp_all [Ty.agg, Ty.size]
    rw [this] at hl
    match cs, hl with
    | [c], _ => simpa [ha] using h
theorem cells_scalar {v : Value} (h : ∀ cs, v ≠ .agg cs) : v.cells = #[v] := by
  cases v <;> first | rfl | exact absurd rfl (h _)
theorem cells_ofCells {t : Ty} {M : Mem} {x : t.den} {cs : List Value} (h : relC P t M x cs) : (ofCells t cs).cells.toList = cs := by
  unfold ofCells
  by_cases ha : t.agg = true
  · simp [ha, Value.cells]
  · have hl := relC_len t M x cs h
    have : t.size = 1 := by cases t <;> simp_all [Ty.agg, Ty.size]
    rw [this] at hl
    match cs, hl with
    | [c], _ =>
      have hsc := relC_scalar t M x c (by simpa using ha) h
      rw [if_neg ha]
      simp [cells_scalar hsc]
theorem ofCells_cells {t : Ty} {M : Mem} {x : t.den} {v : Value} (h : relV P t M x v) : ofCells t v.cells.toList = v := by
  unfold relV viaCells at h
  unfold ofCells
  split at h
  · rename_i ha; obtain ⟨cs, rfl, _⟩ := h; simp [ha, Value.cells]
  · rename_i ha
    have hs := relC_scalar t M x v (by simpa using ha) h
    simp only [ha]
    cases v <;> first | rfl | exact absurd rfl (hs _)
def relVs (P : Program) (M : Mem) : (ts : List Ty) → Args ts → List Value → Prop
  | [], _, vs => vs = []
  | [t], x, vs => ∃ v, vs = [v] ∧ relV P t M x v
  | t :: u :: r, x, vs => ∃ v rest, vs = v :: rest ∧ relV P t M x.1 v ∧ relVs P M (u :: r) x.2 rest
theorem relVs_mono {M M' : Mem} (hM : Mem.le M M') : ∀ (ts : List Ty) (x : Args ts) (vs : List Value), relVs P M ts x vs → relVs P M' ts x vs
  | [], _, _, h => h
  | [_], _, _, ⟨v, h, h'⟩ => ⟨v, h, relV_mono hM h'⟩
  | _ :: u :: r, x, _, ⟨v, rest, h, h1, h2⟩ => ⟨v, rest, h, relV_mono hM h1, relVs_mono hM (u :: r) x.2 rest h2⟩
def relR (P : Program) (M : Mem) (ts : List Ty) (x : Args ts) (v : Value) : Prop :=
  match ts, x with
  | [t], x => relV P t M x v
  | ts, x => ∃ vs : Array Value, v = .tuple vs ∧ relVs P M ts x vs.toList
def FC (P : Program) (s : Sig) : Prop :=
  ∀ x r, s.run x = some r → ∀ M w vs, Good M w → relVs P M s.ats x vs → CallsTo P s.f vs.toArray M w fun M' v => relR P M' s.rts r v
end Go.Lift
namespace Go.Lift
open Go Go.RowKit
variable [Tab] [Mf]
def offV : Ty → Path → Option Nat
  | _, [] => some 0
  | .one t, .one :: p => offV t p
  | .pair a _, .fst :: p => offV a p
  | .pair a b, .snd :: p => (offV b p).map (a.size + ·)
  | .arr n e, .idx i :: p => if 0 ≤ i ∧ i < (n : Int) then (offV e p).map (i.toNat * e.size + ·) else none
  | _, _ => none
def offB (rows : Bool) (t : Ty) (x : t.den) (p : Path) : Option Nat :=
  match rows, t, x, p with
  | false, t, _, p => offV t p
  | true, .slice e, l, .el i :: p => if 0 ≤ i ∧ i < (l.length : Int) then (offV e p).map (i.toNat * e.size + ·) else none
  | _, _, _, _ => none
variable {P : Program}
def relRows (P : Program) (e : Ty) (M : Mem) (l : List e.den) (cs : List Value) : Prop :=
  cs.length = l.length * e.size ∧ ∀ i (h : i < l.length), relC P e M l[i] ((cs.drop (i * e.size)).take e.size)
def relRowsL (P : Program) (e : Ty) (M : Mem) (l : List e.den) (cs : List Value) : Prop :=
  l.length * e.size ≤ cs.length ∧ ∀ i (h : i < l.length), relC P e M l[i] ((cs.drop (i * e.size)).take e.size)
def relBx (P : Program) (rows : Bool) (t : Ty) (M : Mem) (x : t.den) (cs : List Value) : Prop :=
  match rows, t, x with
  | false, t, x => relC P t M x cs
  | true, .slice e, l => relRowsL P e M l cs
  | true, _, _ => False
theorem relRowsL_of {e : Ty} {M : Mem} {l : List e.den} {cs : List Value} (h : relRows P e M l cs) : relRowsL P e M l cs := ⟨Nat.le_of_eq h.1.symm, h.2⟩
theorem relRowsL_take {e : Ty} {M : Mem} {l : List e.den} {cs : List Value} (h : relRowsL P e M l cs) : relRows P e M l (cs.take (l.length * e.size)) := by
  refine ⟨by rw [List.length_take]; have := h.1; omega, fun i hi => ?_⟩
  have hle : (i + 1) * e.size ≤ l.length * e.size := Nat.mul_le_mul_right _ hi
  simp only [Nat.add_mul, Nat.one_mul] at hle
  rw [List.drop_take, List.take_take, Nat.min_eq_left (by omega)]
  exact h.2 i hi
def OwnBlk (M : Mem) (w : World) (size g n cap : Nat) : Prop :=
  ∃ cur E, w.heap[g]? = some (.cells cur E (0, 0)) ∧ cur.size = cap * size ∧ n ≤ cap ∧ cap ≤ maxLen ∧ ∀ o, n * size ≤ o → M g o = none
def OwnV (κ : Nat → Option Nat) (M : Mem) (w : World) (tk : Nat → Bool) (size : Nat) (s : Option Nat) (v : Value) : Prop :=
  match s with
  | none => v = .slice none 0 0
  | some k => tk k = true ∧ (v = .slice none 0 0 ∨ ∃ g n cap, κ k = some g ∧ v = .slice (some ⟨g, 0, none⟩) n cap ∧ OwnBlk M w size g n cap)
def OwnsC (κ : Nat → Option Nat) (M : Mem) (w : World) (tk : Nat → Bool) (t : Ty) (cs : List Value) (own : Own) : Prop :=
  ∀ p s, (p, s) ∈ own → ∃ off e v, offV t p = some off ∧ t.atP p = some (.slice e) ∧ cs[off]? = some v ∧ OwnV κ M w tk e.size s v
def RelCap (P : Program) (κ : Nat → Option Nat) (M : Mem) (bo : Nat → Option Box) (c : Cap) (v : Value) : Prop :=
  match c with
  | .inl b => ∃ B g, bo b = some B ∧ B.rows = false ∧ κ b = some g ∧ v = .pointer (some ⟨g, 0, none⟩)
  | .inr d => relV P (.ptr d.1) M d.2 v
def RelCaps (P : Program) (κ : Nat → Option Nat) (M : Mem) (bo : Nat → Option Box) : List Cap → List Value → Prop
  | [], vs => vs = []
  | c :: r, vs => ∃ v rest, vs = v :: rest ∧ RelCap P κ M bo c v ∧ RelCaps P κ M bo r rest
def RelA (P : Program) (κ : Nat → Option Nat) (M : Mem) (w : World) (bo : Nat → Option Box) (tk : Nat → Bool) (v : AVal) (u : Value) : Prop :=
  match v with
  | .data t x own => relV P t M x u ∧ OwnsC κ M w tk t u.cells.toList own
  | .bptr b p => ∃ B g off, bo b = some B ∧ κ b = some g ∧ offB B.rows B.t B.x p = some off ∧ u = .pointer (some ⟨g, off, none⟩)
  | .rowp b => ∃ tid e l own g cap, bo b = some ⟨tid, .slice e, l, own, true⟩ ∧ κ b = some g ∧ l.length ≤ cap ∧ u = .slice (some ⟨g, 0, none⟩) l.length cap
  | .tup ts x => ∃ vs : Array Value, u = .tuple vs ∧ relVs P M ts x vs.toList
  | .clo g caps => ∃ vs : Array Value, u = .func (.func g) #[] vs ∧ RelCaps P κ M bo caps vs.toList
  | .undef => u = Go.undef
  | .raw v => u = v
  | .mapp b => ∃ tid k v l own g, bo b = some ⟨tid, .mapT k v, l, own, true⟩ ∧ κ b = some g ∧ u = .map (some g)
  | .iter b e F => ∃ tid s own g gf lb, bo b = some ⟨tid, .str, s, own, false⟩ ∧ κ b = some g ∧ u = .func (.func gf) #[] lb ∧ IterAt P (encS e) M gf lb g F
def relMap (k v : Ty) (l : List (k.den × v.den)) (es : Array MapEntry) : Prop := es.toList.map (fun e => (e.key, e.val)) = l.map fun p => (encS k p.1, encS v p.2)
def RelB (P : Program) (κ : Nat → Option Nat) (M : Mem) (w : World) (tk : Nat → Bool) (b : Nat) (B : Box) : Prop :=
  ∃ g, κ b = some g ∧ (∀ o, M g o = none) ∧ ((∃ cur E, w.heap[g]? = some (.cells cur E (0, 0)) ∧ relBx P B.rows B.t M B.x cur.toList ∧ OwnsC κ M w tk B.t cur.toList B.own) ∨
    ∃ tid k v l es clock, B = ⟨tid, .mapT k v, l, [], true⟩ ∧ w.heap[g]? = some (.map es clock) ∧ relMap k v l es ∧ Mf.on = true)
def Box.flat (B : Box) : Prop := ∀ tid k v l own, B ≠ ⟨tid, .mapT k v, l, own, true⟩
theorem RelB.cells {P : Program} {κ : Nat → Option Nat} {M : Mem} {w : World} {tk : Nat → Bool} {b : Nat} {B : Box} (h : RelB P κ M w tk b B) (hf : B.flat) :
    ∃ g cur E, κ b = some g ∧ w.heap[g]? = some (.cells cur E (0, 0)) ∧ relBx P B.rows B.t M B.x cur.toList ∧ OwnsC κ M w tk B.t cur.toList B.own ∧ ∀ o, M g o = none := by
  obtain ⟨g, h1, h2, ⟨cur, E, h3, h4, h5⟩ | ⟨tid, k, v, l, es, c, h3, _⟩⟩ := h
  · exact ⟨g, cur, E, h1, h3, h4, h5, h2⟩
  · exact absurd h3 (hf tid k v l [])
theorem RelB.mk {P : Program} {κ : Nat → Option Nat} {M : Mem} {w : World} {tk : Nat → Bool} {b : Nat} {B : Box} {g : Nat} {cur : Array Value} {E : TypeId} (h1 : κ b = some g) (h2 : w.heap[g]? = some (.cells cur E (0, 0))) (h3 : relBx P B.rows B.t M B.x cur.toList)
    (h4 : OwnsC κ M w tk B.t cur.toList B.own) (h5 : ∀ o, M g o = none) : RelB P κ M w tk b B := ⟨g, h1, h5, .inl ⟨cur, E, h2, h3, h4⟩⟩
theorem flat_of {B : Box} (h : B.isMap = false) : B.flat := fun tid k v l own e => by
  subst e
  cases h
theorem flat_off {B : Box} {p : Path} {off : Nat} (h : offB B.rows B.t B.x p = some off) : B.flat := fun tid k v l own e => by
  subst e
  cases p <;> cases h
structure Rel (P : Program) (base : Nat) (κ : Nat → Option Nat) (M : Mem) (σ : St) (a : Act) (w : World) : Prop where
  env : ∀ s v, σ.env s = some v → RelA P κ M w σ.box σ.tok v (a.tmps.getD s undef)
  bx : ∀ b B, σ.box b = some B → RelB P κ M w σ.tok b B
  good : Good M w
  inj : ∀ i j g, κ i = some g → κ j = some g → i = j
  kap : ∀ i g, κ i = some g → base ≤ g ∧ g < w.heap.size
  dis : ∀ i B, σ.box i = some B → σ.tok i = false
  low : base ≤ w.heap.size
def Holds (κ : Nat → Option Nat) (M : Mem) (w : World) (κ' : Nat → Option Nat) (M' : Mem) (w' : World) (i : Nat) : Prop :=
  κ' i = κ i ∧ ∀ g, κ i = some g → w'.heap[g]? = w.heap[g]? ∧ ∀ o, M' g o = M g o
section keep
variable {κ κ' : Nat → Option Nat} {M M' : Mem} {w w' : World} {tk tk' : Nat → Bool} {bo bo' : Nat → Option Box}
theorem OwnBlk.keep {size g n cap : Nat} (h : OwnBlk M w size g n cap) (h1 : w'.heap[g]? = w.heap[g]?) (h2 : ∀ o, M' g o = M g o) : OwnBlk M' w' size g n cap := by
  obtain ⟨cur, E, a, b, c, d, e⟩ := h
  exact ⟨cur, E, h1.trans a, b, c, d, fun o ho => (h2 o).trans (e o ho)⟩
theorem OwnV.turn {size : Nat} {s : Option Nat} {v : Value} (h : OwnV κ M w tk size s v)
    (hs : ∀ k, s = some k → tk k = true → tk' k = true ∧ Holds κ M w κ' M' w' k) : OwnV κ' M' w' tk' size s v := by
  cases s with
  | none => exact h
  | some k =>
    obtain ⟨h0, h⟩ := h
    obtain ⟨ht, hk, hp⟩ := hs k rfl h0
    refine ⟨ht, h.imp id ?_⟩
    rintro ⟨g, n, cap, h1, h2, h3⟩
    obtain ⟨e1, e2⟩ := hp g h1
    exact ⟨g, n, cap, hk.trans h1, h2, h3.keep e1 e2⟩
theorem OwnsC.turn {t : Ty} {cs : List Value} {own own' : Own} (h : OwnsC κ M w tk t cs own)
    (hs : ∀ p s, (p, s) ∈ own' → (p, s) ∈ own ∧ ∀ k, s = some k → tk k = true → tk' k = true ∧ Holds κ M w κ' M' w' k) : OwnsC κ' M' w' tk' t cs own' := by
  intro p s hm
  obtain ⟨hm', hk'⟩ := hs p s hm
  obtain ⟨off, e, v, a, b, c, d⟩ := h p s hm'
  exact ⟨off, e, v, a, b, c, d.turn hk'⟩
theorem RelCap.turn (hle : Mem.le M M') {c : Cap} {v : Value} (h : RelCap P κ M bo c v)
    (hb : ∀ b, c = .inl b → κ' b = κ b ∧ ∀ B, bo b = some B → ∃ B', bo' b = some B' ∧ B'.rows = B.rows) : RelCap P κ' M' bo' c v := by
  cases c with
  | inl b =>
    obtain ⟨B, g, h1, h2, h3, h4⟩ := h
    obtain ⟨hc, h'⟩ := hb b rfl
    obtain ⟨B', h5, h6⟩ := h' B h1
    exact ⟨B', g, h5, h6.trans h2, hc.trans h3, h4⟩
  | inr d => exact relV_mono (t := .ptr d.1) hle h
theorem RelCaps.turn (hle : Mem.le M M') : ∀ {cs : List Cap} {vs : List Value}, RelCaps P κ M bo cs vs →
    (∀ b, .inl b ∈ cs → κ' b = κ b ∧ ∀ B, bo b = some B → ∃ B', bo' b = some B' ∧ B'.rows = B.rows) → RelCaps P κ' M' bo' cs vs
  | [], _, h, _ => h
  | _ :: _, _, ⟨v, rest, h1, h2, h3⟩, hb => ⟨v, rest, h1, h2.turn hle (fun b hbc => hb b (by subst hbc; simp)), RelCaps.turn hle h3 fun b hm => hb b (List.mem_cons_of_mem _ hm)⟩
def AVal.leans (v : AVal) (i : Nat) : Prop :=
  match v with
  | .data _ _ own => ∃ p, (p, some i) ∈ own
  | .bptr b _ => i = b
  | .rowp b => i = b
  | .tup .. => False
  | .undef => False
  | .raw _ => False
  | .clo _ caps => .inl i ∈ caps
  | .mapp b => i = b
  | .iter b _ _ => i = b
def Alike (B B' : Box) : Prop := ∃ x' own', B' = ⟨B.tid, B.t, x', own', B.rows⟩ ∧ ∀ p, offB B.rows B.t x' p = offB B.rows B.t B.x p
theorem Alike.refl (B : Box) : Alike B B := ⟨B.x, B.own, rfl, fun _ => rfl⟩
theorem alike_length {e : Ty} {l l' : List e.den} (h : ∀ p, offB true (.slice e) l' p = offB true (.slice e) l p) : l'.length = l.length := by
  have key : ∀ (l l' : List e.den), (∀ p, offB true (.slice e) l' p = offB true (.slice e) l p) → ¬ l'.length < l.length := by
    intro l l' h hlt
    have := h [.el (l'.length : Int)]
    simp only [offB] at this
    rw [if_neg (by omega), if_pos (by omega)] at this
    simp [offV] at this
  have h1 := key l l' h
  have h2 := key l' l (fun p => (h p).symm)
  omega
theorem RelA.turn (hle : Mem.le M M') {v : AVal} {u : Value} (h : RelA P κ M w bo tk v u)
    (hk : ∀ i, v.leans i → κ' i = κ i)
    (ht : ∀ i, v.leans i → tk i = true → tk' i = true ∧ Holds κ M w κ' M' w' i)
    (hb : ∀ i B, v.leans i → bo i = some B → ∃ B', bo' i = some B' ∧ Alike B B') :
    RelA P κ' M' w' bo' tk' v u := by
  cases v with
  | data t x own =>
    refine ⟨relV_mono hle h.1, h.2.turn fun p s hm => ⟨hm, fun k hk' => ?_⟩⟩
    subst hk'
    exact ht k ⟨p, hm⟩
  | bptr b p =>
    obtain ⟨B, g, off, h1, h2, h3, h4⟩ := h
    obtain ⟨B', h5, x', own', rfl, h6⟩ := hb b B rfl h1
    exact ⟨_, g, off, h5, (hk b rfl).trans h2, (h6 p).trans h3, h4⟩
  | rowp b =>
    obtain ⟨tid, e, l, own, g, cap, h1, h2, h0, h3⟩ := h
    obtain ⟨B', h5, x', own', rfl, h6⟩ := hb b _ rfl h1
    exact ⟨tid, e, x', own', g, cap, h5, (hk b rfl).trans h2, by rw [alike_length h6]; exact h0, by rw [alike_length h6]; exact h3⟩
  | tup ts x => obtain ⟨vs, h1, h2⟩ := h; exact ⟨vs, h1, relVs_mono hle _ _ _ h2⟩
  | mapp b =>
    obtain ⟨tid, k, v, l, own, g, h1, h2, h3⟩ := h
    obtain ⟨B', h5, x', own', rfl, h6⟩ := hb b _ rfl h1
    exact ⟨tid, k, v, x', own', g, h5, (hk b rfl).trans h2, h3⟩
  | undef => exact h
  | raw _ => exact h
  | iter b e F =>
    obtain ⟨tid, s, own, g, gf, lb, h1, h2, h3, h4⟩ := h
    obtain ⟨B', h5, x', own', rfl, h6⟩ := hb b _ rfl h1
    exact ⟨tid, x', own', g, gf, lb, h5, (hk b rfl).trans h2, h3, h4.mono hle⟩
  | clo g caps =>
    obtain ⟨vs, h1, h2⟩ := h
    refine ⟨vs, h1, h2.turn hle fun b hbm => ⟨hk b hbm, fun B hB => ?_⟩⟩
    obtain ⟨B', h5, x', own', rfl, h6⟩ := hb b B hbm hB
    exact ⟨_, h5, rfl⟩
theorem relBx_mono {M M' : Mem} (hle : Mem.le M M') {rows : Bool} {t : Ty} {x : t.den} {cs : List Value} (h : relBx P rows t M x cs) : relBx P rows t M' x cs := by
  cases rows with
  | false =>
    have h' : relC P t M x cs := by cases t <;> exact h
    have := relC_mono t hle x cs h'
    cases t <;> exact this
  | true =>
    cases t with
    | slice e => exact ⟨h.1, fun i hi => relC_mono e hle _ _ (h.2 i hi)⟩
    | _ => exact h
theorem RelB.turn (hle : Mem.le M M') {b : Nat} {B : Box} (h : RelB P κ M w tk b B) (hh : Holds κ M w κ' M' w' b)
    (ht : ∀ p k, (p, some k) ∈ B.own → tk k = true → tk' k = true ∧ Holds κ M w κ' M' w' k) : RelB P κ' M' w' tk' b B := by
  obtain ⟨g, h1, h5, h⟩ := h
  obtain ⟨e1, e2⟩ := hh
  obtain ⟨e3, e4⟩ := e2 g h1
  refine ⟨g, e1.trans h1, fun o => (e4 o).trans (h5 o), ?_⟩
  rcases h with ⟨cur, E, h2, h3, h4⟩ | ⟨tid, k, v, l, es, c, h2, h3, h4⟩
  · exact .inl ⟨cur, E, e3.trans h2, relBx_mono hle h3, h4.turn fun p s hm => ⟨hm, fun k hk => by subst hk; exact ht p k hm⟩⟩
  · exact .inr ⟨tid, k, v, l, es, c, h2, e3.trans h3, h4⟩
end keep
theorem getP_rel {M : Mem} {u : Ty} : ∀ (p : Path) (t : Ty) (x : t.den) (y : u.den) (off : Nat) (cs : List Value), getP t x p u = some y → offV t p = some off → relC P t M x cs →
    relC P u M y ((cs.drop off).take u.size) ∧ off + u.size ≤ cs.length
  | [], t, x, y, off, cs, hg, ho, h => by
    have hl := relC_len t M x cs h
    simp only [offV, Option.some.injEq] at ho; subst ho
    unfold getP castTy at hg
    split at hg
    · rename_i e; subst e; simp only [Option.some.injEq] at hg; subst hg
      simp only [List.drop_zero, Nat.zero_add]
      rw [List.take_of_length_le (by omega)]
      exact ⟨h, by omega⟩
    · cases hg
  | .one :: p, t, x, y, off, cs, hg, ho, h => by
    cases t <;> simp only [offV, reduceCtorEq] at ho
    rename_i t
    exact getP_rel p t x y off cs hg ho h
  | .fst :: p, t, x, y, off, cs, hg, ho, h => by
    cases t <;> simp only [offV, reduceCtorEq] at ho
    rename_i a b
    obtain ⟨h1, h2⟩ := getP_rel p a x.1 y off _ hg ho h.1
    simp only [List.length_take] at h2
    refine ⟨?_, by omega⟩
    rw [List.drop_take, List.take_take] at h1
    rwa [show min u.size (a.size - off) = u.size from by omega] at h1
  | .snd :: p, t, x, y, off, cs, hg, ho, h => by
    cases t <;> simp only [offV, reduceCtorEq] at ho
    rename_i a b
    obtain ⟨o', ho', rfl⟩ := Option.map_eq_some_iff.1 ho
    obtain ⟨h1, h2⟩ := getP_rel p b x.2 y o' _ hg ho' h.2
    have hl := relC_len a M x.1 _ h.1
    simp only [List.length_drop, List.length_take] at h2 hl
    rw [List.drop_drop] at h1
    exact ⟨h1, by omega⟩
  | .idx i :: p, t, x, y, off, cs, hg, ho, h => by
    cases t <;> simp only [offV, reduceCtorEq] at ho
    rename_i n e
    split at ho
    · rename_i hi
      obtain ⟨o', ho', rfl⟩ := Option.map_eq_some_iff.1 ho
      have hin : i.toNat < n := by omega
      obtain ⟨h1, h2⟩ := getP_rel p e (aget x i) y o' _ hg ho' (h.2 i.toNat hin)
      have hle : (i.toNat + 1) * e.size ≤ n * e.size := Nat.mul_le_mul_right _ hin
      have hl := h.1
      simp only [List.length_take, List.length_drop, Nat.add_mul, Nat.one_mul] at h2 hle
      refine ⟨?_, by omega⟩
      rw [List.drop_take, List.take_take, List.drop_drop] at h1
      rwa [show min u.size (e.size - o') = u.size from by omega] at h1
    · cases ho
  | .el _ :: _, t, _, _, _, _, _, ho, _ => by cases t <;> simp only [offV, reduceCtorEq] at ho
theorem atP_rel {u : Ty} : ∀ (p : Path) (t : Ty) (off : Nat), t.atP p = some u → offV t p = some off → off + u.size ≤ t.size
  | [], t, off, ha, ho => by
    simp only [offV, Option.some.injEq] at ho; simp only [Ty.atP, Option.some.injEq] at ha; subst ha ho; omega
  | .one :: p, t, off, ha, ho => by
    cases t <;> simp only [offV, reduceCtorEq] at ho
    rename_i t
    exact atP_rel p t off ha ho
  | .fst :: p, t, off, ha, ho => by
    cases t <;> simp only [offV, reduceCtorEq] at ho
    have := atP_rel p _ off ha ho
    simp only [Ty.size]; omega
  | .snd :: p, t, off, ha, ho => by
    cases t <;> simp only [offV, reduceCtorEq] at ho
    obtain ⟨o', ho', rfl⟩ := Option.map_eq_some_iff.1 ho
    have := atP_rel p _ o' ha ho'
    simp only [Ty.size]; omega
  | .idx i :: p, t, off, ha, ho => by
    cases t <;> simp only [offV, reduceCtorEq] at ho
    rename_i n e
    split at ho
    · obtain ⟨o', ho', rfl⟩ := Option.map_eq_some_iff.1 ho
      have := atP_rel p e o' ha ho'
      have hle : (i.toNat + 1) * e.size ≤ n * e.size := Nat.mul_le_mul_right _ (by omega)
      simp only [Ty.size, Nat.add_mul, Nat.one_mul] at hle ⊢; omega
    · cases ho
  | .el _ :: _, t, _, _, ho => by cases t <;> simp only [offV, reduceCtorEq] at ho
theorem setP_at {u : Ty} : ∀ (p : Path) (t : Ty) (x x' : t.den) (y : u.den), setP t x p u y = some x' → t.atP p = some u
  | [], t, x, x', y, h => by
    unfold setP castTy at h
    split at h
    · rename_i e; subst e; simp [Ty.atP]
    · cases h
  | .one :: p, t, x, x', y, h => by
    cases t <;> simp only [setP, reduceCtorEq] at h
    exact setP_at p _ x x' y h
  | .fst :: p, t, x, x', y, h => by
    cases t <;> simp only [setP, reduceCtorEq] at h
    split at h
    · rename_i v hv; exact setP_at p _ _ v y hv
    · cases h
  | .snd :: p, t, x, x', y, h => by
    cases t <;> simp only [setP, reduceCtorEq] at h
    split at h
    · rename_i v hv; exact setP_at p _ _ v y hv
    · cases h
  | .idx i :: p, t, x, x', y, h => by
    cases t <;> simp only [setP, reduceCtorEq] at h
    split at h
    · rename_i v hv; exact setP_at p _ _ v y hv
    · cases h
  | .el i :: p, t, x, x', y, h => by
    cases t <;> simp only [setP, reduceCtorEq] at h
    split at h
    · rename_i v hv; exact setP_at p _ _ v y hv
    · cases h
def splice (cs : List Value) (off : Nat) (ds : List Value) : List Value := cs.take off ++ ds ++ cs.drop (off + ds.length)
theorem length_splice {cs ds : List Value} {off : Nat} (h : off + ds.length ≤ cs.length) : (splice cs off ds).length = cs.length := by
  simp only [splice, List.length_append, List.length_take, List.length_drop]; omega
theorem getElem?_splice (cs ds : List Value) (off i : Nat) (h : off + ds.length ≤ cs.length) :
    (splice cs off ds)[i]? = if off ≤ i ∧ i < off + ds.length then ds[i - off]? else cs[i]? := by
  unfold splice
  by_cases h1 : i < off
  · rw [if_neg (by omega), List.append_assoc, List.getElem?_append_left (by simp; omega), List.getElem?_take, if_pos h1]
  · by_cases h2 : i < off + ds.length
    · rw [if_pos (by omega), List.append_assoc, List.getElem?_append_right (by simp; omega), List.getElem?_append_left (by simp; omega)]
      congr 1; simp; omega
    · rw [if_neg (by omega), List.getElem?_append_right (by simp; omega), List.getElem?_drop]
      congr 1; simp; omega
theorem window_in {cs ds : List Value} {off s n : Nat} (h : off + ds.length ≤ cs.length) (h1 : s ≤ off) (h2 : off + ds.length ≤ s + n) :
    ((splice cs off ds).drop s).take n = splice ((cs.drop s).take n) (off - s) ds := by
  apply List.ext_getElem?
  intro i
  have hl : off - s + ds.length ≤ ((cs.drop s).take n).length := by simp only [List.length_take, List.length_drop]; omega
  rw [getElem?_splice _ _ _ _ hl, List.getElem?_take, List.getElem?_drop, getElem?_splice _ _ _ _ h, List.getElem?_take, List.getElem?_drop]
  by_cases hi : i < n
  · rw [if_pos hi, if_pos hi]
    by_cases hc : off ≤ s + i ∧ s + i < off + ds.length
    · rw [if_pos hc, if_pos (by omega)]; congr 1; omega
    · rw [if_neg hc, if_neg (by omega)]
  · rw [if_neg hi, if_neg hi, if_neg (by omega)]
theorem window_out {cs ds : List Value} {off s n : Nat} (h : off + ds.length ≤ cs.length) (h1 : s + n ≤ off ∨ off + ds.length ≤ s) :
    ((splice cs off ds).drop s).take n = (cs.drop s).take n := by
  apply List.ext_getElem?
  intro i
  rw [List.getElem?_take, List.getElem?_drop, getElem?_splice _ _ _ _ h, List.getElem?_take, List.getElem?_drop]
  by_cases hi : i < n
  · rw [if_pos hi, if_pos hi, if_neg (by omega)]
  · rw [if_neg hi, if_neg hi]
theorem setP_rel {M : Mem} {u : Ty} : ∀ (p : Path) (t : Ty) (x x' : t.den) (y : u.den) (off : Nat) (cs ds : List Value), setP t x p u y = some x' → offV t p = some off → relC P t M x cs → relC P u M y ds →
    relC P t M x' (splice cs off ds)
  | [], t, x, x', y, off, cs, ds, hs, ho, h, hd => by
    have hl := relC_len t M x cs h
    simp only [offV, Option.some.injEq] at ho; subst ho
    unfold setP castTy at hs
    split at hs
    · rename_i e; subst e; simp only [Option.some.injEq] at hs; subst hs
      have hl' := relC_len _ M y ds hd
      have : splice cs 0 ds = ds := by
        unfold splice; rw [List.take_zero, List.nil_append, List.drop_of_length_le (by omega), List.append_nil]
      rwa [this]
    · cases hs
  | .one :: p, t, x, x', y, off, cs, ds, hs, ho, h, hd => by
    cases t <;> simp only [offV, reduceCtorEq] at ho
    rename_i t
    exact setP_rel p t x x' y off cs ds hs ho h hd
  | .fst :: p, t, x, x', y, off, cs, ds, hs, ho, h, hd => by
    cases t <;> simp only [offV, reduceCtorEq] at ho
    rename_i a b
    simp only [setP] at hs
    split at hs
    · rename_i v hv
      simp only [Option.some.injEq] at hs; subst hs
      have hat := atP_rel p a off (setP_at p a _ v y hv) ho
      have hla := relC_len a M x.1 _ h.1
      have hld := relC_len u M y ds hd
      simp only [List.length_take] at hla
      have ih := setP_rel p a x.1 v y off _ ds hv ho h.1 hd
      have e1 := window_in (cs := cs) (ds := ds) (off := off) (s := 0) (n := a.size) (by omega) (by omega) (by omega)
      have e2 := window_out (cs := cs) (ds := ds) (off := off) (s := a.size) (n := cs.length) (by omega) (by omega)
      simp only [List.drop_zero, Nat.sub_zero] at e1
      refine ⟨by rw [e1]; exact ih, ?_⟩
      have e3 : (splice cs off ds).drop a.size = cs.drop a.size := by
        have hsl := length_splice (cs := cs) (ds := ds) (off := off) (by omega)
        rw [List.take_of_length_le (by rw [List.length_drop, hsl]; omega), List.take_of_length_le (by rw [List.length_drop]; omega)] at e2
        exact e2
      rw [e3]; exact h.2
    · cases hs
  | .snd :: p, t, x, x', y, off, cs, ds, hs, ho, h, hd => by
    cases t <;> simp only [offV, reduceCtorEq] at ho
    rename_i a b
    obtain ⟨o', ho', rfl⟩ := Option.map_eq_some_iff.1 ho
    simp only [setP] at hs
    split at hs
    · rename_i v hv
      simp only [Option.some.injEq] at hs; subst hs
      have hat := atP_rel p b o' (setP_at p b _ v y hv) ho'
      have hla := relC_len a M x.1 _ h.1
      have hlb := relC_len b M x.2 _ h.2
      have hld := relC_len u M y ds hd
      simp only [List.length_take, List.length_drop] at hla hlb
      have ih := setP_rel p b x.2 v y o' _ ds hv ho' h.2 hd
      have e1 := window_out (cs := cs) (ds := ds) (off := a.size + o') (s := 0) (n := a.size) (by omega) (by omega)
      have e2 := window_in (cs := cs) (ds := ds) (off := a.size + o') (s := a.size) (n := b.size) (by omega) (by omega) (by omega)
      simp only [List.drop_zero] at e1
      refine ⟨by rw [e1]; exact h.1, ?_⟩
      have hsl := length_splice (cs := cs) (ds := ds) (off := a.size + o') (by omega)
      rw [List.take_of_length_le (by rw [List.length_drop, hsl]; omega), List.take_of_length_le (by rw [List.length_drop]; omega), Nat.add_sub_cancel_left] at e2
      rw [e2]; exact ih
    · cases hs
  | .idx i :: p, t, x, x', y, off, cs, ds, hs, ho, h, hd => by
    cases t <;> simp only [offV, reduceCtorEq] at ho
    rename_i n e
    split at ho
    · rename_i hi
      obtain ⟨o', ho', rfl⟩ := Option.map_eq_some_iff.1 ho
      simp only [setP] at hs
      split at hs
      · rename_i v hv
        simp only [Option.some.injEq] at hs; subst hs
        have hin : i.toNat < n := by omega
        have hat := atP_rel p e o' (setP_at p e _ v y hv) ho'
        have hld := relC_len u M y ds hd
        have hle : (i.toNat + 1) * e.size ≤ n * e.size := Nat.mul_le_mul_right _ hin
        simp only [Nat.add_mul, Nat.one_mul] at hle
        have hl := h.1
        have ih := setP_rel p e (aget x i) v y o' _ ds hv ho' (h.2 i.toNat hin) hd
        refine ⟨by rw [length_splice (by omega)]; exact hl, fun j hj => ?_⟩
        by_cases hij : j = i.toNat
        · subst hij
          have e2 := window_in (cs := cs) (ds := ds) (off := i.toNat * e.size + o') (s := i.toNat * e.size) (n := e.size) (by omega) (by omega) (by omega)
          rw [Nat.add_sub_cancel_left] at e2
          rw [e2]
          simpa [aset] using ih
        · have hne : Nat.beq j i.toNat = false := by cases hb : Nat.beq j i.toNat with | false => rfl | true => exact absurd (Nat.eq_of_beq_eq_true hb) hij
          have hout : j * e.size + e.size ≤ i.toNat * e.size + o' ∨ i.toNat * e.size + o' + ds.length ≤ j * e.size := by
            rcases Nat.lt_or_ge j i.toNat with hlt | hge
            · left
              have : (j + 1) * e.size ≤ i.toNat * e.size := Nat.mul_le_mul_right _ hlt
              simp only [Nat.add_mul, Nat.one_mul] at this; omega
            · right
              have : (i.toNat + 1) * e.size ≤ j * e.size := Nat.mul_le_mul_right _ (by omega)
              simp only [Nat.add_mul, Nat.one_mul] at this; omega
          rw [window_out (by omega) hout]
          simp only [aset, hne, cond_false]
          exact h.2 j hj
      · cases hs
    · cases ho
  | .el _ :: _, t, _, _, _, _, _, _, _, ho, _, _ => by cases t <;> simp only [offV, reduceCtorEq] at ho
end Go.Lift
