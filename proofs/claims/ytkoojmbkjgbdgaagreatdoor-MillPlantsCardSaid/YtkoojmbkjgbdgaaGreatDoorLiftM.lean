/-
  A range over a sequence that is handed out once.
-/
import Derived.Test.YtkoojmbkjgbdgaaGreatDoorLiftH
set_option linter.unusedSectionVars false
set_option linter.unusedVariables false
set_option linter.unusedSimpArgs false
namespace Go.Lift
open Go Go.RowKit
variable [Tab] [Mf]
variable {P : Program} {base : Nat} {κ κ' : Nat → Option Nat} {M M' : Mem} {σ σ' : St} {a a' : Act} {w w' : World}
def roundK {X : Type} (M : Mem) (G : Nat) (I : List X → World → Prop) (Ix : Code → List X → World → Prop) (xs : List X) (W : World) : Exit → Act → World → Prop
  | .normal, _, W' => KeepsOthers W W' ∧ KeepM M W W' ∧ W'.heap[G]? = W.heap[G]? ∧ I xs W'
  | .ret, _, W' => KeepsOthers W W' ∧ Ix .ret xs W'
  | .exit id, _, W' => KeepsOthers W W' ∧ Ix (.exit id) xs W'
  | _, _, _ => False
omit [Tab] [Mf] in
theorem keepM_at {M : Mem} {W : World} {l : Nat} {o o' : Obj} (h : W.heap[l]? = some o) (hc : o.isCells = false) : KeepM M W (W.putObj l o') := by
  intro b off v _ hv
  refine (World.cell?_of_block (w := W) (World.putObj_heap_other (fun k => ?_))).trans hv
  obtain ⟨ob, h1, h2⟩ : ∃ o : Obj, W.heap[b]? = some o ∧ o.isCells = true := by
    unfold World.cell? at hv
    simp only at hv
    split at hv
    · rename_i c t fr hb; exact ⟨_, hb, rfl⟩
    · cases hv
  have e : l = b := k.symm
  subst e
  rw [h] at h1
  cases h1
  rw [hc] at h2; cases h2
omit [Tab] [Mf] in
theorem own_other {G : Nat} {A B : World} (h : OwnStep G A B) {j : Nat} {o : Obj} (hj : A.heap[j]? = some o) (ho : o.isCells = false) : B.heap[j]? = some o := by
  rw [h.same j fun e => ?_]
  · exact hj
  · obtain ⟨_, _, _, h1, _⟩ := h.own
    rw [e, h1] at hj
    cases hj
    cases ho
omit [Tab] [Mf] in
theorem wpIn_rangeOnce {F : Fence} {n : Nat} {g : Operand} {ps : Array Tmp} {assign body : Code} {Q : Exit → Act → World → Prop}
    (hro : F.round = none) (h1 : 1 ≤ n) (hdp : F.depth = none) (hfn : ∀ f, F.fn f) (hal : F.alive = false) {gf : Nat} {lb : Array Value} (hg : a.eval g = .func (.func gf) #[] lb) {X : Type} {enc : X → Value} {G : Nat} {Fs : ByteArray → Option (List X)} (hit : IterAt P enc M gf lb G Fs)
    {s : ByteArray} {xs : List X} {E : TypeId} (hs : Fs s = some xs) (hM : ∀ b o v, M b o = some v → w.cell? ⟨b, o, none⟩ = some v) (hG : w.heap[G]? = some (.cells #[.string s] E (0, 0))) (hMG : ∀ o, M G o = none) (hps : ps.size = 1)
    (I : List X → World → Prop) (Ix : Code → List X → World → Prop) (hI : OwnFrom w.heap.size I) (hIx : ∀ c, OwnFrom w.heap.size (Ix c)) (hIo : ∀ pre A B, I pre A → OwnStep G A B → I pre B) (h0 : I [] w) (a₁ : X → Act)
    (hassign : ∀ (l : Nat) (x : X) (W : World) (K : Act → World → Prop), K (a₁ x) W →
      assign.wpIn (F.inRound l) (n - 1 - 1) P (Exit.then K (fun _ _ _ => False)) { tmps := (ps.zip #[enc x]).foldl (fun t (p, v) => t.setIfInBounds p v) a.tmps, defers := [] } W)
    (hbody : ∀ (l : Nat) (pre : List X) (x : X) (W : World), I pre W → pre ++ [x] <+: xs → W.heap[G]?.isSome = true → body.wpIn (F.inRound l) (n - 1 - 1) P (roundK M G I Ix (pre ++ [x]) W) (a₁ x) W)
    (hdone : ∀ (D : Nat) (W : World), w.heap.size ≤ D → I xs W → W.heap[D]? = some (.deferred (some [])) → Q .normal { a with defers := { target := .collected D, args := #[] } :: a.defers } W)
    (hstop : ∀ (D : Nat) (c : Code) (pre : List X) (W : World), w.heap.size ≤ D → pre <+: xs → Ix c pre W → W.heap[D]? = some (.deferred (some [])) → c.wpIn F n P Q { a with defers := { target := .collected D, args := #[] } :: a.defers } W) :
    (Code.rangeFunc g ps assign body).wpIn F n P Q a w := by
  refine wpIn_rangeFunc fun fn hf => ?_
  rw [hro]
  obtain ⟨R, hR⟩ : ∃ R : LoopState → Option Code → Loop, R = fun st pe => ⟨st, pe, fn, a.tmps, ps, assign, body, w.heap.size⟩ := ⟨_, rfl⟩
  obtain ⟨V, hV⟩ : ∃ V, (w.alloc (.deferred (some []))).alloc (.loop (R .ready none)) = V := ⟨_, rfl⟩
  have vL : V.heap[w.heap.size + 1]? = some (.loop (R .ready none)) := by
    have := World.alloc_heap_new (w.alloc (.deferred (some []))) (.loop (R .ready none))
    rwa [World.size_alloc, hV] at this
  have old : ∀ j, j < w.heap.size → V.heap[j]? = w.heap[j]? := fun j hj => by
    rw [← hV, Below.heap_alloc _ _ _ (by simp; omega), Below.heap_alloc _ _ _ hj]
  have vD : V.heap[w.heap.size]? = some (.deferred (some [])) := by
    rw [← hV]; exact (Below.heap_alloc _ _ _ (by simp)).trans (World.alloc_heap_new w _)
  have gl : G < w.heap.size := (Array.getElem?_eq_some_iff.1 hG).1
  have vI : I [] V := by rw [← hV]; exact hI.alloc _ (hI.alloc _ h0)
  have vM : ∀ b o v, M b o = some v → V.cell? ⟨b, o, none⟩ = some v := fun b o v hv =>
    (World.cell?_of_block (w := w) (old b (World.block_lt_of_cell? w _ (hM b o v hv)))).trans (hM b o v hv)
  have keepJ : ∀ {st : LoopState} {pe : Option Code} {A B : World} {row : Option Nat}, A.grownBy B row → (∀ r, row = some r → V.heap.size ≤ r ∧ ∃ o : Obj, A.heap[r]? = some o ∧ o.isWalk = true) →
      (A.heap[w.heap.size + 1]? = some (.loop (R st pe)) ∧ A.heap[w.heap.size]? = some (.deferred (some []))) → (B.heap[w.heap.size + 1]? = some (.loop (R st pe)) ∧ B.heap[w.heap.size]? = some (.deferred (some []))) := fun hgb hr h =>
    ⟨(grownBy_keeps hgb (fun r e => (hr r e).2) h.1 rfl).trans h.1, (grownBy_keeps hgb (fun r e => (hr r e).2) h.2 rfl).trans h.2⟩
  have notCells : ∀ {A : World} {row : Option Nat}, (∀ r, row = some r → V.heap.size ≤ r ∧ ∃ o : Obj, A.heap[r]? = some o ∧ o.isWalk = true) → ∀ r, row = some r → w.heap.size ≤ r ∧ ∃ o : Obj, A.heap[r]? = some o ∧ o.isCells = false := fun hr r e => by
    obtain ⟨h1, o, h2, h3⟩ := hr r e
    exact ⟨by rw [← hV] at h1; simp at h1; omega, o, h2, Obj.not_cells_of_walk h3⟩
  refine ⟨w.heap.size + 1, [{ target := .collected w.heap.size, args := #[] }], V, { target := .fn (.func gf) lb, args := #[.func (.yield (w.heap.size + 1)) #[] #[]] }, V, gf,
    #[.func (.yield (w.heap.size + 1)) #[] #[]] ++ lb, V, ?_, ?_, fun f' _ => hfn f', ?_, fun _ => h1, ?_⟩
  · rw [← hV, hR]; exact run_enterLoop_outer _ _ _ _ _
  · simp only [resolve, hg]
    simp [go_sem]
  · simp [invoke, go_sem, hit.1]
  refine (hit.2 s xs hs F (n - 1) (w.heap.size + 1)
    (fun pre W => I pre W ∧ W.heap[w.heap.size + 1]? = some (.loop (R .ready none)) ∧ W.heap[w.heap.size]? = some (.deferred (some [])))
    (fun pre W => ∃ c, Ix c pre W ∧ W.heap[w.heap.size + 1]? = some (.loop (R .done (some c))) ∧ W.heap[w.heap.size]? = some (.deferred (some [])))
    V E hdp hfn hal hro vM ((old G gl).trans hG) hMG ?_ ?_ ?_ ?_ ⟨vI, vL, vD⟩).mono ?_
  · exact fun pre A B row hs hgb hr => ⟨hI pre A B row hs.1 hgb (notCells hr), keepJ hgb hr hs.2⟩
  · rintro pre A B row ⟨c, hc, hs⟩ hgb hr
    exact ⟨c, hIx c pre A B row hc hgb (notCells hr), keepJ hgb hr hs⟩
  · exact fun pre A B hs ho => ⟨hIo pre A B hs.1 ho, own_other ho hs.2.1 rfl, own_other ho hs.2.2 rfl⟩
  · 
    rintro pre x W ⟨hi, hl, hk⟩ hpre
    have hlt := (Array.getElem?_eq_some_iff.1 hl).1
    have hy := run_yield (P := P) (args := #[enc x]) hl (by rw [hR]; exact hps.symm)
    rw [hR] at hy
    refine ⟨fn, _, assign, body, hy, roundIn_of_wpIn hf (hassign _ x W _ ⟨_, run_beginRound hl (by rw [hR]), ?_⟩)⟩
    obtain ⟨U, hU⟩ : ∃ U, W.putObj (w.heap.size + 1) (.loop { R .ready none with state := .busy }) = U := ⟨_, rfl⟩
    have uL : U.heap[w.heap.size + 1]? = some (.loop { R .ready none with state := .busy }) := by rw [← hU]; exact World.putObj_heap_same hlt
    have uD : U.heap[w.heap.size]? = some (.deferred (some [])) := by rw [← hU]; exact (World.putObj_heap_other (by omega)).trans hk
    have uM : KeepM M W U := by rw [← hU]; exact keepM_at hl rfl
    have uG : U.heap[G]? = W.heap[G]? := by rw [← hU]; exact World.putObj_heap_other (by omega)
    have uI : I pre U := by rw [← hU]; exact hI.putObj _ hi (by omega) hl rfl
    have wl : w.heap.size + 1 < U.heap.size := (Array.getElem?_eq_some_iff.1 uL).1
    rw [hU]
    refine wpIn_mono (hbody _ pre x _ uI hpre (by rw [Array.getElem?_eq_getElem (by omega)]; rfl)) ?_
    have ends : ∀ (jump : Option Code) (T : World), KeepsOthers U T → T.heap[w.heap.size + 1]? = some (.loop { R .ready none with state := .busy }) ∧
        (Instr.endRound (w.heap.size + 1) jump).run P T = .ok (.bool jump.isNone) (T.putObj (w.heap.size + 1) (.loop (R (if jump.isNone then .ready else .done) jump))) ∧
        (T.putObj (w.heap.size + 1) (.loop (R (if jump.isNone then .ready else .done) jump))).heap[w.heap.size + 1]? = some (.loop (R (if jump.isNone then .ready else .done) jump)) ∧
        (T.putObj (w.heap.size + 1) (.loop (R (if jump.isNone then .ready else .done) jump))).heap[w.heap.size]? = some (.deferred (some [])) := fun jump T hT => by
      have tL := hT.same _ _ uL rfl
      have hr := run_endRound (P := P) jump tL
      rw [hR] at hr tL ⊢
      exact ⟨tL, hr, World.putObj_heap_same (Array.getElem?_eq_some_iff.1 tL).1, (World.putObj_heap_other (by omega)).trans (hT.same _ _ uD rfl)⟩
    rintro e a3 T hp
    cases e with
    | normal =>
      obtain ⟨hT, kT, gT, iT⟩ := hp
      obtain ⟨tL, hr, tL', tD⟩ := ends none T hT
      exact ⟨_, _, hr, .inl ⟨rfl, ⟨hI.putObj _ iT (by omega) tL rfl, tL', tD⟩, (uM.trans kT).trans (keepM_at tL rfl), ((World.putObj_heap_other (by omega)).trans gT).trans uG⟩⟩
    | ret =>
      obtain ⟨hT, iT⟩ := hp
      obtain ⟨tL, hr, tL', tD⟩ := ends (some .ret) T hT
      exact ⟨_, _, hr, .inr ⟨rfl, .ret, (hIx _).putObj _ iT (by omega) tL rfl, tL', tD⟩⟩
    | exit id =>
      obtain ⟨hT, iT⟩ := hp
      obtain ⟨tL, hr, tL', tD⟩ := ends (some (.exit id)) T hT
      exact ⟨_, _, hr, .inr ⟨rfl, .exit id, (hIx _).putObj _ iT (by omega) tL rfl, tL', tD⟩⟩
    | goto t => exact hp.elim
    | panic ch => exact hp.elim
    | outgrown => exact hp.elim
  · 
    rintro e T ⟨⟨v, rfl⟩, ⟨hi, hl, hk⟩ | ⟨pre, hpre, c, hi, hl, hk⟩⟩
    · have hr := run_endLoop (P := P) hl (by rw [hR]; simp)
      rw [hR] at hr
      exact ⟨none, _, hr, hdone _ _ (Nat.le_refl _) (hI.putObj _ hi (by omega) hl rfl) ((World.putObj_heap_other (by omega)).trans hk)⟩
    · have hr := run_endLoop (P := P) hl (by rw [hR]; simp)
      rw [hR] at hr
      exact ⟨some c, _, hr, hstop _ c pre _ (Nat.le_refl _) hpre ((hIx c).putObj _ hi (by omega) hl rfl) ((World.putObj_heap_other (by omega)).trans hk)⟩
def roundM {X : Type} (I : List X → Mem → World → Prop) (Ix : Code → List X → Mem → World → Prop) (xs : List X) (N : Mem) (W : World) : Exit → Act → World → Prop
  | .normal, _, W' => KeepsOthers W W' ∧ ∃ N', Mem.le N N' ∧ I xs N' W'
  | .ret, _, W' => KeepsOthers W W' ∧ ∃ N', Mem.le N N' ∧ Ix .ret xs N' W'
  | .exit id, _, W' => KeepsOthers W W' ∧ ∃ N', Mem.le N N' ∧ Ix (.exit id) xs N' W'
  | _, _, _ => False
omit [Mf] in
theorem wpIn_rangeM {F : Fence} {n : Nat} {g : Operand} {ps : Array Tmp} {assign body : Code} {Q : Exit → Act → World → Prop}
    (hro : F.round = none) (h1 : 1 ≤ n) (hdp : F.depth = none) (hfn : ∀ f, F.fn f) (hal : F.alive = false) {gf : Nat} {lb : Array Value} (hg : a.eval g = .func (.func gf) #[] lb) {X : Type} {R : Mem → X → Value → Prop} {xs : List X} (hseq : SeqAt P R M xs gf lb) (hps : ps.size = 1)
    (I : List X → Mem → World → Prop) (Ix : Code → List X → Mem → World → Prop) (hIg : ∀ pre N W, I pre N W → Good N W) (hIxg : ∀ c pre N W, Ix c pre N W → Good N W) (hI : GrowClosed I) (hIx : ∀ c, GrowClosed (Ix c))
    (hIo : ∀ pre N, OwnFrom w.heap.size fun (_ : Unit) W => I pre N W) (hIxo : ∀ c pre N, OwnFrom w.heap.size fun (_ : Unit) W => Ix c pre N W) (h0 : I [] M w)
    (Ax : List X → X → Mem → Act → World → Prop) (hAx : ∀ pre x N a', OwnFrom w.heap.size fun (_ : Unit) W => Ax pre x N a' W)
    (hassign : ∀ (l : Nat) (pre : List X) (x : X) (N : Mem) (W : World) (v : Value) (K : Act → World → Prop), I pre N W → pre ++ [x] <+: xs → R N x v → (∀ N' a' W', Mem.le N N' → KeepsOthers W W' → Ax pre x N' a' W' → K a' W') →
      assign.wpIn (F.inRound l) (n - 1 - 1) P (Exit.then K (fun _ _ _ => False)) { tmps := (ps.zip #[v]).foldl (fun t (p, v) => t.setIfInBounds p v) a.tmps, defers := [] } W)
    (hbody : ∀ (l : Nat) (pre : List X) (x : X) (N : Mem) (a' : Act) (W : World), Ax pre x N a' W → pre ++ [x] <+: xs → body.wpIn (F.inRound l) (n - 1 - 1) P (roundM I Ix (pre ++ [x]) N W) a' W)
    (hdone : ∀ (D : Nat) (N : Mem) (W : World), w.heap.size ≤ D → I xs N W → W.heap[D]? = some (.deferred (some [])) → Q .normal { a with defers := { target := .collected D, args := #[] } :: a.defers } W)
    (hstop : ∀ (D : Nat) (c : Code) (pre : List X) (N : Mem) (W : World), w.heap.size ≤ D → pre <+: xs → Ix c pre N W → W.heap[D]? = some (.deferred (some [])) → c.wpIn F n P Q { a with defers := { target := .collected D, args := #[] } :: a.defers } W) :
    (Code.rangeFunc g ps assign body).wpIn F n P Q a w := by
  refine wpIn_rangeFunc fun fn hf => ?_
  rw [hro]
  obtain ⟨Rc, hR⟩ : ∃ Rc : LoopState → Option Code → Loop, Rc = fun st pe => ⟨st, pe, fn, a.tmps, ps, assign, body, w.heap.size⟩ := ⟨_, rfl⟩
  obtain ⟨V, hV⟩ : ∃ V, (w.alloc (.deferred (some []))).alloc (.loop (Rc .ready none)) = V := ⟨_, rfl⟩
  have vL : V.heap[w.heap.size + 1]? = some (.loop (Rc .ready none)) := by
    have := World.alloc_heap_new (w.alloc (.deferred (some []))) (.loop (Rc .ready none))
    rwa [World.size_alloc, hV] at this
  have old : ∀ j, j < w.heap.size → V.heap[j]? = w.heap[j]? := fun j hj => by
    rw [← hV, Below.heap_alloc _ _ _ (by simp; omega), Below.heap_alloc _ _ _ hj]
  have vD : V.heap[w.heap.size]? = some (.deferred (some [])) := by
    rw [← hV]; exact (Below.heap_alloc _ _ _ (by simp)).trans (World.alloc_heap_new w _)
  have put : ∀ {S : World → Prop} (_ : OwnFrom w.heap.size fun (_ : Unit) W => S W) {A : World} {j : Nat} {o : Obj} (o' : Obj), S A → w.heap.size ≤ j → A.heap[j]? = some o → o.isCells = false → S (A.putObj j o') := fun hS _ _ _ o' h hj hl ho => OwnFrom.putObj hS (s := ()) o' h hj hl ho
  have vI : I [] M V := by rw [← hV]; exact OwnFrom.alloc (hIo [] M) (s := ()) _ (OwnFrom.alloc (hIo [] M) (s := ()) _ h0)
  refine ⟨w.heap.size + 1, [{ target := .collected w.heap.size, args := #[] }], V, { target := .fn (.func gf) lb, args := #[.func (.yield (w.heap.size + 1)) #[] #[]] }, V, gf,
    #[.func (.yield (w.heap.size + 1)) #[] #[]] ++ lb, V, ?_, ?_, fun f' _ => hfn f', ?_, fun _ => h1, ?_⟩
  · rw [← hV, hR]; exact run_enterLoop_outer _ _ _ _ _
  · simp only [resolve, hg]
    simp [go_sem]
  · simp [invoke, go_sem, hseq.1]
  have keepJ : ∀ {st : LoopState} {pe : Option Code} {A B : World} {N N' : Mem}, Grow N A N' B → (A.heap[w.heap.size + 1]? = some (.loop (Rc st pe)) ∧ A.heap[w.heap.size]? = some (.deferred (some []))) →
      (B.heap[w.heap.size + 1]? = some (.loop (Rc st pe)) ∧ B.heap[w.heap.size]? = some (.deferred (some []))) := fun hg h =>
    ⟨(hg.below.block _ (Array.getElem?_eq_some_iff.1 h.1).1).trans h.1, (hg.below.block _ (Array.getElem?_eq_some_iff.1 h.2).1).trans h.2⟩
  refine (hseq.2 F (n - 1) (w.heap.size + 1)
    (fun pre N W => I pre N W ∧ W.heap[w.heap.size + 1]? = some (.loop (Rc .ready none)) ∧ W.heap[w.heap.size]? = some (.deferred (some [])))
    (fun pre N W => ∃ c, Ix c pre N W ∧ W.heap[w.heap.size + 1]? = some (.loop (Rc .done (some c))) ∧ W.heap[w.heap.size]? = some (.deferred (some [])))
    M V (Mem.le_refl M) hdp hfn hal hro (fun pre N W h => hIg pre N W h.1) (fun pre N W ⟨c, h, _⟩ => hIxg c pre N W h) ?_ ?_ ?_ ⟨vI, vL, vD⟩).mono ?_
  · exact fun pre N A N' B hs hg hgr => ⟨hI pre N A N' B hs.1 hg hgr, keepJ hgr hs.2⟩
  · rintro pre N A N' B ⟨c, hc, hs⟩ hg hgr
    exact ⟨c, hIx c pre N A N' B hc hg hgr, keepJ hgr hs⟩
  · 
    rintro pre x N W v ⟨hi, hl, hk⟩ hpre hv
    have hy := run_yield (P := P) (args := #[v]) hl (by rw [hR]; exact hps.symm)
    rw [hR] at hy
    refine ⟨fn, _, assign, body, hy, roundIn_of_wpIn hf (hassign _ pre x N W v _ hi hpre hv fun N1 a1 W1 hN1 hko hax => ?_)⟩
    have hl1 := hko.same _ _ hl rfl
    have hk1 := hko.same _ _ hk rfl
    have hlt := (Array.getElem?_eq_some_iff.1 hl1).1
    refine ⟨_, run_beginRound hl1 (by rw [hR]), ?_⟩
    obtain ⟨U, hU⟩ : ∃ U, W1.putObj (w.heap.size + 1) (.loop { Rc .ready none with state := .busy }) = U := ⟨_, rfl⟩
    have uL : U.heap[w.heap.size + 1]? = some (.loop { Rc .ready none with state := .busy }) := by rw [← hU]; exact World.putObj_heap_same hlt
    have uD : U.heap[w.heap.size]? = some (.deferred (some [])) := by rw [← hU]; exact (World.putObj_heap_other (by omega)).trans hk1
    have uA : Ax pre x N1 a1 U := by rw [← hU]; exact put (hAx pre x N1 a1) _ hax (by omega) hl1 rfl
    rw [hU]
    refine wpIn_mono (hbody _ pre x N1 a1 _ uA hpre) ?_
    have ends : ∀ (jump : Option Code) (T : World), KeepsOthers U T → T.heap[w.heap.size + 1]? = some (.loop { Rc .ready none with state := .busy }) ∧
        (Instr.endRound (w.heap.size + 1) jump).run P T = .ok (.bool jump.isNone) (T.putObj (w.heap.size + 1) (.loop (Rc (if jump.isNone then .ready else .done) jump))) ∧
        (T.putObj (w.heap.size + 1) (.loop (Rc (if jump.isNone then .ready else .done) jump))).heap[w.heap.size + 1]? = some (.loop (Rc (if jump.isNone then .ready else .done) jump)) ∧
        (T.putObj (w.heap.size + 1) (.loop (Rc (if jump.isNone then .ready else .done) jump))).heap[w.heap.size]? = some (.deferred (some [])) := fun jump T hT => by
      have tL := hT.same _ _ uL rfl
      have hr := run_endRound (P := P) jump tL
      rw [hR] at hr tL ⊢
      exact ⟨tL, hr, World.putObj_heap_same (Array.getElem?_eq_some_iff.1 tL).1, (World.putObj_heap_other (by omega)).trans (hT.same _ _ uD rfl)⟩
    rintro e a3 T hp
    cases e with
    | normal =>
      obtain ⟨hT, N', hN', iT⟩ := hp
      obtain ⟨tL, hr, tL', tD⟩ := ends none T hT
      exact ⟨_, _, hr, N', Mem.le_trans hN1 hN', .inl ⟨rfl, put (hIo _ N') _ iT (by omega) tL rfl, tL', tD⟩⟩
    | ret =>
      obtain ⟨hT, N', hN', iT⟩ := hp
      obtain ⟨tL, hr, tL', tD⟩ := ends (some .ret) T hT
      exact ⟨_, _, hr, N', Mem.le_trans hN1 hN', .inr ⟨rfl, .ret, put (hIxo _ _ N') _ iT (by omega) tL rfl, tL', tD⟩⟩
    | exit id =>
      obtain ⟨hT, N', hN', iT⟩ := hp
      obtain ⟨tL, hr, tL', tD⟩ := ends (some (.exit id)) T hT
      exact ⟨_, _, hr, N', Mem.le_trans hN1 hN', .inr ⟨rfl, .exit id, put (hIxo _ _ N') _ iT (by omega) tL rfl, tL', tD⟩⟩
    | goto t => exact hp.elim
    | panic ch => exact hp.elim
    | outgrown => exact hp.elim
  · 
    rintro e T ⟨⟨v, rfl⟩, N', _, ⟨hi, hl, hk⟩ | ⟨pre, hpre, c, hi, hl, hk⟩⟩
    · have hr := run_endLoop (P := P) hl (by rw [hR]; simp)
      rw [hR] at hr
      exact ⟨none, _, hr, hdone _ N' _ (Nat.le_refl _) (put (hIo _ N') _ hi (by omega) hl rfl) ((World.putObj_heap_other (by omega)).trans hk)⟩
    · have hr := run_endLoop (P := P) hl (by rw [hR]; simp)
      rw [hR] at hr
      exact ⟨some c, _, hr, hstop _ c pre N' _ (Nat.le_refl _) hpre (put (hIxo c _ N') _ hi (by omega) hl rfl) ((World.putObj_heap_other (by omega)).trans hk)⟩
theorem rel_ownStep {G : Nat} (hR : Rel P base κ M σ a w) (hno : ∀ i, κ i ≠ some G) (hMG : ∀ o, M G o = none) (h : OwnStep G w w') : Rel P base κ M σ a w' := by
  have hh : ∀ i, Holds κ M w κ M w' i := fun i => ⟨rfl, fun g hg => ⟨h.same g (fun e => hno i (by rw [hg, e])), fun _ => rfl⟩⟩
  refine ⟨fun s v hs => (hR.env s v hs).turn (Mem.le_refl M) (fun _ _ => rfl) (fun i _ ht => ⟨ht, hh i⟩) (fun i B _ hB => ⟨B, hB, Alike.refl B⟩), fun b B hB => (hR.bx b B hB).turn (Mem.le_refl M) (hh b) (fun _ k _ ht => ⟨ht, hh k⟩),
    ⟨Tab.keep (w := w) (Mem.le_refl M) (fun j c t fr hc => ?_) hR.good.1, fun b o v hv => ?_⟩, hR.inj, fun i g hi => ⟨(hR.kap i g hi).1, by rw [h.size]; exact (hR.kap i g hi).2⟩, hR.dis, by rw [h.size]; exact hR.low⟩
  · by_cases e : j = G
    · subst e
      obtain ⟨s1, s2, E, h1, h2⟩ := h.own
      rw [h1] at hc
      simp only [Option.some.injEq, Obj.cells.injEq] at hc
      obtain ⟨rfl, rfl, rfl⟩ := hc
      exact ⟨_, _, h2, rfl⟩
    · exact ⟨c, fr, (h.same j e).trans hc, rfl⟩
  · have hne : b ≠ G := fun e => by rw [e, hMG] at hv; cases hv
    exact (World.cell?_of_block (w := w) (h.same b hne)).trans (hR.good.2 b o v hv)
theorem fr_ownStep {G : Nat} {W : List Nat} {w'' : World} (hF : Fr base W κ M σ a w κ' M' σ' a' w') (hlow : base ≤ G) (hd : a'.defers = a.defers) (hno : ∀ i, κ' i ≠ some G) (hGs : (∃ i, κ i = some G) ∨ w.heap.size ≤ G) (h : OwnStep G w' w'') : Fr base W κ M σ a w κ' M' σ' a' w'' := by
  refine ⟨⟨h.below.os.trans hF.below.os, h.below.tape.trans hF.below.tape, h.below.output.trans hF.below.output, by rw [h.size]; exact hF.below.size, fun k hk => (h.same k (by omega)).trans (hF.below.block k hk)⟩, hF.le, hF.mem, hF.size, .of_eq hd, hF.tmps, fun i hi hdi => ?_, hF.bx, fun j o hj ho => ?_, .of (fun j hj hn => (h.same j fun e => ?_).trans (hF.same.frame j hj hn)) hF.same.src hF.same.mem⟩
  · obtain ⟨d1, e1, e2⟩ := hF.ids i hi hdi
    exact ⟨d1, e1, fun g hg => ⟨(h.same g (fun e => hno i (by rw [e1, hg, e]))).trans (e2 g hg).1, (e2 g hg).2⟩⟩
  · have hj' := hF.oth j o hj ho
    rw [h.same j fun e => ?_]
    · exact hj'
    · obtain ⟨_, _, _, h1, _⟩ := h.own
      rw [e, h1] at hj'
      cases hj'
      cases ho
  · subst e
    rcases hGs with ⟨i, hi⟩ | h
    · exact hn i hi
    · omega
theorem rel_id {k : Nat} {g : Option Nat} (hR : Rel P base κ M σ a w) (hb : σ.box k = none) (ht : σ.tok k = false) (hg : ∀ G, g = some G → base ≤ G ∧ G < w.heap.size ∧ ∀ i, κ i ≠ some G) : Rel P base (upd κ k g) M σ a w := by
  have hu : ∀ i, i ≠ k → upd κ k g i = κ i := fun i hi => upd_other _ _ _ _ hi
  have hh : ∀ i, i ≠ k → Holds κ M w (upd κ k g) M w i := fun i hi => ⟨hu i hi, fun _ _ => ⟨rfl, fun _ => rfl⟩⟩
  refine ⟨fun s v hs => ?_, fun b B hB => ?_, hR.good, fun i j G hi hj => ?_, fun i G hi => ?_, hR.dis, hR.low⟩
  · have hA := hR.env s v hs
    have hl : ∀ i, v.leans i → i ≠ k := fun i hi e => not_lean hb ht hA (e ▸ hi)
    exact hA.turn (Mem.le_refl M) (fun i hi => hu i (hl i hi)) (fun i hi h => ⟨h, hh i (hl i hi)⟩) (fun i B _ hB => ⟨B, hB, Alike.refl B⟩)
  · have hbk : b ≠ k := fun e => by rw [e, hb] at hB; cases hB
    exact (hR.bx b B hB).turn (Mem.le_refl M) (hh b hbk) fun p j hm h => ⟨h, hh j fun e => by rw [e, ht] at h; cases h⟩
  · by_cases e1 : i = k
    · subst e1
      rw [upd_same] at hi
      by_cases e2 : j = i
      · exact e2.symm
      · rw [hu j e2] at hj
        exact absurd hj ((hg G hi).2.2 j)
    · rw [hu i e1] at hi
      by_cases e2 : j = k
      · subst e2
        rw [upd_same] at hj
        exact absurd hi ((hg G hj).2.2 i)
      · rw [hu j e2] at hj
        exact hR.inj i j G hi hj
  · by_cases e : i = k
    · subst e
      rw [upd_same] at hi
      exact ⟨(hg G hi).1, (hg G hi).2.1⟩
    · rw [hu i e] at hi; exact hR.kap i G hi
end Go.Lift
