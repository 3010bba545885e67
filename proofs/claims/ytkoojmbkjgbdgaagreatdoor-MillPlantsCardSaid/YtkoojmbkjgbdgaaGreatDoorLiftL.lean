/-
  The library's tables in memory; slices that a call has made.
-/
import Derived.Test.YtkoojmbkjgbdgaaGreatDoorLiftK
import Derived.Lib.LaidTab
import Derived.Laws.AppendOwn
set_option linter.unusedSectionVars false
set_option linter.unusedVariables false
set_option linter.unusedSimpArgs false
namespace Go.Lift
open Go
def TabAt (G : Nat) (k : IntKind) (zs : List Int) (M : Mem) (w : World) : Prop :=
  (∃ c t fr, w.heap[G]? = some (.cells c t fr) ∧ c.size = zs.length) ∧ ∀ (i : Nat) (z : Int), zs[i]? = some z → M G i = some (.int k z)
theorem TabAt.keep {G : Nat} {k : IntKind} {zs : List Int} {M M' : Mem} {w w' : World} (hle : Mem.le M M') (hs : SameSizes w w') (h : TabAt G k zs M w) : TabAt G k zs M' w' := by
  obtain ⟨⟨c, t, fr, h1, h2⟩, h3⟩ := h
  obtain ⟨c', fr', h4, h5⟩ := hs G c t fr h1
  exact ⟨⟨c', t, fr', h4, by omega⟩, fun i z hz => hle _ _ _ (h3 i z hz)⟩
def GvAt (M : Mem) : Prop := ∀ g x, gvar g = some x → M g 0 = some (.int .i64 x.1) ∧ M g 1 = some (.int .i64 x.2)
theorem GvAt.keep {M M' : Mem} (hle : Mem.le M M') (h : GvAt M) : GvAt M' := fun g x hx => ⟨hle _ _ _ (h g x hx).1, hle _ _ _ (h g x hx).2⟩
def VarAt (G : Nat) (e : Bool) (M : Mem) : Prop := ∃ v, M G 0 = some v ∧ match e with
  | true => v = .nilIface ∨ ∃ t u, v = .iface t u
  | false => ∃ m, v = .int .i64 m
theorem VarAt.keep {G : Nat} {e : Bool} {M M' : Mem} (hle : Mem.le M M') (h : VarAt G e M) : VarAt G e M' := by
  obtain ⟨v, h1, h2⟩ := h
  exact ⟨v, hle _ _ _ h1, h2⟩
@[reducible] def tabsVars (l : List (Nat × IntKind × List Int)) (c : List (Nat × Bool)) : Tab :=
  ⟨fun M w => ((∀ x, x ∈ l → TabAt x.1 x.2.1 x.2.2 M w) ∧ ∀ y, y ∈ c → VarAt y.1 y.2 M) ∧ GvAt M, fun hle hs h => ⟨⟨fun x hx => (h.1.1 x hx).keep hle hs, fun y hy => (h.1.2 y hy).keep hle⟩, h.2.keep hle⟩, fun h => h.2⟩
theorem TabAt.is {P : Program} {G : Nat} {k : IntKind} {zs : List Int} {M : Mem} {w : World} {name : String} (h : TabAt G k zs M w) (hg : ∀ b o v, M b o = some v → w.cell? ⟨b, o, none⟩ = some v) (hn : P.globalNamed name = some G) : Lib.TabIs P w name k zs := by
  obtain ⟨⟨c, t, fr, h1, h2⟩, h3⟩ := h
  unfold Lib.TabIs World.var?
  rw [hn]
  simp only [Option.bind_some, h1, Option.some.injEq]
  apply Array.ext_getElem?
  intro i
  by_cases hi : i < zs.length
  · have hz : zs[i]? = some zs[i] := List.getElem?_eq_getElem hi
    have := hg _ _ _ (h3 i _ hz)
    unfold World.cell? at this
    simp only [h1, Option.isSome_none, Bool.false_eq_true, if_false] at this
    rw [this]
    simp [hz]
  · rw [Array.getElem?_eq_none (by omega), Array.getElem?_eq_none (by simp; omega)]
theorem tabAt_of {P : Program} {G : Nat} {k : IntKind} {zs : List Int} {w : World} {name : String} (h : Lib.TabIs P w name k zs) (hn : P.globalNamed name = some G) : TabAt G k zs (snap w) w := by
  have hc := h
  unfold Lib.TabIs World.var? at h
  rw [hn] at h
  simp only [Option.bind_some] at h
  split at h
  · rename_i c t fr hh
    simp only [Option.some.injEq] at h
    refine ⟨⟨c, t, fr, hh, by rw [h]; simp⟩, fun i z hz => ?_⟩
    have hi := (List.getElem?_eq_some_iff.1 hz).1
    have := Lib.TabIs.cell hc hn i hi
    rw [show zs.getD i 0 = z by simp [List.getD, hz]] at this
    exact this
  · cases h
instance (priority := low) mfOff : Mf := ⟨false⟩
@[reducible] def mfOn : Mf := ⟨true⟩
end Go.Lift
namespace Go.Lift
open Go Go.RowKit
variable {P : Program} [Tab] {M : Mem} {w w' : World}
theorem mem_none (hg : Good M w) {g : Nat} (h : w.heap.size ≤ g) (o : Nat) : M g o = none := by
  cases hc : M g o with
  | none => rfl
  | some v =>
    have := World.block_lt_of_cell? w _ (hg.2 _ _ _ hc)
    simp only at this
    omega
theorem good_below (hg : Good M w) (hb : Below w.heap.size w w') : Good M w' := by
  refine ⟨Tab.keep (w := w) (Mem.le_refl M) (fun j c t fr h => ⟨c, fr, by rw [hb.block j (Array.getElem?_eq_some_iff.1 h).1]; exact h, rfl⟩) hg.1, fun b o v h => ?_⟩
  have hc := hg.2 b o v h
  rw [World.cell?_of_block (w := w) (hb.block b (World.block_lt_of_cell? w _ hc))]
  exact hc
theorem own_out {e : Ty} {x : List e.den} {T : TypeId} {v : Value} {news : List Value} (hg : Good M w) (hb : Below w.heap.size w w') (h : w'.ownsRow w.heap.size T e.size v x.length news)
    (hrel : ∀ i (hi : i < x.length), relC P e M x[i] ((news.drop (i * e.size)).take e.size)) :
    ∃ M', Good M' w' ∧ Grow M w M' w' ∧ relV P (.slice e) M' x v := by
  obtain ⟨hl, h⟩ := h
  rcases h with ⟨rfl, h0⟩ | ⟨g, cap, cur, rfl, h1, h2, h3, h4, h5, h6⟩
  · refine ⟨M, good_below hg hb, ⟨hb, fun _ _ => rfl⟩, ?_⟩
    have : x = [] := List.length_eq_zero_iff.1 h0
    subst this
    unfold relV viaCells
    simp only [Ty.agg, Bool.false_eq_true, if_false, relC]
    exact ⟨_, rfl, .inl ⟨rfl, trivial⟩⟩
  · have hle : Mem.le M (fun b o => if b = g then news[o]? else M b o) := by
      intro b o v hv
      by_cases hbg : b = g
      · subst hbg; rw [mem_none hg h1] at hv; cases hv
      · simp only [if_neg hbg]; exact hv
    refine ⟨fun b o => if b = g then news[o]? else M b o, ⟨Tab.keep (w := w) hle (fun j c t fr h => ⟨c, fr, by rw [hb.block j (Array.getElem?_eq_some_iff.1 h).1]; exact h, rfl⟩) hg.1, fun b o v hv => ?_⟩, ⟨hb, fun b hlt => ?_⟩, ?_⟩
    · by_cases hbg : b = g
      · subst hbg
        simp only [if_true] at hv
        unfold World.cell?
        simp only [h2, Option.isSome_none, Bool.false_eq_true, if_false]
        rw [← h6, List.getElem?_take] at hv
        split at hv
        · simpa using hv
        · cases hv
      · simp only [if_neg hbg] at hv
        have hc := hg.2 b o v hv
        rw [World.cell?_of_block (w := w) (hb.block b (World.block_lt_of_cell? w _ hc))]
        exact hc
    · funext o
      exact if_neg (by omega)
    · unfold relV viaCells
      simp only [Ty.agg, Bool.false_eq_true, if_false, relC]
      exact ⟨_, rfl, .inr (.inl ⟨g, 0, cap, news, rfl, h3, hl, fun j u hj => by simp only [if_true, Nat.zero_add]; exact hj, fun i hi => relC_mono e hle _ _ (hrel i hi)⟩)⟩
theorem own_out2 {e : Ty} {x : List e.den} {T : TypeId} {v : Value} {news : List Value} (hg : Good M w) (hb : Below w.heap.size w w') (h : w'.ownsRow w.heap.size T e.size v x.length news)
    (hrel : ∀ i (hi : i < x.length), relC P e M x[i] ((news.drop (i * e.size)).take e.size)) :
    ∃ M', Good M' w' ∧ Grow M w M' w' ∧ relV P (.slice e) M' x v ∧ (v = .slice none 0 0 ∨ ∃ b n cap, v = .slice (some ⟨b, 0, none⟩) n cap ∧ w.heap.size ≤ b ∧ OwnBlk M' w' e.size b n cap) := by
  have h' := h
  obtain ⟨hl, h⟩ := h
  rcases h with ⟨rfl, h0⟩ | ⟨g, cap, cur, rfl, h1, h2, h3, h4, h5, h6⟩
  · obtain ⟨M', a, b, c⟩ := own_out (P := P) hg hb h' hrel
    exact ⟨M', a, b, c, .inl rfl⟩
  · have hle : Mem.le M (fun b o => if b = g then news[o]? else M b o) := by
      intro b o v hv
      by_cases hbg : b = g
      · subst hbg; rw [mem_none hg h1] at hv; cases hv
      · simp only [if_neg hbg]; exact hv
    refine ⟨fun b o => if b = g then news[o]? else M b o, ⟨Tab.keep (w := w) hle (fun j c t fr h => ⟨c, fr, by rw [hb.block j (Array.getElem?_eq_some_iff.1 h).1]; exact h, rfl⟩) hg.1, fun b o v hv => ?_⟩, ⟨hb, fun b hlt => ?_⟩, ?_, .inr ⟨g, x.length, cap, rfl, h1, cur, T, h2, h5, h3, h4, fun o ho => ?_⟩⟩
    · by_cases hbg : b = g
      · subst hbg
        simp only [if_true] at hv
        unfold World.cell?
        simp only [h2, Option.isSome_none, Bool.false_eq_true, if_false]
        rw [← h6, List.getElem?_take] at hv
        split at hv
        · simpa using hv
        · cases hv
      · simp only [if_neg hbg] at hv
        have hc := hg.2 b o v hv
        rw [World.cell?_of_block (w := w) (hb.block b (World.block_lt_of_cell? w _ hc))]
        exact hc
    · funext o
      exact if_neg (by omega)
    · unfold relV viaCells
      simp only [Ty.agg, Bool.false_eq_true, if_false, relC]
      exact ⟨_, rfl, .inr (.inl ⟨g, 0, cap, news, rfl, h3, hl, fun j u hj => by simp only [if_true, Nat.zero_add]; exact hj, fun i hi => relC_mono e hle _ _ (hrel i hi)⟩)⟩
    · simp only [if_true]
      exact List.getElem?_eq_none (by omega)
theorem CallsOwn.calls {g : FuncId} {args : Array Value} {e : Ty} {l : List e.den} (h : CallsOwn P g args M w e l) : CallsTo P g args M w fun M' v => relR P M' [.slice e] l v :=
  Calls.mono h fun _ _ ⟨M', v, a, b, c, d, _⟩ => ⟨M', v, a, d, b, c⟩
end Go.Lift
