/-
  Single operations, second part.
-/
import Derived.Test.YtkoojmbkjgbdgaaGreatDoorLiftC
import Derived.Laws.Slices
import Derived.Laws.MakeOwn
import Derived.Laws.BytesString
import Derived.Lib.ConvBytes
set_option linter.unusedSectionVars false
set_option linter.unusedVariables false
set_option linter.unusedSimpArgs false
namespace Go.Lift
open Go Go.RowKit
variable [Tab] [Mf]
variable {P : Program} {Γ : Ctx} {base : Nat} {κ : Nat → Option Nat} {M : Mem} {σ : St} {a : Act} {w : World}
theorem foldl_set (off : Nat) : ∀ (ds : List Value) (k : Nat) (cells : Array Value), off + k + ds.length ≤ cells.size →
    ((ds.zipIdx k).foldl (fun cs (x : Value × Nat) => cs.setIfInBounds (off + x.2) x.1) cells).toList = splice cells.toList (off + k) ds
  | [], k, cells, _ => by simp [splice]
  | d :: ds, k, cells, h => by
    simp only [List.length_cons] at h
    rw [List.zipIdx_cons, List.foldl_cons, foldl_set off ds (k + 1) _ (by simp only [Array.size_setIfInBounds]; omega)]
    apply List.ext_getElem?
    intro i
    rw [getElem?_splice _ _ _ _ (by simp; omega), getElem?_splice _ _ _ _ (by simp; omega)]
    simp only [Array.toList_setIfInBounds, List.length_cons, List.getElem?_set]
    by_cases h1 : off + (k + 1) ≤ i ∧ i < off + (k + 1) + ds.length
    · rw [if_pos h1, if_pos (by omega), show i - (off + k) = (i - (off + (k + 1))) + 1 by omega, List.getElem?_cons_succ]
    · rw [if_neg h1]
      by_cases h2 : off + k = i
      · subst h2
        rw [if_pos rfl, if_pos (show off + k < cells.toList.length by simp only [Array.length_toList]; omega), if_pos (by omega), Nat.sub_self, List.getElem?_cons_zero]
      · rw [if_neg h2, if_neg (by omega)]
theorem fill_cons {place : Nat → Option (Nat × Nat)} {cells : Array Value} {i off size : Nat} {v : Value} {rest : List (Nat × Value)} (hp : place i = some (off, size)) (hv : v.cells.size = size) (hl : off + size ≤ cells.size) :
    Instr.fill place cells ((i, v) :: rest) = Instr.fill place (splice cells.toList off v.cells.toList).toArray rest := by
  rw [Instr.fill, hp]
  simp only [hv]
  rw [if_neg (by simp; omega)]
  congr 1
  have := foldl_set off v.cells.toList 0 cells (by simp; omega)
  simp only [Nat.add_zero] at this
  apply Array.ext'
  rw [← this, ← Array.foldl_toList, Array.toList_zipIdx]
theorem run_mapM {α β : Type} (f : α → Sem β) (g : α → β) (w : World) : ∀ (l : List α), (∀ x ∈ l, (f x).run P w = .ok (g x) w) → (l.toArray.mapM f).run P w = .ok (l.map g).toArray w := by
  intro l h
  have hl : ∀ (l : List α), (∀ x ∈ l, (f x).run P w = .ok (g x) w) → (l.mapM f).run P w = .ok (l.map g) w := by
    intro l
    induction l with
    | nil => intro _; rfl
    | cons x l ih =>
      intro h
      simp only [List.mapM_cons, Sem.run_bind, h x (by simp), Result.andThen_ok, ih (fun y hy => h y (List.mem_cons_of_mem _ hy)), Sem.run_pure, List.map_cons]
  simp only [List.mapM_toArray, Sem.run_map, hl l h, Result.andThen_ok]
theorem run_zero {t : Ty} {T : TypeId} {i : TypeInfo} {d : TypeDesc} (hi : Info P t T i d) {z : Value} (hz : i.zero = some z) (w : World) : (zeroValue T).run P w = .ok z w := by
  simp only [zeroValue, typeInfo, program, Sem.run_bind, Sem.run, Result.andThen_ok, hi.info, hz, Sem.run_pure]
section ops
variable (hR : Rel P base κ M σ a w) (hC : COk P Γ)
include hR
theorem ev_build {n : Nat} {fs : Array Field} {t : Ty} {T : TypeId} (hfit : fits P t (.inl T) = true) (hu : P.underlying T = some (.struct fs)) (hn : n = fs.size) (size : Field → Nat)
    (hsz : ∀ i f u, fs[i]? = some f → t.atP (fieldPath n i) = some u → size f = u.size) :
    ∀ (ps : List (Nat × Operand)) (x x' : t.den) (o o' : Own) (cells : Array Value), (∀ p ∈ ps, p.1 < n) → evBuild n σ ps t x o = some (x', o') → relC P t M x cells.toList → OwnsC κ M w σ.tok t cells.toList o →
      ∃ cells', Instr.fill ((fs.map fun f => (f.offset, size f))[·]?) cells (ps.map fun p => (p.1, a.eval p.2)) = some cells' ∧ relC P t M x' cells'.toList ∧ OwnsC κ M w σ.tok t cells'.toList o'
  | [], x, x', o, o', cells, _, h, hr, ho => by
    simp only [evBuild, Option.some.injEq, Prod.mk.injEq] at h
    obtain ⟨rfl, rfl⟩ := h
    exact ⟨cells, rfl, hr, ho⟩
  | (i, y) :: rest, x, x', o, o', cells, hlt, h, hr, ho => by
    simp only [evBuild] at h
    split at h
    · rename_i u u' v ow hu' hy
      split at h
      · rename_i v' hv'
        split at h
        · rename_i x1 hx1
          obtain ⟨rfl, rfl⟩ := castTy_some hv'
          have hyr := opd_rel hR hy
          have hin : i < fs.size := by have := hlt (i, y) (by simp); omega
          subst hn
          obtain ⟨u2, g1, g2, g3⟩ := fits_field hfit hu (Array.getElem?_eq_getElem hin)
          rw [hu'] at g1; simp only [Option.some.injEq] at g1; subst g1
          have hs := hsz i _ _ (Array.getElem?_eq_getElem hin) hu'
          have hds := relC_len _ M _ _ (relV_cells hyr.1)
          have hvs : (a.eval y).cells.size = u'.size := by simpa using hds
          have hat := atP_rel _ t _ hu' g2
          have hcl := relC_len t M x _ hr
          simp only [Array.length_toList] at hcl
          have hr1 := setP_rel _ t x x1 _ _ _ _ hx1 g2 hr (relV_cells hyr.1)
          have ho1 := ho.put hyr.2 g2 hu' hds (by simp only [Array.length_toList]; omega)
          obtain ⟨cells', e1, e2, e3⟩ := ev_build hfit hu rfl size hsz rest x1 x' _ o' (splice cells.toList fs[i].offset (a.eval y).cells.toList).toArray (fun p hp => hlt p (List.mem_cons_of_mem _ hp)) h (by simpa using hr1) (by simpa using ho1)
          refine ⟨cells', ?_, e2, e3⟩
          rw [List.map_cons, fill_cons (off := fs[i].offset) (size := u'.size) (by simp [hin, hs]) hvs (by omega)]
          exact e1
        · cases h
      · cases h
    · cases h
theorem ev_buildArr {n : Nat} {e : Ty} : ∀ (ps : List (Nat × Operand)) (x x' : Nat → e.den) (cells : Array Value), (∀ p ∈ ps, p.1 < n) → evBuildArr e σ ps x = some x' → relC P (.arr n e) M x cells.toList →
      ∃ cells', Instr.fill (fun i => some (i * e.size, e.size)) cells (ps.map fun p => (p.1, a.eval p.2)) = some cells' ∧ relC P (.arr n e) M x' cells'.toList
  | [], x, x', cells, _, h, hr => by
    simp only [evBuildArr, Option.some.injEq] at h
    subst h
    exact ⟨cells, rfl, hr⟩
  | (i, y) :: rest, x, x', cells, hlt, h, hr => by
    simp only [evBuildArr] at h
    split at h
    · rename_i v hv
      have hyr := get_rel hR hv
      have hin : i < n := hlt (i, y) (by simp)
      have hds := relC_len _ M _ _ (relV_cells hyr)
      have hvs : (a.eval y).cells.size = e.size := by simpa using hds
      have hcl := relC_len (.arr n e) M x _ hr
      simp only [Array.length_toList, Ty.size] at hcl
      have hle : (i + 1) * e.size ≤ n * e.size := Nat.mul_le_mul_right _ hin
      simp only [Nat.add_mul, Nat.one_mul] at hle
      have hr1 := setP_rel (M := M) (u := e) [.idx (i : Int)] (.arr n e) x (aset x (i : Int) v) v (i * e.size) _ _ (by simp [setP, castTy]) (by simp [offV]; omega) hr (relV_cells hyr)
      obtain ⟨cells', e1, e2⟩ := ev_buildArr rest _ x' (splice cells.toList (i * e.size) (a.eval y).cells.toList).toArray (fun p hp => hlt p (List.mem_cons_of_mem _ hp)) h (by simpa using hr1)
      refine ⟨cells', ?_, e2⟩
      rw [List.map_cons, fill_cons (off := i * e.size) (size := e.size) rfl hvs (by omega)]
      exact e1
    · cases h
include hC
theorem ok_build {o : Oper} {T : TypeId} {ps : Array (Nat × Operand)} (hop : o.op = .build T ps) : EffOK P κ M w σ a o (eff Γ o σ) := by
  simp only [eff, hop]
  split
  · rename_i n e ht
    split
    · rename_i hc
      simp only [Bool.and_eq_true, List.all_eq_true, decide_eq_true_eq] at hc
      split
      · rename_i x hx
        have hfit := hC.ty T _ ht
        obtain ⟨i, d, hi⟩ := fits_info hfit
        obtain ⟨E, hE, hfE⟩ := fits_arr hfit
        obtain ⟨iE, dE, hiE⟩ := fits_info hfE
        obtain ⟨z, hz, hz1, _⟩ := hi.zero hc.1
        obtain ⟨cells', e1, e2⟩ := ev_buildArr hR ps.toList (fun _ => e.dflt) x z.cells (fun p hp => hc.2 p hp) hx (hz1 M)
        refine ⟨.agg cells', ?_, data_rel ?_⟩
        · simp only [execOp, hop, Instr.build, Sem.run_bind, run_zero hi hz, Result.andThen_ok, run_underlying hE, run_sizeOf' hiE, Array.toList_map, e1, Sem.run_pure]
        · unfold relV viaCells; simp only [Ty.agg, if_true]; exact ⟨cells', rfl, e2⟩
      · exact ok_fail
    · exact ok_fail
  · rename_i u hne ht
    split
    · rename_i hc
      simp only [Bool.and_eq_true, List.all_eq_true, decide_eq_true_eq] at hc
      obtain ⟨⟨hc1, hc2⟩, hc3⟩ := hc
      split
      · rename_i x o' hx
        have hfit := hC.ty T _ ht
        obtain ⟨i, d, hi⟩ := fits_info hfit
        have hst : u = .unit ∨ (∃ v, u = .one v) ∨ ∃ p q, u = .pair p q := by
          cases u <;> first | (exact .inl rfl) | (exact .inr (.inl ⟨_, rfl⟩)) | (exact .inr (.inr ⟨_, _, rfl⟩)) | (exact absurd rfl (hne _ _)) | (cases hc2)
        obtain ⟨fs, hfs⟩ := fits_struct hfit hst
        have hn := hC.nf T _ fs ht hfs
        obtain ⟨z, hz, hz1, hz2⟩ := hi.zero hc1
        have hsize : ∀ f ∈ fs.toList, ∃ k, (sizeOf f.type).run P w = .ok k w ∧ ∀ j v, fs[j]? = some f → u.atP (fieldPath (Γ.nf T) j) = some v → k = v.size := by
          intro f hf
          obtain ⟨j, hj, he⟩ := List.getElem_of_mem hf
          simp only [Array.length_toList] at hj
          simp only [Array.getElem_toList] at he
          obtain ⟨v, _, _, g3⟩ := fits_field hfit hfs (show fs[j]? = some f by rw [Array.getElem?_eq_getElem hj, he])
          obtain ⟨iv, dv, hiv⟩ := fits_info g3
          refine ⟨v.size, run_sizeOf' hiv w, fun j' v' hj' hv' => ?_⟩
          obtain ⟨v2, k1, _, k3⟩ := fits_field hfit hfs hj'
          rw [hn, k1] at hv'; simp only [Option.some.injEq] at hv'; subst hv'
          obtain ⟨iv', dv', hiv'⟩ := fits_info k3
          have h1 := hiv.size
          have h2 := hiv'.size
          have h3 := hiv.info
          rw [hiv'.info] at h3; simp only [Option.some.injEq] at h3; subst h3
          omega
        let size : Field → Nat := fun f => match (sizeOf f.type).run P w with
          | .ok k _ => k
          | _ => 0
        have hsz : ∀ f ∈ fs.toList, (sizeOf f.type).run P w = .ok (size f) w ∧ ∀ j v, fs[j]? = some f → u.atP (fieldPath (Γ.nf T) j) = some v → size f = v.size := by
          intro f hf
          obtain ⟨k, h1, h2⟩ := hsize f hf
          have : size f = k := by simp only [size, h1]
          rw [this]; exact ⟨h1, h2⟩
        have hmap := run_mapM (P := P) (fun f : Field => (do pure (f.offset, ← sizeOf f.type) : Sem (Nat × Nat))) (fun f => (f.offset, size f)) w fs.toList (fun f hf => by
          simp only [Sem.run_bind, (hsz f hf).1, Result.andThen_ok, Sem.run_pure])
        simp only [Array.toArray_toList] at hmap
        obtain ⟨cells', e1, e2, e3⟩ := ev_build hR hfit hfs hn size (fun j f v hj hv => (hsz f (by
            have := (Array.getElem?_eq_some_iff.1 hj); obtain ⟨h1, h2⟩ := this; rw [← h2]; simp)).2 j v hj hv) ps.toList u.dflt x (nilPaths u) o' z.cells (fun p hp => hc3 p hp) hx (hz1 M) (hz2 κ M w σ.tok)
        refine ⟨.agg cells', ?_, ?_⟩
        · simp only [execOp, hop, Instr.build, Sem.run_bind, run_zero hi hz, Result.andThen_ok, run_underlying hfs, hmap, Array.toList_map]
          rw [show (fun x => (List.map (fun f => (f.offset, size f)) fs.toList).toArray[x]?) = ((fs.map fun f => (f.offset, size f))[·]?) from ?_, e1]
          · rfl
          · funext j; simp
        · refine ⟨?_, e3⟩
          unfold relV viaCells; rw [if_pos hc2]; exact ⟨cells', rfl, e2⟩
      · exact ok_fail
    · exact ok_fail
  · exact ok_fail
end ops
end Go.Lift
namespace Go.Lift
open Go Go.RowKit
variable [Tab] [Mf]
variable {P : Program} {Γ : Ctx} {base : Nat} {κ : Nat → Option Nat} {M : Mem} {σ : St} {a : Act} {w : World}
theorem madeCells_at (z : Array Value) (n j : Nat) (hj : j < n) : (madeCells z n).toList[j]? = some z[j % z.size]! := by
  simp [madeCells, hj]
theorem relRows_made {e : Ty} {x : e.den} {z : Array Value} (h : relC P e M x z.toList) (n : Nat) : relRows P e M (List.replicate n x) (madeCells z (n * e.size)).toList := by
  have hz : z.size = e.size := by have := relC_len e M x _ h; simpa using this
  refine ⟨by simp [size_madeCells], fun i hi => ?_⟩
  have hi' : i < n := by simpa using hi
  have hle : (i + 1) * e.size ≤ n * e.size := Nat.mul_le_mul_right _ hi'
  simp only [Nat.add_mul, Nat.one_mul] at hle
  have : ((madeCells z (n * e.size)).toList.drop (i * e.size)).take e.size = z.toList := by
    apply List.ext_getElem?
    intro j
    rw [List.getElem?_take]
    by_cases hj : j < e.size
    · rw [if_pos hj, List.getElem?_drop, madeCells_at _ _ _ (by omega), hz, Nat.mul_comm i, Nat.mul_add_mod, Nat.mod_eq_of_lt hj]
      rw [getElem!_pos z j (by omega)]
      simp [hz, hj]
    · rw [if_neg hj, List.getElem?_eq_none (by simp [hz]; omega)]
  rw [this]
  simpa using h
section ops
variable (hR : Rel P base κ M σ a w) (hC : COk P Γ)
include hR
theorem ev_buildSlice {e : Ty} : ∀ (ps : List (Nat × Operand)) (i : Nat) (l : List e.den) (cells : Array Value), evBuildSlice e σ i ps = some l → cells.size = (i + l.length) * e.size →
      ∃ cells', Instr.fill (fun i => some (i * e.size, e.size)) cells (ps.map fun p => (p.1, a.eval p.2)) = some cells' ∧ cells'.size = cells.size ∧ cells'.toList.take (i * e.size) = cells.toList.take (i * e.size) ∧ relRows P e M l (cells'.toList.drop (i * e.size))
  | [], i, l, cells, h, hs => by
    simp only [evBuildSlice, Option.some.injEq] at h
    subst h
    refine ⟨cells, rfl, rfl, rfl, ?_, fun j hj => absurd hj (Nat.not_lt_zero _)⟩
    simp only [List.length_nil, Nat.add_zero] at hs
    simp [hs]
  | (j, y) :: rest, i, l, cells, h, hs => by
    simp only [evBuildSlice] at h
    split at h
    · rename_i hij; subst hij
      split at h
      · rename_i v l' hv hl'
        simp only [Option.some.injEq] at h; subst h
        have hyr := getN_rel hR hv
        have hds := relC_len _ M _ _ (relV_cells hyr)
        have hvs : (a.eval y).cells.size = e.size := by simpa using hds
        simp only [List.length_cons] at hs
        have hle : (i + 1) * e.size ≤ (i + (l'.length + 1)) * e.size := Nat.mul_le_mul_right _ (by omega)
        simp only [Nat.add_mul, Nat.one_mul] at hle hs
        have hsp : (splice cells.toList (i * e.size) (a.eval y).cells.toList).length = cells.toList.length := length_splice (by simp only [Array.length_toList]; omega)
        obtain ⟨cells', e1, e2, e3, e4⟩ := ev_buildSlice rest (i + 1) l' (splice cells.toList (i * e.size) (a.eval y).cells.toList).toArray hl' (by
          simp only [List.size_toArray, hsp, Array.length_toList, Nat.add_mul, Nat.one_mul]; omega)
        have e2' : cells'.size = cells.size := by rw [e2]; simpa using hsp
        have hfirst : cells'.toList.take ((i + 1) * e.size) = (splice cells.toList (i * e.size) (a.eval y).cells.toList).take ((i + 1) * e.size) := e3
        have hat : ∀ q, q < (i + 1) * e.size → cells'.toList[q]? = (splice cells.toList (i * e.size) (a.eval y).cells.toList)[q]? := by
          intro q hq
          have := congrArg (·[q]?) hfirst
          simp only [List.getElem?_take, if_pos hq] at this
          exact this
        have hmul : (i + 1) * e.size = i * e.size + e.size := by rw [Nat.add_mul, Nat.one_mul]
        refine ⟨cells', ?_, e2', ?_, ?_, ?_⟩
        · rw [List.map_cons, fill_cons (off := i * e.size) (size := e.size) rfl hvs (by omega)]
          exact e1
        · apply List.ext_getElem?
          intro q
          rw [List.getElem?_take, List.getElem?_take]
          split
          · rename_i hq
            rw [hat q (by omega), getElem?_splice _ _ _ _ (by simp only [Array.length_toList]; omega), if_neg (by omega)]
          · rfl
        · have := e4.1
          simp only [List.length_drop, Array.length_toList, List.length_cons, hmul, Nat.add_mul, Nat.one_mul] at this ⊢
          omega
        · intro q hq
          cases q with
          | zero =>
            simp only [List.getElem_cons_zero, Nat.zero_mul, List.drop_zero]
            have : (cells'.toList.drop (i * e.size)).take e.size = (a.eval y).cells.toList := by
              apply List.ext_getElem?
              intro q
              rw [List.getElem?_take]
              by_cases hq : q < e.size
              · rw [if_pos hq, List.getElem?_drop, hat _ (by omega), getElem?_splice _ _ _ _ (by simp only [Array.length_toList]; omega), if_pos (by simp only [Array.length_toList]; omega)]
                congr 1; omega
              · rw [if_neg hq, List.getElem?_eq_none (by simp only [Array.length_toList]; omega)]
            rw [this]
            exact relV_cells hyr
          | succ q =>
            have := e4.2 q (by simpa using hq)
            simp only [List.getElem_cons_succ]
            rw [List.drop_drop] at this ⊢
            rwa [show i * e.size + (q + 1) * e.size = (i + 1) * e.size + q * e.size by rw [hmul, Nat.add_mul, Nat.one_mul]; omega]
      · cases h
    · cases h
include hC
theorem ok_buildSlice {o : Oper} {T : TypeId} {n : Nat} {ps : Array (Nat × Operand)} (hop : o.op = .buildSlice T n ps) : EffOK P κ M w σ a o (eff Γ o σ) := by
  simp only [eff, hop]
  split
  · rename_i e ht
    split
    · rename_i hc
      simp only [Bool.and_eq_true, decide_eq_true_eq] at hc
      split
      · rename_i l hl
        split
        · rename_i hn; subst hn
          suffices key : ∃ cells E, (execOp a.eval o).run P w = .ok (.value (.slice (some ⟨w.heap.size, 0, none⟩) l.length l.length)) (w.alloc (.cells cells E)) ∧ relRows P e M l cells.toList ∧ l.length ≤ maxLen by
            cases o.guard.isNone && o.dst.any Γ.own with
            | true => exact fun _ => key
            | false => exact fun _ => key
          have hfit := hC.ty T _ ht
          obtain ⟨E, hE, hfE⟩ := fits_slice hfit
          obtain ⟨iE, dE, hiE⟩ := fits_info hfE
          obtain ⟨z, hz, hz1, _⟩ := hiE.zero hc.1.1
          let z0 : Array Value := if l.length * e.size = 0 then #[] else z.cells
          obtain ⟨cells', e1, e2, e3, e4⟩ := ev_buildSlice hR ps.toList 0 l (madeCells z0 (l.length * e.size)) hl (by rw [size_madeCells]; simp)
          refine ⟨cells', E, ?_, by simpa using e4, ?_⟩
          · by_cases h0 : l.length * e.size = 0
            · simp only [z0, h0, if_true] at e1
              simp only [execOp, hop, Instr.buildSlice, Sem.run_bind, run_underlying hE, Result.andThen_ok, run_sizeOf' hiE, h0, Array.toList_map]
              rw [if_neg (by omega)]
              simp only [Sem.run_pure, Result.andThen_ok, if_true, Sem.run_bind]
              have : (Array.map (fun x => (#[] : Array Value)[x % (#[] : Array Value).size]!) (Array.range 0)) = madeCells #[] 0 := rfl
              rw [this, e1]
              rfl
            · simp only [z0, h0, if_false] at e1
              simp only [execOp, hop, Instr.buildSlice, Sem.run_bind, run_underlying hE, Result.andThen_ok, run_sizeOf' hiE, Array.toList_map]
              rw [if_neg (by omega)]
              simp only [h0, if_false, Sem.run_pure, Result.andThen_ok, Sem.run_bind, run_zero hiE hz]
              have : (Array.map (fun x => z.cells[x % z.cells.size]!) (Array.range (l.length * e.size))) = madeCells z.cells (l.length * e.size) := rfl
              rw [this, e1]
              rfl
          · have hs := hc.2
            have hs1 := hc.1.2
            unfold maxLen
            omega
        · exact ok_fail
      · exact ok_fail
    · exact ok_fail
  · exact ok_fail
omit hR in
theorem run_mk {T : TypeId} {e : Ty} (ht : Γ.ty T = some (.slice e)) (hp : e.plain = true) {j j' : Int} (hc : (decide (0 ≤ j) && decide (j ≤ 4294967296) && (j == j')) = true) (w : World) :
    ∃ cells E, (Instr.makeSlice T (.int .i64 j) (.int .i64 j')).run P w = .ok (.slice (some ⟨w.heap.size, 0, none⟩) j.toNat j.toNat) (w.alloc (.cells cells E)) ∧ relRows P e M (List.replicate j.toNat e.dflt) cells.toList ∧ j.toNat ≤ maxLen := by
  simp only [Bool.and_eq_true, decide_eq_true_eq, beq_iff_eq] at hc
  obtain ⟨⟨hc1, hc2⟩, hc3⟩ := hc
  subst hc3
  have hfit := hC.ty T _ ht
  obtain ⟨E, hE, hfE⟩ := fits_slice hfit
  obtain ⟨iE, dE, hiE⟩ := fits_info hfE
  obtain ⟨z, hz, hz1, _⟩ := hiE.zero hp
  have hb := hiE.bytes
  have hr := run_make (P := P) w T E iE z hE hiE.info hz .i64 .i64 j j hc1 (Int.le_refl _) (by
    have : (iE.bytes : Int) * j ≤ 32768 * 4294967296 := Int.mul_le_mul (by omega) hc2 hc1 (by omega)
    omega) (by omega)
  refine ⟨madeCells z.cells (j.toNat * iE.size), E, hr, ?_, ?_⟩
  · rw [hiE.size]; exact relRows_made (hz1 M) _
  · unfold maxLen; omega
theorem ok_makeSlice {o : Oper} {T : TypeId} {n c : Operand} (hop : o.op = .makeSlice T n c) : EffOK P κ M w σ a o (eff Γ o σ) := by
  simp only [eff, hop]
  split
  · rename_i e j j' d ht hj hj' hd
    have h1 := relV_int.1 (get_rel hR hj)
    have h2 := relV_int.1 (get_rel hR hj')
    split
    · exact ok_fail
    · rename_i hp
      have hp : e.plain = true := by simpa using hp
      split
      all_goals
        intro hc
        obtain ⟨cells, E, g1, g2, g3⟩ := run_mk (M := M) hC ht hp hc w
        refine ⟨cells, E, ?_, g2, by simpa using g3⟩
        simp only [execOp, hop, h1, h2, Sem.run_bind, g1, Result.andThen_ok, Sem.run_pure, List.length_replicate]
  · exact ok_fail
omit hC in
theorem ok_makeFunc {o : Oper} {g : FuncId} {fs caps : Array Operand} (hop : o.op = .makeFunc (.func g) fs caps) : EffOK P κ M w σ a o (eff Γ o σ) := by
  simp only [eff, hop]
  split
  · rename_i hfs
    have hfs := Array.eq_empty_of_size_eq_zero hfs
    subst hfs
    split
    · rename_i l hl
      refine ⟨.func (.func g) #[] (caps.map a.eval), by simp [execOp, hop, Instr.makeFunc], _, rfl, ?_⟩
      rw [Array.toList_map]
      generalize caps.toList = cs at hl
      induction cs generalizing l with
      | nil => simp only [evCaps, Option.some.injEq] at hl; subst hl; rfl
      | cons x r ih =>
        simp only [evCaps] at hl
        split at hl
        · rename_i b l' hx hr
          simp only [Option.some.injEq] at hl; subst hl
          refine ⟨_, _, rfl, ?_, ih l' hr⟩
          obtain ⟨B, g, off, h1, h2, h3, h4⟩ := opd_rel hR hx
          have hrw : B.rows = false := by
            cases hb : B.rows with
            | false => rfl
            | true => rw [hb] at h3; cases hBt : B.t <;> simp [offB, hBt] at h3
          refine ⟨B, g, h1, hrw, h2, ?_⟩
          rw [hrw] at h3
          have : offV B.t [] = some off := by cases hBt : B.t <;> simp_all [offB]
          simp only [offV, Option.some.injEq] at this
          subst this; exact h4
        · rename_i t y ow l' hx hr
          simp only [Option.some.injEq] at hl; subst hl
          exact ⟨_, _, rfl, (opd_rel hR hx).1, ih l' hr⟩
        · cases hl
    · exact ok_fail
  · exact ok_fail
omit hR hC in
theorem rel_part {e : Ty} {l : List e.den} {b off : Nat} {cells : List Value} (hlen : cells.length = l.length * e.size) (hm : M.has b off cells) (hel : ∀ i (h : i < l.length), relC P e M l[i] ((cells.drop (i * e.size)).take e.size))
    {p q : Nat} (hpq : p ≤ q) (hq : q ≤ l.length) :
    ((cells.drop (p * e.size)).take ((q - p) * e.size)).length = ((l.take q).drop p).length * e.size ∧ M.has b (off + p * e.size) ((cells.drop (p * e.size)).take ((q - p) * e.size)) ∧
      ∀ i (h : i < ((l.take q).drop p).length), relC P e M ((l.take q).drop p)[i] ((((cells.drop (p * e.size)).take ((q - p) * e.size)).drop (i * e.size)).take e.size) := by
  have hl : ((l.take q).drop p).length = q - p := by simp; omega
  have hqs : q * e.size ≤ l.length * e.size := Nat.mul_le_mul_right _ hq
  have hps : p * e.size ≤ q * e.size := Nat.mul_le_mul_right _ hpq
  have hsub : (q - p) * e.size = q * e.size - p * e.size := Nat.sub_mul q p e.size
  refine ⟨?_, fun j u hj => ?_, fun i hi => ?_⟩
  · rw [hl, List.length_take, List.length_drop]; omega
  · rw [List.getElem?_take] at hj
    split at hj
    · rw [List.getElem?_drop] at hj
      have := hm _ _ hj
      rwa [← Nat.add_assoc] at this
    · cases hj
  · rw [hl] at hi
    have hle : (i + 1) * e.size ≤ (q - p) * e.size := Nat.mul_le_mul_right _ hi
    simp only [Nat.add_mul, Nat.one_mul] at hle
    have := hel (p + i) (by omega)
    have e1 : ((l.take q).drop p)[i]'(by rw [hl]; exact hi) = l[p + i]'(by omega) := by
      rw [List.getElem_drop, List.getElem_take]
    rw [e1]
    rw [List.drop_take, List.take_take, List.drop_drop, show min e.size ((q - p) * e.size - i * e.size) = e.size by omega, ← Nat.add_mul]
    exact this
omit hR hC in
theorem elem_of {T E : TypeId} (h : P.underlying T = some (.slice E)) : P.elem T = E := by simp [Program.elem, h]
omit hR hC in
theorem run_bounds (isSlice : Bool) (len cap : Nat) (low high : Option Value) (p q : Int) (hl : (low = none ∧ p = 0) ∨ low = some (.int .i64 p)) (hh : (high = none ∧ q = (len : Int)) ∨ high = some (.int .i64 q)) (h0 : 0 ≤ p) (h1 : p ≤ q) (h2 : q ≤ (len : Int)) (h3 : len ≤ cap) (w : World) :
    (Instr.sliceBounds isSlice len cap low high none).run P w = .ok (p.toNat, q.toNat, cap) w := by
  have eq : (q.toNat : Int) = q := Int.toNat_of_nonneg (by omega)
  rcases hl with ⟨rfl, rfl⟩ | rfl <;> rcases hh with ⟨rfl, rfl⟩ | rfl
  · simp [Instr.sliceBounds]
  · simp only [Instr.sliceBounds, Sem.run_bind, Sem.run_pure, Result.andThen_ok]
    rw [run_sliceBound w .i64 q cap _ (by omega) (by omega)]
    rfl
  · simp only [Instr.sliceBounds, Sem.run_bind, Sem.run_pure, Result.andThen_ok]
    rw [run_sliceBound w .i64 p len _ h0 (by omega)]
    rfl
  · simp only [Instr.sliceBounds, Sem.run_bind, Sem.run_pure, Result.andThen_ok]
    rw [run_sliceBound w .i64 q cap _ (by omega) (by omega)]
    simp only [Result.andThen_ok]
    rw [run_sliceBound w .i64 p q.toNat _ h0 (by omega)]
    rfl
omit hC in
theorem bound_lo {lo : Option Operand} {p : Int} (h : (match (generalizing := false) lo with | none => some (0 : Int) | some a => AVal.get (σ.opd a) (.int .i64)) = some p) : (lo.map a.eval = none ∧ p = 0) ∨ lo.map a.eval = some (.int .i64 p) := by
  cases lo with
  | none => simp only [Option.some.injEq] at h; exact .inl ⟨rfl, h.symm⟩
  | some x => right; rw [Option.map_some, relV_int.1 (get_rel hR h)]
omit hC in
theorem bound_hi {hi : Option Operand} {n : Nat} {q : Int} (h : (match (generalizing := false) hi with | none => some (n : Int) | some a => AVal.get (σ.opd a) (.int .i64)) = some q) : (hi.map a.eval = none ∧ q = (n : Int)) ∨ hi.map a.eval = some (.int .i64 q) := by
  cases hi with
  | none => simp only [Option.some.injEq] at h; exact .inl ⟨rfl, h.symm⟩
  | some x => right; rw [Option.map_some, relV_int.1 (get_rel hR h)]
omit hR hC in
theorem range3 {p q : Int} {n : Nat} (h : (decide (0 ≤ p) && decide (p ≤ q) && decide (q ≤ (n : Int))) = true) : 0 ≤ p ∧ p ≤ q ∧ q ≤ (n : Int) ∧ p.toNat ≤ q.toNat ∧ q.toNat ≤ n := by
  simp only [Bool.and_eq_true, decide_eq_true_eq] at h
  omega
theorem ok_slice {o : Oper} {T : TypeId} {x : Operand} {lo hi : Option Operand} (hop : o.op = .slice T x lo hi none) : EffOK P κ M w σ a o (eff Γ o σ) := by
  simp only [eff, hop]
  split
  · exact ok_fail
  · rename_i p hp
    have hlo := bound_lo hR hp
    split
    · rename_i e' e l own ht hx
      split
      · exact ok_fail
      · rename_i q hq
        have hhi := bound_hi hR hq
        split
        · rename_i he; subst he
          intro hc
          obtain ⟨c1, c2, c3, c4, c5⟩ := range3 hc
          obtain ⟨E, hE, hfE⟩ := fits_slice (hC.ty T _ ht)
          obtain ⟨iE, dE, hiE⟩ := fits_info hfE
          have hx' := data_eval hR hx
          unfold relV viaCells at hx'
          simp only [Ty.agg, Bool.false_eq_true, if_false, relC] at hx'
          obtain ⟨v, hv, hx'⟩ := hx'
          simp only [List.cons.injEq, and_true] at hv
          have hel := elem_of hE
          have hE' : P.underlying T = some (.slice (P.elem T)) := by rw [hel]; exact hE
          rcases hx' with ⟨hb, hl⟩ | ⟨b, off, cap, cells, hb, hcap, hlen, hm, hrel⟩ | ⟨ad, cap, hb, hl⟩
          · subst hl
            have hbd := run_bounds (P := P) true 0 0 (lo.map a.eval) (hi.map a.eval) p q hlo hhi c1 c2 c3 (Nat.le_refl _) w
            have hp0 : p.toNat = 0 := by simp only [List.length_nil] at c5; omega
            have hq0 : q.toNat = 0 := by simp only [List.length_nil] at c5; omega
            refine ⟨.slice none 0 0, ?_, data_rel ?_⟩
            · simp only [execOp, hop, Sem.run_bind, run_sliceAt_slice w T _ _ _ _ hE', hv, hb, Option.map_none, run_slice_any w T none 0 0 hE', hbd, Result.andThen_ok, hel, run_sizeOf' hiE, Sem.run_pure, sliced, hp0, hq0, if_true, Nat.sub_self]
            · unfold relV viaCells
              simp only [Ty.agg, Bool.false_eq_true, if_false, relC]
              exact ⟨_, rfl, .inl ⟨rfl, by simp⟩⟩
          · have hbd := run_bounds (P := P) true l.length cap (lo.map a.eval) (hi.map a.eval) p q hlo hhi c1 c2 c3 hcap w
            obtain ⟨r1, r2, r3⟩ := rel_part hlen hm hrel c4 c5
            have hln : ((l.take q.toNat).drop p.toNat).length = q.toNat - p.toNat := by simp; omega
            refine ⟨sliced (some ⟨b, off, none⟩) p.toNat q.toNat cap e'.size, ?_, data_rel ?_⟩
            · simp only [execOp, hop, Sem.run_bind, run_sliceAt_slice w T _ _ _ _ hE', hv, hb, Option.map_none, run_slice_any w T _ _ _ hE', hbd, Result.andThen_ok, hel, run_sizeOf' hiE, Sem.run_pure]
            · unfold relV viaCells
              simp only [Ty.agg, Bool.false_eq_true, if_false, relC]
              refine ⟨_, rfl, .inr (.inl ?_)⟩
              unfold sliced
              by_cases hcp : cap = p.toNat
              · have hz : q.toNat - p.toNat = 0 := by omega
                have hnil : (l.take q.toNat).drop p.toNat = [] := List.eq_nil_of_length_eq_zero (by omega)
                rw [if_pos hcp]
                refine ⟨b, off, cap - p.toNat, [], by rw [hln], by rw [hln]; omega, by rw [hnil]; simp, fun j u hj => by simp at hj, fun i hi => by rw [hnil] at hi; exact absurd hi (Nat.not_lt_zero _)⟩
              · rw [if_neg hcp, Option.map_some, Addr.add_mk]
                exact ⟨b, _, cap - p.toNat, _, by rw [hln], by rw [hln]; omega, r1, r2, r3⟩
          · subst hl
            have hbd := run_bounds (P := P) true 0 cap (lo.map a.eval) (hi.map a.eval) p q hlo hhi c1 c2 c3 (Nat.zero_le _) w
            have hp0 : p.toNat = 0 := by simp only [List.length_nil] at c5; omega
            have hq0 : q.toNat = 0 := by simp only [List.length_nil] at c5; omega
            refine ⟨sliced (some ad) p.toNat q.toNat cap e'.size, ?_, data_rel ?_⟩
            · simp only [execOp, hop, Sem.run_bind, run_sliceAt_slice w T _ _ _ _ hE', hv, hb, Option.map_none, run_slice_any w T _ _ _ hE', hbd, Result.andThen_ok, hel, run_sizeOf' hiE, Sem.run_pure]
            · unfold relV viaCells
              simp only [Ty.agg, Bool.false_eq_true, if_false, relC]
              refine ⟨_, rfl, .inr (.inr ?_)⟩
              unfold sliced
              rw [hp0, hq0]
              split
              · exact ⟨_, _, rfl, by simp⟩
              · rw [Option.map_some]
                exact ⟨_, _, rfl, by simp⟩
        · exact ok_fail
    · rename_i s own ht hx
      split
      · exact ok_fail
      · rename_i q hq
        have hhi := bound_hi hR hq
        intro hc
        obtain ⟨c1, c2, c3, c4, c5⟩ := range3 hc
        have hu := fits_str (hC.ty T _ ht)
        have hs := relV_str.1 (data_eval hR hx)
        have hbd := run_bounds (P := P) false s.size s.size (lo.map a.eval) (hi.map a.eval) p q hlo hhi c1 c2 c3 (Nat.le_refl _) w
        refine ⟨.string (s.extract p.toNat q.toNat), ?_, data_str⟩
        simp only [execOp, hop, Sem.run_bind, run_sliceAt_string w T _ _ _ _ hu, hs, Option.map_none, Instr.slice, run_underlying hu, Result.andThen_ok, hbd, Sem.run_pure, Option.isSome_none, Bool.false_eq_true, if_false]
    · rename_i n' e' n e v own ht hx
      split
      · split
        · rename_i he
          obtain ⟨rfl, rfl⟩ := he
          obtain ⟨E, hE, hfE⟩ := fits_arr (hC.ty T _ ht)
          obtain ⟨iE, dE, hiE⟩ := fits_info hfE
          have hx' := data_eval hR hx
          unfold relV viaCells at hx'
          simp only [Ty.agg, Bool.false_eq_true, if_false, relC] at hx'
          obtain ⟨b, off, cells, hu, hrel, hm⟩ := hx'
          simp only [List.cons.injEq, and_true] at hu
          have hel : P.elem T = E := by simp [Program.elem, hE]
          have hal : P.arrayLen T = n' := by simp [Program.arrayLen, hE]
          have hE' : P.underlying T = some (.array (P.arrayLen T) (P.elem T)) := by rw [hel, hal]; exact hE
          refine ⟨.slice (some ⟨b, off, none⟩) n' n', ?_, data_rel ?_⟩
          · simp only [execOp, hop, Sem.run_bind, hu, Option.map_none, run_sliceAt_array_all w T _ hE', hel, hal, run_sizeOf' hiE, Result.andThen_ok, Sem.run_pure, slicedAt, Nat.sub_zero, Nat.zero_mul, Addr.add_mk, Nat.add_zero, ite_self]
          · unfold relV viaCells
            simp only [Ty.agg, Bool.false_eq_true, if_false, relC]
            refine ⟨_, rfl, .inr (.inl ⟨b, off, n', cells, by simp, by simp, by simpa using hrel.1, hm, fun i hi => ?_⟩)⟩
            simp only [List.getElem_map, List.getElem_range]
            exact hrel.2 i (by simpa using hi)
        · exact ok_fail
      · exact ok_fail
    · exact ok_fail
omit hR hC in
theorem foldl_bytes : ∀ (l : List Int) (r : ByteArray), l.foldl (fun r n => r.push (UInt8.ofNat n.toNat)) r = ⟨r.data ++ (l.map fun n => UInt8.ofNat n.toNat).toArray⟩
  | [], r => by simp
  | n :: l, r => by
    simp only [List.foldl_cons, List.map_cons]
    rw [foldl_bytes l]
    simp [ByteArray.push]
omit hR hC in
theorem bytes_cells {l : List Int} {cells : List Value} (hlen : cells.length = l.length) (hel : ∀ i (h : i < l.length), relC P (.int .u8) M l[i] ((cells.drop i).take 1)) : cells = l.map (Value.int .u8) := by
  apply List.ext_getElem?
  intro i
  by_cases hi : i < l.length
  · have := hel i hi
    rw [relC] at this
    have hg := congrArg (·[0]?) this
    simp only [List.getElem?_take, List.getElem?_drop, Nat.add_zero] at hg
    rw [List.getElem?_map, List.getElem?_eq_getElem hi]
    simpa using hg
  · rw [List.getElem?_eq_none (by omega), List.getElem?_eq_none (by simp; omega)]
theorem ok_convert {o : Oper} {S T : TypeId} {x : Operand} (hop : o.op = .convert S T x) : EffOK P κ M w σ a o (eff Γ o σ) := by
  simp only [eff, hop]
  have hsrc : ∀ {t}, (if (Γ.ty S).isSome = true then Γ.ty T else none) = some t → (∃ s, Γ.ty S = some s ∧ ∃ u, P.underlying S = some u) ∧ Γ.ty T = some t := by
    intro t h
    split at h
    · rename_i hs
      obtain ⟨s, hs⟩ := Option.isSome_iff_exists.1 hs
      obtain ⟨i, d, hi⟩ := fits_info (hC.ty S s hs)
      exact ⟨⟨s, hs, d, hi.und⟩, h⟩
    · cases h
  split
  · rename_i k j n own ht hx
    obtain ⟨⟨s, hs, u, hu⟩, ht⟩ := hsrc ht
    have hT := fits_int (hC.ty T _ ht)
    have hv := relV_int.1 (data_eval hR hx)
    refine ⟨.int k (k.wrap n), ?_, data_int⟩
    simp only [execOp, hop, Sem.run_bind, convert, run_underlying hu, run_underlying hT, hv, Result.andThen_ok, Conv.intToInt, Sem.run_pure]
  · rename_i s own ht hx
    obtain ⟨⟨_, hs, u, hu⟩, ht⟩ := hsrc ht
    obtain ⟨E, hE, hfE⟩ := fits_slice (hC.ty T _ ht)
    have hE8 := fits_int hfE
    have hv := relV_str.1 (data_eval hR hx)
    have hrun := Lib.run_convert_string_bytes (P := P) w S T E s hu hE hE8
    have hge := grownCap_ge w s.size 0 E
    refine ⟨.slice (some ⟨w.heap.size, 0, none⟩) s.size (grownCap w s.size 0 E), Lib.bytesWorld w E s, by simp only [execOp, hop, Sem.run_bind, hv, hrun, Result.andThen_ok, Sem.run_pure], ?_, ?_⟩
    · exact ⟨rfl, rfl, rfl, by
        show w.heap.size ≤ ((w.heap.push _).modify _ _).size
        rw [Array.size_modify, Array.size_push]; omega, fun k hk => Lib.bytesWorld_at_old w E s k hk⟩
    · have hlen : (sbytes s).length = s.size := by simp only [sbytes, List.length_map, Array.length_toList]; rfl
      refine ⟨fun b o => if b = w.heap.size then ((sbytes s).map (Value.int .u8))[o]? else M b o, ⟨Tab.keep (fun b o v hv => by
        by_cases hb : b = w.heap.size
        · subst hb; exact absurd (World.block_lt_of_cell? w _ (hR.good.2 _ _ _ hv)) (Nat.lt_irrefl _)
        · simp only [if_neg hb]; exact hv) (fun j c t fr h => ⟨c, fr, by rw [Lib.bytesWorld_at_old w E s j (Array.getElem?_eq_some_iff.1 h).1]; exact h, rfl⟩) hR.good.1, fun b o v hv => ?_⟩, fun b hb => ?_, ?_⟩
      · by_cases hb : b = w.heap.size
        · subst hb
          simp only [if_true] at hv
          have hlt := (List.getElem?_eq_some_iff.1 hv).1
          simp only [List.length_map, hlen] at hlt
          simp only [World.cell?, Lib.bytesWorld_at_new, Option.isSome_none, Bool.false_eq_true, if_false]
          rw [← hv]
          unfold Lib.bytesCells
          have hlt' : o < s.data.size := hlt
          rw [Array.getElem?_append_left (by simpa using hlt')]
          simp [sbytes]
          rfl
        · simp only [if_neg hb] at hv
          have hc := hR.good.2 b o v hv
          have hlt := World.block_lt_of_cell? w _ hc
          rw [World.cell?_of_block (w := w) (Lib.bytesWorld_at_old w E s b hlt)]
          exact hc
      · funext o; exact if_neg (by omega)
      · unfold relV viaCells
        simp only [Ty.agg, Bool.false_eq_true, if_false, relC]
        refine ⟨_, rfl, .inr (.inl ⟨w.heap.size, 0, _, (sbytes s).map (Value.int .u8), by rw [hlen], by rw [hlen]; exact hge, by simp [Ty.size], fun j u hj => ?_, fun i hi => ?_⟩)⟩
        · simp only [if_true, Nat.zero_add]; exact hj
        · simp only [Ty.size, Nat.mul_one]
          rw [List.drop_eq_getElem_cons (by simpa using hi)]
          simp
  · rename_i l own ht hx
    obtain ⟨⟨_, hs, u, hu⟩, ht⟩ := hsrc ht
    split
    · rename_i hS
      obtain ⟨E, hE, hfE⟩ := fits_slice (hC.ty S _ hS)
      have hE8 := fits_int hfE
      have hT := fits_str (hC.ty T _ ht)
      have hx' := data_eval hR hx
      unfold relV viaCells at hx'
      simp only [Ty.agg, Bool.false_eq_true, if_false, relC] at hx'
      obtain ⟨v, hv, hx'⟩ := hx'
      simp only [List.cons.injEq, and_true] at hv
      refine ⟨.string (sofb l), ?_, data_str⟩
      rcases hx' with ⟨hb, hl⟩ | ⟨b, off, cap, cells, hb, hcap, hlen, hm, hrel⟩ | ⟨ad, cap, hb, hl⟩
      · subst hl
        simp only [execOp, hop, Sem.run_bind, convert, run_underlying hE, run_underlying hT, run_underlying hE8, hv, hb, Result.andThen_ok, Conv.bytesToString, Sem.run_pure]
        rfl
      · have hcs := bytes_cells (P := P) (M := M) (by simpa [Ty.size] using hlen) (fun i hi => by rw [relC]; simpa [Ty.size] using hrel i hi)
        subst hcs
        have hld := run_loadCells_list (P := P) w ⟨b, off, none⟩ _ (fun j v hj => by rw [Addr.add_mk]; exact hasCells_good hR.good hm j v hj)
        simp only [List.length_map] at hld
        have hrun := run_bytesToString (P := P) w ⟨b, off, none⟩ l.length cap l hld
        simp only [execOp, hop, Sem.run_bind, convert, run_underlying hE, run_underlying hT, run_underlying hE8, hv, hb, Result.andThen_ok, hrun, Sem.run_pure, foldl_bytes]
        have he0 : ByteArray.empty.data = #[] := rfl
        rw [he0, Array.empty_append]
        rfl
      · subst hl
        have hld : (loadCells ad 0).run P w = .ok #[] w := rfl
        have hrun := run_bytesToString (P := P) w ad 0 cap [] hld
        simp only [execOp, hop, Sem.run_bind, convert, run_underlying hE, run_underlying hT, run_underlying hE8, hv, hb, Result.andThen_ok, hrun, Sem.run_pure, foldl_bytes]
        rfl
    · exact ok_fail
  · rename_i s own ht hx
    obtain ⟨⟨_, hs, u, hu⟩, ht⟩ := hsrc ht
    have hT := fits_str (hC.ty T _ ht)
    have hv := relV_str.1 (data_eval hR hx)
    refine ⟨.string s, ?_, data_str⟩
    simp only [execOp, hop, Sem.run_bind, convert, run_underlying hu, run_underlying hT, hv, Result.andThen_ok, Sem.run_pure]
  · exact ok_fail
end ops
end Go.Lift
