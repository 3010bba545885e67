/-
  Numbers that are filled in; memory that is committed.
-/
import Derived.Test.YtkoojmbkjgbdgaaGreatDoorManB
import Derived.Maps.AppendAt
import Derived.Laws.OwnMore
set_option linter.unusedSectionVars false
set_option linter.unusedVariables false
set_option linter.unusedSimpArgs false
set_option linter.unusedSectionVars false
set_option linter.unusedSimpArgs false
set_option linter.unusedVariables false
namespace Go.Lift
open Go Go.Proofs Go.RowKit Go.Shelf
attribute [local go_sem] Oper.semAt_some
def setAll (cur : Array Value) (os : List Nat) (l : List Int) : Array Value := (os.zip l).foldl (fun c p => c.setIfInBounds p.1 (.int .i64 p.2)) cur
theorem setAll_nil (cur : Array Value) (os : List Nat) : setAll cur os [] = cur := by unfold setAll; simp
theorem setAll_size (os : List Nat) : ∀ (l : List Int) (cur : Array Value), (setAll cur os l).size = cur.size := by
  unfold setAll
  intro l
  induction os generalizing l with
  | nil => intro cur; rfl
  | cons o os ih =>
    intro cur
    cases l with
    | nil => rfl
    | cons n l => simp only [List.zip_cons_cons, List.foldl_cons]; rw [ih]; simp
theorem setAll_snoc (os : List Nat) : ∀ (l : List Int) (cur : Array Value) (i : Nat) (o : Nat) (n : Int), os[i]? = some o → l[i]? = some n → setAll cur os (l.take (i + 1)) = (setAll cur os (l.take i)).setIfInBounds o (.int .i64 n) := by
  induction os with
  | nil => intro l cur i o n h; cases h
  | cons o' os ih =>
    intro l cur i o n ho hn
    cases l with
    | nil => cases hn
    | cons n' l =>
      cases i with
      | zero =>
        simp only [List.getElem?_cons_zero, Option.some.injEq] at ho hn
        subst ho hn
        simp [setAll]
      | succ i =>
        simp only [List.getElem?_cons_succ] at ho hn
        have := ih l (cur.setIfInBounds o' (.int .i64 n')) i o n ho hn
        simpa [setAll] using this
theorem ints_cells {M : Mem} {l : List Int} {v : Value} (h : relV Tryz.prog (.slice (.int .i64)) M l v) : (∃ a c, v = .slice a 0 c ∧ l = []) ∨ ∃ b off cap, v = .slice (some ⟨b, off, none⟩) l.length cap ∧ ∀ j n, l[j]? = some n → M b (off + j) = some (.int .i64 n) := by
  obtain ⟨v', h1, h2⟩ : relC Tryz.prog (.slice (.int .i64)) M l [v] := h
  simp only [List.cons.injEq, and_true] at h1
  subst h1
  rcases h2 with ⟨rfl, rfl⟩ | ⟨b, off, cap, cells, rfl, hcap, hlen, hm, hel⟩ | ⟨a, c, rfl, rfl⟩
  · exact .inl ⟨none, 0, rfl, rfl⟩
  · refine .inr ⟨b, off, cap, rfl, fun j n hj => ?_⟩
    obtain ⟨hlt, hs⟩ := List.getElem?_eq_some_iff.1 hj
    have h3 : (cells.drop (j * 1)).take 1 = [.int .i64 l[j]] := hel j hlt
    have h4 := congrArg (fun l : List Value => l[0]?) h3
    simp only [Nat.mul_one, List.getElem?_take, List.getElem?_drop] at h4
    have h5 : cells[j]? = some (.int .i64 n) := by rw [← hs]; simpa using h4
    exact hm j _ h5
  · exact .inl ⟨some a, c, rfl, rfl⟩
theorem ints_shape {M : Mem} {l : List Int} {v : Value} (h : relV Tryz.prog (.slice (.int .i64)) M l v) : ∃ p c, v = .slice p l.length c ∧ (l = [] ∨ ∃ b off, p = some ⟨b, off, none⟩ ∧ ∀ j n, l[j]? = some n → M b (off + j) = some (.int .i64 n)) := by
  rcases ints_cells h with ⟨a, c, rfl, rfl⟩ | ⟨b, off, cap, rfl, hc⟩
  · exact ⟨a, c, rfl, .inl rfl⟩
  · exact ⟨_, _, rfl, .inr ⟨b, off, rfl, hc⟩⟩
theorem cell_grown {w w' : World} {row : Option Nat} (h : w.grownBy w' row) {b o : Nat} {v : Value} (hv : w.cell? ⟨b, o, none⟩ = some v) (hb : row ≠ some b) : w'.cell? ⟨b, o, none⟩ = some v := by
  have hlt := World.block_lt_of_cell? w _ hv
  have := h.block b hlt (fun e => hb e.symm)
  unfold World.cell? at hv ⊢
  rw [this]
  exact hv
theorem grown_trans {w1 w2 w3 : World} {row : Option Nat} (h : w1.grownBy w2 row) (k : w2.grownBy w3 row) : w1.grownBy w3 row :=
  ⟨k.os.trans h.os, k.tape.trans h.tape, k.output.trans h.output, Nat.le_trans h.size k.size, fun j hj hr => (k.block j (Nat.lt_of_lt_of_le hj h.size) hr).trans (h.block j hj hr)⟩
theorem fra_grown {G : List Nat} {M : Mem} {w w' : World} {g : Nat} (h : w.grownBy w' (some g)) (hG : g ∈ G) : Fra G M w M w' :=
  ⟨Mem.le_refl _, h.os, h.tape, h.output, h.size, fun j hj hg => h.block j hj fun e => hg (by cases e; exact hG), fun _ _ _ => rfl⟩
theorem good_grown {M : Mem} {w w' : World} {g : Nat} (hg : Good M w) (h : w.grownBy w' (some g)) (hM : ∀ o, M g o = none) (hc : ∀ c t fr, w.heap[g]? = some (.cells c t fr) → ∃ c' fr', w'.heap[g]? = some (.cells c' t fr') ∧ c'.size = c.size) : Good M w' := by
  refine ⟨Tab.keep (w := w) (Mem.le_refl M) (fun j c t fr hj => ?_) hg.1, fun b o v hv => ?_⟩
  · by_cases hjg : j = g
    · subst hjg; exact hc c t fr hj
    · exact ⟨c, fr, (h.block j (Array.getElem?_eq_some_iff.1 hj).1 fun e => hjg (by cases e; rfl)).trans hj, rfl⟩
  · refine cell_grown h (hg.2 b o v hv) fun e => ?_
    cases e
    rw [hM o] at hv
    cases hv
theorem setCell_at {w : World} {g off : Nat} {cur : Array Value} {E : TypeId} {v : Value} (h : w.heap[g]? = some (.cells cur E (0, 0))) : (w.setCell ⟨g, off, none⟩ v).heap[g]? = some (.cells (cur.setIfInBounds off v) E (0, 0)) := by
  simp [World.setCell, Array.getElem?_modify, h]
theorem setCell_grown {w : World} {g off : Nat} {v : Value} : w.grownBy (w.setCell ⟨g, off, none⟩ v) (some g) :=
  ⟨rfl, rfl, rfl, by simp [World.setCell], fun k _ hk => by
    have : g ≠ k := fun e => hk (by rw [e])
    simp [World.setCell, Array.getElem?_modify, this]⟩
def muI (n : Nat) : Value → Nat
  | .int _ m => n - m.toNat
  | _ => 0
set_option maxHeartbeats 4000000 in
set_option maxRecDepth 100000 in
theorem fill103 {M : Mem} {w : World} (hg : Good M w) {ws : List ByteArray} {wv : Value} (hw : relV Tryz.prog (.slice .str) M ws wv) {l : List Int} {ok : Bool} (hn : pass_numbers ws = some (l, ok)) {ga g : Nat} {os : List Nat} {cur : Array Value} {E E' : TypeId}
    (h1 : w.heap[ga]? = some (.cells (os.map fun o => Value.pointer (some ⟨g, o, none⟩)).toArray E (0, 0))) (h2 : w.heap[g]? = some (.cells cur E' (0, 0))) (hne : ga ≠ g) (hos : ∀ o ∈ os, o < cur.size) (hMg : ∀ o, M g o = none) (hlen : os.length ≤ 1000) (hsl : ∃ p n c, wv = .slice p n c) :
    Calls Tryz.prog 103 #[wv, .slice (some ⟨ga, 0, none⟩) os.length os.length] w fun e w' => ∃ M', Good M' w' ∧ Fra [g] M w M' w' ∧
      e = .returned (.bool (ok && decide (l.length = os.length))) ∧ (∀ o, M' g o = none) ∧ w'.heap[g]? = some (.cells (bif ok && decide (l.length = os.length) then setAll cur os l else cur) E' (0, 0)) := by
  have hcall := (h_pass_numbers m_strconv_Itoa m_strconv_Atoi).2 ws (l, ok) hn M w [wv] hg ⟨wv, rfl, hw⟩
  have zg := (Array.getElem?_eq_some_iff.1 h2).1
  have za := (Array.getElem?_eq_some_iff.1 h1).1
  obtain ⟨wp, wn, wc, rfl⟩ := hsl
  go_enter Tryz.func103, Tryz.ntmps103
  go_wp2_with (go_at_call 158; refine Calls.mono hcall ?_; clear hcall; rintro e w1 ⟨M1, v1, rfl, hv1, hg1, hgr1⟩; obtain ⟨⟨vl⟩, rfl, lv, r1, e1, hlv, bv, rfl, hbv⟩ := hv1; replace e1 : vl = [lv, bv] := e1; subst e1; obtain rfl := relV_bool.1 hbv; obtain ⟨lp, lc, rfl, hls⟩ := ints_shape hlv)
  all_goals (
    have hF1 : Fra [g] M w M1 w1 := fra_grow hg hgr1
    have hMg1 : ∀ o, M1 g o = none := fun o => by rw [hgr1.mem g zg]; exact hMg o
    have hk1 : w1.heap[g]? = some (.cells cur E' (0, 0)) := (hgr1.below.block g zg).trans h2
    have hka : w1.heap[ga]? = some (.cells (os.map fun o => Value.pointer (some ⟨g, o, none⟩)).toArray E (0, 0)) := (hgr1.below.block ga za).trans h1)
  · have hne1 : ((l.length : Int) != (os.length : Int)) = true := by assumption
    go_ret
    have hne2 : decide (l.length = os.length) = false := decide_eq_false fun e => by rw [e] at hne1; simp at hne1
    rw [hne2, Bool.and_false]
    exact ⟨M1, hg1, hF1, rfl, hMg1, hk1⟩
  · have hne1 : ((l.length : Int) != (os.length : Int)) = false := by assumption
    have hok : ok = true := by assumption
    have hlo' : (l.length : Int) = (os.length : Int) := by simpa using hne1
    have hlo : l.length = os.length := by omega
    subst hok
    have zg1 := (Array.getElem?_eq_some_iff.1 hk1).1
    go_loopw [25] (fun v25 wr => ∃ i : Nat, i ≤ l.length ∧ v25 = Value.int .i64 (i : Int) ∧ wr.heap[g]? = some (.cells (setAll cur os (l.take i)) E' (0, 0)) ∧ w1.grownBy wr (some g)) (fun v25 wr => muI l.length v25)
    case atStart => exact ⟨0, Nat.zero_le _, rfl, by rw [List.take_zero, setAll_nil]; exact hk1, World.grownBy.refl w1 _⟩
    case round =>
      obtain ⟨i, hi, rfl, hk, hgr⟩ := hrel
      by_cases hlt : i < l.length
      · obtain ⟨o, ho⟩ : ∃ o, os[i]? = some o := ⟨_, List.getElem?_eq_getElem (by omega)⟩
        obtain ⟨n, hn'⟩ : ∃ n, l[i]? = some n := ⟨_, List.getElem?_eq_getElem hlt⟩
        rcases hls with rfl | ⟨b, off, rfl, hls⟩
        · simp at hlt
        have c1 : wr.cell? ⟨b, off + i, none⟩ = some (.int .i64 n) := cell_grown hgr (hg1.2 _ _ _ (hls i n hn')) fun e => by
          cases e
          have := hls i n hn'
          rw [hMg1] at this
          cases this
        have c2 : wr.cell? ⟨ga, i, none⟩ = some (.pointer (some ⟨g, o, none⟩)) := cell_grown hgr (cell_at hka (by simp [ho])) fun e => by cases e; exact hne rfl
        have hoc : o < (setAll cur os (l.take i)).size := by rw [setAll_size]; exact hos o (List.mem_of_getElem? ho)
        have c3 : wr.cell? ⟨g, o, none⟩ = some (setAll cur os (l.take i))[o] := cell_at hk (Array.getElem?_eq_getElem hoc)
        have c4 : wr.frozen? ⟨g, o, none⟩ = false := frozen_at hk
        go_wp2
        refine ⟨⟨i + 1, by omega, rfl, ?_, grown_trans hgr setCell_grown⟩, ?_⟩
        · rw [setAll_snoc os l cur i o n ho hn']
          exact setCell_at hk
        · show l.length - (((i : Int) + 1)).toNat < l.length - ((i : Int)).toNat
          omega
      · go_wp2
        go_ret
        obtain rfl : i = l.length := by omega
        rw [List.take_length] at hk
        have hgw : Good M1 wr := good_grown hg1 hgr hMg1 fun c t fr hc => by
          rw [hk1] at hc
          cases hc
          exact ⟨_, _, hk, setAll_size os l cur⟩
        exact ⟨M1, hgw, hF1.trans (fra_grown hgr (by simp)), rfl, hMg1, hk⟩
  · have hok : ¬ ok = true := by assumption
    go_ret
    have hok : ok = false := by simpa using hok
    subst hok
    exact ⟨M1, hg1, hF1, rfl, hMg1, hk1⟩
end Go.Lift
set_option linter.unusedSectionVars false
set_option linter.unusedSimpArgs false
set_option linter.unusedVariables false
namespace Go.Lift
open Go Go.Proofs Go.RowKit Go.Shelf
def memFrom (B : Nat) (M : Mem) (w : World) : Mem := fun b o => if B ≤ b then w.cell? ⟨b, o, none⟩ else M b o
theorem memFrom_le {M : Mem} {w : World} {B : Nat} (hg : Good M w) : Mem.le M (memFrom B M w) := fun b o u hu => by
  unfold memFrom
  split
  · exact hg.2 b o u hu
  · exact hu
theorem memFrom_good {M : Mem} {w : World} {B : Nat} (hg : Good M w) : Good (memFrom B M w) w := by
  refine ⟨Tab.keep (memFrom_le hg) (SameSizes.refl _) hg.1, fun b o u hu => ?_⟩
  unfold memFrom at hu
  split at hu
  · exact hu
  · exact hg.2 b o u hu
theorem memFrom_below {M : Mem} {w : World} {B b : Nat} (h : b < B) : memFrom B M w b = M b := by
  funext o
  unfold memFrom
  rw [if_neg (by omega)]
theorem memFrom_grow {M : Mem} {w w' : World} (hb : Below w.heap.size w w') : Grow M w (memFrom w.heap.size M w') w' := ⟨hb, fun b hlt => memFrom_below hlt⟩
theorem own_has {M : Mem} {w : World} {base e s n g cap off : Nat} {xs : List Value} (h : w.ownsRow base e s (.slice (some ⟨g, off, none⟩) n cap) n xs) : (memFrom base M w).has g off xs ∧ n ≤ cap := by
  have h0 := h
  rcases h.2 with ⟨h1, _⟩ | ⟨g', cap', cur, h1, hb, hg, hnc, hcm, hcs, htake⟩
  · cases h1
  · simp only [Value.slice.injEq, Option.some.injEq, Addr.mk.injEq, and_true, true_and] at h1
    obtain ⟨⟨rfl, rfl⟩, rfl⟩ := h1
    refine ⟨fun j u hj => ?_, hnc⟩
    unfold memFrom
    rw [if_pos hb]
    have := h0.cells (g := g) rfl j u hj
    rw [Addr.add_mk] at this
    exact this
theorem own_shape {w : World} {base : Nat} {e : TypeId} {s n : Nat} {v : Value} {xs : List Value} (h : w.ownsRow base e s v n xs) : ∃ p m c, v = .slice p m c := by
  rcases h.2 with ⟨rfl, _⟩ | ⟨g, cap, cur, rfl, _⟩
  · exact ⟨_, _, _, rfl⟩
  · exact ⟨_, _, _, rfl⟩
theorem own_base {w : World} {base base' : Nat} {e : TypeId} {s n : Nat} {v : Value} {xs : List Value} (h : w.ownsRow base e s v n xs) (hb : base' ≤ base) : w.ownsRow base' e s v n xs := by
  refine ⟨h.1, ?_⟩
  rcases h.2 with h1 | ⟨g, cap, cur, h1, h2, h3⟩
  · exact .inl h1
  · exact .inr ⟨g, cap, cur, h1, Nat.le_trans hb h2, h3⟩
theorem below_grown {w w' : World} (h : Below w.heap.size w w') : w.grownBy w' none := ⟨h.os, h.tape, h.output, h.size, fun k hk _ => h.block k hk⟩
theorem grow_grow {M M1 M2 : Mem} {w w1 w2 : World} (h : Grow M w M1 w1) (k : Grow M1 w1 M2 w2) : Grow M w M2 w2 :=
  ⟨⟨k.below.os.trans h.below.os, k.below.tape.trans h.below.tape, k.below.output.trans h.below.output, Nat.le_trans h.below.size k.below.size, fun j hj => (k.below.block j (Nat.lt_of_lt_of_le hj h.below.size)).trans (h.below.block j hj)⟩,
    fun b hb => (k.mem b (Nat.lt_of_lt_of_le hb h.below.size)).trans (h.mem b hb)⟩
theorem grow_below {M M1 : Mem} {w w1 w2 : World} (h : Grow M w M1 w1) (k : Below w1.heap.size w1 w2) : Grow M w M1 w2 := grow_grow h ⟨k, fun _ _ => rfl⟩
theorem below_trans {w w1 w2 : World} (h : Below w.heap.size w w1) (k : Below w1.heap.size w1 w2) : Below w.heap.size w w2 :=
  ⟨k.os.trans h.os, k.tape.trans h.tape, k.output.trans h.output, Nat.le_trans h.size k.size, fun j hj => (k.block j (Nat.lt_of_lt_of_le hj h.size)).trans (h.block j hj)⟩
theorem below_new (w : World) (o : Obj) : Below w.heap.size w (w.alloc o) := (Below.refl _ w).alloc (Nat.le_refl _) _
theorem mem_none' {M : Mem} {w : World} (hg : Good M w) {b : Nat} (hb : w.heap.size ≤ b) (o : Nat) : M b o = none := by
  cases h : M b o with
  | none => rfl
  | some v => have := World.block_lt_of_cell? w _ (hg.2 b o v h); simp only at this; omega
theorem own_rel {t : Ty} {M : Mem} {w : World} {base e n : Nat} {v : Value} {xs : List Value} {l : List t.den} (h : w.ownsRow base e t.size v n xs) (hn : n = l.length) (hel : ∀ i (hi : i < l.length), relC Tryz.prog t (memFrom base M w) l[i] ((xs.drop (i * t.size)).take t.size)) : relV Tryz.prog (.slice t) (memFrom base M w) l v := by
  refine ⟨v, rfl, ?_⟩
  subst hn
  rcases h.2 with ⟨h1, h2⟩ | ⟨g, cap, cur, h1, hb, hg, hnc, _⟩
  · exact .inl ⟨h1, List.eq_nil_of_length_eq_zero h2⟩
  · subst h1
    obtain ⟨h3, h4⟩ := own_has (M := M) h
    exact .inr (.inl ⟨g, 0, cap, xs, rfl, h4, h.1, h3, hel⟩)
theorem strs_shape {M : Mem} {l : List ByteArray} {v : Value} (h : relV Tryz.prog (.slice .str) M l v) : ∃ p c, v = .slice p l.length c ∧ (l = [] ∨ ∃ b off, p = some ⟨b, off, none⟩ ∧ ∀ j n, l[j]? = some n → M b (off + j) = some (.string n)) := by
  obtain ⟨v', h1, h2⟩ : relC Tryz.prog (.slice .str) M l [v] := h
  simp only [List.cons.injEq, and_true] at h1
  subst h1
  rcases h2 with ⟨rfl, rfl⟩ | ⟨b, off, cap, cells, rfl, hcap, hlen, hm, hel⟩ | ⟨a, c, rfl, rfl⟩
  · exact ⟨none, 0, rfl, .inl rfl⟩
  · refine ⟨_, cap, rfl, .inr ⟨b, off, rfl, fun j n hj => ?_⟩⟩
    obtain ⟨hlt, hs⟩ := List.getElem?_eq_some_iff.1 hj
    have h3 : (cells.drop (j * 1)).take 1 = [.string l[j]] := hel j hlt
    have h4 := congrArg (fun l : List Value => l[0]?) h3
    simp only [Nat.mul_one, List.getElem?_take, List.getElem?_drop] at h4
    have h5 : cells[j]? = some (.string n) := by rw [← hs]; simpa using h4
    exact hm j _ h5
  · exact ⟨some a, c, rfl, .inl rfl⟩
theorem split_calls {M : Mem} {w : World} (hg : Good M w) {s sep : ByteArray} {ps : List ByteArray} (h : strings_Split s sep = some ps) :
    Calls Tryz.prog 101 #[.string s, .string sep] w fun e w' => ∃ M' p c, e = .returned (.slice p ps.length c) ∧ relV Tryz.prog (.slice .str) M' ps (.slice p ps.length c) ∧ (ps = [] ∨ ∃ b off, p = some ⟨b, off, none⟩ ∧ ∀ j n, ps[j]? = some n → M' b (off + j) = some (.string n)) ∧ Good M' w' ∧ Grow M w M' w' := by
  refine Calls.mono (m_strings_Split.2 (s, sep) ps h M w [.string s, .string sep] hg ⟨_, _, rfl, relV_str.2 rfl, _, rfl, relV_str.2 rfl⟩) ?_
  rintro e w' ⟨M', v, rfl, hv, hg', hgr⟩
  obtain ⟨p, c, rfl, hs⟩ := strs_shape hv
  exact ⟨M', p, c, rfl, hv, hs, hg', hgr⟩
end Go.Lift
