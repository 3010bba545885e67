/-
  Sets of which no sequence holds; the law holds of the plain functions.
-/
import Derived.Test.YtggnjngdmadbaaaGreatDoorChA
import Derived.Test.YtggnjngdmadbaaaGreatDoorClK
set_option linter.unusedSectionVars false
set_option linter.unusedVariables false
set_option linter.unusedSimpArgs false
namespace Go.Lift
open Go
theorem zx7 {X R : Type} {F : X → Unit → Option (Unit ⊕ R)} {p : X → Bool} {v : X → R} {l : List X} (h : ∀ x ∈ l, F x () = some (if p x then .inr (v x) else .inl ())) :
    zno F l () = some (match l.find? p with | some x => .inr (v x) | none => .inl ()) := by
  have tt : yfh F l () := fun pre x s' _ _ hx _ => ⟨_, h x hx⟩
  unfold zno
  rw [if_pos tt]
  clear tt
  induction l with
  | nil => rfl
  | cons x l ih =>
    rw [zeu, h x (List.mem_cons_self ..), List.find?_cons]
    cases p x with
    | true => rfl
    | false =>
      simp only [Bool.false_eq_true, if_false]
      exact ih fun y hy => h y (List.mem_cons_of_mem _ hy)
theorem zy9 {n : Int} : ∀ (k : Nat) (b : List Int) (fr : Int) (L : List Int), L ∈ subL n k b fr ↔ ∃ t, L = b ++ t ∧ t.length = k ∧ t.Pairwise (· < ·) ∧ ∀ x ∈ t, fr ≤ x ∧ x < n
  | 0, b, fr, L => by
    rw [subL, List.mem_singleton]
    constructor
    · rintro rfl; exact ⟨[], by simp, rfl, List.Pairwise.nil, by simp⟩
    · rintro ⟨t, rfl, ht, _⟩; rw [List.length_eq_zero_iff.1 ht, List.append_nil]
  | k + 1, b, fr, L => by
    rw [subL, List.mem_flatten]
    constructor
    · rintro ⟨l', hl', hL⟩
      obtain ⟨j, hj, rfl⟩ := List.mem_map.1 hl'
      have hj := List.mem_range.1 hj
      obtain ⟨t, rfl, ht, hp, hb⟩ := (zy9 k _ _ L).1 hL
      refine ⟨(fr + (j : Int)) :: t, by simp, by simp [ht], List.pairwise_cons.2 ⟨fun x hx => by have := hb x hx; omega, hp⟩, fun x hx => ?_⟩
      rcases List.mem_cons.1 hx with rfl | hx
      · omega
      · have := hb x hx; omega
    · rintro ⟨t, rfl, ht, hp, hb⟩
      cases t with
      | nil => cases ht
      | cons y t =>
        have hy := hb y (List.mem_cons_self ..)
        have hp := List.pairwise_cons.1 hp
        refine ⟨_, List.mem_map.2 ⟨(y - fr).toNat, List.mem_range.2 (by omega), rfl⟩, (zy9 k _ _ _).2 ⟨t, ?_, by simpa using ht, hp.2, fun x hx => ?_⟩⟩
        · rw [show fr + ((y - fr).toNat : Int) = y by omega]; simp
        · have := hp.1 x hx
          have := hb x (List.mem_cons_of_mem _ hx)
          omega
def zrk (n : Nat) (k : Nat) (t : List Int) : Prop := t.length = k ∧ t.Pairwise (· < ·) ∧ ∀ x ∈ t, 0 ≤ x ∧ x < (n : Int)
theorem zy8 {n k : Nat} {t : List Int} : t ∈ subL (n : Int) k [] 0 ↔ zrk n k t := by
 rw [zy9]
 unfold zrk
 constructor
 ·rintro ⟨u, rfl, h⟩; exact h
 ·intro h; exact ⟨t, rfl, h⟩
theorem zrk.nodup {n k : Nat} {t : List Int} (h : zrk n k t) : t.Nodup := (List.nodup_iff_pairwise_ne.2 (h.2.1.imp fun h => by omega))
def zoz (r : z02) (l : List z00) (t : List Int) : Bool := (z4y t.length t).any (okP r l [])
theorem zyx {r : z02} {l : List z00} {t : List Int} (hd : t.Nodup) (hn : t.length ≤ 9) (hin : ∀ i ∈ t, 0 ≤ i ∧ i < (l.length : Int)) : z3a (r, l) t = some (zoz r l t) := by
  unfold z3a zoz
  rw [zry hd hn hin, Option.bind_some]
  have := zx7 (X := List Int) (R := Bool) (F := fun t_1 _ => Option.map Sum.inr (some true)) (p := fun _ => true) (v := fun _ => true) (l := (z4y t.length t).filter (okP r l [])) (fun x _ => rfl)
  rw [this, Option.bind_some]
  cases hf : (z4y t.length t).filter (okP r l []) with
  | nil =>
    have : (z4y t.length t).any (okP r l []) = false := by
      rw [List.any_eq_false]
      rw [List.filter_eq_nil_iff] at hf
      exact hf
    rw [this]; rfl
  | cons x m =>
    have : (z4y t.length t).any (okP r l []) = true := by
      have hx : x ∈ (z4y t.length t).filter (okP r l []) := by rw [hf]; exact List.mem_cons_self ..
      obtain ⟨h1, h2⟩ := List.mem_filter.1 hx
      exact List.any_eq_true.2 ⟨x, h1, h2⟩
    rw [this]; rfl
theorem y93 {r : z02} {l : List z00} {t : List Int} : zoz r l t = true ↔ ∃ s, s.Perm t ∧ okP r l [] s = true := by
 unfold zoz
 rw [List.any_eq_true]
 exact ⟨fun ⟨s, h1, h2⟩ => ⟨s, zij _ _ rfl _ h1, h2⟩, fun ⟨s, h1, h2⟩ => ⟨s, zik _ _ _ rfl h1, h2⟩⟩
def zrw (r : z02) (l : List z00) (_ : List Int) (x : Int) : Option (List Int × Int) := ((subL (l.length : Int) (x + 1).toNat [] 0).find? fun t => !zoz r l t).map fun t => (t, 0)
def yan (r : z02) (l : List z00) : List Int × Int := (z1h (zrw r l) [] (upto l.length)).getD ([], 12)
theorem zsh {r : z02} {l : List z00} (hl : l.length ≤ 4294967296) : z41 r l = some (if z4j r l = 0 then yan r l else ([], z4j r l)) := by
 unfold z41
 rw [zyn hl, Option.bind_some]
 by_cases h0 : z4j r l = 0
 rotate_left
 ·rw [if_neg h0, show (((r, l), z4j r l).2 != 0) = true by rw [bne_iff_ne]; exact h0, cond_true]
 rw [if_pos h0, show (((r, l), z4j r l).2 != 0) = false by rw [h0]; rfl, cond_false]
 obtain ⟨hl0, hl7⟩ := z8n h0
 unfold yan
 rw [z4u (X := Int) (l := upto l.length) (g := zrw r l) (fun pre x post e => ?_) ?_, Option.bind_some]
 ·cases z1h (zrw r l) [] (upto l.length) <;> rfl
 ·rw [z3b, z0v (by omega), cond_false]
 ·obtain ⟨hx, hp⟩ := upto_at e
  rw [z07 (by omega), cond_true, ← hx, z0j (by omega) (by omega)]
  unfold z7o
  rw [show (decide ((0 : Int) ≤ (l.length : Int)) && decide ((l.length : Int) ≤ 1000) && decide ((0 : Int) ≤ x + 1) && decide (x + 1 ≤ 1000)) = true by
   simp only [Bool.and_eq_true, decide_eq_true_eq]; omega, cond_true, Option.bind_some]
  rw [zx7 (X := List Int) (p := fun t => !zoz r l t) (v := fun t => Sum.inr (Sum.inr (t, 0))) (fun t ht => by
   have hs : zrk l.length (x + 1).toNat t := zy8.1 ht
   rw [zyx hs.nodup (by have := hs.1; omega) hs.2.2, Option.bind_some]
   cases zoz r l t <;> rfl), Option.bind_some]
  unfold zrw
  cases (subL (l.length : Int) (x + 1).toNat [] 0).find? fun t => !zoz r l t <;> rfl
theorem zxp {r : z02} {l : List z00} : ∀ (m pre : List Int) (k : Nat), (∀ i (h : i < m.length), m[i] = ((k + i : Nat) : Int)) →
    (∀ q, z1h (zrw r l) pre m = some q → q.2 = 0 ∧ ∃ j, k ≤ j ∧ j < k + m.length ∧ zrk l.length (j + 1) q.1 ∧ zoz r l q.1 = false ∧ ∀ i, k ≤ i → i < j → ∀ t, zrk l.length (i + 1) t → zoz r l t = true) ∧
    (z1h (zrw r l) pre m = none → ∀ i, k ≤ i → i < k + m.length → ∀ t, zrk l.length (i + 1) t → zoz r l t = true)
  | [], pre, k, _ => ⟨fun q h => (nomatch h), fun _ i h1 h2 => absurd h2 (by simp; omega)⟩
  | x :: m, pre, k, hm => by
    have hx : x = (k : Int) := by have := hm 0 (by simp); simpa using this
    have hk : (x + 1).toNat = k + 1 := by omega
    obtain ⟨i1, i2⟩ := zxp (r := r) (l := l) m (pre ++ [x]) (k + 1) fun i h => by
      have := hm (i + 1) (by simp; omega)
      simp only [List.getElem_cons_succ] at this
      rw [this]; omega
    simp only [z1h]
    unfold zrw at *
    cases hf : (subL (l.length : Int) (x + 1).toNat [] 0).find? fun t => !zoz r l t with
    | some t =>
      refine ⟨fun q hq => ?_, fun h => (nomatch h)⟩
      cases hq
      have h1 := List.find?_some hf
      have h2 := List.mem_of_find?_eq_some hf
      rw [hk] at h2
      refine ⟨rfl, k, Nat.le_refl _, by simp, zy8.1 h2, by simpa using h1, fun i h3 h4 => absurd h3 (by omega)⟩
    | none =>
      have hall : ∀ t, zrk l.length (k + 1) t → zoz r l t = true := fun t ht => by
        rw [List.find?_eq_none] at hf
        have := hf t (by rw [hk]; exact zy8.2 ht)
        simpa using this
      refine ⟨fun q hq => ?_, fun hq i h1 h2 t ht => ?_⟩
      · obtain ⟨h1, j, h2, h3, h4, h5, h6⟩ := i1 q hq
        refine ⟨h1, j, by omega, by rw [List.length_cons]; omega, h4, h5, fun i h7 h8 t ht => ?_⟩
        by_cases hi : i = k
        · subst hi; exact hall t ht
        · exact h6 i (by omega) h8 t ht
      · by_cases hi : i = k
        · subst hi; exact hall t ht
        · exact i2 hq i (by omega) (by rw [List.length_cons] at h2; omega) t ht
theorem yba (n : Nat) : ∀ i (h : i < (upto n).length), (upto n)[i] = ((0 + i : Nat) : Int) := fun i h => by
 unfold upto at h ⊢
 rw [List.getElem_map, List.getElem_range, Nat.zero_add]
theorem zp9 {A : Type} {d : A} (l : List A) (t : List Int) {i : Int} (h : 0 ≤ i ∧ i < (t.length : Int)) : lget d (t.map (lget d l)) i = lget d l (lget 0 t i) := by
 have hi : i.toNat < t.length := by omega
 have e : lget d (t.map (lget d l)) i = (t.map (lget d l))[i.toNat]'(by simpa using hi) := by
  unfold lget
  rw [List.getD_eq_getElem?_getD, List.getElem?_eq_getElem (by simpa using hi)]
  rfl
 have e2 : lget 0 t i = t[i.toNat] := by
  unfold lget
  rw [List.getD_eq_getElem?_getD, List.getElem?_eq_getElem hi]
  rfl
 rw [e, e2, List.getElem_map]
theorem yc6 {l : List z00} {t s : List Int} (h : ∀ i ∈ s, 0 ≤ i ∧ i < (t.length : Int)) : metF (t.map (lget z1e l)) s = metF l (s.map (lget 0 t)) := by
  have key : ∀ (s : List Int) (z : Int), (∀ i ∈ s, 0 ≤ i ∧ i < (t.length : Int)) → s.foldl (fun m i => wi64 (m + (lget z1e (t.map (lget z1e l)) i).2.2.2)) z = (s.map (lget 0 t)).foldl (fun m i => wi64 (m + (lget z1e l i).2.2.2)) z := by
    intro s
    induction s with
    | nil => intro z _; rfl
    | cons x s ih =>
      intro z h
      rw [List.map_cons, List.foldl_cons, List.foldl_cons, zp9 l t (h x (List.mem_cons_self ..))]
      exact ih _ fun i hi => h i (List.mem_cons_of_mem _ hi)
  exact key s 0 h
theorem y9q {t pre : List Int} (h : pre ≠ []) : z8e (pre.map (lget 0 t)) = lget 0 t (z8e pre) := by
 have : 0 < pre.length := List.length_pos_iff.2 h
 unfold z8e
 rw [List.length_map]
 rw [show pre.map (lget 0 t) = pre.map (lget 0 t) from rfl, zp9 t pre (by omega)]
theorem ybv {r : z02} {l : List z00} {t pre : List Int} {x : Int} (h : ∀ i ∈ pre ++ [x], 0 ≤ i ∧ i < (t.length : Int)) : outV r (t.map (lget z1e l)) pre x = outV r l (pre.map (lget 0 t)) (lget 0 t x) := by
 have hm := yc6 (l := l) h
 rw [List.map_append, List.map_singleton] at hm
 unfold outV
 rw [hm]
 by_cases hp : pre = []
 ·rw [if_pos hp, if_pos (by rw [hp]; rfl)]
 ·rw [if_neg hp, if_neg (by simpa using hp), y9q hp, List.length_map, zp9 l t (h x (by simp)), zp9 l t (h _ (List.mem_append_left _ (zpd hp)))]
theorem y3a {r : z02} {l : List z00} {t : List Int} : ∀ (s pre : List Int), (∀ i ∈ pre ++ s, 0 ≤ i ∧ i < (t.length : Int)) → okP r (t.map (lget z1e l)) pre s = okP r l (pre.map (lget 0 t)) (s.map (lget 0 t))
  | [], pre, _ => rfl
  | x :: s, pre, h => by
    rw [List.map_cons, zyp, zyp]
    have hx : ∀ i ∈ pre ++ [x], 0 ≤ i ∧ i < (t.length : Int) := fun i hi => h i (by
      rcases List.mem_append.1 hi with h | h
      · simp [h]
      · rw [List.mem_singleton.1 h]; simp)
    have hb : badP r (t.map (lget z1e l)) pre x = badP r l (pre.map (lget 0 t)) (lget 0 t x) := by
      unfold badP vioG
      rw [ybv hx, Option.isSome_map, Option.isSome_map]
    rw [hb, y3a s (pre ++ [x]) (by simpa using h), List.map_append, List.map_singleton]
theorem y97 : ∀ {t s : List Int}, s.Perm t → ∃ u : List Int, u.Perm (upto t.length) ∧ s = u.map (lget 0 t) := by
  intro t s h
  have h2 : s.Perm ((upto t.length).map (lget 0 t)) := by rw [zp7]; exact h
  generalize upto t.length = m at h2
  generalize lget 0 t = f at h2
  clear h
  generalize hM : m.map f = M at h2
  induction h2 generalizing m with
  | nil => exact ⟨[], by rw [List.map_eq_nil_iff.1 hM], rfl⟩
  | @cons x l1 l2 h ih =>
    cases m with
    | nil => cases hM
    | cons y m =>
      rw [List.map_cons] at hM
      injection hM with e1 e2
      obtain ⟨u, hu, rfl⟩ := ih m e2
      exact ⟨y :: u, hu.cons y, by rw [List.map_cons, e1]⟩
  | swap x y l1 =>
    match m, hM with
    | a :: b :: m, hM =>
      rw [List.map_cons, List.map_cons] at hM
      injection hM with e1 e2
      injection e2 with e2 e3
      exact ⟨b :: a :: m, List.Perm.swap .., by rw [List.map_cons, List.map_cons, e1, e2, e3]⟩
  | trans h1 h2 ih1 ih2 =>
    obtain ⟨u, hu, e⟩ := ih2 m hM
    obtain ⟨v, hv, e'⟩ := ih1 u e.symm
    exact ⟨v, hv.trans hu, e'⟩
theorem zrj {r : z02} {l : List z00} {t : List Int} : (zi2 r (t.map (lget z1e l))).isSome = zoz r l t := by
  have hlen : (t.map (lget z1e l)).length = t.length := List.length_map ..
  rw [Bool.eq_iff_iff, y93]
  constructor
  · intro h
    obtain ⟨c, hc⟩ := Option.isSome_iff_exists.1 h
    obtain ⟨c1, c2, _, _⟩ := zo8 hc
    rw [hlen] at c1
    refine ⟨c.1.map (lget 0 t), ?_, ?_⟩
    · have := c1.map (lget 0 t)
      rw [zp7] at this
      exact this
    · rw [y3a c.1 [] (by simpa using fun i hi => z6k.1 (c1.subset hi))] at c2
      exact c2
  · rintro ⟨s, hs, ho⟩
    obtain ⟨u, hu, rfl⟩ := y97 hs
    cases hc : zi2 r (t.map (lget z1e l)) with
    | some c => rfl
    | none =>
      have := zo9 hc u (by rw [hlen]; exact hu)
      rw [y3a u [] (by simpa using fun i hi => z6k.1 (hu.subset hi))] at this
      rw [List.map_nil, ho] at this
      cases this
end Go.Lift
namespace Go.Lift
open Go
theorem zpp {X R : Type} (g : List X → X → Option R) : ∀ (a b pre : List X), z1h g pre (a ++ b) = match z1h g pre a with | some q => some q | none => z1h g (pre ++ a) b
  | [], b, pre => by simp [z1h]
  | x :: a, b, pre => by
    rw [List.cons_append]
    simp only [z1h]
    cases g pre x with
    | some q => rfl
    | none => simp only; rw [zpp g a b (pre ++ [x])]; simp
theorem zsj {r : z02} {l : List z00} : ∀ (s pre : List Int) (q : Int × Int), z1h (vioG r l) pre s = some q → (pre.length : Int) ≤ q.1 ∧ q.1 < (pre.length : Int) + s.length
  | [], pre, q, h => by cases h
  | x :: s, pre, q, h => by
    simp only [z1h] at h
    cases hv : vioG r l pre x with
    | some w =>
      rw [hv] at h
      cases h
      unfold vioG at hv
      obtain ⟨k, _, rfl⟩ := Option.map_eq_some_iff.1 hv
      rw [List.length_cons]
      dsimp only
      omega
    | none =>
      rw [hv] at h
      have := zsj s (pre ++ [x]) q h
      rw [List.length_append, List.length_singleton] at this
      rw [List.length_cons]
      omega
theorem yc3 {r : z02} {l : List z00} {s : List Int} {n : Nat} (hn : n ≤ s.length) : okP r l [] (s.take n) = (okP r l [] s || decide ((n : Int) ≤ (vioE r l s).1.1 ∧ okP r l [] s = false)) := by
  have h := zpp (vioG r l) (s.take n) (s.drop n) []
  rw [List.take_append_drop] at h
  unfold okP vioE
  cases ht : z1h (vioG r l) [] (s.take n) with
  | some q =>
    rw [ht] at h
    rw [h]
    have := zsj _ _ _ ht
    rw [List.length_take] at this
    simp only [Option.isNone_some, Bool.false_or]
    exact (decide_eq_false (fun hc => by have h2 : (n : Int) ≤ q.1 := hc.1; simp only [List.length_nil] at this; omega)).symm
  | none =>
    rw [ht] at h
    simp only at h
    cases hs : z1h (vioG r l) [] s with
    | none => rfl
    | some q =>
      rw [hs] at h
      have := zsj _ _ _ h.symm
      simp only [List.nil_append, List.length_take] at this
      simp only [Option.isNone_none, Option.isNone_some, Bool.false_or]
      exact (decide_eq_true ⟨by omega, trivial⟩).symm
theorem ybi {n : Int} {s t : List Int} (h : seqE n s = 0) (ht : t.Sublist s) : seqE n t = 0 := by
 obtain ⟨h1, h2⟩ := zlr.1 h
 exact zlr.2 ⟨fun x hx => h1 x (ht.subset hx), h2.sublist ht⟩
theorem ybj {n : Nat} {s : List Int} (h : seqE n s = 0) : s.length ≤ n := by
 obtain ⟨h1, h2⟩ := zlr.1 h
 have := zim h2 (m := upto n) fun x hx => z6k.2 (h1 x hx)
 rw [z3b] at this
 exact this
theorem y8f {n k : Nat} {t : List Int} (h : zrk n k t) : seqE n t = 0 := zlr.2 ⟨h.2.2, h.nodup⟩
theorem y1u {n k : Nat} {t : List Int} (h : zrk n (k + 1) t) {i : Nat} (hi : i < t.length) : zrk n k (t.eraseIdx i) := by
 refine ⟨by rw [List.length_eraseIdx, if_pos hi, h.1]; rfl, h.2.1.sublist (List.eraseIdx_sublist ..), fun x hx => h.2.2 x ((List.eraseIdx_sublist ..).subset hx)⟩
theorem y9o {l : List z00} {t : List Int} {i : Int} (hl : t.length ≤ 100) (hin : ∀ x ∈ t, 0 ≤ x ∧ x < (l.length : Int)) {F : List z00 × Int → Option ((List z00 × Int) ⊕ List z00)}
    (hF : ∀ s : List z00 × Int, F s = bif decide (s.2 < (List.length t : Int)) then
                      (bif (s.2 != i) then
                        chk (decide ((0 : Int) ≤ s.2) && decide (s.2 < (List.length t : Int))) (
                          chk (decide ((0 : Int) ≤ (lget 0 t s.2)) && decide ((lget 0 t s.2) < (List.length l : Int))) (
                            (app s.1 [lget (0, (0, (0, 0))) l (lget 0 t s.2)]).bind fun (t_12 : List z00) =>
                            some t_12))
                      else
                        some s.1).bind fun (some__1 : (List z00)) =>
                      some (.inl (some__1, wi64 (s.2 + 1)))
                    else
                      some (.inr s.1)) : z2d F ([], 0) = some ((if 0 ≤ i then t.eraseIdx i.toNat else t).map (lget z1e l)) := by
  have hG : ∀ (pre : List Int), pre.length ≤ t.length → (if 0 ≤ i then pre.eraseIdx i.toNat else pre).length ≤ 100 := fun pre h => by
    split
    · have := (List.eraseIdx_sublist pre i.toNat).length_le; omega
    · omega
  have h0 : ([] : List Int) = (if 0 ≤ i then ([] : List Int).eraseIdx i.toNat else []) := by split <;> rfl
  have key := z6r (X := Int) (F := F) (l := t) (fin := (if 0 ≤ i then t.eraseIdx i.toNat else t).map (lget z1e l)) (fun pre => ((if 0 ≤ i then pre.eraseIdx i.toNat else pre).map (lget z1e l), (pre.length : Int))) (fun pre x post e => ?_) ?_
  · have this : z2d F ((if 0 ≤ i then ([] : List Int).eraseIdx i.toNat else []).map (lget z1e l), 0) = _ := key
    rw [← h0] at this
    exact this
  · have hL : t.length = pre.length + (post.length + 1) := by rw [e, List.length_append, List.length_cons]
    have hx := hin x (by rw [e]; simp)
    rw [hF]
    simp only [z59 e]
    rw [z07 (show (pre.length : Int) < (t.length : Int) by omega), cond_true, z18 (by rw [z07 (by omega)]; rfl), z18 (by rw [z07 (by omega), z07 (by omega)]; rfl), z0j (by omega) (by omega)]
    rw [zlc (by rw [List.length_map]; have := hG pre (by omega); simp; omega)]
    by_cases hi : (pre.length : Int) = i
    · rw [show ((pre.length : Int) != i) = false by rw [hi]; simp, cond_false, Option.bind_some]
      have hpi : i.toNat = pre.length := by omega
      rw [if_pos (by omega), if_pos (by omega), hpi, List.eraseIdx_of_length_le (by omega), List.eraseIdx_append_of_length_le (by omega)]
      simp
    · rw [show ((pre.length : Int) != i) = true by rw [bne_iff_ne]; exact hi, cond_true, Option.bind_some, Option.bind_some]
      have hs : (if 0 ≤ i then (pre ++ [x]).eraseIdx i.toNat else pre ++ [x]) = (if 0 ≤ i then pre.eraseIdx i.toNat else pre) ++ [x] := by
        by_cases h : 0 ≤ i
        · rw [if_pos h, if_pos h]
          by_cases h2 : i.toNat < pre.length
          · rw [List.eraseIdx_append_of_lt_length h2]
          · rw [List.eraseIdx_of_length_le (l := pre ++ [x]) (by simp; omega), List.eraseIdx_of_length_le (l := pre) (by omega)]
        · rw [if_neg h, if_neg h]
      rw [hs, List.map_append, List.map_singleton, List.length_append, List.length_singleton]
      rfl
  · rw [hF]
    simp only
    rw [z0v (by omega), cond_false]
theorem y9u {l : List z00} (h0 : 0 < l.length) (h7 : l.length ≤ 7) (hi : l.all zc6 = true) : zn2 l = 0 := by
 unfold zn2
 rw [if_neg (by omega), if_neg (by omega), if_pos hi]
theorem y4y {r : z02} {l : List z00} (hr : z5d r = true) (h0 : 0 < l.length) (h7 : l.length ≤ 7) (hi : l.all zc6 = true) : z4j r l = 0 := by
 unfold z4j
 rw [hr, cond_true, y9u h0 h7 hi]
theorem yb4 {l : List z00} (hi : l.all zc6 = true) {t : List Int} (hin : ∀ x ∈ t, 0 ≤ x ∧ x < (l.length : Int)) : (t.map (lget z1e l)).all zc6 = true := by
 rw [List.all_eq_true]
 intro y hy
 obtain ⟨x, hx, rfl⟩ := List.mem_map.1 hy
 exact List.all_eq_true.1 hi _ (y3j (hin x hx))
theorem zx6 {R : Type} {F : Int → Option (Int ⊕ (Unit ⊕ R))} (lo hi : Int) (hle : lo ≤ hi) (hstep : ∀ i, lo ≤ i → i < hi → F i = some (.inl (i + 1))) (hend : F hi = some (.inr (.inl ()))) : z2d F lo = some (.inl ()) :=
 y6s (fun k => lo + (k : Int)) (hi - lo).toNat (by simp) (fun k hk => by rw [hstep _ (by omega) (by omega)]; congr 2; omega) (by rw [show lo + ((hi - lo).toNat : Int) = hi by omega]; exact hend)
theorem zqd (hw : z7b = some true) {r : z02} {l : List z00} {s : List Int} (hsl : s.length ≤ 9223372036854775807) :
    z65 r l s = some true := by
  unfold z65
  rw [hw, Option.bind_some, Bool.not_true, cond_false]
  by_cases h6 : (l.length : Int) > 5
  · rw [z07 h6]; rfl
  rw [z0v h6, cond_false, zmh (by omega), Option.bind_some, Option.bind_some]
  by_cases h0 : z4j r l = 0
  rotate_left
  · rw [show (z4j r l != 0) = true by rw [bne_iff_ne]; exact h0]; rfl
  rw [show (z4j r l != 0) = false by rw [h0]; rfl, cond_false, zlj (by omega) hsl, Option.bind_some, Option.bind_some]
  by_cases h1 : seqE l.length s = 0
  rotate_left
  · rw [show (seqE l.length s != 0) = true by rw [bne_iff_ne]; exact h1]; rfl
  rw [show (seqE l.length s != 0) = false by rw [h1]; rfl, cond_false]
  obtain ⟨hl0, hl7⟩ := z8n h0
  obtain ⟨hr, hi⟩ := zhm h0
  have hs5 := ybj h1
  simp only [zaz (show l.length ≤ 4294967296 by omega), z7e (show s.length ≤ 4294967296 by omega), Option.bind_some]
  rw [zde h0 (by omega) h1, Option.bind_some]
  have hpos : okP r l [] s = false → 0 ≤ (vioE r l s).1.1 ∧ (vioE r l s).1.1 ≤ (s.length : Int) - 1 := by
    intro ho
    unfold okP at ho
    unfold vioE
    cases hv : z1h (vioG r l) [] s with
    | none => rw [hv] at ho; cases ho
    | some q =>
      have := zsj _ _ _ hv
      simp only [List.length_nil] at this
      simp only
      omega
  have hc3 : ((bif (((bif okP r l [] s then (12 : Int) else 0) != 0) && ((bif okP r l [] s then (12 : Int) else 0) != 12)) then some true else
        (bif ((bif okP r l [] s then (12 : Int) else 0) == 0) then
          (z1q (vioE r l s).1.1 0 (wi64 ((List.length s : Int) - 1))).bind fun (t_5 : Bool) =>
          some (!t_5)
        else some false).bind fun (c_2 : Bool) =>
        some c_2)) = some false := by
    cases ho : okP r l [] s with
    | true => rfl
    | false =>
      have := hpos ho
      rw [zc0, Option.bind_some, z0j (by omega) (by omega), z07 this]
      rfl
  rw [hc3, Option.bind_some, cond_false]
  rw [zx6 0 ((s.length : Int) + 1) (by omega) (fun n hn0 hn1 => ?_) (by rw [z0v (by omega), cond_false]), Option.bind_some]
  rotate_left
  · have hn : n.toNat ≤ s.length := by omega
    have ht : List.drop (Int.toNat 0) (List.take (Int.toNat n) s) = s.take n.toNat := rfl
    have hsub : (s.take n.toNat).Sublist s := List.take_sublist ..
    rw [z07 (by omega), cond_true, z18 (by simp [hn0]), ht, z7e (by have := hsub.length_le; omega), Option.bind_some, zde h0 (by have := hsub.length_le; omega) (ybi h1 hsub), Option.bind_some, yc3 hn, z0j (by omega) (by omega)]
    rw [show ((n.toNat : Nat) : Int) = n by omega]
    cases okP r l [] s with
    | true => rfl
    | false =>
      simp only [Bool.false_or, and_true]
      cases decide (n ≤ (vioE r l s).1.1) <;> rfl
  simp only
  rw [zsh (by omega), if_pos h0, Option.bind_some, zmg (by omega), if_pos h0]
  obtain ⟨k1, k2⟩ := zxp (r := r) (l := l) (upto l.length) [] 0 (yba l.length)
  rw [z3b] at k1 k2
  unfold yan
  cases hf : z1h (zrw r l) [] (upto l.length) with
  | none =>
    have hfull := k2 hf (l.length - 1) (by omega) (by omega) (upto l.length) ⟨by rw [z3b]; omega, by
      unfold upto
      rw [List.pairwise_map]
      exact List.pairwise_lt_range.imp fun h => by omega, fun x hx => z6k.1 hx⟩
    have hcp := zrj (r := r) (l := l) (t := upto l.length)
    have hid : (upto l.length).map (lget z1e l) = l := by
      unfold upto
      rw [List.map_map]
      refine List.ext_getElem (by simp) fun i h1 h2 => ?_
      simp only [List.getElem_map, List.getElem_range, Function.comp]
      unfold lget
      rw [Int.toNat_natCast, List.getD_eq_getElem?_getD, List.getElem?_eq_getElem h2]
      rfl
    rw [hid, hfull] at hcp
    cases hc : zi2 r l with
    | none => rw [hc] at hcp; cases hcp
    | some c => rfl
  | some q =>
    obtain ⟨q2, j, hj0, hj1, hset, hno, hall⟩ := k1 q hf
    obtain ⟨t, e⟩ := q
    dsimp only at q2 hset hno
    subst q2
    have htl := hset.1
    simp only [Option.getD_some]
    rw [show ((0 : Int) != 0) = false from rfl, cond_false, show ((t.length : Int) == 0) = false by rw [beq_eq_false_iff_ne]; omega, cond_false, zhe (by omega) (by omega), Option.bind_some, Option.bind_some, y8f hset]
    rw [show ((0 : Int) != 0) = false from rfl, cond_false]
    rw [zx6 (-1) (t.length : Int) (by omega) (fun i hi0 hi1 => ?_) (by rw [z0v (by omega), cond_false]), Option.bind_some]
    rw [z07 (by omega), cond_true, y9o (i := i) (by omega) hset.2.2 (fun s => rfl), Option.bind_some, z0j (by omega) (by omega), List.length_map]
    by_cases hi2 : 0 ≤ i
    · rw [if_pos hi2]
      have hset2 : zrk l.length j (t.eraseIdx i.toNat) := y1u hset (by omega)
      rw [hset2.1]
      by_cases hj : j = 0
      · rw [show ((j : Int) == 0) = true by rw [hj]; rfl, cond_true]
      · rw [show ((j : Int) == 0) = false by rw [beq_eq_false_iff_ne]; omega, cond_false]
        have hml : ((t.eraseIdx i.toNat).map (lget z1e l)).length = j := by rw [List.length_map, hset2.1]
        have hposs := hall (j - 1) (by omega) (by omega) (t.eraseIdx i.toNat) (by rw [show j - 1 + 1 = j by omega]; exact hset2)
        rw [← zrj] at hposs
        rw [zmg (by omega), if_pos (y4y hr (by omega) (by omega) (yb4 hi hset2.2.2)), Option.bind_some]
        obtain ⟨c, hc⟩ := Option.isSome_iff_exists.1 hposs
        rw [hc, z0v (show ¬ i < 0 by omega)]
        rfl
    · rw [if_neg hi2, show ((t.length : Int) == 0) = false by rw [beq_eq_false_iff_ne]; omega, cond_false]
      have hml : (t.map (lget z1e l)).length = t.length := List.length_map ..
      rw [← zrj] at hno
      rw [zmg (by omega), if_pos (y4y hr (by omega) (by omega) (yb4 hi hset.2.2)), Option.bind_some, z07 (show i < 0 by omega)]
      cases hc : zi2 r (t.map (lget z1e l)) with
      | some c => rw [hc] at hno; cases hno
      | none => rfl
end Go.Lift
