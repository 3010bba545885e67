/-
  From a call's arguments to pure values, and back to the statement.
-/
import Derived.Test.YtkoojmbkjgbdgaaGreatDoorLiftJ
import Derived.OpenShut
import Derived.ProofKit
set_option linter.unusedSectionVars false
set_option linter.unusedVariables false
set_option linter.unusedSimpArgs false
namespace Go.Lift
open Go Go.RowKit
variable [Tab] [Mf]
variable {P : Program}
def snap (W : World) : Mem := fun b o => W.cell? ⟨b, o, none⟩
theorem good_snap (W : World) (hT : Tab.T (snap W) W) : Good (snap W) W := ⟨hT, fun _ _ _ h => h⟩
def plainT : Ty → Bool
  | .int _ | .bool | .str => true
  | .one t => plainT t
  | .pair a b => plainT a && plainT b
  | .arr _ e => plainT e
  | .slice e => plainT e && decide (0 < e.size)
  | _ => false
def okv : (t : Ty) → t.den → Prop
  | .int k, x => k.min ≤ x ∧ x ≤ k.max
  | .bool, _ => True
  | .str, s => s.size ≤ maxLen
  | .one t, x => okv t x
  | .pair a b, x => okv a x.1 ∧ okv b x.2
  | .arr n e, x => ∀ i, i < n → okv e (x i)
  | .slice e, l => l.length ≤ maxLen ∧ ∀ x ∈ l, okv e x
  | _, _ => True
theorem cells_of {t : Ty} {T : TypeId} (h : fits P t (.inl T) = true) : P.cellsOf T = t.size := by
  obtain ⟨i, d, hi⟩ := fits_info h
  unfold Program.cellsOf
  rw [hi.info]
  exact hi.size
theorem list_of {α : Type} {n : Nat} {R : Nat → α → Prop} (h : ∀ i, i < n → ∃ x, R i x) : ∃ l : List α, l.length = n ∧ ∀ i (hi : i < l.length), R i l[i] := by
  induction n with
  | zero => exact ⟨[], rfl, fun i hi => absurd hi (Nat.not_lt_zero _)⟩
  | succ n ih =>
    obtain ⟨l, hl, hR⟩ := ih fun i hi => h i (by omega)
    obtain ⟨x, hx⟩ := h n (by omega)
    refine ⟨l ++ [x], by simp [hl], fun i hi => ?_⟩
    rcases Nat.lt_or_ge i l.length with hlt | hge
    · rw [List.getElem_append_left hlt]; exact hR i hlt
    · have : i = n := by simp at hi; omega
      subst this
      rw [List.getElem_append_right hge]
      simp only [hl, Nat.sub_self, List.getElem_cons_zero]
      exact hx
section
variable {H : Type} {enc : TypeId × Value → H} {W : World} {sp : Nat → Bool} {held : Bool}
theorem trod_rel : ∀ (t : Ty), (∀ T fuel cs x, fits P t (.inl T) = true → plainT t = true → DataW.trod enc P W 0 sp held fuel T cs = some x → ∃ v : t.den, relC P t (snap W) v cs ∧ okv t v) ∧
    (∀ fs off (cs : List Value), fits P t (.inr (fs, off)) = true → plainT t = true → (∀ f ∈ fs, ∃ fuel x, DataW.trod enc P W 0 sp held fuel f.type ((cs.drop f.offset).take (P.cellsOf f.type)) = some x) →
      ∃ v : t.den, relC P t (snap W) v ((cs.drop off).take t.size) ∧ okv t v)
  | .int k => by
    refine ⟨fun T fuel cs x h1 _ h => ?_, fun fs off cs h => by simp [fits] at h⟩
    obtain ⟨n, rfl, _, hw⟩ := DataW.trod_int (fits_int h1) h
    simp only [Lit.wf, Bool.and_eq_true, decide_eq_true_eq] at hw
    exact ⟨n, rfl, hw⟩
  | .bool => by
    refine ⟨fun T fuel cs x h1 _ h => ?_, fun fs off cs h => by simp [fits] at h⟩
    obtain ⟨b, rfl, _⟩ := DataW.trod_bool (fits_bool h1) h
    exact ⟨b, rfl, True.intro⟩
  | .str => by
    refine ⟨fun T fuel cs x h1 _ h => ?_, fun fs off cs h => by simp [fits] at h⟩
    obtain ⟨s, rfl, _, hs⟩ := DataW.trod_string (fits_str h1) h
    exact ⟨s, rfl, hs⟩
  | .one t => by
    refine ⟨fun T fuel cs x h1 hp h => ?_, fun fs off cs h => by simp [fits] at h⟩
    obtain ⟨fs, hfs⟩ := fits_struct h1 (.inr (.inl ⟨t, rfl⟩))
    obtain ⟨xs, n, _, _, hl, hn, hf⟩ := DataW.trod_struct hfs h
    rw [cells_of h1] at hl
    rw [fits] at h1
    split at h1
    · rename_i i dd hi hdd
      rw [hfs] at hdd
      cases hdd
      simp only [Bool.and_eq_true] at h1
      obtain ⟨_, h1⟩ := h1
      split at h1
      · rename_i f hfl
        simp only [Bool.and_eq_true] at h1
        have ho := Nat.eq_of_beq_eq_true h1.1
        have hsz : fs.size = 1 := by have := congrArg List.length hfl; simpa using this
        have h0 := hf 0 f (by rw [← Array.getElem?_toList, hfl]; rfl)
        obtain ⟨y, hy⟩ : ∃ y, xs[0]? = some y := ⟨_, List.getElem?_eq_getElem (by omega)⟩
        rw [hy, ho, List.drop_zero, cells_of h1.2, List.take_of_length_le (by simp only [Ty.size] at hl; omega)] at h0
        exact (trod_rel t).1 f.type n cs y h1.2 hp h0
      · cases h1
    · cases h1
  | .pair a b => by
    have fields : ∀ fs off (cs : List Value), fits P (.pair a b) (.inr (fs, off)) = true → plainT (.pair a b) = true → (∀ f ∈ fs, ∃ fuel x, DataW.trod enc P W 0 sp held fuel f.type ((cs.drop f.offset).take (P.cellsOf f.type)) = some x) →
        ∃ v : (Ty.pair a b).den, relC P (.pair a b) (snap W) v ((cs.drop off).take (Ty.pair a b).size) ∧ okv (.pair a b) v := by
      intro fs off cs h1 hp hf
      simp only [plainT, Bool.and_eq_true] at hp
      have join : ∀ (x : a.den) (y : b.den), relC P a (snap W) x ((cs.drop off).take a.size) → relC P b (snap W) y ((cs.drop (off + a.size)).take b.size) → okv a x → okv b y →
          ∃ v : (Ty.pair a b).den, relC P (.pair a b) (snap W) v ((cs.drop off).take (Ty.pair a b).size) ∧ okv (.pair a b) v := fun x y hx hy ox oy => by
        refine ⟨(x, y), ⟨?_, ?_⟩, ox, oy⟩
        · show relC P a (snap W) x (((cs.drop off).take (a.size + b.size)).take a.size)
          rw [List.take_take, Nat.min_eq_left (by omega)]; exact hx
        · show relC P b (snap W) y (((cs.drop off).take (a.size + b.size)).drop a.size)
          rw [List.drop_take, List.drop_drop, Nat.add_sub_cancel_left]; exact hy
      match fs, h1, hf with
      | [], h1, _ => simp [fits] at h1
      | [_], h1, _ => simp [fits] at h1
      | [f, g], h1, hf =>
        rw [fits.eq_2] at h1
        simp only [Bool.and_eq_true] at h1
        obtain ⟨⟨⟨o1, f1⟩, o2⟩, f2⟩ := h1
        have o1 := Nat.eq_of_beq_eq_true o1
        have o2 := Nat.eq_of_beq_eq_true o2
        obtain ⟨n1, x1, e1⟩ := hf f (by simp)
        obtain ⟨n2, x2, e2⟩ := hf g (by simp)
        rw [o1, cells_of f1] at e1
        rw [o2, cells_of f2] at e2
        obtain ⟨v1, r1, k1⟩ := (trod_rel a).1 f.type n1 _ x1 f1 hp.1 e1
        obtain ⟨v2, r2, k2⟩ := (trod_rel b).1 g.type n2 _ x2 f2 hp.2 e2
        exact join v1 v2 r1 r2 k1 k2
      | f :: g :: h :: r, h1, hf =>
        rw [fits.eq_3] at h1
        simp only [Bool.and_eq_true] at h1
        obtain ⟨⟨o1, f1⟩, f2⟩ := h1
        have o1 := Nat.eq_of_beq_eq_true o1
        obtain ⟨n1, x1, e1⟩ := hf f (by simp)
        rw [o1, cells_of f1] at e1
        obtain ⟨v1, r1, k1⟩ := (trod_rel a).1 f.type n1 _ x1 f1 hp.1 e1
        obtain ⟨v2, r2, k2⟩ := (trod_rel b).2 (g :: h :: r) (off + a.size) cs f2 hp.2 fun f' hf' => hf f' (List.mem_cons_of_mem _ hf')
        exact join v1 v2 r1 r2 k1 k2
    refine ⟨fun T fuel cs x h1 hp h => ?_, fields⟩
    obtain ⟨fs, hfs⟩ := fits_struct h1 (.inr (.inr ⟨a, b, rfl⟩))
    obtain ⟨xs, n, _, _, hl, hn, hf⟩ := DataW.trod_struct hfs h
    rw [cells_of h1] at hl
    have h1' : fits P (.pair a b) (.inr (fs.toList, 0)) = true := by
      rw [fits] at h1
      split at h1
      · rename_i i dd hi hdd
        rw [hfs] at hdd
        cases hdd
        simp only [Bool.and_eq_true] at h1
        obtain ⟨_, h1⟩ := h1
        split at h1
        · rename_i f g hl
          rw [hl, fits.eq_2]
          simpa using h1
        · rename_i f g h r hl
          rw [hl, fits.eq_3]
          simpa using h1
        · cases h1
      · cases h1
    obtain ⟨v, r, k⟩ := fields fs.toList 0 cs h1' hp fun f hm => by
      obtain ⟨i, hi⟩ := List.mem_iff_getElem?.1 hm
      have hil := (List.getElem?_eq_some_iff.1 hi).1
      have h0 := hf i f (by rw [← Array.getElem?_toList]; exact hi)
      obtain ⟨y, hy⟩ : ∃ y, xs[i]? = some y := ⟨_, List.getElem?_eq_getElem (by rw [hn]; simpa using hil)⟩
      exact ⟨n, y, h0.trans hy⟩
    rw [List.drop_zero, List.take_of_length_le (by omega)] at r
    exact ⟨v, r, k⟩
  | .arr m e => by
    refine ⟨fun T fuel cs x h1 hp h => ?_, fun fs off cs h => by simp [fits] at h⟩
    obtain ⟨E, hE, hfE⟩ := fits_arr h1
    obtain ⟨xs, n, _, _, hl, hn, hf⟩ := DataW.trod_array hE h
    rw [cells_of h1] at hl
    obtain ⟨l, hll, hR⟩ := list_of (n := m) (R := fun i (v : e.den) => relC P e (snap W) v ((cs.drop (i * e.size)).take e.size) ∧ okv e v) fun i hi => by
      have h0 := hf i hi
      obtain ⟨y, hy⟩ : ∃ y, xs[i]? = some y := ⟨_, List.getElem?_eq_getElem (by omega)⟩
      rw [hy, cells_of hfE] at h0
      exact (trod_rel e).1 E n _ y hfE hp h0
    refine ⟨fun i => l.getD i e.dflt, ⟨hl, fun i hi => ?_⟩, fun i hi => ?_⟩
    · show relC P e (snap W) (l.getD i e.dflt) _
      rw [List.getD_eq_getElem?_getD, List.getElem?_eq_getElem (by omega), Option.getD_some]
      exact (hR i (by omega)).1
    · show okv e (l.getD i e.dflt)
      rw [List.getD_eq_getElem?_getD, List.getElem?_eq_getElem (by omega), Option.getD_some]
      exact (hR i (by omega)).2
  | .slice e => by
    refine ⟨fun T fuel cs x h1 hp h => ?_, fun fs off cs h => by simp [fits] at h⟩
    simp only [plainT, Bool.and_eq_true, decide_eq_true_eq] at hp
    obtain ⟨E, hE, hfE⟩ := fits_slice h1
    rcases DataW.trod_slice hE h with ⟨rfl, _⟩ | ⟨ad, len, cap, elems, rest, n, _, rfl, _, _, hlc, hcm, hel, hf, _⟩
    · exact ⟨[], ⟨_, rfl, .inl ⟨rfl, rfl⟩⟩, Nat.zero_le _, fun x hx => by cases hx⟩
    · by_cases h0 : len = 0
      · subst h0
        exact ⟨[], ⟨_, rfl, .inr (.inr ⟨ad, cap, rfl, rfl⟩)⟩, Nat.zero_le _, fun x hx => by cases hx⟩
      · have step : ∀ i, i < len → ∃ ci y, W.cells? 0 (ad.add (i * e.size)) e.size = some ci ∧ DataW.trod enc P W 0 sp held n E ci = some y := fun i hi => by
          have hi' := hf i hi
          rw [List.getElem?_eq_getElem (by omega), cells_of hfE, Option.bind_eq_some_iff] at hi'
          obtain ⟨ci, c1, c2⟩ := hi'
          exact ⟨ci, _, c1, c2⟩
        have hspot : ad.spot = none := by
          obtain ⟨ci, y, c1, _⟩ := step 0 (by omega)
          obtain ⟨_, c3, c4⟩ := World.cells?_some c1
          have c5 := c4 0 hp.2
          rw [List.getElem?_eq_getElem (by omega)] at c5
          have := World.cell?_spot c5
          rw [Nat.zero_mul] at this
          simpa [Addr.add] using this
        obtain ⟨bk, of, spt⟩ := ad
        simp only at hspot
        subst hspot
        have cellAt : ∀ i ci, i < len → W.cells? 0 ((⟨bk, of, none⟩ : Addr).add (i * e.size)) e.size = some ci → ci.length = e.size ∧ ∀ j, j < e.size → snap W bk (of + (i * e.size + j)) = ci[j]? := fun i ci hi hc => by
          obtain ⟨_, c3, c4⟩ := World.cells?_some hc
          refine ⟨c3, fun j hj => ?_⟩
          have := c4 j hj
          rw [Addr.add_mk, Addr.add_mk] at this
          show W.cell? ⟨bk, of + (i * e.size + j), none⟩ = _
          rw [← Nat.add_assoc]; exact this
        let cells : List Value := (List.range (len * e.size)).map fun j => (snap W bk (of + j)).getD undef
        have hcl : cells.length = len * e.size := by simp [cells]
        have hcg : ∀ j, j < len * e.size → ∃ u, snap W bk (of + j) = some u ∧ cells[j]? = some u := fun j hj => by
          have hdm := Nat.div_add_mod j e.size
          have hm := Nat.mod_lt j hp.2
          have hd : j / e.size < len := (Nat.div_lt_iff_lt_mul hp.2).2 hj
          obtain ⟨ci, y, c1, _⟩ := step (j / e.size) hd
          obtain ⟨c2, c3⟩ := cellAt _ ci hd c1
          have c4 := c3 (j % e.size) hm
          rw [Nat.mul_comm, hdm, List.getElem?_eq_getElem (by omega)] at c4
          refine ⟨_, c4, ?_⟩
          show ((List.range (len * e.size)).map fun j => (snap W bk (of + j)).getD undef)[j]? = _
          simp [hj, c4]
        have hpart : ∀ i ci, i < len → W.cells? 0 ((⟨bk, of, none⟩ : Addr).add (i * e.size)) e.size = some ci → (cells.drop (i * e.size)).take e.size = ci := fun i ci hi hc => by
          obtain ⟨c2, c3⟩ := cellAt i ci hi hc
          refine List.ext_getElem? fun j => ?_
          rw [List.getElem?_take]
          split
          · rename_i hj
            rw [List.getElem?_drop]
            have hlt : i * e.size + j < len * e.size := by
              have : (i + 1) * e.size ≤ len * e.size := Nat.mul_le_mul_right _ hi
              rw [Nat.add_mul, Nat.one_mul] at this
              omega
            obtain ⟨u, u1, u2⟩ := hcg _ hlt
            rw [u2, ← u1]
            exact c3 j hj
          · rw [List.getElem?_eq_none (by omega)]
        obtain ⟨l, hll, hR⟩ := list_of (n := len) (R := fun i (v : e.den) => relC P e (snap W) v ((cells.drop (i * e.size)).take e.size) ∧ okv e v) fun i hi => by
          obtain ⟨ci, y, c1, c2⟩ := step i hi
          rw [hpart i ci hi c1]
          exact (trod_rel e).1 E n ci y hfE hp.1 c2
        refine ⟨l, ⟨_, rfl, .inr (.inl ⟨bk, of, cap, cells, by rw [hll], by omega, by rw [hll]; exact hcl, fun j u hj => ?_, fun i hi => (hR i hi).1⟩)⟩, by rw [hll]; omega, fun x hx => ?_⟩
        · have hlt := (List.getElem?_eq_some_iff.1 hj).1
          obtain ⟨u', u1, u2⟩ := hcg j (by omega)
          rw [u2] at hj
          cases hj
          exact u1
        · obtain ⟨i, hi⟩ := List.mem_iff_getElem?.1 hx
          obtain ⟨hil, rfl⟩ := List.getElem?_eq_some_iff.1 hi
          exact (hR i hil).2
  | .unit => ⟨fun _ _ _ _ _ h => by simp [plainT] at h, fun _ _ _ _ h => by simp [plainT] at h⟩
  | .err => ⟨fun _ _ _ _ _ h => by simp [plainT] at h, fun _ _ _ _ h => by simp [plainT] at h⟩
  | .ptr _ => ⟨fun _ _ _ _ _ h => by simp [plainT] at h, fun _ _ _ _ h => by simp [plainT] at h⟩
  | .fn _ _ => ⟨fun _ _ _ _ _ h => by simp [plainT] at h, fun _ _ _ _ h => by simp [plainT] at h⟩
  | .seq _ => ⟨fun _ _ _ _ _ h => by simp [plainT] at h, fun _ _ _ _ h => by simp [plainT] at h⟩
  | .mapT _ _ => ⟨fun _ _ _ _ _ h => by simp [plainT] at h, fun _ _ _ _ h => by simp [plainT] at h⟩
end
end Go.Lift
namespace Go.Lift
open Go Go.RowKit Go.ChangeShapes
variable [Tab] [Mf]
variable {P : Program}
theorem plain_agg {t : Ty} {T : TypeId} (h : fits P t (.inl T) = true) (hp : plainT t = true) :
    (t.agg = true ∧ ((∃ fs, P.underlying T = some (.struct fs)) ∨ ∃ n e, P.underlying T = some (.array n e))) ∨
    (t.agg = false ∧ ((∃ k, P.underlying T = some (.int k)) ∨ P.underlying T = some .bool ∨ P.underlying T = some .string ∨ ∃ e, P.underlying T = some (.slice e))) := by
  cases t with
  | int k => exact .inr ⟨rfl, .inl ⟨_, fits_int h⟩⟩
  | bool => exact .inr ⟨rfl, .inr (.inl (fits_bool h))⟩
  | str => exact .inr ⟨rfl, .inr (.inr (.inl (fits_str h)))⟩
  | one t => exact .inl ⟨rfl, .inl (fits_struct h (.inr (.inl ⟨t, rfl⟩)))⟩
  | pair a b => exact .inl ⟨rfl, .inl (fits_struct h (.inr (.inr ⟨a, b, rfl⟩)))⟩
  | arr n e => obtain ⟨E, hE, _⟩ := fits_arr h; exact .inl ⟨rfl, .inr ⟨n, E, hE⟩⟩
  | slice e => obtain ⟨E, hE, _⟩ := fits_slice h; exact .inr ⟨rfl, .inr (.inr (.inr ⟨E, hE⟩))⟩
  | _ => simp [plainT] at hp
theorem relV_of_cells {t : Ty} {T : TypeId} (h : fits P t (.inl T) = true) (hp : plainT t = true) {M : Mem} {x : t.den} {v : Value} {w : World} {base : Nat} (hok : Value.okWide P w .any base T v) (hr : relC P t M x v.cells.toList) : relV P t M x v := by
  unfold relV viaCells
  rcases plain_agg h hp with ⟨ha, hu⟩ | ⟨ha, hu⟩
  · rw [if_pos ha]
    have : ∃ cs, v = .agg cs := by
      unfold Value.okWide at hok
      rcases hu with ⟨fs, hu⟩ | ⟨n, e, hu⟩
      · rw [hu] at hok; obtain ⟨cs, h1, _⟩ := hok; exact ⟨cs, h1⟩
      · rw [hu] at hok; obtain ⟨cs, h1, _⟩ := hok; exact ⟨cs, h1⟩
    obtain ⟨cs, rfl⟩ := this
    exact ⟨cs, rfl, hr⟩
  · rw [if_neg (by rw [ha]; decide)]
    have hne : ∀ cs, v ≠ .agg cs := by
      rintro cs rfl
      unfold Value.okWide at hok
      rcases hu with ⟨k, hu⟩ | hu | hu | ⟨e, hu⟩ <;> rw [hu] at hok <;> simp [Cell.okWide, Cell.ok, hu] at hok
    have : v.cells = #[v] := by
      cases v <;> first | rfl | exact absurd rfl (hne _)
    rw [this] at hr
    exact hr
def okvs : (ts : List Ty) → Args ts → Prop
  | [], _ => True
  | [t], x => okv t x
  | t :: u :: r, x => okv t x.1 ∧ okvs (u :: r) x.2
def argsOk (P : Program) : List TypeId → List Ty → Bool
  | [], [] => true
  | T :: Ts, t :: ts => fits P t (.inl T) && plainT t && P.readableRec T && decide (T < P.types.size) && argsOk P Ts ts
  | _, _ => false
section
variable {H : Type} {enc : TypeId × Value → H} {W W' : World}
theorem args_rel : ∀ {Ts : List TypeId} {ts : List Ty} {vs : List Value} {ds : List (DataW H)} {ps : List MemPlace} {base : Nat}, argsOk P Ts ts = true → (∀ (j : Nat) T v, Ts[j]? = some T → vs[j]? = some v → Value.okWide P W .any base T v) →
    DataW.TrodAll enc P W 0 (fun _ => true) true Ts vs ds ps → ∃ x : Args ts, relVs P (snap W) ts x vs ∧ okvs ts x ∧ ds.length = ts.length
  | [], [], [], [], _, _, _, _, _ => ⟨(), rfl, True.intro, rfl⟩
  | [], [], [], _ :: _, _, _, _, _, h => h.elim
  | [], [], _ :: _, _, _, _, _, _, h => by cases h
  | [T], [t], [v], [d], ps, base, hok, hval, h => by
    simp only [argsOk, Bool.and_eq_true] at hok
    obtain ⟨⟨⟨⟨h1, h2⟩, _⟩, _⟩, _⟩ := hok
    obtain ⟨p, q, ⟨fuel, hf⟩, _, _⟩ := h
    obtain ⟨x, r, k⟩ := (trod_rel t).1 T fuel _ _ h1 h2 hf
    exact ⟨x, ⟨v, rfl, relV_of_cells h1 h2 (hval 0 T v rfl rfl) r⟩, k, rfl⟩
  | T :: T' :: Ts, t :: t' :: ts, v :: vs, d :: ds, ps, base, hok, hval, h => by
    simp only [argsOk, Bool.and_eq_true] at hok
    obtain ⟨⟨⟨⟨h1, h2⟩, _⟩, _⟩, hrest⟩ := hok
    obtain ⟨p, q, ⟨fuel, hf⟩, hs, _⟩ := h
    obtain ⟨x, r, k⟩ := (trod_rel t).1 T fuel _ _ h1 h2 hf
    obtain ⟨xs, rs, ks, hl⟩ := args_rel (Ts := T' :: Ts) (ts := t' :: ts) (vs := vs) (ds := ds) (ps := q) (base := base) (by simp only [argsOk, Bool.and_eq_true]; exact hrest) (fun j T v hT hv => hval (j + 1) T v hT hv) hs
    exact ⟨(x, xs), ⟨v, vs, rfl, relV_of_cells h1 h2 (hval 0 T v rfl rfl) r, rs⟩, ⟨k, ks⟩, by simp [hl]⟩
  | [], _ :: _, _, _, _, _, hok, _, _ => by simp [argsOk] at hok
  | _ :: _, [], _, _, _, _, hok, _, _ => by simp [argsOk] at hok
  | [_], _ :: _ :: _, _, _, _, _, hok, _, _ => by simp [argsOk] at hok
  | _ :: _ :: _, [_], _, _, _, _, hok, _, _ => by simp [argsOk] at hok
  | _ :: _, _ :: _, [], _, _, _, _, _, h => h.elim
  | _ :: _, _ :: _, _ :: _, [], _, _, _, _, h => h.elim
  | [_], [_], _ :: _ :: _, [_], _, _, _, _, ⟨_, _, _, h, _⟩ => h.elim
  | [_], [_], [_], _ :: _ :: _, _, _, _, _, ⟨_, _, _, h, _⟩ => h.elim
  | [_], [_], _ :: _ :: _, _ :: _ :: _, _, _, _, _, ⟨_, _, _, h, _⟩ => h.elim
theorem args_kept (hl : laidOutB P = true) (hb : Below W.heap.size W W') : ∀ {Ts : List TypeId} {ts : List Ty} {vs : List Value} {ds : List (DataW H)} {ps : List MemPlace}, argsOk P Ts ts = true → (∀ x ∈ ps, x.block < W.heap.size) →
    DataW.TrodAll enc P W 0 (fun _ => true) true Ts vs ds ps → DataW.TrodAll enc P W' 0 (fun b => decide (b < W.heap.size)) true Ts vs ds ps
  | [], [], [], [], _, _, _, h => h
  | [], [], [], _ :: _, _, _, _, h => h.elim
  | [], [], _ :: _, _, _, _, _, h => by cases h
  | T :: Ts, t :: ts, v :: vs, d :: ds, ps, hok, hlt, h => by
    simp only [argsOk, Bool.and_eq_true, decide_eq_true_eq] at hok
    obtain ⟨⟨⟨⟨_, _⟩, h3⟩, h4⟩, hrest⟩ := hok
    obtain ⟨p, q, h1, h2, rfl⟩ := h
    exact ⟨p, q, Below.trod hl h3 h4 h1 hb (fun x hx => hlt x (List.mem_append_left _ hx)), args_kept hl hb hrest (fun x hx => hlt x (List.mem_append_right _ hx)) h2, rfl⟩
  | [], _ :: _, _, _, _, hok, _, _ => by simp [argsOk] at hok
  | _ :: _, [], _, _, _, hok, _, _ => by simp [argsOk] at hok
  | _ :: _, _ :: _, [], _, _, _, _, h => h.elim
  | _ :: _, _ :: _, _ :: _, [], _, _, _, h => h.elim
theorem law_calls {s : ChangeSpec} {f : FuncId} {fn : Func} {ats : List Ty} {run : Args ats → Option Bool} {tb : TypeId} (hl : laidOutB P = true) (hvars : s.vars = []) (h : Has P ⟨f, ats, [.bool], run⟩) (hok : argsOk P fn.params.toList ats = true)
    (hres : fn.resultTypes = #[tb]) (htb : P.underlying tb = some .bool) (hlaw : ∀ x, okvs ats x → run x = some true)
    (hspec : ∀ ds : List (DataW H), ds.length = ats.length → s.fn H ds = { results := [.lit (.bool true)], args := ds }) {base : Nat} {args : Array Value} {ds gs : List (DataW H)} {before : List MemPlace}
    (hval : ∀ (j : Nat) t v, fn.params[j]? = some t → args[j]? = some v → Value.okWide P W .any base t v) (hW : DataW.Whole enc P fn.params.toList s.vars false W args.toList ds gs before) (hT : Tab.T (snap W) W) :
    Calls P f args W fun e W' => ∃ v, e = .returned v ∧ s.post enc P fn false true false false W args v W' := by
  have hW0 := hW
  obtain ⟨p, q, hA, hV, rfl, hfz, hnd⟩ := hW
  rw [hvars] at hV
  obtain ⟨rfl, rfl⟩ := trodVars_none hV
  obtain ⟨x, hr, hx, hdl⟩ := args_rel (base := base) hok (fun j t v h1 h2 => hval j t v (by rw [← Array.getElem?_toList]; exact h1) (by rw [← Array.getElem?_toList]; exact h2)) hA
  have hc := h.2 x true (hlaw x hx) (snap W) W args.toList (good_snap W hT) hr
  unfold CallsTo at hc
  simp only [Array.toArray_toList] at hc
  refine Calls.mono hc fun e W' he => ?_
  obtain ⟨M', v, rfl, hv, _, hg⟩ := he
  have hv : v = .bool true := relV_bool.1 hv
  subst hv
  refine ⟨_, rfl, ds, [], p ++ [], [], p, [], hW0, ?_, ?_, ?_, Below.frame hg.below _, fun hf => by cases hf⟩
  · rw [List.append_nil, hspec ds hdl, hres]
    exact trodAll_mk1 (shut_bool htb true)
  · rw [List.append_nil, hspec ds hdl]
    exact args_kept hl hg.below hok (fun x hx => hW0.lt x (List.mem_append_left _ hx)) hA
  · rw [List.append_nil, hspec ds hdl, hvars]
    exact rfl
end
end Go.Lift
