/-
  Single operations, fourth part.
-/
import Derived.Test.YtkoojmbkjgbdgaaGreatDoorLiftE
import Derived.MapKept
import Derived.Laws.BytesString
import Derived.Laws.Append
import Derived.Laws.AppendOwn
set_option linter.unusedSectionVars false
set_option linter.unusedVariables false
set_option linter.unusedSimpArgs false
namespace Go.Lift
open Go Go.RowKit
variable [Tab] [Mf]
variable {P : Program} {Γ : Ctx} {base : Nat} {κ : Nat → Option Nat} {M : Mem} {σ : St} {a : Act} {w : World}
theorem seqb_iff {x y : ByteArray} : seqb x y = true ↔ x = y := by
  unfold seqb
  rw [beq_iff_eq]
  constructor
  · intro h
    rw [ByteArray.toList_eq, ByteArray.toList_eq] at h
    exact ByteArray.ext (Array.toList_inj.mp h)
  · intro h; rw [h]
theorem scal_val {t : Ty} (h : t.scal = true) {x : t.den} {u : Value} (hr : relV P t M x u) : u = encS t x := by
  cases t <;> first | (cases h) | skip
  · exact relV_int.1 hr
  · exact relV_bool.1 hr
  · exact relV_str.1 hr
theorem scal_rel {t : Ty} (h : t.scal = true) (x : t.den) : relV P t M x (encS t x) := by
  cases t <;> first | (cases h) | skip
  · exact relV_int.2 rfl
  · exact relV_bool.2 rfl
  · exact relV_str.2 rfl
theorem scal_inj {t : Ty} (h : t.scal = true) (x y : t.den) : t.eqb x y = true ↔ encS t x = encS t y := by
  cases t <;> first | (cases h) | skip
  · exact ⟨fun e => by have e : (x == y) = true := e; rw [beq_iff_eq] at e; show Value.int _ x = Value.int _ y; rw [e], fun e => by have e : Value.int _ x = Value.int _ y := e; injection e with _ e; show (x == y) = true; rw [beq_iff_eq]; exact e⟩
  · exact ⟨fun e => by have e : (x == y) = true := e; rw [beq_iff_eq] at e; show Value.bool x = Value.bool y; rw [e], fun e => by have e : Value.bool x = Value.bool y := e; injection e with e; show (x == y) = true; rw [beq_iff_eq]; exact e⟩
  · exact ⟨fun e => by have e := seqb_iff.1 e; show Value.string x = Value.string y; rw [e], fun e => by have e : Value.string x = Value.string y := e; injection e with e; exact seqb_iff.2 e⟩
theorem scal_key {t : Ty} (h : t.scal = true) {T : TypeId} (hf : fits P t (.inl T) = true) {d : TypeDesc} (hd : P.underlying T = some d) (x : t.den) : MapKept.IsKey d (encS t x) := by
  unfold fits at hf
  cases hi : P.info? T with
  | none => rw [hi] at hf; cases hf
  | some i =>
    rw [hi, hd] at hf
    simp only [Bool.and_eq_true] at hf
    have h2 := hf.2
    cases t <;> first | (cases h) | skip
    · cases d <;> first | (cases h2) | skip
      have e := of_decide_eq_true h2
      exact e
    · cases d <;> first | (cases h2) | skip
      trivial
    · cases d <;> first | (cases h2) | skip
      trivial
theorem find_map {k v : Ty} (hk : k.scal = true) {K : TypeId} (hf : fits P k (.inl K) = true) {d : TypeDesc} (hd : P.underlying K = some d) (j : k.den) : ∀ (es : List MapEntry) (l : List (k.den × v.den)) (i : Nat), es.map (fun e => (e.key, e.val)) = l.map (fun p => (encS k p.1, encS v p.2)) →
    (Instr.findNow d (encS k j) es i = some none ∧ (l.any fun p => k.eqb j p.1) = false ∧ (l.find? fun p => k.eqb j p.1) = none) ∨
    ∃ n pre p post, Instr.findNow d (encS k j) es i = some (some (i + n, encS v p.2)) ∧ l = pre ++ p :: post ∧ pre.length = n ∧ k.eqb j p.1 = true ∧ (pre.any fun p => k.eqb j p.1) = false ∧ (l.find? fun p => k.eqb j p.1) = some p
  | [], [], _, _ => .inl ⟨rfl, rfl, rfl⟩
  | [], _ :: _, _, h => by cases h
  | _ :: _, [], _, h => by cases h
  | e :: es, p :: l, i, h => by
    simp only [List.map_cons, List.cons.injEq, Prod.mk.injEq] at h
    obtain ⟨⟨h1, h2⟩, h3⟩ := h
    have hke : MapKept.IsKey d e.key := by rw [h1]; exact scal_key hk hf hd p.1
    obtain ⟨r, hr, hiff⟩ := MapKept.sameNow_of_keys (scal_key hk hf hd j) hke
    rw [h1, ← scal_inj hk] at hiff
    cases r with
    | true =>
      have hq := hiff.1 rfl
      refine .inr ⟨0, [], p, l, ?_, rfl, rfl, hq, rfl, ?_⟩
      · simp [Instr.findNow, hr, h2]
      · simp only [List.find?_cons, hq]
    | false =>
      have hq : k.eqb j p.1 = false := by
        cases hb : k.eqb j p.1 with
        | false => rfl
        | true => exact absurd (hiff.2 hb) (by decide)
      rcases find_map hk hf hd j es l (i + 1) h3 with ⟨g1, g2, g3⟩ | ⟨n, pre, p', post, g1, g2, g3, g4, g6, g5⟩
      · refine .inl ⟨by simp [Instr.findNow, hr, g1], ?_, ?_⟩
        · rw [List.any_cons, hq, g2]; rfl
        · simp only [List.find?_cons, hq, g3]
      · refine .inr ⟨n + 1, p :: pre, p', post, ?_, by rw [g2]; rfl, by simp [g3], g4, by rw [List.any_cons, hq, g6]; rfl, ?_⟩
        · simp [Instr.findNow, hr, g1]; omega
        · simp only [List.find?_cons, hq, g5]
theorem zeroS_val {t : Ty} {z : Option Value} (h : zeroS t z = true) : z = some (encS t t.dflt) := by
  unfold zeroS at h
  split at h
  · simp only [Bool.and_eq_true, decide_eq_true_eq, beq_iff_eq] at h
    rw [h.1, h.2]
    rfl
  · rename_i b
    cases b with
    | true => cases h
    | false => rfl
  · rename_i s
    have : s = ByteArray.empty := by
      obtain ⟨d⟩ := s
      have hd : d.size = 0 := beq_iff_eq.1 h
      have := Array.eq_empty_of_size_eq_zero hd
      subst this; rfl
    rw [this]
    rfl
  · cases h
theorem scal_zero {t : Ty} {T : TypeId} {i : TypeInfo} (hi : P.info? T = some i) (hz : zeroS t i.zero = true) : (zeroValue T).run P w = .ok (encS t t.dflt) w := by
  simp only [zeroValue, typeInfo, program, Sem.run_bind, Sem.run, Result.andThen_ok, hi, zeroS_val hz, Sem.run_pure]
section
variable (hR : Rel P base κ M σ a w) (hC : COk P Γ)
include hR hC
theorem ok_makeMap {o : Oper} {T : TypeId} {r : Option Operand} (hop : o.op = .makeMap T r) : EffOK P κ M w σ a o (eff Γ o σ) := by
  cases r with
  | some r => simp only [eff, hop]; exact ok_fail
  | none =>
    simp only [eff, hop]
    split
    · rename_i k v ht
      split
      · rename_i hc
        simp only [Bool.and_eq_true] at hc
        refine .inr ⟨T, k, v, rfl, hC.mf.symm.trans hc.2, ?_⟩
        simp only [execOp, hop, Instr.makeMap, Option.map_none, Sem.run_bind, run_newObj_alloc, Result.andThen_ok, Sem.run_pure]
      · exact ok_fail
    · exact ok_fail
theorem ok_lookup {o : Oper} {T : TypeId} {x i : Operand} {c : Bool} (hop : o.op = .lookup T x i c) : EffOK P κ M w σ a o (eff Γ o σ) := by
  cases c with
  | true => simp only [eff, hop]; exact ok_fail
  | false =>
    simp only [eff, hop]
    split
    · rename_i b hx
      split
      · rename_i t' k v l own hb
        split
        · rename_i hcond
          obtain ⟨rfl, ht, hk, hv⟩ := hcond
          split
          · rename_i j hj
            obtain ⟨own', hj'⟩ := get_data hj
            have hjv := scal_val hk (data_eval hR hj')
            obtain ⟨tid', k', v', l', own'', g, h1, h2, h3⟩ := opd_rel hR hx
            rw [hb] at h1; cases h1
            obtain ⟨g', es, cl, h4, h5, h6⟩ := map_box (hR.bx b _ hb)
            rw [h2] at h4; simp only [Option.some.injEq] at h4; subst h4
            obtain ⟨K, V, hu, _, _, hfk, hfv, iv, hiv, hz⟩ := map_und (hC.ty T _ ht)
            obtain ⟨ik, dk, hik⟩ := fits_info hfk
            have hck := MapKept.run_checkKey (w := w) hik.und (scal_key hk hfk hik.und j) es.isEmpty 9999
            refine ⟨encS v (mget k v l j), ?_, scal_rel hv _, OwnsC_nil⟩
            rcases find_map hk hfk hik.und j es.toList l 0 h6 with ⟨g1, _, g3⟩ | ⟨n, pre, p, post, g1, g2, g3, g4, _, g5⟩
            · have hfind := MapKept.run_findKey (w := w) hik.und g1
              have hm : mget k v l j = v.dflt := by unfold mget; rw [g3]
              rw [hm]
              simp only [execOp, hop, h3, hjv, Instr.lookup, Sem.run_bind, run_underlying hu, Result.andThen_ok, MapKept.run_getObj_map h5, Sem.run_pure, hck, hfind, scal_zero hiv hz]
              rfl
            · have hfind := MapKept.run_findKey (w := w) hik.und g1
              have hm : mget k v l j = p.2 := by unfold mget; rw [g5]
              rw [hm]
              simp only [execOp, hop, h3, hjv, Instr.lookup, Sem.run_bind, run_underlying hu, Result.andThen_ok, MapKept.run_getObj_map h5, Sem.run_pure, hck, hfind]
              rfl
          · exact ok_fail
        · exact ok_fail
      · exact ok_fail
    · exact ok_fail
omit hR hC in
theorem scal_same {k : Ty} (h : k.scal = true) (x : k.den) (n : Nat) : Instr.sameBits n (encS k x) (encS k x) = true := by
  cases k <;> first | (cases h; done) | skip
  all_goals cases n <;> simp [encS, Instr.sameBits, MapKept.bytes_beq]
omit hR hC in
theorem modify_mid {α : Type} {f : α → α} {e : α} : ∀ {A B : List α}, (A ++ e :: B).modify A.length f = A ++ f e :: B
  | [], _ => rfl
  | a :: A, B => congrArg (a :: ·) modify_mid
omit hR hC in
theorem mput_none {k v : Ty} {j : k.den} {y : v.den} : ∀ {l : List (k.den × v.den)}, (l.any fun p => k.eqb j p.1) = false → mput k v l j y = l ++ [(j, y)]
  | [], _ => rfl
  | p :: l, h => by
    rw [List.any_cons, Bool.or_eq_false_iff] at h
    unfold mput
    rw [h.1, cond_false, mput_none h.2]
    rfl
omit hR hC in
theorem mput_some {k v : Ty} {j : k.den} {y : v.den} {p : k.den × v.den} {post : List (k.den × v.den)} (hp : k.eqb j p.1 = true) : ∀ {pre : List (k.den × v.den)}, (pre.any fun p => k.eqb j p.1) = false → mput k v (pre ++ p :: post) j y = pre ++ (p.1, y) :: post
  | [], _ => by show mput k v (p :: post) j y = _; unfold mput; rw [hp]; rfl
  | q :: pre, h => by
    rw [List.any_cons, Bool.or_eq_false_iff] at h
    show mput k v (q :: (pre ++ p :: post)) j y = _
    unfold mput
    rw [h.1, cond_false, mput_some hp h.2]
    rfl
theorem ok_mapUpdate {o : Oper} {T : TypeId} {x i y : Operand} (hop : o.op = .mapUpdate T x i y) : EffOK P κ M w σ a o (eff Γ o σ) := by
  simp only [eff, hop]
  split
  · rename_i b hx
    split
    · rename_i t' k v l own hb
      split
      · rename_i hcond
        obtain ⟨rfl, ht, hk, hv, hm⟩ := hcond
        have hon : Mf.on = true := hC.mf.symm.trans hm
        split
        · rename_i j z hj hz
          obtain ⟨own', hj'⟩ := get_data hj
          obtain ⟨ownz, hz'⟩ := get_data hz
          have hjv := scal_val hk (data_eval hR hj')
          have hzv := scal_val hv (data_eval hR hz')
          obtain ⟨tid', k', v', l', own'', g, h1, h2, h3⟩ := opd_rel hR hx
          rw [hb] at h1; cases h1
          obtain ⟨g', es, cl, h4, h5, h6⟩ := map_box (hR.bx b _ hb)
          rw [h2] at h4; simp only [Option.some.injEq] at h4; subst h4
          obtain ⟨K, V, hu, _, _, hfk, hfv, _⟩ := map_und (hC.ty T _ ht)
          obtain ⟨ik, dk, hik⟩ := fits_info hfk
          have hck := MapKept.run_checkKey (w := w) hik.und (scal_key hk hfk hik.und j) false 9999
          rcases find_map hk hfk hik.und j es.toList l 0 h6 with ⟨g1, g2, g3⟩ | ⟨n, pre, p, post, g1, g2, g3, g4, g6, g5⟩
          · have hfind := MapKept.run_findKey (w := w) hik.und g1
            refine .inr ⟨T, k, v, l, _, own, g, es, es.push { key := encS k j, val := encS v z, born := cl }, cl, cl + 1, hon, hb, rfl, h2, h5, ?_, ?_⟩
            · simp only [execOp, hop, h3, hjv, hzv, Instr.mapUpdate, Sem.run_bind, run_underlying hu, Result.andThen_ok, MapKept.run_getObj_map h5, hck, hfind, MapKept.run_setObj_map _ h5, Sem.run_pure]
              rfl
            · rw [mput_none g2]
              unfold relMap at h6 ⊢
              rw [Array.toList_push, List.map_append, List.map_append, h6]
              rfl
          · have hfind := MapKept.run_findKey (w := w) hik.und g1
            have hkey : encS k p.1 = encS k j := ((scal_inj hk j p.1).1 g4).symm
            unfold relMap at h6
            rw [g2, List.map_append, List.map_cons] at h6
            obtain ⟨A, B, hAB, hA, hB⟩ := List.map_eq_append_iff.1 h6
            obtain ⟨e, B', rfl, he, hB'⟩ := List.map_eq_cons_iff.1 hB
            have hlen : A.length = n := by
              have := congrArg List.length hA
              simp only [List.length_map] at this
              omega
            have hget : es[n]? = some e := by
              rw [← Array.getElem?_toList, hAB, List.getElem?_append_right (by omega), hlen, Nat.sub_self]
              rfl
            simp only [Prod.mk.injEq] at he
            refine .inr ⟨T, k, v, l, _, own, g, es, es.modify n fun e => { e with key := encS k j, val := encS v z }, cl, cl, hon, hb, rfl, h2, h5, ?_, ?_⟩
            · rw [Nat.zero_add] at hfind
              simp only [execOp, hop, h3, hjv, hzv, Instr.mapUpdate, Sem.run_bind, run_underlying hu, Result.andThen_ok, MapKept.run_getObj_map h5, hck, hfind, hget, Option.map_some, Option.getD_some, he.1, hkey, Instr.keyThatStays, scal_same hk, if_true, MapKept.run_setObj_map _ h5, Sem.run_pure]
              rfl
            · rw [g2, mput_some g4 g6]
              unfold relMap
              rw [Array.toList_modify, hAB, ← hlen, modify_mid, List.map_append, List.map_cons, hA, hB', List.map_append, List.map_cons, hkey]
        · exact ok_fail
      · exact ok_fail
    · exact ok_fail
  · exact ok_fail
end
end Go.Lift
namespace Go.Lift
open Go Go.RowKit
variable [Tab] [Mf]
variable {P : Program} {Γ : Ctx} {base : Nat} {κ : Nat → Option Nat} {M : Mem} {σ : St} {a : Act} {w : World}
theorem relRows_append {e : Ty} {l m : List e.den} {cs ds : List Value} (h : relRows P e M l cs) (k : relRows P e M m ds) : relRows P e M (l ++ m) (cs ++ ds) := by
  have hl := h.1
  have hk := k.1
  refine ⟨by simp only [List.length_append, hl, hk, Nat.add_mul], fun i hi => ?_⟩
  simp only [List.length_append] at hi
  by_cases hil : i < l.length
  · have hle : (i + 1) * e.size ≤ l.length * e.size := Nat.mul_le_mul_right _ hil
    simp only [Nat.add_mul, Nat.one_mul] at hle
    rw [List.getElem_append_left hil, List.drop_append_of_le_length (by omega), List.take_append_of_le_length (by rw [List.length_drop]; omega)]
    exact h.2 i hil
  · have hge : l.length * e.size ≤ i * e.size := Nat.mul_le_mul_right _ (by omega)
    rw [List.getElem_append_right (by omega), List.drop_append, List.drop_of_length_le (by omega), List.nil_append, hl, ← Nat.sub_mul]
    exact k.2 (i - l.length) (by omega)
theorem relRows_mono {e : Ty} {l : List e.den} {cs : List Value} {M' : Mem} (hM : Mem.le M M') (h : relRows P e M l cs) : relRows P e M' l cs :=
  ⟨h.1, fun i hi => relC_mono e hM _ _ (h.2 i hi)⟩
theorem relRows_one {e : Ty} {l : List e.den} {cs : List Value} (h : relRows P e M l cs) : ∀ u ∈ cs, u.oneCell' = true :=
  relC_one (.arr l.length e) (fun i => l.getD i e.dflt) cs ⟨h.1, fun i hi => by
    have := h.2 i hi
    simpa [List.getD_eq_getElem?_getD, List.getElem?_eq_getElem hi] using this⟩ (P := P) (M := M)
theorem relV_slice {e : Ty} {l : List e.den} {v : Value} (h : relV P (.slice e) M l v) :
    (v = .slice none 0 0 ∧ l = []) ∨ (∃ b off cap cells, v = .slice (some ⟨b, off, none⟩) l.length cap ∧ l.length ≤ cap ∧ M.has b off cells ∧ relRows P e M l cells) ∨ ∃ a cap, v = .slice (some a) 0 cap ∧ l = [] := by
  unfold relV viaCells at h
  simp only [Ty.agg, Bool.false_eq_true, if_false, relC] at h
  obtain ⟨u, hu, h⟩ := h
  simp only [List.cons.injEq, and_true] at hu; subst hu
  rcases h with h | ⟨b, off, cap, cells, h1, h2, h3, h4, h5⟩ | h
  · exact .inl h
  · exact .inr (.inl ⟨b, off, cap, cells, h1, h2, h4, h3, h5⟩)
  · exact .inr (.inr h)
theorem relV_slice2 {e : Ty} {l : List e.den} {v : Value} (h : relV P (.slice e) M l v) :
    ((v = .slice none 0 0 ∨ ∃ a cap, v = .slice (some a) 0 cap) ∧ l = []) ∨ ∃ b off cap cells, v = .slice (some ⟨b, off, none⟩) l.length cap ∧ l.length ≤ cap ∧ M.has b off cells ∧ relRows P e M l cells := by
  rcases relV_slice h with ⟨h, hl⟩ | h | ⟨a, cap, h, hl⟩
  · exact .inl ⟨.inl h, hl⟩
  · exact .inr h
  · exact .inl ⟨.inr ⟨a, cap, h⟩, hl⟩
theorem relV_slice_own {tk : Nat → Bool} {size : Nat} {s : Option Nat} {e : Ty} {l : List e.den} {v : Value} (h : relV P (.slice e) M l v) (ho : OwnV κ M w tk size s v) :
    (v = .slice none 0 0 ∧ l = []) ∨ ∃ b off cap cells, v = .slice (some ⟨b, off, none⟩) l.length cap ∧ l.length ≤ cap ∧ M.has b off cells ∧ relRows P e M l cells := by
  rcases relV_slice h with h | h | ⟨ad, cap, hv, hl⟩
  · exact .inl h
  · exact .inr h
  · subst hl
    have key : ∀ g n cap', v = .slice (some ⟨g, 0, none⟩) n cap' → ∃ b off cap cells, v = .slice (some ⟨b, off, none⟩) ([] : List e.den).length cap ∧ ([] : List e.den).length ≤ cap ∧ M.has b off cells ∧ relRows P e M ([] : List e.den) cells := fun g n cap' e2 => by
      rw [hv] at e2
      injection e2 with e3 e4 e5
      injection e3 with e3
      subst e3
      exact ⟨g, 0, cap, [], hv, Nat.zero_le _, fun j u hj => by simp at hj, by simp, fun i hi => absurd hi (Nat.not_lt_zero _)⟩
    cases s with
    | none =>
      have : v = .slice none 0 0 := ho
      rw [hv] at this; cases this
    | some k =>
      rcases ho.2 with e1 | ⟨g, n, cap', _, e1, _⟩
      · rw [hv] at e1; cases e1
      · exact .inr (key g n cap' e1)
theorem relV_slice_mk {e : Ty} {l : List e.den} {b off cap : Nat} {cells : List Value} (hc : l.length ≤ cap) (hm : M.has b off cells) (hr : relRows P e M l cells) : relV P (.slice e) M l (.slice (some ⟨b, off, none⟩) l.length cap) := by
  unfold relV viaCells
  simp only [Ty.agg, Bool.false_eq_true, if_false, relC]
  exact ⟨_, rfl, .inr (.inl ⟨b, off, cap, cells, rfl, hc, hr.1, hm, hr.2⟩)⟩
theorem relV_slice_nil {e : Ty} : relV P (.slice e) M [] (.slice none 0 0) := by
  unfold relV viaCells
  simp only [Ty.agg, Bool.false_eq_true, if_false, relC]
  exact ⟨_, rfl, .inl ⟨rfl, trivial⟩⟩
theorem ownTop_mem : ∀ {o : Own} {s : Option Nat}, ownTop o = some s → ([], s) ∈ o
  | ([], s') :: r, s, h => by simp only [ownTop, Option.some.injEq] at h; subst h; simp
  | (_ :: _, _) :: r, s, h => by
    simp only [ownTop] at h
    exact List.mem_cons_of_mem _ (ownTop_mem h)
theorem good_turn {w' : World} {M' : Mem} {g : Nat} (hg : Good M w) (hb : ∀ j, j ≠ g → j < w.heap.size → w'.heap[j]? = w.heap[j]?) (hm : ∀ j, j ≠ g → M' j = M j) (hn : ∀ o v, M' g o = some v → w'.cell? ⟨g, o, none⟩ = some v) (hle : Mem.le M M') (hsz : ∀ (c : Array Value) (t : TypeId) (fr : Nat × Nat), w.heap[g]? = some (.cells c t fr) → ∃ c' fr', w'.heap[g]? = some (.cells c' t fr') ∧ c'.size = c.size) : Good M' w' := by
  refine ⟨Tab.keep hle (fun j c t fr h => ?_) hg.1, ?_⟩
  · by_cases hj : j = g
    · subst hj; exact hsz c t fr h
    · exact ⟨c, fr, by rw [hb j hj (Array.getElem?_eq_some_iff.1 h).1]; exact h, rfl⟩
  intro b o v h
  by_cases hbg : b = g
  · subst hbg; exact hn o v h
  · rw [hm b hbg] at h
    have hc := hg.2 b o v h
    have hlt := World.block_lt_of_cell? w _ hc
    rw [World.cell?_of_block (w := w) (hb b hbg hlt)]
    exact hc
theorem fresh_sz {w w' : World} (c : Array Value) (t : TypeId) (fr : Nat × Nat) (h : w.heap[w.heap.size]? = some (.cells c t fr)) : ∃ c' fr', w'.heap[w.heap.size]? = some (.cells c' t fr') ∧ c'.size = c.size := by
  simp at h
theorem mem_new (hg : Good M w) (o : Nat) : M w.heap.size o = none := by
  cases h : M w.heap.size o with
  | none => rfl
  | some v =>
    have := World.block_lt_of_cell? w _ (hg.2 _ _ _ h)
    exact absurd this (Nat.lt_irrefl _)
theorem cell_block {g o : Nat} {cur : Array Value} {E : TypeId} {fr : Nat × Nat} (h : w.heap[g]? = some (.cells cur E fr)) : w.cell? ⟨g, o, none⟩ = cur[o]? := by
  simp only [World.cell?, h, Option.isSome_none, Bool.false_eq_true, if_false]
theorem run_append_tip (w : World) (t ty e E : TypeId) (i : TypeInfo) (ht : P.underlying t = some (.slice e)) (hi : P.info? e = some i)
    (g sLen sCap : Nat) (cur : Array Value) (hg : w.heap[g]? = some (.cells cur E (0, 0)))
    (a : Addr) (m c : Nat) (news : List Value) (hl : news.length = m * i.size) (hnews : ∀ j u, news[j]? = some u → w.cell? (a.add j) = some u) (h1 : ∀ u ∈ news, u.oneCell' = true)
    (hroom : sLen + m ≤ sCap) (hfit : sLen * i.size + news.length ≤ cur.size) :
    (Builtin.append_ #[t, t] ty #[.slice (some ⟨g, 0, none⟩) sLen sCap, .slice (some a) m c]).run P w =
      .ok (.slice (some ⟨g, 0, none⟩) (sLen + m) sCap) (w.setRow g (cur.toList.take (sLen * i.size) ++ news ++ cur.toList.drop (sLen * i.size + news.length)).toArray) := by
  have hf := run_firstCells_some (P := P) w i.size m a m c news hl hnews
  have hst := run_storeCells_at P g (sLen * i.size) E news 0 cur w hg (by simpa using hfit) h1
  simp only [Nat.add_zero] at hst
  simp [Builtin.append_, run_underlying ht, sizeOf, typeInfo, hi, Builtin.lenOf, hroom, hf, Addr.add_lit, hst]
section ops
variable (hR : Rel P base κ M σ a w) (hC : COk P Γ)
include hR hC
theorem ok_append {o : Oper} {c : Call} (hop : o.op = .call c) (hcal : c.callee = .builtin .append) : EffOK P κ M w σ a o (eff Γ o σ) := by
  simp only [eff, hop, hcal]
  split
  · rename_i x y T U hx hT
    have hargs : c.args = #[x, y] := by apply Array.ext'; rw [hx]
    have htys : c.argTypes = #[T, U] := by apply Array.ext'; rw [hT]
    split
    · rename_i e l ow e' m0 ow' hxv hyv
      split
      · rename_i hc
        obtain ⟨ht, rfl, hp, hsz⟩ := hc
        split
        · rename_i m src hm' hsrc
          obtain ⟨he, hm2⟩ := castTy_some hm'
          cases he
          subst hm2
          intro hlen
          obtain ⟨E, hE, hfE⟩ := fits_slice (hC.ty T _ ht)
          obtain ⟨iE, dE, hiE⟩ := fits_info hfE
          obtain ⟨z, hz, hz1, _⟩ := hiE.zero hp
          have hby := hiE.bytes
          have hzs : z.cells.size = e.size := by have := relC_len e M _ _ (hz1 M); simpa using this
          have hxr := opd_rel hR hxv
          have hyr := data_eval hR hyv
          have hown := hxr.2 [] src (ownTop_mem hsrc)
          have hown : OwnV κ M w σ.tok e.size src (a.eval x) := by
            obtain ⟨off, e2, v, h1, h2, h3, h4⟩ := hown
            simp only [offV, Option.some.injEq] at h1; subst h1
            simp only [Ty.atP, Option.some.injEq, Ty.slice.injEq] at h2; subst h2
            have : (a.eval x).cells.toList = [a.eval x] := by
              rcases relV_slice hxr.1 with ⟨hv, _⟩ | ⟨_, _, _, _, hv, _⟩ | ⟨_, _, hv, _⟩ <;> rw [hv] <;> rfl
            rw [this] at h3
            simp only [List.getElem?_cons_zero, Option.some.injEq] at h3; subst h3
            exact h4
          have hrun : (execOp a.eval o).run P w = ((Builtin.append_ #[T, T] o.type #[a.eval x, a.eval y]).run P w).andThen (fun v w' => .ok (.value v) w') := by
            simp [execOp, hop, resolve, hcal, hargs, htys, invoke, builtin]
          have hxs := relV_slice_own hxr.1 hown
          rcases relV_slice2 hyr with ⟨hyn, rfl⟩ | ⟨b, off, cp, news, hya, hcp, hnm, hnr⟩
          · 
            rw [List.append_nil]
            rcases hxs with ⟨hxn, rfl⟩ | ⟨b, off, cap, olds, hxa, hcap, hom, hor⟩
            · refine ⟨.slice none 0 0, w, M, ?_, hR.good, Mem.le_refl M, relV_slice_nil, Below.refl 0 w, .inl ⟨rfl, rfl, rfl⟩⟩
              rcases hyn with hyn | ⟨ad, cp, hyn⟩
              · rw [hrun, hxn, hyn]
                simp [Builtin.append_, run_underlying hE, sizeOf, typeInfo, hiE.info, Builtin.lenOf, Builtin.firstCells]
              · rw [hrun, hxn, hyn]
                simp [Builtin.append_, run_underlying hE, sizeOf, typeInfo, hiE.info, Builtin.lenOf, Builtin.firstCells, loadCells, loadCellsFrom]
            · refine ⟨a.eval x, w, M, ?_, hR.good, Mem.le_refl M, hxr.1, Below.refl 0 w, .inr ?_⟩
              · rcases hyn with hyn | ⟨ad, cp, hyn⟩
                · rw [hrun, hxa, hyn]
                  simp [Builtin.append_, run_underlying hE, sizeOf, typeInfo, hiE.info, Builtin.lenOf, Builtin.firstCells, hcap, storeCells]
                · rw [hrun, hxa, hyn]
                  simp [Builtin.append_, run_underlying hE, sizeOf, typeInfo, hiE.info, Builtin.lenOf, Builtin.firstCells, hcap, storeCells, loadCells, loadCellsFrom]
              · cases src with
                | none => simp only [OwnV] at hown; rw [hown] at hxa; cases hxa
                | some k =>
                  obtain ⟨htk, hown⟩ := hown
                  rcases hown with hown | ⟨g, n, cap', hk, hv, hblk⟩
                  · rw [hown] at hxa; cases hxa
                  · exact ⟨g, n, cap', hv, hblk, .inr ⟨k, rfl, hk, htk, fun o ho => (by obtain ⟨_, _, hb1, _⟩ := hblk; rw [hb1] at ho; cases ho; rfl)⟩, fun _ _ _ => rfl, fun _ _ => rfl⟩
          · 
            have hns : news.length = m.length * iE.size := by rw [hiE.size]; exact hnr.1
            have hnews : ∀ j u, news[j]? = some u → w.cell? ((⟨b, off, none⟩ : Addr).add j) = some u := fun j u hj => by rw [Addr.add_mk]; exact hasCells_good hR.good hnm j u hj
            have hone := relRows_one hnr
            have fresh : ∀ (olds : List Value) (old : Nat), relRows P e M l olds → ∀ v w', (execOp a.eval o).run P w = .ok (.value v) w' →
                w' = w.drew.alloc (.cells (olds.toArray ++ news.toArray ++ Builtin.zeroCells z.cells (grownCap w (l.length + m.length) old E - (l.length + m.length))) E) →
                v = .slice (some ⟨w.heap.size, 0, none⟩) (l.length + m.length) (grownCap w (l.length + m.length) old E) →
                ∃ v w' M', (execOp a.eval o).run P w = .ok (.value v) w' ∧ Good M' w' ∧ Mem.le M M' ∧ relV P (.slice e) M' (l ++ m) v ∧ Below 0 w w' ∧
                  ((v = .slice none 0 0 ∧ w' = w ∧ M' = M) ∨ ∃ g n cap, v = .slice (some ⟨g, 0, none⟩) n cap ∧ OwnBlk M' w' e.size g n cap ∧ (g = w.heap.size ∨ ∃ k, src = some k ∧ κ k = some g ∧ σ.tok k = true ∧ ∀ o : Obj, w.heap[g]? = some o → isC o = true) ∧
                    (∀ j, j ≠ g → j < w.heap.size → w'.heap[j]? = w.heap[j]?) ∧ ∀ j, j ≠ g → M' j = M j) := by
              intro olds old hor v w' hr hw' hv'
              subst hw' hv'
              have hrows := relRows_append hor hnr
              have hnew : (w.drew.alloc (.cells (olds.toArray ++ news.toArray ++ Builtin.zeroCells z.cells (grownCap w (l.length + m.length) old E - (l.length + m.length))) E)).heap[w.heap.size]? = some (.cells (olds.toArray ++ news.toArray ++ Builtin.zeroCells z.cells (grownCap w (l.length + m.length) old E - (l.length + m.length))) E (0, 0)) := heap_alloc_new w.drew _
              have hold : ∀ j, j ≠ w.heap.size → j < w.heap.size → (w.drew.alloc (.cells (olds.toArray ++ news.toArray ++ Builtin.zeroCells z.cells (grownCap w (l.length + m.length) old E - (l.length + m.length))) E)).heap[j]? = w.heap[j]? := fun j _ hj => old_alloc w.drew _ j hj
              have hle : Mem.le M (fun b o => if b = w.heap.size then (olds ++ news)[o]? else M b o) := by
                intro b o v h
                by_cases hb : b = w.heap.size
                · subst hb; rw [mem_new hR.good] at h; cases h
                · simp only [if_neg hb]; exact h
              have hge := grownCap_ge w (l.length + m.length) old E
              refine ⟨_, _, fun b o => if b = w.heap.size then (olds ++ news)[o]? else M b o, hr, good_turn hR.good hold (fun j hj => by funext o; simp only [if_neg hj]) (fun o v h => ?_) hle fresh_sz, hle, ?_, ?_, .inr ⟨w.heap.size, _, _, rfl, ⟨_, E, hnew, ?_, hge, grownCap_le_maxLen w _ old E (by unfold maxLen; omega), fun o ho => ?_⟩, .inl rfl, hold, fun j hj => by funext o; simp only [if_neg hj]⟩⟩
              · rw [cell_block hnew]
                simp only [if_true] at h
                have hlt := (List.getElem?_eq_some_iff.1 h).1
                rw [Array.getElem?_append_left (by simpa using hlt)]
                simpa using h
              · have := relV_slice_mk (P := P) (M := fun b o => if b = w.heap.size then (olds ++ news)[o]? else M b o) (l := l ++ m) (b := w.heap.size) (off := 0) (cap := grownCap w (l.length + m.length) old E) (by simpa using hge) (fun j u hj => by simp only [if_true, Nat.zero_add]; exact hj) (relRows_mono hle hrows)
                simpa using this
              · exact ⟨rfl, rfl, rfl, by simp, fun k hk => absurd hk (Nat.not_lt_zero _)⟩
              · have h1 := hor.1
                have h2 := hnr.1
                simp only [Array.size_append, List.size_toArray, size_zeroCells, hzs, h1, h2, ← Nat.add_mul]
                congr 1; omega
              · simp only [if_true]
                have := hrows.1
                rw [List.getElem?_eq_none (by rw [this]; simpa using ho)]
            have hb47 : (l.length + m.length) * iE.bytes ≤ 140737488355328 := by
              have := Nat.mul_le_mul hlen hby
              omega
            rcases hxs with ⟨hxn, rfl⟩ | ⟨b', off', cap, olds, hxa, hcap, hom, hor⟩
            · by_cases hm0 : m.length = 0
              · have hmn := List.eq_nil_of_length_eq_zero hm0
                subst hmn
                have hnn : news = [] := List.eq_nil_of_length_eq_zero (by simpa using hns)
                subst hnn
                refine ⟨.slice none 0 0, w, M, ?_, hR.good, Mem.le_refl M, relV_slice_nil, Below.refl 0 w, .inl ⟨rfl, rfl, rfl⟩⟩
                rw [hrun, hxn, hya]
                simp [Builtin.append_, run_underlying hE, sizeOf, typeInfo, hiE.info, Builtin.lenOf, Builtin.firstCells, loadCells, loadCellsFrom]
              · have hr := run_append_nil (P := P) w T o.type E iE z hE hiE.info hz ⟨b, off, none⟩ m.length cp news hns hnews (by omega) (by simp only [List.length_nil] at hlen; omega) (by simp only [List.length_nil, Nat.zero_add] at hb47; omega)
                refine fresh [] 0 ⟨by simp, fun i hi => absurd hi (Nat.not_lt_zero _)⟩ _ _ ?_ rfl rfl
                rw [hrun, hxn, hya, hr]
                simp
            · cases src with
              | none => simp only [OwnV] at hown; rw [hown] at hxa; cases hxa
              | some k =>
                obtain ⟨htk, hown⟩ := hown
                rcases hown with hown | ⟨g, n, cap', hk, hv, cur, E', hblk1, hblk2, hblk3, hblk4, hblk5⟩
                · rw [hown] at hxa; cases hxa
                · have heq := hxa.symm.trans hv
                  simp only [Value.slice.injEq, Option.some.injEq, Addr.mk.injEq, and_true] at heq
                  obtain ⟨⟨rfl, rfl⟩, rfl, rfl⟩ := heq
                  have hos := hor.1
                  by_cases hroom : l.length + m.length ≤ cap
                  · have hfit : l.length * iE.size + news.length ≤ cur.size := by rw [hns, hblk2, hiE.size, ← Nat.add_mul]; exact Nat.mul_le_mul_right _ hroom
                    have hr := run_append_tip (P := P) w T o.type E E' iE hE hiE.info b' l.length cap cur hblk1 ⟨b, off, none⟩ m.length cp news hns hnews hone hroom hfit
                    have hcells : (cur.toList.take (l.length * iE.size) ++ news ++ cur.toList.drop (l.length * iE.size + news.length)) = splice cur.toList (l.length * iE.size) news := rfl
                    rw [hcells] at hr
                    have hsp : (splice cur.toList (l.length * iE.size) news).length = cur.size := by rw [length_splice (by simpa using hfit)]; simp
                    rw [hiE.size] at hr hsp hfit
                    have hset := setRow_heap w b' cur (splice cur.toList (l.length * e.size) news).toArray E' (0, 0) hblk1
                    have hns' : news.length = m.length * e.size := hnr.1
                    let M' : Mem := fun b o => if b = b' then (if o < l.length * e.size then M b' o else news[o - l.length * e.size]?) else M b o
                    have hle : Mem.le M M' := by
                      intro b o v h
                      show (if b = b' then _ else _) = _
                      by_cases hb : b = b'
                      · subst hb
                        rw [if_pos rfl]
                        by_cases ho : o < l.length * e.size
                        · rw [if_pos ho]; exact h
                        · rw [hblk5 o (by omega)] at h; cases h
                      · rw [if_neg hb]; exact h
                    have hne : ∀ j, j ≠ b' → M' j = M j := fun j hj => by funext o; exact if_neg hj
                    have hM'g : ∀ o, M' b' o = if o < l.length * e.size then M b' o else news[o - l.length * e.size]? := fun o => if_pos rfl
                    refine ⟨_, _, M', by rw [hrun, hxa, hya, hr]; rfl, good_turn hR.good (g := b') (fun j hj hlt => setRow_other w b' j _ hj) hne (fun o v h => ?_) hle (fun c t fr h => by
                      rw [hblk1] at h
                      obtain ⟨rfl, rfl, rfl⟩ : cur = c ∧ E' = t ∧ _ = fr := by simpa using h
                      exact ⟨_, _, hset, by simpa using hsp⟩), hle, ?_, ?_, .inr ⟨b', _, cap, rfl, ⟨_, E', hset, ?_, hroom, hblk4, fun o ho => ?_⟩, .inr ⟨k, rfl, hk, htk, fun o ho => (by rw [hblk1] at ho; cases ho; rfl)⟩, fun j hj hlt => setRow_other w b' j _ hj, hne⟩⟩
                    · rw [cell_block hset]
                      rw [hM'g] at h
                      rw [← Array.getElem?_toList, getElem?_splice _ _ _ _ (by simpa using hfit)]
                      split at h
                      · rename_i ho
                        rw [if_neg (by omega)]
                        have := hR.good.2 b' o v h
                        rw [cell_block hblk1] at this
                        simpa using this
                      · rename_i ho
                        have := (List.getElem?_eq_some_iff.1 h).1
                        rw [if_pos (by omega)]; exact h
                    · have := relV_slice_mk (P := P) (M := M') (l := l ++ m) (b := b') (off := 0) (cap := cap) (cells := olds ++ news) (by simpa using hroom) (fun j u hj => by
                        rw [Nat.zero_add, hM'g]
                        by_cases hj' : j < olds.length
                        · rw [List.getElem?_append_left hj'] at hj
                          rw [if_pos (by omega)]
                          have := hom j u hj
                          rwa [Nat.zero_add] at this
                        · rw [List.getElem?_append_right (by omega)] at hj
                          rw [if_neg (by omega), ← hos]; exact hj) (relRows_mono hle (relRows_append hor hnr))
                      simpa using this
                    · exact ⟨rfl, rfl, rfl, by simp [World.setRow], fun k hk => absurd hk (Nat.not_lt_zero _)⟩
                    · simpa [hsp] using hblk2
                    · rw [hM'g]
                      simp only [Nat.add_mul] at ho
                      rw [if_neg (by omega), List.getElem?_eq_none (by omega)]
                  · have holds : ∀ j v, olds[j]? = some v → w.cell? ((⟨b', 0, none⟩ : Addr).add j) = some v := fun j u hj => by rw [Addr.add_mk]; exact hasCells_good hR.good hom j u hj
                    have hr := run_append_grow (P := P) w T o.type E iE z hE hiE.info hz ⟨b', 0, none⟩ l.length cap olds (by rw [hiE.size]; exact hos) holds ⟨b, off, none⟩ m.length cp news hns hnews (by omega) (by omega) (growslice_fits (by omega) hb47)
                    refine fresh olds cap hor _ _ ?_ rfl rfl
                    rw [hrun, hxa, hya, hr]
                    rfl
        · exact ok_fail
      · exact ok_fail
    · exact ok_fail
  · exact ok_fail
theorem ok_eff (o : Oper) : EffOK P κ M w σ a o (eff Γ o σ) := by
  have hf : ∀ {e : Eff}, e = .fail → EffOK P κ M w σ a o e := fun h => by rw [h]; exact ok_fail
  cases hop : o.op
  case move x => exact ok_move hR (.inl hop)
  case assign x => exact ok_move hR (.inr hop)
  case pick c x y => exact ok_pick hR hop
  case alloc T => exact ok_alloc hC hop
  case box T x => exact ok_box hR hop
  case build T ps => exact ok_build hR hC hop
  case buildSlice T n ps => exact ok_buildSlice hR hC hop
  case load T x => exact ok_load hR hC hop
  case store T x y => exact ok_store hR hC hop
  case binOp op T x y U => exact ok_binOp hR hC hop
  case unOp op T x => exact ok_unOp hR hop
  case convert S T x => exact ok_convert hR hC hop
  case makeSlice T n c => exact ok_makeSlice hR hC hop
  case slice T x lo hi mx =>
    cases mx with
    | none => exact ok_slice hR hC hop
    | some m => exact hf (by simp only [eff, hop])
  case fieldAddr s x f => exact ok_fieldAddr hR hC hop
  case field s x f => exact ok_field hR hC hop
  case indexAddr T x i => exact ok_indexAddr hR hC hop
  case index T x i => exact ok_index hR hC hop
  case extract x i => exact ok_extract hR hop
  case nilCheck x => exact ok_nilCheck hR hop
  case makeMap T r => exact ok_makeMap hR hC hop
  case lookup T x i c => exact ok_lookup hR hC hop
  case mapUpdate T x i y => exact ok_mapUpdate hR hC hop
  case makeFunc fn fs caps =>
    cases fn with
    | func g => exact ok_makeFunc hR hop
    | _ => exact hf (by simp only [eff, hop])
  case call c =>
    cases hcal : c.callee with
    | value x =>
      by_cases hx : ∃ f, x = .func f
      · obtain ⟨f, rfl⟩ := hx; exact ok_callFn hR hC hop hcal
      · exact ok_callDyn hR hC hop hcal (fun f h => hx ⟨f, h⟩)
    | builtin b =>
      cases b
      case len => exact ok_len hR hC hop hcal
      case max => exact ok_max hR hop hcal
      case min => exact ok_min hR hop hcal
      case append => exact ok_append hR hC hop hcal
      all_goals exact hf (by simp only [eff, hop, hcal])
    | invoke r n => exact hf (by simp only [eff, hop, hcal])
  all_goals exact hf (by simp only [eff, hop])
end ops
end Go.Lift
