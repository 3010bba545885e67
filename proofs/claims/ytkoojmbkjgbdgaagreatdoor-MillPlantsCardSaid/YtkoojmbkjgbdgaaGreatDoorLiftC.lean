/-
  Single operations, first part.
-/
import Derived.Test.YtkoojmbkjgbdgaaGreatDoorLiftB
import Derived.Laws.CopyRow
import Derived.Laws.Cells
import Derived.Laws.Entries
set_option linter.unusedSectionVars false
set_option linter.unusedVariables false
set_option linter.unusedSimpArgs false
namespace Go.Lift
open Go Go.RowKit
variable [Tab] [Mf]
variable {P : Program}
def repeatB (f : List Value → Option (List Value)) : Nat → List Value → Option (List Value)
  | 0, cs => some cs
  | n + 1, cs => match f cs with
    | some r => repeatB f n r
    | none => none
def zeroB : Ty → List Value → Option (List Value)
  | .int k, .int k' n :: r => if k = k' ∧ n = 0 then some r else none
  | .bool, .bool false :: r => some r
  | .str, .string s :: r => if s.size = 0 then some r else none
  | .unit, r => some r
  | .err, .nilIface :: r => some r
  | .one t, cs => zeroB t cs
  | .pair a b, cs => match zeroB a cs with
    | some r => zeroB b r
    | none => none
  | .arr n e, cs => repeatB (zeroB e) n cs
  | .slice _, .slice none 0 0 :: r => some r
  | _, _ => none
def zeroS : Ty → Option Value → Bool
  | .int k, some (.int k' n) => decide (k = k') && n == 0
  | .bool, some (.bool b) => !b
  | .str, some (.string s) => s.size == 0
  | _, _ => false
def isNilV : List Value → Bool
  | [] => true
  | _ => false
def fits (P : Program) : Ty → Sum TypeId (List Field × Nat) → Bool
  | t, .inl T => match P.info? T, P.underlying T with
    | some i, some d => Nat.beq i.size t.size && Nat.ble i.bytes 32768 &&
      (!t.plain || (match i.zero with | some z => (match zeroB t z.cells.toList with | some r => isNilV r | none => false) | none => false)) &&
      (match t, d with
      | .int k, .int k' => decide (k = k')
      | .bool, .bool => true
      | .str, .string => true
      | .err, .interface _ => true
      | .unit, .struct fs => Nat.beq fs.size 0
      | .slice e, .slice E => fits P e (.inl E)
      | .arr n e, .array m E => Nat.beq n m && fits P e (.inl E)
      | .one t, .struct fs => (match fs.toList with | [f] => Nat.beq f.offset 0 && fits P t (.inl f.type) | _ => false)
      | .pair a b, .struct fs => (match fs.toList with
        | f :: g :: [] => Nat.beq f.offset 0 && fits P a (.inl f.type) && Nat.beq g.offset a.size && fits P b (.inl g.type)
        | f :: g :: h :: r => Nat.beq f.offset 0 && fits P a (.inl f.type) && fits P b (.inr (g :: h :: r, a.size))
        | _ => false)
      | .fn _ _, .func .. => true
      | .seq _, .func .. => true
      | .mapT k v, .map K V => k.scal && v.scal && fits P k (.inl K) && fits P v (.inl V) && (match P.info? V with | some i => zeroS v i.zero | none => false)
      | _, _ => false)
    | _, _ => false
  | .pair a b, .inr (f :: g :: [], off) => Nat.beq f.offset off && fits P a (.inl f.type) && Nat.beq g.offset (off + a.size) && fits P b (.inl g.type)
  | .pair a b, .inr (f :: g :: h :: r, off) => Nat.beq f.offset off && fits P a (.inl f.type) && fits P b (.inr (g :: h :: r, off + a.size))
  | _, .inr _ => false
theorem repeatB_spec {R : List Value → Prop} {f : List Value → Option (List Value)} {s : Nat} (hf : ∀ cs r, f cs = some r → ∃ zs, cs = zs ++ r ∧ zs.length = s ∧ R zs) :
    ∀ (n : Nat) (cs r : List Value), repeatB f n cs = some r → ∃ zs, cs = zs ++ r ∧ zs.length = n * s ∧ ∀ i, i < n → R ((zs.drop (i * s)).take s)
  | 0, cs, r, h => by simp only [repeatB, Option.some.injEq] at h; subst h; exact ⟨[], rfl, by simp, fun i hi => absurd hi (Nat.not_lt_zero _)⟩
  | n + 1, cs, r, h => by
    simp only [repeatB] at h
    split at h
    · rename_i r1 h1
      obtain ⟨z1, e1, l1, p1⟩ := hf cs r1 h1
      obtain ⟨z2, e2, l2, p2⟩ := repeatB_spec hf n r1 r h
      refine ⟨z1 ++ z2, by rw [e1, e2, List.append_assoc], by simp [l1, l2, Nat.add_mul]; omega, fun i hi => ?_⟩
      cases i with
      | zero => rw [Nat.zero_mul, List.drop_zero, List.take_append_of_le_length (by omega), List.take_of_length_le (by omega)]; exact p1
      | succ i =>
        have := p2 i (by omega)
        rw [List.drop_append]
        have h0 : z1.drop ((i + 1) * s) = [] := List.drop_of_length_le (by rw [l1, Nat.add_mul]; omega)
        rw [h0, List.nil_append, l1, show (i + 1) * s - s = i * s by rw [Nat.add_mul]; omega]
        exact this
    · cases h
theorem zeroB_rel (M : Mem) : ∀ (t : Ty) (cs r : List Value), t.plain = true → zeroB t cs = some r → ∃ zs, cs = zs ++ r ∧ relC P t M t.dflt zs
  | .int k, cs, r, _, h => by
    match cs, h with
    | .int k' n :: r', h =>
      simp only [zeroB] at h
      split at h
      · rename_i hk; simp only [Option.some.injEq] at h; subst h; obtain ⟨rfl, rfl⟩ := hk; exact ⟨[_], rfl, rfl⟩
      · cases h
  | .bool, cs, r, _, h => by
    match cs, h with
    | .bool false :: r', h => simp only [zeroB, Option.some.injEq] at h; subst h; exact ⟨[_], rfl, rfl⟩
  | .str, cs, r, _, h => by
    match cs, h with
    | .string s :: r', h =>
      simp only [zeroB] at h
      split at h
      · rename_i hs; simp only [Option.some.injEq] at h; subst h
        refine ⟨[_], rfl, ?_⟩
        have : s = ByteArray.empty := by
          obtain ⟨d⟩ := s
          have hd : d.size = 0 := hs
          have := Array.eq_empty_of_size_eq_zero hd
          subst this; rfl
        subst this; rfl
      · cases h
  | .unit, cs, r, _, h => by simp only [zeroB, Option.some.injEq] at h; subst h; exact ⟨[], rfl, rfl⟩
  | .err, cs, r, _, h => by
    match cs, h with
    | .nilIface :: r', h => simp only [zeroB, Option.some.injEq] at h; subst h; exact ⟨[_], rfl, _, rfl, fun _ => rfl, fun h => by cases h⟩
  | .one t, cs, r, hp, h => zeroB_rel M t cs r hp h
  | .pair a b, cs, r, hp, h => by
    simp only [zeroB] at h
    split at h
    · rename_i r1 h1
      simp only [Ty.plain, Bool.and_eq_true] at hp
      obtain ⟨z1, e1, p1⟩ := zeroB_rel M a cs r1 hp.1 h1
      obtain ⟨z2, e2, p2⟩ := zeroB_rel M b r1 r hp.2 h
      have hl := relC_len a M _ z1 p1
      refine ⟨z1 ++ z2, by rw [e1, e2, List.append_assoc], ?_, ?_⟩
      · rw [List.take_append_of_le_length (by omega), List.take_of_length_le (by omega)]; exact p1
      · rw [List.drop_append_of_le_length (by omega), List.drop_of_length_le (by omega), List.nil_append]; exact p2
    · cases h
  | .arr n e, cs, r, hp, h => by
    obtain ⟨zs, e1, e2, e3⟩ := repeatB_spec (R := relC P e M e.dflt) (s := e.size) (fun cs r h => by
      obtain ⟨zs, a, b⟩ := zeroB_rel M e cs r hp h
      exact ⟨zs, a, relC_len e M _ zs b, b⟩) n cs r h
    exact ⟨zs, e1, e2, e3⟩
  | .slice e, cs, r, _, h => by
    match cs, h with
    | .slice none 0 0 :: r', h => simp only [zeroB, Option.some.injEq] at h; subst h; exact ⟨[_], rfl, _, rfl, .inl ⟨rfl, rfl⟩⟩
  | .ptr _, _, _, hp, _ => by cases hp
  | .fn _ _, _, _, hp, _ => by cases hp
  | .seq _, _, _, hp, _ => by cases hp
theorem zeroB_nil : ∀ (t : Ty) (cs r : List Value), t.plain = true → zeroB t cs = some r → ∀ p s, (p, s) ∈ nilPaths t → s = none ∧ ∃ off e, offV t p = some off ∧ t.atP p = some (.slice e) ∧ off < t.size ∧ cs[off]? = some (.slice none 0 0)
  | .slice e, cs, r, _, h => by
    intro p s hm
    simp only [nilPaths, List.mem_singleton, Prod.mk.injEq] at hm
    obtain ⟨rfl, rfl⟩ := hm
    match cs, h with
    | .slice none 0 0 :: r', _ => exact ⟨rfl, 0, e, by simp [offV], by simp [Ty.atP], by simp [Ty.size], rfl⟩
  | .one t, cs, r, hp, h => by
    intro p s hm
    simp only [nilPaths, ownOver, List.mem_map] at hm
    obtain ⟨⟨r', s'⟩, hr, he⟩ := hm
    simp only [Prod.mk.injEq] at he
    obtain ⟨rfl, rfl⟩ := he
    obtain ⟨h0, o, e, h1, h2, h3, h4⟩ := zeroB_nil t cs r hp h r' s' hr
    exact ⟨h0, o, e, h1, h2, h3, h4⟩
  | .pair a b, cs, r, hp, h => by
    intro p s hm
    simp only [Ty.plain, Bool.and_eq_true] at hp
    simp only [zeroB] at h
    split at h
    · rename_i r1 h1
      simp only [nilPaths, ownOver, List.mem_append, List.mem_map] at hm
      rcases hm with hm | hm
      · obtain ⟨⟨r', s'⟩, hr, he⟩ := hm
        simp only [Prod.mk.injEq] at he
        obtain ⟨rfl, rfl⟩ := he
        obtain ⟨h0, o, e, g1, g2, g3, g4⟩ := zeroB_nil a cs r1 hp.1 h1 r' s' hr
        exact ⟨h0, o, e, g1, g2, by simp only [Ty.size]; omega, g4⟩
      · obtain ⟨⟨r', s'⟩, hr, he⟩ := hm
        simp only [Prod.mk.injEq] at he
        obtain ⟨rfl, rfl⟩ := he
        obtain ⟨h0, o, e, g1, g2, g3, g4⟩ := zeroB_nil b r1 r hp.2 h r' s' hr
        obtain ⟨zs, e1, e2⟩ := zeroB_rel (P := ⟨default, #[]⟩) (fun _ _ => none) a cs r1 hp.1 h1
        have hl := relC_len a _ _ zs e2
        refine ⟨h0, a.size + o, e, by simp only [List.cons_append, List.nil_append, offV, g1]; rfl, g2, by simp only [Ty.size]; omega, ?_⟩
        rw [e1, List.getElem?_append_right (by omega), hl, Nat.add_sub_cancel_left]; exact g4
    · cases h
  | .int _, _, _, _, _ => by intro p s hm; cases hm
  | .bool, _, _, _, _ => by intro p s hm; cases hm
  | .str, _, _, _, _ => by intro p s hm; cases hm
  | .unit, _, _, _, _ => by intro p s hm; cases hm
  | .err, _, _, _, _ => by intro p s hm; cases hm
  | .arr _ _, _, _, _, _ => by intro p s hm; cases hm
  | .ptr _, _, _, _, _ => by intro p s hm; cases hm
  | .fn _ _, _, _, _, _ => by intro p s hm; cases hm
  | .seq _, _, _, _, _ => by intro p s hm; cases hm
structure Info (P : Program) (t : Ty) (T : TypeId) (i : TypeInfo) (d : TypeDesc) : Prop where
  info : P.info? T = some i
  und : P.underlying T = some d
  size : i.size = t.size
  bytes : i.bytes ≤ 32768
  zero : t.plain = true → ∃ z, i.zero = some z ∧ (∀ M, relC P t M t.dflt z.cells.toList) ∧ ∀ κ M w tk, OwnsC κ M w tk t z.cells.toList (nilPaths t)
  agg : t.agg = true ↔ (match d with | .struct _ | .array _ _ => true | _ => false) = true
theorem fits_info {t : Ty} {T : TypeId} (h : fits P t (.inl T) = true) : ∃ i d, Info P t T i d := by
  unfold fits at h
  split at h
  · rename_i i d hi hd
    refine ⟨i, d, hi, hd, ?_, ?_, ?_, ?_⟩
    · simp only [Bool.and_eq_true] at h; exact Nat.eq_of_beq_eq_true h.1.1.1
    · simp only [Bool.and_eq_true] at h; exact Nat.le_of_ble_eq_true h.1.1.2
    · intro hp
      simp only [Bool.and_eq_true, hp, Bool.not_true, Bool.false_or] at h
      have hz := h.1.2
      split at hz
      · rename_i z hz'
        split at hz
        · rename_i r hr
          refine ⟨z, hz', fun M => ?_, fun κ M w tk p s hm => ?_⟩
          rotate_left
          · obtain ⟨h0, o, e, g1, g2, _, g4⟩ := zeroB_nil t z.cells.toList r hp hr p s hm
            exact ⟨o, e, _, g1, g2, g4, by rw [h0]; rfl⟩
          obtain ⟨zs, e1, e2⟩ := zeroB_rel (P := P) M t z.cells.toList r hp hr
          cases r with
          | nil => rw [e1, List.append_nil]; exact e2
          | cons _ _ => cases hz
        · cases hz
      · cases hz
    · simp only [Bool.and_eq_true] at h
      have h2 := h.2
      cases t <;> cases d <;> first | (simp only [Bool.false_eq_true] at h2; done) | simp [Ty.agg]
  · cases h
theorem run_isAgg {t : Ty} {T : TypeId} {i : TypeInfo} {d : TypeDesc} (h : Info P t T i d) (w : World) : (isAgg T).run P w = .ok t.agg w := by
  have := h.agg
  unfold isAgg
  rw [Sem.run_bind, run_underlying h.und]
  simp only [Result.andThen_ok]
  cases ht : t.agg with
  | true => rw [ht] at this; have := this.1 rfl; cases d <;> first | rfl | (simp at this)
  | false => rw [ht] at this; cases d <;> first | rfl | (simp at this)
theorem run_sizeOf' {t : Ty} {T : TypeId} {i : TypeInfo} {d : TypeDesc} (h : Info P t T i d) (w : World) : (sizeOf T).run P w = .ok t.size w := by
  simp [sizeOf, typeInfo, program, Sem.run, h.info, h.size]
theorem Addr.add_mk (b o n : Nat) : (⟨b, o, none⟩ : Addr).add n = ⟨b, o + n, none⟩ := by
  unfold Addr.add; split <;> simp_all
theorem relC_one : ∀ (t : Ty) {M : Mem} (x : t.den) (cs : List Value), relC P t M x cs → ∀ u ∈ cs, u.oneCell' = true
  | .int _, _, _, _, h => by rw [relC] at h; subst h; intro u hu; simp at hu; subst hu; rfl
  | .bool, _, _, _, h => by rw [relC] at h; subst h; intro u hu; simp at hu; subst hu; rfl
  | .str, _, _, _, h => by rw [relC] at h; subst h; intro u hu; simp at hu; subst hu; rfl
  | .unit, _, _, _, h => by rw [relC] at h; subst h; intro u hu; simp at hu
  | .err, _, x, _, h => by
    obtain ⟨v, rfl, h1, h2⟩ := h; intro u hu; simp at hu; subst hu
    cases x with
    | true => rw [h1 rfl]; rfl
    | false => obtain ⟨t, y, h2⟩ := h2 rfl; rw [h2]; rfl
  | .one t, _, x, cs, h => relC_one t x cs h
  | .pair a b, _, x, cs, h => by
    intro u hu
    rw [← List.take_append_drop a.size cs, List.mem_append] at hu
    rcases hu with hu | hu
    · exact relC_one a x.1 _ h.1 u hu
    · exact relC_one b x.2 _ h.2 u hu
  | .arr n e, _, x, cs, h => by
    intro u hu
    obtain ⟨j, hj, rfl⟩ := List.getElem_of_mem hu
    have hl := h.1
    have hs : 0 < e.size := by
      rcases Nat.eq_zero_or_pos e.size with h0 | h0
      · rw [h0] at hl; omega
      · exact h0
    have hi : j / e.size < n := by rw [Nat.div_lt_iff_lt_mul hs]; omega
    have hm := Nat.mod_add_div j e.size
    have hlt := Nat.mod_lt j hs
    refine relC_one e _ _ (h.2 _ hi) _ (List.mem_iff_getElem?.2 ⟨j % e.size, ?_⟩)
    rw [List.getElem?_take, if_pos hlt, List.getElem?_drop, show j / e.size * e.size + j % e.size = j by rw [Nat.mul_comm]; omega, List.getElem?_eq_getElem hj]
  | .slice _, _, _, _, h => by
    obtain ⟨v, rfl, h⟩ := h; intro u hu; simp at hu; subst hu
    rcases h with ⟨rfl, _⟩ | ⟨_, _, _, _, rfl, _⟩ | ⟨_, _, rfl, _⟩ <;> rfl
  | .ptr _, _, _, _, h => by obtain ⟨_, _, _, rfl, _⟩ := h; intro u hu; simp at hu; subst hu; rfl
  | .fn _ _, _, _, _, h => by obtain ⟨_, _, _, rfl, _⟩ := h; intro u hu; simp at hu; subst hu; rfl
  | .seq _, _, _, _, h => by obtain ⟨_, _, rfl, _⟩ := h; intro u hu; simp at hu; subst hu; rfl
def hasCells (w : World) (b off : Nat) (cs : List Value) : Prop := ∀ j u, cs[j]? = some u → w.cell? ⟨b, off + j, none⟩ = some u
theorem hasCells_good {M : Mem} {w : World} (hg : Good M w) {b off : Nat} {cs : List Value} (h : M.has b off cs) : hasCells w b off cs :=
  fun j u hj => hg.2 _ _ _ (h j u hj)
theorem hasCells_blk {w : World} {g : Nat} {cur : Array Value} {e : TypeId} {fr : Nat × Nat} (h : w.heap[g]? = some (.cells cur e fr)) (off : Nat) (n : Nat) :
    hasCells w g off ((cur.toList.drop off).take n) := by
  intro j u hj
  rw [List.getElem?_take] at hj
  split at hj
  · rw [List.getElem?_drop] at hj
    simp only [World.cell?, h, Option.isSome_none, Bool.false_eq_true, if_false]
    simpa using hj
  · cases hj
theorem run_loadVar {t : Ty} {T : TypeId} {i : TypeInfo} {d : TypeDesc} (h : Info P t T i d) {M : Mem} {x : t.den} {cs : List Value} (hr : relC P t M x cs) {w : World} {b off : Nat} (hc : hasCells w b off cs) :
    (loadVar T ⟨b, off, none⟩).run P w = .ok (ofCells t cs) w := by
  have hl := relC_len t M x cs hr
  unfold loadVar
  rw [Sem.run_bind, run_isAgg h]
  simp only [Result.andThen_ok]
  unfold ofCells
  cases ha : t.agg with
  | true =>
    simp only [if_true, Sem.run_bind, run_sizeOf' h, Result.andThen_ok, ← hl]
    rw [run_loadCells_list w ⟨b, off, none⟩ cs (fun j v hj => by rw [Addr.add_mk]; exact hc j v hj)]
    rfl
  | false =>
    have h1 : t.size = 1 := by cases t <;> simp_all [Ty.agg, Ty.size]
    rw [h1] at hl
    match cs, hl, hc with
    | [c], _, hc =>
      have := hc 0 c rfl
      simp only [Bool.false_eq_true, if_false, run_load, List.headD]
      simp only [Nat.add_zero] at this
      rw [this]
theorem run_storeVar {t : Ty} {T : TypeId} {i : TypeInfo} {d : TypeDesc} (h : Info P t T i d) {M : Mem} {x : t.den} {v : Value} (hr : relV P t M x v) {w : World} {g off : Nat} {cur : Array Value} {E : TypeId}
    (hg : w.heap[g]? = some (.cells cur E (0, 0))) (hl : off + t.size ≤ cur.size) :
    (storeVar T ⟨g, off, none⟩ v).run P w = .ok () (w.setRow g (splice cur.toList off v.cells.toList).toArray) := by
  have hs := relV_size hr
  have hone := relC_one t x _ (relV_cells hr)
  unfold storeVar
  rw [Sem.run_bind, run_sizeOf' h]
  simp only [Result.andThen_ok, hs, ne_eq, not_true, if_false]
  have hst := run_storeCells_at P g off E v.cells.toList 0 cur w hg (by simp [hs]; omega) hone
  simp only [Nat.add_zero] at hst
  first
    | exact hst
    | (rw [show (storeCells ⟨g, off, none⟩ v.cells.toList).run P w = _ from hst]; rfl)
    | simpa [splice] using hst
end Go.Lift
namespace Go.Lift
open Go Go.RowKit
variable [Tab] [Mf]
variable {P : Program}
theorem stripP_some : ∀ (p q r : Path), stripP p q = some r → q = p ++ r ∧ isStatic p = true
  | [], q, r, h => by simp only [stripP, Option.some.injEq] at h; subst h; exact ⟨rfl, rfl⟩
  | .one :: p, q, r, h => by
    match q, h with
    | .one :: q, h => obtain ⟨rfl, hs⟩ := stripP_some p q r h; exact ⟨rfl, hs⟩
  | .fst :: p, q, r, h => by
    match q, h with
    | .fst :: q, h => obtain ⟨rfl, hs⟩ := stripP_some p q r h; exact ⟨rfl, hs⟩
  | .snd :: p, q, r, h => by
    match q, h with
    | .snd :: q, h => obtain ⟨rfl, hs⟩ := stripP_some p q r h; exact ⟨rfl, hs⟩
  | .idx i :: p, q, r, h => by cases q <;> simp [stripP] at h
  | .el i :: p, q, r, h => by cases q <;> simp [stripP] at h
theorem atP_append : ∀ (p r : Path) (t u : Ty), t.atP p = some u → t.atP (p ++ r) = u.atP r
  | [], r, t, u, h => by simp only [Ty.atP, Option.some.injEq] at h; subst h; rfl
  | .one :: p, r, t, u, h => by
    cases t <;> simp only [Ty.atP, reduceCtorEq] at h
    rename_i t; exact atP_append p r t u h
  | .fst :: p, r, t, u, h => by
    cases t <;> simp only [Ty.atP, reduceCtorEq] at h
    rename_i a b; exact atP_append p r a u h
  | .snd :: p, r, t, u, h => by
    cases t <;> simp only [Ty.atP, reduceCtorEq] at h
    rename_i a b; exact atP_append p r b u h
  | .idx i :: p, r, t, u, h => by
    cases t <;> simp only [Ty.atP, reduceCtorEq] at h
    rename_i n e; exact atP_append p r e u h
  | .el i :: p, r, t, u, h => by
    cases t <;> simp only [Ty.atP, reduceCtorEq] at h
    rename_i e; exact atP_append p r e u h
theorem offV_append : ∀ (p r : Path) (t u : Ty) (o1 : Nat), t.atP p = some u → offV t p = some o1 → offV t (p ++ r) = (offV u r).map (o1 + ·)
  | [], r, t, u, o1, h, ho => by
    simp only [Ty.atP, Option.some.injEq] at h; subst h
    simp only [offV, Option.some.injEq] at ho; subst ho
    simp
  | .one :: p, r, t, u, o1, h, ho => by
    cases t <;> simp only [Ty.atP, reduceCtorEq] at h
    rename_i t; exact offV_append p r t u o1 h ho
  | .fst :: p, r, t, u, o1, h, ho => by
    cases t <;> simp only [Ty.atP, reduceCtorEq] at h
    rename_i a b; exact offV_append p r a u o1 h ho
  | .snd :: p, r, t, u, o1, h, ho => by
    cases t <;> simp only [Ty.atP, reduceCtorEq] at h
    rename_i a b
    simp only [offV] at ho
    obtain ⟨o', ho', rfl⟩ := Option.map_eq_some_iff.1 ho
    simp only [List.cons_append, offV, offV_append p r b u o' h ho', Option.map_map]
    congr 1; funext x; simp [Nat.add_assoc]
  | .idx i :: p, r, t, u, o1, h, ho => by
    cases t <;> simp only [Ty.atP, reduceCtorEq] at h
    rename_i n e
    simp only [offV] at ho
    split at ho
    · rename_i hi
      obtain ⟨o', ho', rfl⟩ := Option.map_eq_some_iff.1 ho
      simp only [List.cons_append, offV, if_pos hi, offV_append p r e u o' h ho', Option.map_map]
      congr 1; funext x; simp [Nat.add_assoc]
    · cases ho
  | .el i :: p, r, t, u, o1, h, ho => by cases t <;> simp only [offV, reduceCtorEq] at ho
theorem offV_at : ∀ (p : Path) (t : Ty) (o : Nat), offV t p = some o → ∃ u, t.atP p = some u
  | [], t, _, _ => ⟨t, by simp [Ty.atP]⟩
  | .one :: p, t, o, h => by
    cases t <;> simp only [offV, reduceCtorEq] at h
    rename_i t; exact offV_at p t o h
  | .fst :: p, t, o, h => by
    cases t <;> simp only [offV, reduceCtorEq] at h
    rename_i a b; exact offV_at p a o h
  | .snd :: p, t, o, h => by
    cases t <;> simp only [offV, reduceCtorEq] at h
    rename_i a b
    obtain ⟨o', ho', _⟩ := Option.map_eq_some_iff.1 h
    exact offV_at p b o' ho'
  | .idx i :: p, t, o, h => by
    cases t <;> simp only [offV, reduceCtorEq] at h
    rename_i n e
    split at h
    · obtain ⟨o', ho', _⟩ := Option.map_eq_some_iff.1 h
      exact offV_at p e o' ho'
    · cases h
  | .el i :: p, t, o, h => by cases t <;> simp only [offV, reduceCtorEq] at h
section own
variable {κ : Nat → Option Nat} {M : Mem} {w : World} {tk : Nat → Bool}
theorem OwnsC.under {t u : Ty} {cs : List Value} {own : Own} {p : Path} {off : Nat} (h : OwnsC κ M w tk t cs own) (ho : offV t p = some off) (ha : t.atP p = some u) :
    OwnsC κ M w tk u ((cs.drop off).take u.size) (ownUnder own p) := by
  intro r s hm
  simp only [ownUnder, List.mem_filterMap] at hm
  obtain ⟨⟨q, s'⟩, hq, hm⟩ := hm
  obtain ⟨r', hr, he⟩ := Option.map_eq_some_iff.1 hm
  simp only [Prod.mk.injEq] at he
  obtain ⟨rfl, rfl⟩ := he
  obtain ⟨rfl, _⟩ := stripP_some p q r' hr
  obtain ⟨o, e, v, h1, h2, h3, h4⟩ := h _ _ hq
  rw [offV_append p r' t u off ha ho] at h1
  obtain ⟨o2, h5, rfl⟩ := Option.map_eq_some_iff.1 h1
  rw [atP_append p r' t u ha] at h2
  have hle := atP_rel r' u o2 h2 h5
  simp only [Ty.size] at hle
  refine ⟨o2, e, v, h5, h2, ?_, h4⟩
  rw [List.getElem?_take, if_pos (by omega), List.getElem?_drop]; exact h3
theorem OwnsC.nonstatic {u : Ty} {cs : List Value} {own : Own} {p : Path} (hp : isStatic p = false) : OwnsC κ M w tk u cs (ownUnder own p) := by
  intro r s hm
  simp only [ownUnder, List.mem_filterMap] at hm
  obtain ⟨⟨q, s'⟩, hq, hm⟩ := hm
  obtain ⟨r', hr, he⟩ := Option.map_eq_some_iff.1 hm
  obtain ⟨_, hs⟩ := stripP_some p q r' hr
  rw [hp] at hs; cases hs
theorem apart_off : ∀ (p q : Path) (t u v : Ty) (o1 o2 : Nat), stripP p q = none → stripP q p = none → isStatic p = true → t.atP p = some u → offV t p = some o1 → t.atP q = some v → offV t q = some o2 →
    o2 + v.size ≤ o1 ∨ o1 + u.size ≤ o2
  | [], q, _, _, _, _, _, h, _, _, _, _, _, _ => by simp [stripP] at h
  | p, [], _, _, _, _, _, _, h, _, _, _, _, _ => by simp [stripP] at h
  | .idx _ :: _, _ :: _, _, _, _, _, _, _, _, hs, _, _, _, _ => by simp [isStatic] at hs
  | .el _ :: _, _ :: _, _, _, _, _, _, _, _, hs, _, _, _, _ => by simp [isStatic] at hs
  | .one :: p, s :: q, t, u, v, o1, o2, h1, h2, hs, a1, b1, a2, b2 => by
    cases t <;> simp only [offV, reduceCtorEq] at b1
    rename_i t
    cases s <;> simp only [offV, reduceCtorEq] at b2
    simp only [stripP] at h1 h2
    exact apart_off p q t u v o1 o2 h1 h2 hs a1 b1 a2 b2
  | .fst :: p, s :: q, t, u, v, o1, o2, h1, h2, hs, a1, b1, a2, b2 => by
    cases t <;> simp only [offV, reduceCtorEq] at b1
    rename_i a b
    cases s <;> simp only [offV, reduceCtorEq] at b2
    · simp only [stripP] at h1 h2
      exact apart_off p q a u v o1 o2 h1 h2 hs a1 b1 a2 b2
    · obtain ⟨o', ho', rfl⟩ := Option.map_eq_some_iff.1 b2
      have := atP_rel p a o1 a1 b1
      right; omega
  | .snd :: p, s :: q, t, u, v, o1, o2, h1, h2, hs, a1, b1, a2, b2 => by
    cases t <;> simp only [offV, reduceCtorEq] at b1
    rename_i a b
    obtain ⟨o', ho', rfl⟩ := Option.map_eq_some_iff.1 b1
    cases s <;> simp only [offV, reduceCtorEq] at b2
    · have := atP_rel q a o2 a2 b2
      left; omega
    · obtain ⟨o'', ho'', rfl⟩ := Option.map_eq_some_iff.1 b2
      simp only [stripP] at h1 h2
      have := apart_off p q b u v o' o'' h1 h2 hs a1 ho' a2 ho''
      omega
theorem OwnsC.put {t u : Ty} {cs ds : List Value} {own n : Own} {p : Path} {off : Nat} (h : OwnsC κ M w tk t cs own) (hn : OwnsC κ M w tk u ds n) (ho : offV t p = some off) (ha : t.atP p = some u)
    (hd : ds.length = u.size) (hl : off + u.size ≤ cs.length) : OwnsC κ M w tk t (splice cs off ds) (ownPut own p n) := by
  intro q s hm
  unfold ownPut at hm
  split at hm
  · rename_i hs
    rw [List.mem_append] at hm
    rcases hm with hm | hm
    · simp only [List.mem_filter, Bool.and_eq_true, Option.isNone_iff_eq_none] at hm
      obtain ⟨hm, hn1, hn2⟩ := hm
      obtain ⟨o, e, v, h1, h2, h3, h4⟩ := h q s hm
      have hap := apart_off p q t u (.slice e) off o hn1 hn2 hs ha ho h2 h1
      simp only [Ty.size] at hap
      refine ⟨o, e, v, h1, h2, ?_, h4⟩
      rw [getElem?_splice _ _ _ _ (by omega), if_neg (by omega)]; exact h3
    · simp only [ownOver, List.mem_map] at hm
      obtain ⟨⟨r, s'⟩, hr, he⟩ := hm
      simp only [Prod.mk.injEq] at he
      obtain ⟨rfl, rfl⟩ := he
      obtain ⟨o, e, v, h1, h2, h3, h4⟩ := hn r s' hr
      have hlt : o < ds.length := by
        rcases Nat.lt_or_ge o ds.length with hlt | hge
        · exact hlt
        · rw [List.getElem?_eq_none hge] at h3; cases h3
      refine ⟨off + o, e, v, ?_, ?_, ?_, h4⟩
      · rw [offV_append p r t u off ha ho, h1]; rfl
      · rw [atP_append p r t u ha]; exact h2
      · rw [getElem?_splice _ _ _ _ (by omega), if_pos (by omega), Nat.add_sub_cancel_left]; exact h3
  · cases hm
end own
end Go.Lift
namespace Go.Lift
open Go Go.RowKit
variable [Tab] [Mf]
variable {P : Program}
theorem fits_fieldsAt : ∀ (t : Ty) (fs : List Field) (off i : Nat) (f : Field), 2 ≤ fs.length → fits P t (.inr (fs, off)) = true → fs[i]? = some f →
    ∃ u o, t.atP (fieldPath fs.length i) = some u ∧ offV t (fieldPath fs.length i) = some o ∧ off + o = f.offset ∧ fits P u (.inl f.type) = true
  | .pair a b, f :: g :: [], off, i, f', _, h, hi => by
    rw [fits.eq_2] at h
    simp only [Bool.and_eq_true] at h
    obtain ⟨⟨⟨h1, h2⟩, h3⟩, h4⟩ := h
    have h1 := Nat.eq_of_beq_eq_true h1
    have h3 := Nat.eq_of_beq_eq_true h3
    match i, hi with
    | 0, hi =>
      simp only [List.getElem?_cons_zero, Option.some.injEq] at hi; subst hi
      exact ⟨a, 0, by simp [fieldPath, Ty.atP], by simp [fieldPath, offV], by omega, h2⟩
    | 1, hi =>
      simp only [List.getElem?_cons_succ, List.getElem?_cons_zero, Option.some.injEq] at hi; subst hi
      exact ⟨b, a.size, by simp [fieldPath, Ty.atP], by simp [fieldPath, offV], by omega, h4⟩
    | i + 2, hi => simp at hi
  | .pair a b, f :: g :: k :: r, off, i, f', _, h, hi => by
    rw [fits.eq_3] at h
    simp only [Bool.and_eq_true] at h
    obtain ⟨⟨h1, h2⟩, h3⟩ := h
    have h1 := Nat.eq_of_beq_eq_true h1
    match i, hi with
    | 0, hi =>
      simp only [List.getElem?_cons_zero, Option.some.injEq] at hi; subst hi
      exact ⟨a, 0, by simp [fieldPath, Ty.atP], by simp [fieldPath, offV], by omega, h2⟩
    | i + 1, hi =>
      simp only [List.getElem?_cons_succ] at hi
      obtain ⟨u, o, g1, g2, g3, g4⟩ := fits_fieldsAt b (g :: k :: r) (off + a.size) i f' (by simp) h3 hi
      have e : fieldPath (f :: g :: k :: r).length (i + 1) = .snd :: fieldPath (g :: k :: r).length i := by simp [fieldPath]
      rw [e]
      exact ⟨u, a.size + o, g1, by simp only [offV, g2]; rfl, by omega, g4⟩
  | .pair _ _, [], _, _, _, hl, _, _ => by simp at hl
  | .pair _ _, [_], _, _, _, hl, _, _ => by simp at hl
  | .int _, _, _, _, _, _, h, _ => by simp [fits] at h
  | .bool, _, _, _, _, _, h, _ => by simp [fits] at h
  | .str, _, _, _, _, _, h, _ => by simp [fits] at h
  | .unit, _, _, _, _, _, h, _ => by simp [fits] at h
  | .err, _, _, _, _, _, h, _ => by simp [fits] at h
  | .one _, _, _, _, _, _, h, _ => by simp [fits] at h
  | .arr _ _, _, _, _, _, _, h, _ => by simp [fits] at h
  | .slice _, _, _, _, _, _, h, _ => by simp [fits] at h
  | .ptr _, _, _, _, _, _, h, _ => by simp [fits] at h
  | .fn _ _, _, _, _, _, _, h, _ => by simp [fits] at h
  | .seq _, _, _, _, _, _, h, _ => by simp [fits] at h
  | .mapT _ _, _, _, _, _, _, h, _ => by simp [fits] at h
theorem fits_field {t : Ty} {T : TypeId} {fs : Array Field} (h : fits P t (.inl T) = true) (hu : P.underlying T = some (.struct fs)) {i : Nat} {f : Field} (hi : fs[i]? = some f) :
    ∃ u, t.atP (fieldPath fs.size i) = some u ∧ offV t (fieldPath fs.size i) = some f.offset ∧ fits P u (.inl f.type) = true := by
  have hi' : fs.toList[i]? = some f := by simpa using hi
  unfold fits at h
  split at h
  · rename_i i' d hi1 hd
    rw [hu] at hd
    simp only [Option.some.injEq] at hd; subst hd
    simp only [Bool.and_eq_true] at h
    have h2 := h.2
    cases t with
    | unit =>
      have := Nat.eq_of_beq_eq_true h2
      have : fs = #[] := Array.eq_empty_of_size_eq_zero this
      subst this; simp at hi
    | one t =>
      simp only at h2
      split at h2
      · rename_i f0 hf
        rw [hf] at hi'
        simp only [Bool.and_eq_true] at h2
        have hs : fs.size = 1 := by rw [← Array.length_toList, hf]; rfl
        match i, hi' with
        | 0, hi' =>
          simp only [List.getElem?_cons_zero, Option.some.injEq] at hi'; subst hi'
          rw [hs]
          exact ⟨t, by simp [fieldPath, Ty.atP], by simp [fieldPath, offV, (Nat.eq_of_beq_eq_true h2.1).symm], h2.2⟩
        | i + 1, hi' => simp at hi'
      · cases h2
    | pair a b =>
      simp only at h2
      have hs : fs.size = fs.toList.length := by simp
      rw [hs]
      split at h2
      · rename_i f0 g0 hf
        simp only [Bool.and_eq_true] at h2
        have hf2 : fits P (.pair a b) (.inr (fs.toList, 0)) = true := by
          rw [hf, fits.eq_2]; simp only [Bool.and_eq_true, Nat.zero_add]; exact h2
        obtain ⟨u, o, g1, g2, g3, g4⟩ := fits_fieldsAt (.pair a b) fs.toList 0 i f (by rw [hf]; simp) hf2 hi'
        exact ⟨u, g1, by rw [g2]; congr 1; omega, g4⟩
      · rename_i f0 g0 k0 r0 hf
        simp only [Bool.and_eq_true] at h2
        have hf2 : fits P (.pair a b) (.inr (fs.toList, 0)) = true := by
          rw [hf, fits.eq_3]; simp only [Bool.and_eq_true, Nat.zero_add]; exact h2
        obtain ⟨u, o, g1, g2, g3, g4⟩ := fits_fieldsAt (.pair a b) fs.toList 0 i f (by rw [hf]; simp) hf2 hi'
        exact ⟨u, g1, by rw [g2]; congr 1; omega, g4⟩
      · cases h2
    | _ => simp only [Bool.false_eq_true] at h2
  · cases h
theorem fits_slice {e : Ty} {T : TypeId} (h : fits P (.slice e) (.inl T) = true) : ∃ E, P.underlying T = some (.slice E) ∧ fits P e (.inl E) = true := by
  unfold fits at h
  split at h
  · rename_i i d hi hd
    simp only [Bool.and_eq_true] at h
    cases d <;> first | exact ⟨_, hd, h.2⟩ | exact absurd h.2 Bool.false_ne_true
  · cases h
theorem fits_arr {n : Nat} {e : Ty} {T : TypeId} (h : fits P (.arr n e) (.inl T) = true) : ∃ E, P.underlying T = some (.array n E) ∧ fits P e (.inl E) = true := by
  unfold fits at h
  split at h
  · rename_i i d hi hd
    simp only [Bool.and_eq_true] at h
    cases d <;> first | (have h2 := h.2; simp only [Bool.and_eq_true] at h2; have := Nat.eq_of_beq_eq_true h2.1; subst this; exact ⟨_, hd, h2.2⟩) | exact absurd h.2 Bool.false_ne_true
  · cases h
theorem fits_struct {t : Ty} {T : TypeId} (h : fits P t (.inl T) = true) (ht : t = .unit ∨ (∃ u, t = .one u) ∨ ∃ a b, t = .pair a b) : ∃ fs, P.underlying T = some (.struct fs) := by
  unfold fits at h
  split at h
  · rename_i i d hi hd
    simp only [Bool.and_eq_true] at h
    have h2 := h.2
    rcases ht with rfl | ⟨u, rfl⟩ | ⟨a, b, rfl⟩ <;> cases d <;> first | exact ⟨_, hd⟩ | exact absurd h2 Bool.false_ne_true
  · cases h
theorem fits_int {k : IntKind} {T : TypeId} (h : fits P (.int k) (.inl T) = true) : P.underlying T = some (.int k) := by
  unfold fits at h
  split at h
  · rename_i i d hi hd
    simp only [Bool.and_eq_true] at h
    cases d <;> first | (have := of_decide_eq_true h.2; subst this; exact hd) | exact absurd h.2 Bool.false_ne_true
  · cases h
theorem fits_str {T : TypeId} (h : fits P .str (.inl T) = true) : P.underlying T = some .string := by
  unfold fits at h
  split at h
  · rename_i i d hi hd
    simp only [Bool.and_eq_true] at h
    cases d <;> first | exact hd | exact absurd h.2 Bool.false_ne_true
  · cases h
theorem fits_bool {T : TypeId} (h : fits P .bool (.inl T) = true) : P.underlying T = some .bool := by
  unfold fits at h
  split at h
  · rename_i i d hi hd
    simp only [Bool.and_eq_true] at h
    cases d <;> first | exact hd | exact absurd h.2 Bool.false_ne_true
  · cases h
theorem relBx_get {rows : Bool} {t u : Ty} {M : Mem} {x : t.den} {y : u.den} {p : Path} {off : Nat} {cs : List Value} (h : relBx P rows t M x cs) (ho : offB rows t x p = some off) (hg : getP t x p u = some y) :
    relC P u M y ((cs.drop off).take u.size) ∧ off + u.size ≤ cs.length := by
  cases rows with
  | false => exact getP_rel p t x y off cs hg (by cases t <;> exact ho) (by cases t <;> exact h)
  | true =>
    cases t with
    | slice e =>
      match p, ho, hg with
      | .el i :: p, ho, hg =>
        simp only [offB] at ho
        split at ho
        · rename_i hi
          obtain ⟨o', ho', rfl⟩ := Option.map_eq_some_iff.1 ho
          have hin : i.toNat < x.length := by omega
          simp only [getP, lget, List.getD_eq_getElem?_getD, List.getElem?_eq_getElem hin, Option.getD_some] at hg
          obtain ⟨h1, h2⟩ := getP_rel p e _ y o' _ hg ho' (h.2 i.toNat hin)
          have hle : (i.toNat + 1) * e.size ≤ x.length * e.size := Nat.mul_le_mul_right _ hin
          have hl := h.1
          simp only [List.length_take, List.length_drop, Nat.add_mul, Nat.one_mul] at h2 hle
          refine ⟨?_, by omega⟩
          rw [List.drop_take, List.take_take, List.drop_drop] at h1
          rwa [show min u.size (e.size - o') = u.size from by omega] at h1
        · cases ho
      | [], ho, _ => simp [offB] at ho
      | .one :: _, ho, _ => simp [offB] at ho
      | .fst :: _, ho, _ => simp [offB] at ho
      | .snd :: _, ho, _ => simp [offB] at ho
      | .idx _ :: _, ho, _ => simp [offB] at ho
    | _ => exact absurd h id
theorem relBx_set {rows : Bool} {t u : Ty} {M : Mem} {x x' : t.den} {y : u.den} {p : Path} {off : Nat} {cs ds : List Value} (h : relBx P rows t M x cs) (ho : offB rows t x p = some off) (hs : setP t x p u y = some x') (hd : relC P u M y ds) :
    relBx P rows t M x' (splice cs off ds) ∧ off + u.size ≤ cs.length ∧ ∀ q, offB rows t x' q = offB rows t x q := by
  have hld := relC_len u M y ds hd
  cases rows with
  | false =>
    have h' : relC P t M x cs := by cases t <;> exact h
    have ho' : offV t p = some off := by cases t <;> exact ho
    have hle := atP_rel p t off (setP_at p t x x' y hs) ho'
    have hl := relC_len t M x cs h'
    have := setP_rel p t x x' y off cs ds hs ho' h' hd
    exact ⟨by cases t <;> exact this, by omega, fun q => by cases t <;> rfl⟩
  | true =>
    cases t with
    | slice e =>
      match p, ho, hs with
      | .el i :: p, ho, hs =>
        simp only [offB] at ho
        split at ho
        · rename_i hi
          obtain ⟨o', ho', rfl⟩ := Option.map_eq_some_iff.1 ho
          have hin : i.toNat < x.length := by omega
          simp only [setP, lget, List.getD_eq_getElem?_getD, List.getElem?_eq_getElem hin, Option.getD_some] at hs
          split at hs
          · rename_i v hv
            simp only [Option.some.injEq] at hs; subst hs
            have hat := atP_rel p e o' (setP_at p e _ v y hv) ho'
            have hle : (i.toNat + 1) * e.size ≤ x.length * e.size := Nat.mul_le_mul_right _ hin
            simp only [Nat.add_mul, Nat.one_mul] at hle
            have hl := h.1
            have ih := setP_rel p e _ v y o' _ ds hv ho' (h.2 i.toNat hin) hd
            refine ⟨⟨by rw [length_splice (by omega)]; simpa [lset] using hl, fun j hj => ?_⟩, by omega, fun q => ?_⟩
            · have hj' : j < x.length := by simpa [lset] using hj
              by_cases hij : j = i.toNat
              · subst hij
                have e2 := window_in (cs := cs) (ds := ds) (off := i.toNat * e.size + o') (s := i.toNat * e.size) (n := e.size) (by omega) (by omega) (by omega)
                rw [Nat.add_sub_cancel_left] at e2
                rw [e2]
                simpa [lset] using ih
              · have hout : j * e.size + e.size ≤ i.toNat * e.size + o' ∨ i.toNat * e.size + o' + ds.length ≤ j * e.size := by
                  rcases Nat.lt_or_ge j i.toNat with hlt | hge
                  · left
                    have : (j + 1) * e.size ≤ i.toNat * e.size := Nat.mul_le_mul_right _ hlt
                    simp only [Nat.add_mul, Nat.one_mul] at this; omega
                  · right
                    have : (i.toNat + 1) * e.size ≤ j * e.size := Nat.mul_le_mul_right _ (by omega)
                    simp only [Nat.add_mul, Nat.one_mul] at this; omega
                rw [window_out (by omega) hout]
                have hne : i.toNat ≠ j := fun h => hij h.symm
                simp only [lset, List.getElem_set, if_neg hne]
                exact h.2 j hj'
            · match q with
              | .el _ :: _ => simp [offB, lset]
              | [] => simp [offB]
              | .one :: _ => simp [offB]
              | .fst :: _ => simp [offB]
              | .snd :: _ => simp [offB]
              | .idx _ :: _ => simp [offB]
          · cases hs
        · cases ho
      | [], ho, _ => simp [offB] at ho
      | .one :: _, ho, _ => simp [offB] at ho
      | .fst :: _, ho, _ => simp [offB] at ho
      | .snd :: _, ho, _ => simp [offB] at ho
      | .idx _ :: _, ho, _ => simp [offB] at ho
    | _ => exact absurd h id
theorem offB_append {rows : Bool} {t u : Ty} {x : t.den} {p r : Path} {o1 : Nat} (ho : offB rows t x p = some o1) (ha : t.atP p = some u) : offB rows t x (p ++ r) = (offV u r).map (o1 + ·) := by
  cases rows with
  | false =>
    have ho' : offV t p = some o1 := by cases t <;> exact ho
    have := offV_append p r t u o1 ha ho'
    cases t <;> exact this
  | true =>
    cases t with
    | slice e =>
      match p, ho, ha with
      | .el i :: p, ho, ha =>
        simp only [offB] at ho
        split at ho
        · rename_i hi
          obtain ⟨o', ho', rfl⟩ := Option.map_eq_some_iff.1 ho
          simp only [Ty.atP] at ha
          simp only [List.cons_append, offB, if_pos hi, offV_append p r e u o' ha ho', Option.map_map]
          congr 1; funext z; simp [Nat.add_assoc]
        · cases ho
      | [], ho, _ => simp [offB] at ho
      | .one :: _, ho, _ => simp [offB] at ho
      | .fst :: _, ho, _ => simp [offB] at ho
      | .snd :: _, ho, _ => simp [offB] at ho
      | .idx _ :: _, ho, _ => simp [offB] at ho
    | _ => simp [offB] at ho
end Go.Lift
namespace Go.Lift
open Go Go.RowKit
variable [Tab] [Mf]
def CallsNew (P : Program) (g : FuncId) (args : Array Value) (M : Mem) (w : World) (e : Ty) (l : List e.den) : Prop :=
  Calls P g args w fun e' w' => ∃ M' b cap cur E, e' = .returned (.slice (some ⟨b, 0, none⟩) l.length cap) ∧ Good M' w' ∧ Grow M w M' w' ∧ w.heap.size ≤ b ∧ w'.heap[b]? = some (.cells cur E (0, 0)) ∧
    relRowsL P e M' l cur.toList ∧ (∀ o, M' b o = none) ∧ l.length ≤ cap ∧ cap ≤ maxLen
def FCn (P : Program) (s : Sig) : Prop :=
  ∀ e x l, s.listRun e x = some l → ∀ M w vs, Good M w → relVs P M s.ats x vs → CallsNew P s.f vs.toArray M w e l
def CallsOwn (P : Program) (g : FuncId) (args : Array Value) (M : Mem) (w : World) (e : Ty) (l : List e.den) : Prop :=
  Calls P g args w fun e' w' => ∃ M' v, e' = .returned v ∧ Good M' w' ∧ Grow M w M' w' ∧ relV P (.slice e) M' l v ∧
    (v = .slice none 0 0 ∨ ∃ b n cap, v = .slice (some ⟨b, 0, none⟩) n cap ∧ w.heap.size ≤ b ∧ OwnBlk M' w' e.size b n cap)
def FCo (P : Program) (s : Sig) : Prop :=
  ∀ e x l, s.listRun e x = some l → ∀ M w vs, Good M w → relVs P M s.ats x vs → CallsOwn P s.f vs.toArray M w e l
def CallsIter (P : Program) (g : FuncId) (args : Array Value) (M : Mem) (w : World) (e : Ty) (F : ByteArray → Option (List e.den)) (x : ByteArray) : Prop :=
  Calls P g args w fun e' w' => ∃ M' b E gf lb, e' = .returned (.func (.func gf) #[] lb) ∧ Good M' w' ∧ Grow M w M' w' ∧ w.heap.size ≤ b ∧ w'.heap[b]? = some (.cells #[.string x] E (0, 0)) ∧ (∀ o, M' b o = none) ∧ IterAt P (encS e) M' gf lb b F
def FCi (P : Program) (f : FuncId) (I : ItSig) : Prop := Enters P f ∧ ∀ (s sep : ByteArray) (M : Mem) (w : World), Good M w → CallsIter P f #[.string s, .string sep] M w I.e (I.F sep) s
structure COk (P : Program) (Γ : Ctx) : Prop where
  ty : ∀ T t, Γ.ty T = some t → fits P t (.inl T) = true
  mf : Γ.maps = Mf.on
  nf : ∀ T t fs, Γ.ty T = some t → P.underlying T = some (.struct fs) → Γ.nf T = fs.size
  sig : ∀ f s, Γ.sig f = some s → s.f = f ∧ Enters P f ∧ FC P s
  news : ∀ f s, Γ.news f = true → Γ.sig f = some s → FCn P s
  owns : ∀ f s, Γ.owns f = true → Γ.sig f = some s → FCo P s
  iters : ∀ f I, Γ.iters f = some I → FCi P f I
  eq : ∀ T t, Γ.eqs T = true → Γ.ty T = some t → ∀ (M : Mem) (x y : t.den) (u v : Value) (w : World) (p q : Operand), relV P t M x u → relV P t M y v →
    (do eqGuard .eql T p q u v; binOp .eql T u v : Sem Value).run P w = .ok (.bool (t.eqb x y)) w ∧ (do eqGuard .neq T p q u v; binOp .neq T u v : Sem Value).run P w = .ok (.bool (!t.eqb x y)) w
variable {P : Program} {Γ : Ctx} {base : Nat} {κ : Nat → Option Nat} {M : Mem} {σ : St} {a : Act} {w : World}
def EffOK (P : Program) (κ : Nat → Option Nat) (M : Mem) (w : World) (σ : St) (a : Act) (o : Oper) : Eff → Prop
  | .fail => True
  | .val v => ∃ u, (execOp a.eval o).run P w = .ok (.value u) w ∧ RelA P κ M w σ.box σ.tok v u
  | .chk c v => c = true → ∃ u, (execOp a.eval o).run P w = .ok (.value u) w ∧ RelA P κ M w σ.box σ.tok v u
  | .cat x y => x.size + y.size ≤ 4294967296 → (execOp a.eval o).run P w = .ok (.value (.string (x ++ y))) w
  | .bytes x => ∃ v w', (execOp a.eval o).run P w = .ok (.value v) w' ∧ Below w.heap.size w w' ∧ ∃ M', Good M' w' ∧ (∀ b, b < w.heap.size → M' b = M b) ∧ relV P (.slice (.int .u8)) M' (sbytes x) v
  | .call s x => ∃ vs : Array Value, (execOp a.eval o).run P w = .ok (.enter s.f vs) w ∧ relVs P M s.ats x vs.toList ∧ FC P s
  | .newRow _ e y => ∀ l, y = some l → ∃ g args, (execOp a.eval o).run P w = .ok (.enter g args) w ∧ CallsNew P g args M w e l
  | .newOwn e y => ∀ l, y = some l → ∃ g args, (execOp a.eval o).run P w = .ok (.enter g args) w ∧ CallsOwn P g args M w e l
  | .newIter e F x => ∃ g args, (execOp a.eval o).run P w = .ok (.enter g args) w ∧ CallsIter P g args M w e F x
  | .dyn _ r φ x => ∀ y, φ x = some y → ∃ g args, (execOp a.eval o).run P w = .ok (.enter g args) w ∧ CallsTo P g args M w fun M' v => relV P r M' y v
  | .alloc B => (∃ cells, (execOp a.eval o).run P w = .ok (.value (.pointer (some ⟨w.heap.size, 0, none⟩))) (w.alloc (.cells cells B.tid)) ∧ relBx P B.rows B.t M B.x cells.toList ∧ OwnsC κ M w σ.tok B.t cells.toList B.own ∧ B.rows = false) ∨
      ∃ tid k v, B = ⟨tid, .mapT k v, [], [], true⟩ ∧ Mf.on = true ∧ (execOp a.eval o).run P w = .ok (.value (.map (some w.heap.size))) (w.alloc (.map #[] 0))
  | .store b B' => (∃ B g cur cur' E, σ.box b = some B ∧ κ b = some g ∧ w.heap[g]? = some (.cells cur E (0, 0)) ∧ (execOp a.eval o).run P w = .ok .skip (w.setRow g cur') ∧ relBx P B'.rows B'.t M B'.x cur'.toList ∧
      OwnsC κ M w σ.tok B'.t cur'.toList B'.own ∧ B'.tid = B.tid ∧ Alike B B' ∧ cur'.size = cur.size) ∨
      ∃ tid k v l l' own g es es' c c', Mf.on = true ∧ σ.box b = some ⟨tid, .mapT k v, l, own, true⟩ ∧ B' = ⟨tid, .mapT k v, l', [], true⟩ ∧ κ b = some g ∧ w.heap[g]? = some (.map es c) ∧ (execOp a.eval o).run P w = .ok .skip (w.putObj g (.map es' c')) ∧ relMap k v l' es'
  | .fresh c e l => c = true → ∃ cells E, (execOp a.eval o).run P w = .ok (.value (.slice (some ⟨w.heap.size, 0, none⟩) l.length l.length)) (w.alloc (.cells cells E)) ∧ relRows P e M l cells.toList ∧ l.length ≤ maxLen
  | .row c _ e l => c = true → ∃ cells E, (execOp a.eval o).run P w = .ok (.value (.slice (some ⟨w.heap.size, 0, none⟩) l.length l.length)) (w.alloc (.cells cells E)) ∧ relRows P e M l cells.toList ∧ l.length ≤ maxLen
  | .app e l m src => l.length + m.length ≤ 4294967296 → ∃ v w' M', (execOp a.eval o).run P w = .ok (.value v) w' ∧ Good M' w' ∧ Mem.le M M' ∧ relV P (.slice e) M' (l ++ m) v ∧ Below 0 w w' ∧
      ((v = .slice none 0 0 ∧ w' = w ∧ M' = M) ∨ ∃ g n cap, v = .slice (some ⟨g, 0, none⟩) n cap ∧ OwnBlk M' w' e.size g n cap ∧ (g = w.heap.size ∨ ∃ k, src = some k ∧ κ k = some g ∧ σ.tok k = true ∧ ∀ o : Obj, w.heap[g]? = some o → isC o = true) ∧
        (∀ j, j ≠ g → j < w.heap.size → w'.heap[j]? = w.heap[j]?) ∧ ∀ j, j ≠ g → M' j = M j)
theorem ok_fail {o : Oper} : EffOK P κ M w σ a o .fail := True.intro
theorem castTy_some {t u : Ty} {x : t.den} {y : u.den} (h : castTy t u x = some y) : ∃ e : t = u, y = e ▸ x := by
  unfold castTy at h
  split at h
  · rename_i e; simp only [Option.some.injEq] at h; exact ⟨e, h.symm⟩
  · cases h
theorem castTy_rel {t u : Ty} {x : t.den} {y : u.den} (h : castTy t u x = some y) {v : Value} (hr : relV P t M x v) : relV P u M y v := by
  obtain ⟨rfl, rfl⟩ := castTy_some h
  exact hr
theorem relV_int {k : IntKind} {x : Int} {v : Value} : relV P (.int k) M x v ↔ v = .int k x := by
  unfold relV viaCells; simp [Ty.agg, relC]
theorem relV_bool {x : Bool} {v : Value} : relV P .bool M x v ↔ v = .bool x := by
  unfold relV viaCells; simp [Ty.agg, relC]
theorem relV_str {x : ByteArray} {v : Value} : relV P .str M x v ↔ v = .string x := by
  unfold relV viaCells; simp [Ty.agg, relC]
theorem OwnsC_nil {tk : Nat → Bool} {t : Ty} {cs : List Value} : OwnsC κ M w tk t cs [] := by intro p s h; cases h
theorem data_int {k : IntKind} {x : Int} : RelA P κ M w σ.box σ.tok (.data (.int k) x []) (.int k x) := ⟨relV_int.2 rfl, OwnsC_nil⟩
theorem data_bool {x : Bool} : RelA P κ M w σ.box σ.tok (.data .bool x []) (.bool x) := ⟨relV_bool.2 rfl, OwnsC_nil⟩
theorem data_str {x : ByteArray} : RelA P κ M w σ.box σ.tok (.data .str x []) (.string x) := ⟨relV_str.2 rfl, OwnsC_nil⟩
theorem data_rel {t : Ty} {x : t.den} {v : Value} (h : relV P t M x v) : RelA P κ M w σ.box σ.tok (.data t x []) v := ⟨h, OwnsC_nil⟩
theorem opd_rel (hR : Rel P base κ M σ a w) {x : Operand} {v : AVal} (h : σ.opd x = some v) : RelA P κ M w σ.box σ.tok v (a.eval x) := by
  unfold St.opd at h
  split at h
  · exact hR.env _ _ h
  · simp only [Option.some.injEq] at h; subst h; exact data_int
  · simp only [Option.some.injEq] at h; subst h; exact data_bool
  · simp only [Option.some.injEq] at h; subst h; exact data_str
  · simp only [Option.some.injEq] at h; subst h; exact ⟨#[], rfl, rfl⟩
  · simp only [Option.some.injEq] at h; subst h; rfl
  · simp only [Option.some.injEq] at h; subst h; rfl
  · rename_i g
    split at h
    · rename_i x hx
      simp only [Option.some.injEq] at h
      subst h
      obtain ⟨h0, h1⟩ := Tab.vars hR.good.1 g x hx
      refine data_rel ?_
      unfold relV viaCells
      simp only [Ty.agg, Bool.false_eq_true, if_false]
      refine ⟨g, 0, [.int .i64 x.1, .int .i64 x.2], rfl, ⟨rfl, rfl⟩, fun j u hj => ?_⟩
      match j, hj with
      | 0, hj => simp at hj; subst hj; exact h0
      | 1, hj => simp at hj; subst hj; exact h1
      | j + 2, hj => simp at hj
    · cases h
  · cases h
theorem get_data {v : Option AVal} {t : Ty} {y : t.den} (h : AVal.get v t = some y) : ∃ own, v = some (.data t y own) := by
  unfold AVal.get at h
  split at h
  · obtain ⟨rfl, rfl⟩ := castTy_some h; exact ⟨_, rfl⟩
  · cases h
theorem get_rel (hR : Rel P base κ M σ a w) {x : Operand} {t : Ty} {y : t.den} (h : AVal.get (σ.opd x) t = some y) : relV P t M y (a.eval x) := by
  obtain ⟨own, h⟩ := get_data h
  exact (opd_rel hR h).1
theorem int_rel (hR : Rel P base κ M σ a w) {x : Operand} {j : Int} (h : AVal.int (σ.opd x) = some j) : ∃ k, a.eval x = .int k j := by
  unfold AVal.int at h
  split at h
  · rename_i k v own he
    simp only [Option.some.injEq] at h
    subst h
    exact ⟨k, relV_int.1 (opd_rel hR he).1⟩
  · cases h
theorem bool_rel (hR : Rel P base κ M σ a w) {x : Operand} {b : Bool} (h : σ.bool x = some b) : a.eval x = .bool b := relV_bool.1 (get_rel hR h)
theorem data_eval (hR : Rel P base κ M σ a w) {x : Operand} {t : Ty} {y : t.den} {own : Own} (h : σ.opd x = some (.data t y own)) : relV P t M y (a.eval x) := (opd_rel hR h).1
theorem opdN_rel (hR : Rel P base κ M σ a w) {T : Option Ty} {y : Operand} {v : AVal} (h : σ.opdN T y = some v) : RelA P κ M w σ.box σ.tok v (a.eval y) := by
  unfold St.opdN at h
  split at h
  · simp only [Option.some.injEq] at h
    subst h
    refine ⟨?_, ?_⟩
    · unfold relV viaCells; simp only [Ty.agg, Bool.false_eq_true, if_false]; exact ⟨_, rfl, .inl ⟨rfl, rfl⟩⟩
    · intro p s hm
      simp only [List.mem_singleton, Prod.mk.injEq] at hm
      obtain ⟨rfl, rfl⟩ := hm
      exact ⟨0, _, .slice none 0 0, by simp [offV], by rw [Ty.atP], rfl, rfl⟩
  · exact opd_rel hR h
theorem getN_rel (hR : Rel P base κ M σ a w) {T : Option Ty} {y : Operand} {t : Ty} {z : t.den} (h : AVal.get (σ.opdN T y) t = some z) : relV P t M z (a.eval y) := by
  obtain ⟨own, h⟩ := get_data h
  exact (opdN_rel hR h).1
section ops
variable (hR : Rel P base κ M σ a w) (hC : COk P Γ)
include hR
theorem ok_move {o : Oper} {x : Operand} (hop : o.op = .move x ∨ o.op = .assign x) : EffOK P κ M w σ a o (eff Γ o σ) := by
  have hrun : (execOp a.eval o).run P w = .ok (.value (a.eval x)) w := by
    rcases hop with h | h <;> simp [execOp, h]
  have key : EffOK P κ M w σ a o (match (generalizing := false) x with
    | .const (.slice none 0 0) => match (generalizing := false) Γ.ty o.type with
      | some (.slice e) => .val (.data (.slice e) [] [([], none)])
      | _ => .fail
    | x => ofOpt (σ.opd x)) := by
    split
    · split
      · refine ⟨_, hrun, ?_, ?_⟩
        · unfold relV viaCells; simp only [Ty.agg, Bool.false_eq_true, if_false]; exact ⟨_, rfl, .inl ⟨rfl, rfl⟩⟩
        · intro p s hm
          simp only [List.mem_singleton, Prod.mk.injEq] at hm
          obtain ⟨rfl, rfl⟩ := hm
          exact ⟨0, _, .slice none 0 0, by simp [offV], by rw [Ty.atP], rfl, rfl⟩
      · exact ok_fail
    · unfold ofOpt
      split
      · rename_i v hv
        exact ⟨_, hrun, opd_rel hR hv⟩
      · exact ok_fail
  rcases hop with h | h <;> (simp only [eff, h]; exact key)
theorem ok_pick {o : Oper} {c x y : Operand} (hop : o.op = .pick c x y) : EffOK P κ M w σ a o (eff Γ o σ) := by
  simp only [eff, hop]
  split
  · rename_i g hg
    have e1 := bool_rel hR hg
    split
    · rename_i v hv
      refine ⟨.bool v, ?_, data_bool⟩
      simp only [execOp, hop, e1, asBool, Sem.run_bind, Sem.run_pure, Result.andThen_ok]
      cases g with
      | true => simp only [if_true] at hv ⊢; rw [bool_rel hR hv]
      | false => simp only [Bool.false_eq_true, if_false] at hv ⊢; rw [bool_rel hR hv]
    · exact ok_fail
  · exact ok_fail
theorem ok_nilCheck {o : Oper} {x : Operand} (hop : o.op = .nilCheck x) : EffOK P κ M w σ a o (eff Γ o σ) := by
  simp only [eff, hop]
  split
  · rename_i b p hv
    have h := opd_rel hR hv
    have h' := h
    obtain ⟨B, g, off, _, _, _, h4⟩ := h
    exact ⟨a.eval x, by simp only [execOp, hop, h4, Sem.run_pure], h'⟩
  · rename_i t v own hv
    have h := data_eval hR hv
    have h' := h
    obtain ⟨b, off, cells, h1, _⟩ : relC P (.ptr t) M v [a.eval x] := h
    simp only [List.cons.injEq, and_true] at h1
    exact ⟨a.eval x, by simp only [execOp, hop, h1, Sem.run_pure], data_rel h'⟩
  · exact ok_fail
theorem ok_extract {o : Oper} {x : Operand} {i : Nat} (hop : o.op = .extract x i) : EffOK P κ M w σ a o (eff Γ o σ) := by
  simp only [eff, hop]
  split
  · rename_i ts v hv
    obtain ⟨vs, h1, h2⟩ := opd_rel hR hv
    unfold ofOpt
    split
    · rename_i r hr
      have key : ∀ (ts : List Ty) (x : Args ts) (l : List Value) (i : Nat) (r : AVal), relVs P M ts x l → tupGet ts x i = some r → ∃ u, l[i]? = some u ∧ RelA P κ M w σ.box σ.tok r u := by
        intro ts
        induction ts with
        | nil => intro x l i r _ h; simp [tupGet] at h
        | cons t rest ih =>
          intro x l i r hl h
          cases rest with
          | nil =>
            obtain ⟨u, rfl, hu⟩ := hl
            cases i with
            | zero => simp only [tupGet, Option.some.injEq] at h; subst h; exact ⟨u, rfl, data_rel hu⟩
            | succ i => simp [tupGet] at h
          | cons t' rest =>
            obtain ⟨u, rs, rfl, hu, hrs⟩ := hl
            cases i with
            | zero => simp only [tupGet, Option.some.injEq] at h; subst h; exact ⟨u, rfl, data_rel hu⟩
            | succ i => simp only [tupGet] at h; exact ih x.2 rs i r hrs h
      obtain ⟨u, hu, hr'⟩ := key ts v vs.toList i r h2 hr
      refine ⟨u, ?_, hr'⟩
      simp only [Array.getElem?_toList] at hu
      simp [execOp, hop, Instr.extract, h1, hu]
    · exact ok_fail
  · exact ok_fail
theorem ok_unOp {o : Oper} {op : UnOp} {T : TypeId} {x : Operand} (hop : o.op = .unOp op T x) : EffOK P κ M w σ a o (eff Γ o σ) := by
  cases op <;> simp only [eff, hop] <;> try exact ok_fail
  · split
    · rename_i k n own hv
      have e := relV_int.1 (data_eval hR hv)
      exact ⟨_, by simp [execOp, hop, Op.unary, e, Op.intArith], data_int⟩
    · exact ok_fail
  · split
    · rename_i b hb
      have e := bool_rel hR hb
      exact ⟨_, by simp [execOp, hop, Op.unary, e], data_bool⟩
    · exact ok_fail
end ops
end Go.Lift
namespace Go.Lift
open Go Go.RowKit
variable [Tab] [Mf]
variable {P : Program} {Γ : Ctx} {base : Nat} {κ : Nat → Option Nat} {M : Mem} {σ : St} {a : Act} {w : World}
theorem run_sureAddr (ad : Addr) : (Instr.sureAddr (.pointer (some ad))).run P w = .ok ad w := rfl
theorem run_newVar (T : TypeId) (v : Value) (w : World) : (newVar T v).run P w = .ok ⟨w.heap.size, 0, none⟩ (w.alloc (.cells v.cells T)) := rfl
theorem getP_at {u : Ty} : ∀ (p : Path) (t : Ty) (x : t.den) (y : u.den), getP t x p u = some y → t.atP p = some u
  | [], t, x, y, h => by
    unfold getP castTy at h
    split at h
    · rename_i e; subst e; simp [Ty.atP]
    · cases h
  | .one :: p, t, x, y, h => by
    cases t <;> simp only [getP, reduceCtorEq] at h
    exact getP_at p _ x y h
  | .fst :: p, t, x, y, h => by
    cases t <;> simp only [getP, reduceCtorEq] at h
    exact getP_at p _ x.1 y h
  | .snd :: p, t, x, y, h => by
    cases t <;> simp only [getP, reduceCtorEq] at h
    exact getP_at p _ x.2 y h
  | .idx i :: p, t, x, y, h => by
    cases t <;> simp only [getP, reduceCtorEq] at h
    exact getP_at p _ _ y h
  | .el i :: p, t, x, y, h => by
    cases t <;> simp only [getP, reduceCtorEq] at h
    exact getP_at p _ _ y h
section ops
variable (hR : Rel P base κ M σ a w) (hC : COk P Γ)
include hR hC
theorem ok_load {o : Oper} {T : TypeId} {x : Operand} (hop : o.op = .load T x) : EffOK P κ M w σ a o (eff Γ o σ) := by
  simp only [eff, hop]
  split
  · rename_i u b p hu hx
    split
    · rename_i B hB
      split
      · rename_i v hv
        obtain ⟨B', g, off, h1, h2, h3, h4⟩ := opd_rel hR hx
        rw [hB] at h1; simp only [Option.some.injEq] at h1; subst h1
        obtain ⟨g', cur, E, h5, h6, h7, h8, _⟩ := (hR.bx b B hB).cells (flat_off h3)
        rw [h2] at h5; simp only [Option.some.injEq] at h5; subst h5
        obtain ⟨i, d, hi⟩ := fits_info (hC.ty T u hu)
        obtain ⟨r1, r2⟩ := relBx_get h7 h3 hv
        have hrun := run_loadVar hi r1 (w := w) (hasCells_blk h6 off u.size)
        refine ⟨_, by simp only [execOp, hop, h4, Instr.loadAt, Sem.run_bind, run_sureAddr, Result.andThen_ok, hrun, Sem.run_pure], relV_ofCells r1, ?_⟩
        rw [show (ofCells u ((cur.toList.drop off).take u.size)).cells.toList = (cur.toList.drop off).take u.size from ?_]
        · by_cases hs : isStatic p = true
          · cases hrw : B.rows with
            | false =>
              have ho : offV B.t p = some off := by rw [hrw] at h3; cases hBt : B.t <;> simp_all [offB]
              obtain ⟨u', ha⟩ := offV_at p B.t off ho
              have : u' = u := by
                have := getP_at p B.t B.x v hv
                rw [ha] at this; simpa using this
              subst this
              exact h8.under ho ha
            | true =>
              rw [hrw] at h3
              match p, hs, h3 with
              | [], _, h3 => cases hBt : B.t <;> simp_all [offB]
              | .one :: _, _, h3 => cases hBt : B.t <;> simp_all [offB]
              | .fst :: _, _, h3 => cases hBt : B.t <;> simp_all [offB]
              | .snd :: _, _, h3 => cases hBt : B.t <;> simp_all [offB]
              | .idx _ :: _, hs, _ => simp [isStatic] at hs
              | .el _ :: _, hs, _ => simp [isStatic] at hs
          · exact OwnsC.nonstatic (by simpa using hs)
        · exact cells_ofCells r1
      · exact ok_fail
    · exact ok_fail
  · rename_i u t v own hu hx
    split
    · rename_i v' hv'
      obtain ⟨rfl, rfl⟩ := castTy_some hv'
      have hx' := data_eval hR hx
      unfold relV viaCells at hx'
      simp only [Ty.agg, Bool.false_eq_true, if_false, relC] at hx'
      obtain ⟨b, off, cells, he, hr, hm⟩ := hx'
      simp only [List.cons.injEq, and_true] at he
      obtain ⟨i, d, hi⟩ := fits_info (hC.ty T _ hu)
      have hrun := run_loadVar hi hr (w := w) (hasCells_good hR.good hm)
      exact ⟨_, by simp only [execOp, hop, he, Instr.loadAt, Sem.run_bind, run_sureAddr, Result.andThen_ok, hrun, Sem.run_pure], data_rel (relV_ofCells hr)⟩
    · exact ok_fail
  · exact ok_fail
theorem ok_store {o : Oper} {T : TypeId} {x y : Operand} (hop : o.op = .store T x y) : EffOK P κ M w σ a o (eff Γ o σ) := by
  simp only [eff, hop]
  split
  · rename_i u b p u' v ow hu hx hy
    split
    · rename_i B v' hB hv'
      split
      · rename_i x' hx'
        obtain ⟨rfl, rfl⟩ := castTy_some hv'
        obtain ⟨B', g, off, h1, h2, h3, h4⟩ := opd_rel hR hx
        rw [hB] at h1; simp only [Option.some.injEq] at h1; subst h1
        obtain ⟨g', cur, E, h5, h6, h7, h8, _⟩ := (hR.bx b B hB).cells (flat_off h3)
        rw [h2] at h5; simp only [Option.some.injEq] at h5; subst h5
        obtain ⟨i, d, hi⟩ := fits_info (hC.ty T _ hu)
        have hyr := opdN_rel hR hy
        have hyv := hyr.1
        obtain ⟨r1, r2, r3⟩ := relBx_set h7 h3 hx' (relV_cells hyv)
        have hrun := run_storeVar hi hyv (w := w) h6 (by simpa using r2)
        have hds := relC_len _ M _ _ (relV_cells hyv)
        refine .inl ⟨B, g, cur, (splice cur.toList off (a.eval y).cells.toList).toArray, E, hB, h2, h6, by simp only [execOp, hop, h4, Instr.storeAt, Sem.run_bind, run_sureAddr, Result.andThen_ok, hrun, Sem.run_pure], by simpa using r1, ?_, rfl, ⟨x', _, rfl, r3⟩, ?_⟩
        · cases hrw : B.rows with
          | false =>
            have ho : offV B.t p = some off := by rw [hrw] at h3; cases hBt : B.t <;> simp_all [offB]
            have := h8.put hyr.2 ho (setP_at p B.t B.x x' _ hx') hds r2
            simpa using this
          | true =>
            rw [hrw] at h3
            have hns : isStatic p = false := by
              match p, h3 with
              | [], h3 => cases hBt : B.t <;> simp_all [offB]
              | .one :: _, h3 => cases hBt : B.t <;> simp_all [offB]
              | .fst :: _, h3 => cases hBt : B.t <;> simp_all [offB]
              | .snd :: _, h3 => cases hBt : B.t <;> simp_all [offB]
              | .idx _ :: _, _ => rfl
              | .el _ :: _, _ => rfl
            simp only [ownPut, hns, Bool.false_eq_true, if_false]
            exact OwnsC_nil
        · have := length_splice (cs := cur.toList) (ds := (a.eval y).cells.toList) (off := off) (by omega)
          simpa using this
      · exact ok_fail
    · exact ok_fail
  · exact ok_fail
omit hC in
theorem ok_box {o : Oper} {T : TypeId} {x : Operand} (hop : o.op = .box T x) : EffOK P κ M w σ a o (eff Γ o σ) := by
  simp only [eff, hop]
  split
  · rename_i t u v ow ht hx
    split
    · rename_i v' hv'
      obtain ⟨rfl, rfl⟩ := castTy_some hv'
      have hxr := opd_rel hR hx
      refine .inl ⟨(a.eval x).cells, by simp [execOp, hop, Instr.box, run_newVar], ?_, hxr.2, rfl⟩
      have := relV_cells hxr.1
      cases u <;> exact this
    · exact ok_fail
  · exact ok_fail
omit hR in
theorem ok_alloc {o : Oper} {T : TypeId} (hop : o.op = .alloc T) : EffOK P κ M w σ a o (eff Γ o σ) := by
  simp only [eff, hop]
  split
  · rename_i t ht
    split
    · rename_i hp
      obtain ⟨i, d, hi⟩ := fits_info (hC.ty T t ht)
      obtain ⟨z, hz, hz1, hz2⟩ := hi.zero hp
      refine .inl ⟨z.cells, ?_, ?_, hz2 κ M w σ.tok, rfl⟩
      · simp only [execOp, hop, Instr.alloc, zeroValue, typeInfo, program, Sem.run_bind, Sem.run, Result.andThen_ok, hi.info, hz, Sem.run_pure, run_newVar]
      · have := hz1 M
        cases t <;> exact this
    · exact ok_fail
  · exact ok_fail
end ops
end Go.Lift
namespace Go.Lift
open Go Go.RowKit
variable [Tab] [Mf]
variable {P : Program} {Γ : Ctx} {base : Nat} {κ : Nat → Option Nat} {M : Mem} {σ : St} {a : Act} {w : World}
theorem run_fieldPlace {u : Ty} {f : Field} (h : fits P u (.inl f.type) = true) (hu : 0 < u.size) (b off : Nat) (w : World) : (fieldPlace ⟨b, off, none⟩ f).run P w = .ok ⟨b, off + f.offset, none⟩ w := by
  obtain ⟨i, d, hi⟩ := fits_info h
  unfold fieldPlace
  simp only [Sem.run_bind, run_sizeOf' hi, Result.andThen_ok]
  rw [if_neg (by omega)]
  simp [Addr.add_mk]
theorem atP_struct {t : Ty} {n i : Nat} {u : Ty} (hn : 0 < n) (h : t.atP (fieldPath n i) = some u) : t = .unit ∨ (∃ u, t = .one u) ∨ ∃ a b, t = .pair a b := by
  match n, i, h with
  | 1, i, h => cases t <;> simp [fieldPath, Ty.atP] at h; exact .inr (.inl ⟨_, rfl⟩)
  | n + 2, 0, h => cases t <;> simp [fieldPath, Ty.atP] at h; exact .inr (.inr ⟨_, _, rfl⟩)
  | 2, i + 1, h => cases t <;> simp [fieldPath, Ty.atP] at h; exact .inr (.inr ⟨_, _, rfl⟩)
  | n + 3, i + 1, h => cases t <;> simp [fieldPath, Ty.atP] at h; exact .inr (.inr ⟨_, _, rfl⟩)
theorem run_part {u : Ty} {T : TypeId} (h : fits P u (.inl T) = true) {M : Mem} {y : u.den} {cs : List Value} {off : Nat} (hr : relC P u M y ((cs.drop off).take u.size)) (hl : off + u.size ≤ cs.length) (w : World) :
    (part T cs.toArray off).run P w = .ok (ofCells u ((cs.drop off).take u.size)) w := by
  obtain ⟨i, d, hi⟩ := fits_info h
  unfold part
  rw [Sem.run_bind, run_isAgg hi]
  simp only [Result.andThen_ok]
  unfold ofCells
  by_cases ha : u.agg = true
  · simp only [ha, if_true, Sem.run_bind, run_sizeOf' hi, Result.andThen_ok, Sem.run_pure]
    congr 2
    apply Array.ext'
    simp [Nat.add_sub_cancel_left]
  · have h1 : u.size = 1 := by cases u <;> simp_all [Ty.agg, Ty.size]
    rw [h1] at hl hr ⊢
    simp only [ha, Bool.false_eq_true, if_false]
    have hlt : off < cs.length := by omega
    have e : (cs.drop off).take 1 = [cs[off]] := by
      rw [List.drop_eq_getElem_cons hlt]; rfl
    rw [e]
    simp [List.getElem?_eq_getElem hlt]
theorem range_of {j : Int} {n : Nat} (h : (decide (0 ≤ j) && decide (j < (n : Int))) = true) : (0 ≤ j ∧ j < (n : Int)) ∧ j.toNat < n := by
  simp only [Bool.and_eq_true, decide_eq_true_eq] at h
  omega
theorem run_asIntOf (k : IntKind) (n : Int) (w : World) : (asIntOf (.int k n)).run P w = .ok (k, n) w := rfl
section
variable (hC : COk P Γ)
include hC
theorem field_info {s : TypeId} {t u : Ty} {f : Nat} (hs : Γ.ty s = some t) (hf : f < Γ.nf s) (ha : t.atP (fieldPath (Γ.nf s) f) = some u) :
    ∃ fs fld, P.underlying s = some (.struct fs) ∧ fs[f]? = some fld ∧ offV t (fieldPath (Γ.nf s) f) = some fld.offset ∧ fits P u (.inl fld.type) = true := by
  have hfit := hC.ty s t hs
  obtain ⟨fs, hfs⟩ := fits_struct hfit (atP_struct (by omega) ha)
  have hn := hC.nf s t fs hs hfs
  rw [hn] at hf ha ⊢
  obtain ⟨u', g1, g2, g3⟩ := fits_field hfit hfs (Array.getElem?_eq_getElem hf)
  rw [ha] at g1; simp only [Option.some.injEq] at g1; subst g1
  exact ⟨fs, _, hfs, Array.getElem?_eq_getElem hf, g2, g3⟩
end
section ops
variable (hR : Rel P base κ M σ a w) (hC : COk P Γ)
include hR hC
theorem ok_fieldAddr {o : Oper} {s : TypeId} {x : Operand} {f : Nat} (hop : o.op = .fieldAddr s x f) : EffOK P κ M w σ a o (eff Γ o σ) := by
  simp only [eff, hop]
  split
  · rename_i hf
    split
    · rename_i t b p ht hx
      split
      · rename_i B u hB hu
        split
        · rename_i hc
          obtain ⟨hc1, hc2⟩ := hc
          obtain ⟨fs, fld, h1, h2, h3, h4⟩ := field_info hC ht hf hu
          obtain ⟨B', g, off, g1, g2, g3, g4⟩ := opd_rel hR hx
          rw [hB] at g1; simp only [Option.some.injEq] at g1; subst g1
          have hrun := run_fieldPlace h4 hc2 g off w
          refine ⟨_, by simp only [execOp, hop, g4, Instr.fieldAt, Sem.run_bind, run_underlying h1, run_sureAddr, Result.andThen_ok, h2, hrun, Sem.run_pure], B, g, off + fld.offset, hB, g2, ?_, rfl⟩
          rw [offB_append g3 hc1, h3]; rfl
        · exact ok_fail
      · exact ok_fail
    · rename_i t t' v own ht hx
      split
      · rename_i v' u hv' hu
        split
        · rename_i hc
          split
          · rename_i y hy
            obtain ⟨rfl, rfl⟩ := castTy_some hv'
            obtain ⟨fs, fld, h1, h2, h3, h4⟩ := field_info hC ht hf hu
            have hx' := data_eval hR hx
            unfold relV viaCells at hx'
            simp only [Ty.agg, Bool.false_eq_true, if_false, relC] at hx'
            obtain ⟨b, off, cells, he, hr, hm⟩ := hx'
            simp only [List.cons.injEq, and_true] at he
            have hrun := run_fieldPlace h4 hc b off w
            obtain ⟨r1, r2⟩ := getP_rel _ t' _ y _ cells hy h3 hr
            refine ⟨.pointer (some ⟨b, off + fld.offset, none⟩), by simp only [execOp, hop, he, Instr.fieldAt, Sem.run_bind, run_underlying h1, run_sureAddr, Result.andThen_ok, h2, hrun, Sem.run_pure], ?_⟩
            refine data_rel ?_
            unfold relV viaCells
            simp only [Ty.agg, Bool.false_eq_true, if_false, relC]
            refine ⟨b, off + fld.offset, _, rfl, r1, fun j z hj => ?_⟩
            rw [List.getElem?_take] at hj
            split at hj
            · rw [List.getElem?_drop] at hj
              have := hm _ _ hj
              rwa [← Nat.add_assoc] at this
            · cases hj
          · exact ok_fail
        · exact ok_fail
      · exact ok_fail
    · exact ok_fail
  · exact ok_fail
theorem ok_field {o : Oper} {s : TypeId} {x : Operand} {f : Nat} (hop : o.op = .field s x f) : EffOK P κ M w σ a o (eff Γ o σ) := by
  simp only [eff, hop]
  split
  · rename_i hf
    split
    · rename_i t t' v own ht hx
      split
      · rename_i v' u hv' hu
        split
        · rename_i y hy
          obtain ⟨rfl, rfl⟩ := castTy_some hv'
          obtain ⟨fs, fld, h1, h2, h3, h4⟩ := field_info hC ht hf hu
          have hxr := opd_rel hR hx
          have hagg : t'.agg = true := by
            rcases atP_struct (by omega) hu with rfl | ⟨_, rfl⟩ | ⟨_, _, rfl⟩ <;> rfl
          have hxv := hxr.1
          unfold relV viaCells at hxv
          rw [if_pos hagg] at hxv
          obtain ⟨cs, he, hr⟩ := hxv
          obtain ⟨r1, r2⟩ := getP_rel _ t' _ y _ cs.toList hy h3 hr
          have hrun := run_part h4 r1 r2 w
          simp only [Array.toArray_toList] at hrun
          refine ⟨_, by simp only [execOp, hop, he, Instr.field, Sem.run_bind, run_underlying h1, Result.andThen_ok, h2, asAgg, Sem.run_pure, hrun], relV_ofCells r1, ?_⟩
          rw [cells_ofCells r1]
          have := hxr.2
          rw [he] at this
          exact this.under h3 hu
        · exact ok_fail
      · exact ok_fail
    · exact ok_fail
  · exact ok_fail
theorem ok_indexAddr {o : Oper} {T : TypeId} {x i : Operand} (hop : o.op = .indexAddr T x i) : EffOK P κ M w σ a o (eff Γ o σ) := by
  simp only [eff, hop]
  split
  · exact ok_fail
  · rename_i j hj
    have hi := relV_int.1 (get_rel hR hj)
    split
    · rename_i e' e l own ht hx
      split
      · rename_i he; subst he
        intro hc0
        obtain ⟨hc, hjn⟩ := range_of hc0
        obtain ⟨E, hE, hfE⟩ := fits_slice (hC.ty T _ ht)
        obtain ⟨iE, dE, hiE⟩ := fits_info hfE
        have hx' := data_eval hR hx
        unfold relV viaCells at hx'
        simp only [Ty.agg, Bool.false_eq_true, if_false, relC] at hx'
        obtain ⟨v, hv, hx'⟩ := hx'
        simp only [List.cons.injEq, and_true] at hv
        rcases hx' with ⟨_, hl⟩ | ⟨b, off, cap, cells, hb, hcap, hlen, hm, hel⟩ | ⟨_, _, _, hl⟩
        · subst hl; exact absurd hjn (Nat.not_lt_zero _)
        · refine ⟨.pointer (some ⟨b, off + j.toNat * e'.size, none⟩), ?_, ?_⟩
          · simp only [execOp, hop, hi, hv, hb, Instr.indexAt, Sem.run_bind, run_asIntOf, run_underlying hE, Result.andThen_ok, Sem.run_pure, run_sizeOf' hiE, if_pos hc, Addr.add_mk, Bool.and_false]
          · refine data_rel ?_
            unfold relV viaCells
            simp only [Ty.agg, Bool.false_eq_true, if_false, relC, lget, List.getD_eq_getElem?_getD, List.getElem?_eq_getElem hjn, Option.getD_some]
            refine ⟨b, _, _, rfl, hel j.toNat hjn, fun q z hq => ?_⟩
            rw [List.getElem?_take] at hq
            split at hq
            · rw [List.getElem?_drop] at hq
              have := hm _ _ hq
              rwa [← Nat.add_assoc] at this
            · cases hq
        · subst hl; exact absurd hjn (Nat.not_lt_zero _)
      · exact ok_fail
    · rename_i n e b p ht hx
      split
      · rename_i B hB
        split
        · rename_i hat
          intro hc0
          obtain ⟨hc, hjn⟩ := range_of hc0
          obtain ⟨E, hE, hfE⟩ := fits_arr (hC.ty T _ ht)
          obtain ⟨iE, dE, hiE⟩ := fits_info hfE
          obtain ⟨B', g, off, g1, g2, g3, g4⟩ := opd_rel hR hx
          rw [hB] at g1; simp only [Option.some.injEq] at g1; subst g1
          refine ⟨.pointer (some ⟨g, off + j.toNat * e.size, none⟩), ?_, B, g, off + j.toNat * e.size, hB, g2, ?_, rfl⟩
          · simp [execOp, hop, hi, g4, Instr.indexAt, run_asIntOf, run_underlying hE, run_sureAddr, run_sizeOf' hiE, hc, Addr.add_mk]
          · rw [offB_append g3 hat]
            simp only [offV, if_pos hc, Option.map_some, Nat.add_zero]
        · exact ok_fail
      · exact ok_fail
    · rename_i n' e' n e v own ht hx
      split
      · rename_i he
        obtain ⟨rfl, rfl⟩ := he
        intro hc0
        obtain ⟨hc, hjn⟩ := range_of hc0
        obtain ⟨E, hE, hfE⟩ := fits_arr (hC.ty T _ ht)
        obtain ⟨iE, dE, hiE⟩ := fits_info hfE
        have hx' := data_eval hR hx
        unfold relV viaCells at hx'
        simp only [Ty.agg, Bool.false_eq_true, if_false, relC] at hx'
        obtain ⟨b, off, cells, hb, ⟨hlen, hel⟩, hm⟩ := hx'
        simp only [List.cons.injEq, and_true] at hb
        refine ⟨.pointer (some ⟨b, off + j.toNat * e'.size, none⟩), ?_, ?_⟩
        · simp [execOp, hop, hi, hb, Instr.indexAt, run_asIntOf, run_underlying hE, run_sureAddr, run_sizeOf' hiE, hc, Addr.add_mk]
        · refine data_rel ?_
          unfold relV viaCells
          simp only [Ty.agg, Bool.false_eq_true, if_false, relC, aget]
          refine ⟨b, _, _, rfl, hel j.toNat hjn, fun q z hq => ?_⟩
          rw [List.getElem?_take] at hq
          split at hq
          · rw [List.getElem?_drop] at hq
            have := hm _ _ hq
            rwa [← Nat.add_assoc] at this
          · cases hq
      · exact ok_fail
    · rename_i e' b ht hx
      split
      · rename_i tid e l own hB
        split
        · rename_i he; subst he
          intro hc0
          obtain ⟨hc, hjn⟩ := range_of hc0
          obtain ⟨E, hE, hfE⟩ := fits_slice (hC.ty T _ ht)
          obtain ⟨iE, dE, hiE⟩ := fits_info hfE
          obtain ⟨tid', e2, l2, own2, g, cap, g1, g2, g0, g3⟩ := opd_rel hR hx
          rw [hB] at g1
          simp only [Option.some.injEq, Box.mk.injEq, Ty.slice.injEq] at g1
          obtain ⟨_, rfl, hl, _, _⟩ := g1
          have hl := eq_of_heq hl
          subst hl
          refine ⟨.pointer (some ⟨g, j.toNat * e'.size, none⟩), ?_, _, g, j.toNat * e'.size, hB, g2, ?_, rfl⟩
          · simp [execOp, hop, hi, g3, Instr.indexAt, run_asIntOf, run_underlying hE, run_sizeOf' hiE, hc, Addr.add_mk]
          · simp only [offB, if_pos hc, offV, Option.map_some, Nat.add_zero]
        · exact ok_fail
      · exact ok_fail
    · exact ok_fail
theorem ok_index {o : Oper} {T : TypeId} {x i : Operand} (hop : o.op = .index T x i) : EffOK P κ M w σ a o (eff Γ o σ) := by
  simp only [eff, hop]
  split
  · rename_i n' e' n e v own j ht hx hj
    obtain ⟨ki, hi⟩ := int_rel hR hj
    split
    · rename_i he
      obtain ⟨rfl, rfl⟩ := he
      intro hc0
      obtain ⟨hc, hjn⟩ := range_of hc0
      obtain ⟨E, hE, hfE⟩ := fits_arr (hC.ty T _ ht)
      obtain ⟨iE, dE, hiE⟩ := fits_info hfE
      have hx' := data_eval hR hx
      unfold relV viaCells at hx'
      simp only [Ty.agg, if_true, relC] at hx'
      obtain ⟨cs, hcs, hlen, hel⟩ := hx'
      have hle : (j.toNat + 1) * e'.size ≤ n' * e'.size := Nat.mul_le_mul_right _ hjn
      simp only [Nat.add_mul, Nat.one_mul] at hle
      have r1 := hel j.toNat hjn
      have hrun := run_part hfE r1 (by omega) w
      simp only [Array.toArray_toList] at hrun
      refine ⟨_, ?_, data_rel (relV_ofCells r1)⟩
      simp [execOp, hop, hi, hcs, Instr.index, run_asIntOf, run_underlying hE, run_sizeOf' hiE, hc, hrun]
    · exact ok_fail
  · rename_i s own j ht hx hj
    obtain ⟨ki, hi⟩ := int_rel hR hj
    intro hc0
    obtain ⟨hc, hjn⟩ := range_of hc0
    have hu := fits_str (hC.ty T _ ht)
    have hs := relV_str.1 (data_eval hR hx)
    have hge : s[j.toNat]? = some s[j.toNat] := by simp [getElem?_pos, hjn]
    refine ⟨.int .u8 ((s[j.toNat]).toNat : Int), ?_, ?_⟩
    · simp [execOp, hop, hi, hs, Instr.index, run_asIntOf, run_underlying hu, hc.1, hge]
    · have : sget s j = ((s[j.toNat]).toNat : Int) := by
        unfold sget
        have : s.data.getD j.toNat 0 = s[j.toNat] := by
          have hjn' : j.toNat < s.data.size := hjn
          simp only [Array.getD, dif_pos hjn']; rfl
        rw [this]
      rw [← this]; exact data_int
  · exact ok_fail
end ops
end Go.Lift
