/-
  Single operations, first part.
-/
import Derived.Test.YtbmclapepgfjhaaGreatLiftB
import Derived.Laws.CopyRow
import Derived.Laws.Cells
import Derived.Laws.Entries
set_option linter.unusedSectionVars false
set_option linter.unusedVariables false
set_option linter.unusedSimpArgs false
namespace Go.Lift
open Go Go.RowKit
variable [Tab] [Mf]
variable {P : Program}
def znu (f : List Value → Option (List Value)) : Nat → List Value → Option (List Value)
 | 0, cs => some cs
 | n + 1, cs => match f cs with
  | some r => znu f n r
  | none => none
def zj4 : Ty → List Value → Option (List Value)
 | .int k, .int k' n :: r => if k = k' ∧ n = 0 then some r else none
 | .bool, .bool false :: r => some r
 | .str, .string s :: r => if s.size = 0 then some r else none
 | .unit, r => some r
 | .err, .nilIface :: r => some r
 | .one t, cs => zj4 t cs
 | .pair a b, cs => match zj4 a cs with
  | some r => zj4 b r
  | none => none
 | .arr n e, cs => znu (zj4 e) n cs
 | .slice _, .slice none 0 0 :: r => some r
 | _, _ => none
def y05 : Ty → Option Value → Bool
 | .int k, some (.int k' n) => decide (k = k') && n == 0
 | .bool, some (.bool b) => !b
 | .str, some (.string s) => s.size == 0
 | _, _ => false
def isNilV : List Value → Bool
 | [] => true
 | _ => false
def fits (P : Program) : Ty → Sum TypeId (List Field × Nat) → Bool
 | t, .inl T => match P.info? T, P.underlying T with
  | some i, some d => Nat.beq i.size t.size && Nat.ble i.bytes 32768 &&
   (!t.plain || (match i.zero with | some z => (match zj4 t z.cells.toList with | some r => isNilV r | none => false) | none => false)) &&
   (match t, d with
   | .int k, .int k' => decide (k = k')
   | .bool, .bool => true
   | .str, .string => true
   | .err, .interface _ => true
   | .unit, .struct fs => Nat.beq fs.size 0
   | .slice e, .slice E => fits P e (.inl E)
   | .arr n e, .array m E => Nat.beq n m && fits P e (.inl E)
   | .one t, .struct fs => (match fs.toList with | [f] => Nat.beq f.offset 0 && fits P t (.inl f.type) | _ => false)
   | .pair a b, .struct fs => (match fs.toList with
    | f :: g :: [] => Nat.beq f.offset 0 && fits P a (.inl f.type) && Nat.beq g.offset a.size && fits P b (.inl g.type)
    | f :: g :: h :: r => Nat.beq f.offset 0 && fits P a (.inl f.type) && fits P b (.inr (g :: h :: r, a.size))
    | _ => false)
   | .fn _ _, .func .. => true
   | .seq _, .func .. => true
   | .mapT k v, .map K V => k.scal && v.scal && fits P k (.inl K) && fits P v (.inl V) && (match P.info? V with | some i => y05 v i.zero | none => false)
   | _, _ => false)
  | _, _ => false
 | .pair a b, .inr (f :: g :: [], off) => Nat.beq f.offset off && fits P a (.inl f.type) && Nat.beq g.offset (off + a.size) && fits P b (.inl g.type)
 | .pair a b, .inr (f :: g :: h :: r, off) => Nat.beq f.offset off && fits P a (.inl f.type) && fits P b (.inr (g :: h :: r, off + a.size))
 | _, .inr _ => false
theorem zmf {R : List Value → Prop} {f : List Value → Option (List Value)} {s : Nat} (hf : ∀ cs r, f cs = some r → ∃ zs, cs = zs ++ r ∧ zs.length = s ∧ R zs) :
  ∀ (n : Nat) (cs r : List Value), znu f n cs = some r → ∃ zs, cs = zs ++ r ∧ zs.length = n * s ∧ ∀ i, i < n → R ((zs.drop (i * s)).take s)
 | 0, cs, r, h => by simp only [znu, Option.some.injEq] at h; subst h; exact ⟨[], rfl, by simp, fun i hi => absurd hi (Nat.not_lt_zero _)⟩
 | n + 1, cs, r, h => by
  simp only [znu] at h
  split at h
  ·rename_i r1 h1
   obtain ⟨z1, e1, l1, p1⟩ := hf cs r1 h1
   obtain ⟨z2, e2, l2, p2⟩ := zmf hf n r1 r h
   refine ⟨z1 ++ z2, by rw [e1, e2, List.append_assoc], by simp [l1, l2, Nat.add_mul]; omega, fun i hi => ?_⟩
   cases i with
   | zero => rw [Nat.zero_mul, List.drop_zero, List.take_append_of_le_length (by omega), List.take_of_length_le (by omega)]; exact p1
   | succ i =>
    have := p2 i (by omega)
    rw [List.drop_append]
    have h0 : z1.drop ((i + 1) * s) = [] := List.drop_of_length_le (by rw [l1, Nat.add_mul]; omega)
    rw [h0, List.nil_append, l1, show (i + 1) * s - s = i * s by rw [Nat.add_mul]; omega]
    exact this
  ·cases h
theorem zep (M : Mem) : ∀ (t : Ty) (cs r : List Value), t.plain = true → zj4 t cs = some r → ∃ zs, cs = zs ++ r ∧ relC P t M t.dflt zs
 | .int k, cs, r, _, h => by
  match cs, h with
  | .int k' n :: r', h =>
   simp only [zj4] at h
   split at h
   ·rename_i hk; simp only [Option.some.injEq] at h; subst h; obtain ⟨rfl, rfl⟩ := hk; exact ⟨[_], rfl, rfl⟩
   ·cases h
 | .bool, cs, r, _, h => by
  match cs, h with
  | .bool false :: r', h => simp only [zj4, Option.some.injEq] at h; subst h; exact ⟨[_], rfl, rfl⟩
 | .str, cs, r, _, h => by
  match cs, h with
  | .string s :: r', h =>
   simp only [zj4] at h
   split at h
   ·rename_i hs; simp only [Option.some.injEq] at h; subst h
    refine ⟨[_], rfl, ?_⟩
    have : s = ByteArray.empty := by
     obtain ⟨d⟩ := s
     have hd : d.size = 0 := hs
     have := Array.eq_empty_of_size_eq_zero hd
     subst this; rfl
    subst this; rfl
   ·cases h
 | .unit, cs, r, _, h => by simp only [zj4, Option.some.injEq] at h; subst h; exact ⟨[], rfl, rfl⟩
 | .err, cs, r, _, h => by
  match cs, h with
  | .nilIface :: r', h => simp only [zj4, Option.some.injEq] at h; subst h; exact ⟨[_], rfl, _, rfl, fun _ => rfl, fun h => by cases h⟩
 | .one t, cs, r, hp, h => zep M t cs r hp h
 | .pair a b, cs, r, hp, h => by
  simp only [zj4] at h
  split at h
  ·rename_i r1 h1
   simp only [Ty.plain, Bool.and_eq_true] at hp
   obtain ⟨z1, e1, p1⟩ := zep M a cs r1 hp.1 h1
   obtain ⟨z2, e2, p2⟩ := zep M b r1 r hp.2 h
   have hl := z0s a M _ z1 p1
   refine ⟨z1 ++ z2, by rw [e1, e2, List.append_assoc], ?_, ?_⟩
   ·rw [List.take_append_of_le_length (by omega), List.take_of_length_le (by omega)]; exact p1
   ·rw [List.drop_append_of_le_length (by omega), List.drop_of_length_le (by omega), List.nil_append]; exact p2
  ·cases h
 | .arr n e, cs, r, hp, h => by
  obtain ⟨zs, e1, e2, e3⟩ := zmf (R := relC P e M e.dflt) (s := e.size) (fun cs r h => by
   obtain ⟨zs, a, b⟩ := zep M e cs r hp h
   exact ⟨zs, a, z0s e M _ zs b, b⟩) n cs r h
  exact ⟨zs, e1, e2, e3⟩
 | .slice e, cs, r, _, h => by
  match cs, h with
  | .slice none 0 0 :: r', h => simp only [zj4, Option.some.injEq] at h; subst h; exact ⟨[_], rfl, _, rfl, .inl ⟨rfl, rfl⟩⟩
 | .ptr _, _, _, hp, _ => by cases hp
 | .fn _ _, _, _, hp, _ => by cases hp
 | .seq _, _, _, hp, _ => by cases hp
theorem zk0 : ∀ (t : Ty) (cs r : List Value), t.plain = true → zj4 t cs = some r → ∀ p s, (p, s) ∈ z87 t → s = none ∧ ∃ off e, offV t p = some off ∧ t.atP p = some (.slice e) ∧ off < t.size ∧ cs[off]? = some (.slice none 0 0)
 | .slice e, cs, r, _, h => by
  intro p s hm
  simp only [z87, List.mem_singleton, Prod.mk.injEq] at hm
  obtain ⟨rfl, rfl⟩ := hm
  match cs, h with
  | .slice none 0 0 :: r', _ => exact ⟨rfl, 0, e, by simp [offV], by simp [Ty.atP], by simp [Ty.size], rfl⟩
 | .one t, cs, r, hp, h => by
  intro p s hm
  simp only [z87, zjb, List.mem_map] at hm
  obtain ⟨⟨r', s'⟩, hr, he⟩ := hm
  simp only [Prod.mk.injEq] at he
  obtain ⟨rfl, rfl⟩ := he
  obtain ⟨h0, o, e, h1, h2, h3, h4⟩ := zk0 t cs r hp h r' s' hr
  exact ⟨h0, o, e, h1, h2, h3, h4⟩
 | .pair a b, cs, r, hp, h => by
  intro p s hm
  simp only [Ty.plain, Bool.and_eq_true] at hp
  simp only [zj4] at h
  split at h
  ·rename_i r1 h1
   simp only [z87, zjb, List.mem_append, List.mem_map] at hm
   rcases hm with hm | hm
   ·obtain ⟨⟨r', s'⟩, hr, he⟩ := hm
    simp only [Prod.mk.injEq] at he
    obtain ⟨rfl, rfl⟩ := he
    obtain ⟨h0, o, e, g1, g2, g3, g4⟩ := zk0 a cs r1 hp.1 h1 r' s' hr
    exact ⟨h0, o, e, g1, g2, by simp only [Ty.size]; omega, g4⟩
   ·obtain ⟨⟨r', s'⟩, hr, he⟩ := hm
    simp only [Prod.mk.injEq] at he
    obtain ⟨rfl, rfl⟩ := he
    obtain ⟨h0, o, e, g1, g2, g3, g4⟩ := zk0 b r1 r hp.2 h r' s' hr
    obtain ⟨zs, e1, e2⟩ := zep (P := ⟨default, #[]⟩) (fun _ _ => none) a cs r1 hp.1 h1
    have hl := z0s a _ _ zs e2
    refine ⟨h0, a.size + o, e, by simp only [List.cons_append, List.nil_append, offV, g1]; rfl, g2, by simp only [Ty.size]; omega, ?_⟩
    rw [e1, List.getElem?_append_right (by omega), hl, Nat.add_sub_cancel_left]; exact g4
  ·cases h
 | .int _, _, _, _, _ => by intro p s hm; cases hm
 | .bool, _, _, _, _ => by intro p s hm; cases hm
 | .str, _, _, _, _ => by intro p s hm; cases hm
 | .unit, _, _, _, _ => by intro p s hm; cases hm
 | .err, _, _, _, _ => by intro p s hm; cases hm
 | .arr _ _, _, _, _, _ => by intro p s hm; cases hm
 | .ptr _, _, _, _, _ => by intro p s hm; cases hm
 | .fn _ _, _, _, _, _ => by intro p s hm; cases hm
 | .seq _, _, _, _, _ => by intro p s hm; cases hm
structure Info (P : Program) (t : Ty) (T : TypeId) (i : TypeInfo) (d : TypeDesc) : Prop where
 info : P.info? T = some i
 und : P.underlying T = some d
 size : i.size = t.size
 bytes : i.bytes ≤ 32768
 zero : t.plain = true → ∃ z, i.zero = some z ∧ (∀ M, relC P t M t.dflt z.cells.toList) ∧ ∀ κ M w tk, z7q κ M w tk t z.cells.toList (z87 t)
 agg : t.agg = true ↔ (match d with | .struct _ | .array _ _ => true | _ => false) = true
theorem z0o {t : Ty} {T : TypeId} (h : fits P t (.inl T) = true) : ∃ i d, Info P t T i d := by
 unfold fits at h
 split at h
 ·rename_i i d hi hd
  refine ⟨i, d, hi, hd, ?_, ?_, ?_, ?_⟩
  ·simp only [Bool.and_eq_true] at h; exact Nat.eq_of_beq_eq_true h.1.1.1
  ·simp only [Bool.and_eq_true] at h; exact Nat.le_of_ble_eq_true h.1.1.2
  ·intro hp
   simp only [Bool.and_eq_true, hp, Bool.not_true, Bool.false_or] at h
   have hz := h.1.2
   split at hz
   ·rename_i z hz'
    split at hz
    ·rename_i r hr
     refine ⟨z, hz', fun M => ?_, fun κ M w tk p s hm => ?_⟩
     rotate_left
     ·obtain ⟨h0, o, e, g1, g2, _, g4⟩ := zk0 t z.cells.toList r hp hr p s hm
      exact ⟨o, e, _, g1, g2, g4, by rw [h0]; rfl⟩
     obtain ⟨zs, e1, e2⟩ := zep (P := P) M t z.cells.toList r hp hr
     cases r with
     | nil => rw [e1, List.append_nil]; exact e2
     | cons _ _ => cases hz
    ·cases hz
   ·cases hz
  ·simp only [Bool.and_eq_true] at h
   have h2 := h.2
   cases t <;> cases d <;> first | (simp only [Bool.false_eq_true] at h2; done) | simp [Ty.agg]
 ·cases h
theorem zt6 {t : Ty} {T : TypeId} {i : TypeInfo} {d : TypeDesc} (h : Info P t T i d) (w : World) : (isAgg T).run P w = .ok t.agg w := by
 have := h.agg
 unfold isAgg
 rw [Sem.run_bind, run_underlying h.und]
 simp only [Result.andThen_ok]
 cases ht : t.agg with
 | true => rw [ht] at this; have := this.1 rfl; cases d <;> first | rfl | (simp at this)
 | false => rw [ht] at this; cases d <;> first | rfl | (simp at this)
theorem z1c {t : Ty} {T : TypeId} {i : TypeInfo} {d : TypeDesc} (h : Info P t T i d) (w : World) : (sizeOf T).run P w = .ok t.size w := by
 simp [sizeOf, typeInfo, program, Sem.run, h.info, h.size]
theorem Addr.add_mk (b o n : Nat) : (⟨b, o, none⟩ : Addr).add n = ⟨b, o + n, none⟩ := by
 unfold Addr.add; split <;> simp_all
theorem zdr : ∀ (t : Ty) {M : Mem} (x : t.den) (cs : List Value), relC P t M x cs → ∀ u ∈ cs, u.oneCell' = true
 | .int _, _, _, _, h => by rw [relC] at h; subst h; intro u hu; simp at hu; subst hu; rfl
 | .bool, _, _, _, h => by rw [relC] at h; subst h; intro u hu; simp at hu; subst hu; rfl
 | .str, _, _, _, h => by rw [relC] at h; subst h; intro u hu; simp at hu; subst hu; rfl
 | .unit, _, _, _, h => by rw [relC] at h; subst h; intro u hu; simp at hu
 | .err, _, x, _, h => by
  obtain ⟨v, rfl, h1, h2⟩ := h; intro u hu; simp at hu; subst hu
  cases x with
  | true => rw [h1 rfl]; rfl
  | false => obtain ⟨t, y, h2⟩ := h2 rfl; rw [h2]; rfl
 | .one t, _, x, cs, h => zdr t x cs h
 | .pair a b, _, x, cs, h => by
  intro u hu
  rw [← List.take_append_drop a.size cs, List.mem_append] at hu
  rcases hu with hu | hu
  ·exact zdr a x.1 _ h.1 u hu
  ·exact zdr b x.2 _ h.2 u hu
 | .arr n e, _, x, cs, h => by
  intro u hu
  obtain ⟨j, hj, rfl⟩ := List.getElem_of_mem hu
  have hl := h.1
  have hs : 0 < e.size := by
   rcases Nat.eq_zero_or_pos e.size with h0 | h0
   ·rw [h0] at hl; omega
   ·exact h0
  have hi : j / e.size < n := by rw [Nat.div_lt_iff_lt_mul hs]; omega
  have hm := Nat.mod_add_div j e.size
  have hlt := Nat.mod_lt j hs
  refine zdr e _ _ (h.2 _ hi) _ (List.mem_iff_getElem?.2 ⟨j % e.size, ?_⟩)
  rw [List.getElem?_take, if_pos hlt, List.getElem?_drop, show j / e.size * e.size + j % e.size = j by rw [Nat.mul_comm]; omega, List.getElem?_eq_getElem hj]
 | .slice _, _, _, _, h => by
  obtain ⟨v, rfl, h⟩ := h; intro u hu; simp at hu; subst hu
  rcases h with ⟨rfl, _⟩ | ⟨_, _, _, _, rfl, _⟩ | ⟨_, _, rfl, _⟩ <;> rfl
 | .ptr _, _, _, _, h => by obtain ⟨_, _, _, rfl, _⟩ := h; intro u hu; simp at hu; subst hu; rfl
 | .fn _ _, _, _, _, h => by obtain ⟨_, _, _, rfl, _⟩ := h; intro u hu; simp at hu; subst hu; rfl
 | .seq _, _, _, _, h => by obtain ⟨_, _, rfl, _⟩ := h; intro u hu; simp at hu; subst hu; rfl
def zsa (w : World) (b off : Nat) (cs : List Value) : Prop := ∀ j u, cs[j]? = some u → w.cell? ⟨b, off + j, none⟩ = some u
theorem zc1 {M : Mem} {w : World} (hg : Good M w) {b off : Nat} {cs : List Value} (h : M.has b off cs) : zsa w b off cs :=
 fun j u hj => hg.2 _ _ _ (h j u hj)
theorem zmm {w : World} {g : Nat} {cur : Array Value} {e : TypeId} {fr : Nat × Nat} (h : w.heap[g]? = some (.cells cur e fr)) (off : Nat) (n : Nat) :
  zsa w g off ((cur.toList.drop off).take n) := by
 intro j u hj
 rw [List.getElem?_take] at hj
 split at hj
 ·rw [List.getElem?_drop] at hj
  simp only [World.cell?, h, Option.isSome_none, Bool.false_eq_true, if_false]
  simpa using hj
 ·cases hj
theorem zcm {t : Ty} {T : TypeId} {i : TypeInfo} {d : TypeDesc} (h : Info P t T i d) {M : Mem} {x : t.den} {cs : List Value} (hr : relC P t M x cs) {w : World} {b off : Nat} (hc : zsa w b off cs) :
  (loadVar T ⟨b, off, none⟩).run P w = .ok (z8a t cs) w := by
 have hl := z0s t M x cs hr
 unfold loadVar
 rw [Sem.run_bind, zt6 h]
 simp only [Result.andThen_ok]
 unfold z8a
 cases ha : t.agg with
 | true =>
  simp only [if_true, Sem.run_bind, z1c h, Result.andThen_ok, ← hl]
  rw [run_loadCells_list w ⟨b, off, none⟩ cs (fun j v hj => by rw [Addr.add_mk]; exact hc j v hj)]
  rfl
 | false =>
  have h1 : t.size = 1 := by cases t <;> simp_all [Ty.agg, Ty.size]
  rw [h1] at hl
  match cs, hl, hc with
  | [c], _, hc =>
   have := hc 0 c rfl
   simp only [Bool.false_eq_true, if_false, run_load, List.headD]
   simp only [Nat.add_zero] at this
   rw [this]
theorem zt5 {t : Ty} {T : TypeId} {i : TypeInfo} {d : TypeDesc} (h : Info P t T i d) {M : Mem} {x : t.den} {v : Value} (hr : relV P t M x v) {w : World} {g off : Nat} {cur : Array Value} {E : TypeId}
    (hg : w.heap[g]? = some (.cells cur E (0, 0))) (hl : off + t.size ≤ cur.size) :
    (storeVar T ⟨g, off, none⟩ v).run P w = .ok () (w.setRow g (splice cur.toList off v.cells.toList).toArray) := by
  have hs := y0y hr
  have hone := zdr t x _ (z3l hr)
  unfold storeVar
  rw [Sem.run_bind, z1c h]
  simp only [Result.andThen_ok, hs, ne_eq, not_true, if_false]
  have hst := run_storeCells_at P g off E v.cells.toList 0 cur w hg (by simp [hs]; omega) hone
  simp only [Nat.add_zero] at hst
  first
    | exact hst
    | (rw [show (storeCells ⟨g, off, none⟩ v.cells.toList).run P w = _ from hst]; rfl)
    | simpa [splice] using hst
end Go.Lift
namespace Go.Lift
open Go Go.RowKit
variable [Tab] [Mf]
variable {P : Program}
theorem za8 : ∀ (p q r : Path), z9t p q = some r → q = p ++ r ∧ z99 p = true
 | [], q, r, h => by simp only [z9t, Option.some.injEq] at h; subst h; exact ⟨rfl, rfl⟩
 | .one :: p, q, r, h => by
  match q, h with
  | .one :: q, h => obtain ⟨rfl, hs⟩ := za8 p q r h; exact ⟨rfl, hs⟩
 | .fst :: p, q, r, h => by
  match q, h with
  | .fst :: q, h => obtain ⟨rfl, hs⟩ := za8 p q r h; exact ⟨rfl, hs⟩
 | .snd :: p, q, r, h => by
  match q, h with
  | .snd :: q, h => obtain ⟨rfl, hs⟩ := za8 p q r h; exact ⟨rfl, hs⟩
 | .idx i :: p, q, r, h => by cases q <;> simp [z9t] at h
 | .el i :: p, q, r, h => by cases q <;> simp [z9t] at h
theorem zai : ∀ (p r : Path) (t u : Ty), t.atP p = some u → t.atP (p ++ r) = u.atP r
 | [], r, t, u, h => by simp only [Ty.atP, Option.some.injEq] at h; subst h; rfl
 | .one :: p, r, t, u, h => by
  cases t <;> simp only [Ty.atP, reduceCtorEq] at h
  rename_i t; exact zai p r t u h
 | .fst :: p, r, t, u, h => by
  cases t <;> simp only [Ty.atP, reduceCtorEq] at h
  rename_i a b; exact zai p r a u h
 | .snd :: p, r, t, u, h => by
  cases t <;> simp only [Ty.atP, reduceCtorEq] at h
  rename_i a b; exact zai p r b u h
 | .idx i :: p, r, t, u, h => by
  cases t <;> simp only [Ty.atP, reduceCtorEq] at h
  rename_i n e; exact zai p r e u h
 | .el i :: p, r, t, u, h => by
  cases t <;> simp only [Ty.atP, reduceCtorEq] at h
  rename_i e; exact zai p r e u h
theorem z6j : ∀ (p r : Path) (t u : Ty) (o1 : Nat), t.atP p = some u → offV t p = some o1 → offV t (p ++ r) = (offV u r).map (o1 + ·)
 | [], r, t, u, o1, h, ho => by
  simp only [Ty.atP, Option.some.injEq] at h; subst h
  simp only [offV, Option.some.injEq] at ho; subst ho
  simp
 | .one :: p, r, t, u, o1, h, ho => by
  cases t <;> simp only [Ty.atP, reduceCtorEq] at h
  rename_i t; exact z6j p r t u o1 h ho
 | .fst :: p, r, t, u, o1, h, ho => by
  cases t <;> simp only [Ty.atP, reduceCtorEq] at h
  rename_i a b; exact z6j p r a u o1 h ho
 | .snd :: p, r, t, u, o1, h, ho => by
  cases t <;> simp only [Ty.atP, reduceCtorEq] at h
  rename_i a b
  simp only [offV] at ho
  obtain ⟨o', ho', rfl⟩ := Option.map_eq_some_iff.1 ho
  simp only [List.cons_append, offV, z6j p r b u o' h ho', Option.map_map]
  congr 1; funext x; simp [Nat.add_assoc]
 | .idx i :: p, r, t, u, o1, h, ho => by
  cases t <;> simp only [Ty.atP, reduceCtorEq] at h
  rename_i n e
  simp only [offV] at ho
  split at ho
  ·rename_i hi
   obtain ⟨o', ho', rfl⟩ := Option.map_eq_some_iff.1 ho
   simp only [List.cons_append, offV, if_pos hi, z6j p r e u o' h ho', Option.map_map]
   congr 1; funext x; simp [Nat.add_assoc]
  ·cases ho
 | .el i :: p, r, t, u, o1, h, ho => by cases t <;> simp only [offV, reduceCtorEq] at ho
theorem zoc : ∀ (p : Path) (t : Ty) (o : Nat), offV t p = some o → ∃ u, t.atP p = some u
 | [], t, _, _ => ⟨t, by simp [Ty.atP]⟩
 | .one :: p, t, o, h => by
  cases t <;> simp only [offV, reduceCtorEq] at h
  rename_i t; exact zoc p t o h
 | .fst :: p, t, o, h => by
  cases t <;> simp only [offV, reduceCtorEq] at h
  rename_i a b; exact zoc p a o h
 | .snd :: p, t, o, h => by
  cases t <;> simp only [offV, reduceCtorEq] at h
  rename_i a b
  obtain ⟨o', ho', _⟩ := Option.map_eq_some_iff.1 h
  exact zoc p b o' ho'
 | .idx i :: p, t, o, h => by
  cases t <;> simp only [offV, reduceCtorEq] at h
  rename_i n e
  split at h
  ·obtain ⟨o', ho', _⟩ := Option.map_eq_some_iff.1 h
   exact zoc p e o' ho'
  ·cases h
 | .el i :: p, t, o, h => by cases t <;> simp only [offV, reduceCtorEq] at h
section own
variable {κ : Nat → Option Nat} {M : Mem} {w : World} {tk : Nat → Bool}
theorem z7q.under {t u : Ty} {cs : List Value} {own : Own} {p : Path} {off : Nat} (h : z7q κ M w tk t cs own) (ho : offV t p = some off) (ha : t.atP p = some u) :
  z7q κ M w tk u ((cs.drop off).take u.size) (zby own p) := by
 intro r s hm
 simp only [zby, List.mem_filterMap] at hm
 obtain ⟨⟨q, s'⟩, hq, hm⟩ := hm
 obtain ⟨r', hr, he⟩ := Option.map_eq_some_iff.1 hm
 simp only [Prod.mk.injEq] at he
 obtain ⟨rfl, rfl⟩ := he
 obtain ⟨rfl, _⟩ := za8 p q r' hr
 obtain ⟨o, e, v, h1, h2, h3, h4⟩ := h _ _ hq
 rw [z6j p r' t u off ha ho] at h1
 obtain ⟨o2, h5, rfl⟩ := Option.map_eq_some_iff.1 h1
 rw [zai p r' t u ha] at h2
 have hle := zah r' u o2 h2 h5
 simp only [Ty.size] at hle
 refine ⟨o2, e, v, h5, h2, ?_, h4⟩
 rw [List.getElem?_take, if_pos (by omega), List.getElem?_drop]; exact h3
theorem z7q.nonstatic {u : Ty} {cs : List Value} {own : Own} {p : Path} (hp : z99 p = false) : z7q κ M w tk u cs (zby own p) := by
 intro r s hm
 simp only [zby, List.mem_filterMap] at hm
 obtain ⟨⟨q, s'⟩, hq, hm⟩ := hm
 obtain ⟨r', hr, he⟩ := Option.map_eq_some_iff.1 hm
 obtain ⟨_, hs⟩ := za8 p q r' hr
 rw [hp] at hs; cases hs
theorem zlh : ∀ (p q : Path) (t u v : Ty) (o1 o2 : Nat), z9t p q = none → z9t q p = none → z99 p = true → t.atP p = some u → offV t p = some o1 → t.atP q = some v → offV t q = some o2 →
  o2 + v.size ≤ o1 ∨ o1 + u.size ≤ o2
 | [], q, _, _, _, _, _, h, _, _, _, _, _, _ => by simp [z9t] at h
 | p, [], _, _, _, _, _, _, h, _, _, _, _, _ => by simp [z9t] at h
 | .idx _ :: _, _ :: _, _, _, _, _, _, _, _, hs, _, _, _, _ => by simp [z99] at hs
 | .el _ :: _, _ :: _, _, _, _, _, _, _, _, hs, _, _, _, _ => by simp [z99] at hs
 | .one :: p, s :: q, t, u, v, o1, o2, h1, h2, hs, a1, b1, a2, b2 => by
  cases t <;> simp only [offV, reduceCtorEq] at b1
  rename_i t
  cases s <;> simp only [offV, reduceCtorEq] at b2
  simp only [z9t] at h1 h2
  exact zlh p q t u v o1 o2 h1 h2 hs a1 b1 a2 b2
 | .fst :: p, s :: q, t, u, v, o1, o2, h1, h2, hs, a1, b1, a2, b2 => by
  cases t <;> simp only [offV, reduceCtorEq] at b1
  rename_i a b
  cases s <;> simp only [offV, reduceCtorEq] at b2
  ·simp only [z9t] at h1 h2
   exact zlh p q a u v o1 o2 h1 h2 hs a1 b1 a2 b2
  ·obtain ⟨o', ho', rfl⟩ := Option.map_eq_some_iff.1 b2
   have := zah p a o1 a1 b1
   right; omega
 | .snd :: p, s :: q, t, u, v, o1, o2, h1, h2, hs, a1, b1, a2, b2 => by
  cases t <;> simp only [offV, reduceCtorEq] at b1
  rename_i a b
  obtain ⟨o', ho', rfl⟩ := Option.map_eq_some_iff.1 b1
  cases s <;> simp only [offV, reduceCtorEq] at b2
  ·have := zah q a o2 a2 b2
   left; omega
  ·obtain ⟨o'', ho'', rfl⟩ := Option.map_eq_some_iff.1 b2
   simp only [z9t] at h1 h2
   have := zlh p q b u v o' o'' h1 h2 hs a1 ho' a2 ho''
   omega
theorem z7q.put {t u : Ty} {cs ds : List Value} {own n : Own} {p : Path} {off : Nat} (h : z7q κ M w tk t cs own) (hn : z7q κ M w tk u ds n) (ho : offV t p = some off) (ha : t.atP p = some u)
  (hd : ds.length = u.size) (hl : off + u.size ≤ cs.length) : z7q κ M w tk t (splice cs off ds) (ztn own p n) := by
 intro q s hm
 unfold ztn at hm
 split at hm
 ·rename_i hs
  rw [List.mem_append] at hm
  rcases hm with hm | hm
  ·simp only [List.mem_filter, Bool.and_eq_true, Option.isNone_iff_eq_none] at hm
   obtain ⟨hm, hn1, hn2⟩ := hm
   obtain ⟨o, e, v, h1, h2, h3, h4⟩ := h q s hm
   have hap := zlh p q t u (.slice e) off o hn1 hn2 hs ha ho h2 h1
   simp only [Ty.size] at hap
   refine ⟨o, e, v, h1, h2, ?_, h4⟩
   rw [getElem?_splice _ _ _ _ (by omega), if_neg (by omega)]; exact h3
  ·simp only [zjb, List.mem_map] at hm
   obtain ⟨⟨r, s'⟩, hr, he⟩ := hm
   simp only [Prod.mk.injEq] at he
   obtain ⟨rfl, rfl⟩ := he
   obtain ⟨o, e, v, h1, h2, h3, h4⟩ := hn r s' hr
   have hlt : o < ds.length := by
    rcases Nat.lt_or_ge o ds.length with hlt | hge
    ·exact hlt
    ·rw [List.getElem?_eq_none hge] at h3; cases h3
   refine ⟨off + o, e, v, ?_, ?_, ?_, h4⟩
   ·rw [z6j p r t u off ha ho, h1]; rfl
   ·rw [zai p r t u ha]; exact h2
   ·rw [getElem?_splice _ _ _ _ (by omega), if_pos (by omega), Nat.add_sub_cancel_left]; exact h3
 ·cases hm
end own
end Go.Lift
namespace Go.Lift
open Go Go.RowKit
variable [Tab] [Mf]
variable {P : Program}
theorem zfq : ∀ (t : Ty) (fs : List Field) (off i : Nat) (f : Field), 2 ≤ fs.length → fits P t (.inr (fs, off)) = true → fs[i]? = some f →
  ∃ u o, t.atP (z0q fs.length i) = some u ∧ offV t (z0q fs.length i) = some o ∧ off + o = f.offset ∧ fits P u (.inl f.type) = true
 | .pair a b, f :: g :: [], off, i, f', _, h, hi => by
  rw [fits.eq_2] at h
  simp only [Bool.and_eq_true] at h
  obtain ⟨⟨⟨h1, h2⟩, h3⟩, h4⟩ := h
  have h1 := Nat.eq_of_beq_eq_true h1
  have h3 := Nat.eq_of_beq_eq_true h3
  match i, hi with
  | 0, hi =>
   simp only [List.getElem?_cons_zero, Option.some.injEq] at hi; subst hi
   exact ⟨a, 0, by simp [z0q, Ty.atP], by simp [z0q, offV], by omega, h2⟩
  | 1, hi =>
   simp only [List.getElem?_cons_succ, List.getElem?_cons_zero, Option.some.injEq] at hi; subst hi
   exact ⟨b, a.size, by simp [z0q, Ty.atP], by simp [z0q, offV], by omega, h4⟩
  | i + 2, hi => simp at hi
 | .pair a b, f :: g :: k :: r, off, i, f', _, h, hi => by
  rw [fits.eq_3] at h
  simp only [Bool.and_eq_true] at h
  obtain ⟨⟨h1, h2⟩, h3⟩ := h
  have h1 := Nat.eq_of_beq_eq_true h1
  match i, hi with
  | 0, hi =>
   simp only [List.getElem?_cons_zero, Option.some.injEq] at hi; subst hi
   exact ⟨a, 0, by simp [z0q, Ty.atP], by simp [z0q, offV], by omega, h2⟩
  | i + 1, hi =>
   simp only [List.getElem?_cons_succ] at hi
   obtain ⟨u, o, g1, g2, g3, g4⟩ := zfq b (g :: k :: r) (off + a.size) i f' (by simp) h3 hi
   have e : z0q (f :: g :: k :: r).length (i + 1) = .snd :: z0q (g :: k :: r).length i := by simp [z0q]
   rw [e]
   exact ⟨u, a.size + o, g1, by simp only [offV, g2]; rfl, by omega, g4⟩
 | .pair _ _, [], _, _, _, hl, _, _ => by simp at hl
 | .pair _ _, [_], _, _, _, hl, _, _ => by simp at hl
 | .int _, _, _, _, _, _, h, _ => by simp [fits] at h
 | .bool, _, _, _, _, _, h, _ => by simp [fits] at h
 | .str, _, _, _, _, _, h, _ => by simp [fits] at h
 | .unit, _, _, _, _, _, h, _ => by simp [fits] at h
 | .err, _, _, _, _, _, h, _ => by simp [fits] at h
 | .one _, _, _, _, _, _, h, _ => by simp [fits] at h
 | .arr _ _, _, _, _, _, _, h, _ => by simp [fits] at h
 | .slice _, _, _, _, _, _, h, _ => by simp [fits] at h
 | .ptr _, _, _, _, _, _, h, _ => by simp [fits] at h
 | .fn _ _, _, _, _, _, _, h, _ => by simp [fits] at h
 | .seq _, _, _, _, _, _, h, _ => by simp [fits] at h
 | .mapT _ _, _, _, _, _, _, h, _ => by simp [fits] at h
theorem zic {t : Ty} {T : TypeId} {fs : Array Field} (h : fits P t (.inl T) = true) (hu : P.underlying T = some (.struct fs)) {i : Nat} {f : Field} (hi : fs[i]? = some f) :
  ∃ u, t.atP (z0q fs.size i) = some u ∧ offV t (z0q fs.size i) = some f.offset ∧ fits P u (.inl f.type) = true := by
 have hi' : fs.toList[i]? = some f := by simpa using hi
 unfold fits at h
 split at h
 ·rename_i i' d hi1 hd
  rw [hu] at hd
  simp only [Option.some.injEq] at hd; subst hd
  simp only [Bool.and_eq_true] at h
  have h2 := h.2
  cases t with
  | unit =>
   have := Nat.eq_of_beq_eq_true h2
   have : fs = #[] := Array.eq_empty_of_size_eq_zero this
   subst this; simp at hi
  | one t =>
   simp only at h2
   split at h2
   ·rename_i f0 hf
    rw [hf] at hi'
    simp only [Bool.and_eq_true] at h2
    have hs : fs.size = 1 := by rw [← Array.length_toList, hf]; rfl
    match i, hi' with
    | 0, hi' =>
     simp only [List.getElem?_cons_zero, Option.some.injEq] at hi'; subst hi'
     rw [hs]
     exact ⟨t, by simp [z0q, Ty.atP], by simp [z0q, offV, (Nat.eq_of_beq_eq_true h2.1).symm], h2.2⟩
    | i + 1, hi' => simp at hi'
   ·cases h2
  | pair a b =>
   simp only at h2
   have hs : fs.size = fs.toList.length := by simp
   rw [hs]
   split at h2
   ·rename_i f0 g0 hf
    simp only [Bool.and_eq_true] at h2
    have hf2 : fits P (.pair a b) (.inr (fs.toList, 0)) = true := by
     rw [hf, fits.eq_2]; simp only [Bool.and_eq_true, Nat.zero_add]; exact h2
    obtain ⟨u, o, g1, g2, g3, g4⟩ := zfq (.pair a b) fs.toList 0 i f (by rw [hf]; simp) hf2 hi'
    exact ⟨u, g1, by rw [g2]; congr 1; omega, g4⟩
   ·rename_i f0 g0 k0 r0 hf
    simp only [Bool.and_eq_true] at h2
    have hf2 : fits P (.pair a b) (.inr (fs.toList, 0)) = true := by
     rw [hf, fits.eq_3]; simp only [Bool.and_eq_true, Nat.zero_add]; exact h2
    obtain ⟨u, o, g1, g2, g3, g4⟩ := zfq (.pair a b) fs.toList 0 i f (by rw [hf]; simp) hf2 hi'
    exact ⟨u, g1, by rw [g2]; congr 1; omega, g4⟩
   ·cases h2
  | _ => simp only [Bool.false_eq_true] at h2
 ·cases h
theorem z44 {e : Ty} {T : TypeId} (h : fits P (.slice e) (.inl T) = true) : ∃ E, P.underlying T = some (.slice E) ∧ fits P e (.inl E) = true := by
 unfold fits at h
 split at h
 ·rename_i i d hi hd
  simp only [Bool.and_eq_true] at h
  cases d <;> first | exact ⟨_, hd, h.2⟩ | exact absurd h.2 Bool.false_ne_true
 ·cases h
theorem ze2 {n : Nat} {e : Ty} {T : TypeId} (h : fits P (.arr n e) (.inl T) = true) : ∃ E, P.underlying T = some (.array n E) ∧ fits P e (.inl E) = true := by
 unfold fits at h
 split at h
 ·rename_i i d hi hd
  simp only [Bool.and_eq_true] at h
  cases d <;> first | (have h2 := h.2; simp only [Bool.and_eq_true] at h2; have := Nat.eq_of_beq_eq_true h2.1; subst this; exact ⟨_, hd, h2.2⟩) | exact absurd h.2 Bool.false_ne_true
 ·cases h
theorem z6l {t : Ty} {T : TypeId} (h : fits P t (.inl T) = true) (ht : t = .unit ∨ (∃ u, t = .one u) ∨ ∃ a b, t = .pair a b) : ∃ fs, P.underlying T = some (.struct fs) := by
 unfold fits at h
 split at h
 ·rename_i i d hi hd
  simp only [Bool.and_eq_true] at h
  have h2 := h.2
  rcases ht with rfl | ⟨u, rfl⟩ | ⟨a, b, rfl⟩ <;> cases d <;> first | exact ⟨_, hd⟩ | exact absurd h2 Bool.false_ne_true
 ·cases h
theorem fits_int {k : IntKind} {T : TypeId} (h : fits P (.int k) (.inl T) = true) : P.underlying T = some (.int k) := by
 unfold fits at h
 split at h
 ·rename_i i d hi hd
  simp only [Bool.and_eq_true] at h
  cases d <;> first | (have := of_decide_eq_true h.2; subst this; exact hd) | exact absurd h.2 Bool.false_ne_true
 ·cases h
theorem ze1 {T : TypeId} (h : fits P .str (.inl T) = true) : P.underlying T = some .string := by
 unfold fits at h
 split at h
 ·rename_i i d hi hd
  simp only [Bool.and_eq_true] at h
  cases d <;> first | exact hd | exact absurd h.2 Bool.false_ne_true
 ·cases h
theorem fits_bool {T : TypeId} (h : fits P .bool (.inl T) = true) : P.underlying T = some .bool := by
 unfold fits at h
 split at h
 ·rename_i i d hi hd
  simp only [Bool.and_eq_true] at h
  cases d <;> first | exact hd | exact absurd h.2 Bool.false_ne_true
 ·cases h
theorem znx {rows : Bool} {t u : Ty} {M : Mem} {x : t.den} {y : u.den} {p : Path} {off : Nat} {cs : List Value} (h : zny P rows t M x cs) (ho : offB rows t x p = some off) (hg : getP t x p u = some y) :
  relC P u M y ((cs.drop off).take u.size) ∧ off + u.size ≤ cs.length := by
 cases rows with
 | false => exact zdy p t x y off cs hg (by cases t <;> exact ho) (by cases t <;> exact h)
 | true =>
  cases t with
  | slice e =>
   match p, ho, hg with
   | .el i :: p, ho, hg =>
    simp only [offB] at ho
    split at ho
    ·rename_i hi
     obtain ⟨o', ho', rfl⟩ := Option.map_eq_some_iff.1 ho
     have hin : i.toNat < x.length := by omega
     simp only [getP, lget, List.getD_eq_getElem?_getD, List.getElem?_eq_getElem hin, Option.getD_some] at hg
     obtain ⟨h1, h2⟩ := zdy p e _ y o' _ hg ho' (h.2 i.toNat hin)
     have hle : (i.toNat + 1) * e.size ≤ x.length * e.size := Nat.mul_le_mul_right _ hin
     have hl := h.1
     simp only [List.length_take, List.length_drop, Nat.add_mul, Nat.one_mul] at h2 hle
     refine ⟨?_, by omega⟩
     rw [List.drop_take, List.take_take, List.drop_drop] at h1
     rwa [show min u.size (e.size - o') = u.size from by omega] at h1
    ·cases ho
   | [], ho, _ => simp [offB] at ho
   | .one :: _, ho, _ => simp [offB] at ho
   | .fst :: _, ho, _ => simp [offB] at ho
   | .snd :: _, ho, _ => simp [offB] at ho
   | .idx _ :: _, ho, _ => simp [offB] at ho
  | _ => exact absurd h id
theorem y12 {rows : Bool} {t u : Ty} {M : Mem} {x x' : t.den} {y : u.den} {p : Path} {off : Nat} {cs ds : List Value} (h : zny P rows t M x cs) (ho : offB rows t x p = some off) (hs : setP t x p u y = some x') (hd : relC P u M y ds) :
  zny P rows t M x' (splice cs off ds) ∧ off + u.size ≤ cs.length ∧ ∀ q, offB rows t x' q = offB rows t x q := by
 have hld := z0s u M y ds hd
 cases rows with
 | false =>
  have h' : relC P t M x cs := by cases t <;> exact h
  have ho' : offV t p = some off := by cases t <;> exact ho
  have hle := zah p t off (zcl p t x x' y hs) ho'
  have hl := z0s t M x cs h'
  have := zdp p t x x' y off cs ds hs ho' h' hd
  exact ⟨by cases t <;> exact this, by omega, fun q => by cases t <;> rfl⟩
 | true =>
  cases t with
  | slice e =>
   match p, ho, hs with
   | .el i :: p, ho, hs =>
    simp only [offB] at ho
    split at ho
    ·rename_i hi
     obtain ⟨o', ho', rfl⟩ := Option.map_eq_some_iff.1 ho
     have hin : i.toNat < x.length := by omega
     simp only [setP, lget, List.getD_eq_getElem?_getD, List.getElem?_eq_getElem hin, Option.getD_some] at hs
     split at hs
     ·rename_i v hv
      simp only [Option.some.injEq] at hs; subst hs
      have hat := zah p e o' (zcl p e _ v y hv) ho'
      have hle : (i.toNat + 1) * e.size ≤ x.length * e.size := Nat.mul_le_mul_right _ hin
      simp only [Nat.add_mul, Nat.one_mul] at hle
      have hl := h.1
      have ih := zdp p e _ v y o' _ ds hv ho' (h.2 i.toNat hin) hd
      refine ⟨⟨by rw [length_splice (by omega)]; simpa [lset] using hl, fun j hj => ?_⟩, by omega, fun q => ?_⟩
      ·have hj' : j < x.length := by simpa [lset] using hj
       by_cases hij : j = i.toNat
       ·subst hij
        have e2 := zk4 (cs := cs) (ds := ds) (off := i.toNat * e.size + o') (s := i.toNat * e.size) (n := e.size) (by omega) (by omega) (by omega)
        rw [Nat.add_sub_cancel_left] at e2
        rw [e2]
        simpa [lset] using ih
       ·have hout : j * e.size + e.size ≤ i.toNat * e.size + o' ∨ i.toNat * e.size + o' + ds.length ≤ j * e.size := by
         rcases Nat.lt_or_ge j i.toNat with hlt | hge
         ·left
          have : (j + 1) * e.size ≤ i.toNat * e.size := Nat.mul_le_mul_right _ hlt
          simp only [Nat.add_mul, Nat.one_mul] at this; omega
         ·right
          have : (i.toNat + 1) * e.size ≤ j * e.size := Nat.mul_le_mul_right _ (by omega)
          simp only [Nat.add_mul, Nat.one_mul] at this; omega
        rw [zht (by omega) hout]
        have hne : i.toNat ≠ j := fun h => hij h.symm
        simp only [lset, List.getElem_set, if_neg hne]
        exact h.2 j hj'
      ·match q with
       | .el _ :: _ => simp [offB, lset]
       | [] => simp [offB]
       | .one :: _ => simp [offB]
       | .fst :: _ => simp [offB]
       | .snd :: _ => simp [offB]
       | .idx _ :: _ => simp [offB]
     ·cases hs
    ·cases ho
   | [], ho, _ => simp [offB] at ho
   | .one :: _, ho, _ => simp [offB] at ho
   | .fst :: _, ho, _ => simp [offB] at ho
   | .snd :: _, ho, _ => simp [offB] at ho
   | .idx _ :: _, ho, _ => simp [offB] at ho
  | _ => exact absurd h id
theorem zod {rows : Bool} {t u : Ty} {x : t.den} {p r : Path} {o1 : Nat} (ho : offB rows t x p = some o1) (ha : t.atP p = some u) : offB rows t x (p ++ r) = (offV u r).map (o1 + ·) := by
 cases rows with
 | false =>
  have ho' : offV t p = some o1 := by cases t <;> exact ho
  have := z6j p r t u o1 ha ho'
  cases t <;> exact this
 | true =>
  cases t with
  | slice e =>
   match p, ho, ha with
   | .el i :: p, ho, ha =>
    simp only [offB] at ho
    split at ho
    ·rename_i hi
     obtain ⟨o', ho', rfl⟩ := Option.map_eq_some_iff.1 ho
     simp only [Ty.atP] at ha
     simp only [List.cons_append, offB, if_pos hi, z6j p r e u o' ha ho', Option.map_map]
     congr 1; funext z; simp [Nat.add_assoc]
    ·cases ho
   | [], ho, _ => simp [offB] at ho
   | .one :: _, ho, _ => simp [offB] at ho
   | .fst :: _, ho, _ => simp [offB] at ho
   | .snd :: _, ho, _ => simp [offB] at ho
   | .idx _ :: _, ho, _ => simp [offB] at ho
  | _ => simp [offB] at ho
end Go.Lift
namespace Go.Lift
open Go Go.RowKit
variable [Tab] [Mf]
def zyj (P : Program) (g : FuncId) (args : Array Value) (M : Mem) (w : World) (e : Ty) (l : List e.den) : Prop :=
 Calls P g args w fun e' w' => ∃ M' b cap cur E, e' = .returned (.slice (some ⟨b, 0, none⟩) l.length cap) ∧ Good M' w' ∧ Grow M w M' w' ∧ w.heap.size ≤ b ∧ w'.heap[b]? = some (.cells cur E (0, 0)) ∧
  zn2 P e M' l cur.toList ∧ (∀ o, M' b o = none) ∧ l.length ≤ cap ∧ cap ≤ maxLen
def FCn (P : Program) (s : Sig) : Prop :=
 ∀ e x l, s.listRun e x = some l → ∀ M w vs, Good M w → ze8 P M s.ats x vs → zyj P s.f vs.toArray M w e l
def z89 (P : Program) (g : FuncId) (args : Array Value) (M : Mem) (w : World) (e : Ty) (l : List e.den) : Prop :=
 Calls P g args w fun e' w' => ∃ M' v, e' = .returned v ∧ Good M' w' ∧ Grow M w M' w' ∧ relV P (.slice e) M' l v ∧
  (v = .slice none 0 0 ∨ ∃ b n cap, v = .slice (some ⟨b, 0, none⟩) n cap ∧ w.heap.size ≤ b ∧ zlk M' w' e.size b n cap)
def FCo (P : Program) (s : Sig) : Prop :=
 ∀ e x l, s.listRun e x = some l → ∀ M w vs, Good M w → ze8 P M s.ats x vs → z89 P s.f vs.toArray M w e l
def zv5 (P : Program) (g : FuncId) (args : Array Value) (M : Mem) (w : World) (e : Ty) (F : ByteArray → Option (List e.den)) (x : ByteArray) : Prop :=
 Calls P g args w fun e' w' => ∃ M' b E gf lb, e' = .returned (.func (.func gf) #[] lb) ∧ Good M' w' ∧ Grow M w M' w' ∧ w.heap.size ≤ b ∧ w'.heap[b]? = some (.cells #[.string x] E (0, 0)) ∧ (∀ o, M' b o = none) ∧ zrf P (encS e) M' gf lb b F
def FCi (P : Program) (f : FuncId) (I : ItSig) : Prop := Enters P f ∧ ∀ (s sep : ByteArray) (M : Mem) (w : World), Good M w → zv5 P f #[.string s, .string sep] M w I.e (I.F sep) s
structure COk (P : Program) (Γ : Ctx) : Prop where
 ty : ∀ T t, Γ.ty T = some t → fits P t (.inl T) = true
 mf : Γ.maps = Mf.on
 nf : ∀ T t fs, Γ.ty T = some t → P.underlying T = some (.struct fs) → Γ.nf T = fs.size
 sig : ∀ f s, Γ.sig f = some s → s.f = f ∧ Enters P f ∧ FC P s
 news : ∀ f s, Γ.news f = true → Γ.sig f = some s → FCn P s
 owns : ∀ f s, Γ.owns f = true → Γ.sig f = some s → FCo P s
 iters : ∀ f I, Γ.iters f = some I → FCi P f I
 eq : ∀ T t, Γ.eqs T = true → Γ.ty T = some t → ∀ (M : Mem) (x y : t.den) (u v : Value) (w : World) (p q : Operand), relV P t M x u → relV P t M y v →
  (do eqGuard .eql T p q u v; binOp .eql T u v : Sem Value).run P w = .ok (.bool (t.eqb x y)) w ∧ (do eqGuard .neq T p q u v; binOp .neq T u v : Sem Value).run P w = .ok (.bool (!t.eqb x y)) w
variable {P : Program} {Γ : Ctx} {base : Nat} {κ : Nat → Option Nat} {M : Mem} {σ : St} {a : Act} {w : World}
def z6p (P : Program) (κ : Nat → Option Nat) (M : Mem) (w : World) (σ : St) (a : Act) (o : Oper) : Eff → Prop
 | .fail => True
 | .val v => ∃ u, (execOp a.eval o).run P w = .ok (.value u) w ∧ RelA P κ M w σ.box σ.tok v u
 | .chk c v => c = true → ∃ u, (execOp a.eval o).run P w = .ok (.value u) w ∧ RelA P κ M w σ.box σ.tok v u
 | .cat x y => x.size + y.size ≤ 4294967296 → (execOp a.eval o).run P w = .ok (.value (.string (x ++ y))) w
 | .bytes x => ∃ v w', (execOp a.eval o).run P w = .ok (.value v) w' ∧ Below w.heap.size w w' ∧ ∃ M', Good M' w' ∧ (∀ b, b < w.heap.size → M' b = M b) ∧ relV P (.slice (.int .u8)) M' (z2u x) v
 | .call s x => ∃ vs : Array Value, (execOp a.eval o).run P w = .ok (.enter s.f vs) w ∧ ze8 P M s.ats x vs.toList ∧ FC P s
 | .newRow _ e y => ∀ l, y = some l → ∃ g args, (execOp a.eval o).run P w = .ok (.enter g args) w ∧ zyj P g args M w e l
 | .newOwn e y => ∀ l, y = some l → ∃ g args, (execOp a.eval o).run P w = .ok (.enter g args) w ∧ z89 P g args M w e l
 | .newIter e F x => ∃ g args, (execOp a.eval o).run P w = .ok (.enter g args) w ∧ zv5 P g args M w e F x
 | .dyn _ r φ x => ∀ y, φ x = some y → ∃ g args, (execOp a.eval o).run P w = .ok (.enter g args) w ∧ zd6 P g args M w fun M' v => relV P r M' y v
 | .alloc B => (∃ cells, (execOp a.eval o).run P w = .ok (.value (.pointer (some ⟨w.heap.size, 0, none⟩))) (w.alloc (.cells cells B.tid)) ∧ zny P B.rows B.t M B.x cells.toList ∧ z7q κ M w σ.tok B.t cells.toList B.own ∧ B.rows = false) ∨
  ∃ tid k v, B = ⟨tid, .mapT k v, [], [], true⟩ ∧ Mf.on = true ∧ (execOp a.eval o).run P w = .ok (.value (.map (some w.heap.size))) (w.alloc (.map #[] 0))
 | .store b B' => (∃ B g cur cur' E, σ.box b = some B ∧ κ b = some g ∧ w.heap[g]? = some (.cells cur E (0, 0)) ∧ (execOp a.eval o).run P w = .ok .skip (w.setRow g cur') ∧ zny P B'.rows B'.t M B'.x cur'.toList ∧
  z7q κ M w σ.tok B'.t cur'.toList B'.own ∧ B'.tid = B.tid ∧ Alike B B' ∧ cur'.size = cur.size) ∨
  ∃ tid k v l l' own g es es' c c', Mf.on = true ∧ σ.box b = some ⟨tid, .mapT k v, l, own, true⟩ ∧ B' = ⟨tid, .mapT k v, l', [], true⟩ ∧ κ b = some g ∧ w.heap[g]? = some (.map es c) ∧ (execOp a.eval o).run P w = .ok .skip (w.putObj g (.map es' c')) ∧ zeu k v l' es'
 | .fresh c e l => c = true → ∃ cells E, (execOp a.eval o).run P w = .ok (.value (.slice (some ⟨w.heap.size, 0, none⟩) l.length l.length)) (w.alloc (.cells cells E)) ∧ z55 P e M l cells.toList ∧ l.length ≤ maxLen
 | .row c _ e l => c = true → ∃ cells E, (execOp a.eval o).run P w = .ok (.value (.slice (some ⟨w.heap.size, 0, none⟩) l.length l.length)) (w.alloc (.cells cells E)) ∧ z55 P e M l cells.toList ∧ l.length ≤ maxLen
 | .app e l m src => l.length + m.length ≤ 4294967296 → ∃ v w' M', (execOp a.eval o).run P w = .ok (.value v) w' ∧ Good M' w' ∧ Mem.le M M' ∧ relV P (.slice e) M' (l ++ m) v ∧ Below 0 w w' ∧
  ((v = .slice none 0 0 ∧ w' = w ∧ M' = M) ∨ ∃ g n cap, v = .slice (some ⟨g, 0, none⟩) n cap ∧ zlk M' w' e.size g n cap ∧ (g = w.heap.size ∨ ∃ k, src = some k ∧ κ k = some g ∧ σ.tok k = true ∧ ∀ o : Obj, w.heap[g]? = some o → isC o = true) ∧
   (∀ j, j ≠ g → j < w.heap.size → w'.heap[j]? = w.heap[j]?) ∧ ∀ j, j ≠ g → M' j = M j)
theorem z06 {o : Oper} : z6p P κ M w σ a o .fail := True.intro
theorem z2q {t u : Ty} {x : t.den} {y : u.den} (h : z3t t u x = some y) : ∃ e : t = u, y = e ▸ x := by
 unfold z3t at h
 split at h
 ·rename_i e; simp only [Option.some.injEq] at h; exact ⟨e, h.symm⟩
 ·cases h
theorem zr9 {t u : Ty} {x : t.den} {y : u.den} (h : z3t t u x = some y) {v : Value} (hr : relV P t M x v) : relV P u M y v := by
 obtain ⟨rfl, rfl⟩ := z2q h
 exact hr
theorem z2n {k : IntKind} {x : Int} {v : Value} : relV P (.int k) M x v ↔ v = .int k x := by
 unfold relV z0h; simp [Ty.agg, relC]
theorem z3h {x : Bool} {v : Value} : relV P .bool M x v ↔ v = .bool x := by
 unfold relV z0h; simp [Ty.agg, relC]
theorem z5j {x : ByteArray} {v : Value} : relV P .str M x v ↔ v = .string x := by
 unfold relV z0h; simp [Ty.agg, relC]
theorem z3v {tk : Nat → Bool} {t : Ty} {cs : List Value} : z7q κ M w tk t cs [] := by intro p s h; cases h
theorem z6w {k : IntKind} {x : Int} : RelA P κ M w σ.box σ.tok (.data (.int k) x []) (.int k x) := ⟨z2n.2 rfl, z3v⟩
theorem z5q {x : Bool} : RelA P κ M w σ.box σ.tok (.data .bool x []) (.bool x) := ⟨z3h.2 rfl, z3v⟩
theorem zl6 {x : ByteArray} : RelA P κ M w σ.box σ.tok (.data .str x []) (.string x) := ⟨z5j.2 rfl, z3v⟩
theorem z5k {t : Ty} {x : t.den} {v : Value} (h : relV P t M x v) : RelA P κ M w σ.box σ.tok (.data t x []) v := ⟨h, z3v⟩
theorem z3o (hR : Rel P base κ M σ a w) {x : Operand} {v : AVal} (h : σ.opd x = some v) : RelA P κ M w σ.box σ.tok v (a.eval x) := by
 unfold St.opd at h
 split at h
 ·exact hR.env _ _ h
 ·simp only [Option.some.injEq] at h; subst h; exact z6w
 ·simp only [Option.some.injEq] at h; subst h; exact z5q
 ·simp only [Option.some.injEq] at h; subst h; exact zl6
 ·simp only [Option.some.injEq] at h; subst h; exact ⟨#[], rfl, rfl⟩
 ·simp only [Option.some.injEq] at h; subst h; rfl
 ·simp only [Option.some.injEq] at h; subst h; rfl
 ·cases h
theorem zl0 {v : Option AVal} {t : Ty} {y : t.den} (h : AVal.get v t = some y) : ∃ own, v = some (.data t y own) := by
 unfold AVal.get at h
 split at h
 ·obtain ⟨rfl, rfl⟩ := z2q h; exact ⟨_, rfl⟩
 ·cases h
theorem z9a (hR : Rel P base κ M σ a w) {x : Operand} {t : Ty} {y : t.den} (h : AVal.get (σ.opd x) t = some y) : relV P t M y (a.eval x) := by
 obtain ⟨own, h⟩ := zl0 h
 exact (z3o hR h).1
theorem y2d (hR : Rel P base κ M σ a w) {x : Operand} {j : Int} (h : AVal.int (σ.opd x) = some j) : ∃ k, a.eval x = .int k j := by
 unfold AVal.int at h
 split at h
 ·rename_i k v own he
  simp only [Option.some.injEq] at h
  subst h
  exact ⟨k, z2n.1 (z3o hR he).1⟩
 ·cases h
theorem zfz (hR : Rel P base κ M σ a w) {x : Operand} {b : Bool} (h : σ.bool x = some b) : a.eval x = .bool b := z3h.1 (z9a hR h)
theorem z12 (hR : Rel P base κ M σ a w) {x : Operand} {t : Ty} {y : t.den} {own : Own} (h : σ.opd x = some (.data t y own)) : relV P t M y (a.eval x) := (z3o hR h).1
theorem zxh (hR : Rel P base κ M σ a w) {T : Option Ty} {y : Operand} {v : AVal} (h : σ.opdN T y = some v) : RelA P κ M w σ.box σ.tok v (a.eval y) := by
 unfold St.opdN at h
 split at h
 ·simp only [Option.some.injEq] at h
  subst h
  refine ⟨?_, ?_⟩
  ·unfold relV z0h; simp only [Ty.agg, Bool.false_eq_true, if_false]; exact ⟨_, rfl, .inl ⟨rfl, rfl⟩⟩
  ·intro p s hm
   simp only [List.mem_singleton, Prod.mk.injEq] at hm
   obtain ⟨rfl, rfl⟩ := hm
   exact ⟨0, _, .slice none 0 0, by simp [offV], by rw [Ty.atP], rfl, rfl⟩
 ·exact z3o hR h
theorem y4u (hR : Rel P base κ M σ a w) {T : Option Ty} {y : Operand} {t : Ty} {z : t.den} (h : AVal.get (σ.opdN T y) t = some z) : relV P t M z (a.eval y) := by
 obtain ⟨own, h⟩ := zl0 h
 exact (zxh hR h).1
section ops
variable (hR : Rel P base κ M σ a w) (hC : COk P Γ)
include hR
theorem y1r {o : Oper} {x : Operand} (hop : o.op = .move x ∨ o.op = .assign x) : z6p P κ M w σ a o (eff Γ o σ) := by
 have hrun : (execOp a.eval o).run P w = .ok (.value (a.eval x)) w := by
  rcases hop with h | h <;> simp [execOp, h]
 have key : z6p P κ M w σ a o (match (generalizing := false) x with
  | .const (.slice none 0 0) => match (generalizing := false) Γ.ty o.type with
   | some (.slice e) => .val (.data (.slice e) [] [([], none)])
   | _ => .fail
  | x => zoe (σ.opd x)) := by
  split
  ·split
   ·refine ⟨_, hrun, ?_, ?_⟩
    ·unfold relV z0h; simp only [Ty.agg, Bool.false_eq_true, if_false]; exact ⟨_, rfl, .inl ⟨rfl, rfl⟩⟩
    ·intro p s hm
     simp only [List.mem_singleton, Prod.mk.injEq] at hm
     obtain ⟨rfl, rfl⟩ := hm
     exact ⟨0, _, .slice none 0 0, by simp [offV], by rw [Ty.atP], rfl, rfl⟩
   ·exact z06
  ·unfold zoe
   split
   ·rename_i v hv
    exact ⟨_, hrun, z3o hR hv⟩
   ·exact z06
 rcases hop with h | h <;> (simp only [eff, h]; exact key)
theorem y6o {o : Oper} {c x y : Operand} (hop : o.op = .pick c x y) : z6p P κ M w σ a o (eff Γ o σ) := by
 simp only [eff, hop]
 split
 ·rename_i g hg
  have e1 := zfz hR hg
  split
  ·rename_i v hv
   refine ⟨.bool v, ?_, z5q⟩
   simp only [execOp, hop, e1, asBool, Sem.run_bind, Sem.run_pure, Result.andThen_ok]
   cases g with
   | true => simp only [if_true] at hv ⊢; rw [zfz hR hv]
   | false => simp only [Bool.false_eq_true, if_false] at hv ⊢; rw [zfz hR hv]
  ·exact z06
 ·exact z06
theorem zvx {o : Oper} {x : Operand} (hop : o.op = .nilCheck x) : z6p P κ M w σ a o (eff Γ o σ) := by
 simp only [eff, hop]
 split
 ·rename_i b p hv
  have h := z3o hR hv
  have h' := h
  obtain ⟨B, g, off, _, _, _, h4⟩ := h
  exact ⟨a.eval x, by simp only [execOp, hop, h4, Sem.run_pure], h'⟩
 ·rename_i t v own hv
  have h := z12 hR hv
  have h' := h
  obtain ⟨b, off, cells, h1, _⟩ : relC P (.ptr t) M v [a.eval x] := h
  simp only [List.cons.injEq, and_true] at h1
  exact ⟨a.eval x, by simp only [execOp, hop, h1, Sem.run_pure], z5k h'⟩
 ·exact z06
theorem zz8 {o : Oper} {x : Operand} {i : Nat} (hop : o.op = .extract x i) : z6p P κ M w σ a o (eff Γ o σ) := by
 simp only [eff, hop]
 split
 ·rename_i ts v hv
  obtain ⟨vs, h1, h2⟩ := z3o hR hv
  unfold zoe
  split
  ·rename_i r hr
   have key : ∀ (ts : List Ty) (x : Args ts) (l : List Value) (i : Nat) (r : AVal), ze8 P M ts x l → zmc ts x i = some r → ∃ u, l[i]? = some u ∧ RelA P κ M w σ.box σ.tok r u := by
    intro ts
    induction ts with
    | nil => intro x l i r _ h; simp [zmc] at h
    | cons t rest ih =>
     intro x l i r hl h
     cases rest with
     | nil =>
      obtain ⟨u, rfl, hu⟩ := hl
      cases i with
      | zero => simp only [zmc, Option.some.injEq] at h; subst h; exact ⟨u, rfl, z5k hu⟩
      | succ i => simp [zmc] at h
     | cons t' rest =>
      obtain ⟨u, rs, rfl, hu, hrs⟩ := hl
      cases i with
      | zero => simp only [zmc, Option.some.injEq] at h; subst h; exact ⟨u, rfl, z5k hu⟩
      | succ i => simp only [zmc] at h; exact ih x.2 rs i r hrs h
   obtain ⟨u, hu, hr'⟩ := key ts v vs.toList i r h2 hr
   refine ⟨u, ?_, hr'⟩
   simp only [Array.getElem?_toList] at hu
   simp [execOp, hop, Instr.extract, h1, hu]
  ·exact z06
 ·exact z06
theorem y6n {o : Oper} {op : UnOp} {T : TypeId} {x : Operand} (hop : o.op = .unOp op T x) : z6p P κ M w σ a o (eff Γ o σ) := by
 cases op <;> simp only [eff, hop] <;> try exact z06
 ·split
  ·rename_i k n own hv
   have e := z2n.1 (z12 hR hv)
   exact ⟨_, by simp [execOp, hop, Op.unary, e, Op.intArith], z6w⟩
  ·exact z06
 ·split
  ·rename_i b hb
   have e := zfz hR hb
   exact ⟨_, by simp [execOp, hop, Op.unary, e], z5q⟩
  ·exact z06
end ops
end Go.Lift
namespace Go.Lift
open Go Go.RowKit
variable [Tab] [Mf]
variable {P : Program} {Γ : Ctx} {base : Nat} {κ : Nat → Option Nat} {M : Mem} {σ : St} {a : Act} {w : World}
theorem z6h (ad : Addr) : (Instr.sureAddr (.pointer (some ad))).run P w = .ok ad w := rfl
theorem zqi (T : TypeId) (v : Value) (w : World) : (newVar T v).run P w = .ok ⟨w.heap.size, 0, none⟩ (w.alloc (.cells v.cells T)) := rfl
theorem zm1 {u : Ty} : ∀ (p : Path) (t : Ty) (x : t.den) (y : u.den), getP t x p u = some y → t.atP p = some u
 | [], t, x, y, h => by
  unfold getP z3t at h
  split at h
  ·rename_i e; subst e; simp [Ty.atP]
  ·cases h
 | .one :: p, t, x, y, h => by
  cases t <;> simp only [getP, reduceCtorEq] at h
  exact zm1 p _ x y h
 | .fst :: p, t, x, y, h => by
  cases t <;> simp only [getP, reduceCtorEq] at h
  exact zm1 p _ x.1 y h
 | .snd :: p, t, x, y, h => by
  cases t <;> simp only [getP, reduceCtorEq] at h
  exact zm1 p _ x.2 y h
 | .idx i :: p, t, x, y, h => by
  cases t <;> simp only [getP, reduceCtorEq] at h
  exact zm1 p _ _ y h
 | .el i :: p, t, x, y, h => by
  cases t <;> simp only [getP, reduceCtorEq] at h
  exact zm1 p _ _ y h
section ops
variable (hR : Rel P base κ M σ a w) (hC : COk P Γ)
include hR hC
theorem y6p {o : Oper} {T : TypeId} {x : Operand} (hop : o.op = .load T x) : z6p P κ M w σ a o (eff Γ o σ) := by
 simp only [eff, hop]
 split
 ·rename_i u b p hu hx
  split
  ·rename_i B hB
   split
   ·rename_i v hv
    obtain ⟨B', g, off, h1, h2, h3, h4⟩ := z3o hR hx
    rw [hB] at h1; simp only [Option.some.injEq] at h1; subst h1
    obtain ⟨g', cur, E, h5, h6, h7, h8, _⟩ := (hR.bx b B hB).cells (zsg h3)
    rw [h2] at h5; simp only [Option.some.injEq] at h5; subst h5
    obtain ⟨i, d, hi⟩ := z0o (hC.ty T u hu)
    obtain ⟨r1, r2⟩ := znx h7 h3 hv
    have hrun := zcm hi r1 (w := w) (zmm h6 off u.size)
    refine ⟨_, by simp only [execOp, hop, h4, Instr.loadAt, Sem.run_bind, z6h, Result.andThen_ok, hrun, Sem.run_pure], z4m r1, ?_⟩
    rw [show (z8a u ((cur.toList.drop off).take u.size)).cells.toList = (cur.toList.drop off).take u.size from ?_]
    ·by_cases hs : z99 p = true
     ·cases hrw : B.rows with
      | false =>
       have ho : offV B.t p = some off := by rw [hrw] at h3; cases hBt : B.t <;> simp_all [offB]
       obtain ⟨u', ha⟩ := zoc p B.t off ho
       have : u' = u := by
        have := zm1 p B.t B.x v hv
        rw [ha] at this; simpa using this
       subst this
       exact h8.under ho ha
      | true =>
       rw [hrw] at h3
       match p, hs, h3 with
       | [], _, h3 => cases hBt : B.t <;> simp_all [offB]
       | .one :: _, _, h3 => cases hBt : B.t <;> simp_all [offB]
       | .fst :: _, _, h3 => cases hBt : B.t <;> simp_all [offB]
       | .snd :: _, _, h3 => cases hBt : B.t <;> simp_all [offB]
       | .idx _ :: _, hs, _ => simp [z99] at hs
       | .el _ :: _, hs, _ => simp [z99] at hs
     ·exact z7q.nonstatic (by simpa using hs)
    ·exact zlc r1
   ·exact z06
  ·exact z06
 ·rename_i u t v own hu hx
  split
  ·rename_i v' hv'
   obtain ⟨rfl, rfl⟩ := z2q hv'
   have hx' := z12 hR hx
   unfold relV z0h at hx'
   simp only [Ty.agg, Bool.false_eq_true, if_false, relC] at hx'
   obtain ⟨b, off, cells, he, hr, hm⟩ := hx'
   simp only [List.cons.injEq, and_true] at he
   obtain ⟨i, d, hi⟩ := z0o (hC.ty T _ hu)
   have hrun := zcm hi hr (w := w) (zc1 hR.good hm)
   exact ⟨_, by simp only [execOp, hop, he, Instr.loadAt, Sem.run_bind, z6h, Result.andThen_ok, hrun, Sem.run_pure], z5k (z4m hr)⟩
  ·exact z06
 ·exact z06
theorem y4a {o : Oper} {T : TypeId} {x y : Operand} (hop : o.op = .store T x y) : z6p P κ M w σ a o (eff Γ o σ) := by
 simp only [eff, hop]
 split
 ·rename_i u b p u' v ow hu hx hy
  split
  ·rename_i B v' hB hv'
   split
   ·rename_i x' hx'
    obtain ⟨rfl, rfl⟩ := z2q hv'
    obtain ⟨B', g, off, h1, h2, h3, h4⟩ := z3o hR hx
    rw [hB] at h1; simp only [Option.some.injEq] at h1; subst h1
    obtain ⟨g', cur, E, h5, h6, h7, h8, _⟩ := (hR.bx b B hB).cells (zsg h3)
    rw [h2] at h5; simp only [Option.some.injEq] at h5; subst h5
    obtain ⟨i, d, hi⟩ := z0o (hC.ty T _ hu)
    have hyr := zxh hR hy
    have hyv := hyr.1
    obtain ⟨r1, r2, r3⟩ := y12 h7 h3 hx' (z3l hyv)
    have hrun := zt5 hi hyv (w := w) h6 (by simpa using r2)
    have hds := z0s _ M _ _ (z3l hyv)
    refine .inl ⟨B, g, cur, (splice cur.toList off (a.eval y).cells.toList).toArray, E, hB, h2, h6, by simp only [execOp, hop, h4, Instr.storeAt, Sem.run_bind, z6h, Result.andThen_ok, hrun, Sem.run_pure], by simpa using r1, ?_, rfl, ⟨x', _, rfl, r3⟩, ?_⟩
    ·cases hrw : B.rows with
     | false =>
      have ho : offV B.t p = some off := by rw [hrw] at h3; cases hBt : B.t <;> simp_all [offB]
      have := h8.put hyr.2 ho (zcl p B.t B.x x' _ hx') hds r2
      simpa using this
     | true =>
      rw [hrw] at h3
      have hns : z99 p = false := by
       match p, h3 with
       | [], h3 => cases hBt : B.t <;> simp_all [offB]
       | .one :: _, h3 => cases hBt : B.t <;> simp_all [offB]
       | .fst :: _, h3 => cases hBt : B.t <;> simp_all [offB]
       | .snd :: _, h3 => cases hBt : B.t <;> simp_all [offB]
       | .idx _ :: _, _ => rfl
       | .el _ :: _, _ => rfl
      simp only [ztn, hns, Bool.false_eq_true, if_false]
      exact z3v
    ·have := length_splice (cs := cur.toList) (ds := (a.eval y).cells.toList) (off := off) (by omega)
     simpa using this
   ·exact z06
  ·exact z06
 ·exact z06
omit hC in
theorem ok_box {o : Oper} {T : TypeId} {x : Operand} (hop : o.op = .box T x) : z6p P κ M w σ a o (eff Γ o σ) := by
 simp only [eff, hop]
 split
 ·rename_i t u v ow ht hx
  split
  ·rename_i v' hv'
   obtain ⟨rfl, rfl⟩ := z2q hv'
   have hxr := z3o hR hx
   refine .inl ⟨(a.eval x).cells, by simp [execOp, hop, Instr.box, zqi], ?_, hxr.2, rfl⟩
   have := z3l hxr.1
   cases u <;> exact this
  ·exact z06
 ·exact z06
omit hR in
theorem y4f {o : Oper} {T : TypeId} (hop : o.op = .alloc T) : z6p P κ M w σ a o (eff Γ o σ) := by
 simp only [eff, hop]
 split
 ·rename_i t ht
  split
  ·rename_i hp
   obtain ⟨i, d, hi⟩ := z0o (hC.ty T t ht)
   obtain ⟨z, hz, hz1, hz2⟩ := hi.zero hp
   refine .inl ⟨z.cells, ?_, ?_, hz2 κ M w σ.tok, rfl⟩
   ·simp only [execOp, hop, Instr.alloc, zeroValue, typeInfo, program, Sem.run_bind, Sem.run, Result.andThen_ok, hi.info, hz, Sem.run_pure, zqi]
   ·have := hz1 M
    cases t <;> exact this
  ·exact z06
 ·exact z06
end ops
end Go.Lift
namespace Go.Lift
open Go Go.RowKit
variable [Tab] [Mf]
variable {P : Program} {Γ : Ctx} {base : Nat} {κ : Nat → Option Nat} {M : Mem} {σ : St} {a : Act} {w : World}
theorem ziv {u : Ty} {f : Field} (h : fits P u (.inl f.type) = true) (hu : 0 < u.size) (b off : Nat) (w : World) : (fieldPlace ⟨b, off, none⟩ f).run P w = .ok ⟨b, off + f.offset, none⟩ w := by
 obtain ⟨i, d, hi⟩ := z0o h
 unfold fieldPlace
 simp only [Sem.run_bind, z1c hi, Result.andThen_ok]
 rw [if_neg (by omega)]
 simp [Addr.add_mk]
theorem zrc {t : Ty} {n i : Nat} {u : Ty} (hn : 0 < n) (h : t.atP (z0q n i) = some u) : t = .unit ∨ (∃ u, t = .one u) ∨ ∃ a b, t = .pair a b := by
 match n, i, h with
 | 1, i, h => cases t <;> simp [z0q, Ty.atP] at h; exact .inr (.inl ⟨_, rfl⟩)
 | n + 2, 0, h => cases t <;> simp [z0q, Ty.atP] at h; exact .inr (.inr ⟨_, _, rfl⟩)
 | 2, i + 1, h => cases t <;> simp [z0q, Ty.atP] at h; exact .inr (.inr ⟨_, _, rfl⟩)
 | n + 3, i + 1, h => cases t <;> simp [z0q, Ty.atP] at h; exact .inr (.inr ⟨_, _, rfl⟩)
theorem zhy {u : Ty} {T : TypeId} (h : fits P u (.inl T) = true) {M : Mem} {y : u.den} {cs : List Value} {off : Nat} (hr : relC P u M y ((cs.drop off).take u.size)) (hl : off + u.size ≤ cs.length) (w : World) :
  (part T cs.toArray off).run P w = .ok (z8a u ((cs.drop off).take u.size)) w := by
 obtain ⟨i, d, hi⟩ := z0o h
 unfold part
 rw [Sem.run_bind, zt6 hi]
 simp only [Result.andThen_ok]
 unfold z8a
 by_cases ha : u.agg = true
 ·simp only [ha, if_true, Sem.run_bind, z1c hi, Result.andThen_ok, Sem.run_pure]
  congr 2
  apply Array.ext'
  simp [Nat.add_sub_cancel_left]
 ·have h1 : u.size = 1 := by cases u <;> simp_all [Ty.agg, Ty.size]
  rw [h1] at hl hr ⊢
  simp only [ha, Bool.false_eq_true, if_false]
  have hlt : off < cs.length := by omega
  have e : (cs.drop off).take 1 = [cs[off]] := by
   rw [List.drop_eq_getElem_cons hlt]; rfl
  rw [e]
  simp [List.getElem?_eq_getElem hlt]
theorem zi1 {j : Int} {n : Nat} (h : (decide (0 ≤ j) && decide (j < (n : Int))) = true) : (0 ≤ j ∧ j < (n : Int)) ∧ j.toNat < n := by
 simp only [Bool.and_eq_true, decide_eq_true_eq] at h
 omega
theorem zaa (k : IntKind) (n : Int) (w : World) : (asIntOf (.int k n)).run P w = .ok (k, n) w := rfl
section
variable (hC : COk P Γ)
include hC
theorem zm5 {s : TypeId} {t u : Ty} {f : Nat} (hs : Γ.ty s = some t) (hf : f < Γ.nf s) (ha : t.atP (z0q (Γ.nf s) f) = some u) :
  ∃ fs fld, P.underlying s = some (.struct fs) ∧ fs[f]? = some fld ∧ offV t (z0q (Γ.nf s) f) = some fld.offset ∧ fits P u (.inl fld.type) = true := by
 have hfit := hC.ty s t hs
 obtain ⟨fs, hfs⟩ := z6l hfit (zrc (by omega) ha)
 have hn := hC.nf s t fs hs hfs
 rw [hn] at hf ha ⊢
 obtain ⟨u', g1, g2, g3⟩ := zic hfit hfs (Array.getElem?_eq_getElem hf)
 rw [ha] at g1; simp only [Option.some.injEq] at g1; subst g1
 exact ⟨fs, _, hfs, Array.getElem?_eq_getElem hf, g2, g3⟩
end
section ops
variable (hR : Rel P base κ M σ a w) (hC : COk P Γ)
include hR hC
theorem zts {o : Oper} {s : TypeId} {x : Operand} {f : Nat} (hop : o.op = .fieldAddr s x f) : z6p P κ M w σ a o (eff Γ o σ) := by
 simp only [eff, hop]
 split
 ·rename_i hf
  split
  ·rename_i t b p ht hx
   split
   ·rename_i B u hB hu
    split
    ·rename_i hc
     obtain ⟨hc1, hc2⟩ := hc
     obtain ⟨fs, fld, h1, h2, h3, h4⟩ := zm5 hC ht hf hu
     obtain ⟨B', g, off, g1, g2, g3, g4⟩ := z3o hR hx
     rw [hB] at g1; simp only [Option.some.injEq] at g1; subst g1
     have hrun := ziv h4 hc2 g off w
     refine ⟨_, by simp only [execOp, hop, g4, Instr.fieldAt, Sem.run_bind, run_underlying h1, z6h, Result.andThen_ok, h2, hrun, Sem.run_pure], B, g, off + fld.offset, hB, g2, ?_, rfl⟩
     rw [zod g3 hc1, h3]; rfl
    ·exact z06
   ·exact z06
  ·rename_i t t' v own ht hx
   split
   ·rename_i v' u hv' hu
    split
    ·rename_i hc
     split
     ·rename_i y hy
      obtain ⟨rfl, rfl⟩ := z2q hv'
      obtain ⟨fs, fld, h1, h2, h3, h4⟩ := zm5 hC ht hf hu
      have hx' := z12 hR hx
      unfold relV z0h at hx'
      simp only [Ty.agg, Bool.false_eq_true, if_false, relC] at hx'
      obtain ⟨b, off, cells, he, hr, hm⟩ := hx'
      simp only [List.cons.injEq, and_true] at he
      have hrun := ziv h4 hc b off w
      obtain ⟨r1, r2⟩ := zdy _ t' _ y _ cells hy h3 hr
      refine ⟨.pointer (some ⟨b, off + fld.offset, none⟩), by simp only [execOp, hop, he, Instr.fieldAt, Sem.run_bind, run_underlying h1, z6h, Result.andThen_ok, h2, hrun, Sem.run_pure], ?_⟩
      refine z5k ?_
      unfold relV z0h
      simp only [Ty.agg, Bool.false_eq_true, if_false, relC]
      refine ⟨b, off + fld.offset, _, rfl, r1, fun j z hj => ?_⟩
      rw [List.getElem?_take] at hj
      split at hj
      ·rw [List.getElem?_drop] at hj
       have := hm _ _ hj
       rwa [← Nat.add_assoc] at this
      ·cases hj
     ·exact z06
    ·exact z06
   ·exact z06
  ·exact z06
 ·exact z06
theorem y4c {o : Oper} {s : TypeId} {x : Operand} {f : Nat} (hop : o.op = .field s x f) : z6p P κ M w σ a o (eff Γ o σ) := by
 simp only [eff, hop]
 split
 ·rename_i hf
  split
  ·rename_i t t' v own ht hx
   split
   ·rename_i v' u hv' hu
    split
    ·rename_i y hy
     obtain ⟨rfl, rfl⟩ := z2q hv'
     obtain ⟨fs, fld, h1, h2, h3, h4⟩ := zm5 hC ht hf hu
     have hxr := z3o hR hx
     have hagg : t'.agg = true := by
      rcases zrc (by omega) hu with rfl | ⟨_, rfl⟩ | ⟨_, _, rfl⟩ <;> rfl
     have hxv := hxr.1
     unfold relV z0h at hxv
     rw [if_pos hagg] at hxv
     obtain ⟨cs, he, hr⟩ := hxv
     obtain ⟨r1, r2⟩ := zdy _ t' _ y _ cs.toList hy h3 hr
     have hrun := zhy h4 r1 r2 w
     simp only [Array.toArray_toList] at hrun
     refine ⟨_, by simp only [execOp, hop, he, Instr.field, Sem.run_bind, run_underlying h1, Result.andThen_ok, h2, asAgg, Sem.run_pure, hrun], z4m r1, ?_⟩
     rw [zlc r1]
     have := hxr.2
     rw [he] at this
     exact this.under h3 hu
    ·exact z06
   ·exact z06
  ·exact z06
 ·exact z06
theorem ztr {o : Oper} {T : TypeId} {x i : Operand} (hop : o.op = .indexAddr T x i) : z6p P κ M w σ a o (eff Γ o σ) := by
 simp only [eff, hop]
 split
 ·exact z06
 ·rename_i j hj
  have hi := z2n.1 (z9a hR hj)
  split
  ·rename_i e' e l own ht hx
   split
   ·rename_i he; subst he
    intro hc0
    obtain ⟨hc, hjn⟩ := zi1 hc0
    obtain ⟨E, hE, hfE⟩ := z44 (hC.ty T _ ht)
    obtain ⟨iE, dE, hiE⟩ := z0o hfE
    have hx' := z12 hR hx
    unfold relV z0h at hx'
    simp only [Ty.agg, Bool.false_eq_true, if_false, relC] at hx'
    obtain ⟨v, hv, hx'⟩ := hx'
    simp only [List.cons.injEq, and_true] at hv
    rcases hx' with ⟨_, hl⟩ | ⟨b, off, cap, cells, hb, hcap, hlen, hm, hel⟩ | ⟨_, _, _, hl⟩
    ·subst hl; exact absurd hjn (Nat.not_lt_zero _)
    ·refine ⟨.pointer (some ⟨b, off + j.toNat * e'.size, none⟩), ?_, ?_⟩
     ·simp only [execOp, hop, hi, hv, hb, Instr.indexAt, Sem.run_bind, zaa, run_underlying hE, Result.andThen_ok, Sem.run_pure, z1c hiE, if_pos hc, Addr.add_mk, Bool.and_false]
     ·refine z5k ?_
      unfold relV z0h
      simp only [Ty.agg, Bool.false_eq_true, if_false, relC, lget, List.getD_eq_getElem?_getD, List.getElem?_eq_getElem hjn, Option.getD_some]
      refine ⟨b, _, _, rfl, hel j.toNat hjn, fun q z hq => ?_⟩
      rw [List.getElem?_take] at hq
      split at hq
      ·rw [List.getElem?_drop] at hq
       have := hm _ _ hq
       rwa [← Nat.add_assoc] at this
      ·cases hq
    ·subst hl; exact absurd hjn (Nat.not_lt_zero _)
   ·exact z06
  ·rename_i n e b p ht hx
   split
   ·rename_i B hB
    split
    ·rename_i hat
     intro hc0
     obtain ⟨hc, hjn⟩ := zi1 hc0
     obtain ⟨E, hE, hfE⟩ := ze2 (hC.ty T _ ht)
     obtain ⟨iE, dE, hiE⟩ := z0o hfE
     obtain ⟨B', g, off, g1, g2, g3, g4⟩ := z3o hR hx
     rw [hB] at g1; simp only [Option.some.injEq] at g1; subst g1
     refine ⟨.pointer (some ⟨g, off + j.toNat * e.size, none⟩), ?_, B, g, off + j.toNat * e.size, hB, g2, ?_, rfl⟩
     ·simp [execOp, hop, hi, g4, Instr.indexAt, zaa, run_underlying hE, z6h, z1c hiE, hc, Addr.add_mk]
     ·rw [zod g3 hat]
      simp only [offV, if_pos hc, Option.map_some, Nat.add_zero]
    ·exact z06
   ·exact z06
  ·rename_i n' e' n e v own ht hx
   split
   ·rename_i he
    obtain ⟨rfl, rfl⟩ := he
    intro hc0
    obtain ⟨hc, hjn⟩ := zi1 hc0
    obtain ⟨E, hE, hfE⟩ := ze2 (hC.ty T _ ht)
    obtain ⟨iE, dE, hiE⟩ := z0o hfE
    have hx' := z12 hR hx
    unfold relV z0h at hx'
    simp only [Ty.agg, Bool.false_eq_true, if_false, relC] at hx'
    obtain ⟨b, off, cells, hb, ⟨hlen, hel⟩, hm⟩ := hx'
    simp only [List.cons.injEq, and_true] at hb
    refine ⟨.pointer (some ⟨b, off + j.toNat * e'.size, none⟩), ?_, ?_⟩
    ·simp [execOp, hop, hi, hb, Instr.indexAt, zaa, run_underlying hE, z6h, z1c hiE, hc, Addr.add_mk]
    ·refine z5k ?_
     unfold relV z0h
     simp only [Ty.agg, Bool.false_eq_true, if_false, relC, aget]
     refine ⟨b, _, _, rfl, hel j.toNat hjn, fun q z hq => ?_⟩
     rw [List.getElem?_take] at hq
     split at hq
     ·rw [List.getElem?_drop] at hq
      have := hm _ _ hq
      rwa [← Nat.add_assoc] at this
     ·cases hq
   ·exact z06
  ·rename_i e' b ht hx
   split
   ·rename_i tid e l own hB
    split
    ·rename_i he; subst he
     intro hc0
     obtain ⟨hc, hjn⟩ := zi1 hc0
     obtain ⟨E, hE, hfE⟩ := z44 (hC.ty T _ ht)
     obtain ⟨iE, dE, hiE⟩ := z0o hfE
     obtain ⟨tid', e2, l2, own2, g, cap, g1, g2, g0, g3⟩ := z3o hR hx
     rw [hB] at g1
     simp only [Option.some.injEq, Box.mk.injEq, Ty.slice.injEq] at g1
     obtain ⟨_, rfl, hl, _, _⟩ := g1
     have hl := eq_of_heq hl
     subst hl
     refine ⟨.pointer (some ⟨g, j.toNat * e'.size, none⟩), ?_, _, g, j.toNat * e'.size, hB, g2, ?_, rfl⟩
     ·simp [execOp, hop, hi, g3, Instr.indexAt, zaa, run_underlying hE, z1c hiE, hc, Addr.add_mk]
     ·simp only [offB, if_pos hc, offV, Option.map_some, Nat.add_zero]
    ·exact z06
   ·exact z06
  ·exact z06
theorem y4b {o : Oper} {T : TypeId} {x i : Operand} (hop : o.op = .index T x i) : z6p P κ M w σ a o (eff Γ o σ) := by
 simp only [eff, hop]
 split
 ·rename_i n' e' n e v own j ht hx hj
  obtain ⟨ki, hi⟩ := y2d hR hj
  split
  ·rename_i he
   obtain ⟨rfl, rfl⟩ := he
   intro hc0
   obtain ⟨hc, hjn⟩ := zi1 hc0
   obtain ⟨E, hE, hfE⟩ := ze2 (hC.ty T _ ht)
   obtain ⟨iE, dE, hiE⟩ := z0o hfE
   have hx' := z12 hR hx
   unfold relV z0h at hx'
   simp only [Ty.agg, if_true, relC] at hx'
   obtain ⟨cs, hcs, hlen, hel⟩ := hx'
   have hle : (j.toNat + 1) * e'.size ≤ n' * e'.size := Nat.mul_le_mul_right _ hjn
   simp only [Nat.add_mul, Nat.one_mul] at hle
   have r1 := hel j.toNat hjn
   have hrun := zhy hfE r1 (by omega) w
   simp only [Array.toArray_toList] at hrun
   refine ⟨_, ?_, z5k (z4m r1)⟩
   simp [execOp, hop, hi, hcs, Instr.index, zaa, run_underlying hE, z1c hiE, hc, hrun]
  ·exact z06
 ·rename_i s own j ht hx hj
  obtain ⟨ki, hi⟩ := y2d hR hj
  intro hc0
  obtain ⟨hc, hjn⟩ := zi1 hc0
  have hu := ze1 (hC.ty T _ ht)
  have hs := z5j.1 (z12 hR hx)
  have hge : s[j.toNat]? = some s[j.toNat] := by simp [getElem?_pos, hjn]
  refine ⟨.int .u8 ((s[j.toNat]).toNat : Int), ?_, ?_⟩
  ·simp [execOp, hop, hi, hs, Instr.index, zaa, run_underlying hu, hc.1, hge]
  ·have : sget s j = ((s[j.toNat]).toNat : Int) := by
    unfold sget
    have : s.data.getD j.toNat 0 = s[j.toNat] := by
     have hjn' : j.toNat < s.data.size := hjn
     simp only [Array.getD, dif_pos hjn']; rfl
    rw [this]
   rw [← this]; exact z6w
 ·exact z06
end ops
end Go.Lift
