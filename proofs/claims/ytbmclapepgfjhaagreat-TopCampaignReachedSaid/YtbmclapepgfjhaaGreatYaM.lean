/-
  The copy of a yard, in memory of its own (walks).
-/
import Derived.Test.YtbmclapepgfjhaaGreatManP
import Derived.Test.YtbmclapepgfjhaaGreatManA
import Derived.LoopTactic
import Derived.Handy
import Derived.Test.YtbmclapepgfjhaaGreatLiftP
import Derived.Maps.AppendAt
import Derived.Laws.OwnMore
set_option linter.unusedSectionVars false
set_option linter.unusedVariables false
set_option linter.unusedSimpArgs false
namespace Go.Lift
open Go Go.Proofs Go.RowKit Go.Shelf Go.Lib
attribute [local go_sem] Oper.semAt_some
theorem u61 : Tryz.prog.underlying 47 = some (.slice 9) := by kernel_rfl
abbrev TWt : Ty := .slice .str
theorem fits9 : fits Tryz.prog .str (.inl 9) = true := by kernel_rfl
def strCells (y : List ByteArray) : List Value := y.map .string
theorem y0o {M : Mem} {y : List ByteArray} {v : Value} {w : World} (hg : Good M w) (h : relV Tryz.prog TWt M y v) : (v = .slice none 0 0 ∧ y = []) ∨ ∃ a c, v = .slice (some a) y.length c ∧ ∀ j u, (strCells y)[j]? = some u → w.cell? (a.add j) = some u := by
 obtain ⟨v', h1, h2⟩ : relC Tryz.prog TWt M y [v] := h
 simp only [List.cons.injEq, and_true] at h1
 subst h1
 rcases h2 with ⟨rfl, rfl⟩ | ⟨b, off, cap, cells, rfl, hcap, hlen, hm, hel⟩ | ⟨a, c, rfl, rfl⟩
 ·exact .inl ⟨rfl, rfl⟩
 ·refine .inr ⟨⟨b, off, none⟩, cap, rfl, fun j u hj => ?_⟩
  unfold strCells at hj
  rw [List.getElem?_map] at hj
  obtain ⟨s, hs, rfl⟩ := Option.map_eq_some_iff.1 hj
  obtain ⟨hlt, hs⟩ := List.getElem?_eq_some_iff.1 hs
  have h3 : (cells.drop (j * 1)).take 1 = [.string y[j]] := hel j hlt
  have h4 := congrArg (fun l : List Value => l[0]?) h3
  simp only [Nat.mul_one, List.getElem?_take, List.getElem?_drop] at h4
  have h5 : cells[j]? = some (.string s) := by rw [← hs]; simpa using h4
  rw [Addr.add_mk]
  exact hg.2 b (off + j) _ (hm j _ h5)
 ·exact .inr ⟨a, c, rfl, fun j u hj => by cases hj⟩
theorem zwp {M : Mem} {w : World} (hg : Good M w) {y : List ByteArray} {v : Value} (h : relV Tryz.prog TWt M y v) (hl : y.length ≤ 1000) :
  Calls Tryz.prog 108 #[v] w fun e w' => ∃ v', e = .returned v' ∧ w'.ownsRow w.heap.size 9 1 v' y.length (strCells y) ∧ Below w.heap.size w w' := by
 rcases y0o hg h with ⟨rfl, rfl⟩ | ⟨a, c, rfl, hc⟩
 ·refine Calls.mono (Tryz.slices_Clone_nil_f108 0 0 w) fun e w' he => ?_
  obtain ⟨rfl, rfl⟩ := he
  exact ⟨_, rfl, ⟨rfl, .inl ⟨rfl, rfl⟩⟩, Below.refl _ _⟩
 ·obtain ⟨i0, d0, hi0⟩ := z0o fits9
  obtain ⟨z, hz, hz1, _⟩ := hi0.zero (by rfl)
  have hby := hi0.bytes
  refine Go.Proofs.clone_at Tryz.laysSlE041_f108 i0 z 1 i0.bytes hi0.info hz hi0.size rfl (by have := z0s .str M _ _ (hz1 M); exact (by simpa using this : z.cells.size = Ty.str.size)) (by decide) (fun w => z1c hi0 w) a y.length c (strCells y) w (by unfold strCells; simp) (by unfold maxLen; omega) ?_ hc (fun u hu => by
   unfold strCells at hu
   obtain ⟨s, _, rfl⟩ := List.mem_map.1 hu
   rfl)
  have : y.length * i0.bytes ≤ 1000 * i0.bytes := Nat.mul_le_mul_right _ hl
  omega
end Go.Lift
namespace Go.Lift
open Go Go.Proofs Go.RowKit
structure z18 (w : World) (base : Nat) (v : Value) (ys : List (List ByteArray)) (rvs : List Value) : Prop where
 outer : w.ownsRow base 47 1 v ys.length rvs
 rows : ∀ (j : Nat) (y : List ByteArray), ys[j]? = some y → ∃ r, rvs[j]? = some r ∧ w.ownsRow base 9 1 r y.length (strCells y)
 apart : ∀ (i j : Nat) (r s : Value), i ≠ j → rvs[i]? = some r → rvs[j]? = some s → r.ownBlock = none ∨ r.ownBlock ≠ s.ownBlock
theorem zad {w : World} {base base' : Nat} {v r : Value} {n m s s' : Nat} {xs cs : List Value} {e e' : TypeId} (h : w.ownsRow base e s v n xs) (k : w.ownsRow base' e' s' r m cs) (he : e' ≠ e) : r.ownBlock = none ∨ r.ownBlock ≠ v.ownBlock := by
 rcases k.2 with ⟨rfl, _⟩ | ⟨b, cap, cur, rfl, _, hb, _⟩
 ·exact .inl rfl
 ·rcases h.2 with ⟨rfl, _⟩ | ⟨g, cap', cur', rfl, _, hg, _⟩
  ·exact .inr (by simp [Value.ownBlock])
  ·refine .inr fun e2 => ?_
   simp only [Value.ownBlock, Option.some.injEq] at e2
   subst e2
   rw [hb] at hg
   simp only [Option.some.injEq, Obj.cells.injEq] at hg
   exact he hg.2.1
theorem below_grown {w w' : World} (h : Below w.heap.size w w') : w.grownBy w' none := ⟨h.os, h.tape, h.output, h.size, fun k hk _ => h.block k hk⟩
theorem z18.kept {w w' : World} {base : Nat} {v : Value} {ys : List (List ByteArray)} {rvs : List Value} (h : z18 w base v ys rvs) (hg : w.grownBy w' none) : z18 w' base v ys rvs := by
 have hne : ∀ x : Value, x.ownBlock = none ∨ x.ownBlock ≠ none := fun x => by cases x.ownBlock <;> simp
 refine ⟨h.outer.kept hg (hne v), fun j y hy => ?_, h.apart⟩
 obtain ⟨r, h1, h2⟩ := h.rows j y hy
 exact ⟨r, h1, h2.kept hg (hne r)⟩
theorem z18.nil (w : World) (base : Nat) : z18 w base (.slice none 0 0) [] [] :=
 ⟨World.ownsRow_nil w base 47 1, fun j y hy => (by cases hy), fun i j r s _ hr _ => by cases hr⟩
theorem z18.snoc {w w' : World} {base : Nat} {v v' : Value} {ys : List (List ByteArray)} {rvs : List Value} {y : List ByteArray} {r : Value} {K : Nat} (h : z18 w base v ys rvs) (hr : w.ownsRow base 9 1 r y.length (strCells y)) (hK : ∀ k, r.ownBlock = some k → K ≤ k) (hlt : ∀ s ∈ rvs, ∀ k, s.ownBlock = some k → k < K)
  (ho : w'.ownsRow base 47 1 v' (ys.length + 1) (rvs ++ [r])) (hg : w.grownBy w' v.ownBlock) : z18 w' base v' (ys ++ [y]) (rvs ++ [r]) := by
 have hl : rvs.length = ys.length := by have := h.outer.1; omega
 have keep : ∀ (s : Value) (m : Nat) (cs : List Value), w.ownsRow base 9 1 s m cs → w'.ownsRow base 9 1 s m cs := fun s m cs hs => hs.kept hg (zad h.outer hs (by decide))
 refine ⟨by rw [List.length_append, List.length_singleton]; exact ho, fun j z hz => ?_, fun i j a b hij ha hb => ?_⟩
 ·by_cases hj : j < ys.length
  ·rw [List.getElem?_append_left hj] at hz
   obtain ⟨s, h1, h2⟩ := h.rows j z hz
   exact ⟨s, by rw [List.getElem?_append_left (by omega)]; exact h1, keep _ _ _ h2⟩
  ·have hj2 : j = ys.length := by
    have := (List.getElem?_eq_some_iff.1 hz).1
    rw [List.length_append, List.length_singleton] at this
    omega
   subst hj2
   rw [List.getElem?_append_right (Nat.le_refl _), Nat.sub_self, List.getElem?_cons_zero, Option.some.injEq] at hz
   subst hz
   exact ⟨r, by rw [← hl, List.getElem?_append_right (Nat.le_refl _), Nat.sub_self]; rfl, keep _ _ _ hr⟩
 ·have new : ∀ (s : Value), s ∈ rvs → (s.ownBlock = none ∨ s.ownBlock ≠ r.ownBlock) ∧ (r.ownBlock = none ∨ r.ownBlock ≠ s.ownBlock) := fun s hs => by
   cases h1 : s.ownBlock with
   | none => exact ⟨.inl rfl, by cases r.ownBlock <;> simp⟩
   | some k =>
    have h2 := hlt s hs k h1
    cases h3 : r.ownBlock with
    | none => simp
    | some q =>
     have h4 := hK q h3
     exact ⟨.inr (by simp; omega), .inr (by simp; omega)⟩
  have last : ∀ (i : Nat) (a : Value), (rvs ++ [r])[i]? = some a → (i < rvs.length ∧ rvs[i]? = some a) ∨ (i = rvs.length ∧ a = r) := fun i a h1 => by
   by_cases hi : i < rvs.length
   ·rw [List.getElem?_append_left hi] at h1
    exact .inl ⟨hi, h1⟩
   ·have := (List.getElem?_eq_some_iff.1 h1).1
    rw [List.length_append, List.length_singleton] at this
    have hi2 : i = rvs.length := by omega
    subst hi2
    rw [List.getElem?_append_right (Nat.le_refl _), Nat.sub_self, List.getElem?_cons_zero, Option.some.injEq] at h1
    exact .inr ⟨rfl, h1.symm⟩
  rcases last i a ha with ⟨h1, h2⟩ | ⟨h1, rfl⟩
  ·rcases last j b hb with ⟨h3, h4⟩ | ⟨h3, rfl⟩
   ·exact h.apart i j a b hij h2 h4
   ·exact (new a (List.mem_of_getElem? h2)).1
  ·rcases last j b hb with ⟨h3, h4⟩ | ⟨h3, _⟩
   ·exact (new b (List.mem_of_getElem? h4)).2
   ·omega
end Go.Lift
namespace Go.Lift
open Go Go.Proofs Go.RowKit
attribute [local go_sem] Oper.semAt_some
def mu148 (n : Nat) (v : Value) : Nat := match v with | .int _ k => n - k.toNat | _ => 0
theorem zcp {w : World} {base : Nat} {e : TypeId} {s n : Nat} {v : Value} {xs : List Value} (h : w.ownsRow base e s v n xs) : ∃ p m c, v = .slice p m c := by
 rcases h.2 with ⟨rfl, _⟩ | ⟨g, cap, cur, rfl, _⟩
 ·exact ⟨_, _, _, rfl⟩
 ·exact ⟨_, _, _, rfl⟩
theorem zki {w : World} {base base' : Nat} {e : TypeId} {s n : Nat} {v : Value} {xs : List Value} (h : w.ownsRow base e s v n xs) (hb : base' ≤ base) : w.ownsRow base' e s v n xs := by
 refine ⟨h.1, ?_⟩
 rcases h.2 with h1 | ⟨g, cap, cur, h1, h2, h3⟩
 ·exact .inl h1
 ·exact .inr ⟨g, cap, cur, h1, Nat.le_trans hb h2, h3⟩
theorem z18.lt {w : World} {base : Nat} {v : Value} {ys : List (List ByteArray)} {rvs : List Value} (h : z18 w base v ys rvs) : ∀ s ∈ rvs, ∀ k, s.ownBlock = some k → k < w.heap.size := fun s hs k hk => by
 obtain ⟨j, hj, rfl⟩ := List.mem_iff_getElem.1 hs
 have hl : rvs.length = ys.length := by have := h.outer.1; omega
 obtain ⟨r, h1, h2⟩ := h.rows j ys[j] (List.getElem?_eq_getElem (by omega))
 rw [List.getElem?_eq_getElem hj, Option.some.injEq] at h1
 rw [← h1] at h2
 exact (h2.lt k hk).2
theorem u147 : Tryz.prog.underlying 96 = some (.slice 47) := by kernel_rfl
theorem fits61 : fits Tryz.prog TWt (.inl 47) = true := by kernel_rfl
set_option maxHeartbeats 2000000 in
set_option maxRecDepth 100000 in
theorem zy8 {M : Mem} {w : World} (hg : Good M w) {ys : List (List ByteArray)} {b off cap : Nat} (hl : ys.length ≤ 1000) (hc : ∀ j y, ys[j]? = some y → ∃ r, w.cell? ⟨b, off + j, none⟩ = some r ∧ relV Tryz.prog TWt M y r ∧ y.length ≤ 1000) :
  Calls Tryz.prog 88 #[.slice (some ⟨b, off, none⟩) ys.length cap] w fun e w' => ∃ v rvs, e = .returned v ∧ z18 w' w.heap.size v ys rvs ∧ Below w.heap.size w w' := by
 have t147 := u147
 obtain ⟨i0, d0, hi0⟩ := z0o fits61
 obtain ⟨z, hz, hz1, _⟩ := hi0.zero (by rfl)
 have hby := hi0.bytes
 have hzs : z.cells.size = 1 := by have := z0s TWt M _ _ (hz1 M); exact (by simpa using this : z.cells.size = TWt.size)
 go_enter Tryz.func88, Tryz.ntmps88
 go_wp2
 go_loopw [3, 8] (fun v3 v8 wr => ∃ (i : Nat) (rvs : List Value), i ≤ ys.length ∧ v8 = Value.int .i64 (i : Int) ∧ z18 wr w.heap.size v3 (ys.take i) rvs ∧ Below w.heap.size w wr) (fun v3 v8 wr => mu148 ys.length v8)
 case atStart => exact ⟨0, [], Nat.zero_le _, rfl, z18.nil w _, Below.refl _ _⟩
 case round =>
  obtain ⟨i, rvs, hi, rfl, hY, hB⟩ := hrel
  by_cases hlt : i < ys.length
  ·obtain ⟨r, hr1, hr2, hr3⟩ := hc i ys[i] (List.getElem?_eq_getElem hlt)
   have hcell : wr.cell? ⟨b, off + i, none⟩ = some r := (World.cell?_of_block (hB.block b (World.block_lt_of_cell? w _ hr1))).trans hr1
   have hcl := zwp (z1n hg hB) hr2 hr3
   have hyl : (ys.take i).length = i := by rw [List.length_take]; omega
   go_wp2_with (first | (go_at_call 108; refine hcl.mono ?_; clear hcl; rintro e w1 ⟨v1, rfl, ho1, hb1⟩; obtain ⟨sp, sn, sc, rfl⟩ := zcp ho1; have hY2 := (hY.kept (below_grown hb1)).kept (World.grownBy_alloc w1 (.cells #[.slice sp sn sc] 47) none)) | (at_builtin; refine wpList_append_own _ rfl _ _ 96 rfl w.heap.size 47 i0 z 1 i0.bytes t147 hi0.info hz hi0.size rfl hzs (by decide) _ _ _ rfl hY2.outer ⟨w1.heap.size, 0, none⟩ 1 1 [.slice sp sn sc] rfl ?qc1 ?qc2 ?qc3 ?qc4 ?qc5 ?qc6 ?_))
   case qc1 => rfl
   case qc2 =>
    intro j u hj
    rw [Addr.add_mk, Nat.zero_add]
    exact (z5w (World.alloc_heap_new w1 _)).trans (by simpa using hj)
   case qc3 => intro u hu; rw [List.mem_singleton.1 hu]; rfl
   case qc4 => rw [hyl]; unfold maxLen; omega
   case qc5 =>
    have := Nat.mul_le_mul (show (ys.take i).length + 1 ≤ 1001 by omega) hby
    omega
   case qc6 => rw [World.size_alloc]; have := hB.size; have := hb1.size; omega
   intro v' w2 ho2 hgr2 hnil
   go_wp2
   have hsz := hB.size
   have hsz1 := hb1.size
   have hbw1 : Below w.heap.size w w1 := hB.trans ⟨hb1.os, hb1.tape, hb1.output, hb1.size, fun k hk => hb1.block k (by omega)⟩
   have hbwa : Below w.heap.size w (w1.alloc (.cells #[.slice sp sn sc] 47)) := hbw1.alloc (by omega) _
   refine ⟨⟨i + 1, rvs ++ [.slice sp sn sc], by omega, rfl, ?_, ?_⟩, ?_⟩
   ·have hs := z18.snoc (K := wr.heap.size) hY2 (zki (ho1.alloc _) (by omega)) (fun k hk => (ho1.lt k hk).1) hY.lt (by rw [hyl]; exact ho2) hgr2
    rw [List.take_add_one, List.getElem?_eq_getElem hlt]
    exact hs
   ·exact ⟨hgr2.os.trans hbwa.os, hgr2.tape.trans hbwa.tape, hgr2.output.trans hbwa.output, Nat.le_trans hbwa.size hgr2.size, fun k hk => (hgr2.block k (Nat.lt_of_lt_of_le hk hbwa.size) (fun e => by have := (hY2.outer.lt k e.symm).1; omega)).trans (hbwa.block k hk)⟩
   ·show ys.length - (((i : Int) + 1)).toNat < ys.length - ((i : Int)).toNat
    omega
  ·go_wp2
   go_ret
   obtain rfl : i = ys.length := by omega
   rw [List.take_length] at hY
   exact ⟨u3, rvs, rfl, hY, hB⟩
end Go.Lift
namespace Go.Lift
open Go Go.Proofs Go.RowKit
attribute [local go_sem] Oper.semAt_some
end Go.Lift
namespace Go.Lift
open Go Go.Proofs Go.RowKit
attribute [local go_sem] Oper.semAt_some
theorem z18.base {w : World} {base base' : Nat} {v : Value} {ys : List (List ByteArray)} {rvs : List Value} (h : z18 w base v ys rvs) (hb : base' ≤ base) : z18 w base' v ys rvs :=
 ⟨zki h.outer hb, fun j y hy => (h.rows j y hy).imp fun r hr => ⟨hr.1, zki hr.2 hb⟩, h.apart⟩
theorem y3l {M : Mem} {k e : Int} {u : Value} (h : relR Tryz.prog M [.int .i64, .int .i64] (k, e) u) : u = .tuple #[.int .i64 k, .int .i64 e] := by
 obtain ⟨vs, rfl, v1, rest, h1, h2, v2, h3, h4⟩ := h
 have a1 : v1 = .int .i64 k := z2n.1 h2
 have a2 : v2 = .int .i64 e := z2n.1 h4
 subst a1 a2
 congr 1
 apply Array.ext'
 rw [h1, h3]
abbrev TYd : Ty := .slice (.slice .str)
set_option maxHeartbeats 2000000 in
set_option maxRecDepth 100000 in
theorem y6m {M : Mem} {w : World} (hg : Good M w) {ys : List (List ByteArray)} {b off cap : Nat} {k e0 : Int} (hl : ys.length ≤ 1000) (hv : relV Tryz.prog TYd M ys (.slice (some ⟨b, off, none⟩) ys.length cap)) (hk : z15 ys = some (k, e0)) (hc : ∀ j y, ys[j]? = some y → ∃ r, w.cell? ⟨b, off + j, none⟩ = some r ∧ relV Tryz.prog TWt M y r ∧ y.length ≤ 1000) :
    Calls Tryz.prog 59 #[.slice (some ⟨b, off, none⟩) ys.length cap] w fun e w' => ∃ v rvs, e = .returned (.tuple #[v, .int .i64 e0]) ∧ z18 w' w.heap.size v ys rvs ∧ Below w.heap.size w w' := by
  have hck := zbm.2 ys (k, e0) hk M w [.slice (some ⟨b, off, none⟩) ys.length cap] hg ⟨_, rfl, hv⟩
  unfold zd6 at hck
  go_enter Tryz.func59, Tryz.ntmps59
  have step : ∀ (M1 : Mem) (w1 : World), Good M1 w1 → Grow M w M1 w1 → Calls Tryz.prog 88 #[.slice (some ⟨b, off, none⟩) ys.length cap] w1 fun e w' => ∃ v rvs, e = .returned v ∧ z18 w' w1.heap.size v ys rvs ∧ Below w1.heap.size w1 w' := fun M1 w1 hg1 hgr1 =>
    zy8 hg1 hl (fun j y hy => by
      obtain ⟨r, q1, q2, q3⟩ := hc j y hy
      exact ⟨r, (World.cell?_of_block (hgr1.below.block b (World.block_lt_of_cell? w _ q1))).trans q1, z0v (zdz (G := []) hg hgr1).le q2, q3⟩)
  go_wp2_with (first
    | (go_at_call 93; refine hck.mono ?_; clear hck; rintro e w1 ⟨M1, u, rfl, hu, hg1, hgr1⟩; have hu2 := y3l hu; clear hu; subst hu2; have hcl := step M1 w1 hg1 hgr1)
    | (go_at_call 88; refine hcl.mono ?_; clear hcl; rintro e w2 ⟨v2, rvs, rfl, hY, hB⟩))
  have hsz := hgr1.below.size
  have hrs : Tryz.f59.results = #[.tmp 2, .tmp 3] := by kernel_rfl
  refine bodyPost_ret (v := .tuple #[v2, .int .i64 e0]) ?_ rfl ?_
  · simp only [Go.results, hrs, Sem.run_bind, List.mapM_toArray, List.mapM_cons, List.mapM_nil, Sem.run_pure, Result.andThen_ok, Sem.run_map]
    rfl
  refine ⟨v2, rvs, rfl, hY.base hsz, hgr1.below.trans ⟨hB.os, hB.tape, hB.output, hB.size, fun k hk => hB.block k (by omega)⟩⟩
end Go.Lift
namespace Go.Lift
open Go Go.Proofs Go.RowKit
def z7m (B : Nat) (M : Mem) (w : World) : Mem := fun b o => if B ≤ b then w.cell? ⟨b, o, none⟩ else M b o
theorem zqt {M : Mem} {w : World} {B : Nat} (hg : Good M w) : Mem.le M (z7m B M w) := fun b o u hu => by
 unfold z7m
 split
 ·exact hg.2 b o u hu
 ·exact hu
theorem zgz {M : Mem} {w : World} {B : Nat} (hg : Good M w) : Good (z7m B M w) w := by
 refine ⟨Tab.keep (zqt hg) (zb9.refl _) hg.1, fun b o u hu => ?_⟩
 unfold z7m at hu
 split at hu
 ·exact hu
 ·exact hg.2 b o u hu
theorem zrz {M : Mem} {w : World} {B b : Nat} (h : b < B) : z7m B M w b = M b := by
 funext o
 unfold z7m
 rw [if_neg (by omega)]
theorem zml {M : Mem} {w w' : World} (hb : Below w.heap.size w w') : Grow M w (z7m w.heap.size M w') w' := ⟨hb, fun b hlt => zrz hlt⟩
theorem zvu {M : Mem} {w : World} {base e s n g cap off : Nat} {xs : List Value} (h : w.ownsRow base e s (.slice (some ⟨g, off, none⟩) n cap) n xs) : (z7m base M w).has g off xs ∧ n ≤ cap := by
 have h0 := h
 rcases h.2 with ⟨h1, _⟩ | ⟨g', cap', cur, h1, hb, hg, hnc, hcm, hcs, htake⟩
 ·cases h1
 ·simp only [Value.slice.injEq, Option.some.injEq, Addr.mk.injEq, and_true, true_and] at h1
  obtain ⟨⟨rfl, rfl⟩, rfl⟩ := h1
  refine ⟨fun j u hj => ?_, hnc⟩
  unfold z7m
  rw [if_pos hb]
  have := h0.cells (g := g) rfl j u hj
  rw [Addr.add_mk] at this
  exact this
theorem y6k {M : Mem} {w : World} {base : Nat} {r : Value} {y : List ByteArray} (h : w.ownsRow base 9 1 r y.length (strCells y)) : relV Tryz.prog TWt (z7m base M w) y r := by
 refine ⟨r, rfl, ?_⟩
 rcases h.2 with ⟨h1, h2⟩ | ⟨g, cap, cur, h1, hb, hg, hnc, _⟩
 ·exact .inl ⟨h1, List.eq_nil_of_length_eq_zero h2⟩
 ·subst h1
  obtain ⟨h3, h4⟩ := zvu (M := M) h
  refine .inr (.inl ⟨g, 0, cap, strCells y, rfl, h4, by unfold strCells; simp [Ty.size], h3, fun i hi => ?_⟩)
  show ((strCells y).drop (i * 1)).take 1 = [.string y[i]]
  unfold strCells
  rw [Nat.mul_one, List.take_one, List.head?_drop, List.getElem?_map, List.getElem?_eq_getElem hi]
  rfl
theorem z18.rel {M : Mem} {w : World} {base : Nat} {v : Value} {ys : List (List ByteArray)} {rvs : List Value} (h : z18 w base v ys rvs) : relV Tryz.prog TYd (z7m base M w) ys v := by
 refine ⟨v, rfl, ?_⟩
 have hl : rvs.length = ys.length := by have := h.outer.1; omega
 rcases h.outer.2 with ⟨h1, h2⟩ | ⟨g, cap, cur, h1, hb, hg, hnc, _⟩
 ·exact .inl ⟨h1, List.eq_nil_of_length_eq_zero h2⟩
 ·subst h1
  obtain ⟨h3, h4⟩ := zvu (M := M) h.outer
  refine .inr (.inl ⟨g, 0, cap, rvs, rfl, h4, by simp [Ty.size, hl], h3, fun i hi => ?_⟩)
  obtain ⟨r, k1, k2⟩ := h.rows i ys[i] (List.getElem?_eq_getElem hi)
  obtain ⟨v', k3, k4⟩ := y6k (M := M) k2
  rw [show TWt.size = 1 from rfl, Nat.mul_one, List.take_one, List.head?_drop, k1]
  exact ⟨v', k3, k4⟩
structure Outside (v : Value) (rvs : List Value) (w w' : World) : Prop where
 os : w'.os = w.os
 tape : w'.tape = w.tape
 output : w'.output = w.output
 size : w.heap.size ≤ w'.heap.size
 block : ∀ k, k < w.heap.size → some k ≠ v.ownBlock → (∀ r ∈ rvs, some k ≠ r.ownBlock) → w'.heap[k]? = w.heap[k]?
theorem z18.turn {w w1 : World} {base g cap j : Nat} {ys : List (List ByteArray)} {rvs : List Value} {r r1 : Value} {y1 : List ByteArray} (h : z18 w base (.slice (some ⟨g, 0, none⟩) ys.length cap) ys rvs) (hr : rvs[j]? = some r) (hg : w.grownBy w1 r.ownBlock) (ho : w1.ownsRow base 9 1 r1 y1.length (strCells y1)) (hat : r1.ownBlock = r.ownBlock ∨ r1.ownBlock = some w.heap.size) :
  z18 (w1.setCell ⟨g, j, none⟩ r1) base (.slice (some ⟨g, 0, none⟩) (ys.set j y1).length cap) (ys.set j y1) (rvs.set j r1) := by
 have hl : rvs.length = ys.length := by have := h.outer.1; omega
 have hj : j < ys.length := by have := (List.getElem?_eq_some_iff.1 hr).1; omega
 obtain ⟨r', q1, q2⟩ := h.rows j ys[j] (List.getElem?_eq_getElem hj)
 rw [hr, Option.some.injEq] at q1
 subst q1
 have hgr := zad h.outer q2 (by decide)
 have hout1 : w1.ownsRow base 47 1 (.slice (some ⟨g, 0, none⟩) ys.length cap) ys.length rvs := h.outer.kept hg (by
  rcases hgr with e | e
  ·rw [e]; exact .inr (by simp [Value.ownBlock])
  ·exact .inr (Ne.symm e))
 obtain ⟨s1, s2⟩ := hout1.stored j r1
 have keep1 : ∀ (s : Value) (m : Nat) (cs : List Value), w1.ownsRow base 9 1 s m cs → (w1.setCell ⟨g, j, none⟩ r1).ownsRow base 9 1 s m cs := fun s m cs hs => hs.kept s2 (by
  have := zad hout1 hs (by decide)
  simpa [Value.ownBlock] using this)
 have hne : ∀ (i : Nat) (s : Value), i ≠ j → rvs[i]? = some s → (s.ownBlock = none ∨ s.ownBlock ≠ r.ownBlock) ∧ (s.ownBlock = none ∨ s.ownBlock ≠ r1.ownBlock) := fun i s hi hs => by
  have h1 := h.apart i j s r hi hs hr
  refine ⟨h1, ?_⟩
  rcases hat with e | e
  ·rw [e]; exact h1
  ·cases hs2 : s.ownBlock with
   | none => exact .inl rfl
   | some k =>
    refine .inr fun e2 => ?_
    rw [e] at e2
    have := h.lt s (List.mem_of_getElem? hs) k hs2
    injection e2 with e2
    omega
 refine ⟨by rw [List.length_set]; exact s1, fun i y hy => ?_, fun i i' a b hii ha hb => ?_⟩
 ·rw [List.getElem?_set] at hy ⊢
  by_cases hi : j = i
  ·subst hi
   rw [if_pos rfl, if_pos hj] at hy
   rw [if_pos rfl, if_pos (by omega)]
   injection hy with hy
   subst hy
   exact ⟨r1, rfl, keep1 _ _ _ ho⟩
  ·rw [if_neg hi] at hy ⊢
   obtain ⟨s, k1, k2⟩ := h.rows i y hy
   exact ⟨s, k1, keep1 _ _ _ (k2.kept hg (hne i s (Ne.symm hi) k1).1)⟩
 ·rw [List.getElem?_set] at ha hb
  by_cases hi : j = i
  ·subst hi
   rw [if_pos rfl, if_pos (by omega), Option.some.injEq] at ha
   subst ha
   rw [if_neg hii] at hb
   rcases (hne i' b (Ne.symm hii) hb).2 with e | e
   ·rw [e]
    cases r1.ownBlock <;> simp
   ·cases hr1 : r1.ownBlock with
    | none => exact .inl rfl
    | some k => exact .inr (by rw [hr1] at e; exact Ne.symm e)
  ·rw [if_neg hi] at ha
   by_cases hi2 : j = i'
   ·subst hi2
    rw [if_pos rfl, if_pos (by omega), Option.some.injEq] at hb
    subst hb
    exact (hne i a hii ha).2
   ·rw [if_neg hi2] at hb
    exact h.apart i i' a b hii ha hb
theorem zgv {w w1 : World} {g cap n j : Nat} {rvs : List Value} {r r1 : Value} (hr : rvs[j]? = some r) (hg : w.grownBy w1 r.ownBlock) : Outside (.slice (some ⟨g, 0, none⟩) n cap) rvs w (w1.setCell ⟨g, j, none⟩ r1) := by
 refine ⟨hg.os, hg.tape, hg.output, by simpa [World.setCell] using hg.size, fun k hk h1 h2 => ?_⟩
 have : (w1.setCell ⟨g, j, none⟩ r1).heap[k]? = w1.heap[k]? := by
  simp only [Value.ownBlock, ne_eq, Option.some.injEq] at h1
  simp [World.setCell, Array.getElem?_modify, Ne.symm h1]
 rw [this]
 exact hg.block k hk (h2 r (List.mem_of_getElem? hr))
end Go.Lift
