/-
  Keys of yards; how many yards there are; the search finds a plan of least work.
-/
import Derived.Test.YtbmclapepgfjhaaGreatPlA
set_option linter.unusedSectionVars false
set_option linter.unusedVariables false
set_option linter.unusedSimpArgs false
namespace Go.Lift
open Go
def noCh (c : UInt8) (l : List UInt8) : Prop := ∀ b, b ∈ l → b ≠ c
theorem zi9 (c : UInt8) (x y : List UInt8) (r : List (List UInt8)) : Lib.join (x :: y :: r) [c] = x ++ c :: Lib.join (y :: r) [c] := by
 rw [Lib.join_cons, Lib.join_cons]
 simp [Lib.joinTail]
theorem y0l {c : UInt8} : ∀ {a b u v : List UInt8}, noCh c a → noCh c b → a ++ c :: u = b ++ c :: v → a = b ∧ u = v
 | [], [], u, v, _, _, h => by simpa using h
 | [], z :: b, u, v, _, hb, h => by
  simp only [List.nil_append, List.cons_append, List.cons.injEq] at h
  exact absurd h.1.symm (hb z (by simp))
 | z :: a, [], u, v, ha, _, h => by
  simp only [List.nil_append, List.cons_append, List.cons.injEq] at h
  exact absurd h.1 (ha z (by simp))
 | z :: a, z' :: b, u, v, ha, hb, h => by
  simp only [List.cons_append, List.cons.injEq] at h
  obtain ⟨h1, h2⟩ := y0l (fun x hx => ha x (List.mem_cons_of_mem _ hx)) (fun x hx => hb x (List.mem_cons_of_mem _ hx)) h.2
  exact ⟨by rw [h.1, h1], h2⟩
theorem y5l {c : UInt8} {a b u : List UInt8} (ha : noCh c a) (h : a = b ++ c :: u) : False := ha c (by rw [h]; simp) rfl
theorem zs6 {c : UInt8} : ∀ {L K : List (List UInt8)}, L ≠ [] → K ≠ [] → (∀ x ∈ L, noCh c x) → (∀ x ∈ K, noCh c x) → Lib.join L [c] = Lib.join K [c] → L = K
 | [], _, h, _, _, _, _ => absurd rfl h
 | _ :: _, [], _, h, _, _, _ => absurd rfl h
 | [x], [y], _, _, _, _, h => by rw [Lib.join_one, Lib.join_one] at h; rw [h]
 | [x], y :: y2 :: s, _, _, h1, _, h => by
  rw [Lib.join_one, zi9] at h
  exact (y5l (h1 x (by simp)) h).elim
 | x :: x2 :: r, [y], _, _, _, h2, h => by
  rw [Lib.join_one, zi9] at h
  exact (y5l (h2 y (by simp)) h.symm).elim
 | x :: x2 :: r, y :: y2 :: s, _, _, h1, h2, h => by
  rw [zi9, zi9] at h
  obtain ⟨e1, e2⟩ := y0l (h1 x (by simp)) (h2 y (by simp)) h
  have := zs6 (List.cons_ne_nil x2 r) (List.cons_ne_nil y2 s) (fun z hz => h1 z (List.mem_cons_of_mem _ hz)) (fun z hz => h2 z (List.mem_cons_of_mem _ hz)) e2
  rw [e1, this]
theorem zwc {c : UInt8} {B : Nat} : ∀ {L : List (List UInt8)}, (∀ x ∈ L, x.length ≤ B) → (Lib.join L [c]).length ≤ L.length * (B + 1)
 | [], _ => by rw [Lib.join_nil]; simp
 | [x], h => by
  rw [Lib.join_one]
  have := h x (by simp)
  simp only [List.length_singleton, Nat.one_mul]
  omega
 | x :: y :: r, h => by
  rw [zi9]
  have h1 := h x (by simp)
  have h2 := zwc (c := c) (L := y :: r) fun z hz => h z (List.mem_cons_of_mem _ hz)
  rw [List.length_append, List.length_cons, List.length_cons, Nat.add_mul, Nat.one_mul]
  omega
theorem zxv {c b : UInt8} : ∀ {L : List (List UInt8)}, b ∈ Lib.join L [c] → b = c ∨ ∃ x ∈ L, b ∈ x
 | [], h => by rw [Lib.join_nil] at h; cases h
 | [x], h => by rw [Lib.join_one] at h; exact .inr ⟨x, by simp, h⟩
 | x :: y :: r, h => by
  rw [zi9] at h
  rcases List.mem_append.1 h with h | h
  ·exact .inr ⟨x, by simp, h⟩
  ·rcases List.mem_cons.1 h with h | h
   ·exact .inl h
   ·rcases zxv h with h | ⟨z, hz, h⟩
    ·exact .inl h
    ·exact .inr ⟨z, List.mem_cons_of_mem _ hz, h⟩
theorem zxk {c : Int} : ∀ {l : List Int} {i : Nat}, zif i l = true → c ∈ l → ∃ j, nameAt j c = true
 | [], _, _, h => by cases h
 | z :: l, i, h, hc => by
  simp only [zif, Bool.and_eq_true] at h
  rcases List.mem_cons.1 hc with rfl | hc
  ·exact ⟨i, h.1⟩
  ·exact zxk h.2 hc
theorem zqo {x : ByteArray} (h : z7l x = true) {b : UInt8} (hb : b ∈ x.data.toList) : b ≠ 32 ∧ b ≠ 47 := by
 unfold z7l at h
 rw [Bool.and_eq_true] at h
 have hm : ((b.toNat : Nat) : Int) ∈ z2u x := by
  unfold z2u
  exact List.mem_map.2 ⟨b, hb, rfl⟩
 obtain ⟨j, hj⟩ := zxk h.1 hm
 unfold nameAt at hj
 simp only [Bool.or_eq_true, Bool.and_eq_true, decide_eq_true_eq] at hj
 constructor
 ·rintro rfl
  have : ((32 : UInt8).toNat : Int) = 32 := rfl
  omega
 ·rintro rfl
  have : ((47 : UInt8).toNat : Int) = 47 := rfl
  omega
def ze9 (p : List ByteArray) : List UInt8 := Lib.join (p.map (·.data.toList)) [32]
def y45 (p : List ByteArray) : ByteArray := ⟨(ze9 p).toArray⟩
def keyB (y : YdT) : ByteArray := ⟨(Lib.join (y.map ze9) [47]).toArray⟩
theorem zld : ∀ {p q : List ByteArray}, p.map (·.data.toList) = q.map (·.data.toList) → p = q
 | [], [], _ => rfl
 | [], _ :: _, h => by cases h
 | _ :: _, [], h => by cases h
 | x :: p, y :: q, h => by
  simp only [List.map_cons, List.cons.injEq] at h
  rw [zld h.2, ByteArray.ext (Array.toList_inj.mp h.1)]
theorem y1i {p q : List ByteArray} (hp : ∀ x ∈ p, z7l x = true) (hq : ∀ x ∈ q, z7l x = true) (h : ze9 p = ze9 q) : p = q := by
 have nn : ∀ {p : List ByteArray}, (∀ x ∈ p, z7l x = true) → p ≠ [] → ze9 p ≠ [] := fun {p} hp hne he => by
  match p, hne with
  | x :: r, _ =>
   have hs := (zqp (hp x (by simp))).1
   have : (ze9 (x :: r)).length ≥ x.size := by
    unfold ze9
    rw [List.map_cons, Lib.join_cons, List.length_append]
    have : x.data.toList.length = x.size := rfl
    omega
   rw [he, List.length_nil] at this
   omega
 have ch : ∀ {p : List ByteArray}, (∀ x ∈ p, z7l x = true) → ∀ l ∈ p.map (·.data.toList), noCh 32 l := fun {p} hp l hl b hb => by
  obtain ⟨x, hx, rfl⟩ := List.mem_map.1 hl
  exact (zqo (hp x hx) hb).1
 by_cases h1 : p = []
 ·by_cases h2 : q = []
  ·rw [h1, h2]
  ·exact absurd (h.symm.trans (by rw [h1]; rfl)) (nn hq h2)
 ·by_cases h2 : q = []
  ·exact absurd (h.trans (by rw [h2]; rfl)) (nn hp h1)
  ·refine zld (zs6 (by simpa using h1) (by simpa using h2) (ch hp) (ch hq) h)
theorem y44 {p : List ByteArray} (hp : ∀ x ∈ p, z7l x = true) : noCh 47 (ze9 p) := by
 intro b hb
 unfold ze9 at hb
 rcases zxv hb with rfl | ⟨l, hl, hb⟩
 ·decide
 ·obtain ⟨x, hx, rfl⟩ := List.mem_map.1 hl
  exact (zqo (hp x hx) hb).2
theorem zo7 : ∀ {y z : YdT}, (∀ x ∈ y.flatten, z7l x = true) → (∀ x ∈ z.flatten, z7l x = true) → y.map ze9 = z.map ze9 → y = z
 | [], [], _, _, _ => rfl
 | [], _ :: _, _, _, h => by cases h
 | _ :: _, [], _, _, h => by cases h
 | p :: y, q :: z, h1, h2, h => by
  simp only [List.map_cons, List.cons.injEq] at h
  simp only [List.flatten_cons, List.mem_append] at h1 h2
  rw [y1i (fun x hx => h1 x (.inl hx)) (fun x hx => h2 x (.inl hx)) h.1, zo7 (fun x hx => h1 x (.inr hx)) (fun x hx => h2 x (.inr hx)) h.2]
theorem y4q {y z : YdT} (hl : y.length = z.length) (h1 : ∀ x ∈ y.flatten, z7l x = true) (h2 : ∀ x ∈ z.flatten, z7l x = true) (h : keyB y = keyB z) : y = z := by
 by_cases h0 : y = []
 ·subst h0
  exact (List.eq_nil_of_length_eq_zero hl.symm).symm
 ·have h0' : z ≠ [] := fun e => h0 (List.eq_nil_of_length_eq_zero (by rw [hl, e]; rfl))
  have e : Lib.join (y.map ze9) [47] = Lib.join (z.map ze9) [47] := by
   have := congrArg (fun b : ByteArray => b.data.toList) h
   simpa [keyB] using this
  have no : ∀ {y : YdT}, (∀ x ∈ y.flatten, z7l x = true) → ∀ l ∈ y.map ze9, noCh 47 l := fun {y} hy l hl => by
   obtain ⟨p, hp, rfl⟩ := List.mem_map.1 hl
   exact y44 fun x hx => hy x (List.mem_flatten.2 ⟨p, hp, hx⟩)
  exact zo7 h1 h2 (zs6 (by simpa using h0) (by simpa using h0') (no h1) (no h2) e)
theorem y4p {y : YdT} (hy : y.length ≤ 1000) {g : List ByteArray → Option ByteArray} {f : List ByteArray → ByteArray} (hg : ∀ p ∈ y, g p = some (f p)) : z1s (S := (List ByteArray) × Int) (R := (List ByteArray)) (fun s =>
  let w : (List ByteArray) := s.1
  let t : Int := s.2
  bif decide (t < (List.length y : Int)) then
   chk (decide ((0 : Int) ≤ t) && decide (t < (List.length y : Int))) (
    (g (lget [] y t)).bind fun (t_1 : ByteArray) =>
    (app w [t_1]).bind fun (t_2 : List ByteArray) =>
    some (.inl (t_2, wi64 (t + 1))))
  else
   some (.inr w)) ([], 0) = some (y.map f) := by
 refine z0n (X := List ByteArray) (fun rest s => ∃ pre, y = pre ++ rest ∧ s = (pre.map f, (pre.length : Int))) ?_ ?_ (l := y) ⟨[], rfl, rfl⟩
 ·rintro x rest _ ⟨pre, h1, rfl⟩
  have hlen := congrArg List.length h1
  rw [List.length_append, List.length_cons] at hlen
  have hx : lget [] y (pre.length : Int) = x := by rw [h1]; exact z1z
  refine Or.inl ⟨((pre ++ [x]).map f, ((pre ++ [x]).length : Int)), ?_, pre ++ [x], by rw [h1]; simp, rfl⟩
  simp only []
  rw [z01 (show (pre.length : Int) < (y.length : Int) by omega), cond_true, z2v (z0g (z01 (by omega)) rfl), hx, hg x (by rw [h1]; simp), Option.bind_some, zhm (by rw [List.length_singleton, List.length_map]; omega), Option.bind_some, z1p (by omega) (by omega), List.length_append, List.length_singleton, List.map_append]
  rfl
 ·rintro _ ⟨pre, h1, rfl⟩
  rw [List.append_nil] at h1
  subst h1
  simp only []
  rw [z09 (show ¬ (y.length : Int) < (y.length : Int) by omega), cond_false]
theorem zxc {p : List ByteArray} (hl : p.length ≤ 8) (hs : ∀ x ∈ p, x.size ≤ 20) : (ze9 p).length ≤ 168 := by
 have := zwc (c := 32) (B := 20) (L := p.map (·.data.toList)) fun l hl => by
  obtain ⟨x, hx, rfl⟩ := List.mem_map.1 hl
  exact hs x hx
 rw [List.length_map] at this
 unfold ze9
 omega
theorem zu8 {n : z2c} {req : List ByteArray} (h : Few n.1 req) : z3b n = some (keyB n.1) := by
 obtain ⟨h1, _, h3⟩ := h
 have hj : ∀ p ∈ n.1, strings_Join p (bytes [32]) = some (y45 p) := fun p hp => by
  have hk := zxc (p := p) (h3 p hp).1 (h3 p hp).2
  have := (h3 p hp).1
  unfold strings_Join
  rw [show (bytes [32]).data.toList = [32] from rfl, z01 (show p.length ≤ 4294967296 by omega), z01 (show (Lib.join (p.map (·.data.toList)) [32]).length ≤ 4294967296 by unfold ze9 at hk; omega)]
  rfl
 unfold z3b
 rw [y4p (by omega) hj, Option.bind_some]
 have e : (n.1.map y45).map (·.data.toList) = n.1.map ze9 := by
  rw [List.map_map]
  refine List.map_congr_left fun p _ => ?_
  simp [y45]
 have hl : (Lib.join (n.1.map ze9) [47]).length ≤ 2000 := by
  have := zwc (c := 47) (B := 168) (L := n.1.map ze9) fun l hl => by
   obtain ⟨p, hp, rfl⟩ := List.mem_map.1 hl
   exact zxc (h3 p hp).1 (h3 p hp).2
  rw [List.length_map] at this
  have : n.1.length * 169 ≤ 6 * 169 := Nat.mul_le_mul_right _ h1
  omega
 unfold strings_Join
 rw [show (bytes [47]).data.toList = [47] from rfl, e, z01 (show (n.1.map y45).length ≤ 4294967296 by rw [List.length_map]; omega), z01 (show (Lib.join (n.1.map ze9) [47]).length ≤ 4294967296 by omega)]
 rfl
end Go.Lift
namespace Go.Lift
open Go
theorem zqr {y : YdT} (hy : y.length ≤ 1000) : ∀ l : List (Int × Int), z8b y l = some (l.filter fun m => zac y m == 0)
 | [] => rfl
 | m :: l => by
  simp only [z8b]
  rw [zi6 hy, Option.bind_some, zqr hy l, Option.bind_some]
  cases h : zac y m == 0 with
  | true => rw [cond_true, List.filter_cons_of_pos (p := fun m => zac y m == 0) h]
  | false => rw [cond_false, List.filter_cons_of_neg (p := fun m => zac y m == 0) (by rw [h]; exact Bool.false_ne_true)]
def zkm (y : YdT) : List (Int × Int) := (ziy y.length).filter fun m => zac y m == 0
theorem ztx {y : YdT} (hy : y.length ≤ 1000) : zqq y = some (zkm y) := by
 unfold zqq
 rw [z01 hy, cond_true, zqr hy]
 rfl
theorem zqs {k : Nat} {m : Int × Int} : m ∈ ziy k ↔ ∃ a b : Nat, a < k ∧ b < k ∧ m = ((a : Int), (b : Int)) := by
 unfold ziy
 simp only [List.mem_flatMap, List.mem_range, List.mem_map]
 constructor
 ·rintro ⟨a, ha, b, hb, rfl⟩
  exact ⟨a, b, ha, hb, rfl⟩
 ·rintro ⟨a, b, ha, hb, rfl⟩
  exact ⟨a, ha, b, hb, rfl⟩
theorem zz4 (k : Nat) : (ziy k).length = k * k := by
 unfold ziy
 rw [List.length_flatMap]
 simp only [List.length_map, List.length_range]
 rw [List.map_const']
 simp
theorem zn5 {y : YdT} {a b : Nat} (ha : a < y.length) (hb : b < y.length) : zac y ((a : Int), (b : Int)) = 0 ↔ 0 < (pl y a).length ∧ a ≠ b ∧ (pl y b).length < 6 := by
 have e : zac y ((a : Int), (b : Int)) = (bif !inR (a : Int) 0 ((y.length : Int) - 1) || (!inR (b : Int) 0 ((y.length : Int) - 1) && (b : Int) != -1) then 6 else bif ((pl y a).length : Int) == 0 then 11 else bif (a : Int) == (b : Int) then 3 else bif (b : Int) != -1 && decide (((pl y b).length : Int) ≥ 6) then 16 else 0) := rfl
 rw [e]
 unfold inR
 rw [z01 (show (0 : Int) ≤ (a : Int) ∧ (a : Int) ≤ (y.length : Int) - 1 by omega), z01 (show (0 : Int) ≤ (b : Int) ∧ (b : Int) ≤ (y.length : Int) - 1 by omega)]
 simp only [Bool.not_true, Bool.false_and, Bool.or_self, cond_false]
 have hb1 : ((b : Int) != -1) = true := by rw [bne_iff_ne]; omega
 rw [hb1, Bool.true_and]
 by_cases h1 : (pl y a).length = 0
 ·rw [h1]
  simp
 ·rw [show (((pl y a).length : Int) == 0) = false by rw [beq_eq_false_iff_ne]; omega, cond_false]
  by_cases h2 : a = b
  ·subst h2
   rw [beq_self_eq_true, cond_true]
   simp
  ·rw [show ((a : Int) == (b : Int)) = false by rw [beq_eq_false_iff_ne]; omega, cond_false]
   by_cases h3 : (pl y b).length < 6
   ·rw [z09 (show ¬ ((pl y b).length : Int) ≥ 6 by omega), cond_false]
    simp only [true_iff]
    exact ⟨by omega, h2, h3⟩
   ·rw [z01 (show ((pl y b).length : Int) ≥ 6 by omega), cond_true]
    simp only [show ¬ ((16 : Int) = 0) by decide, false_iff]
    omega
theorem zno {l : List ByteArray} (h : 0 < l.length) : ∃ q x, l = q ++ [x] := by
 have hne : l ≠ [] := List.ne_nil_of_length_pos h
 exact ⟨l.dropLast, l.getLast hne, (List.dropLast_concat_getLast hne).symm⟩
theorem zzc {y : YdT} {left : List ByteArray} {m : Int × Int} (h : m ∈ zkm y) : ∃ s', Stp (y, left) m s' 1 := by
 unfold zkm at h
 rw [List.mem_filter, zqs] at h
 obtain ⟨⟨a, b, ha, hb, rfl⟩, h2⟩ := h
 rw [beq_iff_eq, zn5 ha hb] at h2
 obtain ⟨h3, h4, h5⟩ := h2
 obtain ⟨q, x, hq⟩ := zno h3
 exact ⟨_, .mv hq hb h4 h5⟩
theorem zyo {y : YdT} {left : List ByteArray} {m : Int × Int} {s' : StT} (h : Stp (y, left) m s' 1) : m ∈ zkm y := by
 cases h with
 | @mv _ _ q x a b hp hb hab hl =>
  have ha := zlp hp
  unfold zkm
  rw [List.mem_filter, zqs]
  refine ⟨⟨a, b, ha, hb, rfl⟩, ?_⟩
  rw [beq_iff_eq, zn5 ha hb]
  exact ⟨by rw [hp, List.length_append, List.length_singleton]; omega, hab, hl⟩
theorem zzd {names req : List ByteArray} {p : Nat} (hc : Cx names req p) {s : StT} (hv : Vd names req p s) : (zkm s.1).length ≤ 16 := by
 have h1 : (zkm s.1).length ≤ (ziy s.1.length).length := List.length_filter_le _ _
 rw [zz4, hv.len] at h1
 have := Nat.mul_le_mul hc.p4 hc.p4
 omega
def zop (x : ByteArray) : List ByteArray → List (List ByteArray)
 | [] => [[x]]
 | z :: p => (x :: z :: p) :: (zop x p).map (z :: ·)
def insY (x : ByteArray) : YdT → List YdT
 | [] => []
 | p :: y => (zop x p).map (· :: y) ++ (insY x y).map (p :: ·)
def allY (p : Nat) : List ByteArray → List YdT
 | [] => [List.replicate p []]
 | x :: names => (allY p names).flatMap fun y => y :: insY x y
theorem zub (x : ByteArray) : ∀ p : List ByteArray, (zop x p).length = p.length + 1
 | [] => rfl
 | z :: p => by simp only [zop, List.length_cons, List.length_map, zub x p]
theorem zxy (x : ByteArray) : ∀ y : YdT, (insY x y).length = y.flatten.length + y.length
 | [] => rfl
 | p :: y => by
  simp only [insY, List.length_append, List.length_map, zub, zxy x y, List.flatten_cons, List.length_cons]
  omega
theorem zqy {x : ByteArray} : ∀ {p q : List ByteArray}, q ∈ zop x p → q.length = p.length + 1
 | [], q, h => by simp only [zop, List.mem_singleton] at h; rw [h]; rfl
 | z :: p, q, h => by
  simp only [zop, List.mem_cons, List.mem_map] at h
  rcases h with rfl | ⟨r, hr, rfl⟩
  ·rfl
  ·simp only [List.length_cons, zqy hr]
theorem zu9 {x : ByteArray} : ∀ {y z : YdT}, z ∈ insY x y → z.length = y.length ∧ z.flatten.length = y.flatten.length + 1
 | [], z, h => by cases h
 | p :: y, z, h => by
  simp only [insY, List.mem_append, List.mem_map] at h
  rcases h with ⟨q, hq, rfl⟩ | ⟨w, hw, rfl⟩
  ·refine ⟨rfl, ?_⟩
   simp only [List.flatten_cons, List.length_append, zqy hq]
   omega
  ·obtain ⟨h1, h2⟩ := zu9 hw
   refine ⟨by simp [h1], ?_⟩
   simp only [List.flatten_cons, List.length_append, h2]
   omega
theorem zpk {p : Nat} : ∀ {names : List ByteArray} {y : YdT}, y ∈ allY p names → y.length = p ∧ y.flatten.length ≤ names.length
 | [], y, h => by
  simp only [allY, List.mem_singleton] at h
  subst h
  refine ⟨List.length_replicate, ?_⟩
  rw [List.flatten_replicate_nil]
  exact Nat.le_refl _
 | x :: names, y, h => by
  simp only [allY, List.mem_flatMap, List.mem_cons] at h
  obtain ⟨z, hz, rfl | h⟩ := h
  ·obtain ⟨h1, h2⟩ := zpk hz
   exact ⟨h1, by rw [List.length_cons]; omega⟩
  ·obtain ⟨h1, h2⟩ := zpk hz
   obtain ⟨h3, h4⟩ := zu9 h
   exact ⟨by omega, by rw [List.length_cons]; omega⟩
def cntY (p : Nat) : Nat → Nat
 | 0 => 1
 | n + 1 => cntY p n * (n + p + 1)
theorem zr3 {X Y : Type} {f : X → List Y} {B : Nat} : ∀ {l : List X}, (∀ x ∈ l, (f x).length ≤ B) → (l.flatMap f).length ≤ l.length * B
 | [], _ => Nat.zero_le _
 | x :: l, h => by
  have h1 := h x (by simp)
  have h2 := zr3 (l := l) fun z hz => h z (List.mem_cons_of_mem _ hz)
  rw [List.flatMap_cons, List.length_append, List.length_cons, Nat.add_mul, Nat.one_mul]
  omega
theorem zyg {p : Nat} : ∀ names : List ByteArray, (allY p names).length ≤ cntY p names.length
 | [] => Nat.le_refl _
 | x :: names => by
  have h1 : (allY p (x :: names)).length ≤ (allY p names).length * (names.length + p + 1) := zr3 fun y hy => by
   obtain ⟨h1, h2⟩ := zpk hy
   rw [List.length_cons, zxy]
   omega
  exact Nat.le_trans h1 (Nat.mul_le_mul_right _ (zyg names))
theorem y7f {p n : Nat} (hp : p ≤ 4) (hn : n ≤ 6) : cntY p n ≤ 151200 := by
 have key : ∀ p : Fin 5, ∀ n : Fin 7, cntY p.val n.val ≤ 151200 := by decide
 exact key ⟨p, by omega⟩ ⟨n, by omega⟩
theorem y3c {x : ByteArray} {p : List ByteArray} (h : x ∉ p) : FR [x] p = p := y3d fun z hz e => h (by rw [List.mem_singleton] at e; rw [← e]; exact hz)
theorem zv3 {x : ByteArray} {p : List ByteArray} : FR [x] (x :: p) = FR [x] p := by
 unfold FR
 rw [List.filter_cons_of_neg]
 rw [z2f.2 (by simp)]
 exact Bool.false_ne_true
theorem y02 {x z : ByteArray} {p : List ByteArray} (h : x ≠ z) : FR [x] (z :: p) = z :: FR [x] p := by
 unfold FR
 rw [List.filter_cons_of_pos]
 cases e : hasB [x] z with
 | false => rfl
 | true => exact absurd (List.mem_singleton.1 (z2f.1 e)).symm h
theorem zua {x : ByteArray} : ∀ {p : List ByteArray}, p.Nodup → x ∈ p → p ∈ zop x (FR [x] p)
 | [], _, h => by cases h
 | z :: p, hn, h => by
  rw [List.nodup_cons] at hn
  by_cases e : x = z
  ·subst e
   rw [zv3, y3c hn.1]
   cases p with
   | nil => simp [zop]
   | cons u r => simp [zop]
  ·have hx : x ∈ p := (List.mem_cons.1 h).resolve_left e
   rw [y02 e]
   simp only [zop, List.mem_cons, List.mem_map]
   exact .inr ⟨p, zua hn.2 hx, rfl⟩
theorem zxx {x : ByteArray} : ∀ {y : YdT}, y.flatten.Nodup → x ∈ y.flatten → y ∈ insY x (y.map (FR [x]))
 | [], _, h => by cases h
 | p :: y, hn, h => by
  rw [List.flatten_cons] at hn h
  rw [List.nodup_append] at hn
  simp only [List.map_cons, insY, List.mem_append, List.mem_map]
  by_cases hp : x ∈ p
  ·left
   refine ⟨p, zua hn.1 hp, ?_⟩
   rw [zkn fun z hz e => ?_]
   rw [List.mem_singleton] at e
   exact hn.2.2 x hp z hz e.symm
  ·right
   have hy : x ∈ y.flatten := (List.mem_append.1 h).resolve_left hp
   exact ⟨y, by exact zxx hn.2.1 hy, by rw [y3c hp]⟩
theorem zsu {p : Nat} : ∀ {names : List ByteArray} {y : YdT}, y.length = p → y.flatten.Nodup → (∀ x ∈ y.flatten, x ∈ names) → y ∈ allY p names
 | [], y, hl, _, hs => by
  simp only [allY, List.mem_singleton]
  rw [List.eq_replicate_iff]
  refine ⟨hl, fun q hq => ?_⟩
  cases q with
  | nil => rfl
  | cons z q => exact absurd (hs z (List.mem_flatten.2 ⟨_, hq, by simp⟩)) (by simp)
 | x :: names, y, hl, hn, hs => by
  simp only [allY, List.mem_flatMap, List.mem_cons]
  by_cases hx : x ∈ y.flatten
  ·have e : (y.map (FR [x])).flatten = FR [x] y.flatten := by
    unfold FR
    rw [List.filter_flatten]
   refine ⟨y.map (FR [x]), zsu (by rw [List.length_map]; exact hl) (by rw [e]; exact hn.filter _) ?_, .inr (zxx hn hx)⟩
   intro z hz
   rw [e] at hz
   unfold FR at hz
   rw [List.mem_filter] at hz
   rcases List.mem_cons.1 (hs z hz.1) with rfl | h
   ·have := hz.2
    rw [z2f.2 (by simp)] at this
    cases this
   ·exact h
  ·refine ⟨y, zsu hl hn fun z hz => ?_, .inl rfl⟩
   rcases List.mem_cons.1 (hs z hz) with rfl | h
   ·exact absurd hz hx
   ·exact h
theorem y6w {names req : List ByteArray} {p : Nat} (hc : Cx names req p) {done : List ByteArray} (hn : done.Nodup) (hd : ∀ s ∈ done, ∃ y : YdT, y.length = p ∧ y.flatten.Nodup ∧ (∀ x ∈ y.flatten, x ∈ names) ∧ s = keyB y) : done.length ≤ 151200 := by
 have h1 : done.length ≤ ((allY p names).map keyB).length := List.Nodup.length_le_of_subset hn fun s hs => by
  obtain ⟨y, e1, e2, e3, rfl⟩ := hd s hs
  exact List.mem_map.2 ⟨y, zsu e1 e2 e3, rfl⟩
 rw [List.length_map] at h1
 exact Nat.le_trans h1 (Nat.le_trans (zyg names) (y7f hc.p4 hc.nl))
end Go.Lift
namespace Go.Lift
open Go
theorem zzk {ps qs : PutL} {k : Int} : z2j (ps ++ qs) k = z2j ps k ++ z2j qs k := by
 unfold z2j
 rw [List.filter_append, List.map_append]
theorem z8p {ps : PutL} {k : Int} {n : z2c} : n ∈ z2j ps k ↔ (k, n) ∈ ps := by
 unfold z2j
 rw [List.mem_map]
 constructor
 ·rintro ⟨⟨j, m⟩, h, rfl⟩
  rw [List.mem_filter, beq_iff_eq] at h
  obtain ⟨h1, rfl⟩ := h
  exact h1
 ·intro h
  exact ⟨(k, n), List.mem_filter.2 ⟨h, beq_self_eq_true _⟩, rfl⟩
theorem zui : ∀ (l : PutL) (a : Int), a ≤ l.foldl (fun m e => max m e.1) a ∧ ∀ e ∈ l, e.1 ≤ l.foldl (fun m e => max m e.1) a
 | [], a => ⟨Int.le_refl _, fun e h => by cases h⟩
 | x :: l, a => by
  rw [List.foldl_cons]
  obtain ⟨h1, h2⟩ := zui l (max a x.1)
  refine ⟨by omega, fun e he => ?_⟩
  rcases List.mem_cons.1 he with rfl | he
  ·omega
  ·exact h2 e he
theorem y4m {ps : PutL} {e : Int × z2c} (h : e ∈ ps) : e.1 ≤ zau ps := (zui ps 0).2 e h
structure NdOk (names req : List ByteArray) (p : Nat) (y0 : YdT) (n : z2c) : Prop where
 vd : Vd names req p (stN n)
 run : ∃ w : Nat, Run (y0, req) n.2.2.1 (stN n) w ∧ n.2.2.2 = (w : Int) ∧ n.2.2.1.length + n.2.1.length = w + req.length
 nrm : zv1 (stN n)
def Exp (ps : PutL) (n : z2c) : Prop := ∀ m s1, Stp (stN n) m s1 1 → ∃ e ∈ ps, stN e.2 = tS s1 ∧ e.2.2.2.2 = n.2.2.2 + 1
def Prd (ps : PutL) (e : Int × z2c) : Prop := e.2.2.1 ≠ [] ∧ ∃ e' ∈ ps, stN e'.2 = stN e.2 ∧ e'.1 ≤ e.1 ∧ Exp ps e'.2
theorem Exp.mono {ps qs : PutL} {n : z2c} (h : Exp ps n) (hs : ∀ e ∈ ps, e ∈ qs) : Exp qs n := fun m s1 hm => by
 obtain ⟨e, he, h1, h2⟩ := h m s1 hm
 exact ⟨e, hs e he, h1, h2⟩
theorem Prd.mono {ps qs : PutL} {e : Int × z2c} (h : Prd ps e) (hs : ∀ e ∈ ps, e ∈ qs) : Prd qs e := by
 obtain ⟨h0, e', h1, h2, h3, h4⟩ := h
 exact ⟨h0, e', hs e' h1, h2, h3, h4.mono hs⟩
structure Inv (names req : List ByteArray) (p : Nat) (y0 : YdT) (k : Int) (i : Nat) (ps : PutL) (done : List ByteArray) : Prop where
 ok : ∀ e ∈ ps, NdOk names req p y0 e.2 ∧ e.1 = e.2.2.2.2 + (hS (stN e.2) : Int) ∧ e.2.2.2.2 ≤ (done.length : Int)
 dn : done.Nodup
 dk : ∀ s ∈ done, ∃ e ∈ ps, keyB e.2.1 = s ∧ e.1 ≤ k ∧ Exp ps e.2
 lo : ∀ e ∈ ps, e.1 < k → Prd ps e
 at_ : ∀ j n, j < i → (z2j ps k)[j]? = some n → Prd ps (k, n)
 st : ∃ e ∈ ps, stN e.2 = tS (y0, req) ∧ e.2.2.2.2 = 0
 ln : ps.length ≤ 1 + 16 * done.length
theorem Inv.keys {names req : List ByteArray} {p : Nat} {y0 : YdT} {k : Int} {i : Nat} {ps : PutL} {done : List ByteArray} (hc : Cx names req p) (h : Inv names req p y0 k i ps done) : done.length ≤ 151200 := by
 refine y6w hc h.dn fun s hs => ?_
 obtain ⟨e, he, h1, _⟩ := h.dk s hs
 have hv := (h.ok e he).1.vd
 exact ⟨e.2.1, hv.len, hv.nd, hv.sub, h1.symm⟩
theorem y2a {names req : List ByteArray} {p : Nat} (hc : Cx names req p) {n n' : z2c} (h1 : Vd names req p (stN n)) (h2 : Vd names req p (stN n')) (h : keyB n.1 = keyB n'.1) : stN n = stN n' := by
 have hy : n.1 = n'.1 := y4q (h1.len.trans h2.len.symm) (fun x hx => hc.nm x (h1.sub x hx)) (fun x hx => hc.nm x (h2.sub x hx)) h
 have hl : n.2.1 = n'.2.1 := h1.left.trans (by rw [show (stN n).1 = (stN n').1 from hy]; exact h2.left.symm)
 show (n.1, n.2.1) = (n'.1, n'.2.1)
 rw [hy, hl]
theorem y18 {names req : List ByteArray} {p : Nat} (hc : Cx names req p) {y0 : YdT} {n : z2c} {ps : PutL} {w : Nat} (hv : Vd names req p (stN n)) (hr : Run (y0, req) n.2.2.1 (stN n) w) (hw : n.2.2.2 = (w : Int)) (hl : n.2.2.1.length + n.2.1.length = w + req.length) (hb : w ≤ 200000) (hp : ps.length ≤ 100000000) :
  ∃ t, putN ps n = some (ps ++ [(t.2.2.2 + (hS (stN t) : Int), t)]) ∧ NdOk names req p y0 t ∧ stN t = tS (stN n) ∧ t.2.2.2 = (w : Int) := by
 have h6 := hc.rl
 obtain ⟨l, h1, h2, h3⟩ := y3n hc hv (by omega) (by omega)
 have hv2 := hv.run hc.rn h2
 have hh := hS_le hc hv2
 have hst : stN ((tS (stN n)).1, (tS (stN n)).2, n.2.2.1 ++ l, n.2.2.2) = tS (stN n) := rfl
 have hbk := y55 hc hv2
 refine ⟨((tS (stN n)).1, (tS (stN n)).2, n.2.2.1 ++ l, n.2.2.2), ?_, ⟨hv2, ⟨w, ?_, hw, ?_⟩, znl _⟩, hst, hw⟩
 ·unfold putN
  rw [h1, Option.bind_some]
  simp only
  rw [hbk, Option.bind_some]
  have hh' : (blkA (tS (stN n)).2 (tS (stN n)).1).length ≤ 6 := hh
  rw [z01 (show 0 ≤ n.2.2.2 by omega), z01 (show n.2.2.2 ≤ 4294967296 by omega), z01 hp, z01 (show (blkA (tS (stN n)).2 (tS (stN n)).1).length ≤ 1000000 by omega)]
  rfl
 ·exact hr.append h2
 ·simp only [List.length_append]
  omega
theorem zti {names req : List ByteArray} {p : Nat} (hc : Cx names req p) {y0 : YdT} {n : z2c} (hn : NdOk names req p y0 n) (hb : n.2.2.2 ≤ 151200) : ∀ {ms : List (Int × Int)} {ps : PutL}, (∀ m ∈ ms, ∃ s1, Stp (stN n) m s1 1) → ps.length + ms.length ≤ 100000000 →
  ∃ new, zco n ms ps = some (ps ++ new) ∧ new.length = ms.length ∧ (∀ e ∈ new, NdOk names req p y0 e.2 ∧ e.1 = e.2.2.2.2 + (hS (stN e.2) : Int) ∧ e.2.2.2.2 = n.2.2.2 + 1 ∧ n.2.2.2 + (hS (stN n) : Int) ≤ e.1) ∧ ∀ m ∈ ms, ∀ s1, Stp (stN n) m s1 1 → ∃ e ∈ new, stN e.2 = tS s1 ∧ e.2.2.2.2 = n.2.2.2 + 1
 | [], ps, _, _ => ⟨[], by simp [zco], rfl, fun e h => (by cases h), fun m h => (by cases h)⟩
 | m :: ms, ps, hms, hl => by
  obtain ⟨s1, hs⟩ := hms m (by simp)
  obtain ⟨w, r1, r2, r3⟩ := hn.run
  have h6 := hc.rl
  have hnx := zw0 hc hn.vd hs (by omega) (by omega)
  have hv1 := hn.vd.stp hc.rn hs
  have hl1 : s1.2.length = n.2.1.length := by
   generalize hst : stN n = st at hs
   cases hs with
   | @mv y left q x a b _ _ _ _ =>
    have : n.2.1 = left := congrArg Prod.snd hst
    rw [this]
  obtain ⟨t, t1, t2, t3, t4⟩ := y18 hc (n := (s1.1, s1.2, n.2.2.1 ++ [m], n.2.2.2 + ((1 : Nat) : Int))) (ps := ps) (w := w + 1) (y0 := y0) hv1 (r1.append (Run.one hs)) (by show n.2.2.2 + ((1 : Nat) : Int) = _; omega) (by simp only [List.length_append, List.length_singleton]; omega) (by omega) (by simp only [List.length_cons] at hl; omega)
  obtain ⟨new, g1, g2, g3, g4⟩ := zti hc hn hb (ms := ms) (ps := ps ++ [(t.2.2.2 + (hS (stN t) : Int), t)]) (fun m' h' => hms m' (List.mem_cons_of_mem _ h')) (by simp only [List.length_append, List.length_cons, List.length_nil] at hl ⊢; omega)
  have hw1 : t.2.2.2 = n.2.2.2 + 1 := by rw [t4, r2]; omega
  have hh : hS (stN n) ≤ 1 + hS (stN t) := by
   have e1 := y70 hn.vd.nd hs
   obtain ⟨l, e2, _⟩ := y0b s1
   have e3 := y4s hc.rn hv1 e2
   rw [t3]
   show hS (stN n) ≤ 1 + hS (tS s1)
   omega
  refine ⟨(t.2.2.2 + (hS (stN t) : Int), t) :: new, ?_, by simp [g2], ?_, ?_⟩
  ·simp only [zco]
   rw [hnx, Option.bind_some, t1, Option.bind_some, g1, List.append_assoc]
   rfl
  ·intro e he
   rcases List.mem_cons.1 he with rfl | he
   ·exact ⟨t2, rfl, hw1, by show _ ≤ t.2.2.2 + _; omega⟩
   ·exact g3 e he
  ·intro m' hm' s1' hs'
   rcases List.mem_cons.1 hm' with rfl | hm'
   ·obtain ⟨e, _⟩ := hs.det hs'
    subst e
    exact ⟨_, List.mem_cons_self, t3, hw1⟩
   ·obtain ⟨e, he, h1, h2⟩ := g4 m' hm' s1' hs'
    exact ⟨e, List.mem_cons_of_mem _ he, h1, h2⟩
theorem zs8 {names req : List ByteArray} {p : Nat} (hc : Cx names req p) {y0 : YdT} {k : Int} {i : Nat} {ps : PutL} {done : List ByteArray} (h : Inv names req p y0 k i ps done) {n : z2c} (hn : (z2j ps k)[i]? = some n) (h0 : n.2.1 ≠ []) (hs : keyB n.1 ∈ done) : Inv names req p y0 k (i + 1) ps done := by
 refine ⟨h.ok, h.dn, h.dk, h.lo, fun j n' hj hn' => ?_, h.st, h.ln⟩
 by_cases e : j = i
 ·subst e
  rw [hn] at hn'
  cases hn'
  obtain ⟨e, he, h1, h2, h3⟩ := h.dk _ hs
  have hmem : (k, n) ∈ ps := z8p.1 (List.mem_of_getElem? hn)
  exact ⟨h0, e, he, y2a hc (h.ok e he).1.vd (h.ok _ hmem).1.vd h1, h2, h3⟩
 ·exact h.at_ j n' (by omega) hn'
theorem zs7 {names req : List ByteArray} {p : Nat} (hc : Cx names req p) {y0 : YdT} {k : Int} {i : Nat} {ps : PutL} {done : List ByteArray} (h : Inv names req p y0 k i ps done) {n : z2c} (hn : (z2j ps k)[i]? = some n) (h0 : n.2.1 ≠ []) (hs : keyB n.1 ∉ done) :
  ∃ qs, zco n (zkm n.1) ps = some qs ∧ Inv names req p y0 k (i + 1) qs (keyB n.1 :: done) := by
 have hmem : (k, n) ∈ ps := z8p.1 (List.mem_of_getElem? hn)
 obtain ⟨hnd, hk, hw⟩ := h.ok _ hmem
 simp only at hnd hk hw
 have hkeys := h.keys hc
 have hml := zzd hc hnd.vd
 have hln := h.ln
 obtain ⟨new, g1, g2, g3, g4⟩ := zti hc hnd (by omega) (ms := zkm n.1) (ps := ps) (fun m hm => zzc hm) (by simp only at hml; omega)
 have hsub : ∀ e ∈ ps, e ∈ ps ++ new := fun e he => List.mem_append_left _ he
 have hexp : Exp (ps ++ new) n := fun m s1 hm => by
  obtain ⟨e, he, h1, h2⟩ := g4 m (zyo hm) s1 hm
  exact ⟨e, List.mem_append_right _ he, h1, h2⟩
 refine ⟨ps ++ new, g1, fun e he => ?_, List.nodup_cons.2 ⟨hs, h.dn⟩, fun s hs' => ?_, fun e he hlt => ?_, fun j n' hj hn' => ?_, ?_, ?_⟩
 ·rcases List.mem_append.1 he with he | he
  ·obtain ⟨a1, a2, a3⟩ := h.ok e he
   exact ⟨a1, a2, by rw [List.length_cons]; omega⟩
  ·obtain ⟨a1, a2, a3, a4⟩ := g3 e he
   exact ⟨a1, a2, by rw [List.length_cons]; omega⟩
 ·rcases List.mem_cons.1 hs' with rfl | hs'
  ·exact ⟨(k, n), hsub _ hmem, rfl, Int.le_refl _, hexp⟩
  ·obtain ⟨e, he, a1, a2, a3⟩ := h.dk s hs'
   exact ⟨e, hsub _ he, a1, a2, a3.mono hsub⟩
 ·rcases List.mem_append.1 he with he | he
  ·exact (h.lo e he hlt).mono hsub
  ·obtain ⟨a1, a2, a3, a4⟩ := g3 e he
   omega
 ·have hil := (List.getElem?_eq_some_iff.1 hn).1
  rw [zzk, List.getElem?_append_left (by omega)] at hn'
  by_cases e : j = i
  ·subst e
   rw [hn] at hn'
   cases hn'
   exact ⟨h0, (k, n), hsub _ hmem, rfl, Int.le_refl _, hexp⟩
  ·exact (h.at_ j n' (by omega) hn').mono hsub
 ·obtain ⟨e, he, a1, a2⟩ := h.st
  exact ⟨e, hsub _ he, a1, a2⟩
 ·simp only at hml
  rw [List.length_append, List.length_cons]
  omega
theorem y4r {names req : List ByteArray} {p : Nat} {y0 : YdT} {k : Int} {i : Nat} {ps : PutL} {done : List ByteArray} (h : Inv names req p y0 k i ps done) (hi : (z2j ps k).length ≤ i) : Inv names req p y0 (k + 1) 0 ps done := by
 refine ⟨h.ok, h.dn, fun s hs => ?_, fun e he hlt => ?_, fun j n hj => by omega, h.st, h.ln⟩
 ·obtain ⟨e, he, a1, a2, a3⟩ := h.dk s hs
  exact ⟨e, he, a1, by omega, a3⟩
 ·by_cases hk : e.1 < k
  ·exact h.lo e he hk
  ·have e1 : e = (k, e.2) := by
    have : e.1 = k := by omega
    rw [← this]
   rw [e1] at he ⊢
   obtain ⟨j, hj, hj2⟩ := List.mem_iff_getElem.1 (z8p.2 he)
   exact h.at_ j e.2 (by omega) (by rw [List.getElem?_eq_getElem hj, hj2])
theorem gone {names req : List ByteArray} {p : Nat} (hc : Cx names req p) {y0 : YdT} {k : Int} {i : Nat} {ps : PutL} {done : List ByteArray} (h : Inv names req p y0 k i ps done) {K : Int} (hK : ∀ e ∈ ps, e.1 < K → Prd ps e) {t : StT} {w : Nat} (hr : TRun (tS (y0, req)) t w) : (w : Int) + (hS t : Int) < K → ∃ e ∈ ps, stN e.2 = t ∧ e.2.2.2.2 ≤ (w : Int) := by
 induction hr with
 | nil =>
  intro _
  obtain ⟨e, he, h1, h2⟩ := h.st
  exact ⟨e, he, h1, by omega⟩
 | @snoc t t' w hr hs ih =>
  intro hlt
  obtain ⟨m, s1, hs1, rfl⟩ := hs
  have hv : Vd names req p t ∧ True := by
   obtain ⟨e, he, h1, h2⟩ := h.st
   have hv0 := (h.ok e he).1.vd
   rw [h1] at hv0
   clear hlt ih hs1
   induction hr with
   | nil => exact ⟨hv0, trivial⟩
   | snoc hr hs ih =>
    obtain ⟨m, s1, h1, rfl⟩ := hs
    obtain ⟨l, h2, _⟩ := y0b s1
    exact ⟨(ih.1.stp hc.rn h1).run hc.rn h2, trivial⟩
  have e1 := y70 hv.1.nd hs1
  obtain ⟨l, e2, _⟩ := y0b s1
  have e3 := y4s hc.rn (hv.1.stp hc.rn hs1) e2
  obtain ⟨e, he, h1, h2⟩ := ih (by omega)
  obtain ⟨_, hk, _⟩ := h.ok e he
  rw [h1] at hk
  obtain ⟨_, e', he', g1, g2, g3⟩ := hK e he (by omega)
  obtain ⟨_, hk', _⟩ := h.ok e' he'
  rw [g1, h1] at hk'
  rw [h1] at g1
  obtain ⟨e'', he'', f1, f2⟩ := g3 m s1 (by rw [g1]; exact hs1)
  exact ⟨e'', he'', f1, by omega⟩
def Best (req : List ByteArray) (y0 : YdT) (r : List (Int × Int) × Bool) : Prop :=
 (r.2 = true → ∃ s' w, Run (y0, req) r.1 s' w ∧ s'.2 = [] ∧ r.1.length = w + req.length ∧ ∀ l s c, Run (y0, req) l s c → s.2 = [] → w ≤ c) ∧
 (r.2 = false → r.1 = [] ∧ ∀ l s c, Run (y0, req) l s c → s.2 ≠ [])
theorem zi2 {names req : List ByteArray} {p : Nat} (hc : Cx names req p) {y0 : YdT} {k : Int} {N : Nat} {ps : PutL} {done : List ByteArray} {i : Nat} {r : (PutL × List ByteArray) ⊕ List (Int × Int)} (hr : zf7 k N ps done i r) : Inv names req p y0 k i ps done →
  (∀ qs d, r = .inl (qs, d) → Inv names req p y0 (k + 1) 0 qs d) ∧ ∀ l, r = .inr l → ∃ qs d i' n, Inv names req p y0 k i' qs d ∧ (k, n) ∈ qs ∧ n.2.1 = [] ∧ n.2.2.1 = l := by
 induction hr with
 | stop h =>
  intro hi
  exact ⟨fun qs d e => (by cases e; exact y4r hi h), fun l e => (by cases e)⟩
 | @goal N ps done i n h1 h2 =>
  intro hi
  exact ⟨fun qs d e => (by cases e), fun l e => by cases e; exact ⟨ps, done, i, n, hi, z8p.1 (List.mem_of_getElem? h1), h2, rfl⟩⟩
 | @skip N ps done i n s r h1 h2 h3 h4 _ ih =>
  intro hi
  have hv := (hi.ok _ (z8p.1 (List.mem_of_getElem? h1))).1.vd
  rw [zu8 (hv.few hc)] at h3
  cases h3
  exact ih (zs8 hc hi h1 h2 h4)
 | @turn N ps qs done i n s ms r h1 h2 h3 h4 h5 h6 h7 _ ih =>
  intro hi
  have hv := (hi.ok _ (z8p.1 (List.mem_of_getElem? h1))).1.vd
  rw [zu8 (hv.few hc)] at h3
  cases h3
  have hlen := hv.len
  have hp4 := hc.p4
  rw [ztx (by simp only at hlen; omega)] at h6
  cases h6
  obtain ⟨qs', g1, g2⟩ := zs7 hc hi h1 h2 h4
  rw [g1] at h7
  cases h7
  exact ih g2
theorem ztk {names req : List ByteArray} {p : Nat} (hc : Cx names req p) {y0 : YdT} (hv0 : Vd names req p (y0, req)) {N : Nat} {ps : PutL} {done : List ByteArray} {k : Nat} {r : List (Int × Int) × Bool} (hr : zhr N ps done k r) : Inv names req p y0 (k : Int) 0 ps done → Best req y0 r := by
 induction hr with
 | @stop N ps done k hlt =>
  intro hi
  refine ⟨fun e => (by cases e), fun _ => ⟨rfl, fun l s c hl h0 => ?_⟩⟩
  obtain ⟨t', j, h1, h2, h3⟩ := sim0 hc.rn hl hv0 h0
  have hall : ∀ e ∈ ps, Prd ps e := fun e he => hi.lo e he (by have := y4m he; omega)
  obtain ⟨e, he, g1, g2⟩ := gone hc hi (K := (j : Int) + (hS t' : Int) + 1) (fun e he _ => hall e he) h1 (by omega)
  have : e.2.2.1 = [] := by
   have := congrArg Prod.snd g1
   exact this.trans h3
  exact (hall e he).1 this
 | @goal N K ps done k l hle hin =>
  intro hi
  obtain ⟨qs, d, i', n, h1, h2, h3, rfl⟩ := (zi2 hc hin hi).2 _ rfl
  obtain ⟨hnd, hk, _⟩ := h1.ok _ h2
  obtain ⟨w, r1, r2, r3⟩ := hnd.run
  simp only at hk r1 r2 r3
  have hz : hS (stN n) = 0 := by
   show hL n.2.1 n.1 = 0
   rw [h3]
   exact y4t _
  refine ⟨fun _ => ⟨stN n, w, r1, h3, by rw [h3, List.length_nil] at r3; omega, fun l s c hl h0 => ?_⟩, fun e => by cases e⟩
  obtain ⟨t', j, f1, f2, f3⟩ := sim0 hc.rn hl hv0 h0
  have hz' : hS t' = 0 := by
   show hL t'.2 t'.1 = 0
   rw [f3]
   exact y4t _
  rcases Nat.lt_or_ge c w with hlt | hge
  ·exfalso
   obtain ⟨e, he, g1, g2⟩ := gone hc h1 (K := (k : Int)) h1.lo f1 (by omega)
   obtain ⟨_, hk2, _⟩ := h1.ok e he
   rw [g1] at hk2
   have : e.2.2.1 = [] := by
    have := congrArg Prod.snd g1
    exact this.trans f3
   exact (h1.lo e he (by omega)).1 this
  ·exact hge
 | @next N K ps qs done done' k r hle hin _ ih =>
  intro hi
  have := (zi2 hc hin hi).1 _ _ rfl
  exact ih (by rw [show ((k + 1 : Nat) : Int) = (k : Int) + 1 by omega]; exact this)
theorem zmg {names req : List ByteArray} {p : Nat} (hc : Cx names req p) {y0 : YdT} {k : Int} : ∀ (u : Nat) {ps : PutL} {done : List ByteArray}, 151200 - done.length ≤ u → ∀ (j : Nat) {i : Nat}, (z2j ps k).length - i ≤ j → Inv names req p y0 k i ps done → ∃ N r, zf7 k N ps done i r := by
 intro u
 induction u with
 | zero =>
  intro ps done hu j
  induction j with
  | zero => intro i hj hi; exact ⟨0, _, .stop (by omega)⟩
  | succ j ih =>
   intro i hj hi
   rcases Nat.lt_or_ge i (z2j ps k).length with hlt | hge
   ·have hn := List.getElem?_eq_getElem hlt
    generalize (z2j ps k)[i] = n at hn
    have hv := (hi.ok _ (z8p.1 (List.mem_of_getElem? hn))).1.vd
    by_cases h0 : n.2.1 = []
    ·exact ⟨0, _, .goal hn h0⟩
    ·by_cases hs : keyB n.1 ∈ done
     ·obtain ⟨N, r, h⟩ := ih (i := i + 1) (by omega) (zs8 hc hi hn h0 hs)
      exact ⟨N + 1, r, .skip hn h0 (zu8 (hv.few hc)) hs h⟩
     ·exfalso
      obtain ⟨qs, g1, g2⟩ := zs7 hc hi hn h0 hs
      have := g2.keys hc
      rw [List.length_cons] at this
      omega
   ·exact ⟨0, _, .stop hge⟩
 | succ u ihu =>
  intro ps done hu j
  induction j with
  | zero => intro i hj hi; exact ⟨0, _, .stop (by omega)⟩
  | succ j ih =>
   intro i hj hi
   rcases Nat.lt_or_ge i (z2j ps k).length with hlt | hge
   ·have hn := List.getElem?_eq_getElem hlt
    generalize (z2j ps k)[i] = n at hn
    have hv := (hi.ok _ (z8p.1 (List.mem_of_getElem? hn))).1.vd
    by_cases h0 : n.2.1 = []
    ·exact ⟨0, _, .goal hn h0⟩
    ·by_cases hs : keyB n.1 ∈ done
     ·obtain ⟨N, r, h⟩ := ih (i := i + 1) (by omega) (zs8 hc hi hn h0 hs)
      exact ⟨N + 1, r, .skip hn h0 (zu8 (hv.few hc)) hs h⟩
     ·obtain ⟨qs, g1, g2⟩ := zs7 hc hi hn h0 hs
      have hkl := g2.keys hc
      obtain ⟨N, r, h⟩ := ihu (ps := qs) (done := keyB n.1 :: done) (by rw [List.length_cons] at hkl ⊢; omega) _ (Nat.le_refl _) g2
      have hlen := hv.len
      have hp4 := hc.p4
      have := hi.keys hc
      exact ⟨N + 1, r, .turn hn h0 (zu8 (hv.few hc)) hs (by omega) (ztx (by simp only at hlen; omega)) g1 h⟩
   ·exact ⟨0, _, .stop hge⟩
theorem zo5 {k : Int} {N : Nat} {ps : PutL} {done : List ByteArray} {i : Nat} {r : (PutL × List ByteArray) ⊕ List (Int × Int)} (hr : zf7 k N ps done i r) : ∀ qs d, r = .inl (qs, d) → (qs = ps ∧ d = done) ∨ done.length < d.length := by
 induction hr with
 | stop _ => intro qs d e; cases e; exact .inl ⟨rfl, rfl⟩
 | goal _ _ => intro qs d e; cases e
 | skip _ _ _ _ _ ih => exact ih
 | turn _ _ _ _ _ _ _ _ ih =>
  intro qs d e
  right
  rcases ih qs d e with ⟨_, rfl⟩ | h
  ·rw [List.length_cons]; omega
  ·rw [List.length_cons] at h; omega
theorem zrt {names req : List ByteArray} {p : Nat} (hc : Cx names req p) {y0 : YdT} : ∀ (u : Nat) {ps : PutL} {done : List ByteArray}, 151200 - done.length ≤ u → ∀ (j : Nat) {k : Nat}, (zau ps + 1 - (k : Int)).toNat ≤ j → Inv names req p y0 (k : Int) 0 ps done → ∃ N r, zhr N ps done k r := by
 intro u
 induction u with
 | zero =>
  intro ps done hu j
  induction j with
  | zero => intro k hj hi; exact ⟨0, _, .stop (by omega)⟩
  | succ j ih =>
   intro k hj hi
   by_cases hle : (k : Int) ≤ zau ps
   ·obtain ⟨K, r, hin⟩ := zmg hc _ (Nat.le_refl _) _ (Nat.le_refl _) hi
    cases r with
    | inr l => exact ⟨0, _, .goal hle hin⟩
    | inl q =>
     obtain ⟨qs, d⟩ := q
     have hnx := (zi2 hc hin hi).1 _ _ rfl
     rw [show (k : Int) + 1 = ((k + 1 : Nat) : Int) by omega] at hnx
     rcases zo5 hin _ _ rfl with ⟨rfl, rfl⟩ | hlt
     ·obtain ⟨N, r, h⟩ := ih (k := k + 1) (by omega) hnx
      exact ⟨N + 1, r, .next hle hin h⟩
     ·have := hnx.keys hc
      omega
   ·exact ⟨0, _, .stop (by omega)⟩
 | succ u ihu =>
  intro ps done hu j
  induction j with
  | zero => intro k hj hi; exact ⟨0, _, .stop (by omega)⟩
  | succ j ih =>
   intro k hj hi
   by_cases hle : (k : Int) ≤ zau ps
   ·obtain ⟨K, r, hin⟩ := zmg hc _ (Nat.le_refl _) _ (Nat.le_refl _) hi
    cases r with
    | inr l => exact ⟨0, _, .goal hle hin⟩
    | inl q =>
     obtain ⟨qs, d⟩ := q
     have hnx := (zi2 hc hin hi).1 _ _ rfl
     rw [show (k : Int) + 1 = ((k + 1 : Nat) : Int) by omega] at hnx
     rcases zo5 hin _ _ rfl with ⟨rfl, rfl⟩ | hlt
     ·obtain ⟨N, r, h⟩ := ih (k := k + 1) (by omega) hnx
      exact ⟨N + 1, r, .next hle hin h⟩
     ·have := hnx.keys hc
      obtain ⟨N, r, h⟩ := ihu (ps := qs) (done := d) (by omega) _ (Nat.le_refl _) hnx
      exact ⟨N + 1, r, .next hle hin h⟩
   ·exact ⟨0, _, .stop (by omega)⟩
theorem y6i {names req : List ByteArray} {p : Nat} (hc : Cx names req p) {y0 : YdT} (hv0 : Vd names req p (y0, req)) : ∃ r, z6z y0 req = some r ∧ Best req y0 r := by
 obtain ⟨t, t1, t2, t3, t4⟩ := y18 hc (n := (y0, req, [], 0)) (ps := []) (w := 0) (y0 := y0) hv0 (.nil _) rfl (by simp) (by omega) (by simp)
 have hi : Inv names req p y0 ((0 : Nat) : Int) 0 [(t.2.2.2 + (hS (stN t) : Int), t)] [] := by
  refine ⟨fun e he => ?_, List.nodup_nil, fun s hs => (by cases hs), fun e he hlt => ?_, fun j n hj => by omega, ⟨_, List.mem_singleton.2 rfl, t3, by exact t4⟩, by simp⟩
  ·rw [List.mem_singleton] at he
   subst he
   exact ⟨t2, rfl, by show t.2.2.2 ≤ _; rw [t4]; simp⟩
  ·rw [List.mem_singleton] at he
   subst he
   exfalso
   have : t.2.2.2 + (hS (stN t) : Int) < ((0 : Nat) : Int) := hlt
   rw [t4] at this
   omega
 have hput : putN [] (y0, req, [], 0) = some [(t.2.2.2 + (hS (stN t) : Int), t)] := t1
 obtain ⟨N, r, hout⟩ := zrt hc _ (Nat.le_refl _) _ (Nat.le_refl _) hi
 have hex : ∃ r, zsv y0 req r := ⟨r, _, N, hput, hout⟩
 refine ⟨Classical.choose hex, ?_, ?_⟩
 ·unfold z6z
  rw [dif_pos hex]
 ·obtain ⟨ps, N', h1, h2⟩ := Classical.choose_spec hex
  rw [hput] at h1
  cases h1
  exact ztk hc hv0 h2 hi
end Go.Lift
