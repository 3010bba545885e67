/-
  The walk of the reference's clause, and its contract.
-/
import Derived.Test.YtggnjngdmadbaaaGreatDoorOrK
import Derived.Test.YtggnjngdmadbaaaGreatDoorSlM
import Derived.Test.YtggnjngdmadbaaaGreatDoorSlB
set_option linter.unusedSectionVars false
set_option linter.unusedVariables false
set_option linter.unusedSimpArgs false
namespace Go.Lift
open Go Go.Proofs Go.RowKit
set_option maxRecDepth 100000
noncomputable def yo8 (kind : Int) (w : (List ByteArray)) : Option ((List Int) × Int × Bool) :=
 (yoa).bind fun (t : (List (List ByteArray))) =>
 chk (decide ((0 : Int) ≤ kind) && decide (kind < (List.length t : Int))) (
  (z2d (S := (List Int) × Int) (R := ((List Int)) ⊕ ((List Int) × Int × Bool)) (fun s =>
   let l : (List Int) := s.1
   let i : Int := s.2
   bif decide (i < (List.length (lget [] t kind) : Int)) then
    bif (i == (List.length w : Int)) then
     Option.map Sum.inr (Option.map Sum.inr (
      some ([], i, false)))
    else
     chk (decide ((0 : Int) ≤ i) && decide (i < (List.length (lget [] t kind) : Int))) (
      bif seqb (lget ByteArray.empty (lget [] t kind) i) (bytes [35]) then
       chk (decide ((0 : Int) ≤ i) && decide (i < (List.length w : Int))) (
        (yj7 (lget ByteArray.empty w i)).bind fun (r : Int × Bool) =>
        bif !r.2 then
         Option.map Sum.inr (Option.map Sum.inr (
          some ([], i, false)))
        else
         (app l [r.1]).bind fun (t_1 : List Int) =>
         some (.inl (t_1, wi64 (i + 1))))
      else
       chk (decide ((0 : Int) ≤ i) && decide (i < (List.length (lget [] t kind) : Int))) (
        (bif seqb (lget ByteArray.empty (lget [] t kind) i) (bytes [117, 109]) then
         chk (decide ((0 : Int) ≤ i) && decide (i < (List.length w : Int))) (
          some (seqb (lget ByteArray.empty w i) (bytes [109, 109])))
        else some false).bind fun (c : Bool) =>
        bif c then
         chk (decide ((0 : Int) ≤ 0) && decide (0 < (List.length l : Int))) (
          chk (decide ((0 : Int) ≤ 0) && decide (0 < (List.length l : Int))) (
           none))
        else
         chk (decide ((0 : Int) ≤ i) && decide (i < (List.length w : Int))) (
          chk (decide ((0 : Int) ≤ i) && decide (i < (List.length (lget [] t kind) : Int))) (
           bif !seqb (lget ByteArray.empty w i) (lget ByteArray.empty (lget [] t kind) i) then
            Option.map Sum.inr (Option.map Sum.inr (
             some ([], i, false)))
           else
            some (.inl (l, wi64 (i + 1)))))))
   else
    some (.inr (.inl l))) ([], 0)).bind fun j => match j with
  | .inl l_1 => (
   let t_2 : Int := (List.length (lget [] t kind) : Int)
   some (l_1, t_2, true))
  | .inr r => some r)
def yr2 : Ann := (.seq .nil (.seq .nil (.seq .nil (.seq (.seq .nil (.blk (.loopBD ⟨[⟨false, 8, 0, (.slice (.int .i64)), [([], some 101000800)], false⟩, ⟨false, 9, 0, (.int .i64), [], false⟩], []⟩ ⟨[⟨false, 8, 0, (.slice (.int .i64)), [([], some 201000800)], false⟩], []⟩ 0 .nil))) .nil))))
noncomputable abbrev yrp : Sig := ⟨121, [(.int .i64), (.slice .str)], [(.slice (.int .i64)), (.int .i64), .bool], fun x => yo8 x.1 x.2⟩
theorem ys7 (kind : Int) (w : (List ByteArray)) : funK (cx [] [yjr, yoo]) Tryz.f121 yr2 [(.int .i64), (.slice .str)] [(.slice (.int .i64)), (.int .i64), .bool] (kind, w) = yo8 kind w := by kernel_rfl
theorem h_part : Has Tryz.prog yrp :=
 z0y z04 z0s z0t z0u (own := []) (all_cons ykl (all_cons ypc all_nil)) (n := yr2) Tryz.func121 (by kernel_rfl) fun x => ys7 x.1 x.2
noncomputable def c121 : Code := Tryz.f121.body.getD .skip
noncomputable abbrev q121 (n : Nat) : Code := Nat.rec c121 (fun _ c => Code.snd c) n
noncomputable abbrev yrh : Code := Code.fst c121
noncomputable abbrev yrg : Code := Code.fst (q121 1)
noncomputable abbrev ypv : Code := Code.fst (q121 2)
noncomputable abbrev yql : Code := Code.fst (Code.fst (q121 3))
noncomputable def yp2 : Code := Code.fst (Code.fst (Code.snd (Code.fst (q121 3))))
noncomputable abbrev ypx : Code := q121 4
noncomputable abbrev yqw : Code := Code.fst yp2
noncomputable def ypk : Code := Code.fst (Code.fst (Code.snd yp2))
noncomputable abbrev yq3 : Code := Code.snd (Code.snd yp2)
noncomputable abbrev yrf : Code := Code.fst ypk
noncomputable abbrev yre : Code := Code.fst (Code.fst (Code.snd ypk))
noncomputable def yq5 : Code := Code.fst (Code.snd (Code.fst (Code.snd ypk)))
noncomputable abbrev yrd : Code := Code.fst yq5
noncomputable abbrev yqn : Code := Code.fst (Code.snd yq5)
noncomputable abbrev ypy : Code := Code.fst (Code.snd (Code.snd yq5))
noncomputable abbrev yqm : Code := Code.fst (Code.fst (Code.snd (Code.snd ypk)))
noncomputable abbrev yqb : Code := Code.fst (Code.fst (Code.snd (Code.fst (Code.snd (Code.snd ypk)))))
noncomputable abbrev ys6 : Code := Code.snd (Code.snd (Code.snd ypk))
theorem yrb : c121 = .seq yrh (.seq yrg (.seq ypv (.seq (.seq yql (.block 0 (.loop yp2))) ypx))) := by kernel_rfl
theorem yq1 : yp2 = .seq yqw (.seq (.block 1 ypk) yq3) := by kernel_rfl
theorem yr1 : ypk = .seq yrf (.seq (.seq yre (.cond (.tmp 31) yq5 .skip)) (.seq (.seq yqm (.cond (.tmp 58) (.seq yqb (.exit 1)) .skip)) ys6)) := by kernel_rfl
theorem yrx : yq5 = .seq yrd (.seq yqn (.seq ypy (.exit 1))) := by kernel_rfl
noncomputable abbrev cxP : Ctx := cx [] [yjr, yoo]
abbrev TI2 : Ty := .slice (.int .i64)
abbrev s121 (ws P : List ByteArray) (v8 : AVal) (i : Int) : z4b := [(1, .data TWs ws []), (7, .data TWs P []), (8, v8), (9, .data NI2 i [])]
section
variable (k i : Int) (ws P : List ByteArray) (v : Value) (l : List Int) (r : Int × Bool)
theorem h0_121 : z1w cxP yrh .nil (stOf [(0, .data NI2 k []), (1, .data TWs ws [])]) (obsK [] [0, 1]) = some (.normal, [(0, .data NI2 k []), (1, .data TWs ws [])]) := by kernel_rfl
theorem h1_121 : z1w cxP yrg .nil (stOf [(0, .data NI2 k []), (1, .data TWs ws [])]) (obsK [] [1, 7]) = (yoa).bind fun t => chk (decide (0 ≤ k) && decide (k < (t.length : Int))) (some (.normal, [(1, .data TWs ws []), (7, .data TWs (lget [] t k) [])])) := by kernel_rfl
theorem h3_121 : z1w cxP yql .nil (stOf [(1, .data TWs ws []), (7, .data TWs P []), (8, .raw v)]) (obsK [] [1, 7, 8, 9]) = some (.normal, s121 ws P (.raw v) 0) := by kernel_rfl
theorem yqv : z1w cxP yqw (.seq .nil (.cond .nil .nil)) (stOf (s121 ws P (.raw v) i)) (obsK [] [1, 7, 8, 9]) = bif decide (i < (P.length : Int)) then some (.normal, s121 ws P (.raw v) i) else some (.exit 0, s121 ws P (.raw v) i) := by kernel_rfl
theorem ys0 : z1w cxP yqw (.seq .nil (.cond .nil .nil)) (stOf (s121 ws P (.data TI2 l []) i)) (obsK [] [1, 7, 8, 9]) = bif decide (i < (P.length : Int)) then some (.normal, s121 ws P (.data TI2 l []) i) else some (.exit 0, s121 ws P (.data TI2 l []) i) := by kernel_rfl
theorem yrj : z1w cxP yrf (.seq .nil (.cond (.seq .nil .nil) .nil)) (stOf (s121 ws P (.raw v) i)) (fun e τ => match e with | .normal => obsK [] [1, 7, 8, 9] e τ | _ => none) = bif i == (ws.length : Int) then none else some (.normal, s121 ws P (.raw v) i) := by kernel_rfl
theorem yri : z1w cxP yre .nil (stOf (s121 ws P (.raw v) i)) (obsK [] [1, 7, 8, 9, 31]) = chk (decide (0 ≤ i) && decide (i < (P.length : Int))) (some (.normal, s121 ws P (.raw v) i ++ [(31, .data .bool (seqb (lget ByteArray.empty P i) (bytes [35])) [])])) := by kernel_rfl
theorem h9_121 : z1w cxP yrd .nil (stOf (s121 ws P (.raw v) i)) (obsK [] [1, 7, 8, 9, 10, 11]) = chk (decide (0 ≤ i) && decide (i < (ws.length : Int))) ((yj7 (lget ByteArray.empty ws i)).bind fun r => some (.normal, s121 ws P (.raw v) i ++ [(10, .data NI2 r.1 []), (11, .data .bool r.2 [])])) := by kernel_rfl
theorem ys5 : z1w cxP yqn (.seq .nil (.cond (.seq .nil .nil) .nil)) (stOf (s121 ws P (.raw v) i ++ [(10, .data NI2 r.1 []), (11, .data .bool r.2 [])])) (fun e τ => match e with | .normal => obsK [] [1, 7, 8, 9, 10] e τ | _ => none) = bif !r.2 then none else some (.normal, s121 ws P (.raw v) i ++ [(10, .data NI2 r.1 [])]) := by kernel_rfl
theorem yry : z1w cxP yq3 .nil (stOf (s121 ws P (.raw v) i)) (obsK [] [1, 7, 8, 9]) = some (.normal, s121 ws P (.raw v) (wi64 (i + 1))) := by kernel_rfl
theorem yrz : z1w cxP yq3 .nil (stOf (s121 ws P (.data TI2 l []) i)) (obsK [] [1, 7, 8, 9]) = some (.normal, s121 ws P (.data TI2 l []) (wi64 (i + 1))) := by kernel_rfl
theorem ys3 : z1w cxP yqm .nil (stOf (s121 ws P (.raw v) i)) (obsK [] [1, 7, 8, 9, 58]) = chk (decide (0 ≤ i) && decide (i < (P.length : Int))) ((bif seqb (lget ByteArray.empty P i) (bytes [117, 109]) then chk (decide (0 ≤ i) && decide (i < (ws.length : Int))) (some (seqb (lget ByteArray.empty ws i) (bytes [109, 109]))) else some false).bind fun c => some (.normal, s121 ws P (.raw v) i ++ [(58, .data .bool c [])])) := by kernel_rfl
theorem ys1 : z1w cxP ypx (.seq .nil .nil) (stOf (s121 ws P (.data TI2 l []) i)) (obsK [] [4, 5, 6]) = some (.ret, [(4, .data TI2 l []), (5, .data NI2 (P.length : Int) []), (6, .data .bool true [])]) := by kernel_rfl
def own8 (τ : St) : Option (List Int × Nat) := match τ.env 8 with
 | some (.data (.slice (.int .i64)) l o) => match zgf o with
  | some (some d) => some (l, d)
  | _ => none
 | _ => none
theorem ys4 : z1w cxP ypy .nil (stOf [(8, .data TI2 [] [([], none)]), (10, .data NI2 i [])]) (fun e τ => match e with | .normal => own8 τ | _ => none) = some ([i], 46) := by kernel_rfl
end
end Go.Lift
namespace Go.Lift
open Go Go.Proofs Go.RowKit
set_option maxRecDepth 100000
theorem ys2 (ws P : List ByteArray) (n i : Int) : z1w cxP yqb .nil (stB [(1, .data TWs ws []), (7, .data TWs P []), (8, .rowp 8), (9, .data NI2 i [])] [(8, ⟨41, TI2, [n], [], true⟩)]) (obsK [8] [1, 7, 8, 9]) = some (.normal, s121 ws P (.data TI2 [wi64 (1000 * n)] []) i) := by kernel_rfl
theorem cokP : COk Tryz.prog cxP := zpv z0s z0t z0u (all_cons ykl (all_cons ypc all_nil))
theorem yr6 : ypv = .region 2 (yjd ypv) false := by kernel_rfl
theorem yrn : (yjd ypv).size = 1 := by kernel_rfl
noncomputable def yqs : Oper := (yjd ypv).getD 0 default
theorem yqr : yqs.op = .assign (.const (.slice none 0 0)) := by kernel_rfl
structure Kq (base : Nat) (M : Mem) (a : Act) (w : World) (M' : Mem) (a' : Act) (w' : World) : Prop where
 le : Mem.le M M'
 below : Below base w w'
 mem : ∀ b, b < base → M' b = M b
 size : a'.tmps.size = a.tmps.size
 defers : a'.defers = a.defers
theorem yqi {B B' : Nat} {w w' : World} (h : Below B w w') (hB : B' ≤ B) : Below B' w w' := ⟨h.os, h.tape, h.output, h.size, fun k hk => h.block k (by omega)⟩
theorem Kq.refl {base : Nat} {M : Mem} {a : Act} {w : World} : Kq base M a w M a w := ⟨Mem.le_refl _, Below.refl _ _, fun _ _ => rfl, rfl, rfl⟩
theorem Kq.trans {base : Nat} {M M1 M2 : Mem} {a a1 a2 : Act} {w w1 w2 : World} (h : Kq base M a w M1 a1 w1) (k : Kq base M1 a1 w1 M2 a2 w2) : Kq base M a w M2 a2 w2 :=
 ⟨Mem.le_trans h.le k.le, h.below.trans k.below, fun b hb => (k.mem b hb).trans (h.mem b hb), k.size.trans h.size, k.defers.trans h.defers⟩
theorem Kq.of {base : Nat} {M M1 : Mem} {a a1 : Act} {w w1 : World} (h : Keep M a w M1 a1 w1) (hb : base ≤ w.heap.size) : Kq base M a w M1 a1 w1 :=
 ⟨h.le, yqi h.grow.below hb, fun b hlt => h.grow.mem b (by omega), h.size, h.defers⟩
theorem Kq.next {base : Nat} {M M1 M2 : Mem} {a a1 a2 : Act} {w w1 w2 : World} (h : Kq base M a w M1 a1 w1) (k : Keep M1 a1 w1 M2 a2 w2) (hb : base ≤ w.heap.size) : Kq base M a w M2 a2 w2 :=
 h.trans (.of k (Nat.le_trans hb h.below.size))
def One8 (base g cap : Nat) (n : Int) (M : Mem) (w : World) : Prop := base ≤ g ∧ 1 ≤ cap ∧ (∀ o, M g o = none) ∧ ∃ cur E, w.heap[g]? = some (.cells cur E (0, 0)) ∧ cur[0]? = some (.int .i64 n)
theorem One8.keep {base g cap : Nat} {n : Int} {M M' : Mem} {a a' : Act} {w w' : World} (h : One8 base g cap n M w) (k : Keep M a w M' a' w') : One8 base g cap n M' w' := by
 obtain ⟨h1, h2, h3, cur, E, h4, h5⟩ := h
 have hlt := (Array.getElem?_eq_some_iff.1 h4).1
 exact ⟨h1, h2, fun o => by rw [k.grow.mem g hlt]; exact h3 o, cur, E, (k.grow.below.block g hlt).trans h4, h5⟩
theorem yr8 {τ : St} {l : List Int} {d : Nat} (h : own8 τ = some (l, d)) : ∃ o, τ.env 8 = some (.data (.slice (.int .i64)) l o) ∧ zgf o = some (some d) := by
 unfold own8 at h
 split at h
 ·split at h
  ·simp only [Option.some.injEq, Prod.mk.injEq] at h
   obtain ⟨rfl, rfl⟩ := h
   exact ⟨_, by assumption, by assumption⟩
  ·cases h
 ·cases h
theorem ypw : writes ypy = [43, 44, 45, 46, 8] := by kernel_rfl
theorem yra {F : Fence} (hF : Open F) {nn : Nat} {M : Mem} {a : Act} {w : World} {ws P : List ByteArray} {n i : Int} (hT : Thin Tryz.prog M (s121 ws P (.raw (.slice none 0 0)) i ++ [(10, .data NI2 n [])]) a w) (hs : a.tmps.size = 78) {Q : Exit → Act → World → Prop}
  (hQ : ∀ g cap a' w', Thin Tryz.prog M (s121 ws P (.raw (.slice (some ⟨g, 0, none⟩) 1 cap)) i) a' w' → Keep M a w M a' w' → One8 w.heap.size g cap n M w' → Q .normal a' w') : ypy.wpIn F nn Tryz.prog Q a w := by
 have hR : Rel Tryz.prog w.heap.size (fun _ => none) M (stOf [(8, .data TI2 [] [([], none)]), (10, .data NI2 n [])]) a w := by
  refine ⟨fun s v hs => ?_, fun b B hB => (by cases hB), hT.1, fun i j g hi => (by cases hi), fun i g hi => (by cases hi), fun i B hB => (by cases hB), Nat.le_refl _⟩
  have hm := zm9 hs
  simp only [List.mem_cons, List.not_mem_nil, or_false, Prod.mk.injEq] at hm
  rcases hm with ⟨rfl, rfl⟩ | ⟨rfl, rfl⟩
  ·have h8 : a.tmps.getD 8 undef = .slice none 0 0 := hT.2 (8, .raw (.slice none 0 0)) (by simp)
   rw [h8]
   refine ⟨(⟨_, rfl, .inl ⟨rfl, rfl⟩⟩ : relC Tryz.prog TI2 M [] [.slice none 0 0]), fun p s hm => ?_⟩
   simp only [List.mem_singleton, Prod.mk.injEq] at hm
   obtain ⟨rfl, rfl⟩ := hm
   exact ⟨0, .int .i64, .slice none 0 0, rfl, rfl, rfl, rfl⟩
  ·exact ⟨(hT.2 (10, .data NI2 n []) (by simp)).1, z42⟩
 refine z5k z04 cokP hF _ (.inr (by kernel_rfl)) (ys4 n) (by rw [hs]; kernel_rfl) hR fun e κ' M' σ' a' w' hR' hF' hk => ?_
 have hkk := zkp hF' (z6p (by kernel_rfl))
 cases e with
 | exit i => cases hk
 | ret => cases hk
 | normal =>
  obtain ⟨o, h1, h2⟩ := yr8 hk
  obtain ⟨h3, h4⟩ := hR'.env 8 _ h1
  obtain ⟨u, hd⟩ : ∃ u, a'.tmps.getD 8 undef = u := ⟨_, rfl⟩
  rw [hd] at h3 h4
  obtain ⟨off, e, v, k1, k2, k3, k4, k5⟩ := h4 [] (some 46) (zqp h2)
  have k1' : some 0 = some off := k1
  cases k1'
  have k2' : some (Ty.slice (.int .i64)) = some (.slice e) := k2
  cases k2'
  obtain ⟨v', j1, j2⟩ : relC Tryz.prog TI2 M' [n] [u] := h3
  simp only [List.cons.injEq, and_true] at j1
  subst j1
  rcases j2 with ⟨_, hl⟩ | ⟨b, off, cap, cells, rfl, hcap, hlen, hm, hel⟩ | ⟨_, _, _, hl⟩
  ·cases hl
  ·have k3' : some (Value.slice (some ⟨b, off, none⟩) 1 cap) = some v := k3
   cases k3'
   rcases k5 with hnil | ⟨g, n', cap', g1, g2, cur, E, g3, g4, g5, g6, g7⟩
   ·cases hnil
   ·simp only [Value.slice.injEq, Option.some.injEq, Addr.mk.injEq, and_true] at g2
    obtain ⟨⟨rfl, rfl⟩, rfl, rfl⟩ := g2
    have hb := (hR'.kap 46 b g1).1
    have hc0 : cells[0]? = some (.int .i64 n) := by
     have h : (cells.drop (0 * 1)).take 1 = [.int .i64 n] := hel 0 (by simp)
     have h2 := congrArg (fun l : List Value => l[0]?) h
     simpa using h2
    have hcell := hR'.good.2 b (0 + 0) _ (hm 0 _ hc0)
    have hcur : cur[0]? = some (.int .i64 n) := by
     rw [← z63 (o := 0) g3]
     exact hcell
    refine hQ b cap a' w' ⟨z2g hT.1 hkk.grow.below, fun e he => ?_⟩ ⟨Mem.le_refl _, ⟨hkk.grow.below, fun _ _ => rfl⟩, hkk.size, hkk.defers⟩ ⟨hb, g5, fun o => zad hT.1 hb o, cur, E, g3, hcur⟩
    simp only [List.mem_cons, List.not_mem_nil, or_false] at he
    rcases he with rfl | rfl | rfl | rfl
    ·show relT Tryz.prog M _ (a'.tmps.getD 1 undef)
     rw [hF'.tmps 1 (by rw [ypw]; decide)]
     exact hT.2 (1, .data TWs ws []) (by simp)
    ·show relT Tryz.prog M _ (a'.tmps.getD 7 undef)
     rw [hF'.tmps 7 (by rw [ypw]; decide)]
     exact hT.2 (7, .data TWs P []) (by simp)
    ·exact hd
    ·show relT Tryz.prog M _ (a'.tmps.getD 9 undef)
     rw [hF'.tmps 9 (by rw [ypw]; decide)]
     exact hT.2 (9, .data NI2 i []) (by simp)
  ·cases hl
end Go.Lift
namespace Go.Lift
open Go Go.Proofs Go.RowKit
set_option maxRecDepth 100000
theorem yr3 {F : Fence} (hF : Open F) {nn : Nat} {base g cap : Nat} {M : Mem} {a : Act} {w : World} {ws P : List ByteArray} {n i : Int} (hT : Thin Tryz.prog M (s121 ws P (.raw (.slice (some ⟨g, 0, none⟩) 1 cap)) i) a w) (ho : One8 base g cap n M w) (hb : base ≤ w.heap.size) (hs : a.tmps.size = 78) {Q : Exit → Act → World → Prop}
  (hQ : ∀ M' a' w', Thin Tryz.prog M' (s121 ws P (.data TI2 [wi64 (1000 * n)] []) i) a' w' → Kq base M a w M' a' w' → Q .normal a' w') : yqb.wpIn F nn Tryz.prog Q a w := by
 obtain ⟨h1, h2, h3, cur, E, h4, h5⟩ := ho
 have hlt := (Array.getElem?_eq_some_iff.1 h4).1
 have hR : Rel Tryz.prog base (fun i => if i = 8 then some g else none) M (stB [(1, .data TWs ws []), (7, .data TWs P []), (8, .rowp 8), (9, .data NI2 i [])] [(8, ⟨41, TI2, [n], [], true⟩)]) a w := by
  refine ⟨fun s v hs => ?_, fun b B hB => ?_, hT.1, fun i j g' hi hj => ?_, fun i g' hi => ?_, fun i B hB => rfl, hb⟩
  ·have hm := zm9 hs
   simp only [List.mem_cons, List.not_mem_nil, or_false, Prod.mk.injEq] at hm
   rcases hm with ⟨rfl, rfl⟩ | ⟨rfl, rfl⟩ | ⟨rfl, rfl⟩ | ⟨rfl, rfl⟩
   ·exact ⟨(hT.2 (1, .data TWs ws []) (by simp)).1, z42⟩
   ·exact ⟨(hT.2 (7, .data TWs P []) (by simp)).1, z42⟩
   ·have h8 : a.tmps.getD 8 undef = .slice (some ⟨g, 0, none⟩) 1 cap := hT.2 (8, .raw (.slice (some ⟨g, 0, none⟩) 1 cap)) (by simp)
    exact ⟨41, .int .i64, [n], [], g, cap, rfl, rfl, h2, h8⟩
   ·exact ⟨(hT.2 (9, .data NI2 i []) (by simp)).1, z42⟩
  ·have hm := zma hB
   simp only [List.mem_cons, List.not_mem_nil, or_false, Prod.mk.injEq] at hm
   obtain ⟨rfl, rfl⟩ := hm
   refine ⟨g, rfl, h3, .inl ⟨cur, E, h4, ?_, z42⟩⟩
   have h6 : cur.toList[0]? = some (.int .i64 n) := by simpa using h5
   refine ⟨?_, fun j hj => ?_⟩
   ·have := (List.getElem?_eq_some_iff.1 h6).1
    show 1 * 1 ≤ cur.toList.length
    omega
   ·have hj0 : j = 0 := by simpa using hj
    subst hj0
    show ((cur.toList.drop (0 * 1)).take 1) = [.int .i64 n]
    rw [Nat.zero_mul, List.drop_zero]
    cases hc : cur.toList with
    | nil => rw [hc] at h6; cases h6
    | cons x r => rw [hc] at h6; simp only [List.getElem?_cons_zero, Option.some.injEq] at h6; rw [h6]; rfl
  ·split at hi
   ·split at hj
    ·omega
    ·cases hj
   ·cases hi
  ·split at hi
   ·cases hi
    exact ⟨h1, hlt⟩
   ·cases hi
 refine z5k z04 cokP hF _ (.inr (by kernel_rfl)) (ys2 ws P n i) (by rw [hs]; kernel_rfl) hR fun e κ' M' σ' a' w' hR' hF' hk => ?_
 unfold obsK at hk
 split at hk
 ·rename_i τ hτ
  simp only [Option.some.injEq, Prod.mk.injEq] at hk
  obtain ⟨rfl, hl⟩ := hk
  obtain ⟨M2, hR2, hF2⟩ := zep hR' hτ
  have hFr := hF'.trans hF2 (fun s hs => hs) fun s hs => by cases hs
  have hTh := zol hR2 [1, 7, 8, 9]
  rw [hl] at hTh
  exact hQ M2 a' w' hTh ⟨hFr.le, hFr.below, hFr.mem, hFr.size, y1p hFr (by kernel_rfl)⟩
 ·cases hk
end Go.Lift
namespace Go.Lift
open Go Go.Proofs Go.RowKit
set_option maxRecDepth 100000
noncomputable def pcP (w : List ByteArray) : List ByteArray → Nat → List Int → Option (List Int × Int × Bool)
 | [], i, l => some (l, (i : Int), true)
 | p :: ps, i, l => if i = w.length then some ([], (i : Int), false) else
  bif seqb p (bytes [35]) then (yj7 (lget ByteArray.empty w (i : Int))).bind fun r => bif !r.2 then some ([], (i : Int), false) else pcP w ps (i + 1) (l ++ [r.1])
  else bif seqb p (bytes [117, 109]) && seqb (lget ByteArray.empty w (i : Int)) (bytes [109, 109]) then none
  else bif !seqb (lget ByteArray.empty w (i : Int)) p then some ([], (i : Int), false) else pcP w ps (i + 1) l
theorem yqp {w : List ByteArray} : ∀ {ps : List ByteArray} {i : Nat} {l : List Int}, (∀ p ∈ ps, seqb p (bytes [117, 109]) = false) → pcP w ps i l = pcGo w ps i l
 | [], _, _, _ => rfl
 | p :: ps, i, l, h => by
  unfold pcP pcGo
  rw [h p List.mem_cons_self, Bool.false_and, cond_false, cond_false, yqp (fun q hq => h q (List.mem_cons_of_mem _ hq))]
  have : (fun r : Int × Bool => bif !r.2 then some ([], (i : Int), false) else pcP w ps (i + 1) (l ++ [r.1])) = fun r : Int × Bool => bif !r.2 then some ([], (i : Int), false) else pcGo w ps (i + 1) (l ++ [r.1]) := by
   funext r
   rw [yqp (fun q hq => h q (List.mem_cons_of_mem _ hq))]
  rw [this]
theorem ypr {w P : List ByteArray} (hP : P.length ≤ 100) : ∀ (rest pre : List ByteArray) (l : List Int) (r : List Int × Int × Bool), P = pre ++ rest → l.length ≤ pre.length → pre.length ≤ w.length → pcP w rest pre.length l = some r → (r.2.2 = true → r.2.1 = (P.length : Int)) ∧
  z2d (S := (List Int) × Int) (R := ((List Int)) ⊕ ((List Int) × Int × Bool)) (fun s =>
   let l : (List Int) := s.1
   let i : Int := s.2
   bif decide (i < (List.length P : Int)) then
    bif (i == (List.length w : Int)) then
     Option.map Sum.inr (Option.map Sum.inr (
      some ([], i, false)))
    else
     chk (decide ((0 : Int) ≤ i) && decide (i < (List.length P : Int))) (
      bif seqb (lget ByteArray.empty P i) (bytes [35]) then
       chk (decide ((0 : Int) ≤ i) && decide (i < (List.length w : Int))) (
        (yj7 (lget ByteArray.empty w i)).bind fun (r : Int × Bool) =>
        bif !r.2 then
         Option.map Sum.inr (Option.map Sum.inr (
          some ([], i, false)))
        else
         (app l [r.1]).bind fun (t_1 : List Int) =>
         some (.inl (t_1, wi64 (i + 1))))
      else
       chk (decide ((0 : Int) ≤ i) && decide (i < (List.length P : Int))) (
        (bif seqb (lget ByteArray.empty P i) (bytes [117, 109]) then
         chk (decide ((0 : Int) ≤ i) && decide (i < (List.length w : Int))) (
          some (seqb (lget ByteArray.empty w i) (bytes [109, 109])))
        else some false).bind fun (c : Bool) =>
        bif c then
         chk (decide ((0 : Int) ≤ 0) && decide (0 < (List.length l : Int))) (
          chk (decide ((0 : Int) ≤ 0) && decide (0 < (List.length l : Int))) (
           none))
        else
         chk (decide ((0 : Int) ≤ i) && decide (i < (List.length w : Int))) (
          chk (decide ((0 : Int) ≤ i) && decide (i < (List.length P : Int))) (
           bif !seqb (lget ByteArray.empty w i) (lget ByteArray.empty P i) then
            Option.map Sum.inr (Option.map Sum.inr (
             some ([], i, false)))
           else
            some (.inl (l, wi64 (i + 1)))))))
   else
    some (.inr (.inl l))) (l, (pre.length : Int)) = some (bif r.2.2 then .inl r.1 else .inr r)
 | [], pre, l, r, hp, hl, hw, h => by
  rw [List.append_nil] at hp
  subst hp
  unfold pcP at h
  injection h with h
  subst h
  refine ⟨fun _ => rfl, zhp ?_⟩
  simp only []
  rw [z0v (show ¬ (P.length : Int) < (P.length : Int) by omega), cond_false]
  rfl
 | p :: ps, pre, l, r, hp, hl, hw, h => by
  have hlen := congrArg List.length hp
  rw [List.length_append, List.length_cons] at hlen
  have hpi : lget ByteArray.empty P (pre.length : Int) = p := by rw [hp]; exact zp8
  unfold pcP at h
  by_cases hi : pre.length = w.length
  ·rw [if_pos hi] at h
   injection h with h
   subst h
   refine ⟨fun e => (by cases e), zhp ?_⟩
   simp only []
   rw [z07 (show (pre.length : Int) < (P.length : Int) by omega), cond_true, show ((pre.length : Int) == (w.length : Int)) = true by rw [hi]; simp, cond_true]
   rfl
  ·rw [if_neg hi] at h
   have hlt : (decide ((0 : Int) ≤ (pre.length : Int)) && decide ((pre.length : Int) < (P.length : Int))) = true := zi5 (z07 (by omega)) (z07 (by omega))
   have hltw : (decide ((0 : Int) ≤ (pre.length : Int)) && decide ((pre.length : Int) < (w.length : Int))) = true := zi5 (z07 (by omega)) (z07 (by omega))
   have hnw : ((pre.length : Int) == (w.length : Int)) = false := by rw [beq_eq_false_iff_ne]; omega
   have hwi : wi64 ((pre.length : Int) + 1) = ((pre ++ [p]).length : Int) := by rw [z0j (by omega) (by omega), List.length_append, List.length_singleton]; rfl
   have hp' : P = (pre ++ [p]) ++ ps := by rw [hp]; simp
   have hpl : (pre ++ [p]).length = pre.length + 1 := by rw [List.length_append, List.length_singleton]
   cases h1 : seqb p (bytes [35]) with
   | true =>
    rw [h1, cond_true] at h
    obtain ⟨q, hq, h⟩ := Option.bind_eq_some_iff.1 h
    cases h2 : q.2 with
    | false =>
     rw [h2, Bool.not_false, cond_true] at h
     injection h with h
     subst h
     refine ⟨fun e => (by cases e), zhp ?_⟩
     simp only []
     rw [z07 (show (pre.length : Int) < (P.length : Int) by omega), cond_true, hnw, cond_false, z18 (zi5 (z07 (by omega)) rfl), hpi, h1, cond_true, z18 hltw, hq, Option.bind_some, h2]
     rfl
    | true =>
     rw [h2, Bool.not_true, cond_false] at h
     obtain ⟨i1, i2⟩ := ypr (w := w) (P := P) hP ps (pre ++ [p]) (l ++ [q.1]) r hp' (by rw [hpl, List.length_append, List.length_singleton]; omega) (by rw [hpl]; omega) (by rw [hpl]; exact h)
     refine ⟨i1, ?_⟩
     rw [zqw (s' := (l ++ [q.1], ((pre ++ [p]).length : Int)))]
     ·exact i2
     ·simp only []
      rw [z07 (show (pre.length : Int) < (P.length : Int) by omega), cond_true, hnw, cond_false, z18 (zi5 (z07 (by omega)) rfl), hpi, h1, cond_true, z18 hltw, hq, Option.bind_some, h2, Bool.not_true, cond_false, zlc (by rw [List.length_singleton]; omega), Option.bind_some, hwi]
   | false =>
    rw [h1, cond_false] at h
    cases h3 : (seqb p (bytes [117, 109]) && seqb (lget ByteArray.empty w (pre.length : Int)) (bytes [109, 109])) with
    | true => rw [h3] at h; cases h
    | false =>
     rw [h3, cond_false] at h
     have hc : (bif seqb p (bytes [117, 109]) then chk (decide ((0 : Int) ≤ (pre.length : Int)) && decide ((pre.length : Int) < (w.length : Int))) (some (seqb (lget ByteArray.empty w (pre.length : Int)) (bytes [109, 109]))) else some false) = some false := by
      rw [z18 hltw]
      cases h4 : seqb p (bytes [117, 109]) with
      | false => rfl
      | true => rw [h4, Bool.true_and] at h3; rw [h3]; rfl
     cases h5 : seqb (lget ByteArray.empty w (pre.length : Int)) p with
     | false =>
      rw [h5, Bool.not_false, cond_true] at h
      injection h with h
      subst h
      refine ⟨fun e => (by cases e), zhp ?_⟩
      simp only []
      rw [z07 (show (pre.length : Int) < (P.length : Int) by omega), cond_true, hnw, cond_false, z18 (zi5 (z07 (by omega)) rfl), hpi, h1, cond_false, z18 (zi5 (z07 (by omega)) rfl), hc, Option.bind_some, cond_false, z18 hltw, z18 (zi5 (z07 (by omega)) rfl), h5]
      rfl
     | true =>
      rw [h5, Bool.not_true, cond_false] at h
      obtain ⟨i1, i2⟩ := ypr (w := w) (P := P) hP ps (pre ++ [p]) l r hp' (by rw [hpl]; omega) (by rw [hpl]; omega) (by rw [hpl]; exact h)
      refine ⟨i1, ?_⟩
      rw [zqw (s' := (l, ((pre ++ [p]).length : Int)))]
      ·exact i2
      ·simp only []
       rw [z07 (show (pre.length : Int) < (P.length : Int) by omega), cond_true, hnw, cond_false, z18 (zi5 (z07 (by omega)) rfl), hpi, h1, cond_false, z18 (zi5 (z07 (by omega)) rfl), hc, Option.bind_some, cond_false, z18 hltw, z18 (zi5 (z07 (by omega)) rfl), h5, Bool.not_true, cond_false, hwi]
def pats : List (List ByteArray) := [[(bytes [35])], [(bytes [35]), (bytes [117, 109])], [(bytes [35]), (bytes [117, 109])], [(bytes [35]), (bytes [109, 109])], [(bytes [35]), (bytes [116, 111]), (bytes [35]), (bytes [67])], [(bytes [35])]]
theorem ypf {k : Int} {w : List ByteArray} (h0 : 0 ≤ k) (h6 : k < 6) {r : List Int × Int × Bool} (hP : (lget [] pats k).length ≤ 100) (h : pcP w (lget [] pats k) 0 [] = some r) : yo8 k w = some r := by
 unfold yo8
 rw [show yoa = some pats from rfl, Option.bind_some, z18 (zi5 (z07 h0) (z07 (show k < (pats.length : Int) from h6)))]
 generalize lget [] pats k = P at hP h ⊢
 obtain ⟨i1, i2⟩ := ypr (w := w) (P := P) hP P [] [] r rfl (Nat.zero_le _) (Nat.zero_le _) h
 rw [show (([] : List ByteArray).length : Int) = 0 from rfl] at i2
 rw [i2, Option.bind_some]
 obtain ⟨a, b, c⟩ := r
 cases c with
 | true =>
  have : b = (P.length : Int) := i1 rfl
  rw [this]
  rfl
 | false => rfl
theorem yr7 {k : Int} {w : List ByteArray} {r : List Int × Int × Bool} (h : yo5 k w = some r) : yo8 k w = some r ∨
  ((k = 1 ∨ k = 2) ∧ 2 ≤ w.length ∧ ∃ n, yj7 (lget ByteArray.empty w 0) = some (n, true) ∧ seqb (lget ByteArray.empty w 1) (bytes [109, 109]) = true ∧ r = ([wi64 (1000 * n)], 2, true)) := by
 unfold yo5 at h
 rw [show yoa = some pats from rfl, Option.bind_some] at h
 cases hc : decide (0 ≤ k) && decide (k < (pats.length : Int)) with
 | false => rw [hc] at h; cases h
 | true =>
  rw [hc, show ∀ x : Option (List Int × Int × Bool), chk true x = x from fun _ => rfl] at h
  rw [Bool.and_eq_true, decide_eq_true_eq, decide_eq_true_eq] at hc
  have h6 : k < 6 := hc.2
  have um1 : seqb (bytes [35]) (bytes [117, 109]) = false := by rw [ykc]; rfl
  have um2 : seqb (bytes [109, 109]) (bytes [117, 109]) = false := by rw [ykc]; rfl
  have um3 : seqb (bytes [116, 111]) (bytes [117, 109]) = false := by rw [ykc]; rfl
  have um4 : seqb (bytes [67]) (bytes [117, 109]) = false := by rw [ykc]; rfl
  have um5 : seqb (bytes [117, 109]) (bytes [117, 109]) = true := ylq _
  have um6 : seqb (bytes [117, 109]) (bytes [35]) = false := by rw [ykc]; rfl
  have um7 : seqb (bytes [35]) (bytes [35]) = true := ylq _
  have two : ∀ r, pcGo w [bytes [35], bytes [117, 109]] 0 [] = some r → pcP w [bytes [35], bytes [117, 109]] 0 [] = some r ∨ (2 ≤ w.length ∧ ∃ n, yj7 (lget ByteArray.empty w 0) = some (n, true) ∧ seqb (lget ByteArray.empty w 1) (bytes [109, 109]) = true ∧ r = ([wi64 (1000 * n)], 2, true)) := fun r h => by
   unfold pcGo at h
   unfold pcP
   by_cases h0 : 0 = w.length
   ·rw [if_pos h0] at h ⊢; exact .inl h
   ·rw [if_neg h0, um7, cond_true] at h ⊢
    obtain ⟨q, hq, h⟩ := Option.bind_eq_some_iff.1 h
    rw [hq, Option.bind_some]
    obtain ⟨n, b⟩ := q
    cases b with
    | false => exact .inl h
    | true =>
     simp only [Bool.not_true, cond_false] at h ⊢
     unfold pcGo at h
     unfold pcP
     by_cases h1 : 0 + 1 = w.length
     ·rw [if_pos h1] at h ⊢; exact .inl h
     ·rw [if_neg h1, um6, cond_false, um5, Bool.true_and] at h ⊢
      cases h2 : seqb (lget ByteArray.empty w ((0 + 1 : Nat) : Int)) (bytes [109, 109]) with
      | false =>
       rw [h2, cond_false] at h
       rw [cond_false]
       exact .inl h
      | true =>
       rw [h2, cond_true] at h
       refine .inr ⟨by omega, n, hq, rfl, ?_⟩
       unfold pcGo at h
       injection h with h
       exact h.symm
  have one : ∀ ps : List ByteArray, (∀ p ∈ ps, seqb p (bytes [117, 109]) = false) → pcGo w ps 0 [] = some r → pcP w ps 0 [] = some r := fun ps hps h => by rw [yqp hps]; exact h
  rcases (by omega : k = 0 ∨ k = 1 ∨ k = 2 ∨ k = 3 ∨ k = 4 ∨ k = 5) with rfl | rfl | rfl | rfl | rfl | rfl
  ·exact .inl (ypf (by decide) (by decide) (by decide) (one _ (by intro p hp; simp only [List.mem_cons, List.not_mem_nil, or_false, show lget [] pats 0 = [bytes [35]] from rfl] at hp; subst hp; exact um1) h))
  ·rcases two r h with h | h
   ·exact .inl (ypf (by decide) (by decide) (by decide) h)
   ·exact .inr ⟨.inl rfl, h⟩
  ·rcases two r h with h | h
   ·exact .inl (ypf (by decide) (by decide) (by decide) h)
   ·exact .inr ⟨.inr rfl, h⟩
  ·exact .inl (ypf (by decide) (by decide) (by decide) (one _ (by intro p hp; simp only [List.mem_cons, List.not_mem_nil, or_false, show lget [] pats 3 = [bytes [35], bytes [109, 109]] from rfl] at hp; rcases hp with rfl | rfl <;> assumption) h))
  ·exact .inl (ypf (by decide) (by decide) (by decide) (one _ (by intro p hp; simp only [List.mem_cons, List.not_mem_nil, or_false, show lget [] pats 4 = [bytes [35], bytes [116, 111], bytes [35], bytes [67]] from rfl] at hp; rcases hp with rfl | rfl | rfl | rfl <;> assumption) h))
  ·exact .inl (ypf (by decide) (by decide) (by decide) (one _ (by intro p hp; simp only [List.mem_cons, List.not_mem_nil, or_false, show lget [] pats 5 = [bytes [35]] from rfl] at hp; subst hp; exact um1) h))
end Go.Lift
namespace Go.Lift
open Go Go.Proofs Go.RowKit
set_option maxRecDepth 100000
theorem ypo {Γ : Ctx} (hC : COk Tryz.prog Γ) {F : Fence} (hF : Open F) {nn : Nat} (c : Code) (hro : (F.round = none ∧ 1 ≤ nn) ∨ z5y c = true) {n : Ann} {l l' : z4b} {ss : List Nat} {e : Ex} {M : Mem} {a : Act} {w : World} {Q : Exit → Act → World → Prop}
  (h : z1w Γ c n (stOf l) (fun e τ => match e with | .normal => obsK [] ss e τ | _ => none) = some (e, l')) (hb : okB a.tmps.size c = true) (hnr : noMark (writes c) = true) (hT : Thin Tryz.prog M l a w)
  (hQ : ∀ M' a' w', Thin Tryz.prog M' l' a' w' → Keep M a w M' a' w' → Q .normal a' w') : c.wpIn F nn Tryz.prog Q a w := by
 refine z5k z04 hC hF c hro h hb (zd9 hT) fun e' κ' M' σ' a' w' hR' hF' hk => ?_
 cases e' with
 | exit i => cases hk
 | ret => cases hk
 | normal =>
  replace hk : some (Ex.normal, obs ss σ') = some (e, l') := hk
  simp only [Option.some.injEq, Prod.mk.injEq] at hk
  obtain ⟨rfl, rfl⟩ := hk
  exact hQ M' a' w' (zol hR' ss) (zkp hF' (z6p hnr))
set_option maxHeartbeats 2000000 in
theorem yo7 : Has Tryz.prog yob := by
 refine ⟨enters_of (by kernel_rfl), fun x res hr M w vs hg hvs => ?_⟩
 obtain ⟨k, ws⟩ := x
 have hr : yo5 k ws = some res := hr
 rcases yr7 hr with hp | ⟨hk, hw2, n, hn, hmm, rfl⟩
 ·exact h_part.2 (k, ws) res hp M w vs hg hvs
 unfold zoe
 refine (callsIn_wide (n := 3)).1 ?_
 refine callsIn_of_wp (c := c121) Tryz.func121 (by kernel_rfl) True.intro ?_ rfl
 obtain ⟨kv, _, rfl, hkv, wv, rfl, hwv⟩ := hvs
 obtain ⟨a0, ha0⟩ : ∃ a0 : Act, a0 = { tmps := #[kv, wv] ++ Array.replicate (Tryz.f121.ntmps - (#[kv, wv] : Array Value).size) undef, defers := [] } := ⟨_, rfl⟩
 show c121.wpIn _ _ _ _ { tmps := #[kv, wv] ++ Array.replicate (Tryz.f121.ntmps - (#[kv, wv] : Array Value).size) undef, defers := [] } w
 rw [← ha0]
 have hs0 : a0.tmps.size = 78 := by rw [ha0, Tryz.ntmps121]; simp
 have hd0 : a0.defers = [] := by rw [ha0]
 have hT0 : Thin Tryz.prog M [(0, .data NI2 k []), (1, .data TWs ws [])] a0 w := by
  rw [ha0]
  refine zar hg fun e he => ?_
  simp only [List.mem_cons, List.not_mem_nil, or_false] at he
  rcases he with rfl | rfl
  ·exact ⟨by show 0 < 2; omega, hkv, rfl⟩
  ·exact ⟨by show 1 < 2; omega, hwv, rfl⟩
 have hF : Open Fence.wide := z8m
 generalize Fence.wide = F at hF ⊢
 obtain ⟨Q, hQ⟩ : ∃ Q : Exit → Act → World → Prop, Q = bodyPost Tryz.prog Tryz.f121 (fun e' w' => ∃ M' v, e' = .returned v ∧ relR Tryz.prog M' yob.rts ([wi64 (1000 * n)], 2, true) v ∧ Good M' w' ∧ Grow M w M' w') := ⟨_, rfl⟩
 rw [← hQ, yrb]
 obtain ⟨P, hP⟩ : ∃ P, P = [bytes [35], bytes [117, 109]] := ⟨_, rfl⟩
 refine wpIn_seq (z4c z04 cokP hF _ (.inr (by kernel_rfl)) (h0_121 k ws) (by rw [hs0]; kernel_rfl) (by kernel_rfl) hT0 fun M1 a1 w1 hT1 hK1 => ?_)
 have hk1 : Kq w.heap.size M a0 w M1 a1 w1 := .of hK1 (Nat.le_refl _)
 have hs1 : a1.tmps.size = 78 := hk1.size.trans hs0
 have hh1 := h1_121 k ws
 have hpat : (yoa).bind (fun t => chk (decide (0 ≤ k) && decide (k < (t.length : Int))) (some ((Ex.normal, [(1, AVal.data TWs ws []), (7, AVal.data TWs (lget [] t k) [])]) : Ex × z4b))) = some (Ex.normal, [(1, AVal.data TWs ws []), (7, AVal.data TWs P [])]) := by
  rw [hP]
  rcases hk with rfl | rfl <;> rfl
 rw [hpat] at hh1
 refine wpIn_seq (z4c z04 cokP hF _ (.inr (by kernel_rfl)) hh1 (by rw [hs1]; kernel_rfl) (by kernel_rfl) hT1 fun M2 a2 w2 hT2 hK2 => ?_)
 have hk2 := hk1.next hK2 (Nat.le_refl _)
 have hs2 : a2.tmps.size = 78 := hk2.size.trans hs0
 refine wpIn_seq ?_
 rw [yr6]
 refine wpIn_region ?_
 rw [show List.range (yjd ypv).size = 0 :: [] from by rw [yrn]; rfl, wpOpsIn_cons]
 refine yk1 hF (o := yqs) (by kernel_rfl) (z6f (by kernel_rfl)) (fun c' h => by rw [yqr] at h; cases h) (ylr _ _ (.inr yqr) a2 w2 (fun g h => by cases h)) ?_
 rw [show yqs.dst = some 8 from by kernel_rfl]
 show (Code.seq (.seq yql (.block 0 (.loop yp2))) ypx).wpIn F 3 Tryz.prog Q (a2.put (some 8) (.slice none 0 0)) w2
 have hT3 : Thin Tryz.prog M2 [(1, .data TWs ws []), (7, .data TWs P []), (8, .raw (.slice none 0 0))] (a2.put (some 8) (.slice none 0 0)) w2 :=
  (hT2.put (d := 8) (v := .slice none 0 0) (x := .raw (.slice none 0 0)) (by rw [hs2]; decide) rfl rfl).sub (by simp)
 have hk3 : Kq w.heap.size M a0 w M2 (a2.put (some 8) (.slice none 0 0)) w2 := ⟨hk2.le, hk2.below, hk2.mem, by rw [z4f]; exact hk2.size, by rw [put_defers]; exact hk2.defers⟩
 generalize a2.put (some 8) (.slice none 0 0) = a3 at hT3 hk3 ⊢
 have hs3 : a3.tmps.size = 78 := hk3.size.trans hs0
 refine wpIn_seq (wpIn_seq (z4c z04 cokP hF _ (.inr (by kernel_rfl)) (h3_121 ws P (.slice none 0 0)) (by rw [hs3]; kernel_rfl) (by kernel_rfl) hT3 fun M4 a4 w4 hT4 hK4 => ?_))
 have hk4 := hk3.next hK4 (Nat.le_refl _)
 have hs4 : a4.tmps.size = 78 := hk4.size.trans hs0
 refine wpIn_block (wpIn_loop_rounds 3 ?_)
 have hPl : P.length = 2 := by rw [hP]; rfl
 rw [roundsIn_succ, yq1]
 have hh := yqv 0 ws P (.slice none 0 0)
 rw [z07 (show (0 : Int) < (P.length : Int) by omega), cond_true] at hh
 refine wpIn_seq (z4c z04 cokP hF _ (.inr (by kernel_rfl)) hh (by rw [hs4]; kernel_rfl) (by kernel_rfl) hT4 fun M5 a5 w5 hT5 hK5 => ?_)
 have hk5 := hk4.next hK5 (Nat.le_refl _)
 have hs5 : a5.tmps.size = 78 := hk5.size.trans hs0
 refine wpIn_seq (wpIn_block ?_)
 rw [yr1]
 have hh := yrj 0 ws P (.slice none 0 0)
 rw [show ((0 : Int) == (ws.length : Int)) = false by rw [beq_eq_false_iff_ne]; omega, cond_false] at hh
 have h35 : seqb (lget ByteArray.empty P 0) (bytes [35]) = true := by rw [hP]; exact ylq _
 have hin0 : (decide ((0 : Int) ≤ 0) && decide ((0 : Int) < (P.length : Int))) = true := by rw [hPl]; rfl
 have hiw0 : (decide ((0 : Int) ≤ 0) && decide ((0 : Int) < (ws.length : Int))) = true := zi5 (z07 (by omega)) (z07 (by omega))
 refine wpIn_seq (ypo cokP hF _ (.inr (by kernel_rfl)) hh (by rw [hs5]; kernel_rfl) (by kernel_rfl) hT5 fun M6 a6 w6 hT6 hK6 => ?_)
 have hk6 := hk5.next hK6 (Nat.le_refl _)
 have hs6 : a6.tmps.size = 78 := hk6.size.trans hs0
 have hh := yri 0 ws P (.slice none 0 0)
 rw [hin0, h35] at hh
 refine wpIn_seq (wpIn_seq (z4c z04 cokP hF _ (.inr (by kernel_rfl)) (hh.trans rfl) (by rw [hs6]; kernel_rfl) (by kernel_rfl) hT6 fun M7 a7 w7 hT7 hK7 => ?_))
 have hk7 := hk6.next hK7 (Nat.le_refl _)
 have hs7 : a7.tmps.size = 78 := hk7.size.trans hs0
 refine wpIn_cond_split (z1v.1 (hT7.2 (31, .data .bool true []) (by simp)).1) (fun _ => ?_) (fun h => by cases h)
 rw [yrx]
 have hh := h9_121 0 ws P (.slice none 0 0)
 rw [hiw0, hn] at hh
 refine wpIn_seq (z4c z04 cokP hF _ (.inr (by kernel_rfl)) (hh.trans rfl) (by rw [hs7]; kernel_rfl) (by kernel_rfl) (hT7.sub (m := s121 ws P (.raw (.slice none 0 0)) 0) (by simp)) fun M8 a8 w8 hT8 hK8 => ?_)
 have hk8 := hk7.next hK8 (Nat.le_refl _)
 have hs8 : a8.tmps.size = 78 := hk8.size.trans hs0
 have hh := ys5 0 ws P (.slice none 0 0) (n, true)
 refine wpIn_seq (ypo cokP hF _ (.inr (by kernel_rfl)) (hh.trans rfl) (by rw [hs8]; kernel_rfl) (by kernel_rfl) hT8 fun M9 a9 w9 hT9 hK9 => ?_)
 have hk9 := hk8.next hK9 (Nat.le_refl _)
 have hs9 : a9.tmps.size = 78 := hk9.size.trans hs0
 refine wpIn_seq (yra hF hT9 hs9 fun g cap a10 w10 hT10 hK10 ho => ?_)
 have hk10 := hk9.next hK10 (Nat.le_refl _)
 have hs10 : a10.tmps.size = 78 := hk10.size.trans hs0
 refine wpIn_exit ?_
 show yq3.wpIn F 3 Tryz.prog _ a10 w10
 have hw1 : wi64 ((0 : Int) + 1) = 1 := z0j (by omega) (by omega)
 have hw2' : wi64 ((1 : Int) + 1) = 2 := z0j (by omega) (by omega)
 have hh := yry 0 ws P (.slice (some ⟨g, 0, none⟩) 1 cap)
 rw [hw1] at hh
 refine z4c z04 cokP hF _ (.inr (by kernel_rfl)) hh (by rw [hs10]; kernel_rfl) (by kernel_rfl) hT10 fun M11 a11 w11 hT11 hK11 => ?_
 have hk11 := hk10.next hK11 (Nat.le_refl _)
 have hs11 : a11.tmps.size = 78 := hk11.size.trans hs0
 have ho := ho.keep hK11
 show Code.roundsIn F 3 Tryz.prog yp2 _ 2 a11 w11
 rw [roundsIn_succ, yq1]
 have hh := yqv 1 ws P (.slice (some ⟨g, 0, none⟩) 1 cap)
 rw [z07 (show (1 : Int) < (P.length : Int) by omega), cond_true] at hh
 refine wpIn_seq (z4c z04 cokP hF _ (.inr (by kernel_rfl)) hh (by rw [hs11]; kernel_rfl) (by kernel_rfl) hT11 fun M12 a12 w12 hT12 hK12 => ?_)
 have hk12 := hk11.next hK12 (Nat.le_refl _)
 have hs12 : a12.tmps.size = 78 := hk12.size.trans hs0
 have ho := ho.keep hK12
 refine wpIn_seq (wpIn_block ?_)
 rw [yr1]
 have hh := yrj 1 ws P (.slice (some ⟨g, 0, none⟩) 1 cap)
 rw [show ((1 : Int) == (ws.length : Int)) = false by rw [beq_eq_false_iff_ne]; omega, cond_false] at hh
 refine wpIn_seq (ypo cokP hF _ (.inr (by kernel_rfl)) hh (by rw [hs12]; kernel_rfl) (by kernel_rfl) hT12 fun M13 a13 w13 hT13 hK13 => ?_)
 have hk13 := hk12.next hK13 (Nat.le_refl _)
 have hs13 : a13.tmps.size = 78 := hk13.size.trans hs0
 have ho := ho.keep hK13
 have hin1 : (decide ((0 : Int) ≤ 1) && decide ((1 : Int) < (P.length : Int))) = true := by rw [hPl]; rfl
 have hiw1 : (decide ((0 : Int) ≤ 1) && decide ((1 : Int) < (ws.length : Int))) = true := zi5 (z07 (by omega)) (z07 (by omega))
 have hum : lget ByteArray.empty P 1 = bytes [117, 109] := by rw [hP]; rfl
 have hh := yri 1 ws P (.slice (some ⟨g, 0, none⟩) 1 cap)
 rw [hin1, hum, show seqb (bytes [117, 109]) (bytes [35]) = false by rw [ykc]; rfl] at hh
 refine wpIn_seq (wpIn_seq (z4c z04 cokP hF _ (.inr (by kernel_rfl)) (hh.trans rfl) (by rw [hs13]; kernel_rfl) (by kernel_rfl) hT13 fun M14 a14 w14 hT14 hK14 => ?_))
 have hk14 := hk13.next hK14 (Nat.le_refl _)
 have hs14 : a14.tmps.size = 78 := hk14.size.trans hs0
 have ho := ho.keep hK14
 refine wpIn_cond_split (z1v.1 (hT14.2 (31, .data .bool false []) (by simp)).1) (fun h => by cases h) (fun _ => wpIn_skip ?_)
 have hh := ys3 1 ws P (.slice (some ⟨g, 0, none⟩) 1 cap)
 rw [hin1, hum, ylq, cond_true, hiw1, hmm] at hh
 refine wpIn_seq (wpIn_seq (z4c z04 cokP hF _ (.inr (by kernel_rfl)) (hh.trans rfl) (by rw [hs14]; kernel_rfl) (by kernel_rfl) (hT14.sub (m := s121 ws P (.raw (.slice (some ⟨g, 0, none⟩) 1 cap)) 1) (by simp)) fun M15 a15 w15 hT15 hK15 => ?_))
 have hk15 := hk14.next hK15 (Nat.le_refl _)
 have hs15 : a15.tmps.size = 78 := hk15.size.trans hs0
 have ho := ho.keep hK15
 refine wpIn_cond_split (z1v.1 (hT15.2 (58, .data .bool true []) (by simp)).1) (fun _ => ?_) (fun h => by cases h)
 have ho' : One8 w.heap.size g cap n M15 w15 := ⟨Nat.le_trans hk9.below.size ho.1, ho.2⟩
 refine wpIn_seq (yr3 hF (hT15.sub (m := s121 ws P (.raw (.slice (some ⟨g, 0, none⟩) 1 cap)) 1) (by simp)) ho' hk15.below.size hs15 fun M16 a16 w16 hT16 hK16 => ?_)
 have hk16 := hk15.trans hK16
 have hs16 : a16.tmps.size = 78 := hk16.size.trans hs0
 refine wpIn_exit ?_
 show yq3.wpIn F 3 Tryz.prog _ a16 w16
 have hh := yrz 1 ws P [wi64 (1000 * n)]
 rw [hw2'] at hh
 refine z4c z04 cokP hF _ (.inr (by kernel_rfl)) hh (by rw [hs16]; kernel_rfl) (by kernel_rfl) hT16 fun M17 a17 w17 hT17 hK17 => ?_
 have hk17 := hk16.next hK17 (Nat.le_refl _)
 have hs17 : a17.tmps.size = 78 := hk17.size.trans hs0
 show Code.roundsIn F 3 Tryz.prog yp2 _ 1 a17 w17
 rw [roundsIn_succ, yq1]
 have hh := ys0 2 ws P [wi64 (1000 * n)]
 rw [z0v (show ¬ (2 : Int) < (P.length : Int) by omega), cond_false] at hh
 refine wpIn_seq (z4c z04 cokP hF _ (.inr (by kernel_rfl)) hh (by rw [hs17]; kernel_rfl) (by kernel_rfl) hT17 fun M18 a18 w18 hT18 hK18 => ?_)
 have hk18 := hk17.next hK18 (Nat.le_refl _)
 have hs18 : a18.tmps.size = 78 := hk18.size.trans hs0
 show ypx.wpIn F 3 Tryz.prog Q a18 w18
 refine z4c z04 cokP hF _ (.inr (by kernel_rfl)) (ys1 2 ws P [wi64 (1000 * n)]) (by rw [hs18]; kernel_rfl) (by kernel_rfl) hT18 fun M19 a19 w19 hT19 hK19 => ?_
 have hk19 := hk18.next hK19 (Nat.le_refl _)
 rw [hQ]
 have hres : results cxP (stOf [(4, .data TI2 [wi64 (1000 * n)] []), (5, .data NI2 (P.length : Int) []), (6, .data .bool true [])]) [TI2, NI2, .bool] Tryz.f121.results.toList = some ([wi64 (1000 * n)], (P.length : Int), true) := by kernel_rfl
 obtain ⟨v, h4, h5⟩ := y8m cokP (zd9 hT19) hres
 rw [show (P.length : Int) = 2 by rw [hPl]; rfl] at h5
 exact bodyPost_ret h4 (hk19.defers.trans hd0) ⟨M19, v, rfl, h5, hT19.1, hk19.below, hk19.mem⟩
end Go.Lift
