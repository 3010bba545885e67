/-
  The functions of the law of changes, their code, their contracts.
-/
import Derived.Test.YtggnjngdmadbaaaGreatDoorFunF
import Derived.Test.YtggnjngdmadbaaaGreatDoorVioF
import Derived.Test.YtggnjngdmadbaaaGreatDoorChF
import Derived.Test.YtggnjngdmadbaaaGreatDoorClK
import Derived.Test.YtggnjngdmadbaaaGreatDoorFunT
import Derived.Test.YtggnjngdmadbaaaGreatDoorFunH
import Derived.Test.YtggnjngdmadbaaaGreatDoorVioK
import Derived.Test.YtggnjngdmadbaaaGreatDoorChK
set_option linter.unusedSectionVars false
set_option linter.unusedVariables false
set_option linter.unusedSimpArgs false
namespace Go.Lift
open Go
noncomputable def yfm (r : z05) (sequence : (List Int)) : Option (Bool) :=
 (z3l r sequence).bind fun (r_1 : z1g × Bool) =>
 some (!r_1.2)
def insI (l : List Int) (p x : Int) : List Int := l.take p.toNat ++ x :: l.drop p.toNat
noncomputable def yh8 (x : z05) (s : List Int) (last p : Int) (st : Int × Int) : Option (Int × Int) :=
 (z19 x (insI s p last)).bind fun n => (yfm x (insI s p last)).bind fun h => some (bif h && (decide (st.1 < 0) || decide (n < st.2)) then (p, n) else st)
noncomputable def ygo (x : z05) (s : List Int) (last : Int) : Nat → Int → Int × Int → Option (Int × Int)
 | 0, _, st => some st
 | n + 1, p, st => (yh8 x s last p st).bind fun st' => ygo x s last n (p + 1) st'
noncomputable def yfn (r : z02) (l : List z00) (s : List Int) : Option (Int × Int) :=
 bif decide (s.length ≤ 1000) then
 (z3m r l s).bind fun x => (slices_Contains_int s (wi64 ((l.length : Int) - 1))).bind fun t => (z0l (!t) 23).bind fun u => (z1t [x.2, u]).bind fun e =>
 bif e != 0 then some (0, e) else (ygo x.1 s (wi64 ((l.length : Int) - 1)) (s.length + 1) 0 (-1, 0)).bind fun b => bif decide (b.1 < 0) then some (0, 12) else some (b.1, 0)
 else none
noncomputable def yg6 (a : (List Int)) (b : (List Int)) : Option (Bool) :=
 (z2d (S := Int) (R := (Unit) ⊕ (Bool)) (fun i =>
 bif ((decide (i < (List.length a : Int))) && (decide (i < (List.length b : Int)))) then
 chk (decide ((0 : Int) ≤ i) && decide (i < (List.length a : Int))) (
 chk (decide ((0 : Int) ≤ i) && decide (i < (List.length b : Int))) (
 bif ((lget 0 a i) != (lget 0 b i)) then
 chk (decide ((0 : Int) ≤ i) && decide (i < (List.length a : Int))) (
 chk (decide ((0 : Int) ≤ i) && decide (i < (List.length b : Int))) (
 let t : Bool := decide ((lget 0 a i) < (lget 0 b i))
 Option.map Sum.inr (Option.map Sum.inr (
 some t))))
 else
 some (.inl (wi64 (i + 1)))))
 else
 some (.inr (.inl ()))) 0).bind fun j => match j with
 | .inl _ => (
 let t_1 : Bool := decide ((List.length a : Int) < (List.length b : Int))
 some t_1)
 | .inr r => some r
noncomputable def yge (r : z02) (l : (List z00)) (set : (List Int)) : Option (Bool) :=
 (ztv set).bind fun (t : (List (List Int))) =>
 (z2d (S := Int) (R := (Unit) ⊕ (Bool)) (fun i =>
 bif decide (i < (List.length t : Int)) then
 chk (decide ((0 : Int) ≤ i) && decide (i < (List.length t : Int))) (
 (zaw r l (lget [] t i)).bind fun (r_1 : z1g × Bool) =>
 bif !r_1.2 then
 Option.map Sum.inr (Option.map Sum.inr (
 some true))
 else
 some (.inl (wi64 (i + 1))))
 else
 some (.inr (.inl ()))) 0).bind fun j => match j with
 | .inl _ => (
 some false)
 | .inr r => some r
noncomputable def yfu (r : z02) (l : (List z00)) : Option ((List Int) × Bool) :=
 (z2d (S := (List Int) × Int) (R := (List Int)) (fun s =>
 let best : (List Int) := s.1
 let bits : Int := s.2
 chk (decide ((0 : Int) ≤ (List.length l : Int))) (
 let t : Int := ishl .i64 1 (List.length l : Int)
 bif decide (bits < t) then
 (z2d (S := (List Int) × Int) (R := (List Int)) (fun s_1 =>
 let set : (List Int) := s_1.1
 let i : Int := s_1.2
 bif decide (i < (List.length l : Int)) then
 chk (decide ((0 : Int) ≤ i)) (
 (bif ((iand .i64 (ishr .i64 bits i) 1) == 1) then
 (app set [i]).bind fun (t_1 : List Int) =>
 some t_1
 else
 some set).bind fun (set_1 : (List Int)) =>
 some (.inl (set_1, wi64 (i + 1))))
 else
 some (.inr set)) ([], 0)).bind fun (set_2 : (List Int)) =>
 (bif (((List.length best : Int) == 0) || (decide ((List.length set_2 : Int) < (List.length best : Int)))) then some true else
 (bif ((List.length set_2 : Int) == (List.length best : Int)) then
 (yg6 set_2 best).bind fun (t_2 : Bool) =>
 some t_2
 else some false).bind fun (c : Bool) =>
 some c).bind fun (c_1 : Bool) =>
 (bif c_1 then
 (yge r l set_2).bind fun (t_3 : Bool) =>
 some (!t_3)
 else some false).bind fun (c_2 : Bool) =>
 (bif c_2 then
 some set_2
 else
 some best).bind fun (best_1 : (List Int)) =>
 some (.inl (best_1, wi64 (bits + 1)))
 else
 some (.inr best))) ([], 1)).bind fun (best_2 : (List Int)) =>
 let t_4 : Bool := decide ((List.length best_2 : Int) > 0)
 some (best_2, t_4)
noncomputable def yg5 (r : z02) (l : (List z00)) (sequence : (List Int)) : Option (Int × Int) :=
 let last : Int := wi64 ((List.length l : Int) - 1)
 (zrz sequence last).bind fun (t : Bool) =>
 bif t then
 some (0, 23)
 else
 (z2d (S := Int × Int × Int) (R := Int) (fun s =>
 let at_ : Int := s.1
 let best : Int := s.2.1
 let p : Int := s.2.2
 bif decide (p ≤ (List.length sequence : Int)) then
 chk (decide ((0 : Int) ≤ 0) && decide ((0 : Int) ≤ p) && decide (p ≤ (List.length sequence : Int))) (
 (z3i (List.drop (Int.toNat 0) (List.take (Int.toNat p) sequence))).bind fun (t_1 : List Int) =>
 (app t_1 [last]).bind fun (t_2 : List Int) =>
 chk (decide ((0 : Int) ≤ p) && decide ((p : Int) ≤ (List.length sequence : Int)) && decide ((List.length sequence : Int) ≤ (List.length sequence : Int))) (
 (app t_2 (List.drop (Int.toNat p) (List.take (Int.toNat (List.length sequence : Int)) sequence))).bind fun (t_3 : List Int) =>
 (zaw r l t_3).bind fun (r_1 : z1g × Bool) =>
 (bif !r_1.2 then
 (bif decide (at_ < 0) then some true else
 (zkd r l t_3).bind fun (t_4 : Int) =>
 some (decide (t_4 < best))).bind fun (c : Bool) =>
 some c
 else some false).bind fun (c_1 : Bool) =>
 (bif c_1 then
 (zkd r l t_3).bind fun (t_5 : Int) =>
 some (p, t_5)
 else
 some (at_, best)).bind fun (j : Int × Int) =>
 let at__1 : Int := j.1
 let best_1 : Int := j.2
 some (.inl (at__1, best_1, wi64 (p + 1)))))
 else
 some (.inr at_)) ((-1), 0, 0)).bind fun (at__2 : Int) =>
 bif decide (at__2 < 0) then
 some (0, 12)
 else
 some (at__2, 0)
noncomputable def yft (r : z02) (l : (List z00)) (sequence : (List Int)) : Option (Bool) :=
 (z7b).bind fun (t : Bool) =>
 bif !t then
 some false
 else
 (zm2 l).bind fun (t_1 : Bool) =>
 (bif ((!t_1) || (decide ((List.length sequence : Int) > 10))) then some true else
 (zcz l).bind fun (t_2 : Int) =>
 some ((t_2 == 0) && (decide ((List.length l : Int) > 5)))).bind fun (c : Bool) =>
 bif c then
 some true
 else
 (z1r l).bind fun (t_3 : (List z00)) =>
 (z3i sequence).bind fun (t_4 : (List Int)) =>
 (yfn r t_3 t_4).bind fun (r_1 : Int × Int) =>
 (z1r l).bind fun (t_5 : (List z00)) =>
 (z41 r t_5).bind fun (r_2 : (List Int) × Int) =>
 (zay r l).bind fun (t_6 : Int) =>
 bif (t_6 != 0) then
 let t_7 : Bool := ((((r_1.2 == t_6) && (r_2.2 == t_6)) && (r_1.1 == 0)) && ((List.length r_2.1 : Int) == 0))
 some t_7
 else
 (yfu r l).bind fun (r_3 : (List Int) × Bool) =>
 (bif r_3.2 then
 (bif (r_2.2 != 0) then some true else
 (zlb r_2.1 r_3.1).bind fun (t_8 : Bool) =>
 some (!t_8)).bind fun (c_1 : Bool) =>
 some c_1
 else some false).bind fun (c_2 : Bool) =>
 bif (c_2 || ((!r_3.2) && ((r_2.2 != 12) || ((List.length r_2.1 : Int) != 0)))) then
 some false
 else
 (z38 l sequence).bind fun (t_9 : Int) =>
 bif (t_9 != 0) then
 let t_10 : Bool := ((r_1.2 == t_9) && (r_1.1 == 0))
 some t_10
 else
 (yg5 r l sequence).bind fun (r_4 : Int × Int) =>
 let t_11 : Bool := ((r_1.2 == r_4.2) && (r_1.1 == r_4.1))
 some t_11
end Go.Lift
namespace Go.Lift
open Go Go.Proofs
def yfy : Ann := .nil
def ygr : Ann := (.seq .nil (.seq (.seq .nil (.blk (.loopBD ⟨[⟨false, 5, 0, (.int .i64), [], false⟩], []⟩ ⟨[], []⟩ 0 .nil))) .nil))
def ygz : Ann := (.seq .nil (.seq .nil (.seq (.seq .nil (.blk (.loopBD ⟨[⟨false, 8, 0, (.int .i64), [], false⟩], [3]⟩ ⟨[], [3]⟩ 0 .nil))) .nil)))
def yg7 : Ann := (.seq .nil (.seq .nil (.seq (.seq .nil (.blk (.loopB ⟨[⟨false, 6, 0, (.slice (.int .i64)), [([], some 801000600)], false⟩, ⟨false, 7, 0, (.int .i64), [], false⟩], [2]⟩ ⟨[⟨false, 6, 0, (.slice (.int .i64)), [([], some 1601000600)], false⟩], [2]⟩ 0 (.seq .nil (.seq (.blk (.seq .nil (.seq (.seq .nil (.blk (.loopB ⟨[⟨false, 8, 0, (.slice (.int .i64)), [([], some 1901000800)], false⟩, ⟨false, 9, 0, (.int .i64), [], false⟩], [2, 801000600]⟩ ⟨[⟨false, 8, 0, (.slice (.int .i64)), [([], some 2101000800)], false⟩], [2, 801000600]⟩ 2 (.seq .nil (.seq (.blk (.seq .nil (.join ⟨[⟨false, 8, 0, (.slice (.int .i64)), [([], some 2201000800)], false⟩], [2, 801000600]⟩ .nil .nil))) .nil))))) (.seq .nil (.join ⟨[⟨false, 6, 0, (.slice (.int .i64)), [([], some 2301000600)], false⟩], [2]⟩ .nil .nil))))) .nil))))) .nil)))
def yg1 : Ann := .nil
noncomputable abbrev yfr : Sig := ⟨72, [z06, (.slice z03), (.slice (.int .i64))], [(.int .i64), (.int .i64)], fun x => yfn x.1 x.2.1 x.2.2⟩
noncomputable abbrev yg8 : Sig := ⟨74, [z06, (.slice z03), (.slice (.int .i64))], [(.int .i64), (.int .i64)], fun x => yg5 x.1 x.2.1 x.2.2⟩
noncomputable abbrev yfp : Sig := ⟨136, [z0a, (.slice (.int .i64))], [.bool], fun x => yfm x.1 x.2⟩
noncomputable abbrev ygp : Sig := ⟨137, [(.slice (.int .i64)), (.slice (.int .i64))], [.bool], fun x => yg6 x.1 x.2⟩
noncomputable abbrev ygw : Sig := ⟨138, [z06, (.slice z03), (.slice (.int .i64))], [.bool], fun x => yge x.1 x.2.1 x.2.2⟩
noncomputable abbrev yg3 : Sig := ⟨73, [z06, (.slice z03)], [(.slice (.int .i64)), .bool], fun x => yfu x.1 x.2⟩
noncomputable abbrev yg0 : Sig := ⟨14, [z06, (.slice z03), (.slice (.int .i64))], [.bool], fun x => yft x.1 x.2.1 x.2.2⟩
end Go.Lift
namespace Go.Lift
open Go Go.Proofs
theorem yga (r : z05) (sequence : (List Int)) : funK (cx [] [z8j]) Tryz.f136 yfy [z0a, (.slice (.int .i64))] [.bool] (r, sequence) = yfm r sequence := by kernel_rfl
theorem ygd (r : z02) (l : (List z00)) (sequence : (List Int)) : funK (cx [] [zcw, znh, zgz, z8h, z5c, zba, zqj, z96, z9y, yfr, yg3, yg8]) Tryz.f14 yg1 [z06, (.slice z03), (.slice (.int .i64))] [.bool] (r, l, sequence) = yft r l sequence := by kernel_rfl
end Go.Lift
namespace Go.Lift
open Go Go.Proofs
theorem yhe (a : (List Int)) (b : (List Int)) : funK (cx [] []) Tryz.f137 ygr [(.slice (.int .i64)), (.slice (.int .i64))] [.bool] (a, b) = yg6 a b := by kernel_rfl
end Go.Lift
namespace Go.Lift
open Go Go.Proofs
theorem yhg (r : z02) (l : (List z00)) (set : (List Int)) : funK (cx [] [zf7, zk6]) Tryz.f138 ygz [z06, (.slice z03), (.slice (.int .i64))] [.bool] (r, l, set) = yge r l set := by kernel_rfl
end Go.Lift
namespace Go.Lift
open Go Go.Proofs
theorem ygi (r : z02) (l : (List z00)) : funK (cx [] [ygp, ygw]) Tryz.f73 yg7 [z06, (.slice z03)] [(.slice (.int .i64)), .bool] (r, l) = yfu r l := by kernel_rfl
end Go.Lift
namespace Go.Lift
open Go Go.Proofs
set_option maxRecDepth 100000
section
variable (z5e : Has Tryz.prog z5m) (z6q : Has Tryz.prog z61) (z5f : Has Tryz.prog z5n) (z0h : Has Tryz.prog z2k) (z0q : Has Tryz.prog z1c) (z4q : Has Tryz.prog zaf) (z08 : Has Tryz.prog z2i) (z0d : Has Tryz.prog z2y) (z0e : Has Tryz.prog z2z) (z0g : Has Tryz.prog z1i) (z0f : Has Tryz.prog z2j) (zd1 : Has Tryz.prog zk6) (yfs : Has Tryz.prog yfr) (yg2 : Has Tryz.prog yg8)  
include z0h in
theorem ygb : Has Tryz.prog yfp :=
 z0y z04 z0s z0t z0u (own := []) (all_cons (zg5 z0h) all_nil) (n := yfy) Tryz.func136 (by kernel_rfl) fun x => yga x.1 x.2
theorem yhf : Has Tryz.prog ygp :=
 z0y z04 z0s z0t z0u (own := []) all_nil (n := ygr) Tryz.func137 (by kernel_rfl) fun x => yhe x.1 x.2
include zd1 in
theorem yht : Has Tryz.prog ygw :=
 z0y z04 z0s z0t z0u (own := []) (all_cons zn3 (all_cons zd1 all_nil)) (n := ygz) Tryz.func138 (by kernel_rfl) fun x => yhg x.1 x.2.1 x.2.2
include zd1 in
theorem ygl : Has Tryz.prog yg3 :=
 z0y z04 z0s z0t z0u (own := []) (all_cons yhf (all_cons (yht zd1) all_nil)) (n := yg7) Tryz.func73 (by kernel_rfl) fun x => ygi x.1 x.2
include z0q z4q z08 z0d z0e z0g z0f zd1 yfs yg2 in
theorem ygf : Has Tryz.prog yg0 :=
 z0y z04 z0s z0t z0u (own := []) (all_cons (zhs z08 z0d z0e z0g z0f) (all_cons zxa (all_cons zpi (all_cons zdc (all_cons zbq (all_cons zgj (all_cons y1k (all_cons zeb (all_cons (zhw z0q z4q) (all_cons yfs (all_cons (ygl zd1) (all_cons yg2 all_nil)))))))))))) (n := yg1) Tryz.func14 (by kernel_rfl) fun x => ygd x.1 x.2.1 x.2.2
end
end Go.Lift
