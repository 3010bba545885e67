/-
  The functions of the law of slabs, their code, their contracts.
-/
import Derived.Test.YtggnjngdmadbaaaGreatDoorFunF
import Derived.Test.YtggnjngdmadbaaaGreatDoorFunT
import Derived.Test.YtggnjngdmadbaaaGreatDoorFunH
set_option linter.unusedSectionVars false
set_option linter.unusedVariables false
set_option linter.unusedSimpArgs false
namespace Go.Lift
open Go
noncomputable def strings_Join (l : List ByteArray) (s : ByteArray) : Option ByteArray :=
 bif decide (l.length ≤ 4294967296) && decide ((Lib.join (l.map (·.data.toList)) s.data.toList).length ≤ 4294967296) then some ⟨(Lib.join (l.map (·.data.toList)) s.data.toList).toArray⟩ else none
def yj6 : z09 := (ByteArray.empty, (0, (0, (0, 0))))
def yjt (k : Nat) (v : Int) (s : z09) : z09 := match k with
 | 0 => (s.1, (v, s.2.2))
 | 1 => (s.1, (s.2.1, (v, s.2.2.2)))
 | 2 => (s.1, (s.2.1, (s.2.2.1, (v, s.2.2.2.2))))
 | _ => (s.1, (s.2.1, (s.2.2.1, (s.2.2.2.1, v))))
noncomputable def ykq (ws : List ByteArray) : Nat → Nat → z09 → Option (Option z09)
 | 0, _, s => some (some s)
 | n + 1, k, s => (z6x (lget ByteArray.empty ws ((k : Int) + 1))).bind fun r => bif !r.2 then some none else ykq ws n (k + 1) (yjt k r.1 s)
noncomputable def yj4 (s : ByteArray) : Option (z09 × Int) :=
 (strings_Split s (bytes [32])).bind fun ws => bif ((ws.length : Int) != 5) || seqb (lget ByteArray.empty ws 0) ByteArray.empty then some (yj6, 7) else
 (ykq ws 4 0 (lget ByteArray.empty ws 0, (0, (0, (0, 0))))).bind fun r => match r with
 | none => some (yj6, 7)
 | some s => (z36 s).bind fun e => bif e != 0 then some (yj6, e) else some (s, 0)
noncomputable def ylc (s : ByteArray) (at_ : Int) : Option ((List ByteArray)) :=
 (z2d (S := (List ByteArray) × Int × Int) (R := (List ByteArray) × Int) (fun s_1 =>
 let out : (List ByteArray) := s_1.1
 let from_ : Int := s_1.2.1
 let i : Int := s_1.2.2
 bif decide (i < (ByteArray.size s : Int)) then
 chk (decide ((0 : Int) ≤ i) && decide (i < (ByteArray.size s : Int))) (
 (bif ((sget s i) == at_) then
 chk (decide ((0 : Int) ≤ from_) && decide ((from_ : Int) ≤ i) && decide (i ≤ (ByteArray.size s : Int))) (
 (app out [ByteArray.extract s (Int.toNat from_) (Int.toNat i)]).bind fun (t : List ByteArray) =>
 some (t, wi64 (i + 1)))
 else
 some (out, from_)).bind fun (j : (List ByteArray) × Int) =>
 let out_1 : (List ByteArray) := j.1
 let from__1 : Int := j.2
 some (.inl (out_1, from__1, wi64 (i + 1))))
 else
 some (.inr (out, from_))) ([], 0, 0)).bind fun (b : (List ByteArray) × Int) =>
 let out_2 : (List ByteArray) := b.1
 let from__2 : Int := b.2
 chk (decide ((0 : Int) ≤ from__2) && decide ((from__2 : Int) ≤ (ByteArray.size s : Int)) && decide ((ByteArray.size s : Int) ≤ (ByteArray.size s : Int))) (
 (app out_2 [ByteArray.extract s (Int.toNat from__2) (Int.toNat (ByteArray.size s : Int))]).bind fun (t_1 : List ByteArray) =>
 some t_1)
noncomputable def yk3 (s : ByteArray) (digits : Int) : Option (Int × Bool) :=
 (bif decide ((ByteArray.size s : Int) > 0) then
 chk (decide ((0 : Int) ≤ 0) && decide (0 < (ByteArray.size s : Int))) (
 some ((sget s 0) == 45))
 else some false).bind fun (c : Bool) =>
 (bif c then
 some 1
 else
 some 0).bind fun (at_ : Int) =>
 (bif (((ByteArray.size s : Int) == at_) || (decide ((wi64 ((ByteArray.size s : Int) - at_)) > digits))) then some true else
 chk (decide ((0 : Int) ≤ at_) && decide (at_ < (ByteArray.size s : Int))) (
 some (((sget s at_) == 48) && (decide ((ByteArray.size s : Int) > 1))))).bind fun (c_1 : Bool) =>
 bif c_1 then
 some (0, false)
 else
 (z2d (S := Int × Int) (R := (Int) ⊕ (Int × Bool)) (fun s_1 =>
 let n : Int := s_1.1
 let i : Int := s_1.2
 bif decide (i < (ByteArray.size s : Int)) then
 chk (decide ((0 : Int) ≤ i) && decide (i < (ByteArray.size s : Int))) (
 (bif decide ((sget s i) < 48) then some true else
 chk (decide ((0 : Int) ≤ i) && decide (i < (ByteArray.size s : Int))) (
 some (decide ((sget s i) > 57)))).bind fun (c_2 : Bool) =>
 bif c_2 then
 Option.map Sum.inr (Option.map Sum.inr (
 some (0, false)))
 else
 chk (decide ((0 : Int) ≤ i) && decide (i < (ByteArray.size s : Int))) (
 let n_1 : Int := wi64 ((wi64 (10 * n)) + (wi64 (wu8 ((sget s i) - 48))))
 some (.inl (n_1, wi64 (i + 1)))))
 else
 some (.inr (.inl n))) (0, at_)).bind fun j => match j with
 | .inl n_2 => (
 (bif (at_ == 1) then
 some (wi64 (0 - n_2))
 else
 some n_2).bind fun (n_3 : Int) =>
 some (n_3, true))
 | .inr r => some r
noncomputable def yj7 (s : ByteArray) : Option (Int × Bool) :=
 (yk3 s 6).bind fun (r : Int × Bool) =>
 let t : Bool := (r.2 && (decide (r.1 ≥ 0)))
 some (r.1, t)
noncomputable def zla (n : Int) : Option (Int) :=
 let t : Int := imax n (wi64 (0 - n))
 some t
noncomputable def yje (n : Int) : Option (ByteArray) :=
 bif (n == 0) then
 some (bytes [48])
 else
 (bif decide (n < 0) then
 some (bytes [45])
 else
 some ByteArray.empty).bind fun (sign : ByteArray) =>
 (z2d (S := Int × ByteArray) (R := ByteArray) (fun s =>
 let n_1 : Int := s.1
 let s_1 : ByteArray := s.2
 bif (n_1 != 0) then
 chk (10 != 0) (
 (zla (Int.tmod n_1 10)).bind fun (t : Int) =>
 (cat (sofb [wu8 (wi64 (48 + t))]) s_1).bind fun t_1 =>
 chk (10 != 0) (
 let t_2 : Int := wi64 (Int.tdiv n_1 10)
 some (.inl (t_2, t_1))))
 else
 some (.inr s_1)) (n, ByteArray.empty)).bind fun (s_2 : ByteArray) =>
 (cat sign s_2).bind fun t_3 =>
 some t_3
end Go.Lift
namespace Go.Lift
open Go Go.Proofs
def ylx : Ann := (.seq .nil (.seq .nil (.seq .nil (.seq (.seq .nil (.blk (.loopB ⟨[⟨false, 5, 0, (.slice .str), [([], some 201000500)], false⟩, ⟨false, 6, 0, (.int .i64), [], false⟩, ⟨false, 7, 0, (.int .i64), [], false⟩], []⟩ ⟨[⟨false, 5, 0, (.slice .str), [([], some 401000500)], false⟩, ⟨false, 6, 0, (.int .i64), [], false⟩], []⟩ 0 (.seq .nil (.seq (.blk (.seq .nil (.join ⟨[⟨false, 5, 0, (.slice .str), [([], some 501000500)], false⟩, ⟨false, 6, 0, (.int .i64), [], false⟩], []⟩ .nil .nil))) .nil))))) .nil))))
def yks : Ann := (.seq .nil (.seq .nil (.seq (.seq .nil (.join ⟨[⟨false, 6, 0, (.int .i64), [], false⟩], []⟩ .nil .nil)) (.seq .nil (.seq .nil (.seq (.seq .nil (.blk (.loopBD ⟨[⟨false, 7, 0, (.int .i64), [], false⟩, ⟨false, 8, 0, (.int .i64), [], false⟩], []⟩ ⟨[⟨false, 7, 0, (.int .i64), [], false⟩], []⟩ 0 .nil))) (.seq (.seq .nil (.join ⟨[⟨false, 7, 0, (.int .i64), [], false⟩], []⟩ .nil .nil)) .nil)))))))
def yjs : Ann := .nil
def zxz : Ann := .nil
def ykj : Ann := (.seq .nil (.seq .nil (.seq .nil (.seq (.seq .nil (.join ⟨[⟨false, 4, 0, .str, [], false⟩], []⟩ .nil .nil)) (.seq (.blk (.loopB ⟨[⟨false, 0, 0, (.int .i64), [], false⟩, ⟨false, 3, 0, .str, [], false⟩], []⟩ ⟨[⟨false, 3, 0, .str, [], false⟩], []⟩ 0 .nil)) .nil)))))
noncomputable abbrev yjf : Sig := ⟨115, [(.slice .str), .str], [.str], fun x => strings_Join x.1 x.2⟩
noncomputable abbrev yj5 : Sig := ⟨61, [.str], [z0o, (.int .i64)], fun x => yj4 x⟩
noncomputable abbrev ylp : Sig := ⟨119, [.str, (.int .u8)], [(.slice .str)], fun x => ylc x.1 x.2⟩
noncomputable abbrev ykp : Sig := ⟨171, [.str, (.int .i64)], [(.int .i64), .bool], fun x => yk3 x.1 x.2⟩
noncomputable abbrev yjr : Sig := ⟨128, [.str], [(.int .i64), .bool], fun x => yj7 x⟩
noncomputable abbrev zqi : Sig := ⟨111, [(.int .i64)], [(.int .i64)], fun x => zla x⟩
noncomputable abbrev ykb : Sig := ⟨126, [(.int .i64)], [.str], fun x => yje x⟩
end Go.Lift
namespace Go.Lift
open Go Go.Proofs
end Go.Lift
namespace Go.Lift
open Go Go.Proofs
theorem yn6 (s : ByteArray) (at_ : Int) : funK (cx [] []) Tryz.f119 ylx [.str, (.int .u8)] [(.slice .str)] (s, at_) = ylc s at_ := by kernel_rfl
theorem y7p (n : Int) : funK (cx [] []) Tryz.f111 zxz [(.int .i64)] [(.int .i64)] n = zla n := by kernel_rfl
end Go.Lift
namespace Go.Lift
open Go Go.Proofs
theorem ylw (s : ByteArray) (digits : Int) : funK (cx [] []) Tryz.f171 yks [.str, (.int .i64)] [(.int .i64), .bool] (s, digits) = yk3 s digits := by kernel_rfl
theorem ylk (n : Int) : funK (cx [] [zqi]) Tryz.f126 ykj [(.int .i64)] [.str] n = yje n := by kernel_rfl
end Go.Lift
namespace Go.Lift
open Go Go.Proofs
theorem ykg (s : ByteArray) : funK (cx [] [ykp]) Tryz.f128 yjs [.str] [(.int .i64), .bool] s = yj7 s := by kernel_rfl
end Go.Lift
namespace Go.Lift
open Go Go.Proofs
set_option maxRecDepth 100000
section
variable (yjc : Has Tryz.prog yjf) (z5e : Has Tryz.prog z5m) (z6q : Has Tryz.prog z61) (z5f : Has Tryz.prog z5n) (z0q : Has Tryz.prog z1c) (z08 : Has Tryz.prog z2i) (z0d : Has Tryz.prog z2y) (z0e : Has Tryz.prog z2z) (z0g : Has Tryz.prog z1i) (z0f : Has Tryz.prog z2j) (yja : Has Tryz.prog yj5)  
theorem ynf : Has Tryz.prog ylp :=
 z0y z04 z0s z0t z0u (own := []) all_nil (n := ylx) Tryz.func119 (by kernel_rfl) fun x => yn6 x.1 x.2
theorem ym2 : Has Tryz.prog ykp :=
 z0y z04 z0s z0t z0u (own := []) all_nil (n := yks) Tryz.func171 (by kernel_rfl) fun x => ylw x.1 x.2
theorem ykl : Has Tryz.prog yjr :=
 z0y z04 z0s z0t z0u (own := []) (all_cons ym2 all_nil) (n := yjs) Tryz.func128 (by kernel_rfl) fun x => ykg x
theorem y1j : Has Tryz.prog zqi :=
 z0y z04 z0s z0t z0u (own := []) all_nil (n := zxz) Tryz.func111 (by kernel_rfl) fun x => y7p x
theorem ylv : Has Tryz.prog ykb :=
 z0y z04 z0s z0t z0u (own := []) (all_cons y1j all_nil) (n := ykj) Tryz.func126 (by kernel_rfl) fun x => ylk x
end
end Go.Lift
