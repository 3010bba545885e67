/-
  The functions of the law of orders, their code, their contracts.
-/
import Derived.Test.YtggnjngdmadbaaaGreatDoorFunF
import Derived.Test.YtggnjngdmadbaaaGreatDoorSlF
import Derived.Test.YtggnjngdmadbaaaGreatDoorFunT
import Derived.Test.YtggnjngdmadbaaaGreatDoorFunH
set_option linter.unusedSectionVars false
set_option linter.unusedVariables false
set_option linter.unusedSimpArgs false
namespace Go.Lift
open Go
noncomputable def yoe (n : Int) (by_ : Int) : Option (Int) :=
 chk (by_ != 0) (
 let t : Int := wi64 (Int.tdiv n by_)
 chk (by_ != 0) (
 (bif decide ((Int.tmod n by_) < 0) then
 some (wi64 (t - 1))
 else
 some t).bind fun (q : Int) =>
 some q))
noncomputable def yo6 (o : z01) : Option (ByteArray) :=
 (strconv_Itoa o.2.1).bind fun (t : ByteArray) =>
 (strconv_Itoa o.2.2.1).bind fun (t_1 : ByteArray) =>
 (strconv_Itoa o.2.2.2.1).bind fun (t_2 : ByteArray) =>
 (strconv_Itoa o.2.2.2.2.1).bind fun (t_3 : ByteArray) =>
 (yoe o.2.2.2.2.2.1.1 10).bind fun (t_4 : Int) =>
 (strconv_Itoa t_4).bind fun (t_5 : ByteArray) =>
 (yoe o.2.2.2.2.2.1.2 10).bind fun (t_6 : Int) =>
 (strconv_Itoa t_6).bind fun (t_7 : ByteArray) =>
 (strconv_Itoa o.2.2.2.2.2.2).bind fun (t_8 : ByteArray) =>
 (strings_Join [o.1, (bytes [103, 114, 97, 100, 101]), t, (bytes [116, 104, 105, 99, 107, 110, 101, 115, 115]), t_1, (bytes [117, 109]), (bytes [116, 111, 108, 101, 114, 97, 110, 99, 101]), t_2, (bytes [117, 109]), (bytes [119, 105, 100, 116, 104]), t_3, (bytes [109, 109]), (bytes [99, 111, 105, 108, 105, 110, 103]), t_5, (bytes [116, 111]), t_7, (bytes [67]), (bytes [100, 117, 101]), t_8] (bytes [32])).bind fun (t_9 : ByteArray) =>
 some t_9
noncomputable def yol  : Option ((List ByteArray)) :=
 let t : (List ByteArray) := [(bytes [103, 114, 97, 100, 101]), (bytes [116, 104, 105, 99, 107, 110, 101, 115, 115]), (bytes [116, 111, 108, 101, 114, 97, 110, 99, 101]), (bytes [119, 105, 100, 116, 104]), (bytes [99, 111, 105, 108, 105, 110, 103]), (bytes [100, 117, 101])]
 some t
noncomputable def yoa  : Option ((List (List ByteArray))) :=
 let t : (List (List ByteArray)) := [[(bytes [35])], [(bytes [35]), (bytes [117, 109])], [(bytes [35]), (bytes [117, 109])], [(bytes [35]), (bytes [109, 109])], [(bytes [35]), (bytes [116, 111]), (bytes [35]), (bytes [67])], [(bytes [35])]]
 some t
noncomputable def pcGo (w : List ByteArray) : List ByteArray → Nat → List Int → Option (List Int × Int × Bool)
 | [], i, l => some (l, (i : Int), true)
 | p :: ps, i, l => if i = w.length then some ([], (i : Int), false) else
 bif seqb p (bytes [35]) then (yj7 (lget ByteArray.empty w (i : Int))).bind fun r => bif !r.2 then some ([], (i : Int), false) else pcGo w ps (i + 1) (l ++ [r.1])
 else bif seqb p (bytes [117, 109]) && seqb (lget ByteArray.empty w (i : Int)) (bytes [109, 109]) then pcGo w ps (i + 1) (lset l 0 (wi64 (1000 * lget 0 l 0)))
 else bif !seqb (lget ByteArray.empty w (i : Int)) p then some ([], (i : Int), false) else pcGo w ps (i + 1) l
noncomputable def yo5 (k : Int) (w : List ByteArray) : Option (List Int × Int × Bool) :=
 (yoa).bind fun P => chk (decide (0 ≤ k) && decide (k < (P.length : Int))) (pcGo w (lget [] P k) 0 [])
noncomputable def yog (s : ByteArray) : Option (z01 × Int × Int) :=
 (ylc s 32).bind fun (t : (List ByteArray)) =>
 chk (decide ((0 : Int) ≤ 0) && decide (0 < (List.length t : Int))) (
 (zi4 (lget ByteArray.empty t 0)).bind fun (t_1 : Bool) =>
 bif !t_1 then
 some ((ByteArray.empty, (0, (0, (0, (0, ((0, 0), 0)))))), 0, 7)
 else
 (z2d (S := Int × (Nat → Bool) × (List (List Int))) (R := ((Nat → Bool) × (List (List Int))) ⊕ (z01 × Int × Int)) (fun s_1 =>
 let i : Int := s_1.1
 let seen : (Nat → Bool) := s_1.2.1
 let t_2 : (List (List Int)) := s_1.2.2
 bif decide (i < (List.length t : Int)) then
 (z2d (S := Int) (R := Int) (fun kind =>
 (bif decide (kind < 6) then
 (yol).bind fun (t_3 : (List ByteArray)) =>
 chk (decide ((0 : Int) ≤ kind) && decide (kind < (List.length t_3 : Int))) (
 chk (decide ((0 : Int) ≤ i) && decide (i < (List.length t : Int))) (
 some (!seqb (lget ByteArray.empty t_3 kind) (lget ByteArray.empty t i))))
 else some false).bind fun (c : Bool) =>
 bif c then
 some (.inl (wi64 (kind + 1)))
 else
 some (.inr kind)) 0).bind fun (kind_1 : Int) =>
 bif (kind_1 == 6) then
 Option.map Sum.inr (Option.map Sum.inr (
 some ((ByteArray.empty, (0, (0, (0, (0, ((0, 0), 0)))))), i, 7)))
 else
 chk (decide ((0 : Int) ≤ kind_1) && decide ((kind_1 : Int) < 6)) (
 bif aget seen kind_1 then
 Option.map Sum.inr (Option.map Sum.inr (
 some ((ByteArray.empty, (0, (0, (0, (0, ((0, 0), 0)))))), i, 23)))
 else
 chk (decide ((0 : Int) ≤ kind_1) && decide ((kind_1 : Int) < 6)) (
 let seen_1 : (Nat → Bool) := aset seen kind_1 true
 chk (decide ((0 : Int) ≤ (wi64 (i + 1))) && decide (((wi64 (i + 1)) : Int) ≤ (List.length t : Int)) && decide ((List.length t : Int) ≤ (List.length t : Int))) (
 (yo5 kind_1 (List.drop (Int.toNat (wi64 (i + 1))) (List.take (Int.toNat (List.length t : Int)) t))).bind fun (r : (List Int) × Int × Bool) =>
 bif !r.2.2 then
 let t_4 : Int := wi64 ((wi64 (i + 1)) + r.2.1)
 Option.map Sum.inr (Option.map Sum.inr (
 some ((ByteArray.empty, (0, (0, (0, (0, ((0, 0), 0)))))), t_4, 7)))
 else
 chk (decide ((0 : Int) ≤ kind_1) && decide (kind_1 < (List.length t_2 : Int))) (
 let t_5 : (List (List Int)) := lset t_2 kind_1 r.1
 let i_1 : Int := wi64 ((wi64 (i + 1)) + r.2.1)
 some (.inl (i_1, seen_1, t_5))))))
 else
 some (.inr (.inl (seen, t_2)))) (1, (fun _ => false), [[], [], [0], [], [0, 2000], [0]])).bind fun j => match j with
 | .inl b => (
 let seen_2 : (Nat → Bool) := b.1
 let t_6 : (List (List Int)) := b.2
 chk (decide ((0 : Int) ≤ 0) && decide ((0 : Int) < 6)) (
 (bif !(aget seen_2 0) then some true else
 chk (decide ((0 : Int) ≤ 1) && decide ((1 : Int) < 6)) (
 some (!(aget seen_2 1)))).bind fun (c_1 : Bool) =>
 (bif c_1 then some true else
 chk (decide ((0 : Int) ≤ 3) && decide ((3 : Int) < 6)) (
 some (!(aget seen_2 3)))).bind fun (c_2 : Bool) =>
 bif c_2 then
 some ((ByteArray.empty, (0, (0, (0, (0, ((0, 0), 0)))))), 0, 14)
 else
 chk (decide ((0 : Int) ≤ 0) && decide (0 < (List.length t : Int))) (
 chk (decide ((0 : Int) ≤ 0) && decide (0 < (List.length t_6 : Int))) (
 chk (decide ((0 : Int) ≤ 0) && decide (0 < (List.length (lget [] t_6 0) : Int))) (
 chk (decide ((0 : Int) ≤ 1) && decide (1 < (List.length t_6 : Int))) (
 chk (decide ((0 : Int) ≤ 0) && decide (0 < (List.length (lget [] t_6 1) : Int))) (
 chk (decide ((0 : Int) ≤ 2) && decide (2 < (List.length t_6 : Int))) (
 chk (decide ((0 : Int) ≤ 0) && decide (0 < (List.length (lget [] t_6 2) : Int))) (
 chk (decide ((0 : Int) ≤ 3) && decide (3 < (List.length t_6 : Int))) (
 chk (decide ((0 : Int) ≤ 0) && decide (0 < (List.length (lget [] t_6 3) : Int))) (
 chk (decide ((0 : Int) ≤ 4) && decide (4 < (List.length t_6 : Int))) (
 chk (decide ((0 : Int) ≤ 0) && decide (0 < (List.length (lget [] t_6 4) : Int))) (
 chk (decide ((0 : Int) ≤ 4) && decide (4 < (List.length t_6 : Int))) (
 chk (decide ((0 : Int) ≤ 1) && decide (1 < (List.length (lget [] t_6 4) : Int))) (
 chk (decide ((0 : Int) ≤ 5) && decide (5 < (List.length t_6 : Int))) (
 chk (decide ((0 : Int) ≤ 0) && decide (0 < (List.length (lget [] t_6 5) : Int))) (
 (zff (lget ByteArray.empty t 0, (lget 0 (lget [] t_6 0) 0, (lget 0 (lget [] t_6 1) 0, (lget 0 (lget [] t_6 2) 0, (lget 0 (lget [] t_6 3) 0, ((wi64 (10 * (lget 0 (lget [] t_6 4) 0)), wi64 (10 * (lget 0 (lget [] t_6 4) 1))), lget 0 (lget [] t_6 5) 0))))))).bind fun (t_7 : Int) =>
 bif (t_7 != 0) then
 some ((ByteArray.empty, (0, (0, (0, (0, ((0, 0), 0)))))), 0, t_7)
 else
 some ((lget ByteArray.empty t 0, (lget 0 (lget [] t_6 0) 0, (lget 0 (lget [] t_6 1) 0, (lget 0 (lget [] t_6 2) 0, (lget 0 (lget [] t_6 3) 0, ((wi64 (10 * (lget 0 (lget [] t_6 4) 0)), wi64 (10 * (lget 0 (lget [] t_6 4) 1))), lget 0 (lget [] t_6 5) 0)))))), 0, 0))))))))))))))))))
 | .inr r => some r)
noncomputable def yod (o : z01) : Option (ByteArray) :=
 (cat o.1 (bytes [32, 103, 114, 97, 100, 101, 32])).bind fun t =>
 (yje o.2.1).bind fun (t_1 : ByteArray) =>
 (cat t t_1).bind fun t_2 =>
 (cat t_2 (bytes [32, 116, 104, 105, 99, 107, 110, 101, 115, 115, 32])).bind fun t_3 =>
 (yje o.2.2.1).bind fun (t_4 : ByteArray) =>
 (cat t_3 t_4).bind fun t_5 =>
 (cat t_5 (bytes [32, 117, 109, 32, 116, 111, 108, 101, 114, 97, 110, 99, 101, 32])).bind fun t_6 =>
 (yje o.2.2.2.1).bind fun (t_7 : ByteArray) =>
 (cat t_6 t_7).bind fun t_8 =>
 (cat t_8 (bytes [32, 117, 109, 32, 119, 105, 100, 116, 104, 32])).bind fun t_9 =>
 (yje o.2.2.2.2.1).bind fun (t_10 : ByteArray) =>
 (cat t_9 t_10).bind fun t_11 =>
 (cat t_11 (bytes [32, 109, 109, 32, 99, 111, 105, 108, 105, 110, 103, 32])).bind fun t_12 =>
 (zmb o.2.2.2.2.2.1.1 10).bind fun (t_13 : Int) =>
 (yje t_13).bind fun (t_14 : ByteArray) =>
 (cat t_12 t_14).bind fun t_15 =>
 (cat t_15 (bytes [32, 116, 111, 32])).bind fun t_16 =>
 (zmb o.2.2.2.2.2.1.2 10).bind fun (t_17 : Int) =>
 (yje t_17).bind fun (t_18 : ByteArray) =>
 (cat t_16 t_18).bind fun t_19 =>
 (cat t_19 (bytes [32, 67, 32, 100, 117, 101, 32])).bind fun t_20 =>
 (yje o.2.2.2.2.2.2).bind fun (t_21 : ByteArray) =>
 (cat t_20 t_21).bind fun t_22 =>
 some t_22
noncomputable def yo9 (o : z01) (s : ByteArray) : Option (Bool) :=
 (z7b).bind fun (t : Bool) =>
 bif !t then
 some false
 else
 bif ((decide ((ByteArray.size o.1 : Int) > 30)) || (decide ((ByteArray.size s : Int) > 200))) then
 some true
 else
 (yo6 o).bind fun (t_1 : ByteArray) =>
 (z4a s).bind fun (r : z01 × Int × Int) =>
 (yog s).bind fun (r_1 : z01 × Int × Int) =>
 (zff o).bind fun (t_2 : Int) =>
 (z13 o).bind fun (t_3 : Int) =>
 (bif (t_3 != t_2) then some true else
 (yod o).bind fun (t_4 : ByteArray) =>
 some (!seqb t_1 t_4)).bind fun (c : Bool) =>
 bif (((c || (r.2.2 != r_1.2.2)) || (!(Ty.eqb z0i r.1 r_1.1))) || (r.2.1 != r_1.2.1)) then
 some false
 else
 bif (t_2 != 0) then
 some true
 else
 (z4a t_1).bind fun (r_2 : z01 × Int × Int) =>
 let t_5 : Bool := (((r_2.2.2 == 0) && (Ty.eqb z0i r_2.1 o)) && (r_2.2.1 == 0))
 some t_5
end Go.Lift
namespace Go.Lift
open Go Go.Proofs
def yot : Ann := (.seq .nil (.seq .nil (.seq (.seq .nil (.join ⟨[⟨false, 5, 0, (.int .i64), [], false⟩], []⟩ .nil .nil)) .nil)))
def yoh : Ann := .nil
def ypd : Ann := .nil
def yp6 : Ann := .nil
def yoz : Ann := (.seq .nil (.seq .nil (.seq .nil (.seq .nil (.seq .nil (.seq .nil (.seq (.seq .nil (.blk (.loopBD ⟨[⟨false, 9, 0, (.int .i64), [], false⟩, ⟨true, 8, 173, (.arr 6 .bool), [], false⟩, ⟨true, 28, 143, (.slice (.slice (.int .i64))), [], true⟩], [2, 5, 25, 26, 27]⟩ ⟨[⟨true, 8, 173, (.arr 6 .bool), [], false⟩, ⟨true, 28, 143, (.slice (.slice (.int .i64))), [], true⟩], [2, 5, 25, 26, 27]⟩ 0 (.seq .nil (.blk (.seq .nil (.seq (.blk (.loopB ⟨[⟨false, 10, 0, (.int .i64), [], false⟩], [2, 5, 8, 25, 26, 27, 28]⟩ ⟨[⟨false, 10, 0, (.int .i64), [], false⟩], [2, 5, 8, 25, 26, 27, 28]⟩ 2 .nil)) .nil))))))) .nil)))))))
def yos : Ann := .nil
def yok : Ann := .nil
noncomputable abbrev yob : Sig := ⟨121, [(.int .i64), (.slice .str)], [(.slice (.int .i64)), (.int .i64), .bool], fun x => yo5 x.1 x.2⟩
noncomputable abbrev yoq : Sig := ⟨116, [(.int .i64), (.int .i64)], [(.int .i64)], fun x => yoe x.1 x.2⟩
noncomputable abbrev yof : Sig := ⟨55, [z0i], [.str], fun x => yo6 x⟩
noncomputable abbrev ypb : Sig := ⟨120, [], [(.slice .str)], fun _ => yol⟩
noncomputable abbrev yoo : Sig := ⟨169, [], [(.slice (.slice .str))], fun _ => yoa⟩
noncomputable abbrev yoy : Sig := ⟨57, [.str], [z0i, (.int .i64), (.int .i64)], fun x => yog x⟩
noncomputable abbrev yop : Sig := ⟨59, [z0i], [.str], fun x => yod x⟩
noncomputable abbrev yoj : Sig := ⟨10, [z0i, .str], [.bool], fun x => yo9 x.1 x.2⟩
end Go.Lift
namespace Go.Lift
open Go Go.Proofs
theorem yph (n : Int) (by_ : Int) : funK (cx [] []) Tryz.f116 yot [(.int .i64), (.int .i64)] [(.int .i64)] (n, by_) = yoe n by_ := by kernel_rfl
theorem ypn (s : ByteArray) : funK (cx [28] [zmw, zk7, ylp, ypb, yob]) Tryz.f57 yoz [.str] [z0i, (.int .i64), (.int .i64)] s = yog s := by kernel_rfl
end Go.Lift
namespace Go.Lift
open Go Go.Proofs
theorem yox (o : z01) : funK (cx [] [z5m, yjf, yoq]) Tryz.f55 yoh [z0i] [.str] o = yo6 o := by kernel_rfl
theorem ypg (o : z01) : funK (cx [] [zni, ykb]) Tryz.f59 yos [z0i] [.str] o = yod o := by kernel_rfl
end Go.Lift
namespace Go.Lift
open Go Go.Proofs
theorem yq2  : funK (cx [] []) Tryz.f120 ypd [] [(.slice .str)] () = yol := by kernel_rfl
theorem yp4 (o : z01) (s : ByteArray) : funK (cx [] [zcw, zmw, yof, z2j, yoy, z7x, yop]) Tryz.f10 yok [z0i, .str] [.bool] (o, s) = yo9 o s := by kernel_rfl
end Go.Lift
namespace Go.Lift
open Go Go.Proofs
theorem ypt  : funK (cx [] []) Tryz.f169 yp6 [] [(.slice (.slice .str))] () = yoa := by kernel_rfl
end Go.Lift
namespace Go.Lift
open Go Go.Proofs
set_option maxRecDepth 100000
section
variable (yjc : Has Tryz.prog yjf) (z5e : Has Tryz.prog z5m) (z6q : Has Tryz.prog z61) (z5f : Has Tryz.prog z5n) (z0q : Has Tryz.prog z1c) (z08 : Has Tryz.prog z2i) (z0d : Has Tryz.prog z2y) (z0e : Has Tryz.prog z2z) (z0g : Has Tryz.prog z1i) (z0f : Has Tryz.prog z2j) (yo7 : Has Tryz.prog yob)  
theorem ypm : Has Tryz.prog yoq :=
 z0y z04 z0s z0t z0u (own := []) all_nil (n := yot) Tryz.func116 (by kernel_rfl) fun x => yph x.1 x.2
include yjc z5e in
theorem yp1 : Has Tryz.prog yof :=
 z0y z04 z0s z0t z0u (own := []) (all_cons z5e (all_cons yjc (all_cons ypm all_nil))) (n := yoh) Tryz.func55 (by kernel_rfl) fun x => yox x
theorem yq8 : Has Tryz.prog ypb :=
 z0y z04 z0s z0t z0u (own := []) all_nil (n := ypd) Tryz.func120 (by kernel_rfl) fun x => yq2 
theorem ypc : Has Tryz.prog yoo :=
 z0y z04 z0s z0t z0u (own := []) all_nil (n := yp6) Tryz.func169 (by kernel_rfl) fun x => ypt 
include yo7 in
theorem yps : Has Tryz.prog yoy :=
 z0y z04 z0s z0t z0u (own := [28]) (all_cons zyz (all_cons zur (all_cons ynf (all_cons yq8 (all_cons yo7 all_nil))))) (n := yoz) Tryz.func57 (by kernel_rfl) fun x => ypn x
theorem ypl : Has Tryz.prog yop :=
 z0y z04 z0s z0t z0u (own := []) (all_cons zxb (all_cons ylv all_nil)) (n := yos) Tryz.func59 (by kernel_rfl) fun x => ypg x
include yjc z5e z08 z0d z0e z0g z0f yo7 in
theorem yp9 : Has Tryz.prog yoj :=
 z0y z04 z0s z0t z0u (own := []) (all_cons (zhs z08 z0d z0e z0g z0f) (all_cons zyz (all_cons (yp1 yjc z5e) (all_cons z0f (all_cons (yps yo7) (all_cons z8r (all_cons ypl all_nil))))))) (n := yok) Tryz.func10 (by kernel_rfl) fun x => yp4 x.1 x.2
end
end Go.Lift
