/-
  The functions of the law of yards, their code, their contracts.
-/
import Derived.Test.YtggnjngdmadbaaaGreatDoorFunF
import Derived.Test.YtggnjngdmadbaaaGreatDoorFunT
import Derived.Test.YtggnjngdmadbaaaGreatDoorFunH
set_option linter.unusedSectionVars false
set_option linter.unusedVariables false
set_option linter.unusedSimpArgs false
namespace Go.Lift
open Go
noncomputable def zf0 (l : (List ByteArray)) (most : Int) : Option (Bool) :=
 bif decide ((List.length l : Int) > most) then
 some false
 else
 (z1v (S := Int) (R := (Unit) ⊕ (Bool)) (fun i =>
 bif decide (i < (List.length l : Int)) then
 chk (decide ((0 : Int) ≤ i) && decide (i < (List.length l : Int))) (
 bif decide ((ByteArray.size (lget ByteArray.empty l i) : Int) > 20) then
 Option.map Sum.inr (Option.map Sum.inr (
 some false))
 else
 some (.inl (wi64 (i + 1))))
 else
 some (.inr (.inl ()))) 0).bind fun j => match j with
 | .inl _ => (
 some true)
 | .inr r => some r
noncomputable def zfx (y : (List (List ByteArray))) (request : (List ByteArray)) : Option (Bool) :=
 (bif decide ((List.length y : Int) > 6) then some true else
 (zf0 request 10).bind fun (t : Bool) =>
 some (!t)).bind fun (c : Bool) =>
 bif c then
 some false
 else
 (z1v (S := Int) (R := (Unit) ⊕ (Bool)) (fun i =>
 bif decide (i < (List.length y : Int)) then
 chk (decide ((0 : Int) ≤ i) && decide (i < (List.length y : Int))) (
 (zf0 (lget [] y i) 8).bind fun (t_1 : Bool) =>
 bif !t_1 then
 Option.map Sum.inr (Option.map Sum.inr (
 some false))
 else
 some (.inl (wi64 (i + 1))))
 else
 some (.inr (.inl ()))) 0).bind fun j => match j with
 | .inl _ => (
 some true)
 | .inr r => some r
noncomputable def zb5 (l : (List ByteArray)) : Option ((List ByteArray)) :=
 (app [] l).bind fun (t : List ByteArray) =>
 some t
noncomputable def z8u (y : (List (List ByteArray))) : Option ((List (List ByteArray))) :=
 (z1v (S := (List (List ByteArray)) × Int) (R := (List (List ByteArray))) (fun s =>
 let out : (List (List ByteArray)) := s.1
 let i : Int := s.2
 bif decide (i < (List.length y : Int)) then
 chk (decide ((0 : Int) ≤ i) && decide (i < (List.length y : Int))) (
 (zb5 (lget [] y i)).bind fun (t : (List ByteArray)) =>
 (app out [t]).bind fun (t_1 : List (List ByteArray)) =>
 some (.inl (t_1, wi64 (i + 1))))
 else
 some (.inr out)) ([], 0)).bind fun (out_1 : (List (List ByteArray))) =>
 some out_1
noncomputable def z4d (n : Int) (x : (List (List ByteArray))) : Option (Bool) :=
 (z0r n 0 (wi64 ((List.length x : Int) - 1))).bind fun (t : Bool) =>
 some t
noncomputable def z34 (y : (List (List ByteArray))) (m : z2r) : Option (Int) :=
 (z4d m.1 y).bind fun (t : Bool) =>
 (bif !t then some true else
 (z4d m.2 y).bind fun (t_1 : Bool) =>
 some ((!t_1) && (m.2 != (-1)))).bind fun (c : Bool) =>
 bif c then
 some 6
 else
 chk (decide ((0 : Int) ≤ m.1) && decide (m.1 < (List.length y : Int))) (
 (z0g (decide ((List.length (lget [] y m.1) : Int) > 0)) 11).bind fun (t_2 : Int) =>
 (z0g (m.1 != m.2) 3).bind fun (t_3 : Int) =>
 (bif (m.2 == (-1)) then some true else
 chk (decide ((0 : Int) ≤ (imax m.2 0)) && decide ((imax m.2 0) < (List.length y : Int))) (
 some (decide ((List.length (lget [] y (imax m.2 0)) : Int) < 6)))).bind fun (c_1 : Bool) =>
 (z0g c_1 16).bind fun (t_4 : Int) =>
 (z1x [t_2, t_3, t_4]).bind fun (t_5 : Int) =>
 some t_5)
noncomputable def zgx (y : List (List ByteArray)) (m : Int × Int) : Option (List (List ByteArray)) :=
 let p := lget [] y m.1
 let y1 := lset y m.1 (p.take (p.length - 1))
 bif m.2 != -1 then (app (lget [] y1 m.2) [lget ByteArray.empty p ((p.length : Int) - 1)]).bind fun q => some (lset y1 m.2 q) else some y1
def zkt (y : List (List ByteArray)) : Bool := decide (y.length ≤ 1000) && y.all fun p => decide (p.length ≤ 999)
noncomputable def z50 (y : List (List ByteArray)) (m : Int × Int) : Option (List (List ByteArray) × Int) :=
 bif zkt y then (z1r y).bind fun r => (bif r.2 == 0 then z34 y m else some r.2).bind fun e =>
 bif e != 0 then some ([], e) else (zgx y m).bind fun n => some (n, 0) else none
noncomputable def z9i (l : (List ByteArray)) (s : ByteArray) : Option (Bool) :=
 (z1v (S := Int) (R := (Unit) ⊕ (Bool)) (fun i =>
 bif decide (i < (List.length l : Int)) then
 chk (decide ((0 : Int) ≤ i) && decide (i < (List.length l : Int))) (
 bif seqb (lget ByteArray.empty l i) s then
 Option.map Sum.inr (Option.map Sum.inr (
 some true))
 else
 some (.inl (wi64 (i + 1))))
 else
 some (.inr (.inl ()))) 0).bind fun j => match j with
 | .inl _ => (
 some false)
 | .inr r => some r
noncomputable def zdq (y : (List (List ByteArray))) : Option (Int × Int) :=
 bif ((List.length y : Int) == 0) then
 some (0, 10)
 else
 bif decide ((List.length y : Int) > 4) then
 some (0, 8)
 else
 (z1v (S := (List ByteArray) × Int) (R := ((List ByteArray)) ⊕ (Int × Int)) (fun s =>
 let all : (List ByteArray) := s.1
 let i : Int := s.2
 bif decide (i < (List.length y : Int)) then
 chk (decide ((0 : Int) ≤ i) && decide (i < (List.length y : Int))) (
 bif decide ((List.length (lget [] y i) : Int) > 6) then
 Option.map Sum.inr (Option.map Sum.inr (
 some (i, 8)))
 else
 (z1v (S := (List ByteArray) × Int) (R := ((List ByteArray)) ⊕ (((List ByteArray) × Int) ⊕ (((List ByteArray)) ⊕ (Int × Int)))) (fun s_1 =>
 let all_1 : (List ByteArray) := s_1.1
 let k : Int := s_1.2
 chk (decide ((0 : Int) ≤ i) && decide (i < (List.length y : Int))) (
 bif decide (k < (List.length (lget [] y i) : Int)) then
 chk (decide ((0 : Int) ≤ i) && decide (i < (List.length y : Int))) (
 chk (decide ((0 : Int) ≤ k) && decide (k < (List.length (lget [] y i) : Int))) (
 (zil (lget ByteArray.empty (lget [] y i) k)).bind fun (t : Bool) =>
 bif !t then
 Option.map Sum.inr (Option.map Sum.inr (
 Option.map Sum.inr (Option.map Sum.inr (
 some (i, 4)))))
 else
 chk (decide ((0 : Int) ≤ i) && decide (i < (List.length y : Int))) (
 chk (decide ((0 : Int) ≤ k) && decide (k < (List.length (lget [] y i) : Int))) (
 (z9i all_1 (lget ByteArray.empty (lget [] y i) k)).bind fun (t_1 : Bool) =>
 bif t_1 then
 Option.map Sum.inr (Option.map Sum.inr (
 Option.map Sum.inr (Option.map Sum.inr (
 some (i, 5)))))
 else
 chk (decide ((0 : Int) ≤ i) && decide (i < (List.length y : Int))) (
 chk (decide ((0 : Int) ≤ k) && decide (k < (List.length (lget [] y i) : Int))) (
 (app all_1 [lget ByteArray.empty (lget [] y i) k]).bind fun (t_2 : List ByteArray) =>
 some (.inl (t_2, wi64 (k + 1)))))))))
 else
 some (.inr (.inl all_1)))) (all, 0)).bind fun j => match j with
 | .inl all_2 => (
 some (.inl (all_2, wi64 (i + 1))))
 | .inr r => some r)
 else
 some (.inr (.inl all))) ([], 0)).bind fun j => match j with
 | .inl all_3 => (
 bif decide ((List.length all_3 : Int) > 8) then
 some (0, 8)
 else
 some (0, 0))
 | .inr r => some r
noncomputable def zeu (y : List (List ByteArray)) (m : Int × Int) : Option (List (List ByteArray) × Int) :=
 bif zkt y then (zc1 m.1 0 (wi64 ((y.length : Int) - 1))).bind fun a => (bif m.2 != -1 then zc1 m.2 0 (wi64 ((y.length : Int) - 1)) else some true).bind fun b =>
 bif !a || !b then some ([], 6) else bif ((lget [] y m.1).length : Int) == 0 then some ([], 11) else bif m.1 == m.2 then some ([], 3) else
 bif m.2 != -1 && decide (((lget [] y m.2).length : Int) ≥ 6) then some ([], 16) else
 (zgx y m).bind fun n => some (n, 0) else none
noncomputable def zfq (a : (List (List ByteArray))) (b : (List (List ByteArray))) : Option (Bool) :=
 bif ((List.length a : Int) != (List.length b : Int)) then
 some false
 else
 (z1v (S := Int) (R := (Unit) ⊕ (Bool)) (fun i =>
 bif decide (i < (List.length a : Int)) then
 chk (decide ((0 : Int) ≤ i) && decide (i < (List.length a : Int))) (
 chk (decide ((0 : Int) ≤ i) && decide (i < (List.length b : Int))) (
 (zf8 (lget [] a i) (lget [] b i)).bind fun (t : Bool) =>
 bif !t then
 Option.map Sum.inr (Option.map Sum.inr (
 some false))
 else
 some (.inl (wi64 (i + 1)))))
 else
 some (.inr (.inl ()))) 0).bind fun j => match j with
 | .inl _ => (
 some true)
 | .inr r => some r
noncomputable def zbj (y : (List (List ByteArray))) (request : (List ByteArray)) : Option (Int) :=
 (z1v (S := Int) (R := (Unit) ⊕ (Int)) (fun i =>
 bif decide (i < (List.length request : Int)) then
 (z1v (S := Bool × Int) (R := Bool) (fun s =>
 let found : Bool := s.1
 let k : Int := s.2
 bif decide (k < (List.length y : Int)) then
 (bif found then some true else
 chk (decide ((0 : Int) ≤ k) && decide (k < (List.length y : Int))) (
 chk (decide ((0 : Int) ≤ i) && decide (i < (List.length request : Int))) (
 (z9i (lget [] y k) (lget ByteArray.empty request i)).bind fun (t : Bool) =>
 some t))).bind fun (c : Bool) =>
 some (.inl (c, wi64 (k + 1)))
 else
 some (.inr found)) (false, 0)).bind fun (found_1 : Bool) =>
 bif !found_1 then
 Option.map Sum.inr (Option.map Sum.inr (
 some 6))
 else
 chk (decide ((0 : Int) ≤ 0) && decide ((0 : Int) ≤ i) && decide (i ≤ (List.length request : Int))) (
 chk (decide ((0 : Int) ≤ i) && decide (i < (List.length request : Int))) (
 (z9i (List.drop (Int.toNat 0) (List.take (Int.toNat i) request)) (lget ByteArray.empty request i)).bind fun (t_1 : Bool) =>
 bif t_1 then
 Option.map Sum.inr (Option.map Sum.inr (
 some 23))
 else
 some (.inl (wi64 (i + 1)))))
 else
 some (.inr (.inl ()))) 0).bind fun j => match j with
 | .inl _ => (
 some 0)
 | .inr r => some r
noncomputable def zgs (request : (List ByteArray)) (name : ByteArray) : Option (Int) :=
 (z1v (S := Int) (R := (Unit) ⊕ (Int)) (fun i =>
 bif decide (i < (List.length request : Int)) then
 chk (decide ((0 : Int) ≤ i) && decide (i < (List.length request : Int))) (
 bif seqb (lget ByteArray.empty request i) name then
 Option.map Sum.inr (Option.map Sum.inr (
 some i))
 else
 some (.inl (wi64 (i + 1))))
 else
 some (.inr (.inl ()))) 0).bind fun j => match j with
 | .inl _ => (
 let t : Int := (List.length request : Int)
 some t)
 | .inr r => some r
noncomputable def zdr (y : (List (List ByteArray))) (request : (List ByteArray)) : Option ((List ByteArray)) :=
 (z1v (S := (List ByteArray) × Int) (R := (List ByteArray)) (fun s =>
 let out : (List ByteArray) := s.1
 let i : Int := s.2
 bif decide (i < (List.length y : Int)) then
 (z1v (S := (List ByteArray) × Int) (R := (List ByteArray)) (fun s_1 =>
 let out_1 : (List ByteArray) := s_1.1
 let k : Int := s_1.2
 chk (decide ((0 : Int) ≤ i) && decide (i < (List.length y : Int))) (
 bif decide (k < (List.length (lget [] y i) : Int)) then
 (z1v (S := Bool × Int) (R := Bool) (fun s_2 =>
 let blocks : Bool := s_2.1
 let n : Int := s_2.2
 bif decide (n < k) then
 (bif blocks then some true else
 chk (decide ((0 : Int) ≤ i) && decide (i < (List.length y : Int))) (
 chk (decide ((0 : Int) ≤ n) && decide (n < (List.length (lget [] y i) : Int))) (
 (zgs request (lget ByteArray.empty (lget [] y i) n)).bind fun (t : Int) =>
 chk (decide ((0 : Int) ≤ i) && decide (i < (List.length y : Int))) (
 chk (decide ((0 : Int) ≤ k) && decide (k < (List.length (lget [] y i) : Int))) (
 (zgs request (lget ByteArray.empty (lget [] y i) k)).bind fun (t_1 : Int) =>
 some (decide (t < t_1))))))).bind fun (c : Bool) =>
 some (.inl (c, wi64 (n + 1)))
 else
 some (.inr blocks)) (false, 0)).bind fun (blocks_1 : Bool) =>
 (bif blocks_1 then
 chk (decide ((0 : Int) ≤ i) && decide (i < (List.length y : Int))) (
 chk (decide ((0 : Int) ≤ k) && decide (k < (List.length (lget [] y i) : Int))) (
 (app out_1 [lget ByteArray.empty (lget [] y i) k]).bind fun (t_2 : List ByteArray) =>
 some t_2))
 else
 some out_1).bind fun (out_2 : (List ByteArray)) =>
 some (.inl (out_2, wi64 (k + 1)))
 else
 some (.inr out_1))) (out, 0)).bind fun (out_3 : (List ByteArray)) =>
 some (.inl (out_3, wi64 (i + 1)))
 else
 some (.inr out)) ([], 0)).bind fun (out_4 : (List ByteArray)) =>
 some out_4
noncomputable def z7x (y : (List (List ByteArray))) (request : (List ByteArray)) (m : z2r) : Option (Bool) :=
 (z73).bind fun (t : Bool) =>
 bif !t then
 some false
 else
 (zfx y request).bind fun (t_1 : Bool) =>
 bif !t_1 then
 some true
 else
 (z8u y).bind fun (t_2 : (List (List ByteArray))) =>
 (z1r t_2).bind fun (r : Int × Int) =>
 (z8u y).bind fun (t_3 : (List (List ByteArray))) =>
 (z50 t_3 m).bind fun (r_1 : (List (List ByteArray)) × Int) =>
 (z8u y).bind fun (t_4 : (List (List ByteArray))) =>
 (zb5 request).bind fun (t_5 : (List ByteArray)) =>
 (z3s t_4 t_5).bind fun (r_2 : (List ByteArray) × Int) =>
 (zdq y).bind fun (r_3 : Int × Int) =>
 bif ((r.2 != r_3.2) || (r.1 != r_3.1)) then
 some false
 else
 bif (r_3.2 != 0) then
 (bif ((r_1.2 == r_3.2) && (r_2.2 == r_3.2)) then
 some ((wi64 ((List.length r_1.1 : Int) + (List.length r_2.1 : Int))) == 0)
 else some false).bind fun (c : Bool) =>
 some c
 else
 (zeu y m).bind fun (r_4 : (List (List ByteArray)) × Int) =>
 (bif (r_1.2 != r_4.2) then some true else
 (zfq r_1.1 r_4.1).bind fun (t_6 : Bool) =>
 some (!t_6)).bind fun (c_1 : Bool) =>
 bif c_1 then
 some false
 else
 (zbj y request).bind fun (t_7 : Int) =>
 bif (t_7 != 0) then
 let t_8 : Bool := ((r_2.2 == t_7) && ((List.length r_2.1 : Int) == 0))
 some t_8
 else
 (bif (r_2.2 == 0) then
 (zdr y request).bind fun (t_9 : (List ByteArray)) =>
 (zf8 r_2.1 t_9).bind fun (t_10 : Bool) =>
 some t_10
 else some false).bind fun (c_2 : Bool) =>
 some c_2
end Go.Lift
namespace Go.Lift
open Go Go.Proofs
def zx4 : Ann := (.seq .nil (.seq .nil (.seq (.seq .nil (.blk (.loopBD ⟨[⟨false, 5, 0, (.int .i64), [], false⟩], []⟩ ⟨[], []⟩ 0 .nil))) .nil)))
def znw : Ann := (.seq .nil (.seq .nil (.seq (.seq .nil (.blk (.loopBD ⟨[⟨false, 5, 0, (.int .i64), [], false⟩], []⟩ ⟨[], []⟩ 0 .nil))) .nil)))
def zm5 : Ann := .nil
def znv : Ann := (.seq .nil (.seq .nil (.seq (.seq .nil (.blk (.loopB ⟨[⟨false, 3, 0, (.slice (.slice .str)), [([], some 101000300)], false⟩, ⟨false, 4, 0, (.int .i64), [], false⟩], []⟩ ⟨[⟨false, 3, 0, (.slice (.slice .str)), [([], some 201000300)], false⟩], []⟩ 0 .nil))) .nil)))
def z9s : Ann := .nil
def zb6 : Ann := (.seq .nil (.seq (.frz 2 .nil) .nil))
def zqs : Ann := (.seq .nil (.seq (.seq .nil (.blk (.loopBD ⟨[⟨false, 5, 0, (.int .i64), [], false⟩], []⟩ ⟨[], []⟩ 0 .nil))) .nil))
def zm3 : Ann := (.seq .nil (.seq .nil (.seq .nil (.seq .nil (.seq (.seq .nil (.blk (.loopBD ⟨[⟨false, 4, 0, (.slice .str), [([], some 401000400)], false⟩, ⟨false, 5, 0, (.int .i64), [], false⟩], []⟩ ⟨[⟨false, 4, 0, (.slice .str), [([], some 801000400)], false⟩], []⟩ 0 (.seq .nil (.seq (.blk (.seq .nil (.seq .nil (.blk (.loopBD ⟨[⟨false, 4, 0, (.slice .str), [([], some 1001000400)], false⟩, ⟨false, 6, 0, (.int .i64), [], false⟩], []⟩ ⟨[⟨false, 4, 0, (.slice .str), [([], some 1101000400)], false⟩], []⟩ 2 .nil))))) .nil))))) .nil)))))
def znt : Ann := (.seq .nil (.seq .nil (.seq (.seq .nil (.blk (.loopBD ⟨[⟨false, 5, 0, (.int .i64), [], false⟩], []⟩ ⟨[], []⟩ 0 .nil))) .nil)))
def zk3 : Ann := (.seq .nil (.seq (.seq .nil (.blk (.loopBD ⟨[⟨false, 5, 0, (.int .i64), [], false⟩], []⟩ ⟨[], []⟩ 0 (.seq .nil (.seq (.blk (.seq .nil (.seq (.seq .nil (.blk (.loopB ⟨[⟨false, 6, 0, .bool, [], false⟩, ⟨false, 7, 0, (.int .i64), [], false⟩], []⟩ ⟨[⟨false, 6, 0, .bool, [], false⟩], []⟩ 2 .nil))) .nil))) .nil))))) .nil))
def zx3 : Ann := (.seq .nil (.seq (.seq .nil (.blk (.loopBD ⟨[⟨false, 5, 0, (.int .i64), [], false⟩], []⟩ ⟨[], []⟩ 0 .nil))) .nil))
def zm4 : Ann := (.seq .nil (.seq .nil (.seq (.seq .nil (.blk (.loopB ⟨[⟨false, 5, 0, (.slice .str), [([], some 2001000500)], false⟩, ⟨false, 6, 0, (.int .i64), [], false⟩], []⟩ ⟨[⟨false, 5, 0, (.slice .str), [([], some 4001000500)], false⟩], []⟩ 0 (.seq .nil (.seq (.blk (.seq .nil (.blk (.loopB ⟨[⟨false, 5, 0, (.slice .str), [([], some 4601000500)], false⟩, ⟨false, 7, 0, (.int .i64), [], false⟩], []⟩ ⟨[⟨false, 5, 0, (.slice .str), [([], some 5501000500)], false⟩], []⟩ 2 (.seq .nil (.seq (.blk (.seq .nil (.seq (.seq .nil (.blk (.loopB ⟨[⟨false, 8, 0, .bool, [], false⟩, ⟨false, 9, 0, (.int .i64), [], false⟩], [4601000500]⟩ ⟨[⟨false, 8, 0, .bool, [], false⟩], [4601000500]⟩ 4 .nil))) (.seq .nil (.join ⟨[⟨false, 5, 0, (.slice .str), [([], some 5901000500)], false⟩], []⟩ .nil .nil))))) .nil)))))) .nil))))) .nil)))
def zg4 : Ann := .nil
noncomputable abbrev zd2 : Sig := ⟨39, [(.slice (.slice .str)), z0q], [(.slice (.slice .str)), (.int .i64)], fun x => z50 x.1 x.2⟩
noncomputable abbrev zo2 : Sig := ⟨43, [(.slice (.slice .str)), z0q], [(.slice (.slice .str)), (.int .i64)], fun x => zeu x.1 x.2⟩
noncomputable abbrev zuk : Sig := ⟨98, [(.slice .str), (.int .i64)], [.bool], fun x => zf0 x.1 x.2⟩
noncomputable abbrev zni : Sig := ⟨36, [(.slice (.slice .str)), (.slice .str)], [.bool], fun x => zfx x.1 x.2⟩
noncomputable abbrev zfk : Sig := ⟨41, [(.slice .str)], [(.slice .str)], fun x => zb5 x⟩
noncomputable abbrev zhg : Sig := ⟨38, [(.slice (.slice .str))], [(.slice (.slice .str))], fun x => z8u x⟩
noncomputable abbrev z9m : Sig := ⟨149, [(.int .i64), (.ptr (.slice (.slice .str)))], [.bool], fun x => z4d x.1 x.2⟩
noncomputable abbrev zhz : Sig := ⟨101, [(.slice (.slice .str)), z0q], [(.int .i64)], fun x => z34 x.1 x.2⟩
noncomputable abbrev ziw : Sig := ⟨105, [(.slice .str), .str], [.bool], fun x => z9i x.1 x.2⟩
noncomputable abbrev zkz : Sig := ⟨42, [(.slice (.slice .str))], [(.int .i64), (.int .i64)], fun x => zdq x⟩
noncomputable abbrev znh : Sig := ⟨44, [(.slice (.slice .str)), (.slice (.slice .str))], [.bool], fun x => zfq x.1 x.2⟩
noncomputable abbrev zjw : Sig := ⟨45, [(.slice (.slice .str)), (.slice .str)], [(.int .i64)], fun x => zbj x.1 x.2⟩
noncomputable abbrev zuj : Sig := ⟨106, [(.slice .str), .str], [(.int .i64)], fun x => zgs x.1 x.2⟩
noncomputable abbrev zl0 : Sig := ⟨47, [(.slice (.slice .str)), (.slice .str)], [(.slice .str)], fun x => zdr x.1 x.2⟩
noncomputable abbrev zfh : Sig := ⟨6, [(.slice (.slice .str)), (.slice .str), z0q], [.bool], fun x => z7x x.1 x.2.1 x.2.2⟩
end Go.Lift
namespace Go.Lift
open Go Go.Proofs
theorem y7h (l : (List ByteArray)) (most : Int) : funK (cx [] []) Tryz.f98 zx4 [(.slice .str), (.int .i64)] [.bool] (l, most) = zf0 l most := by kernel_rfl
theorem zgk (n : Int) (x : (List (List ByteArray))) : funK (cx [] [z1g]) Tryz.f149 z9s [(.int .i64), (.ptr (.slice (.slice .str)))] [.bool] (n, x) = z4d n x := by kernel_rfl
theorem zy1 (a : (List (List ByteArray))) (b : (List (List ByteArray))) : funK (cx [] [ziv]) Tryz.f44 znt [(.slice (.slice .str)), (.slice (.slice .str))] [.bool] (a, b) = zfq a b := by kernel_rfl
theorem zon (y : (List (List ByteArray))) (request : (List ByteArray)) (m : z2r) : funK (cx [] [zul, zni, z8p, zhg, zd2, z8r, zfk, zkz, zo2, znh, zjw, ziv, zl0]) Tryz.f6 zg4 [(.slice (.slice .str)), (.slice .str), z0q] [.bool] (y, request, m) = z7x y request m := by kernel_rfl
end Go.Lift
namespace Go.Lift
open Go Go.Proofs
theorem zy3 (y : (List (List ByteArray))) (request : (List ByteArray)) : funK (cx [] [zuk]) Tryz.f36 znw [(.slice (.slice .str)), (.slice .str)] [.bool] (y, request) = zfx y request := by kernel_rfl
theorem zii (y : (List (List ByteArray))) (m : z2r) : funK (cx [] [z2p, z27, z9m]) Tryz.f101 zb6 [(.slice (.slice .str)), z0q] [(.int .i64)] (y, m) = z34 y m := by kernel_rfl
theorem zt3 (y : (List (List ByteArray))) (request : (List ByteArray)) : funK (cx [] [ziw]) Tryz.f45 zk3 [(.slice (.slice .str)), (.slice .str)] [(.int .i64)] (y, request) = zbj y request := by kernel_rfl
end Go.Lift
namespace Go.Lift
open Go Go.Proofs
theorem zwu (l : (List ByteArray)) : funK (cx [] []) Tryz.f41 zm5 [(.slice .str)] [(.slice .str)] l = zb5 l := by kernel_rfl
theorem y1z (l : (List ByteArray)) (s : ByteArray) : funK (cx [] []) Tryz.f105 zqs [(.slice .str), .str] [.bool] (l, s) = z9i l s := by kernel_rfl
theorem y7g (request : (List ByteArray)) (name : ByteArray) : funK (cx [] []) Tryz.f106 zx3 [(.slice .str), .str] [(.int .i64)] (request, name) = zgs request name := by kernel_rfl
end Go.Lift
namespace Go.Lift
open Go Go.Proofs
theorem zy2 (y : (List (List ByteArray))) : funK (cx [] [zfk]) Tryz.f38 znv [(.slice (.slice .str))] [(.slice (.slice .str))] y = z8u y := by kernel_rfl
theorem zws (y : (List (List ByteArray))) : funK (cx [] [zsa, ziw]) Tryz.f42 zm3 [(.slice (.slice .str))] [(.int .i64), (.int .i64)] y = zdq y := by kernel_rfl
theorem zwt (y : (List (List ByteArray))) (request : (List ByteArray)) : funK (cx [] [zuj]) Tryz.f47 zm4 [(.slice (.slice .str)), (.slice .str)] [(.slice .str)] (y, request) = zdr y request := by kernel_rfl
end Go.Lift
namespace Go.Lift
open Go Go.Proofs
set_option maxRecDepth 100000
section
variable (z5r : Has Tryz.prog zbf) (zbo : Has Tryz.prog zal) (z81 : Has Tryz.prog zbg) (z3k : Has Tryz.prog z45) (z0d : Has Tryz.prog z6f) (z0n : Has Tryz.prog z70) (z0o : Has Tryz.prog z71) (z0w : Has Tryz.prog z5h) (z0m : Has Tryz.prog z6g) (zan : Has Tryz.prog zd2) (zmq : Has Tryz.prog zo2)  
theorem ybq : Has Tryz.prog zuk :=
 z1m z04 z11 z12 z13 (own := []) all_nil (n := zx4) Tryz.func98 (by kernel_rfl) fun x => y7h x.1 x.2
theorem y1g : Has Tryz.prog zni :=
 z1m z04 z11 z12 z13 (own := []) (all_cons ybq all_nil) (n := znw) Tryz.func36 (by kernel_rfl) fun x => zy3 x.1 x.2
theorem znp : Has Tryz.prog zfk :=
 z1m z04 z11 z12 z13 (own := []) all_nil (n := zm5) Tryz.func41 (by kernel_rfl) fun x => zwu x
theorem zq2 : Has Tryz.prog zhg :=
 z1m z04 z11 z12 z13 (own := []) (all_cons znp all_nil) (n := znv) Tryz.func38 (by kernel_rfl) fun x => zy2 x
theorem zhp : Has Tryz.prog z9m :=
 z1m z04 z11 z12 z13 (own := []) (all_cons z1z all_nil) (n := z9s) Tryz.func149 (by kernel_rfl) fun x => zgk x.1 x.2
theorem zbu : Has Tryz.prog zhz :=
 z1m z04 z11 z12 z13 (own := []) (all_cons z3t (all_cons z2q (all_cons zhp all_nil))) (n := zb6) Tryz.func101 (by kernel_rfl) fun x => zii x.1 x.2
theorem zsh : Has Tryz.prog ziw :=
 z1m z04 z11 z12 z13 (own := []) all_nil (n := zqs) Tryz.func105 (by kernel_rfl) fun x => y1z x.1 x.2
theorem zxx : Has Tryz.prog zkz :=
 z1m z04 z11 z12 z13 (own := []) (all_cons y76 (all_cons zsh all_nil)) (n := zm3) Tryz.func42 (by kernel_rfl) fun x => zws x
theorem y1f : Has Tryz.prog znh :=
 z1m z04 z11 z12 z13 (own := []) (all_cons zrn all_nil) (n := znt) Tryz.func44 (by kernel_rfl) fun x => zy1 x.1 x.2
theorem zw2 : Has Tryz.prog zjw :=
 z1m z04 z11 z12 z13 (own := []) (all_cons zsh all_nil) (n := zk3) Tryz.func45 (by kernel_rfl) fun x => zt3 x.1 x.2
theorem ybp : Has Tryz.prog zuj :=
 z1m z04 z11 z12 z13 (own := []) all_nil (n := zx3) Tryz.func106 (by kernel_rfl) fun x => y7g x.1 x.2
theorem zxy : Has Tryz.prog zl0 :=
 z1m z04 z11 z12 z13 (own := []) (all_cons ybp all_nil) (n := zm4) Tryz.func47 (by kernel_rfl) fun x => zwt x.1 x.2
include z0d z0n z0o z0w z0m zan zmq in
theorem zq3 : Has Tryz.prog zfh :=
 z1m z04 z11 z12 z13 (own := []) (all_cons (ybr z0d z0n z0o z0w z0m) (all_cons y1g (all_cons z9y (all_cons zq2 (all_cons zan (all_cons (zel z0d) (all_cons znp (all_cons zxx (all_cons zmq (all_cons y1f (all_cons zw2 (all_cons zrn (all_cons zxy all_nil))))))))))))) (n := zg4) Tryz.func6 (by kernel_rfl) fun x => zon x.1 x.2.1 x.2.2
end
end Go.Lift
