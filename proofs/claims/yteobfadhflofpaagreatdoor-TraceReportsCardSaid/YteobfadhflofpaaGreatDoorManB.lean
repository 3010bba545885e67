/-
  The contract of Clone.
-/
import Derived.Test.YteobfadhflofpaaGreatDoorManA
import Derived.Shelf.SlicesE.Clone
set_option linter.unusedSectionVars false
set_option linter.unusedVariables false
set_option linter.unusedSimpArgs false
namespace Go.Proofs
open Go.Shelf Go.RowKit Go.Lib
def Tryz.laysClone_ren : Ren := ⟨fun | 41 => 200 | n => n, fun | 22 => 95 | 23 => 186 | n => n, fun | n => n⟩
theorem Tryz.laysClone : SlLaysE0.n41 Tryz.prog Tryz.laysClone_ren := {
 mixed := by kernel_rfl
 f41 := ⟨Tryz.f200.name, by decide, Tryz.func200.trans (congrArg some (by kernel_rfl))⟩
 t4 := Tryz.underlying4
 a4 := Tryz.isAgg4
 z4 := Tryz.sizeOf4
 v4 := Tryz.zeroValue4
 t22 := Tryz.underlying95
 a22 := Tryz.isAgg95
 z22 := Tryz.sizeOf95
 v22 := Tryz.zeroValue95 }
variable {P : Program} {ρ : Ren}
set_option maxHeartbeats 2000000 in
set_option maxRecDepth 100000 in
theorem clone_at (L : SlLaysE0.n41 P ρ) (i0 : TypeInfo) (z : Value) (size bytes : Nat) (hi : P.info? (ρ.t 23) = some i0) (hz0 : i0.zero = some z) (hz1 : i0.size = size) (hz2 : i0.bytes = bytes) (hzs : z.cells.size = size) (hsz : 0 < size)
  (z23 : ∀ w, (Go.sizeOf (ρ.t 23)).run P w = .ok size w) (a : Addr) (n c : Nat) (news : List Value) (w : World) (hl : news.length = n * size) (hn : n ≤ maxLen) (hbig : n * bytes ≤ 140737488355328)
  (hc : ∀ j u, news[j]? = some u → w.cell? (a.add j) = some u) (h1 : ∀ u ∈ news, u.oneCell' = true) :
  Calls P (ρ.f 41) #[.slice (some a) n c] w fun e w' => ∃ v', e = .returned v' ∧ w'.ownsRow w.heap.size (ρ.t 23) size v' n news ∧ Below w.heap.size w w' := by
 have mixed := L.mixed; have t4 := L.t4; have a4 := L.a4; have z4 := L.z4; have v4 := L.v4; have t22 := L.t22; have a22 := L.a22; have z22 := L.z22; have v22 := L.v22
 have q22 : ∀ (w : World) (a : Option Addr) (n c n' c' : Nat), (binOp .eql (ρ.t 22) (.slice a n c) (.slice none n' c')).run P w = .ok (.bool a.isNone) w := fun w a n c n' c' => Lib.run_eql_slice_nil w _ _ a n c n' c' L.t22
 have u22 : ∀ w, Sem.run P (underlying (ρ.t 22)) w = .ok (TypeDesc.slice (ρ.t 23)) w := run_underlying t22
 have A : Aside (∀ j u, news[j]? = some u → w.cell? (a.add j) = some u) := hc
 clear hc
 obtain ⟨_, _, FG⟩ := L.f41
 go_enter FG, SlBodyN.n41_ntmps ρ
 go_wp2_with (at_builtin; refine wpList_append_own _ rfl _ _ (ρ.t 22) rfl w.heap.size (ρ.t 23) i0 z size bytes t22 hi hz0 hz1 hz2 hzs hsz _ _ _ rfl (World.ownsRow_made w #[] 0 (Nat.le_refl _) (Nat.zero_le _) (by simp)) a n c news rfl ?qc1 ?qc2 ?qc3 ?qc4 ?qc5 ?qc6 ?_)
 case qc1 => exact hl
 case qc2 =>
  intro j u hj
  exact Lib.cell?_alloc_some _ (A.out j u hj)
 case qc3 => exact h1
 case qc4 => rw [Nat.zero_add]; exact hn
 case qc5 => rw [Nat.zero_add]; exact hbig
 case qc6 => simp
 intro v' w1 hown hgrow hnil
 go_wp2
 go_ret
 refine ⟨v', rfl, by simpa using hown, ?_⟩
 exact ((Below.refl _ w).alloc (Nat.le_refl _) _).grown hgrow (by simp) (by intro k hk; simp [Value.ownBlock] at hk; omega)
end Go.Proofs
namespace Go.Lift
open Go Go.Proofs Go.RowKit
theorem m_slices_Clone_uint32 : Has Tryz.prog sg_slices_Clone_uint32 := by
 refine ⟨enters_of (by kernel_rfl), fun x r hr M w vs hg hvs => ?_⟩
 obtain ⟨v, rfl, hv⟩ := hvs
 have hr : slices_Clone_uint32 x = some r := hr
 unfold slices_Clone_uint32 app at hr
 split at hr
 ·rename_i hle
  rw [List.nil_append, Option.some.injEq] at hr
  subst hr
  rw [List.length_nil, Nat.zero_add] at hle
  obtain ⟨i0, hi, hz0, hz1, hz2⟩ := info_parts (show (Tryz.prog.info? 186).map (fun i => (i.zero, i.size, i.bytes)) = some (some (.int .u32 0), 1, 4) by kernel_rfl)
  obtain ⟨v', hv1, hv2⟩ := relV_cells hv
  have hvv : v = v' := by
   have h := ofCells_cells hv
   rw [hv1] at h
   exact h.symm
  subst hvv
  have key : ∀ (a : Addr) (n cap : Nat) (news : List Value), v = .slice (some a) n cap → n = x.length → news.length = n * 1 → (∀ j u, news[j]? = some u → w.cell? (a.add j) = some u) → (∀ i (hi : i < x.length), relC Tryz.prog (.int .u32) M x[i] ((news.drop (i * 1)).take 1)) →
    CallsTo Tryz.prog 200 #[v] M w fun M' v => relR Tryz.prog M' [.slice (.int .u32)] x v := by
   rintro a n cap news rfl rfl h1 h2 h3
   refine Calls.mono (clone_at Tryz.laysClone i0 (.int .u32 0) 1 4 hi hz0 hz1 hz2 rfl (by decide) Tryz.sizeOf186 a x.length cap news w h1 (Nat.le_trans hle (by decide)) (by omega) h2 ?_) fun e w' he => ?_
   ·intro u hu
    obtain ⟨i, hi, rfl⟩ := List.getElem_of_mem hu
    have hix : i < x.length := by omega
    have h4 : ((news.drop (i * 1)).take 1) = [Value.int .u32 x[i]] := h3 i hix
    rw [Nat.mul_one, List.drop_eq_getElem_cons hi] at h4
    have h5 : news[i] = Value.int .u32 x[i] := List.head_eq_of_cons_eq h4
    rw [h5]; rfl
   ·obtain ⟨v', rfl, ho, hb⟩ := he
    obtain ⟨M', g1, g2, g3⟩ := own_out (P := Tryz.prog) (e := .int .u32) (x := x) hg hb ho h3
    exact ⟨M', v', rfl, g3, g1, g2⟩
  rcases hv2 with ⟨rfl, h0⟩ | ⟨b, off, cap, cells, rfl, h2, h3, h4, h5⟩ | ⟨a, cap, rfl, h0⟩
  ·subst h0
   refine Calls.mono (AnyE.slices_Clone_nil Tryz.laysClone 0 0 w) fun e w' he => ?_
   obtain ⟨rfl, rfl⟩ := he
   exact ⟨M, _, rfl, hv, hg, ⟨Below.refl _ _, fun _ _ => rfl⟩⟩
  ·exact key ⟨b, off, none⟩ x.length cap cells rfl rfl h3 (fun j u hj => by rw [Addr.add_mk]; exact hg.2 _ _ _ (h4 j u hj)) h5
  ·subst h0
   exact key a 0 cap [] rfl rfl rfl (fun j u hj => by simp at hj) (fun i hi => by simp at hi)
 ·cases hr
end Go.Lift
