/-
  A desk is made; MillPlants as a contract.
-/
import Derived.Test.YtkoojmbkjgbdgaaGreatDoorManA
import Derived.Shelf.SlicesE.Clone
import Derived.Test.YtkoojmbkjgbdgaaGreatDoorEntB
import Derived.Test.YtkoojmbkjgbdgaaGreatDoorManG
import Derived.Test.YtkoojmbkjgbdgaaGreatDoorDeskC
import Derived.Test.YtkoojmbkjgbdgaaGreatDoorPlainF
set_option linter.unusedSectionVars false
set_option linter.unusedVariables false
set_option linter.unusedSimpArgs false
set_option linter.unusedSectionVars false
namespace Go.Proofs
open Go.Shelf Go.RowKit Go.Lib
variable {P : Program} {ρ : Ren}
set_option maxHeartbeats 2000000 in
set_option maxRecDepth 100000 in
theorem clone_at (L : SlLaysE0.n41 P ρ) (i0 : TypeInfo) (z : Value) (size bytes : Nat) (hi : P.info? (ρ.t 23) = some i0) (hz0 : i0.zero = some z) (hz1 : i0.size = size) (hz2 : i0.bytes = bytes) (hzs : z.cells.size = size) (hsz : 0 < size)
    (z23 : ∀ w, (Go.sizeOf (ρ.t 23)).run P w = .ok size w) (a : Addr) (n c : Nat) (news : List Value) (w : World) (hl : news.length = n * size) (hn : n ≤ maxLen) (hbig : n * bytes ≤ 140737488355328)
    (hc : ∀ j u, news[j]? = some u → w.cell? (a.add j) = some u) (h1 : ∀ u ∈ news, u.oneCell' = true) :
    Calls P (ρ.f 41) #[.slice (some a) n c] w fun e w' => ∃ v', e = .returned v' ∧ w'.ownsRow w.heap.size (ρ.t 23) size v' n news ∧ Below w.heap.size w w' := by
  have mixed := L.mixed; have t4 := L.t4; have a4 := L.a4; have z4 := L.z4; have v4 := L.v4; have t22 := L.t22; have a22 := L.a22; have z22 := L.z22; have v22 := L.v22
  have q22 : ∀ (w : World) (a : Option Addr) (n c n' c' : Nat), (binOp .eql (ρ.t 22) (.slice a n c) (.slice none n' c')).run P w = .ok (.bool a.isNone) w := fun w a n c n' c' => Lib.run_eql_slice_nil w _ _ a n c n' c' L.t22
  have u22 : ∀ w, Sem.run P (underlying (ρ.t 22)) w = .ok (TypeDesc.slice (ρ.t 23)) w := run_underlying t22
  have A : Aside (∀ j u, news[j]? = some u → w.cell? (a.add j) = some u) := hc
  clear hc
  obtain ⟨_, _, FG⟩ := L.f41
  go_enter FG, SlBodyN.n41_ntmps ρ
  go_wp2_with (at_builtin; refine wpList_append_own _ rfl _ _ (ρ.t 22) rfl w.heap.size (ρ.t 23) i0 z size bytes t22 hi hz0 hz1 hz2 hzs hsz _ _ _ rfl (World.ownsRow_made w #[] 0 (Nat.le_refl _) (Nat.zero_le _) (by simp)) a n c news rfl ?qc1 ?qc2 ?qc3 ?qc4 ?qc5 ?qc6 ?_)
  case qc1 => exact hl
  case qc2 =>
    intro j u hj
    exact Lib.cell?_alloc_some _ (A.out j u hj)
  case qc3 => exact h1
  case qc4 => rw [Nat.zero_add]; exact hn
  case qc5 => rw [Nat.zero_add]; exact hbig
  case qc6 => simp
  intro v' w1 hown hgrow hnil
  go_wp2
  go_ret
  refine ⟨v', rfl, by simpa using hown, ?_⟩
  exact ((Below.refl _ w).alloc (Nat.le_refl _) _).grown hgrow (by simp) (by intro k hk; simp [Value.ownBlock] at hk; omega)
end Go.Proofs
namespace Go.Lift
open Go Go.Proofs Go.RowKit Go.Shelf
theorem clone_own {ρ : Ren} (L : SlLaysE0.n41 Tryz.prog ρ) {e : Ty} (hfit : fits Tryz.prog e (.inl (ρ.t 23)) = true) (hpl : e.plain = true) (hpos : 0 < e.size) {M : Mem} {w : World} {x : List e.den} {v : Value} (hg : Good M w) (hle : x.length ≤ 4294967296) (hv : relV Tryz.prog (.slice e) M x v) :
    CallsOwn Tryz.prog (ρ.f 41) #[v] M w e x := by
  obtain ⟨i0, d0, hI⟩ := fits_info hfit
  obtain ⟨z, hz, hzr, _⟩ := hI.zero hpl
  have hzs : z.cells.size = e.size := by have := relC_len e M _ _ (hzr M); simpa using this
  obtain ⟨v', hv1, hv2⟩ := relV_cells hv
  have hvv : v = v' := by
    have h := ofCells_cells hv
    rw [hv1] at h
    exact h.symm
  subst hvv
  have hb1 : x.length * i0.bytes ≤ 140737488355328 := by
    have := Nat.mul_le_mul hle hI.bytes
    omega
  have key : ∀ (a : Addr) (n cap : Nat) (news : List Value), v = .slice (some a) n cap → n = x.length → news.length = n * e.size → (∀ j u, news[j]? = some u → w.cell? (a.add j) = some u) → (∀ i (hi : i < x.length), relC Tryz.prog e M x[i] ((news.drop (i * e.size)).take e.size)) →
      CallsOwn Tryz.prog (ρ.f 41) #[v] M w e x := by
    rintro a n cap news rfl rfl h1 h2 h3
    refine Calls.mono (clone_at L i0 z e.size i0.bytes hI.info hz hI.size rfl hzs hpos (fun w => run_sizeOf' hI w) a x.length cap news w h1 (Nat.le_trans hle (by decide)) hb1 h2 ?_) fun e' w' he => ?_
    · intro u hu
      obtain ⟨j, hj, rfl⟩ := List.getElem_of_mem hu
      have hi : j / e.size < x.length := by rw [Nat.div_lt_iff_lt_mul hpos]; omega
      have hm := Nat.mod_add_div j e.size
      have hlt := Nat.mod_lt j hpos
      refine relC_one e _ _ (h3 _ hi) _ (List.mem_iff_getElem?.2 ⟨j % e.size, ?_⟩)
      rw [List.getElem?_take, if_pos hlt, List.getElem?_drop, show j / e.size * e.size + j % e.size = j by rw [Nat.mul_comm]; omega, List.getElem?_eq_getElem hj]
    · obtain ⟨v', rfl, ho, hb⟩ := he
      obtain ⟨M', g1, g2, g3, g4⟩ := own_out2 (P := Tryz.prog) (e := e) (x := x) hg hb ho h3
      exact ⟨M', v', rfl, g1, g2, g3, g4⟩
  rcases hv2 with ⟨rfl, h0⟩ | ⟨b, off, cap, cells, rfl, h2, h3, h4, h5⟩ | ⟨a, cap, rfl, h0⟩
  · subst h0
    refine Calls.mono (AnyE.slices_Clone_nil L 0 0 w) fun e' w' he => ?_
    obtain ⟨rfl, rfl⟩ := he
    exact ⟨M, _, rfl, hg, ⟨Below.refl _ _, fun _ _ => rfl⟩, hv, .inl rfl⟩
  · exact key ⟨b, off, none⟩ x.length cap cells rfl rfl h3 (fun j u hj => by rw [Addr.add_mk]; exact hg.2 _ _ _ (h4 j u hj)) h5
  · subst h0
    exact key a 0 cap [] rfl rfl (by simp) (fun j u hj => by simp at hj) (fun i hi => by simp at hi)
theorem app_nil {α : Type} {x r : List α} (h : app [] x = some r) : x.length ≤ 4294967296 ∧ r = x := by
  unfold app at h
  split at h
  · rename_i hle
    rw [List.nil_append, Option.some.injEq] at h
    exact ⟨by simpa using hle, h.symm⟩
  · cases h
theorem clone_has {ρ : Ren} (L : SlLaysE0.n41 Tryz.prog ρ) {e : Ty} (hfit : fits Tryz.prog e (.inl (ρ.t 23)) = true) (hpl : e.plain = true) (hpos : 0 < e.size) {f : FuncId} (hf : ρ.f 41 = f) (he : entersB Tryz.prog f = true) :
    Has Tryz.prog ⟨f, [.slice e], [.slice e], fun x => app [] x⟩ := by
  subst hf
  refine ⟨enters_of he, fun x r hr M w vs hg hvs => ?_⟩
  obtain ⟨v, rfl, hv⟩ := hvs
  obtain ⟨hle, rfl⟩ := app_nil hr
  exact (clone_own L hfit hpl hpos hg hle hv).calls
end Go.Lift
namespace Go.Proofs
def Tryz.laysClone_f30_ren : Go.Shelf.Ren := ⟨fun | 41 => 30 | n => n, fun | 22 => 22 | 23 => 73 | 4 => 4 | n => n, fun | n => n⟩
theorem Tryz.laysClone_f30 : Go.Proofs.SlLaysE0.n41 Tryz.prog Tryz.laysClone_f30_ren := {
  mixed := by kernel_rfl
  f41 := ⟨Tryz.f30.name, by decide, Tryz.func30.trans (congrArg some (by kernel_rfl))⟩
  t4 := Tryz.underlying4
  a4 := Tryz.isAgg4
  z4 := Tryz.sizeOf4
  v4 := Tryz.zeroValue4
  t22 := Tryz.underlying22
  a22 := Tryz.isAgg22
  z22 := Tryz.sizeOf22
  v22 := Tryz.zeroValue22 }
def Tryz.laysClone_f31_ren : Go.Shelf.Ren := ⟨fun | 41 => 31 | n => n, fun | 22 => 23 | 23 => 9 | 4 => 4 | n => n, fun | n => n⟩
theorem Tryz.laysClone_f31 : Go.Proofs.SlLaysE0.n41 Tryz.prog Tryz.laysClone_f31_ren := {
  mixed := by kernel_rfl
  f41 := ⟨Tryz.f31.name, by decide, Tryz.func31.trans (congrArg some (by kernel_rfl))⟩
  t4 := Tryz.underlying4
  a4 := Tryz.isAgg4
  z4 := Tryz.sizeOf4
  v4 := Tryz.zeroValue4
  t22 := Tryz.underlying23
  a22 := Tryz.isAgg23
  z22 := Tryz.sizeOf23
  v22 := Tryz.zeroValue23 }
end Go.Proofs
namespace Go.Lift
open Go Go.Proofs Go.RowKit Go.Shelf
abbrev sg_clone30 : Sig := ⟨30, [.slice Tapi_MillPerson], [.slice Tapi_MillPerson], fun x => app [] x⟩
abbrev sg_clone31 : Sig := ⟨31, [.slice .str], [.slice .str], fun x => app [] x⟩
theorem m_clone30 : Has Tryz.prog sg_clone30 := clone_has Tryz.laysClone_f30 (e := Tapi_MillPerson) (by kernel_rfl) rfl (by decide) rfl (by kernel_rfl)
theorem m_clone31 : Has Tryz.prog sg_clone31 := clone_has Tryz.laysClone_f31 (e := .str) (by kernel_rfl) rfl (by decide) rfl (by kernel_rfl)
end Go.Lift
set_option linter.unusedSectionVars false
set_option linter.unusedSimpArgs false
set_option linter.unusedVariables false
namespace Go.Lift
open Go Go.Proofs Go.RowKit Go.Shelf
attribute [local go_sem] Oper.semAt_some run_store_func
theorem slice_val {M : Mem} {e : Ty} {x : List e.den} {v : Value} (h : relV Tryz.prog (.slice e) M x v) : ∃ a n c, v = .slice a n c := by
  obtain ⟨v', h1, h2⟩ := relV_cells h
  have hvv : v = v' := by
    have h := ofCells_cells h
    rw [h1] at h
    exact h.symm
  subst hvv
  rcases h2 with ⟨rfl, _⟩ | ⟨_, _, _, _, rfl, _⟩ | ⟨_, _, rfl, _⟩ <;> exact ⟨_, _, _, rfl⟩
theorem plant_parts {M : Mem} {p : Dapi_MillPlant} {v : Value} (hv : relV Tryz.prog Tapi_MillPlant M p v) : ∃ p0 n0 c0 p1 n1 c1, v = .agg #[.slice p0 n0 c0, .slice p1 n1 c1, .string p.2.2.1, .string p.2.2.2] ∧ relV Tryz.prog (.slice Tapi_MillPerson) M p.1 (.slice p0 n0 c0) ∧ relV Tryz.prog (.slice .str) M p.2.1 (.slice p1 n1 c1) := by
  obtain ⟨⟨cells⟩, rfl, h⟩ := hv
  have hlen := relC_len Tapi_MillPlant M _ _ h
  match cells, hlen with
  | [a, b, c, d], _ =>
    obtain ⟨h0, h1, h2, h3⟩ := h
    have e2 : [c] = [Value.string p.2.2.1] := h2
    have e3 : [d] = [Value.string p.2.2.2] := h3
    simp only [List.cons.injEq, and_true] at e2 e3
    subst e2 e3
    have h0 : relV Tryz.prog (.slice Tapi_MillPerson) M p.1 a := h0
    have h1 : relV Tryz.prog (.slice .str) M p.2.1 b := h1
    obtain ⟨p0, n0, c0, rfl⟩ := slice_val h0
    obtain ⟨p1, n1, c1, rfl⟩ := slice_val h1
    exact ⟨p0, n0, c0, p1, n1, c1, rfl, h0, h1⟩
theorem clone_calls {f : FuncId} {e : Ty} (hm : Has Tryz.prog ⟨f, [.slice e], [.slice e], fun x => app [] x⟩) {M : Mem} {w : World} (hg : Good M w) {x : List e.den} (hx : x.length ≤ 4294967296) {v : Value} (hv : relV Tryz.prog (.slice e) M x v) :
    Calls Tryz.prog f #[v] w fun r w' => Below w.heap.size w w' ∧ ∃ a n c, r = .returned (.slice a n c) := by
  refine Calls.mono (hm.2 x x (by show app [] x = some x; unfold app; rw [if_pos (by simpa using hx)]; rfl) M w [v] hg ⟨_, rfl, hv⟩) ?_
  rintro r w' ⟨M', v', rfl, hv', _, hgr⟩
  obtain ⟨a, n, c, rfl⟩ := slice_val hv'
  exact ⟨hgr.below, a, n, c, rfl⟩
theorem check8 {M : Mem} {w : World} (hg : Good M w) {p : Dapi_MillPlant} {v : Value} (hv : relV Tryz.prog Tapi_MillPlant M p v) {e : Int × Int} (he : mill_CheckPlant p = some e) : Calls Tryz.prog 8 #[v] w fun r w' => Below w.heap.size w w' ∧ r = .returned (.tuple #[.int .i64 e.1, .int .i64 e.2]) := by
  refine Calls.mono ((h_mill_CheckPlant m_pass_ParseRules m_model_ParseRules).2 p _ he M w [v] hg ⟨_, rfl, hv⟩) ?_
  rintro e' w' ⟨M', v', rfl, ⟨⟨vl⟩, rfl, u1, rs, e1, hu1, u2, rfl, hu2⟩, hg', hgr'⟩
  obtain rfl := relV_int.1 hu1
  obtain rfl := relV_int.1 hu2
  replace e1 : vl = [_, _] := e1
  subst e1
  exact ⟨hgr'.below, rfl⟩
set_option maxHeartbeats 8000000 in
set_option maxRecDepth 100000 in
theorem new10 {M : Mem} {w : World} (hg : Good M w) {p : Dapi_MillPlant} {v : Value} (hv : relV Tryz.prog Tapi_MillPlant M p v) {e : Int × Int} (he : mill_CheckPlant p = some e) (h1 : p.1.length ≤ 4294967296) (h2 : p.2.1.length ≤ 4294967296) :
    Calls Tryz.prog 10 #[v] w fun r w' => Below w.heap.size w w' ∧ ∃ a : Option Addr, r = .returned (.tuple #[.pointer a, .int .i64 e.2]) ∧ (a.isSome = decide (e.2 = 0)) := by
  obtain ⟨p0, n0, c0, p1, n1, c1, rfl, k0, k1⟩ := plant_parts hv
  obtain ⟨w0, hw0⟩ : ∃ w0, w.alloc (.cells #[.slice p0 n0 c0, .slice p1 n1 c1, .string p.2.2.1, .string p.2.2.2] 25) = w0 := ⟨_, rfl⟩
  have hb0 : Below w.heap.size w w0 := by rw [← hw0]; exact below_new w _
  have hc0 : w0.heap[w.heap.size]? = some (.cells #[.slice p0 n0 c0, .slice p1 n1 c1, .string p.2.2.1, .string p.2.2.2] 25 (0, 0)) := by rw [← hw0]; exact World.alloc_heap_new w _
  have q0 : w0.cell? ⟨w.heap.size, 0, none⟩ = some (.slice p0 n0 c0) := cell_at hc0 rfl
  have q1 : w0.cell? ⟨w.heap.size, 1, none⟩ = some (.slice p1 n1 c1) := cell_at hc0 rfl
  have q2 : w0.cell? ⟨w.heap.size, 2, none⟩ = some (.string p.2.2.1) := cell_at hc0 rfl
  have q3 : w0.cell? ⟨w.heap.size, 3, none⟩ = some (.string p.2.2.2) := cell_at hc0 rfl
  have hck := check8 (good_below hg hb0) hv he
  have h30 := fun W (hW : Below w.heap.size w W) => clone_calls m_clone30 (good_below hg hW) h1 k0
  have h31 := fun W (hW : Below w.heap.size w W) => clone_calls m_clone31 (good_below hg hW) h2 k1
  have facts : ∀ W, Below w0.heap.size w0 W → W.cell? ⟨w.heap.size, 0, none⟩ = some (.slice p0 n0 c0) ∧ W.cell? ⟨w.heap.size, 1, none⟩ = some (.slice p1 n1 c1) ∧ W.cell? ⟨w.heap.size, 2, none⟩ = some (.string p.2.2.1) ∧ W.cell? ⟨w.heap.size, 3, none⟩ = some (.string p.2.2.2) ∧ W.frozen? ⟨w.heap.size, 0, none⟩ = false ∧ W.frozen? ⟨w.heap.size, 1, none⟩ = false := fun W hW =>
    have hh := (hW.block _ (Array.getElem?_eq_some_iff.1 hc0).1).trans hc0
    ⟨cell_at hh rfl, cell_at hh rfl, cell_at hh rfl, cell_at hh rfl, frozen_at hh, frozen_at hh⟩
  by_cases h0 : e.2 = 0
  rotate_left
  · have hne : (e.2 != 0) = true := bne_iff_ne.2 h0
    go_enter Tryz.func10, Tryz.ntmps10
    go_wp2_with (go_at_call 8; refine Calls.mono hck ?_; clear hck; rintro e' w1 ⟨hb1, rfl⟩)
    go_ret2
    exact ⟨below_trans hb0 hb1, none, rfl, by rw [decide_eq_false h0]; rfl⟩
  · go_enter Tryz.func10, Tryz.ntmps10
    go_wp2_with (go_at_call 8; refine Calls.mono hck ?_; clear hck; rintro e' w1 ⟨hb1, rfl⟩)
    have hbd : Below w0.heap.size w0 w1.drew := below_trans hb1 (below_drew _)
    obtain ⟨g0, g1, g2, g3, f0, f1⟩ := facts _ hbd
    go_region_with (first | (go_at_call 30; refine Calls.mono (h30 _ (below_trans hb0 hbd)) ?_; rintro e' w2 ⟨hb2, a2, n2, c2, rfl⟩; have hB2 := below_trans hbd hb2; obtain ⟨g0, g1, g2, g3, f0, f1⟩ := facts _ hB2) | (go_at_call 31; refine Calls.mono (h31 _ (below_trans hb0 hB2)) ?_; rintro e' w3 ⟨hb3, a3, n3, c3, rfl⟩; have hB3 := below_trans hB2 hb3; obtain ⟨g0, g1, g2, g3, f0, f1⟩ := facts _ hB3))
    all_goals
      have hh3 := (hB3.block _ (Array.getElem?_eq_some_iff.1 hc0).1).trans hc0
      have s1 := setCell_at (off := 0) (v := .slice a2 n2 c2) hh3
      have s2 := setCell_at (off := 1) (v := .slice a3 n3 c3) s1
      obtain ⟨w4, hw4⟩ : ∃ w4, (w3.setCell ⟨w.heap.size, 0, none⟩ (.slice a2 n2 c2)).setCell ⟨w.heap.size, 1, none⟩ (.slice a3 n3 c3) = w4 := ⟨_, rfl⟩
      have hgr : Below w.heap.size w w4 := by
        rw [← hw4]
        have hb := below_trans hb0 hB3
        exact ⟨hb.os, hb.tape, hb.output, by simpa [World.setCell] using hb.size, fun k hk => by
          have := hb.size
          refine (setCell_grown.block k ?_ (by simp; omega)).trans ((setCell_grown.block k ?_ (by simp; omega)).trans (hb.block k hk)) <;> first | omega | (simp [World.setCell]; omega)⟩
      rw [hw4] at s2 ⊢
      have k0 := cell_at (o := 0) (v := .slice a2 n2 c2) s2 rfl
      have k1 := cell_at (o := 1) (v := .slice a3 n3 c3) s2 rfl
      have k2 := cell_at (o := 2) (v := .string p.2.2.1) s2 rfl
      have k3 := cell_at (o := 3) (v := .string p.2.2.2) s2 rfl
      clear facts h30 h31
      go_wp2
      go_ret2
      refine ⟨below_trans hgr (below_new _ _), some ⟨w4.heap.size, 0, none⟩, ?_, ?_⟩
      · rw [h0]; rfl
      · rw [h0]; rfl
end Go.Lift
set_option linter.unusedSectionVars false
set_option linter.unusedSimpArgs false
set_option linter.unusedVariables false
namespace Go.Lift
open Go Go.Proofs Go.RowKit Go.Shelf
attribute [local go_sem] Oper.semAt_some run_store_func
theorem few7 {M : Mem} {w : World} (hg : Good M w) {p : Dapi_MillPlant} {v : Value} (hv : relV Tryz.prog Tapi_MillPlant M p v) {b : Bool} (he : cobblelaw10_Few p = some b) : Calls Tryz.prog 7 #[v] w fun r w' => Below w.heap.size w w' ∧ r = .returned (.bool b) := by
  refine Calls.mono (h_cobblelaw10_Few.2 p _ he M w [v] hg ⟨_, rfl, hv⟩) ?_
  rintro e' w' ⟨M', v', rfl, hv', hg', hgr'⟩
  obtain rfl := relV_bool.1 hv'
  exact ⟨hgr'.below, rfl⟩
def CopyP (w : World) (p : Dapi_MillPlant) (v : Value) : Prop := ∃ M, Good M w ∧ relV Tryz.prog Tapi_MillPlant M p v
theorem copy9 {M : Mem} {w : World} (hg : Good M w) {p : Dapi_MillPlant} {v : Value} (hv : relV Tryz.prog Tapi_MillPlant M p v) (he : cobbleref10_CopyPlant p = some p) : Calls Tryz.prog 9 #[v] w fun r w' => Below w.heap.size w w' ∧ ∃ v', r = .returned v' ∧ CopyP w' p v' := by
  refine Calls.mono (h_cobbleref10_CopyPlant.2 p _ he M w [v] hg ⟨_, rfl, hv⟩) ?_
  rintro e' w' ⟨M', v', rfl, hv', hg', hgr'⟩
  exact ⟨hgr'.below, v', rfl, M', hg', hv'⟩
theorem ref11 {M : Mem} {w : World} (hg : Good M w) {p : Dapi_MillPlant} {v : Value} (hv : relV Tryz.prog Tapi_MillPlant M p v) {e : Int × Int} (he : cobbleref10_CheckPlant p = some e) : Calls Tryz.prog 11 #[v] w fun r w' => Below w.heap.size w w' ∧ r = .returned (.tuple #[.int .i64 e.1, .int .i64 e.2]) := by
  refine Calls.mono (h_cobbleref10_CheckPlant.2 p _ he M w [v] hg ⟨_, rfl, hv⟩) ?_
  rintro e' w' ⟨M', v', rfl, ⟨⟨vl⟩, rfl, u1, rs, e1, hu1, u2, rfl, hu2⟩, hg', hgr'⟩
  obtain rfl := relV_int.1 hu1
  obtain rfl := relV_int.1 hu2
  replace e1 : vl = [_, _] := e1
  subst e1
  exact ⟨hgr'.below, rfl⟩
set_option maxHeartbeats 8000000 in
set_option maxRecDepth 100000 in
theorem plants_law {M : Mem} {w : World} (hg : Good M w) {p : Dapi_MillPlant} {v : Value} (hv : relV Tryz.prog Tapi_MillPlant M p v) : Calls Tryz.prog 3 #[v] w fun e w' => Below w.heap.size w w' ∧ e = .returned (.bool true) := by
  obtain ⟨p0, n0, c0, p1, n1, c1, rfl, k0, k1⟩ := plant_parts hv
  obtain ⟨w0, hw0⟩ : ∃ w0, w.alloc (.cells #[.slice p0 n0 c0, .slice p1 n1 c1, .string p.2.2.1, .string p.2.2.2] 25) = w0 := ⟨_, rfl⟩
  have hb0 : Below w.heap.size w w0 := by rw [← hw0]; exact below_new w _
  have hc0 : w0.heap[w.heap.size]? = some (.cells #[.slice p0 n0 c0, .slice p1 n1 c1, .string p.2.2.1, .string p.2.2.2] 25 (0, 0)) := by rw [← hw0]; exact World.alloc_heap_new w _
  have facts : ∀ W, Below w0.heap.size w0 W → W.cell? ⟨w.heap.size, 0, none⟩ = some (.slice p0 n0 c0) ∧ W.cell? ⟨w.heap.size, 1, none⟩ = some (.slice p1 n1 c1) ∧ W.cell? ⟨w.heap.size, 2, none⟩ = some (.string p.2.2.1) ∧ W.cell? ⟨w.heap.size, 3, none⟩ = some (.string p.2.2.2) := fun W hW =>
    have hh := (hW.block _ (Array.getElem?_eq_some_iff.1 hc0).1).trans hc0
    ⟨cell_at hh rfl, cell_at hh rfl, cell_at hh rfl, cell_at hh rfl⟩
  have ha := awake6 (good_below hg hb0)
  obtain ⟨b, hb, hfew⟩ := Few_ok p
  have hf := fun W (hW : Below w.heap.size w W) => few7 (good_below hg hW) hv hb
  cases b with
  | false =>
    go_enter Tryz.func3, Tryz.ntmps3
    go_wp2_with (first | (go_at_call 6; refine Calls.mono ha ?_; clear ha; rintro e w1 ⟨hb1, rfl⟩; obtain ⟨g0, g1, g2, g3⟩ := facts w1 hb1) | (go_at_call 7; refine Calls.mono (hf w1 (below_trans hb0 hb1)) ?_; clear hf; rintro e w2 ⟨hb2, rfl⟩))
    go_ret
    exact ⟨below_trans (below_trans hb0 hb1) hb2, rfl⟩
  | true =>
    obtain ⟨hfp, h1, h2⟩ := hfew rfl
    obtain ⟨z, z1, z2⟩ := plant_both hfp
    have hcp := fun W (hW : Below w.heap.size w W) => copy9 (good_below hg hW) hv (Copy_ok (by omega) (by omega))
    have hrf := fun W (hW : Below w.heap.size w W) => ref11 (good_below hg hW) hv z2
    have h8 : ∀ W v, CopyP W p v → Calls Tryz.prog 8 #[v] W fun r w' => Below W.heap.size W w' ∧ r = .returned (.tuple #[.int .i64 z.1, .int .i64 z.2]) := fun W v ⟨M', a, b⟩ => check8 a b z1
    have h10 : ∀ W v, CopyP W p v → Calls Tryz.prog 10 #[v] W fun r w' => Below W.heap.size W w' ∧ ∃ a : Option Addr, r = .returned (.tuple #[.pointer a, .int .i64 z.2]) ∧ (a.isSome = decide (z.2 = 0)) := fun W v ⟨M', a, b⟩ => new10 a b z1 (by omega) (by omega)
    go_enter Tryz.func3, Tryz.ntmps3
    go_wp2_with (first | (go_at_call 6; refine Calls.mono ha ?_; clear ha; rintro e w1 ⟨hb1, rfl⟩; obtain ⟨g0, g1, g2, g3⟩ := facts w1 hb1) | (go_at_call 7; refine Calls.mono (hf w1 (below_trans hb0 hb1)) ?_; clear hf; rintro e w2 ⟨hb2, rfl⟩; have hB2 := below_trans hb1 hb2; obtain ⟨g0, g1, g2, g3⟩ := facts w2 hB2) | (go_at_call 8; refine Calls.mono (h8 _ _ hp3) ?_; clear h8; rintro e w4 ⟨hb4, rfl⟩; have hB4 := below_trans hB3 hb4; obtain ⟨g0, g1, g2, g3⟩ := facts w4 hB4) | (go_at_call 10; refine Calls.mono (h10 _ _ hp5) ?_; clear h10; rintro e w6 ⟨hb6, a6, rfl, ha6⟩; have hB6 := below_trans hB5 hb6; obtain ⟨g0, g1, g2, g3⟩ := facts w6 hB6) | (go_at_call 9; refine Calls.mono (hcp w4 (below_trans hb0 hB4)) ?_; clear hcp; rintro e w5 ⟨hb5, v5, rfl, hp5⟩; have hB5 := below_trans hB4 hb5) | (go_at_call 9; refine Calls.mono (hcp w2 (below_trans hb0 hB2)) ?_; rintro e w3 ⟨hb3, v3, rfl, hp3⟩; have hB3 := below_trans hB2 hb3) | (go_at_call 11; refine Calls.mono (hrf w6 (below_trans hb0 hB6)) ?_; clear hrf; rintro e w7 ⟨hb7, rfl⟩))
    have hz : (decide (z.2 = 0) == (z.2 == 0)) = true := by by_cases h : z.2 = 0 <;> simp [h]
    go_ret
    refine ⟨below_trans (below_trans hb0 hB6) hb7, ?_⟩
    show Ending.returned (Value.bool (decide (z.2 = 0) == (z.2 == 0))) = _
    rw [hz]
noncomputable abbrev sg_plants : Sig := ⟨3, [Tapi_MillPlant], [.bool], fun _ => some true⟩
theorem m_plants : Has Tryz.prog sg_plants := by
  refine ⟨enters_of (by kernel_rfl), fun x r hr M w vs hg hvs => ?_⟩
  obtain ⟨v1, rfl, h1⟩ := hvs
  have hr : true = r := Option.some.inj hr
  subst hr
  refine Calls.mono (plants_law hg h1) ?_
  rintro e w' ⟨hb, rfl⟩
  exact ⟨M, _, rfl, relV_bool.2 rfl, good_below hg hb, hb, fun _ _ => rfl⟩
end Go.Lift
