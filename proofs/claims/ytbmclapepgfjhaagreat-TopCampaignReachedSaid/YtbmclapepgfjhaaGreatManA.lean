/-
  The contracts of the library's functions on strings and slices.
-/
import Derived.Test.YtbmclapepgfjhaaGreatFunG
import Derived.Shelf.SlicesE.Clone
set_option linter.unusedSectionVars false
set_option linter.unusedVariables false
set_option linter.unusedSimpArgs false
namespace Go.Proofs
open Go.Shelf Go.RowKit Go.Lib
variable {P : Program} {ρ : Ren}
set_option maxHeartbeats 2000000 in
set_option maxRecDepth 100000 in
theorem clone_at (L : SlLaysE0.n41 P ρ) (i0 : TypeInfo) (z : Value) (size bytes : Nat) (hi : P.info? (ρ.t 23) = some i0) (hz0 : i0.zero = some z) (hz1 : i0.size = size) (hz2 : i0.bytes = bytes) (hzs : z.cells.size = size) (hsz : 0 < size)
  (z23 : ∀ w, (Go.sizeOf (ρ.t 23)).run P w = .ok size w) (a : Addr) (n c : Nat) (news : List Value) (w : World) (hl : news.length = n * size) (hn : n ≤ maxLen) (hbig : n * bytes ≤ 140737488355328)
  (hc : ∀ j u, news[j]? = some u → w.cell? (a.add j) = some u) (h1 : ∀ u ∈ news, u.oneCell' = true) :
  Calls P (ρ.f 41) #[.slice (some a) n c] w fun e w' => ∃ v', e = .returned v' ∧ w'.ownsRow w.heap.size (ρ.t 23) size v' n news ∧ Below w.heap.size w w' := by
 have mixed := L.mixed; have t4 := L.t4; have a4 := L.a4; have z4 := L.z4; have v4 := L.v4; have t22 := L.t22; have a22 := L.a22; have z22 := L.z22; have v22 := L.v22
 have q22 : ∀ (w : World) (a : Option Addr) (n c n' c' : Nat), (binOp .eql (ρ.t 22) (.slice a n c) (.slice none n' c')).run P w = .ok (.bool a.isNone) w := fun w a n c n' c' => Lib.run_eql_slice_nil w _ _ a n c n' c' L.t22
 have u22 : ∀ w, Sem.run P (underlying (ρ.t 22)) w = .ok (TypeDesc.slice (ρ.t 23)) w := run_underlying t22
 have A : Aside (∀ j u, news[j]? = some u → w.cell? (a.add j) = some u) := hc
 clear hc
 obtain ⟨_, _, FG⟩ := L.f41
 go_enter FG, SlBodyN.n41_ntmps ρ
 go_wp2_with (at_builtin; refine wpList_append_own _ rfl _ _ (ρ.t 22) rfl w.heap.size (ρ.t 23) i0 z size bytes t22 hi hz0 hz1 hz2 hzs hsz _ _ _ rfl (World.ownsRow_made w #[] 0 (Nat.le_refl _) (Nat.zero_le _) (by simp)) a n c news rfl ?qc1 ?qc2 ?qc3 ?qc4 ?qc5 ?qc6 ?_)
 case qc1 => exact hl
 case qc2 =>
  intro j u hj
  exact Lib.cell?_alloc_some _ (A.out j u hj)
 case qc3 => exact h1
 case qc4 => rw [Nat.zero_add]; exact hn
 case qc5 => rw [Nat.zero_add]; exact hbig
 case qc6 => simp
 intro v' w1 hown hgrow hnil
 go_wp2
 go_ret
 refine ⟨v', rfl, by simpa using hown, ?_⟩
 exact ((Below.refl _ w).alloc (Nat.le_refl _) _).grown hgrow (by simp) (by intro k hk; simp [Value.ownBlock] at hk; omega)
end Go.Proofs
namespace Go.Lift
open Go Go.Proofs Go.RowKit Go.Shelf
theorem zun {ρ : Ren} (L : SlLaysE0.n41 Tryz.prog ρ) {e : Ty} (hfit : fits Tryz.prog e (.inl (ρ.t 23)) = true) (hpl : e.plain = true) (hpos : 0 < e.size) {M : Mem} {w : World} {x : List e.den} {v : Value} (hg : Good M w) (hle : x.length ≤ 4294967296) (hv : relV Tryz.prog (.slice e) M x v) :
  z89 Tryz.prog (ρ.f 41) #[v] M w e x := by
 obtain ⟨i0, d0, hI⟩ := z0o hfit
 obtain ⟨z, hz, hzr, _⟩ := hI.zero hpl
 have hzs : z.cells.size = e.size := by have := z0s e M _ _ (hzr M); simpa using this
 obtain ⟨v', hv1, hv2⟩ := z3l hv
 have hvv : v = v' := by
  have h := zff hv
  rw [hv1] at h
  exact h.symm
 subst hvv
 have hb1 : x.length * i0.bytes ≤ 140737488355328 := by
  have := Nat.mul_le_mul hle hI.bytes
  omega
 have key : ∀ (a : Addr) (n cap : Nat) (news : List Value), v = .slice (some a) n cap → n = x.length → news.length = n * e.size → (∀ j u, news[j]? = some u → w.cell? (a.add j) = some u) → (∀ i (hi : i < x.length), relC Tryz.prog e M x[i] ((news.drop (i * e.size)).take e.size)) →
   z89 Tryz.prog (ρ.f 41) #[v] M w e x := by
  rintro a n cap news rfl rfl h1 h2 h3
  refine Calls.mono (clone_at L i0 z e.size i0.bytes hI.info hz hI.size rfl hzs hpos (fun w => z1c hI w) a x.length cap news w h1 (Nat.le_trans hle (by decide)) hb1 h2 ?_) fun e' w' he => ?_
  ·intro u hu
   obtain ⟨j, hj, rfl⟩ := List.getElem_of_mem hu
   have hi : j / e.size < x.length := by rw [Nat.div_lt_iff_lt_mul hpos]; omega
   have hm := Nat.mod_add_div j e.size
   have hlt := Nat.mod_lt j hpos
   refine zdr e _ _ (h3 _ hi) _ (List.mem_iff_getElem?.2 ⟨j % e.size, ?_⟩)
   rw [List.getElem?_take, if_pos hlt, List.getElem?_drop, show j / e.size * e.size + j % e.size = j by rw [Nat.mul_comm]; omega, List.getElem?_eq_getElem hj]
  ·obtain ⟨v', rfl, ho, hb⟩ := he
   obtain ⟨M', g1, g2, g3, g4⟩ := y46 (P := Tryz.prog) (e := e) (x := x) hg hb ho h3
   exact ⟨M', v', rfl, g1, g2, g3, g4⟩
 rcases hv2 with ⟨rfl, h0⟩ | ⟨b, off, cap, cells, rfl, h2, h3, h4, h5⟩ | ⟨a, cap, rfl, h0⟩
 ·subst h0
  refine Calls.mono (AnyE.slices_Clone_nil L 0 0 w) fun e' w' he => ?_
  obtain ⟨rfl, rfl⟩ := he
  exact ⟨M, _, rfl, hg, ⟨Below.refl _ _, fun _ _ => rfl⟩, hv, .inl rfl⟩
 ·exact key ⟨b, off, none⟩ x.length cap cells rfl rfl h3 (fun j u hj => by rw [Addr.add_mk]; exact hg.2 _ _ _ (h4 j u hj)) h5
 ·subst h0
  exact key a 0 cap [] rfl rfl (by simp) (fun j u hj => by simp at hj) (fun i hi => by simp at hi)
theorem y33 {α : Type} {x r : List α} (h : app [] x = some r) : x.length ≤ 4294967296 ∧ r = x := by
 unfold app at h
 split at h
 ·rename_i hle
  rw [List.nil_append, Option.some.injEq] at h
  exact ⟨by simpa using hle, h.symm⟩
 ·cases h
theorem zuo {ρ : Ren} (L : SlLaysE0.n41 Tryz.prog ρ) {e : Ty} (hfit : fits Tryz.prog e (.inl (ρ.t 23)) = true) (hpl : e.plain = true) (hpos : 0 < e.size) {f : FuncId} (hf : ρ.f 41 = f) (he : zp3 Tryz.prog f = true) :
  Has Tryz.prog ⟨f, [.slice e], [.slice e], fun x => app [] x⟩ := by
 subst hf
 refine ⟨enters_of he, fun x r hr M w vs hg hvs => ?_⟩
 obtain ⟨v, rfl, hv⟩ := hvs
 obtain ⟨hle, rfl⟩ := y33 hr
 exact (zun L hfit hpl hpos hg hle hv).calls
theorem y2w {ρ : Ren} (L : SlLaysE0.n41 Tryz.prog ρ) {e : Ty} (hfit : fits Tryz.prog e (.inl (ρ.t 23)) = true) (hpl : e.plain = true) (hpos : 0 < e.size) {f : FuncId} (hf : ρ.f 41 = f) :
  FCo Tryz.prog ⟨f, [.slice e], [.slice e], fun x => app [] x⟩ := by
 subst hf
 intro e' x l hl M w vs hg hvs
 obtain ⟨v, rfl, hv⟩ := hvs
 unfold Sig.listRun at hl
 split at hl
 ·rename_i h
  injection h with h
  injection h with h
  subst h
  obtain ⟨hle, rfl⟩ := y33 hl
  exact zun L hfit hpl hpos hg hle hv
 ·cases hl
theorem z08 : Has Tryz.prog z60 := zuo Tryz.laysSlE041_f108 (e := .str) (by kernel_rfl) rfl (by decide) rfl (by kernel_rfl)
end Go.Lift
