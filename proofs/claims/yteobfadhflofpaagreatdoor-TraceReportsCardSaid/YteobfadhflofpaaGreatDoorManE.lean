/-
  The contract of the search for explanations.
-/
import Derived.Test.YteobfadhflofpaaGreatDoorManD
import Derived.Test.YteobfadhflofpaaGreatDoorFunH
set_option linter.unusedSectionVars false
set_option linter.unusedVariables false
set_option linter.unusedSimpArgs false
namespace Go.Lift
open Go Go.Proofs Go.RowKit
attribute [local go_sem] Oper.semAt_some
theorem cok44 : COk Tryz.prog (cx [] [sg_bits_OnesCount, sg_trace_evidence_firstWrong]) := cok_of tys_ok nfs_ok eqs_ok (all_cons h_bits_OnesCount (all_cons h_trace_evidence_firstWrong all_nil))
theorem evidence_cells {M : Mem} {v : Dtrace_evidence} {u : Value} (h : relV Tryz.prog Ttrace_evidence M v u) : ∃ s1 s2, u = .agg #[.int .i64 v.1, s1, s2] ∧ relC Tryz.prog Ttrace_evidence M v [.int .i64 v.1, s1, s2] := by
 obtain ⟨cs, rfl, hc⟩ := h
 have hlen := relC_len Ttrace_evidence M v cs.toList hc
 have hlen : cs.toList.length = 3 := hlen
 obtain ⟨c, hcl⟩ : ∃ c, cs.toList = c := ⟨_, rfl⟩
 rw [hcl] at hc hlen
 match c, hlen with
 | [x, s1, s2], _ =>
  have h1 : [x] = [Value.int .i64 v.1] := hc.1
  simp only [List.cons.injEq, and_true] at h1
  subst h1
  refine ⟨s1, s2, ?_, hc⟩
  congr 1
  exact Array.ext' hcl
theorem isC_eq (o : Obj) : isC o = o.isCells := by cases o <;> rfl
theorem inv44_start {M : Mem} {w : World} {v : Dtrace_evidence} {s1 s2 : Value} (r : Int) (hg : Good M w) (hvc : relC Tryz.prog Ttrace_evidence M v [.int .i64 v.1, s1, s2]) :
  Inv44 w M v r [] ((((w.alloc (.cells #[.int .i64 v.1, s1, s2] 132)).alloc (.cells #[.int .u64 r] 137)).alloc (.cells #[.slice none 0 0] 129)).alloc (.cells #[.int .i64 v.1] 3)) := by
 obtain ⟨W1, hW1⟩ : ∃ W1, w.alloc (.cells #[.int .i64 v.1, s1, s2] 132) = W1 := ⟨_, rfl⟩
 obtain ⟨W2, hW2⟩ : ∃ W2, W1.alloc (.cells #[.int .u64 r] 137) = W2 := ⟨_, rfl⟩
 obtain ⟨W3, hW3⟩ : ∃ W3, W2.alloc (.cells #[.slice none 0 0] 129) = W3 := ⟨_, rfl⟩
 obtain ⟨W4, hW4⟩ : ∃ W4, W3.alloc (.cells #[.int .i64 v.1] 3) = W4 := ⟨_, rfl⟩
 rw [hW1, hW2, hW3, hW4]
 have z1 : W1.heap.size = w.heap.size + 1 := by rw [← hW1, World.size_alloc]
 have z2 : W2.heap.size = w.heap.size + 2 := by rw [← hW2, World.size_alloc, z1]
 have z3 : W3.heap.size = w.heap.size + 3 := by rw [← hW3, World.size_alloc, z2]
 have z4 : W4.heap.size = w.heap.size + 4 := by rw [← hW4, World.size_alloc, z3]
 have b1 : Below w.heap.size w W1 := by rw [← hW1]; exact (Below.refl _ w).alloc (Nat.le_refl _) _
 have b2 : Below W1.heap.size W1 W2 := by rw [← hW2]; exact (Below.refl _ W1).alloc (Nat.le_refl _) _
 have b3 : Below W2.heap.size W2 W3 := by rw [← hW3]; exact (Below.refl _ W2).alloc (Nat.le_refl _) _
 have b4 : Below W3.heap.size W3 W4 := by rw [← hW4]; exact (Below.refl _ W3).alloc (Nat.le_refl _) _
 have h1 : W4.heap[w.heap.size]? = some (.cells #[.int .i64 v.1, s1, s2] 132 (0, 0)) := by
  rw [b4.block _ (by omega), b3.block _ (by omega), b2.block _ (by omega), ← hW1]; exact World.alloc_heap_new w _
 have h2 : W4.heap[w.heap.size + 1]? = some (.cells #[.int .u64 r] 137 (0, 0)) := by
  rw [b4.block _ (by omega), b3.block _ (by omega), ← z1, ← hW2]; exact World.alloc_heap_new W1 _
 have h3 : W4.heap[w.heap.size + 2]? = some (.cells #[.slice none 0 0] 129 (0, 0)) := by
  rw [b4.block _ (by omega), ← z2, ← hW3]; exact World.alloc_heap_new W2 _
 have h4 : W4.heap[w.heap.size + 3]? = some (.cells #[.int .i64 v.1] 3 (0, 0)) := by
  rw [← z3, ← hW4]; exact World.alloc_heap_new W3 _
 have hB : Below w.heap.size w W4 := b1.trans ((b2.mono (by omega)).trans ((b3.mono (by omega)).trans (b4.mono (by omega))))
 have hg4 := good_below hg hB
 have hle : Mem.le M (fun b o => if b = w.heap.size + 3 then (if o = 0 then some (.int .i64 v.1) else none) else M b o) := by
  intro b o x hx
  by_cases hb : b = w.heap.size + 3
  ·subst hb; rw [mem_none hg (by omega)] at hx; cases hx
  ·simp only [if_neg hb]; exact hx
 refine ⟨fun b o => if b = w.heap.size + 3 then (if o = 0 then some (.int .i64 v.1) else none) else M b o, ⟨Tab.keep hle (SameSizes.refl W4) hg4.1, fun b o x hx => ?_⟩, ?_, ⟨hB, fun b hb => ?_⟩, ⟨_, _, h1, relC_mono _ hle _ _ hvc, fun o => ?_⟩, ⟨_, _, h2, rfl, fun o => ?_⟩, ⟨_, _, h3, ⟨_, rfl, .inl ⟨rfl, rfl⟩⟩, fun o => ?_, .inl rfl⟩⟩
 ·by_cases hb : b = w.heap.size + 3
  ·subst hb
   simp only [if_true] at hx
   split at hx
   ·rename_i ho; subst ho; cases hx
    simp [World.cell?, h4]
   ·cases hx
  ·simp only [if_neg hb] at hx
   exact hg4.2 b o x hx
 ·simp
 ·funext o; exact if_neg (by omega)
 ·simp only [if_neg (show w.heap.size ≠ w.heap.size + 3 by omega)]; exact mem_none hg (by omega) o
 ·simp only [if_neg (show w.heap.size + 1 ≠ w.heap.size + 3 by omega)]; exact mem_none hg (by omega) o
 ·simp only [if_neg (show w.heap.size + 2 ≠ w.heap.size + 3 by omega)]; exact mem_none hg (by omega) o
theorem sets_length {n : Int} (h0 : 0 ≤ n) (h8 : n ≤ 8) : (setsL n).length ≤ 256 := by
 have key : ∀ k : Fin 9, (setsL ((k.val : Nat) : Int)).length ≤ 256 := by decide +kernel
 have := key ⟨n.toNat, by omega⟩
 rwa [show ((n.toNat : Nat) : Int) = n by omega] at this
theorem explOk_mem {v : Dtrace_evidence} {r : Int} : ∀ {l : List Int}, explOk v r l = some () → ∀ s ∈ l, ∃ w, trace_evidence_firstWrong v s r = some w
 | [], _, _, hs => by cases hs
 | x :: l, h, s, hs => by
  rw [explOk] at h
  obtain ⟨w, hw, h⟩ := Option.bind_eq_some_iff.1 h
  rcases List.mem_cons.1 hs with rfl | hs
  ·exact ⟨w, hw⟩
  ·exact explOk_mem h s hs
theorem nr44 : noRange bd44 = true := by kernel_rfl
theorem round44 {w : World} {M : Mem} {v : Dtrace_evidence} {r : Int} {out : List Int} {W : World} {s : Int} {a : Act} (l nn : Nat) (hI : Inv44 w M v r out W) (hs : a.tmps.size = 33)
  (a2 : a.tmps.getD 2 undef = .pointer (some ⟨w.heap.size, 0, none⟩)) (a3 : a.tmps.getD 3 undef = .pointer (some ⟨w.heap.size + 1, 0, none⟩)) (a5 : a.tmps.getD 5 undef = .pointer (some ⟨w.heap.size + 2, 0, none⟩)) (a6 : a.tmps.getD 6 undef = .int .u64 s)
  (hw : ∃ x, trace_evidence_firstWrong v s r = some x) (hl : out.length < 4294967296) {Q : Exit → Act → World → Prop}
  (hn : ∀ o a' W', explStep v r out s = some (some o) → o.length ≤ out.length + 1 → KeepsOthers W W' → keepB (w.heap.size + 3) v.1 W W' → Inv44 w M v r o W' → Q .normal a' W')
  (he : ∀ a' W', explStep v r out s = some none → KeepsOthers W W' → Inv44 w M v r out W' → Q (.exit 0) a' W') :
  bd44.wpIn (Fence.wide.inRound l) nn Tryz.prog Q a W := by
 obtain ⟨κ, M1, hR, hκ, hMb, hG, hb2, hb3⟩ := inv44_rel hI a2 a3 a5 a6
 obtain ⟨b, o, hst, hol, hcase⟩ := step44_ok hw hl
 refine code_sound prog_mixed cok44 (open_round l) bd44 (.inr nr44) ((ck44 v r out s).trans hst) (by rw [hs]; exact ok44) hR fun e κ' M' σ' a' W' hR' hF hk => ?_
 have hko : KeepsOthers W W' := ⟨hF.below.size, fun k o h ho => hF.oth k o h (keepO_off rfl (by rw [isC_eq]; exact ho))⟩
 have hkb : keepB (w.heap.size + 3) v.1 W W' := fun _ => hR'.good.2 _ _ _ (hF.le _ _ _ hMb)
 have hinv : ∀ bb, out44 bb σ' = some (b, o) → b = bb ∧ Inv44 w M v r o W' := fun bb hb => by
  obtain ⟨e0, e2, e3, e4, e5, k, e6⟩ := out44_some hb
  exact ⟨e0, rel_inv44 hκ hMb hG hb2 hb3 hR' hF (by decide +kernel) (by decide +kernel) (by decide +kernel) e2 e3 e4 e5 e6⟩
 match e, hk with
 | .normal, hk =>
  obtain ⟨rfl, hi⟩ := hinv false hk
  rcases hcase with ⟨h, _⟩ | ⟨_, h⟩
  ·cases h
  ·exact hn o a' W' h hol hko hkb hi
 | .exit 0, hk =>
  obtain ⟨rfl, hi⟩ := hinv true hk
  rcases hcase with ⟨_, rfl, h⟩ | ⟨h, _⟩
  ·exact he a' W' h hko hi
  ·cases h
 | .exit (_ + 1), hk => cases hk
 | .ret, hk => cases hk
theorem end44 {w : World} {M : Mem} {v : Dtrace_evidence} {r : Int} {out : List Int} {W : World} {D : Nat} (hI : Inv44 w M v r out W) (hD : w.heap.size + 4 ≤ D) {o : Obj} (hK : W.heap[D]? = some o) (ho : o.isCells = false) :
  ∃ u, W.cell? ⟨w.heap.size + 1 + 1, 0, none⟩ = some u ∧ ∀ o', ∃ M', relV Tryz.prog (.slice (.int .u64)) M' out u ∧ Good M' (W.putObj D o') ∧ Grow M w M' (W.putObj D o') := by
 obtain ⟨M1, _, _, _, _, _, ⟨E, u, e1, _⟩⟩ := id hI
 refine ⟨u, by simp [World.cell?, show W.heap[w.heap.size + 1 + 1]? = _ from e1], fun o' => ?_⟩
 have hI2 := inv44_own hI (grownBy_putObj' W D o') (fun k e => by cases e; exact ⟨by omega, o, hK, ho⟩)
 obtain ⟨M2, g1, _, g3, _, _, ⟨E', u', f1, f2, _⟩⟩ := hI2
 have hsame : (W.putObj D o').heap[w.heap.size + 2]? = W.heap[w.heap.size + 2]? := World.putObj_heap_other (by omega)
 rw [hsame, e1] at f1
 simp only [Option.some.injEq, Obj.cells.injEq, Array.mk.injEq, List.cons.injEq, and_true] at f1
 obtain ⟨rfl, _⟩ := f1
 exact ⟨M2, f2, g1, g3⟩
set_option maxRecDepth 100000 in
set_option maxHeartbeats 2000000 in
theorem m_trace_evidence_explanations : Has Tryz.prog sg_trace_evidence_explanations := by
 refine ⟨enters_of (by kernel_rfl), fun x res hr M w vs hg hvs => ?_⟩
 obtain ⟨v, r⟩ := x
 obtain ⟨u, rest, rfl, hv, u2, rfl, hr2⟩ := hvs
 obtain ⟨s1, s2, rfl, hvc⟩ := evidence_cells hv
 obtain rfl : u2 = .int .u64 r := by
  have : [u2] = [Value.int .u64 r] := hr2
  simpa using this
 refine (callsIn_wide (n := 3)).1 ?_
 refine callsIn_of_wp_marks Tryz.func62 rfl trivial ?_ rfl
 simp only [Tryz.ntmps62, List.size_toArray, List.length_cons, List.length_nil, Nat.reduceAdd, Nat.reduceSub, Array.replicate_succ, Array.replicate_zero, List.push_toArray, List.append_toArray, List.nil_append, List.cons_append]
 gi_wp2_with (refine ⟨trivial, ?_⟩; gi_at_call 100; refine (sets_in Fence.wide 2 (fun _ => trivial) rfl _ _).mono ?_; rintro e w' ⟨rfl, rfl⟩)
 unfold trace_evidence_explanations at hr
 cases hc : decide ((0 : Int) ≤ v.1) && decide (v.1 ≤ 8) with
 | false => rw [hc] at hr; cases hr
 | true =>
 rw [hc, cond_true] at hr
 rw [Bool.and_eq_true, decide_eq_true_eq, decide_eq_true_eq] at hc
 obtain ⟨_, hok, hr⟩ := Option.bind_eq_some_iff.1 hr
 have hall := explOk_mem hok
 have hlen := sets_length hc.1 hc.2
 have h0 := inv44_start r hg hvc
 obtain ⟨W0, hW0⟩ : ∃ W0, ((((w.alloc (Obj.cells #[Value.int .i64 v.1, s1, s2] 132)).alloc (Obj.cells #[Value.int .u64 r] 137)).alloc (Obj.cells #[Value.slice none 0 0] 129)).alloc (Obj.cells #[Value.int .i64 v.1] 3)) = W0 := ⟨_, rfl⟩
 have hz : W0.heap.size = w.heap.size + 4 := by rw [← hW0]; simp
 have hcn : W0.cell? ⟨w.heap.size + 1 + 1 + 1, 0, none⟩ = some (.int .i64 v.1) := by
  obtain ⟨M1, g1, g2, _⟩ := h0
  rw [← hW0]; exact g1.2 _ _ _ g2
 rw [hW0] at h0 ⊢
 refine wpIn_rangeFunc_ownF rfl (by decide) (gf := 141) (lb := #[.pointer (some ⟨w.heap.size + 1 + 1 + 1, 0, none⟩)]) rfl trivial (Go.Proofs.enters_of Tryz.func141 (by kernel_rfl) rfl)
  (sets_stops Fence.wide rfl 2 (fun _ => trivial) rfl (w.heap.size + 1 + 1 + 1) v.1 hc W0 (by omega) hcn) (fun h k => keepB_trans _ _ _ _ _ h k) ?keep (Below.refl _ _) (fun _ => rfl)
  (fun pre W => ∃ out, (∀ rest, explL v r (pre.map (·.1) ++ rest) [] = explL v r rest out) ∧ out.length ≤ pre.length ∧ Inv44 w M v r out W)
  (fun c pre W => c = .exit 0 ∧ ∃ out, (∀ rest, explL v r (pre.map (·.1) ++ rest) [] = some out) ∧ Inv44 w M v r out W)
  ?own ?ownx ⟨[], fun _ => rfl, Nat.le_refl _, h0⟩
  (fun x => { tmps := #[Value.agg #[Value.int .i64 v.1, s1, s2], Value.int .u64 r, Value.pointer (some ⟨w.heap.size, 0, none⟩), Value.pointer (some ⟨w.heap.size + 1, 0, none⟩), Value.slice none 0 0, Value.pointer (some ⟨w.heap.size + 1 + 1, 0, none⟩), Value.int .u64 x.1,
     Value.pointer (some ⟨w.heap.size, 0, none⟩), Value.int .i64 v.1, Value.func (Fn.func 141) #[] #[Value.pointer (some ⟨w.heap.size + 1 + 1 + 1, 0, none⟩)], Value.int .u64 x.1, undef, undef, undef, undef, undef, undef, undef, undef, undef, undef, undef, undef, undef, undef, undef, undef, undef, undef, undef, undef, undef, undef], defers := [] })
  ?assign ?body ?done ?stop
 case keep =>
  intro W l o o' hl h1 h2 _ h3
  by_cases e : l = w.heap.size + 1 + 1 + 1
  ·omega
  ·exact (World.cell?_of_block (w := W) (World.putObj_heap_other (fun k => e k.symm))).trans h3
 case own =>
  rintro pre W W' row ⟨out, h1, h2, h3⟩ hg' hrow
  exact ⟨out, h1, h2, inv44_own h3 hg' fun k e => ⟨by have := (hrow k e).1; omega, (hrow k e).2⟩⟩
 case ownx =>
  rintro c pre W W' row ⟨rfl, out, h1, h3⟩ hg' hrow
  exact ⟨rfl, out, h1, inv44_own h3 hg' fun k e => ⟨by have := (hrow k e).1; omega, (hrow k e).2⟩⟩
 case assign =>
  intro l x W K hK
  gi_wp2
  exact hK
 case body =>
  rintro l pre x W ⟨out, h1, h2, h3⟩ hlt
  refine round44 l (3 - 1 - 1) h3 rfl rfl rfl rfl rfl (hall x.1 x.2) (by omega) ?_ ?_
  ·intro o a' W' hs ho hk hb hi
   refine ⟨hk, hb, o, fun rest => ?_, by simp; omega, hi⟩
   rw [List.map_append, List.append_assoc, h1]
   show explL v r (x.1 :: rest) out = _
   rw [explL, hs]; rfl
  ·intro a' W' hs hk hi
   refine ⟨hk, rfl, out, fun rest => ?_, hi⟩
   rw [List.map_append, List.append_assoc, h1]
   show explL v r (x.1 :: rest) out = _
   rw [explL, hs]; rfl
 case done =>
  rintro D xs W hD hS ⟨out, h1, _, h3⟩ hK
  have hres : res = out := by
   have := h1 []
   rw [hS, List.append_nil, hr] at this
   exact Option.some.inj this
  subst hres
  obtain ⟨u, hu, hend⟩ := end44 h3 (by omega) hK rfl
  gi_wp2
  refine ⟨by simp, .inl ⟨_, _, rfl, run_takeDeferred hK, ?_⟩⟩
  obtain ⟨M', g1, g2, g3⟩ := hend _
  exact ⟨_, results_tmp rfl _ _ _, M', u, rfl, g1, g2, g3⟩
 case stop =>
  rintro D c pre W hD ⟨t, hS⟩ ⟨rfl, out, h1, h3⟩ hK
  have hres : res = out := by
   have := h1 t
   rw [hS, hr] at this
   exact Option.some.inj this
  subst hres
  obtain ⟨u, hu, hend⟩ := end44 h3 (by omega) hK rfl
  gi_wp2
  refine ⟨by simp, .inl ⟨_, _, rfl, run_takeDeferred hK, ?_⟩⟩
  obtain ⟨M', g1, g2, g3⟩ := hend _
  exact ⟨_, results_tmp rfl _ _ _, M', u, rfl, g1, g2, g3⟩
end Go.Lift
