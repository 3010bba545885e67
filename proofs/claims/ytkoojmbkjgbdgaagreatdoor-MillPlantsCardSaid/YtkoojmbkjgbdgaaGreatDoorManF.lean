/-
  model.ParseRules: the table, and what follows.
-/
import Derived.Test.YtkoojmbkjgbdgaaGreatDoorManD
set_option linter.unusedSectionVars false
set_option linter.unusedVariables false
set_option linter.unusedSimpArgs false
set_option linter.unusedSectionVars false
set_option linter.unusedSimpArgs false
set_option linter.unusedVariables false
namespace Go.Lift
open Go Go.Proofs Go.RowKit Go.Shelf
attribute [local go_sem] Oper.semAt_some
def cells6 (a b c d n : Int) (sv : Value) : Array Value := #[sv, .int .i64 a, .int .i64 b, .int .i64 c, .int .i64 d, .int .i64 n]
def zero6 : Array Value := #[.slice none 0 0, .int .i64 0, .int .i64 0, .int .i64 0, .int .i64 0, .int .i64 0]
def knCells (l : List (Int × Int)) : List Value := l.flatMap fun s => [.int .i64 s.1, .int .i64 s.2]
theorem knCells_at : ∀ (st : List (Int × Int)) (i : Nat) (hi : i < st.length), ((knCells st).drop (i * 2)).take 2 = [.int .i64 st[i].1, .int .i64 st[i].2]
  | s :: st, 0, _ => rfl
  | s :: st, i + 1, h => by
    have := knCells_at st i (by simpa using h)
    rw [show (i + 1) * 2 = i * 2 + 2 by omega]
    exact this
theorem knCells_snoc (st : List (Int × Int)) (x y : Int) : knCells (st ++ [(x, y)]) = knCells st ++ [.int .i64 x, .int .i64 y] := by simp [knCells]
noncomputable def c60 : Code := Tryz.f60.body.getD .skip
noncomputable def rest60 : Code := Code.snd (Code.snd (Code.snd (Code.snd (Code.snd (Code.snd (Code.snd (Code.snd c60)))))))
noncomputable def tail60 : Code := Code.snd rest60
def modelOf (kn : List (Int × Int)) (a b c d n : Int) : Dapi_ModelRules := (kn, ((a, b), ((c, d), n)))
theorem model_rel {M : Mem} {W : World} {B : Nat} {a b c d n : Int} {kn : List (Int × Int)} {sv : Value} (h : W.ownsRow B 139 2 sv kn.length (knCells kn)) : relV Tryz.prog Tapi_ModelRules (memFrom B M W) (modelOf kn a b c d n) (.agg (cells6 a b c d n sv)) := by
  have hs : relC Tryz.prog (.slice (.pair (.int .i64) (.int .i64))) (memFrom B M W) kn [sv] := own_rel (t := .pair (.int .i64) (.int .i64)) h rfl fun i hi => by
    show relC _ _ _ _ (((knCells kn).drop (i * 2)).take 2)
    rw [knCells_at kn i hi]
    exact ⟨rfl, rfl⟩
  exact ⟨_, rfl, hs, ⟨rfl, rfl⟩, ⟨rfl, rfl⟩, rfl⟩
set_option maxHeartbeats 8000000 in
set_option maxRecDepth 100000 in
theorem list105 {α : Type} : ∀ l : List α, l.length = 105 → ∃ x0 x1 x2 x3 x4 x5 x6 x7 x8 x9 x10 x11 x12 x13 x14 x15 x16 x17 x18 x19 x20 x21 x22 x23 x24 x25 x26 x27 x28 x29 x30 x31 x32 x33 x34 x35 x36 x37 x38 x39 x40 x41 x42 x43 x44 x45 x46 x47 x48 x49 x50 x51 x52 x53 x54 x55 x56 x57 x58 x59 x60 x61 x62 x63 x64 x65 x66 x67 x68 x69 x70 x71 x72 x73 x74 x75 x76 x77 x78 x79 x80 x81 x82 x83 x84 x85 x86 x87 x88 x89 x90 x91 x92 x93 x94 x95 x96 x97 x98 x99 x100 x101 x102 x103 x104, l = x0 :: x1 :: x2 :: x3 :: x4 :: x5 :: x6 :: x7 :: x8 :: x9 :: x10 :: x11 :: x12 :: x13 :: x14 :: x15 :: x16 :: x17 :: x18 :: x19 :: x20 :: x21 :: x22 :: x23 :: x24 :: x25 :: x26 :: x27 :: x28 :: x29 :: x30 :: x31 :: x32 :: x33 :: x34 :: x35 :: x36 :: x37 :: x38 :: x39 :: x40 :: x41 :: x42 :: x43 :: x44 :: x45 :: x46 :: x47 :: x48 :: x49 :: x50 :: x51 :: x52 :: x53 :: x54 :: x55 :: x56 :: x57 :: x58 :: x59 :: x60 :: x61 :: x62 :: x63 :: x64 :: x65 :: x66 :: x67 :: x68 :: x69 :: x70 :: x71 :: x72 :: x73 :: x74 :: x75 :: x76 :: x77 :: x78 :: x79 :: x80 :: x81 :: x82 :: x83 :: x84 :: x85 :: x86 :: x87 :: x88 :: x89 :: x90 :: x91 :: x92 :: x93 :: x94 :: x95 :: x96 :: x97 :: x98 :: x99 :: x100 :: x101 :: x102 :: x103 :: x104 :: []
  | x0 :: x1 :: x2 :: x3 :: x4 :: x5 :: x6 :: x7 :: x8 :: x9 :: x10 :: x11 :: x12 :: x13 :: x14 :: x15 :: x16 :: x17 :: x18 :: x19 :: x20 :: x21 :: x22 :: x23 :: x24 :: x25 :: x26 :: x27 :: x28 :: x29 :: x30 :: x31 :: x32 :: x33 :: x34 :: x35 :: x36 :: x37 :: x38 :: x39 :: x40 :: x41 :: x42 :: x43 :: x44 :: x45 :: x46 :: x47 :: x48 :: x49 :: x50 :: x51 :: x52 :: x53 :: x54 :: x55 :: x56 :: x57 :: x58 :: x59 :: x60 :: x61 :: x62 :: x63 :: x64 :: x65 :: x66 :: x67 :: x68 :: x69 :: x70 :: x71 :: x72 :: x73 :: x74 :: x75 :: x76 :: x77 :: x78 :: x79 :: x80 :: x81 :: x82 :: x83 :: x84 :: x85 :: x86 :: x87 :: x88 :: x89 :: x90 :: x91 :: x92 :: x93 :: x94 :: x95 :: x96 :: x97 :: x98 :: x99 :: x100 :: x101 :: x102 :: x103 :: x104 :: [], _ => ⟨_, _, _, _, _, _, _, _, _, _, _, _, _, _, _, _, _, _, _, _, _, _, _, _, _, _, _, _, _, _, _, _, _, _, _, _, _, _, _, _, _, _, _, _, _, _, _, _, _, _, _, _, _, _, _, _, _, _, _, _, _, _, _, _, _, _, _, _, _, _, _, _, _, _, _, _, _, _, _, _, _, _, _, _, _, _, _, _, _, _, _, _, _, _, _, _, _, _, _, _, _, _, _, _, _, rfl⟩
def Post60 (M : Mem) (w : World) (r : Dapi_ModelRules × Int) : Exit → Act → World → Prop := bodyPost Tryz.prog Tryz.f60 fun e w' => ∃ M' v, e = .returned v ∧ relR Tryz.prog M' sg_model_ParseRules.rts r v ∧ Good M' w' ∧ Grow M w M' w'
theorem results60 : Tryz.f60.results = #[.cell 2 83, .tmp 3] := by kernel_rfl
theorem load83 {W : World} {g : Nat} {a b c d n : Int} {sv : Value} (h : W.heap[g]? = some (.cells (cells6 a b c d n sv) 83 (0, 0))) : (loadVar 83 ⟨g, 0, none⟩).run Tryz.prog W = .ok (.agg (cells6 a b c d n sv)) W := by
  have := run_loadCells_list (P := Tryz.prog) W ⟨g, 0, none⟩ (cells6 a b c d n sv).toList (fun j v hj => by rw [Addr.add_mk, Nat.zero_add]; exact cell_at h (by simpa using hj))
  rw [show (cells6 a b c d n sv).toList.length = 6 from rfl] at this
  simp [loadVar, Sem.run_bind, Sem.run_pure, Tryz.isAgg83, Tryz.sizeOf83, this, Result.andThen_ok]
theorem end60 {M : Mem} {w : World} (hg : Good M w) {W : World} (hb : Below w.heap.size w W) {b2 : Nat} {a b c d n : Int} {kn : List (Int × Int)} {sv : Value} (c2 : W.heap[b2]? = some (.cells (cells6 a b c d n sv) 83 (0, 0))) (hrow : W.ownsRow w.heap.size 139 2 sv kn.length (knCells kn)) {e : Int} {ac : Act}
    (hd : ac.defers = []) (h2 : ac.tmps.getD 2 undef = .pointer (some ⟨b2, 0, none⟩)) (h3 : ac.tmps.getD 3 undef = .int .i64 e) : Post60 M w (modelOf kn a b c d n, e) .ret ac W := by
  refine bodyPost_ret (results_cell2 results60 h2 (load83 c2)) hd ⟨memFrom w.heap.size M W, _, rfl, ?_, memFrom_good (good_below hg hb), memFrom_grow hb⟩
  rw [h3]
  exact ⟨_, rfl, _, _, rfl, model_rel hrow, _, rfl, relV_int.2 rfl⟩
theorem nil_kn (W : World) (B : Nat) : W.ownsRow B 139 2 (.slice none 0 0) (([] : List (Int × Int))).length (knCells []) := ⟨rfl, .inl ⟨rfl, rfl⟩⟩
theorem set6 {w : World} {g : Nat} {v0 v1 v2 v3 v4 v5 : Value} (h : w.heap[g]? = some (.cells zero6 83 (0, 0))) :
    ((((((w.setCell ⟨g, 0, none⟩ v0).setCell ⟨g, 1, none⟩ v1).setCell ⟨g, 2, none⟩ v2).setCell ⟨g, 3, none⟩ v3).setCell ⟨g, 4, none⟩ v4).setCell ⟨g, 5, none⟩ v5).heap[g]? = some (.cells #[v0, v1, v2, v3, v4, v5] 83 (0, 0)) ∧ w.grownBy ((((((w.setCell ⟨g, 0, none⟩ v0).setCell ⟨g, 1, none⟩ v1).setCell ⟨g, 2, none⟩ v2).setCell ⟨g, 3, none⟩ v3).setCell ⟨g, 4, none⟩ v4).setCell ⟨g, 5, none⟩ v5) (some g) :=
  have e : ((((((zero6.setIfInBounds 0 v0).setIfInBounds 1 v1).setIfInBounds 2 v2).setIfInBounds 3 v3).setIfInBounds 4 v4).setIfInBounds 5 v5) = #[v0, v1, v2, v3, v4, v5] := by simp [zero6]
  ⟨e ▸ (setCell_at (setCell_at (setCell_at (setCell_at (setCell_at (setCell_at h)))))), (grown_trans (grown_trans (grown_trans (grown_trans (grown_trans setCell_grown setCell_grown) setCell_grown) setCell_grown) setCell_grown) setCell_grown)⟩
set_option maxHeartbeats 4000000 in
set_option maxRecDepth 100000 in
theorem tail60_ok {M : Mem} {w : World} (hg : Good M w) {r : Dapi_ModelRules × Int} {a b c d n : Int} {kn : List (Int × Int)} {ok : Bool} (hr : (bif !ok then some (noModel, 7) else (model_CheckRules (modelOf kn a b c d n)).bind fun e => bif e.2 != 0 then some (noModel, e.2) else some (modelOf kn a b c d n, 0)) = some r)
    {W : World} (hb : Below w.heap.size w W) {b2 b5 : Nat} (hb2 : w.heap.size ≤ b2) (hne : b2 ≠ b5) (c2 : W.heap[b2]? = some (.cells zero6 83 (0, 0))) {sv : Value} (c5 : W.heap[b5]? = some (.cells (cells6 a b c d n sv) 83 (0, 0))) (hrow : W.ownsRow w.heap.size 139 2 sv kn.length (knCells kn))
    {ac : Act} (hd : ac.defers = []) (hsz : ac.tmps.size = 105) (h2 : ac.tmps.getD 2 undef = .pointer (some ⟨b2, 0, none⟩)) (h5 : ac.tmps.getD 5 undef = .pointer (some ⟨b5, 0, none⟩)) (h6 : ac.tmps.getD 6 undef = .bool ok) :
    tail60.wp Tryz.prog (Post60 M w r) ac W := by
  obtain ⟨⟨l⟩, df⟩ := ac
  simp only at hd
  subst hd
  obtain ⟨p4, n4, c4', rfl⟩ := own_shape hrow
  have hq : ∀ W', Below W.heap.size W W' → W'.cell? ⟨b2, 0, none⟩ = some (.slice none 0 0) ∧ W'.cell? ⟨b2, 1, none⟩ = some (.int .i64 0) ∧ W'.cell? ⟨b2, 2, none⟩ = some (.int .i64 0) ∧ W'.cell? ⟨b2, 3, none⟩ = some (.int .i64 0) ∧ W'.cell? ⟨b2, 4, none⟩ = some (.int .i64 0) ∧ W'.cell? ⟨b2, 5, none⟩ = some (.int .i64 0) ∧ ∀ off, W'.frozen? ⟨b2, off, none⟩ = false := fun W' hb' => by
    have := (hb'.block b2 (Array.getElem?_eq_some_iff.1 c2).1).trans c2
    exact ⟨cell_at this rfl, cell_at this rfl, cell_at this rfl, cell_at this rfl, cell_at this rfl, cell_at this rfl, fun off => frozen_at this⟩
  have hk : ∀ W', Below W.heap.size W W' → W'.cell? ⟨b5, 0, none⟩ = some (.slice p4 n4 c4') ∧ W'.cell? ⟨b5, 1, none⟩ = some (.int .i64 a) ∧ W'.cell? ⟨b5, 2, none⟩ = some (.int .i64 b) ∧ W'.cell? ⟨b5, 3, none⟩ = some (.int .i64 c) ∧ W'.cell? ⟨b5, 4, none⟩ = some (.int .i64 d) ∧ W'.cell? ⟨b5, 5, none⟩ = some (.int .i64 n) := fun W' hb' => by
    have := (hb'.block b5 (Array.getElem?_eq_some_iff.1 c5).1).trans c5
    exact ⟨cell_at this rfl, cell_at this rfl, cell_at this rfl, cell_at this rfl, cell_at this rfl, cell_at this rfl⟩
  obtain ⟨k0, k1, k2, k3, k4, k5⟩ := hk W (Below.refl _ _)
  obtain ⟨o0, o1, o2, o3, o4, o5, of⟩ := hq W (Below.refl _ _)
  obtain ⟨x0, x1, x2, x3, x4, x5, x6, x7, x8, x9, x10, x11, x12, x13, x14, x15, x16, x17, x18, x19, x20, x21, x22, x23, x24, x25, x26, x27, x28, x29, x30, x31, x32, x33, x34, x35, x36, x37, x38, x39, x40, x41, x42, x43, x44, x45, x46, x47, x48, x49, x50, x51, x52, x53, x54, x55, x56, x57, x58, x59, x60, x61, x62, x63, x64, x65, x66, x67, x68, x69, x70, x71, x72, x73, x74, x75, x76, x77, x78, x79, x80, x81, x82, x83, x84, x85, x86, x87, x88, x89, x90, x91, x92, x93, x94, x95, x96, x97, x98, x99, x100, x101, x102, x103, x104, rfl⟩ := list105 l hsz
  have e2 : x2 = .pointer (some ⟨b2, 0, none⟩) := h2
  have e5 : x5 = .pointer (some ⟨b5, 0, none⟩) := h5
  have e6 : x6 = .bool ok := h6
  subst e2 e5 e6
  clear h2 h5 h6 hsz
  simp only [tail60, rest60, c60, Tryz.f60, Option.getD_some, Code.fst, Code.snd]
  cases ok with
  | false =>
    rw [Bool.not_false, cond_true, Option.some.injEq] at hr
    obtain ⟨s1, s2⟩ := set6 (v0 := .slice none 0 0) (v1 := .int .i64 0) (v2 := .int .i64 0) (v3 := .int .i64 0) (v4 := .int .i64 0) (v5 := .int .i64 0) c2
    subst hr
    have hend : ∀ ac : Act, _ → _ → _ → Post60 M w (noModel, 7) .ret ac _ := fun ac q1 q2 q3 => end60 (a := 0) (b := 0) (c := 0) (d := 0) (n := 0) (kn := []) hg (below_of_grown hb s2 hb2) s1 (nil_kn _ _) (e := 7) (ac := ac) q1 q2 q3
    generalize Post60 M w (noModel, 7) = Q at hend ⊢
    clear hq hk k0 k1 k2 k3 k4 k5
    go_wp2
    exact hend _ rfl rfl rfl
  | true =>
  rw [Bool.not_true, cond_false] at hr
  obtain ⟨e, he, hr⟩ := Option.bind_eq_some_iff.1 hr
  have hcall : Calls Tryz.prog 108 #[.agg #[.slice p4 n4 c4', .int .i64 a, .int .i64 b, .int .i64 c, .int .i64 d, .int .i64 n]] W fun e' w' => Below W.heap.size W w' ∧ e' = .returned (.tuple #[.int .i64 e.1, .int .i64 e.2]) := by
    refine Calls.mono (h_model_CheckRules.2 (modelOf kn a b c d n) e he (memFrom w.heap.size M W) W [.agg (cells6 a b c d n (.slice p4 n4 c4'))] (memFrom_good (good_below hg hb)) ⟨_, rfl, model_rel hrow⟩) ?_
    rintro e' w' ⟨M', v, rfl, ⟨⟨vl⟩, rfl, u1, rs, e1, hu1, u2, rfl, hu2⟩, _, hgr'⟩
    obtain rfl := relV_int.1 hu1
    obtain rfl := relV_int.1 hu2
    replace e1 : vl = [_, _] := e1
    subst e1
    exact ⟨hgr'.below, rfl⟩
  clear o0 o1 o2 o3 o4 o5 of
  have hkeep : ∀ W', Below W.heap.size W W' → W'.heap[b2]? = some (.cells zero6 83 (0, 0)) ∧ W'.ownsRow w.heap.size 139 2 (.slice p4 n4 c4') kn.length (knCells kn) ∧ Below w.heap.size w W' := fun W' hb' =>
    ⟨(hb'.block b2 (Array.getElem?_eq_some_iff.1 c2).1).trans c2, World.ownsRow.kept hrow (below_grown hb') (by cases Value.ownBlock (.slice p4 n4 c4') <;> simp), below_trans hb hb'⟩
  cases he0 : (e.2 != 0) with
  | true =>
    rw [he0, cond_true, Option.some.injEq] at hr
    subst hr
    have hend : ∀ (ac : Act) (W' : World), Below W.heap.size W W' → _ → _ → _ → Post60 M w (noModel, e.2) .ret ac _ := fun ac W' hb' q1 q2 q3 => by
      obtain ⟨t1, t2, t3⟩ := hkeep W' hb'
      obtain ⟨s1, s2⟩ := set6 (v0 := .slice none 0 0) (v1 := .int .i64 0) (v2 := .int .i64 0) (v3 := .int .i64 0) (v4 := .int .i64 0) (v5 := .int .i64 0) t1
      exact end60 (a := 0) (b := 0) (c := 0) (d := 0) (n := 0) (kn := []) hg (below_of_grown t3 s2 hb2) s1 (nil_kn _ _) (e := e.2) (ac := ac) q1 q2 q3
    generalize Post60 M w (noModel, e.2) = Q at hend ⊢
    clear hkeep
    go_wp2_with (go_at_call 108; refine Calls.mono hcall ?_; clear hcall; rintro e' w1 ⟨hb1, rfl⟩; obtain ⟨q0, q1, q2, q3, q4, q5, qf⟩ := hq w1 hb1; clear k0 k1 k2 k3 k4 k5 hq hk)
    exact hend _ _ hb1 rfl rfl rfl
  | false =>
    rw [he0, cond_false, Option.some.injEq] at hr
    subst hr
    have hend : ∀ (ac : Act) (W' : World), Below W.heap.size W W' → _ → _ → _ → Post60 M w (modelOf kn a b c d n, 0) .ret ac _ := fun ac W' hb' q1 q2 q3 => by
      obtain ⟨t1, t2, t3⟩ := hkeep W' hb'
      obtain ⟨s1, s2⟩ := set6 (v0 := .slice p4 n4 c4') (v1 := .int .i64 a) (v2 := .int .i64 b) (v3 := .int .i64 c) (v4 := .int .i64 d) (v5 := .int .i64 n) t1
      exact end60 (a := a) (b := b) (c := c) (d := d) (n := n) (kn := kn) hg (below_of_grown t3 s2 hb2) s1 (t2.kept s2 (kind_apart t1 (by decide) t2)) (e := 0) (ac := ac) q1 q2 q3
    generalize Post60 M w (modelOf kn a b c d n, 0) = Q at hend ⊢
    clear hkeep
    go_wp2_with (go_at_call 108; refine Calls.mono hcall ?_; clear hcall; rintro e' w1 ⟨hb1, rfl⟩; obtain ⟨q0, q1, q2, q3, q4, q5, qf⟩ := hq w1 hb1; obtain ⟨m0, m1, m2, m3, m4, m5⟩ := hk w1 hb1; clear k0 k1 k2 k3 k4 k5 hq hk)
    exact hend _ _ hb1 rfl rfl rfl
end Go.Lift
set_option linter.unusedSectionVars false
set_option linter.unusedSimpArgs false
set_option linter.unusedVariables false
namespace Go.Lift
open Go Go.Proofs Go.RowKit Go.Shelf
attribute [local go_sem] Oper.semAt_some
theorem pair_calls {M : Mem} {w : World} (hg : Good M w) {s sep : ByteArray} {x : Int × Int × Bool} (h : model_pair s sep = some x) :
    Calls Tryz.prog 106 #[.string s, .string sep] w fun e w' => Below w.heap.size w w' ∧ e = .returned (.tuple #[.int .i64 x.1, .int .i64 x.2.1, .bool x.2.2]) := by
  refine Calls.mono ((h_model_pair m_strconv_Itoa m_strings_Cut m_strconv_Atoi).2 (s, sep) x h M w [.string s, .string sep] hg ⟨_, _, rfl, relV_str.2 rfl, _, rfl, relV_str.2 rfl⟩) ?_
  rintro e' w' ⟨M', v, rfl, ⟨⟨vl⟩, rfl, u1, rs, e1, hu1, u2, rs2, rfl, hu2, u3, rfl, hu3⟩, _, hgr'⟩
  obtain rfl := relV_int.1 hu1
  obtain rfl := relV_int.1 hu2
  obtain rfl := relV_bool.1 hu3
  replace e1 : vl = [_, _, _] := e1
  subst e1
  exact ⟨hgr'.below, rfl⟩
theorem number_calls {M : Mem} {w : World} (hg : Good M w) {s : ByteArray} {x : Int × Bool} (h : model_number s = some x) :
    Calls Tryz.prog 107 #[.string s] w fun e w' => Below w.heap.size w w' ∧ e = .returned (.tuple #[.int .i64 x.1, .bool x.2]) := by
  refine Calls.mono ((h_model_number m_strconv_Itoa m_strconv_Atoi).2 s x h M w [.string s] hg ⟨_, rfl, relV_str.2 rfl⟩) ?_
  rintro e' w' ⟨M', v, rfl, ⟨⟨vl⟩, rfl, u1, rs, e1, hu1, u2, rfl, hu2⟩, _, hgr'⟩
  obtain rfl := relV_int.1 hu1
  obtain rfl := relV_bool.1 hu2
  replace e1 : vl = [_, _] := e1
  subst e1
  exact ⟨hgr'.below, rfl⟩
noncomputable def loop60 : Code := Code.fst (Code.fst (Code.snd (Code.fst rest60)))
theorem knotsF_step {s : ByteArray} {l : List ByteArray} {kn : List (Int × Int)} {ok : Bool} {R : List (Int × Int) × Bool} (h : knotsF (s :: l) kn ok = some R) :
    ∃ x, model_pair s (bytes [64]) = some x ∧ kn.length + 1 ≤ 4294967296 ∧ knotsF l (kn ++ [(x.1, x.2.1)]) (bif ok then x.2.2 else false) = some R := by
  unfold knotsF at h
  obtain ⟨x, h1, h⟩ := Option.bind_eq_some_iff.1 h
  obtain ⟨o, h2, h⟩ := Option.bind_eq_some_iff.1 h
  unfold app at h2
  split at h2
  · simp only [Option.some.injEq] at h2
    subst h2
    rename_i hl
    exact ⟨x, h1, by simpa using hl, h⟩
  · cases h2
structure L60 (W0 : World) (b2 b5 : Nat) (a b c d n : Int) (kn : List (Int × Int)) (W : World) : Prop where
  upto : Upto W0.heap.size b5 W0 W
  c2 : W.heap[b2]? = some (.cells zero6 83 (0, 0))
  row : ∃ sv, W.heap[b5]? = some (.cells (cells6 a b c d n sv) 83 (0, 0)) ∧ W.ownsRow W0.heap.size 139 2 sv kn.length (knCells kn)
theorem under79 : Tryz.prog.underlying 79 = some (.slice 139) := by kernel_rfl
theorem fits139 : fits Tryz.prog (.pair (.int .i64) (.int .i64)) (.inl 139) = true := by kernel_rfl
set_option maxHeartbeats 8000000 in
set_option maxRecDepth 100000 in
theorem loop60_ok {M : Mem} {w : World} (hg : Good M w) {tl : List ByteArray} {ok : Bool} {R : List (Int × Int) × Bool} (hR : knotsF tl [] ok = some R) {a0 a1 a2 a3 a4 : Int}
    {W : World} (hBW : Below w.heap.size w W) {b2 b5 : Nat} (hb2 : w.heap.size ≤ b2) (hb5 : w.heap.size ≤ b5) (hne : b2 ≠ b5) (c2W : W.heap[b2]? = some (.cells zero6 83 (0, 0))) (c5W : W.heap[b5]? = some (.cells (cells6 a0 a1 a2 a3 a4 (.slice none 0 0)) 83 (0, 0))) {b off c1 : Nat} (hcs : ∀ j n, tl[j]? = some n → W.cell? ⟨b, off + j, none⟩ = some (.string n)) (hb : b ≠ b5) (hlen : tl.length ≤ 1000001)
    {K : Act → World → Prop} {Q : Exit → Act → World → Prop} (hK : ∀ (W' : World) (a' : Act), L60 W b2 b5 a0 a1 a2 a3 a4 R.1 W' → a'.defers = [] → a'.tmps.size = 105 → a'.tmps.getD 2 undef = .pointer (some ⟨b2, 0, none⟩) → a'.tmps.getD 5 undef = .pointer (some ⟨b5, 0, none⟩) → a'.tmps.getD 6 undef = .bool R.2 → K a' W')
    {ac : Act} (hd : ac.defers = []) (hsz : ac.tmps.size = 105) (h2 : ac.tmps.getD 2 undef = .pointer (some ⟨b2, 0, none⟩)) (h5 : ac.tmps.getD 5 undef = .pointer (some ⟨b5, 0, none⟩)) (h6 : ac.tmps.getD 6 undef = .bool ok) (h67 : ac.tmps.getD 67 undef = .slice (some ⟨b, off, none⟩) tl.length c1) (h68 : ac.tmps.getD 68 undef = .int .i64 (tl.length : Int)) (h69 : ac.tmps.getD 69 undef = .int .i64 0) :
    (Code.loop loop60).wp Tryz.prog (Exit.inBlock 2 (Exit.then K Q)) ac W := by
  obtain ⟨⟨l⟩, df⟩ := ac
  simp only at hd
  subst hd
  obtain ⟨x0, x1, x2, x3, x4, x5, x6, x7, x8, x9, x10, x11, x12, x13, x14, x15, x16, x17, x18, x19, x20, x21, x22, x23, x24, x25, x26, x27, x28, x29, x30, x31, x32, x33, x34, x35, x36, x37, x38, x39, x40, x41, x42, x43, x44, x45, x46, x47, x48, x49, x50, x51, x52, x53, x54, x55, x56, x57, x58, x59, x60, x61, x62, x63, x64, x65, x66, x67, x68, x69, x70, x71, x72, x73, x74, x75, x76, x77, x78, x79, x80, x81, x82, x83, x84, x85, x86, x87, x88, x89, x90, x91, x92, x93, x94, x95, x96, x97, x98, x99, x100, x101, x102, x103, x104, rfl⟩ := list105 l hsz
  have e2 : x2 = .pointer (some ⟨b2, 0, none⟩) := h2
  have e5 : x5 = .pointer (some ⟨b5, 0, none⟩) := h5
  have e6 : x6 = .bool ok := h6
  have e67 : x67 = .slice (some ⟨b, off, none⟩) tl.length c1 := h67
  have e68 : x68 = .int .i64 (tl.length : Int) := h68
  have e69 : x69 = .int .i64 0 := h69
  subst e2 e5 e6 e67 e68 e69
  clear h2 h5 h6 h67 h68 h69 hsz
  simp only [loop60, rest60, c60, Tryz.f60, Option.getD_some, Code.fst, Code.snd]
  show Code.wp Tryz.prog _ _ { tmps := List.toArray (x0 :: x1 :: (.pointer (some ⟨b2, 0, none⟩)) :: x3 :: x4 :: (.pointer (some ⟨b5, 0, none⟩)) :: (.bool ok) :: x7 :: x8 :: x9 :: x10 :: x11 :: x12 :: x13 :: x14 :: x15 :: x16 :: x17 :: x18 :: x19 :: x20 :: x21 :: x22 :: x23 :: x24 :: x25 :: x26 :: x27 :: x28 :: x29 :: x30 :: x31 :: x32 :: x33 :: x34 :: x35 :: x36 :: x37 :: x38 :: x39 :: x40 :: x41 :: x42 :: x43 :: x44 :: x45 :: x46 :: x47 :: x48 :: x49 :: x50 :: x51 :: x52 :: x53 :: x54 :: x55 :: x56 :: x57 :: x58 :: x59 :: x60 :: x61 :: x62 :: x63 :: x64 :: x65 :: x66 :: (.slice (some ⟨b, off, none⟩) tl.length c1) :: (.int .i64 (tl.length : Int)) :: (.int .i64 0) :: x70 :: x71 :: x72 :: x73 :: x74 :: x75 :: x76 :: x77 :: x78 :: x79 :: x80 :: x81 :: x82 :: x83 :: x84 :: x85 :: x86 :: x87 :: x88 :: x89 :: x90 :: x91 :: x92 :: x93 :: x94 :: x95 :: x96 :: x97 :: x98 :: x99 :: x100 :: x101 :: x102 :: x103 :: x104 :: []), defers := [] } W
  go_loopw [6, 69] (fun v6 v69 wr => ∃ (i : Nat) (kn : List (Int × Int)) (okv : Bool), i ≤ tl.length ∧ v6 = Value.bool okv ∧ v69 = Value.int .i64 (i : Int) ∧ knotsF (tl.drop i) kn okv = some R ∧ kn.length = i ∧ L60 W b2 b5 a0 a1 a2 a3 a4 kn wr) (fun v6 v69 wr => muI tl.length v69)
  case atStart => exact ⟨0, [], ok, Nat.zero_le _, rfl, rfl, by rw [List.drop_zero]; exact hR, rfl, ⟨Upto.refl W, c2W, _, c5W, nil_kn _ _⟩⟩
  case round =>
    obtain ⟨i, kn, okv, hi, rfl, rfl, hS, hsl, hLi⟩ := hrel
    obtain ⟨sv, c5r, hrow⟩ := hLi.row
    have hBr : Below w.heap.size w wr := Upto.below_of hBW hLi.upto hb5
    have hgr := good_below hg hBr
    have szr := hLi.upto.size
    have c2r := hLi.c2
    by_cases hlt : i < tl.length
    · rw [List.drop_eq_getElem_cons hlt] at hS
      obtain ⟨x, hx, hS1, hS2⟩ := knotsF_step hS
      obtain ⟨x, y, is⟩ := x
      simp only at hS2
      have d1 : wr.cell? ⟨b, off + i, none⟩ = some (.string tl[i]) := by
        have h0 := hcs i tl[i] (List.getElem?_eq_getElem hlt)
        exact (World.cell?_of_block (hLi.upto.block b (World.block_lt_of_cell? W _ h0) hb)).trans h0
      have hcall := pair_calls hgr hx
      simp only at hcall
      obtain ⟨i0, d0, hi0⟩ := fits_info fits139
      obtain ⟨z, hz, hz1, _⟩ := hi0.zero (by rfl)
      have hby := hi0.bytes
      have hzs : z.cells.size = 2 := by have := relC_len (.pair (.int .i64) (.int .i64)) M _ _ (hz1 M); exact (by simpa using this : z.cells.size = (Ty.pair (.int .i64) (.int .i64)).size)
      obtain ⟨p4, n4, c4', rfl⟩ := own_shape hrow
      have hw2 : ∀ w2, Below wr.heap.size wr w2 → w2.cell? ⟨b5, 0, none⟩ = some (.slice p4 n4 c4') ∧ w2.heap[b5]? = some (.cells (cells6 a0 a1 a2 a3 a4 (.slice p4 n4 c4')) 83 (0, 0)) ∧ w2.heap[b2]? = some (.cells zero6 83 (0, 0)) ∧ w2.ownsRow W.heap.size 139 2 (.slice p4 n4 c4') kn.length (knCells kn) ∧ W.heap.size ≤ w2.heap.size := fun w2 hb' => by
        have q := (hb'.block b5 (Array.getElem?_eq_some_iff.1 c5r).1).trans c5r
        exact ⟨cell_at q rfl, q, (hb'.block b2 (Array.getElem?_eq_some_iff.1 c2r).1).trans c2r, World.ownsRow.kept hrow (below_grown hb') (by cases Value.ownBlock (.slice p4 n4 c4') <;> simp), Nat.le_trans szr hb'.size⟩
      have hS2 := hS2
      have hHid : Hid (knotsF (List.drop (i + 1) tl) (kn ++ [(x, y)]) (bif okv then is else false) = some R) := hS2
      clear hS2 hS hx
      go_wp2_with (first | (go_at_call 106; refine Calls.mono hcall ?_; clear hcall; rintro e w2 ⟨hbb, rfl⟩; obtain ⟨m0, k5, k2, hr2, sz2⟩ := hw2 w2 hbb; clear hw2 d1; have hrA : ∀ o, (w2.alloc o).ownsRow W.heap.size 139 2 (.slice p4 n4 c4') kn.length (knCells kn) := fun o => hr2.kept (below_grown (below_new w2 o)) (by cases Value.ownBlock (.slice p4 n4 c4') <;> simp)) | (at_builtin; refine wpList_append_own_at _ rfl _ _ 79 rfl W.heap.size 139 i0 z 2 i0.bytes under79 hi0.info hz hi0.size rfl hzs (by decide) _ _ _ rfl (hrA _) ⟨w2.heap.size, 0, none⟩ 1 1 [.int .i64 x, .int .i64 y] rfl ?qc1 ?qc2 ?qc3 ?qc4 ?qc5 ?qc6 ?_))
      case qc1 => rfl
      case qc2 =>
        intro j u hj
        rw [Addr.add_mk, Nat.zero_add]
        exact (cell_block (World.alloc_heap_new w2 _)).trans (by simpa using hj)
      case qc3 =>
        intro u hu
        simp only [List.mem_cons, List.not_mem_nil, or_false] at hu
        rcases hu with rfl | rfl <;> rfl
      case qc4 => unfold maxLen; omega
      case qc5 =>
        have := Nat.mul_le_mul (show kn.length + 1 ≤ 1000002 by omega) hby
        omega
      case qc6 => rw [World.size_alloc]; omega
      intro v' w5 ho5 hgr5 hnil hob
      have hwb : Below w2.heap.size w2 (w2.alloc (.cells #[.int .i64 x, .int .i64 y] 139)) := below_new w2 _
      generalize w2.alloc (.cells #[.int .i64 x, .int .i64 y] 139) = w4a at hgr5 hwb ⊢
      have szb := hwb.size
      have keep5 : ∀ (bb : Nat) (cs : Array Value), w2.heap[bb]? = some (.cells cs 83 (0, 0)) → w5.heap[bb]? = some (.cells cs 83 (0, 0)) := fun bb cs hb' => by
        have hlt' := (Array.getElem?_eq_some_iff.1 hb').1
        refine (hgr5.block bb (by omega) fun e => ?_).trans ((hwb.block bb hlt').trans hb')
        rcases kind_apart hb' (show (139 : TypeId) ≠ 83 by decide) hr2 with h | h
        · rw [h] at e; cases e
        · exact h e.symm
      have c55 := keep5 b5 _ k5
      have c25 := keep5 b2 _ k2
      obtain ⟨p5, n5', c5', rfl⟩ := own_shape ho5
      have m65 : w5.cell? ⟨b5, 0, none⟩ = some (.slice p4 n4 c4') := cell_at c55 rfl
      have f65 : w5.frozen? ⟨b5, 0, none⟩ = false := frozen_at c55
      have hset := setCell_at (off := 0) (v := .slice p5 n5' c5') c55
      have hfin : L60 W b2 b5 a0 a1 a2 a3 a4 (kn ++ [(x, y)]) (w5.setCell ⟨b5, 0, none⟩ (.slice p5 n5' c5')) := by
        refine ⟨?_, ?_, _, hset, ?_⟩
        · refine (((hLi.upto.trans (Upto.below hbb szr)).trans (Upto.below hwb (by omega))).trans (Upto.grown hgr5 (by omega) fun g hg => ?_)).trans Upto.set
          exact (hr2.lt g hg).1
        · exact (setCell_grown.block b2 (Array.getElem?_eq_some_iff.1 c25).1 fun e => by cases e; exact hne rfl).trans c25
        · rw [knCells_snoc, List.length_append]
          have := ho5.kept (setCell_grown (g := b5) (off := 0) (v := .slice p5 n5' c5')) (kind_apart c55 (by decide) ho5)
          rw [← hsl] at this
          exact this
      clear m0 hrA hset ho5 hgr5
      cases okv with
      | false =>
        go_wp2
        refine ⟨⟨i + 1, kn ++ [(x, y)], false, by omega, rfl, rfl, hHid, by simp [hsl], hfin⟩, ?_⟩
        show tl.length - (((i : Int) + 1)).toNat < tl.length - ((i : Int)).toNat
        omega
      | true =>
        go_wp2
        refine ⟨⟨i + 1, kn ++ [(x, y)], is, by omega, rfl, rfl, hHid, by simp [hsl], hfin⟩, ?_⟩
        show tl.length - (((i : Int) + 1)).toNat < tl.length - ((i : Int)).toNat
        omega
    · go_wp2
      obtain rfl : i = tl.length := by omega
      rw [List.drop_length] at hS
      have hS : some (kn, okv) = some R := hS
      simp only [Option.some.injEq] at hS
      subst hS
      exact hK wr _ hLi rfl rfl rfl rfl rfl
end Go.Lift
