/-
  An entry is applied.
-/
import Derived.Test.YtkoojmbkjgbdgaaGreatDoorEntC
set_option linter.unusedSectionVars false
set_option linter.unusedVariables false
set_option linter.unusedSimpArgs false
set_option linter.unusedSectionVars false
set_option linter.unusedSimpArgs false
set_option linter.unusedVariables false
namespace Go.Lift
open Go Go.Proofs Go.RowKit Go.Shelf
set_option maxHeartbeats 8000000 in
set_option maxRecDepth 100000 in
theorem list88 {α : Type} : ∀ l : List α, l.length = 88 → ∃ x0 x1 x2 x3 x4 x5 x6 x7 x8 x9 x10 x11 x12 x13 x14 x15 x16 x17 x18 x19 x20 x21 x22 x23 x24 x25 x26 x27 x28 x29 x30 x31 x32 x33 x34 x35 x36 x37 x38 x39 x40 x41 x42 x43 x44 x45 x46 x47 x48 x49 x50 x51 x52 x53 x54 x55 x56 x57 x58 x59 x60 x61 x62 x63 x64 x65 x66 x67 x68 x69 x70 x71 x72 x73 x74 x75 x76 x77 x78 x79 x80 x81 x82 x83 x84 x85 x86 x87, l = x0 :: x1 :: x2 :: x3 :: x4 :: x5 :: x6 :: x7 :: x8 :: x9 :: x10 :: x11 :: x12 :: x13 :: x14 :: x15 :: x16 :: x17 :: x18 :: x19 :: x20 :: x21 :: x22 :: x23 :: x24 :: x25 :: x26 :: x27 :: x28 :: x29 :: x30 :: x31 :: x32 :: x33 :: x34 :: x35 :: x36 :: x37 :: x38 :: x39 :: x40 :: x41 :: x42 :: x43 :: x44 :: x45 :: x46 :: x47 :: x48 :: x49 :: x50 :: x51 :: x52 :: x53 :: x54 :: x55 :: x56 :: x57 :: x58 :: x59 :: x60 :: x61 :: x62 :: x63 :: x64 :: x65 :: x66 :: x67 :: x68 :: x69 :: x70 :: x71 :: x72 :: x73 :: x74 :: x75 :: x76 :: x77 :: x78 :: x79 :: x80 :: x81 :: x82 :: x83 :: x84 :: x85 :: x86 :: x87 :: []
  | x0 :: x1 :: x2 :: x3 :: x4 :: x5 :: x6 :: x7 :: x8 :: x9 :: x10 :: x11 :: x12 :: x13 :: x14 :: x15 :: x16 :: x17 :: x18 :: x19 :: x20 :: x21 :: x22 :: x23 :: x24 :: x25 :: x26 :: x27 :: x28 :: x29 :: x30 :: x31 :: x32 :: x33 :: x34 :: x35 :: x36 :: x37 :: x38 :: x39 :: x40 :: x41 :: x42 :: x43 :: x44 :: x45 :: x46 :: x47 :: x48 :: x49 :: x50 :: x51 :: x52 :: x53 :: x54 :: x55 :: x56 :: x57 :: x58 :: x59 :: x60 :: x61 :: x62 :: x63 :: x64 :: x65 :: x66 :: x67 :: x68 :: x69 :: x70 :: x71 :: x72 :: x73 :: x74 :: x75 :: x76 :: x77 :: x78 :: x79 :: x80 :: x81 :: x82 :: x83 :: x84 :: x85 :: x86 :: x87 :: [], _ => ⟨_, _, _, _, _, _, _, _, _, _, _, _, _, _, _, _, _, _, _, _, _, _, _, _, _, _, _, _, _, _, _, _, _, _, _, _, _, _, _, _, _, _, _, _, _, _, _, _, _, _, _, _, _, _, _, _, _, _, _, _, _, _, _, _, _, _, _, _, _, _, _, _, _, _, _, _, _, _, _, _, _, _, _, _, _, _, _, _, rfl⟩
def S46 (B : Nat) (by_ : Value) (at_ last : Int) (text : ByteArray) : Nat → Value → World → Prop
  | 0, v, _ => v = by_
  | 1, v, _ => v = .bool true
  | 2, v, _ => v = .int .i64 0
  | 3, v, _ => v = .pointer (some ⟨B, 0, none⟩)
  | 4, v, _ => v = .int .i64 at_
  | 5, v, _ => v = .bool true
  | 6, v, _ => v = .int .i64 0
  | 7, v, _ => v = .pointer (some ⟨B, 0, none⟩)
  | 8, v, _ => v = .int .i64 at_
  | 9, v, _ => v = .int .i64 last
  | 10, v, _ => v = .bool true
  | 11, v, _ => v = .int .i64 0
  | 12, v, _ => v = .pointer (some ⟨B, 2, none⟩)
  | 13, v, _ => v = .string text
  | 14, v, _ => v = .int .i64 (text.size : Int)
  | 15, v, _ => v = .bool true
  | 16, v, _ => v = .int .i64 0
  | 17, v, _ => v = .bool false
  | 18, v, _ => v = .bool true
  | 19, v, _ => v = .int .i64 0
  | 20, v, W => ∃ g, v = .slice (some ⟨g, 0, none⟩) 5 5 ∧ B ≤ g ∧ W.heap[g]? = some (.cells #[.int .i64 0, .int .i64 0, .int .i64 0, .int .i64 0, .int .i64 0] 28 (0, 0))
  | 21, v, _ => v = .int .i64 0
  | 22, v, _ => v = .int .i64 0
  | _, _, _ => True
theorem S46_st {B : Nat} {by_ : Value} {at_ last : Int} {text : ByteArray} (j : Nat) (u : Value) (W W' : World) (hb : Below W.heap.size W W') (h : S46 B by_ at_ last text j u W) : S46 B by_ at_ last text j u W' := by
  unfold S46 at h ⊢
  split at h
  case h_21 => obtain ⟨g, e, hB, hh⟩ := h; exact ⟨g, e, hB, (hb.block g (Array.getElem?_eq_some_iff.1 hh).1).trans hh⟩
  all_goals exact h
end Go.Lift
set_option linter.unusedSectionVars false
set_option linter.unusedSimpArgs false
set_option linter.unusedVariables false
namespace Go.Lift
open Go Go.Proofs Go.RowKit Go.Shelf
attribute [local go_sem] Oper.semAt_some run_store_func
def oddP (c : Nat) : Bool := !(decide (32 ≤ c) && decide (c ≤ 126))
theorem odd79 {M : Mem} {w : World} (hg : Good M w) : PredGrows Tryz.prog 79 #[] oddP w := by
  intro W c hc hb
  rw [show (#[encR c] ++ #[] : Array Value) = #[.int .i32 (c : Int)] from rfl]
  have hw := within_calls (good_below hg hb) (mill_within_ok (c : Int) 32 126)
  go_enter Tryz.func79, Tryz.ntmps79
  go_wp2_with (go_at_call 49; refine Calls.mono hw ?_; clear hw; rintro e w1 ⟨hb1, rfl⟩)
  go_ret
  refine ⟨?_, hb1⟩
  unfold oddP
  by_cases h1 : 32 ≤ c <;> by_cases h2 : c ≤ 126 <;> simp [h1, h2] <;> omega
set_option maxHeartbeats 8000000 in
set_option maxRecDepth 100000 in
theorem enter46 {M : Mem} {w : World} (hg : Good M w) {x bp op cp i f : Nat} {LC : Array Value} {ps : List (ByteArray × Int)} {p : ByteArray × Int} {tby text : ByteArray} {at_ last role words : Int} {rest : Bool}
    (hl : w.heap[x]? = some (.cells LC 113 (0, 0))) (h0 : LC[0]? = some (.slice (some ⟨bp, op, none⟩) ps.length cp)) (hps : PersonsAt w bp op ps) (hlen : ps.length ≤ 1000) (hi : ps[i]? = some p) (hp : p.1.toList = tby.toList) (hne : ∀ j q, j < i → ps[j]? = some q → (q.1.toList == tby.toList) = false)
    (ha0 : 0 ≤ at_) (ha1 : at_ ≤ 1000000000000) (hla : last ≤ at_) (ht : text.size ≤ 300) (hodd : decide (0 ≤ Lib.idxFunc oddP true text) = false)
    (hverb : ∀ W, Calls Tryz.prog 81 #[.string ⟨(Lib.cut text.data.toList [32]).1.toArray⟩] W fun e w' => Below W.heap.size W w' ∧ e = .returned (.tuple #[verbV role words 0 rest f, .bool true])) (hrole : role ≤ p.2)
    {PP : Option Addr → Nat → Nat → World → Prop} {s2 : ByteArray} (hparse : ∀ W, Below w.heap.size w W → Calls Tryz.prog 82 #[verbV role words 0 rest f, .string text] W fun e w' => Below W.heap.size W w' ∧ ∃ a n c, e = .returned (.tuple #[.agg #[.slice a n c, .slice none 0 0, .string s2], .bool true]) ∧ PP a n c w')
    (hst : ∀ a n c W W', Below W.heap.size W W' → PP a n c W → PP a n c W')
    (eg : ∀ args W, (callFunc f args).run Tryz.prog W = .ok (.enter f args) W)
    {R : Int → World → Prop} (hrun : ∀ W a n c, Below w.heap.size w W → PP a n c W → Calls Tryz.prog f #[.pointer (some ⟨x, 0, none⟩), .agg #[.slice a n c, .slice none 0 0, .string s2]] W fun e w' => ∃ k, e = .returned (.int .i64 k) ∧ R k w') :
    Calls Tryz.prog 46 #[.pointer (some ⟨x, 0, none⟩), .agg #[.int .i64 at_, .string tby, .string text], .int .i64 last] w fun e w' => ∃ k, e = .returned (.int .i64 k) ∧ R k w' := by
  obtain ⟨w1, hw1⟩ : ∃ w1, w.alloc (.cells #[.int .i64 at_, .string tby, .string text] 54) = w1 := ⟨_, rfl⟩
  have hb1 : Below w.heap.size w w1 := by rw [← hw1]; exact below_new w _
  have he1 : w1.heap[w.heap.size]? = some (.cells #[.int .i64 at_, .string tby, .string text] 54 (0, 0)) := by rw [← hw1]; exact World.alloc_heap_new w _
  have l1 := cell_at (line_cells hl hb1) h0
  have e1 : w1.cell? ⟨w.heap.size, 1, none⟩ = some (.string tby) := cell_at he1 rfl
  have hf := find76 (hps.below hb1) e1 hlen (c := cp) hi hp hne
  have hct := fun W (hB : Below w.heap.size w W) => Tryz.strings_ContainsFunc_grows 79 #[] (fun _ _ => rfl) oddP text W (odd79 (good_below hg hB))
  rw [hodd] at hct
  obtain ⟨m, hm⟩ := maxLen_cell hg
  have hcut : ∀ W, Below w.heap.size w W → _ := fun W hB => Tryz.strings_Cut text ⟨#[32]⟩ m W (by omega) ((World.cell?_of_block (hB.block 4 (World.block_lt_of_cell? w _ hm))).trans hm)
  go_enter Tryz.func46, Tryz.ntmps46
  go_wp2_with (first | (go_at_call 76; refine Calls.mono hf ?_; clear hf; rintro e w2 ⟨hb2, rfl⟩; have hB2 := below_trans hb1 hb2; have e2 : w2.cell? ⟨w.heap.size, 2, none⟩ = some (.string text) := cell_at ((hb2.block _ (Array.getElem?_eq_some_iff.1 he1).1).trans he1) rfl) | (go_at_call 78; refine Calls.mono (hct _ hB2) ?_; clear hct; rintro e w3 ⟨rfl, hb3⟩))
  have hB3 := below_trans hB2 hb3
  have he3 := (below_trans hb2 hb3).block _ (Array.getElem?_eq_some_iff.1 he1).1 |>.trans he1
  have hx1 : PersonsAt w3 bp op ps := (hps.below hB3)
  have hsz : ((text.size : Nat) : Int) ≤ 300 := by omega
  clear he1 e1 e2
  rename_i a1
  refine any_stable (by kernel_rfl) (by kernel_rfl) (by kernel_rfl) (S46 w.heap.size (.pointer (some ⟨bp, op + i * 2, none⟩)) at_ last text) (fun _ => none) (fun W => Below w3.heap.size w3 W) (below_drew _) (dsts_ok (by kernel_rfl)) (fun W W' hb h => below_trans h hb) (fun j u W W' hb h => S46_st j u W W' hb h) ?step ?fin
  case step =>
    intro k o ho a W hJ hs hd hfr hS
    have hBW := below_trans hB3 hJ
    have hgW := good_below hg hBW
    have he := (hJ.block _ (Array.getElem?_eq_some_iff.1 he3).1).trans he3
    have c0 : W.cell? ⟨w.heap.size, 0, none⟩ = some (.int .i64 at_) := cell_at he rfl
    have c2 : W.cell? ⟨w.heap.size, 2, none⟩ = some (.string text) := cell_at he rfl
    clear he
    obtain ⟨⟨l⟩, df⟩ := a
    simp only at hd
    subst hd
    obtain ⟨x0, x1, x2, x3, x4, x5, x6, x7, x8, x9, x10, x11, x12, x13, x14, x15, x16, x17, x18, x19, x20, x21, x22, x23, x24, x25, x26, x27, x28, x29, x30, x31, x32, x33, x34, x35, x36, x37, x38, x39, x40, x41, x42, x43, x44, x45, x46, x47, x48, x49, x50, x51, x52, x53, x54, x55, x56, x57, x58, x59, x60, x61, x62, x63, x64, x65, x66, x67, x68, x69, x70, x71, x72, x73, x74, x75, x76, x77, x78, x79, x80, x81, x82, x83, x84, x85, x86, x87, rfl⟩ := list88 l hs
    have hk2 : x2 = .int .i64 last := hfr 2 (by decide)
    have hk4 : x4 = .pointer (some ⟨w.heap.size, 0, none⟩) := hfr 4 (by decide)
    have hk7 : x7 = .pointer (some ⟨bp, op + i * 2, none⟩) := hfr 7 (by decide)
    have hk8 : x8 = .bool false := hfr 8 (by decide)
    subst hk2 hk4 hk7 hk8
    match k, ho with
    | 0, ho =>
      cases ho
      refine wpOp_step rfl fun K' hK => ?_
      go_simp
      exact hK _ _ ⟨_, rfl, fun _ => rfl, .inl (Below.refl _ _)⟩
    | 1, ho =>
      cases ho
      have e : x28 = _ := hS 0 _ 28 rfl rfl rfl (.inl rfl)
      subst e
      refine wpOp_step rfl fun K' hK => ?_
      go_simp
      exact hK _ _ ⟨_, rfl, fun _ => rfl, .inl (Below.refl _ _)⟩
    | 2, ho =>
      cases ho
      have e : x29 = _ := hS 1 _ 29 rfl rfl rfl (.inl rfl)
      subst e
      refine wpOp_step rfl fun K' hK => ?_
      go_simp
      refine Calls.mono (unless_calls hgW true _) ?_
      rintro e w4 ⟨hb4, rfl⟩
      exact hK _ _ ⟨_, rfl, fun _ => rfl, .inl hb4⟩
    | 3, ho =>
      cases ho
      refine wpOp_step rfl fun K' hK => ?_
      go_simp
      exact hK _ _ ⟨_, rfl, fun _ => rfl, .inl (Below.refl _ _)⟩
    | 4, ho =>
      cases ho
      have e : x31 = _ := hS 3 _ 31 rfl rfl rfl (.inl rfl)
      subst e
      refine wpOp_step rfl fun K' hK => ?_
      go_simp
      exact hK _ _ ⟨_, rfl, fun _ => rfl, .inl (Below.refl _ _)⟩
    | 5, ho =>
      cases ho
      have e : x32 = _ := hS 4 _ 32 rfl rfl rfl (.inl rfl)
      subst e
      refine wpOp_step rfl fun K' hK => ?_
      go_simp
      refine Calls.mono (within_calls hgW (mill_within_ok at_ 0 1000000000000)) ?_
      rintro e w4 ⟨hb4, rfl⟩
      rw [decide_eq_true (show 0 ≤ at_ ∧ at_ ≤ 1000000000000 from ⟨ha0, ha1⟩)]
      exact hK _ _ ⟨_, rfl, fun _ => rfl, .inl hb4⟩
    | 6, ho =>
      cases ho
      have e : x33 = _ := hS 5 _ 33 rfl rfl rfl (.inl rfl)
      subst e
      refine wpOp_step rfl fun K' hK => ?_
      go_simp
      refine Calls.mono (unless_calls hgW true _) ?_
      rintro e w4 ⟨hb4, rfl⟩
      exact hK _ _ ⟨_, rfl, fun _ => rfl, .inl hb4⟩
    | 7, ho =>
      cases ho
      refine wpOp_step rfl fun K' hK => ?_
      go_simp
      exact hK _ _ ⟨_, rfl, fun _ => rfl, .inl (Below.refl _ _)⟩
    | 8, ho =>
      cases ho
      have e : x35 = _ := hS 7 _ 35 rfl rfl rfl (.inl rfl)
      subst e
      refine wpOp_step rfl fun K' hK => ?_
      go_simp
      exact hK _ _ ⟨_, rfl, fun _ => rfl, .inl (Below.refl _ _)⟩
    | 9, ho =>
      cases ho
      refine wpOp_step rfl fun K' hK => ?_
      go_simp
      exact hK _ _ ⟨_, rfl, fun _ => rfl, .inl (Below.refl _ _)⟩
    | 10, ho =>
      cases ho
      have e : x36 = _ := hS 8 _ 36 rfl rfl rfl (.inl rfl)
      subst e
      have e : x37 = _ := hS 9 _ 37 rfl rfl rfl (.inl rfl)
      subst e
      refine wpOp_step rfl fun K' hK => ?_
      go_simp
      exact hK _ _ ⟨_, rfl, fun _ => rfl, .inl (Below.refl _ _)⟩
    | 11, ho =>
      cases ho
      have e : x38 = _ := hS 10 _ 38 rfl rfl rfl (.inl rfl)
      subst e
      refine wpOp_step rfl fun K' hK => ?_
      go_simp
      refine Calls.mono (unless_calls hgW true _) ?_
      rintro e w4 ⟨hb4, rfl⟩
      exact hK _ _ ⟨_, rfl, fun _ => rfl, .inl hb4⟩
    | 12, ho =>
      cases ho
      refine wpOp_step rfl fun K' hK => ?_
      go_simp
      exact hK _ _ ⟨_, rfl, fun _ => rfl, .inl (Below.refl _ _)⟩
    | 13, ho =>
      cases ho
      have e : x40 = _ := hS 12 _ 40 rfl rfl rfl (.inl rfl)
      subst e
      refine wpOp_step rfl fun K' hK => ?_
      go_simp
      exact hK _ _ ⟨_, rfl, fun _ => rfl, .inl (Below.refl _ _)⟩
    | 14, ho =>
      cases ho
      have e : x41 = _ := hS 13 _ 41 rfl rfl rfl (.inl rfl)
      subst e
      refine wpOp_step rfl fun K' hK => ?_
      go_simp
      exact hK _ _ ⟨_, rfl, fun _ => rfl, .inl (Below.refl _ _)⟩
    | 15, ho =>
      cases ho
      have e : x42 = _ := hS 14 _ 42 rfl rfl rfl (.inl rfl)
      subst e
      refine wpOp_step rfl fun K' hK => ?_
      go_simp
      exact hK _ _ ⟨_, rfl, fun _ => rfl, .inl (Below.refl _ _)⟩
    | 16, ho =>
      cases ho
      have e : x43 = _ := hS 15 _ 43 rfl rfl rfl (.inl rfl)
      subst e
      refine wpOp_step rfl fun K' hK => ?_
      go_simp
      refine Calls.mono (unless_calls hgW true _) ?_
      rintro e w4 ⟨hb4, rfl⟩
      exact hK _ _ ⟨_, rfl, fun _ => rfl, .inl hb4⟩
    | 17, ho =>
      cases ho
      refine wpOp_step rfl fun K' hK => ?_
      go_simp
      exact hK _ _ ⟨_, rfl, fun _ => rfl, .inl (Below.refl _ _)⟩
    | 18, ho =>
      cases ho
      have e : x45 = _ := hS 17 _ 45 rfl rfl rfl (.inl rfl)
      subst e
      refine wpOp_step rfl fun K' hK => ?_
      go_simp
      exact hK _ _ ⟨_, rfl, fun _ => rfl, .inl (Below.refl _ _)⟩
    | 19, ho =>
      cases ho
      have e : x46 = _ := hS 18 _ 46 rfl rfl rfl (.inl rfl)
      subst e
      refine wpOp_step rfl fun K' hK => ?_
      go_simp
      refine Calls.mono (unless_calls hgW true _) ?_
      rintro e w4 ⟨hb4, rfl⟩
      exact hK _ _ ⟨_, rfl, fun _ => rfl, .inl hb4⟩
    | 20, ho =>
      cases ho
      have e : x30 = _ := hS 2 _ 30 rfl rfl rfl (.inl rfl)
      subst e
      have e : x34 = _ := hS 6 _ 34 rfl rfl rfl (.inl rfl)
      subst e
      have e : x39 = _ := hS 11 _ 39 rfl rfl rfl (.inl rfl)
      subst e
      have e : x44 = _ := hS 16 _ 44 rfl rfl rfl (.inl rfl)
      subst e
      have e : x47 = _ := hS 19 _ 47 rfl rfl rfl (.inl rfl)
      subst e
      refine wpOp_step rfl fun K' hK => ?_
      go_simp
      exact hK _ _ ⟨_, rfl, fun _ => ⟨_, rfl, hBW.size, World.alloc_heap_new _ _⟩, .inl (below_new _ _)⟩
    | 21, ho =>
      cases ho
      obtain ⟨g, e, hg1, hg2⟩ : ∃ g, x48 = .slice (some ⟨g, 0, none⟩) 5 5 ∧ w.heap.size ≤ g ∧ W.heap[g]? = some (.cells #[.int .i64 0, .int .i64 0, .int .i64 0, .int .i64 0, .int .i64 0] 28 (0, 0)) := hS 20 _ 48 rfl rfl rfl (.inl rfl)
      subst e
      refine wpOp_step rfl fun K' hK => ?_
      go_simp
      refine Calls.mono (first_calls (l := List.replicate 5 0) hg hBW hg2 hg1 first_5) ?_
      rintro e w4 ⟨hb4, rfl⟩
      exact hK _ _ ⟨_, rfl, fun _ => rfl, .inl hb4⟩
    | 22, ho =>
      cases ho
      have e : x49 = _ := hS 21 _ 49 rfl rfl rfl (.inl rfl)
      subst e
      refine wpOp_step rfl fun K' hK => ?_
      go_simp
      exact hK _ _ ⟨_, rfl, fun _ => rfl, .inl (Below.refl _ _)⟩
    | k + 23, ho => cases ho
  case fin =>
    intro a W hJ hs hd hfr hS
    obtain ⟨⟨l⟩, df⟩ := a
    simp only at hd
    subst hd
    obtain ⟨x0, x1, x2, x3, x4, x5, x6, x7, x8, x9, x10, x11, x12, x13, x14, x15, x16, x17, x18, x19, x20, x21, x22, x23, x24, x25, x26, x27, x28, x29, x30, x31, x32, x33, x34, x35, x36, x37, x38, x39, x40, x41, x42, x43, x44, x45, x46, x47, x48, x49, x50, x51, x52, x53, x54, x55, x56, x57, x58, x59, x60, x61, x62, x63, x64, x65, x66, x67, x68, x69, x70, x71, x72, x73, x74, x75, x76, x77, x78, x79, x80, x81, x82, x83, x84, x85, x86, x87, rfl⟩ := list88 l hs
    have hk0 : x0 = .pointer (some ⟨x, 0, none⟩) := hfr 0 (by decide)
    have hk4 : x4 = .pointer (some ⟨w.heap.size, 0, none⟩) := hfr 4 (by decide)
    have hk7 : x7 = .pointer (some ⟨bp, op + i * 2, none⟩) := hfr 7 (by decide)
    have e : x9 = _ := hS 22 _ 9 rfl rfl rfl
    subst e hk0 hk4 hk7
    have hBW := below_trans hB3 hJ
    have he4 := (hJ.block _ (Array.getElem?_eq_some_iff.1 he3).1).trans he3
    have c2 : W.cell? ⟨w.heap.size, 2, none⟩ = some (.string text) := cell_at he4 rfl
    have hB4 : Below w.heap.size w W := hBW
    have cut4 := hcut W hBW
    have p4 := hps.below hBW i p hi
    have q1 := p4.2
    have pnn : (Addr.mk bp (op + i * 2) none).add 1 = ⟨bp, op + i * 2 + 1, none⟩ := rfl
    clear p4 hcut hi hp hne hodd hps
    unfold verbV at hverb hparse
    go_wp2_with (first | (go_at_call 80; refine Calls.mono cut4 ?_; clear cut4; rintro e w5 ⟨rfl, n5, rfl⟩) | (go_at_call 81; refine Calls.mono (hverb _) ?_; clear hverb; rintro e w6 ⟨hb6, rfl⟩))
    obtain ⟨w7, hw7⟩ : ∃ w7, w6.alloc (.cells #[.int .i64 role, .int .i64 words, .int .i64 0, .bool rest, .func (.func f) #[] #[]] 163) = w7 := ⟨_, rfl⟩
    have hb5 : Below W.heap.size W w6 := below_trans (below_drewN W n5) hb6
    have hb7 : Below w6.heap.size w6 w7 := by rw [← hw7]; exact below_new w6 _
    have hv7 : w7.heap[w6.heap.size]? = some (.cells #[.int .i64 role, .int .i64 words, .int .i64 0, .bool rest, .func (.func f) #[] #[]] 163 (0, 0)) := by rw [← hw7]; exact World.alloc_heap_new w6 _
    rw [hw7]
    clear hw7
    have hb57 := below_trans hb5 hb7
    have hd7 : Below w7.heap.size w7 w7.drew := below_drew w7
    have q2 : w7.drew.cell? ⟨bp, op + i * 2 + 1, none⟩ = some (.int .i64 p.2) := (World.cell?_of_block ((below_trans hb57 hd7).block _ (World.block_lt_of_cell? _ _ q1))).trans q1
    have q3 : w7.drew.cell? ⟨w6.heap.size, 0, none⟩ = some (.int .i64 role) := cell_at ((hd7.block _ (Array.getElem?_eq_some_iff.1 hv7).1).trans hv7) rfl
    have hr7 : ¬ (p.2 < role) := by omega
    go_region
    all_goals
      have hB8 := below_trans hB4 (below_trans hb57 hd7)
      have hp8 := hparse _ hB8
      have v80 : w7.drew.cell? ⟨w6.heap.size, 1, none⟩ = some (.int .i64 words) := cell_at ((hd7.block _ (Array.getElem?_eq_some_iff.1 hv7).1).trans hv7) rfl
      have v81 : w7.drew.cell? ⟨w6.heap.size, 2, none⟩ = some (.int .i64 0) := cell_at ((hd7.block _ (Array.getElem?_eq_some_iff.1 hv7).1).trans hv7) rfl
      have v82 : w7.drew.cell? ⟨w6.heap.size, 3, none⟩ = some (.bool rest) := cell_at ((hd7.block _ (Array.getElem?_eq_some_iff.1 hv7).1).trans hv7) rfl
      have v83 : w7.drew.cell? ⟨w6.heap.size, 4, none⟩ = some (.func (.func f) #[] #[]) := cell_at ((hd7.block _ (Array.getElem?_eq_some_iff.1 hv7).1).trans hv7) rfl
      have q4 : w7.drew.cell? ⟨w.heap.size, 2, none⟩ = some (.string text) := (World.cell?_of_block ((below_trans hb57 hd7).block _ (World.block_lt_of_cell? _ _ c2))).trans c2
      go_wp2_with (first | (go_at_call 82; go_loud (refine Calls.mono hp8 ?_; clear hp8 hparse; rintro e w8 ⟨hb8, ya, yn, yc, rfl, hPP⟩; have z3 := (World.cell?_of_block (hb8.block _ (World.block_lt_of_cell? _ _ v83))).trans v83; obtain ⟨w9, hw9⟩ : ∃ w9, w8.alloc (.cells #[.slice ya yn yc, .slice none 0 0, .string s2] 167) = w9 := ⟨_, rfl⟩; have hb9 := below_new w8 (.cells #[.slice ya yn yc, .slice none 0 0, .string s2] 167); have z5 := World.alloc_heap_new w8 (.cells #[.slice ya yn yc, .slice none 0 0, .string s2] 167); rw [hw9] at hb9 z5; have z4 := (World.cell?_of_block (hb9.block _ (World.block_lt_of_cell? _ _ z3))).trans z3; have z6 : w9.cell? ⟨w8.heap.size, 0, none⟩ = some (.slice ya yn yc) := cell_at z5 rfl; have z7 : w9.cell? ⟨w8.heap.size, 1, none⟩ = some (.slice none 0 0) := cell_at z5 rfl; have z8 : w9.cell? ⟨w8.heap.size, 2, none⟩ = some (.string s2) := cell_at z5 rfl; have hr9 := hrun w9 ya yn yc (below_trans hB8 (below_trans hb8 hb9)) (hst _ _ _ _ _ hb9 hPP))) | (refine Calls.mono hr9 ?_; rintro e w10 ⟨k10, rfl, hR⟩))
      go_ret
      exact ⟨k10, rfl, hR⟩
end Go.Lift
