/-
  The contract of Cheapest.
-/
import Derived.Test.YtbmclapepgfjhaaGreatManC
import Derived.Test.YtbmclapepgfjhaaGreatLiftI
set_option linter.unusedSectionVars false
set_option linter.unusedVariables false
set_option linter.unusedSimpArgs false
namespace Go.Lift
open Go Go.Proofs Go.RowKit
noncomputable def c24 : Code := Tryz.f8.body.getD .skip
abbrev TS : Ty := .seq TI
abbrev y6d : List Ty := [TI, .int .i64, .int .i64]
abbrev l24 (r : z03) (cs : List (List Int)) : z7p := [(7, .data (.ptr z0c) r []), (9, .bptr 9 []), (10, .bptr 10 []), (26, .data TS cs [])]
abbrev b24 : Option (List Int × Int) → List (Nat × Box)
 | none => [(9, ⟨25, TI, [], [([], none)], false⟩), (10, ⟨3, .int .i64, (0 : Int), [], false⟩)]
 | some (s, c) => [(9, ⟨25, TI, s, [], false⟩), (10, ⟨3, .int .i64, c, [], false⟩)]
abbrev R24 : Type := (z7p × List (Nat × Box)) ⊕ (List Int × Int × Int)
noncomputable abbrev cx24 : Ctx := cx [] [zbb, zce, z6e, z92]
noncomputable def K24 (e : Ex) (τ : St) : Option R24 := match e with
 | .normal => match frzs [7] τ with
  | some τ' => some (.inl (obsE [7, 9, 10, 26] [9, 10] τ', obsX [9, 10] τ'))
  | none => none
 | .ret => match results cx24 τ y6d Tryz.f8.results.toList with
  | some x => some (.inr x)
  | none => none
 | .exit _ => none
noncomputable def E24 (e : Ex) (τ : St) : Option (List Int × Int × Int) := match e with
 | .ret => results cx24 τ y6d Tryz.f8.results.toList
 | _ => none
noncomputable abbrev q24 (n : Nat) : Code := Nat.rec c24 (fun _ c => Code.snd c) n
noncomputable abbrev y5w : Code := .seq (Code.fst c24) (.seq (Code.fst (q24 1)) (.seq (Code.fst (q24 2)) (.seq (Code.fst (q24 3)) (.seq (Code.fst (q24 4)) (Code.fst (Code.fst (q24 5)))))))
noncomputable def y5a : Code := match Code.fst (Code.snd (Code.fst (q24 5))) with
 | .rangeFunc _ _ asn _ => asn
 | c => c
noncomputable def y58 : Code := match Code.fst (Code.snd (Code.fst (q24 5))) with
 | .rangeFunc _ _ _ c => c
 | c => c
noncomputable abbrev rf24 : Code := .rangeFunc (.tmp 26) #[27] y5a y58
section
variable (r : z0i) (l : List z02) (x : z03) (s t : List Int) (c : Int) (cs : List (List Int))
theorem h24 : z2k cx24 y5w .nil (stOf [(0, .data z0p r []), (1, .data (.slice z0a) l [])]) K24 =
 (z5l r l).bind fun x => bif x.2 != 0 then some (.inr ([], 0, x.2)) else (z4l (l.length : Int)).bind fun ns => (z1y x.1 ns).bind fun cs => some (.inl (l24 x.1 cs, b24 none)) := by kernel_rfl
theorem n24 : z2k cx24 y5a .nil ((stB (l24 x cs) (b24 none)).setD 27 TI s) (fun ex τ => match ex with
 | .normal => z2k cx24 y58 .nil τ (fun ex τ' => match ex with
  | .normal => some (obsE [7, 9, 10, 26] [9, 10] (τ'.clear (writes rf24)), obsX [9, 10] (τ'.clear (writes rf24)))
  | _ => none)
 | _ => none) = (z1e x s).bind fun n => some (l24 x cs, b24 (some (s, n))) := by kernel_rfl
theorem s24 : z2k cx24 y5a .nil ((stB (l24 x cs) (b24 (some (t, c)))).setD 27 TI s) (fun ex τ => match ex with
 | .normal => z2k cx24 y58 .nil τ (fun ex τ' => match ex with
  | .normal => some (obsE [7, 9, 10, 26] [9, 10] (τ'.clear (writes rf24)), obsX [9, 10] (τ'.clear (writes rf24)))
  | _ => none)
 | _ => none) = (z1e x s).bind fun n => chk (!t.isEmpty) (bif decide (n < c) then some (l24 x cs, b24 (some (s, n))) else some (l24 x cs, b24 (some (t, c)))) := by kernel_rfl
theorem f24n : z2k cx24 (q24 6) .nil (stB (l24 x cs) (b24 none)) E24 = some ([], 0, 12) := by kernel_rfl
theorem f24s : z2k cx24 (q24 6) .nil (stB (l24 x cs) (b24 (some (t, c)))) E24 = chk (!t.isEmpty) (some (t, c, 0)) := by kernel_rfl
end
end Go.Lift
namespace Go.Lift
open Go Go.Proofs Go.RowKit
theorem zsl : COk Tryz.prog cx24 := zum z0z z10 z11 (all_cons zha (all_cons zku (all_cons zd7 (all_cons zgf all_nil))))
theorem zrb (x : z03) : ∀ (cs : List (List Int)) (d : Option (List Int × Int)), zzy x cs d = zjn (zzx x) cs d
 | [], d => rfl
 | s :: cs, d => by
  simp only [zzy, zjn]
  congr 1
  funext d'
  exact zrb x cs d'
theorem step24 (x : z03) (cs : List (List Int)) (s : List Int) (d : Option (List Int × Int)) : z2k cx24 y5a .nil ((stB (l24 x cs) (b24 d)).setD 27 TI s) (fun ex τ => match ex with
   | .normal => z2k cx24 y58 .nil τ (fun ex τ' => match ex with
    | .normal => some (obsE [7, 9, 10, 26] [9, 10] (τ'.clear (writes rf24)), obsX [9, 10] (τ'.clear (writes rf24)))
    | _ => none)
   | _ => none) = (zzx x s d).map fun d' => (l24 x cs, b24 d') := by
 cases d with
 | none =>
  refine (n24 x s cs).trans ?_
  unfold zzx
  cases z1e x s <;> rfl
 | some c =>
  obtain ⟨t, c⟩ := c
  refine (s24 x s t c cs).trans ?_
  unfold zzx
  cases z1e x s with
  | none => rfl
  | some n =>
   simp only [Option.bind_some]
   cases (!t.isEmpty) with
   | false => rfl
   | true =>
    show (bif decide (n < c) then _ else _) = Option.map _ (bif decide (n < c) then _ else _)
    cases decide (n < c) <;> rfl
theorem body24 : c24 = .seq (Code.fst c24) (.seq (Code.fst (q24 1)) (.seq (Code.fst (q24 2)) (.seq (Code.fst (q24 3)) (.seq (Code.fst (q24 4)) (.seq (.seq (Code.fst (Code.fst (q24 5))) (.block 0 rf24)) (q24 6)))))) := by kernel_rfl
theorem zzl {Γ : Ctx} (hC : COk Tryz.prog Γ) {base : Nat} {κ : Nat → Option Nat} {M' : Mem} {σ : St} {a : Act} {w' : World} {fn : Func} {ts : List Ty} {y : Args ts} {ms : List Nat} {M : Mem} {w : World} (hR : Rel Tryz.prog base κ M' σ a w') (hres : results Γ σ ts fn.results.toList = some y) (hbase : base = w.heap.size)
  (hd : a.defers = ms.map fun D => { target := .collected D, args := #[] }) (hn : ms.Nodup) (hm : ∀ D, D ∈ ms → w.heap.size ≤ D ∧ w'.heap[D]? = some (.deferred (some []))) (hbel : Below w.heap.size w w') (hmem : ∀ b, b < w.heap.size → M' b = M b) :
  LeavesInM Fence.wide 3 Tryz.prog fn a.tmps (fun e w' => ∃ M' v, e = .returned v ∧ relR Tryz.prog M' ts y v ∧ Good M' w' ∧ Grow M w M' w') a.defers .returning w' := by
 subst hbase
 rw [hd]
 refine zdw ms w' hn (fun D hD => (hm D hD).2) fun w2 hs hrel hbl => ?_
 have hR2 := hrel _ _ _ _ _ hR
 obtain ⟨v, h4, h5⟩ := y0r hC hR2 hres
 exact ⟨v, h4, M', v, rfl, h5, hR2.good, hbel.trans (hbl w.heap.size (fun D hD => (hm D hD).1) hbel.size), hmem⟩
set_option maxHeartbeats 1000000 in
theorem z38 : Has Tryz.prog z50 := by
 refine ⟨enters_of (by kernel_rfl), fun x res hr M w vs hg hvs => ?_⟩
 obtain ⟨r, l⟩ := x
 have hr : z5a r l = some res := hr
 unfold z5a at hr
 obtain ⟨x, hopen, hr⟩ := Option.bind_eq_some_iff.1 hr
 unfold zd6
 refine (callsIn_wide (n := 3)).1 (callsIn_of_wp_marks (c := c24) Tryz.func8 (by kernel_rfl) True.intro ?_ rfl)
 obtain ⟨rv, _, rfl, hrv, lv, rfl, hlv⟩ := hvs
 obtain ⟨a0, ha0⟩ : ∃ a0 : Act, a0 = { tmps := #[rv, lv] ++ Array.replicate (Tryz.f8.ntmps - (#[rv, lv] : Array Value).size) undef, defers := [] } := ⟨_, rfl⟩
 show c24.wpIn _ _ _ _ { tmps := #[rv, lv] ++ Array.replicate (Tryz.f8.ntmps - (#[rv, lv] : Array Value).size) undef, defers := [] } w
 rw [← ha0]
 have hs0 : a0.tmps.size = 44 := by rw [ha0, Tryz.ntmps8]; simp
 have hd0 : a0.defers = [] := by rw [ha0]
 have hT0 : Thin Tryz.prog M [(0, .data z0p r []), (1, .data (.slice z0a) l [])] a0 w := by
  rw [ha0]
  refine zhu hg fun e he => ?_
  simp only [List.mem_cons, List.not_mem_nil, or_false] at he
  rcases he with rfl | rfl
  ·exact ⟨by show 0 < 2; omega, hrv, rfl⟩
  ·exact ⟨by show 1 < 2; omega, hlv, rfl⟩
 have hop := z7x
 have hh := h24 r l
 rw [hopen, Option.bind_some] at hh
 obtain ⟨y, hy, hy1, hy2⟩ : ∃ y : R24, z2k cx24 y5w .nil (stOf [(0, .data z0p r []), (1, .data (.slice z0a) l [])]) K24 = some y ∧ (∀ z, y = .inr z → z = res) ∧
   (∀ z, y = .inl z → ∃ cs dn, z = (l24 x.1 cs, b24 none) ∧ zzy x.1 cs none = some dn ∧ z2k cx24 (q24 6) .nil (stB (l24 x.1 cs) (b24 dn)) E24 = some res) := by
  cases hc : (x.2 != 0) with
  | true =>
   rw [hc, cond_true] at hh hr
   simp only [Option.some.injEq] at hr
   exact ⟨_, hh, fun z hz => (by cases hz; exact hr), fun z hz => by cases hz⟩
  | false =>
   rw [hc, cond_false] at hh hr
   obtain ⟨ns, h1, hr⟩ := Option.bind_eq_some_iff.1 hr
   obtain ⟨cs, h2, hr⟩ := Option.bind_eq_some_iff.1 hr
   obtain ⟨dn, h3, hr⟩ := Option.bind_eq_some_iff.1 hr
   rw [h1, Option.bind_some, h2, Option.bind_some] at hh
   refine ⟨_, hh, fun z hz => (by cases hz), fun z hz => ?_⟩
   cases hz
   refine ⟨cs, dn, rfl, h3, ?_⟩
   cases dn with
   | none => exact (f24n x.1 cs).trans hr
   | some c => exact (f24s x.1 c.1 c.2 cs).trans hr
 obtain ⟨Q, hQ⟩ : ∃ Q : Exit → Act → World → Prop, Q = bodyPostM Fence.wide 3 Tryz.prog Tryz.f8 fun e w' => ∃ M' v, e = .returned v ∧ relR Tryz.prog M' z50.rts res v ∧ Good M' w' ∧ Grow M w M' w' := ⟨_, rfl⟩
 rw [← hQ]
 have fin : ∀ (ms : List Nat) κ' M' σ' a' w', Rel Tryz.prog w.heap.size κ' M' σ' a' w' → zjx w.heap.size M a0 w M' a' w' → (a'.defers = ms.map fun D => { target := .collected D, args := #[] }) → ms.Nodup → (∀ D, D ∈ ms → w.heap.size ≤ D ∧ w'.heap[D]? = some (.deferred (some []))) → results cx24 σ' y6d Tryz.f8.results.toList = some res → Q .ret a' w' := fun ms κ' M' σ' a' w' hR' hk hd hn hm hres => by
  rw [hQ]
  exact zzl zsl hR' hres rfl hd hn hm hk.below hk.mem
 have early : ∀ e κ' M' σ' a' w', e ≠ .normal → Rel Tryz.prog w.heap.size κ' M' σ' a' w' → zjx w.heap.size M a0 w M' a' w' → a'.defers = [] → K24 e σ' = some y → Q (exOf e) a' w' := fun e κ' M' σ' a' w' hne hR' hk hd hK => by
  cases e with
  | normal => exact absurd rfl hne
  | exit i => cases hK
  | ret =>
   simp only [K24] at hK
   split at hK
   ·rename_i z hz
    simp only [Option.some.injEq] at hK
    have := hy1 z hK.symm
    subst this
    exact fin [] κ' M' σ' a' w' hR' hk hd List.nodup_nil (fun D hD => by cases hD) hz
   ·cases hK
 rw [body24]
 refine zl7 z04 zsl hop (.inl ⟨rfl, by decide⟩) hy (by rw [hs0]; kernel_rfl) (by kernel_rfl) (zdm hT0) (fun κ1 M1 σ1 a1 w1 hR1 hk1 hd1 h1 => ?_) fun e κ1 M1 σ1 a1 w1 hne hR1 hk1 hd1 h1 => early e κ1 M1 σ1 a1 w1 hne hR1 hk1 (hd1.trans hd0) h1
 replace hd1 := hd1.trans hd0
 refine zl7 z04 zsl hop (.inl ⟨rfl, by decide⟩) h1 (by rw [hk1.size, hs0]; kernel_rfl) (by kernel_rfl) hR1 (fun κ2 M2 σ2 a2 w2 hR2 hk2 hd2 h2 => ?_) fun e κ2 M2 σ2 a2 w2 hne hR2 hk2 hd2 h2 => early e κ2 M2 σ2 a2 w2 hne hR2 (hk1.trans hk2) (hd2.trans hd1) h2
 replace hd2 := hd2.trans hd1
 replace hk2 := hk1.trans hk2
 refine zl7 z04 zsl hop (.inl ⟨rfl, by decide⟩) h2 (by rw [hk2.size, hs0]; kernel_rfl) (by kernel_rfl) hR2 (fun κ3 M3 σ3 a3 w3 hR3 hk3 hd3 h3 => ?_) fun e κ3 M3 σ3 a3 w3 hne hR3 hk3 hd3 h3 => early e κ3 M3 σ3 a3 w3 hne hR3 (hk2.trans hk3) (hd3.trans hd2) h3
 replace hd3 := hd3.trans hd2
 replace hk3 := hk2.trans hk3
 refine zl7 z04 zsl hop (.inl ⟨rfl, by decide⟩) h3 (by rw [hk3.size, hs0]; kernel_rfl) (by kernel_rfl) hR3 (fun κ4 M4 σ4 a4 w4 hR4 hk4 hd4 h4 => ?_) fun e κ4 M4 σ4 a4 w4 hne hR4 hk4 hd4 h4 => early e κ4 M4 σ4 a4 w4 hne hR4 (hk3.trans hk4) (hd4.trans hd3) h4
 replace hd4 := hd4.trans hd3
 replace hk4 := hk3.trans hk4
 refine zl7 z04 zsl hop (.inl ⟨rfl, by decide⟩) h4 (by rw [hk4.size, hs0]; kernel_rfl) (by kernel_rfl) hR4 (fun κ5 M5 σ5 a5 w5 hR5 hk5 hd5 h5 => ?_) fun e κ5 M5 σ5 a5 w5 hne hR5 hk5 hd5 h5 => early e κ5 M5 σ5 a5 w5 hne hR5 (hk4.trans hk5) (hd5.trans hd4) h5
 replace hd5 := hd5.trans hd4
 replace hk5 := hk4.trans hk5
 refine wpIn_seq (wpIn_seq (z6x z04 zsl hop _ (.inl ⟨rfl, by decide⟩) h5 (by rw [hk5.size, hs0]; kernel_rfl) hR5 fun e κ6 M6 σ6 a6 w6 hR6 hF6 h6 => ?_))
 have hk6 := hk5.trans (zi8 hF6)
 have hd6 : a6.defers = [] := by
  obtain ⟨ms, e1, _, _, e4⟩ := hF6.defers
  cases ms with
  | nil => exact e1.trans hd5
  | cons z l => exact absurd (e4 (by simp)) (z97 (by kernel_rfl))
 cases e with
 | exit i => cases h6
 | ret => exact early .ret κ6 M6 σ6 a6 w6 (by intro h; cases h) hR6 hk6 hd6 h6
 | normal =>
  simp only [K24] at h6
  split at h6
  rotate_left
  ·cases h6
  rename_i τ hτ
  simp only [Option.some.injEq] at h6
  obtain ⟨cs, dn, hz, hbest, hfin⟩ := hy2 _ h6.symm
  simp only [Prod.mk.injEq] at hz
  obtain ⟨M7, hR7, hF7⟩ := zfc hR6 hτ
  have hk7 := hk6.trans (zi8 hF7)
  have hR8 := y0x hR7 [7, 9, 10, 26] [9, 10]
  rw [hz.1, hz.2] at hR8
  show (Code.block 0 rf24).wpIn _ _ _ _ a6 w6
  refine wpIn_block ?_
  refine y15 z04 zsl rfl hop rfl (by decide) (step24 x.1 cs) ((zrb x.1 cs none).symm.trans hbest) (by kernel_rfl) (by kernel_rfl) (by rw [hk6.size, hs0]; decide) (by rw [hk6.size, hs0]; kernel_rfl) (by rw [hk6.size, hs0]; kernel_rfl) (hR8.env 26 _ (show envL (l24 x.1 cs) 26 = some (.data TS cs []) from rfl)).1 hR8 fun κ9 M9 a9 w9 D hR9 hk9 hd9 hD hDs htm => ?_
  show (q24 6).wpIn Fence.wide 3 Tryz.prog Q a9 w9
  have hk9' := hk7.trans hk9
  refine z6x z04 zsl hop _ (.inl ⟨rfl, by decide⟩) hfin (by rw [hk9'.size, hs0]; kernel_rfl) hR9 fun e κ10 M10 σ10 a10 w10 hR10 hF10 hk => ?_
  have hk10 := hk9'.trans (zi8 hF10)
  cases e with
  | normal => cases hk
  | exit i => cases hk
  | ret =>
   refine fin [D] κ10 M10 σ10 a10 w10 hR10 hk10 ?_ (List.pairwise_singleton _ _) (fun D' hD' => ?_) hk
   ·obtain ⟨ms, e1, _, _, e4⟩ := hF10.defers
    cases ms with
    | nil => rw [e1]; show a9.defers = _; rw [hd9, hd6]; rfl
    | cons z l => exact absurd (e4 (by simp)) (z97 (by kernel_rfl))
   ·rw [List.mem_singleton.1 hD']
    exact ⟨Nat.le_trans hk7.below.size hDs, hF10.oth D _ hD rfl⟩
end Go.Lift
