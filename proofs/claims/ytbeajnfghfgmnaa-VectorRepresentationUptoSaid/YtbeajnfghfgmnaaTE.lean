/- Contracts and rules that the claim's text uses: YtbLaw8; YtbFin1. No condition. -/
import Derived.Test.YtbeajnfghfgmnaaTD
import Derived.Test.YtbeajnfghfgmnaaRows
/-! YtbLaw8: VectorRepresentation returns true for numbers of at most 1048576 limbs. -/
set_option linter.unusedVariables false
set_option linter.unusedSimpArgs false
set_option maxRecDepth 100000
set_option maxHeartbeats 1000000
namespace Go.Abs
open Go.Proofs
@[go_sem] theorem R10 : Try.f10.results.toList = [.tmp 6] := rfl
theorem vget_reverse (v : Vec) (i : Int) : vget v.reverse i = vget v i := vget_perm (List.reverse_perm v) i
theorem eV_reverse (l : List Ent) : eV l.reverse = (eV l).reverse := by unfold eV; rw [List.map_reverse]
theorem rev_step {l : List Ent} {i : Nat} (h : i < l.length) : (l.drop i).reverse = (l.drop (i + 1)).reverse ++ [l.getD i default] := by rw [drop_get h, List.reverse_cons]
theorem repr_spec (a b : List Ent) (f : Raw) (k : Nat) (ha : OkL a k) (hb : OkL b k) (hf : f.Ok k) (hk1 : 1 ≤ k) (hk : k ≤ 1048576) (hla : a.length ≤ 1099511627776) (hlb : b.length ≤ 1099511627776) :
    PDet Try.prog 10 [EL a, EL b, .agg f.cells] (.bool true) := by
  refine pdet_of E0ok mixed Try.func10 (by kernel_rfl) rfl (by kernel_rfl) (Nat.le_of_ble_eq_true rfl) fun N0 h hn hmen => ?_
  have s1 := lshort_spec a hla
  have s2 := lshort_spec b hlb
  have aw0 := awake_spec
  have oa := shL_ok ha
  have ob := shL_ok hb
  have la := shL_le a
  have lb := shL_le b
  have ra := shL_rg a
  have rb := shL_rg b
  generalize shL a = A at *
  generalize shL b = B at *
  have za := eV_sz oa hk1
  have zb := eV_sz ob hk1
  have na : (eV A).length ≤ 40 := by rw [eV_len]; exact la
  have nb : (eV B).length ≤ 40 := by rw [eV_len]; exact lb
  have m1 : A.length * (k + 1) ≤ 40 * (k + 1) := Nat.mul_le_mul_right _ la
  obtain ⟨k2, hk2⟩ : ∃ k2, k2 = 1 + 40 * (k + 1) := ⟨_, rfl⟩
  have ov : OkL (cE (vcan (eV A))) k2 := by rw [hk2]; exact vadd_ok za na
  have lv : (cE (vcan (eV A))).length ≤ 40 := by rw [cE_len]; have := ra.len; omega
  have or' : OkL A.reverse k := fun e he => oa e (List.mem_reverse.1 he)
  have lr : A.reverse.length ≤ 40 := by rw [List.length_reverse]; exact la
  have n1 := norm_spec A k oa hk1 la (by omega)
  have d1 := addScaled_spec (cE (vcan (eV A))) B f k2 100000000000 ov (ob.mono (by omega)) (hf.mono (by omega)) (by omega) lv lb (by omega) (by omega)
  have d2 := addScaled_spec A.reverse B f k 100000000000 or' ob hf hk1 lr lb (by omega) (by omega)
  have e1 : vcan (eV (cE (vcan (eV A))) ++ smul f.val (eV B)) = vcan (eV A ++ smul f.val (eV B)) := by
    rw [eV_cE]; exact vcan_congr fun i => by rw [vget_append, vget_append, vcan_get]
  have e2 : vcan (eV A.reverse ++ smul f.val (eV B)) = vcan (eV A ++ smul f.val (eV B)) := by
    rw [eV_reverse]; exact vcan_congr fun i => by rw [vget_append, vget_append, vget_reverse]
  have e3 : vcan (eV A.reverse) = vcan (eV A) := by rw [eV_reverse]; exact vcan_congr fun i => vget_reverse _ i
  have e4 : vcan (eV (cE (vcan (eV A)))) = vcan (eV A) := by rw [eV_cE]; exact vcan_congr fun i => vcan_get _ i
  rw [e1] at d1
  rw [e2] at d2
  have zf : ∀ e ∈ smul f.val (eV B), Sz e.2 (k + k) := fun e he => by
    obtain ⟨x, hx, rfl⟩ := List.mem_map.1 he
    exact (hf.sz hk1).mul (zb x hx)
  have zs := vcan_sz (app_sz (k := k + k) (fun e he => (za e he).mono (by omega)) zf) (n := 80) (by rw [List.length_append]; unfold smul; rw [List.length_map]; omega)
  have ns := (ra.app (rb.smul f.val)).len
  have i1 := identical_spec _ _ _ _ zs zs (by omega) (by omega) (by omega) (by omega)
  rw [decide_eq_true rfl] at i1
  have m2 : (cE (vcan (eV A))).length * (k2 + 1) ≤ 9 * (k2 + 1) := Nat.mul_le_mul_right _ (by rw [cE_len]; exact ra.len)
  have m3 : B.length * (k2 + 1) ≤ 40 * (k2 + 1) := Nat.mul_le_mul_right _ lb
  have m4 : B.length * (k + 1) ≤ 40 * (k + 1) := Nat.mul_le_mul_right _ lb
  have m5 : A.reverse.length * (k + 1) ≤ 40 * (k + 1) := Nat.mul_le_mul_right _ lr
  have q1 := dot_spec (cE (vcan (eV A))) B k2 10000000000 ov (ob.mono (by omega)) (by omega) lv lb (by omega) (by omega) (by omega)
  have q2 := dot_spec A.reverse B k 10000000000 or' ob hk1 lr lb (by omega) (by omega) (by omega)
  rw [e4] at q1
  rw [e3] at q2
  have dz : Sz (dotM (vcan (eV A)) (vcan (eV B))) 549755813888 := by
    rw [dotM_eq _ _ (vcan_can _) (vcan_can _)]
    have h1 := vcan_sz za na
    have h2 := vcan_sz zb nb
    have h3 := sumV_sz (f := vget (vcan (eV B))) (k := 1 + 9 * (1 + 40 * (k + 1) + 1)) (fun e he => (h1 e he).mono (by omega)) fun e he => (vget_sz h2 e.1).mono (Nat.add_le_add_left (Nat.mul_le_mul_right _ rb.len) _)
    refine h3.mono ?_
    have := Nat.mul_le_mul_right ((1 + 9 * (1 + 40 * (k + 1) + 1)) + (1 + 9 * (1 + 40 * (k + 1) + 1)) + 1) ra.len
    omega
  have c1 := r3equal_canon _ _ _ _ dz dz (by omega) (by omega)
  rw [decide_eq_true rfl] at c1
  have v1 := vequal_spec (cE (vcan (eV A))) A.reverse k2 100000000000 ov (or'.mono (by omega)) (by omega) lv lr (by omega) (by omega)
  rw [e4, e3, decide_eq_true rfl] at v1
  have t1 := support_spec (cE (vcan (eV A))) k2 ov (by omega) lv (by omega)
  have t2 := support_spec A.reverse k or' hk1 lr (by omega)
  rw [e4] at t1
  rw [e3] at t2
  have u1 := hequal_spec ((vcan (eV A)).map (·.1)) ((vcan (eV A)).map (·.1)) (by rw [List.length_map]; have := ra.len; omega) (by rw [List.length_map]; have := ra.len; omega)
  rw [decide_eq_true rfl] at u1
  clear e1 e2 e3 e4 za zb zf zs dz ov or' ra rb oa ob m1 m2 m3 m4 m5 na nb ns hf ha hb
  generalize cE (vcan (eV A ++ smul f.val (eV B))) = R at *
  generalize cE (vcan (eV A)) = V at *
  generalize List.map (·.1) (vcan (eV A)) = I at *
  generalize dotM (vcan (eV A)) (vcan (eV B)) = q at *
  unfold EL IL rC Raw.cells nl at *
  simp -implicitDefEqProofs (maxSteps := 2000000) (disch := omega) only [go_sem, simprocAttr, -List.reduceReplicate, condB_t, condB_f]
  refine callK_pure s1 ?_
  simp -implicitDefEqProofs (maxSteps := 2000000) (disch := omega) only [go_sem, simprocAttr, -List.reduceReplicate, condB_t, condB_f]
  refine callK_pure s2 ?_
  simp -implicitDefEqProofs (maxSteps := 2000000) (disch := omega) only [go_sem, simprocAttr, -List.reduceReplicate, condB_t, condB_f]
  refine callK_pure n1 ?_
  simp -implicitDefEqProofs (maxSteps := 2000000) (disch := omega) only [go_sem, simprocAttr, -List.reduceReplicate, condB_t, condB_f]
  obtain ⟨idR, hidR⟩ : ∃ idR, idR = N0 + 128 := ⟨_, rfl⟩
  have w1 : (N0 = idR) = False := eq_false (by omega)
  have w2 : (idR = N0) = False := eq_false (by omega)
  have w3 : ∀ q, (N0 = idR + q) = False := fun q => eq_false (by omega)
  have w4 : ∀ q, (idR = idR + q + 1) = False := fun q => eq_false (by omega)
  have hb0 : ∀ k0 b0, k0 ≠ N0 → h k0 = some b0 → k0 ≠ idR ∧ (∀ q, k0 ≠ idR + q) := fun k0 b0 _ hb0 => by
    have := (hmen k0 b0 hb0).1
    exact ⟨by omega, fun q => by omega⟩
  have hsf : ∀ r ∈ [[AV.bool f.s, .sl 1 (numL f.m), .sl 1 (numL f.d)]], ∀ a ∈ r, leafU (· < idR + 8) a := by
    intro r hr a ha; simp only [List.mem_cons, List.not_mem_nil, or_false] at hr; subst hr; simp only [List.mem_cons, List.not_mem_nil, or_false] at ha; rcases ha with rfl | rfl | rfl <;> trivial
  obtain ⟨S, hS⟩ : ∃ S : Nat → ASt, S = fun i => ⟨mkS [(0, .sl 4 (A.map entC)), (1, .sl 4 (B.map entC)), (5, .ptr N0 1 0 0), (7, .sl 4 (V.map entC)), (8, if i = 0 then .sl 4 (A.reverse.map entC) else .row idR (A.length - i) 0 (A.length - i)), (9, .int .i64 ((i : Int) - 1))], mkH h ((N0, ⟨3, [[.bool f.s, .sl 1 (numL f.m), .sl 1 (numL f.d)]]⟩) :: if i = 0 then [] else [(idR, ⟨4, (A.drop i).reverse.map entC⟩)]), idR + 8⟩ := ⟨_, rfl⟩
  apply cutP
  · intro tail
    rcases Nat.eq_zero_or_pos A.length with hz | hz
    · have er : A.reverse.map entC = [] := by rw [List.eq_nil_of_length_eq_zero hz]; rfl
      refine aw_weak (σ1 := S A.length) ?_ tail.out
      rw [hS]
      simp only [hz, ↓reduceIte, er]
      refine Weak.head1w (by simp -implicitDefEqProofs (maxSteps := 2000000) (disch := omega) only [go_sem, simprocAttr, -List.reduceReplicate, condB_t, condB_f]) (by omega) hsf (fun k0 b0 hk0 hb0 => by simp only [upd, mkH, if_neg hk0]; exact hb0) (by omega) hmen ?_
      simp -implicitDefEqProofs (maxSteps := 2000000) (disch := omega) only [go_sem, simprocAttr, -List.reduceReplicate, condB_t, condB_f, AllP, AVle_same, AVle_int, AVle_nil, AVle_row, topU_int, topU_bool, topU_sl, topU_row, topU_ptr, topU_iptr, topU_fn, val, List.drop_length]
    · have hnz : (A.length = 0) = False := eq_false (by omega)
      refine aw_weak (Weak.nilRow (t := 8) (sz := 4) (id := N0 + 128) (by omega) (by omega) (by simp -implicitDefEqProofs (maxSteps := 2000000) (disch := omega) only [go_sem, simprocAttr, -List.reduceReplicate, condB_t, condB_f])) ?_
      rw [← hidR]
      refine aw_weak (σ1 := S A.length) ?_ tail.out
      rw [hS]
      simp only [hnz, ↓reduceIte, List.drop_length, List.reverse_nil, List.map_nil, Nat.sub_self]
      (refine Weak.head2w (by simp -implicitDefEqProofs (maxSteps := 2000000) (disch := omega) only [go_sem, simprocAttr, -List.reduceReplicate, condB_t, condB_f, w1, w2, w3] <;> (try rfl)) (by omega) (by first | exact mapU _ _ _ | (intro r hr; exact absurd hr List.not_mem_nil) | exact mapU entC [_] _ | exact mapU ratC [_] _ | (intro r hr a ha; simp only [List.mem_cons, List.not_mem_nil, or_false] at hr; subst hr; simp only [List.mem_cons, List.not_mem_nil, or_false] at ha; rcases ha with rfl | rfl | rfl <;> trivial)) (by simp -implicitDefEqProofs (maxSteps := 2000000) (disch := omega) only [go_sem, simprocAttr, -List.reduceReplicate, condB_t, condB_f, w1, w2, w3] <;> (try rfl)) (by omega) (by first | exact mapU _ _ _ | (intro r hr; exact absurd hr List.not_mem_nil) | exact mapU entC [_] _ | exact mapU ratC [_] _ | (intro r hr a ha; simp only [List.mem_cons, List.not_mem_nil, or_false] at hr; subst hr; simp only [List.mem_cons, List.not_mem_nil, or_false] at ha; rcases ha with rfl | rfl | rfl <;> trivial)) (fun k0 b0 hk00 hk01 hb0 => by have hk10 : (k0 = _) = False := eq_false hk00; have hk11 : (k0 = _) = False := eq_false hk01; have hk2 := (hmen k0 b0 hb0).1; (simp -implicitDefEqProofs (maxSteps := 2000000) (disch := omega) only [go_sem, simprocAttr, -List.reduceReplicate, condB_t, condB_f, upd, mkH, hk10, hk11]) <;> (try (repeat rw [if_neg (by omega)])) <;> exact hb0) (by omega) hmen ?_; simp -implicitDefEqProofs (maxSteps := 2000000) (disch := omega) only [go_sem, simprocAttr, -List.reduceReplicate, condB_t, condB_f, AllP, AVle_same, AVle_int, AVle_nil, AVle_row, topU_int, topU_bool, topU_sl, topU_row, topU_ptr, topU_iptr, topU_fn, val, List.drop_length])
  · refine aw_loop (X := Nat) S (fun i => i ≤ A.length) (fun i => i) ⟨A.length, Nat.le_refl _, Weak.refl⟩ ?_
    intro i hi
    have hlen : (A.drop i).reverse.length = A.length - i := by rw [List.length_reverse, List.length_drop]
    rw [hS]
    cases i with
    | succ i =>
      have z1 : (((i + 1 : Nat) : Int) - 1) = (i : Int) := by omega
      have z2 : A.length - i = A.length - (i + 1) + 1 := by omega
      have e := rev_step hi
      simp only [Nat.succ_ne_zero, ↓reduceIte]
      rw [z1]
      simp -implicitDefEqProofs (maxSteps := 2000000) (disch := omega) only [go_sem, simprocAttr, -List.reduceReplicate, condB_t, condB_f, w1, w2, w3, hlen]
      refine ⟨i, by omega, by omega, ?_⟩
      cases i with
      | zero =>
        simp only [↓reduceIte]
        rw [List.drop_zero] at e
        have er : A.length - (0 + 1) + 1 = A.length := by omega
        have e2 : (A.drop (0 + 1)).reverse.map entC ++ [entC (A.getD 0 default)] = A.reverse.map entC := by rw [e, List.map_append]; rfl
        refine Weak.headT1 (by simp -implicitDefEqProofs (maxSteps := 2000000) (disch := omega) only [go_sem, simprocAttr, -List.reduceReplicate, condB_t, condB_f, w1, w2, w3] <;> (try rfl)) (by omega) hsf (fun k0 b0 hk0 hb0 => by have hk1 : (k0 = _) = False := eq_false hk0; have hk2 := (hmen k0 b0 hb0).1; simp -implicitDefEqProofs (maxSteps := 2000000) (disch := omega) only [go_sem, simprocAttr, -List.reduceReplicate, condB_t, condB_f, w1, w2, w3, hk1] <;> (try (repeat rw [if_neg (by omega)])) <;> exact hb0) (by omega) hmen ?_
        simp only [AllT]
        refine ⟨.inl (.inr (.inl rfl)), trivial, .inl (.inr (.inl rfl)), trivial, .inl (.inr (.inl rfl)), by show N0 < idR + 8; omega, .inl (.inr (.inl rfl)), trivial, .inr ?_, trivial, .inl (.inr (.inl rfl)), trivial, trivial⟩
        have z3 : (mkH h [(N0, ⟨3, [[.bool f.s, .sl 1 (numL f.m), .sl 1 (numL f.d)]]⟩)]) idR = none := by
          rw [mkH_cons, if_neg (by omega)]; exact hn idR (by omega)
        simp -implicitDefEqProofs (maxSteps := 2000000) (disch := omega) only [go_sem, simprocAttr, -List.reduceReplicate, condB_t, condB_f, er]
        exact .val (.leaf (Thaw.plain (gone_get (by rw [upd_same]) z3) (by simp; omega) (by omega) (by rw [e]; exact List.take_of_length_le (by simp; omega)) (mapP _)))
      | succ i =>
        simp only [Nat.succ_ne_zero, ↓reduceIte, z2]
        (refine Weak.head2w (by simp -implicitDefEqProofs (maxSteps := 2000000) (disch := omega) only [go_sem, simprocAttr, -List.reduceReplicate, condB_t, condB_f, w1, w2, w3, e, hlen] <;> (try rfl)) (by omega) (by first | exact mapU _ _ _ | (intro r hr; exact absurd hr List.not_mem_nil) | exact mapU entC [_] _ | exact mapU ratC [_] _ | (intro r hr a ha; simp only [List.mem_cons, List.not_mem_nil, or_false] at hr; subst hr; simp only [List.mem_cons, List.not_mem_nil, or_false] at ha; rcases ha with rfl | rfl | rfl <;> trivial)) (by simp -implicitDefEqProofs (maxSteps := 2000000) (disch := omega) only [go_sem, simprocAttr, -List.reduceReplicate, condB_t, condB_f, w1, w2, w3, e, hlen] <;> (try rfl)) (by omega) (by first | exact mapU _ _ _ | (intro r hr; exact absurd hr List.not_mem_nil) | exact mapU entC [_] _ | exact mapU ratC [_] _ | (intro r hr a ha; simp only [List.mem_cons, List.not_mem_nil, or_false] at hr; subst hr; simp only [List.mem_cons, List.not_mem_nil, or_false] at ha; rcases ha with rfl | rfl | rfl <;> trivial)) (fun k0 b0 hk00 hk01 hb0 => by have hk10 : (k0 = _) = False := eq_false hk00; have hk11 : (k0 = _) = False := eq_false hk01; have hk2 := (hmen k0 b0 hb0).1; (simp -implicitDefEqProofs (maxSteps := 2000000) (disch := omega) only [go_sem, simprocAttr, -List.reduceReplicate, condB_t, condB_f, upd, mkH, hk10, hk11]) <;> (try (repeat rw [if_neg (by omega)])) <;> exact hb0) (by omega) hmen ?_; simp -implicitDefEqProofs (maxSteps := 2000000) (disch := omega) only [go_sem, simprocAttr, -List.reduceReplicate, condB_t, condB_f, AllP, AVle_same, AVle_int, AVle_nil, AVle_row, topU_int, topU_bool, topU_sl, topU_row, topU_ptr, topU_iptr, topU_fn, val, List.drop_length])
    | zero =>
      simp only [↓reduceIte]
      simp -implicitDefEqProofs (maxSteps := 2000000) (disch := omega) only [go_sem, simprocAttr, -List.reduceReplicate, condB_t, condB_f, w1, w2, w3]
      refine pcallK_pure aw0 ?_
      simp -implicitDefEqProofs (maxSteps := 2000000) (disch := omega) only [go_sem, simprocAttr, -List.reduceReplicate, condB_t, condB_f, w1, w2, w3]
      refine pcallK_pure d1 ?_
      simp -implicitDefEqProofs (maxSteps := 2000000) (disch := omega) only [go_sem, simprocAttr, -List.reduceReplicate, condB_t, condB_f, w1, w2, w3]
      refine pcallK_pure d2 ?_
      simp -implicitDefEqProofs (maxSteps := 2000000) (disch := omega) only [go_sem, simprocAttr, -List.reduceReplicate, condB_t, condB_f, w1, w2, w3]
      refine pcallK_pure i1 ?_
      simp -implicitDefEqProofs (maxSteps := 2000000) (disch := omega) only [go_sem, simprocAttr, -List.reduceReplicate, condB_t, condB_f, w1, w2, w3]
      refine pcallK_pure q1 ?_
      simp -implicitDefEqProofs (maxSteps := 2000000) (disch := omega) only [go_sem, simprocAttr, -List.reduceReplicate, condB_t, condB_f, w1, w2, w3]
      refine pcallK_pure q2 ?_
      simp -implicitDefEqProofs (maxSteps := 2000000) (disch := omega) only [go_sem, simprocAttr, -List.reduceReplicate, condB_t, condB_f, w1, w2, w3]
      refine pcallK_pure c1 ?_
      simp -implicitDefEqProofs (maxSteps := 2000000) (disch := omega) only [go_sem, simprocAttr, -List.reduceReplicate, condB_t, condB_f, w1, w2, w3]
      refine pcallK_pure v1 ?_
      simp -implicitDefEqProofs (maxSteps := 2000000) (disch := omega) only [go_sem, simprocAttr, -List.reduceReplicate, condB_t, condB_f, w1, w2, w3]
      refine pcallK_pure t1 ?_
      simp -implicitDefEqProofs (maxSteps := 2000000) (disch := omega) only [go_sem, simprocAttr, -List.reduceReplicate, condB_t, condB_f, w1, w2, w3]
      refine pcallK_pure t2 ?_
      simp -implicitDefEqProofs (maxSteps := 2000000) (disch := omega) only [go_sem, simprocAttr, -List.reduceReplicate, condB_t, condB_f, w1, w2, w3]
      refine pcallK_pure u1 ?_
      simp -implicitDefEqProofs (maxSteps := 2000000) (disch := omega) only [go_sem, simprocAttr, -List.reduceReplicate, condB_t, condB_f, w1, w2, w3]
      exact dn
end Go.Abs
/-! YtbFin1: How the laws' arguments read; the bulk. No condition. -/
set_option linter.unusedVariables false
set_option linter.unusedSimpArgs false
set_option maxRecDepth 100000
set_option maxHeartbeats 1000000
namespace Go.Abs
open Go.Proofs
open Go.Proofs.Ytbeajnfghfgmnaa Go.RowKit Go.ChangeShapes Go.WideShapes
theorem bulkAll {H : Type} (l : List (DataW H)) : Rows.uptoBulkAll l = (l.map Rows.uptoBulk).sum := by
  induction l with
  | nil => rw [Rows.uptoBulkAll]; rfl
  | cons d l ih => rw [Rows.uptoBulkAll, ih]; rfl
theorem measB : Meas (@Rows.uptoBulk) where
  pos := fun d => by cases d <;> (try rename_i x; cases x) <;> unfold Rows.uptoBulk <;> omega
  slice := fun e s => by rw [Rows.uptoBulk, ← bulkAll]; omega
  agg := fun p => by rw [Rows.uptoBulk, ← bulkAll]; omega
theorem u3 : Try.prog.underlying 3 = some (.int .i64) := by kernel_rfl
theorem u4 : Try.prog.underlying 4 = some .bool := by kernel_rfl
theorem u22 : Try.prog.underlying 22 = some (.slice 3) := by kernel_rfl
theorem u45 : Try.prog.underlying 45 = some (.slice 78) := by kernel_rfl
def fieldsOf (P : Program) (t : TypeId) : Option (List (TypeId × Nat)) :=
  match P.underlying t with
  | some (.struct fs) => some (fs.toList.map fun f => (f.type, f.offset))
  | _ => none
theorem fieldsOf_two {P : Program} {t a b o p : Nat} (h : fieldsOf P t = some [(a, o), (b, p)]) : ∃ f0 f1 : Field, P.underlying t = some (.struct #[f0, f1]) ∧ f0.type = a ∧ f0.offset = o ∧ f1.type = b ∧ f1.offset = p := by
  unfold fieldsOf at h
  split at h
  · rename_i fs hu
    obtain ⟨l⟩ := fs
    injection h with h
    match l, h with
    | [f0, f1], h =>
      simp only [List.map_cons, List.map_nil, List.cons.injEq, Prod.mk.injEq, and_true] at h
      exact ⟨f0, f1, hu, h.1.1, h.1.2, h.2.1, h.2.2⟩
  · cases h
theorem rd_two {P : Program} {t a b : Nat} {A B : Type} {c0 : A → List AV} {c1 : B → List AV} {s0 : A → Nat} {s1 : B → Nat} {ok0 : A → Prop} {ok1 : B → Prop} {μ : ∀ {H : Type}, DataW H → Nat} (hμ : Meas μ) (hf : fieldsOf P t = some [(a, 0), (b, P.cellsOf a)]) (hsz : P.cellsOf t = P.cellsOf a + P.cellsOf b)
    (h0 : Rd μ P a c0 s0 ok0) (h1 : Rd μ P b c1 s1 ok1) : Rd μ P t (A := A × B) (fun x => c0 x.1 ++ c1 x.2) (fun x => s0 x.1 + s1 x.2 + 1) (fun x => ok0 x.1 ∧ ok1 x.2) := by
  obtain ⟨f0, f1, hu, rfl, o0, rfl, o1⟩ := fieldsOf_two hf
  exact Rd.struct2 hμ hu h0 h1 o0 o1 hsz
theorem f54 : fieldsOf Try.prog 54 = some [(4, 0), (52, Try.prog.cellsOf 4)] := by kernel_rfl
theorem f56 : fieldsOf Try.prog 56 = some [(54, 0), (52, Try.prog.cellsOf 54)] := by kernel_rfl
theorem f78 : fieldsOf Try.prog 78 = some [(3, 0), (56, Try.prog.cellsOf 3)] := by kernel_rfl
theorem s54 : Try.prog.cellsOf 54 = Try.prog.cellsOf 4 + Try.prog.cellsOf 52 := by kernel_rfl
theorem s56 : Try.prog.cellsOf 56 = Try.prog.cellsOf 54 + Try.prog.cellsOf 52 := by kernel_rfl
theorem s78 : Try.prog.cellsOf 78 = Try.prog.cellsOf 3 + Try.prog.cellsOf 56 := by kernel_rfl
theorem z78 : Try.prog.cellsOf 78 = 4 := by kernel_rfl
theorem u52 : Try.prog.underlying 52 = some (.slice 127) := by kernel_rfl
theorem u127 : Try.prog.underlying 127 = some (.int .u32) := by kernel_rfl
theorem z127 : Try.prog.cellsOf 127 = 1 := by kernel_rfl
theorem z3 : Try.prog.cellsOf 3 = 1 := by kernel_rfl
abbrev REnt := Int × ((Bool × List Nat) × List Nat)
def toE (x : REnt) : Ent := (x.1, ⟨x.2.1.1, x.2.1.2, x.2.2⟩)
def okN (l : List Nat) : Prop := (∀ n ∈ l, (n : Int) ≤ IntKind.u32.max) ∧ l.length ≤ maxLen
theorem rd52 : Rd (@Rows.uptoBulk) Try.prog 52 (A := List Nat) (fun l => [.sl 1 (l.map fun (n : Nat) => [AV.int .u32 (n : Int)])]) (fun l => (l.map fun _ => 1).sum + 1) okN := Rd.slice measB u52 (Rd.nat measB u127 rfl) z127 (by decide)
theorem rd78 : Rd (@Rows.uptoBulk) Try.prog 78 (A := REnt) (fun x => [AV.int .i64 x.1] ++ ([AV.bool x.2.1.1] ++ [AV.sl 1 (x.2.1.2.map fun (n : Nat) => [AV.int .u32 (n : Int)])] ++ [AV.sl 1 (x.2.2.map fun (n : Nat) => [AV.int .u32 (n : Int)])]))
    (fun x => 1 + ((1 + ((x.2.1.2.map fun _ => 1).sum + 1) + 1) + ((x.2.2.map fun _ => 1).sum + 1) + 1) + 1) (fun x => (IntKind.i64.min ≤ x.1 ∧ x.1 ≤ IntKind.i64.max) ∧ (True ∧ okN x.2.1.2) ∧ okN x.2.2) :=
  rd_two measB f78 s78 (Rd.int measB u3) (rd_two measB f56 s56 (rd_two measB f54 s54 (Rd.bool measB u4) rd52) rd52)
theorem rd56 : Rd (@Rows.uptoBulk) Try.prog 56 (A := (Bool × List Nat) × List Nat) (fun x => [AV.bool x.1.1] ++ [AV.sl 1 (x.1.2.map fun (n : Nat) => [AV.int .u32 (n : Int)])] ++ [AV.sl 1 (x.2.map fun (n : Nat) => [AV.int .u32 (n : Int)])])
    (fun x => (1 + ((x.1.2.map fun _ => 1).sum + 1) + 1) + ((x.2.map fun _ => 1).sum + 1) + 1) (fun x => (True ∧ okN x.1.2) ∧ okN x.2) := rd_two measB f56 s56 (rd_two measB f54 s54 (Rd.bool measB u4) rd52) rd52
theorem rd45 : Rd (@Rows.uptoBulk) Try.prog 45 (A := List REnt) (fun l => [.sl 4 (l.map fun x => [AV.int .i64 x.1] ++ ([AV.bool x.2.1.1] ++ [AV.sl 1 (x.2.1.2.map fun (n : Nat) => [AV.int .u32 (n : Int)])] ++ [AV.sl 1 (x.2.2.map fun (n : Nat) => [AV.int .u32 (n : Int)])]))])
    (fun l => (l.map fun x => 1 + ((1 + ((x.2.1.2.map fun _ => 1).sum + 1) + 1) + ((x.2.2.map fun _ => 1).sum + 1) + 1) + 1).sum + 1) (fun l => (∀ x ∈ l, (IntKind.i64.min ≤ x.1 ∧ x.1 ≤ IntKind.i64.max) ∧ (True ∧ okN x.2.1.2) ∧ okN x.2.2) ∧ l.length ≤ maxLen) := Rd.slice measB u45 rd78 z78 (by decide)
theorem rd22 : Rd (@Rows.uptoBulk) Try.prog 22 (A := List Int) (fun l => [.sl 1 (l.map fun n => [AV.int .i64 n])]) (fun l => (l.map fun _ => 1).sum + 1) (fun l => (∀ n ∈ l, IntKind.i64.min ≤ n ∧ n ≤ IntKind.i64.max) ∧ l.length ≤ maxLen) := Rd.slice measB u22 (Rd.int measB u3) z3 (by decide)
theorem own0 : ownKnob Try.prog.godebug = none := by kernel_rfl
theorem laidOut0 : laidOutB Try.prog = true := by kernel_rfl
theorem read45 : Try.prog.readableRec 45 = true ∧ 45 < Try.prog.types.size := ⟨by kernel_rfl, of_decide_eq_true (by kernel_rfl)⟩
theorem read22 : Try.prog.readableRec 22 = true ∧ 22 < Try.prog.types.size := ⟨by kernel_rfl, of_decide_eq_true (by kernel_rfl)⟩
theorem bulk_cons {H : Type} {d : DataW H} {l : List (DataW H)} : Rows.uptoBulkAll (d :: l) = Rows.uptoBulk d + Rows.uptoBulkAll l := by rw [Rows.uptoBulkAll]
theorem bulk_app {H : Type} (l r : List (DataW H)) : Rows.uptoBulkAll (l ++ r) = Rows.uptoBulkAll l + Rows.uptoBulkAll r := by
  rw [bulkAll, bulkAll, bulkAll, List.map_append, List.sum_append]
theorem le_sum {α : Type} (f : α → Nat) {l : List α} {a : α} (h : a ∈ l) : f a ≤ (l.map f).sum := by
  induction l with
  | nil => cases h
  | cons x l ih =>
    rw [List.map_cons, List.sum_cons]
    rcases List.mem_cons.1 h with rfl | h
    · omega
    · have := ih h; omega
theorem len_le_sum {α : Type} (f : α → Nat) (hf : ∀ a, 1 ≤ f a) (l : List α) : l.length ≤ (l.map f).sum := by
  induction l with
  | nil => exact Nat.zero_le _
  | cons x l ih => have := hf x; rw [List.map_cons, List.sum_cons, List.length_cons]; omega
theorem ones_sum {α : Type} (l : List α) : (l.map fun _ => 1).sum = l.length := by
  induction l with
  | nil => rfl
  | cons x l ih => rw [List.map_cons, List.sum_cons, List.length_cons, ih]; omega
/-- A list of entries, out of what is read. -/
theorem arg45 {H : Type} {enc : TypeId × Value → H} {W : World} {base : Nat} {v : Value} {d : DataW H} {p : List MemPlace} (h : DataW.Trod enc Try.prog W 0 (fun _ => true) true 45 v d p) (hv : Value.okWide Try.prog W .any base 45 v) :
    ∃ l : List Ent, RTop (cfg0 W) v (EL l) ∧ topU (fun _ => False) (EL l) ∧ OkL l (Rows.uptoBulk d) ∧ l.length ≤ Rows.uptoBulk d := by
  obtain ⟨l, _, h2, h3, h4, h5⟩ := arg_one rd45 u45 rfl h hv
  refine ⟨l.map toE, ?_, ?_, fun e he => ?_, ?_⟩
  · have e : EL (l.map toE) = .sl 4 (l.map fun x => [AV.int .i64 x.1] ++ ([AV.bool x.2.1.1] ++ [AV.sl 1 (x.2.1.2.map fun (n : Nat) => [AV.int .u32 (n : Int)])] ++ [AV.sl 1 (x.2.2.map fun (n : Nat) => [AV.int .u32 (n : Int)])])) := by
      unfold EL; rw [List.map_map]; rfl
    rw [e]; exact h2
  · trivial
  · obtain ⟨x, hx, rfl⟩ := List.mem_map.1 he
    obtain ⟨k1, ⟨⟨_, k2, k3⟩, k4, k5⟩⟩ := h5.1 x hx
    have hs := Nat.le_trans (le_sum (fun x : REnt => 1 + ((1 + ((x.2.1.2.map fun _ => 1).sum + 1) + 1) + ((x.2.2.map fun _ => 1).sum + 1) + 1) + 1) hx) (Nat.le_of_succ_le h4)
    simp only [ones_sum] at hs
    have e32 : IntKind.u32.max = 4294967295 := rfl
    exact ⟨fun n hn => by have := k2 n hn; omega, fun n hn => by have := k4 n hn; omega, by show x.2.1.2.length ≤ _; omega, by show x.2.2.length ≤ _; omega⟩
  · rw [List.length_map]
    exact Nat.le_trans (len_le_sum (fun x : REnt => 1 + ((1 + ((x.2.1.2.map fun _ => 1).sum + 1) + 1) + ((x.2.2.map fun _ => 1).sum + 1) + 1) + 1) (fun a => by omega) l) (by omega)
theorem arg22 {H : Type} {enc : TypeId × Value → H} {W : World} {base : Nat} {v : Value} {d : DataW H} {p : List MemPlace} (h : DataW.Trod enc Try.prog W 0 (fun _ => true) true 22 v d p) (hv : Value.okWide Try.prog W .any base 22 v) :
    ∃ l : List Int, RTop (cfg0 W) v (IL l) ∧ topU (fun _ => False) (IL l) ∧ (∀ n ∈ l, -9223372036854775808 ≤ n ∧ n ≤ 9223372036854775807) ∧ l.length ≤ Rows.uptoBulk d := by
  obtain ⟨l, _, h2, h3, h4, h5⟩ := arg_one rd22 u22 rfl h hv
  refine ⟨l, h2, trivial, fun n hn => ?_, ?_⟩
  · exact h5.1 n hn
  · simp only [ones_sum] at h4; omega
theorem u56 : ∃ fs, Try.prog.underlying 56 = some (.struct fs) := let ⟨_, _, h, _⟩ := fieldsOf_two f56; ⟨_, h⟩
theorem read56 : Try.prog.readableRec 56 = true ∧ 56 < Try.prog.types.size := ⟨by kernel_rfl, of_decide_eq_true (by kernel_rfl)⟩
theorem arg56 {H : Type} {enc : TypeId × Value → H} {W : World} {base : Nat} {v : Value} {d : DataW H} {p : List MemPlace} (h : DataW.Trod enc Try.prog W 0 (fun _ => true) true 56 v d p) (hv : Value.okWide Try.prog W .any base 56 v) :
    ∃ x : Raw, RTop (cfg0 W) v (.agg x.cells) ∧ topU (fun _ => False) (.agg x.cells) ∧ x.Ok (Rows.uptoBulk d) := by
  obtain ⟨fs, hu⟩ := u56
  obtain ⟨x, h2, h3, h4, ⟨⟨_, k2, k3⟩, k4, k5⟩⟩ := arg_agg rd56 hu rfl h hv
  simp only [ones_sum] at h4
  have e32 : IntKind.u32.max = 4294967295 := rfl
  exact ⟨⟨x.1.1, x.1.2, x.2⟩, h2, h3, fun n hn => by have := k2 n hn; omega, fun n hn => by have := k4 n hn; omega, by show x.1.2.length ≤ _; omega, by show x.2.length ≤ _; omega⟩
end Go.Abs
