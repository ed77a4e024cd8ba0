/- Contracts and rules that the claim's text uses: YtbVec7; YtbVec8; YtbLaw7; YtbFin1. No condition. -/
import Derived.Test.YtbeajnfghfgmnaaTE
import Derived.Test.YtbeajnfghfgmnaaRows
/-! YtbVec7: Sparse vectors: a vector and a multiple of another one. No condition. -/
set_option linter.unusedVariables false
set_option linter.unusedSimpArgs false
set_option maxRecDepth 100000
set_option maxHeartbeats 1000000
namespace Go.Abs
open Go.Proofs
@[go_sem] theorem R43 : Try.f43.results.toList = [.tmp 6] := rfl
def ED43 : Env := { tt := E0.tt, pf := E0.pf, dyn := fun id => lookD id [(7, [(2, 13), (4, 13), (5, 13), (8, 13), (10, 13)])] }
theorem ED43ok : EnvOk Try.prog ED43 := ⟨E0ok.tt⟩
@[go_sem] theorem ED43tt (t : Nat) : ED43.tt t = E0.tt t := rfl
@[go_sem] theorem ED43dyn (id : Nat) : ED43.dyn id = lookD id [(7, [(2, 13), (4, 13), (5, 13), (8, 13), (10, 13)])] := rfl
@[go_sem] theorem ED43pf (f : Nat) : ED43.pf f = E0.pf f := rfl
theorem addScaled_spec (a b : List Ent) (f : Raw) (k K : Nat) (ha : OkL a k) (hb : OkL b k) (hf : f.Ok k) (hk1 : 1 ≤ k) (la : a.length ≤ 40) (lb : b.length ≤ 40) (bK : k + 40 * (k + 1) ≤ K) (hK : K ≤ 100000000000) :
    PDet Try.prog 43 [EL a, .agg f.cells, EL b] (EL (cE (vcan (eV a ++ smul f.val (eV b))))) := by
  refine pdet_of ED43ok mixed Try.func43 (by kernel_rfl) rfl (by kernel_rfl) (Nat.le_of_ble_eq_true rfl) fun N0 h hn hmen => ?_
  have m1 : a.length * (k + 1) ≤ 40 * (k + 1) := Nat.mul_le_mul_right _ la
  have m2 : b.length * (k + 1) ≤ 40 * (k + 1) := Nat.mul_le_mul_right _ lb
  have cf := rsign_spec f k hf (by omega)
  have cn := norm_spec a k ha hk1 la (by omega)
  have c1 := sorted_spec a k ha hk1 la (by omega)
  have c2 := sorted_spec b k hb hk1 lb (by omega)
  have hS : OkL (srt a) K := (srt_ok hk1 ha).mono (by omega)
  have hT : OkL (srt b) K := (srt_ok hk1 hb).mono (by omega)
  have lS := srt_len a
  have lT := srt_len b
  have can1 := srt_can a
  have can2 := srt_can b
  have e1 : f.val = 0 → vcan (eV a ++ smul f.val (eV b)) = vcan (eV a) := fun h => vcan_congr fun i => by rw [vget_append, smul_get, h]; grind
  have e2 : f.val ≠ 0 → vcan (eV a ++ smul f.val (eV b)) = mrg f.val (eV (srt a)) (eV (srt b)) := fun h => by
    rw [mrg_vcan h can1 can2]
    exact vcan_congr fun i => by rw [vget_append, vget_append, smul_get, smul_get, srt_get, srt_get]
  have hf2 : f.Ok K := hf.mono (by omega)
  generalize vcan (eV a ++ smul f.val (eV b)) = R at *
  generalize srt a = S at *
  generalize srt b = T at *
  unfold EL Raw.cells nl at *
  simp -implicitDefEqProofs (maxSteps := 2000000) (disch := omega) only [go_sem, condB_t, condB_f, pf0, dec_t, dec_f, and_of, ↓reduceIte, Nat.reduceEqDiff, Nat.reduceMul, Nat.reduceAdd, Nat.reduceSub, Nat.reduceLT, Nat.reduceLeDiff, Int.reduceToNat, Nat.reducePow, Int.reducePow, Int.reduceLT, Int.reduceLE, Int.reduceNeg, Int.reduceAdd, Int.reduceSub, Int.reduceMul, decide_true, decide_false, reduceCtorEq]
  refine callK_pure cf ?_
  by_cases hz : sgnR f.val = 0
  · rw [hz, e1 (sgnR_zero.1 hz)]
    simp -implicitDefEqProofs (maxSteps := 2000000) (disch := omega) only [go_sem, condB_t, condB_f, pf0, dec_t, dec_f, and_of, ↓reduceIte, Nat.reduceEqDiff, Nat.reduceMul, Nat.reduceAdd, Nat.reduceSub, Nat.reduceLT, Nat.reduceLeDiff, Int.reduceToNat, Nat.reducePow, Int.reducePow, Int.reduceLT, Int.reduceLE, Int.reduceNeg, Int.reduceAdd, Int.reduceSub, Int.reduceMul, decide_true, decide_false, reduceCtorEq]
    refine callK_pure cn ?_
    simp -implicitDefEqProofs (maxSteps := 2000000) (disch := omega) only [go_sem, condB_t, condB_f, pf0, dec_t, dec_f, and_of, ↓reduceIte, Nat.reduceEqDiff, Nat.reduceMul, Nat.reduceAdd, Nat.reduceSub, Nat.reduceLT, Nat.reduceLeDiff, Int.reduceToNat, Nat.reducePow, Int.reducePow, Int.reduceLT, Int.reduceLE, Int.reduceNeg, Int.reduceAdd, Int.reduceSub, Int.reduceMul, decide_true, decide_false, reduceCtorEq]
    exact dn
  · have hne : f.val ≠ 0 := fun h => hz (sgnR_zero.2 h)
    rw [e2 hne]
    clear e1 e2 cf cn
    simp -implicitDefEqProofs (maxSteps := 2000000) (disch := omega) only [go_sem, condB_t, condB_f, pf0, dec_t, dec_f, and_of, ↓reduceIte, Nat.reduceEqDiff, Nat.reduceMul, Nat.reduceAdd, Nat.reduceSub, Nat.reduceLT, Nat.reduceLeDiff, Int.reduceToNat, Nat.reducePow, Int.reducePow, Int.reduceLT, Int.reduceLE, Int.reduceNeg, Int.reduceAdd, Int.reduceSub, Int.reduceMul, decide_true, decide_false, reduceCtorEq]
    refine callK_pure c1 ?_
    simp -implicitDefEqProofs (maxSteps := 2000000) (disch := omega) only [go_sem, condB_t, condB_f, pf0, dec_t, dec_f, and_of, ↓reduceIte, Nat.reduceEqDiff, Nat.reduceMul, Nat.reduceAdd, Nat.reduceSub, Nat.reduceLT, Nat.reduceLeDiff, Int.reduceToNat, Nat.reducePow, Int.reducePow, Int.reduceLT, Int.reduceLE, Int.reduceNeg, Int.reduceAdd, Int.reduceSub, Int.reduceMul, decide_true, decide_false, reduceCtorEq]
    refine callK_pure c2 ?_
    simp -implicitDefEqProofs (maxSteps := 2000000) (disch := omega) only [go_sem, condB_t, condB_f, pf0, dec_t, dec_f, and_of, ↓reduceIte, Nat.reduceEqDiff, Nat.reduceMul, Nat.reduceAdd, Nat.reduceSub, Nat.reduceLT, Nat.reduceLeDiff, Int.reduceToNat, Nat.reducePow, Int.reducePow, Int.reduceLT, Int.reduceLE, Int.reduceNeg, Int.reduceAdd, Int.reduceSub, Int.reduceMul, decide_true, decide_false, reduceCtorEq]
    refine aw_weak (Weak.nilRow (t := 9) (sz := 4) (id := N0 + 112) (by omega) (by omega) (by simp -implicitDefEqProofs (maxSteps := 2000000) (disch := omega) only [go_sem, condB_t, condB_f, pf0, dec_t, dec_f, and_of, ↓reduceIte, Nat.reduceEqDiff, Nat.reduceMul, Nat.reduceAdd, Nat.reduceSub, Nat.reduceLT, Nat.reduceLeDiff, Int.reduceToNat, Nat.reducePow, Int.reducePow, Int.reduceLT, Int.reduceLE, Int.reduceNeg, Int.reduceAdd, Int.reduceSub, Int.reduceMul, decide_true, decide_false, reduceCtorEq])) ?_
    obtain ⟨idR, hidR⟩ : ∃ idR, idR = N0 + 112 := ⟨_, rfl⟩
    rw [← hidR]
    have n1 : (N0 = idR) = False := eq_false (by omega)
    have n2 : (idR = N0) = False := eq_false (by omega)
    have n3 : ∀ q, (N0 = idR + q) = False := fun q => eq_false (by omega)
    refine aw_loop (X := Nat × Nat × Vec) (fun x => ⟨mkS [(4, .ptr N0 1 0 0), (7, .sl 4 (S.map entC)), (8, .sl 4 (T.map entC)), (9, .row idR x.2.2.length 0 x.2.2.length), (10, .int .i64 x.1), (11, .int .i64 x.2.1)], mkH h [(N0, ⟨3, [[.bool f.s, .sl 1 (numL f.m), .sl 1 (numL f.d)]]⟩), (idR, ⟨4, (cE x.2.2).map entC⟩)], idR + 8⟩)
      (fun x => x.1 ≤ S.length ∧ x.2.1 ≤ T.length ∧ x.2.2.length ≤ x.1 + x.2.1 ∧ x.2.2 ++ mrg f.val (eV (S.drop x.1)) (eV (T.drop x.2.1)) = mrg f.val (eV S) (eV T)) (fun x => (S.length - x.1) + (T.length - x.2.1)) ⟨(0, 0, []), ⟨Nat.zero_le _, Nat.zero_le _, Nat.zero_le _, by simp⟩, ?_⟩ ?_
    · simp only [show cE [] = [] from rfl]
      (refine Weak.head2w (by simp -implicitDefEqProofs (maxSteps := 2000000) (disch := omega) only [go_sem, condB_t, condB_f, pf0, dec_t, dec_f, and_of, ↓reduceIte, Nat.reduceEqDiff, Nat.reduceMul, Nat.reduceAdd, Nat.reduceSub, Nat.reduceLT, Nat.reduceLeDiff, Int.reduceToNat, Nat.reducePow, Int.reducePow, Int.reduceLT, Int.reduceLE, Int.reduceNeg, Int.reduceAdd, Int.reduceSub, Int.reduceMul, decide_true, decide_false, reduceCtorEq, n1, n2, n3] <;> (try rfl)) (by omega) (by first | exact mapU _ _ _ | exact mapU entC [_] _ | exact mapU ratC [_] _ | (intro r hr a ha; simp only [List.mem_cons, List.not_mem_nil, or_false] at hr; subst hr; simp only [List.mem_cons, List.not_mem_nil, or_false] at ha; rcases ha with rfl | rfl | rfl <;> trivial)) (by simp -implicitDefEqProofs (maxSteps := 2000000) (disch := omega) only [go_sem, condB_t, condB_f, pf0, dec_t, dec_f, and_of, ↓reduceIte, Nat.reduceEqDiff, Nat.reduceMul, Nat.reduceAdd, Nat.reduceSub, Nat.reduceLT, Nat.reduceLeDiff, Int.reduceToNat, Nat.reducePow, Int.reducePow, Int.reduceLT, Int.reduceLE, Int.reduceNeg, Int.reduceAdd, Int.reduceSub, Int.reduceMul, decide_true, decide_false, reduceCtorEq, n1, n2, n3] <;> (try rfl)) (by omega) (by first | exact mapU _ _ _ | exact mapU entC [_] _ | exact mapU ratC [_] _ | (intro r hr a ha; simp only [List.mem_cons, List.not_mem_nil, or_false] at hr; subst hr; simp only [List.mem_cons, List.not_mem_nil, or_false] at ha; rcases ha with rfl | rfl | rfl <;> trivial)) (fun k0 b0 hk00 hk01 hb0 => by have hk10 : (k0 = _) = False := eq_false hk00; have hk11 : (k0 = _) = False := eq_false hk01; have hk2 := (hmen k0 b0 hb0).1; (simp -implicitDefEqProofs (maxSteps := 2000000) (disch := omega) only [go_sem, condB_t, condB_f, pf0, dec_t, dec_f, and_of, ↓reduceIte, Nat.reduceEqDiff, Nat.reduceMul, Nat.reduceAdd, Nat.reduceSub, Nat.reduceLT, Nat.reduceLeDiff, Int.reduceToNat, Nat.reducePow, Int.reducePow, Int.reduceLT, Int.reduceLE, Int.reduceNeg, Int.reduceAdd, Int.reduceSub, Int.reduceMul, decide_true, decide_false, reduceCtorEq, upd, mkH, hk10, hk11]) <;> (try (repeat rw [if_neg (by omega)])) <;> exact hb0) (by omega) hmen ?_; simp -implicitDefEqProofs (maxSteps := 2000000) (disch := omega) only [go_sem, condB_t, condB_f, pf0, dec_t, dec_f, and_of, ↓reduceIte, Nat.reduceEqDiff, Nat.reduceMul, Nat.reduceAdd, Nat.reduceSub, Nat.reduceLT, Nat.reduceLeDiff, Int.reduceToNat, Nat.reducePow, Int.reducePow, Int.reduceLT, Int.reduceLE, Int.reduceNeg, Int.reduceAdd, Int.reduceSub, Int.reduceMul, decide_true, decide_false, reduceCtorEq, AllP, AVle_same, AVle_int, AVle_nil, AVle_row, topU_int, topU_bool, topU_sl, topU_row, topU_ptr, topU_iptr, topU_fn, val, List.drop_length])
    · rintro ⟨i, j, out⟩ ⟨hi, hj, hl, hq⟩
      simp only at hi hj hl hq
      have lo := cE_len out
      have K1 : 1 ≤ K := by omega
      by_cases h0 : i < S.length
      · have sx := hS.get h0
        obtain ⟨e, he⟩ : ∃ e, S.getD i default = e := ⟨_, rfl⟩
        rw [he] at sx
        have cx := rnorm_spec e.2 K sx (by omega)
        have len1 : ∀ (y : Int × Rat), (out ++ [y]).length = out.length + 1 := fun y => by simp
        have ee := cE_snoc out
        by_cases h1 : j < T.length
        · have sy := hT.get h1
          obtain ⟨g, hg⟩ : ∃ g, T.getD j default = g := ⟨_, rfl⟩
          have hd := mrg_drop (f := f.val) h0 h1
          rw [he, hg] at hd
          rw [hg] at sy
          have cm := rmul_spec f g.2 K K hf2 sy K1 K1 (by omega)
          have sm := (hf2.sz K1).mul (sy.sz K1)
          have ca := radd_spec e.2 (canon (f.val * g.2.val)) K (K + K) sx (canon_ok sm) K1 (by omega) (by omega)
          have ss := (sx.sz K1).add sm
          rw [canon_val] at ca
          have cs := rsign_spec (canon (e.2.val + f.val * g.2.val)) _ (canon_ok ss) (by omega)
          rw [canon_val] at cs
          unfold rC Raw.cells nl at cx cm ca
          unfold Raw.cells nl at cs
          by_cases h2 : e.1 < g.1
          · rw [if_pos h2] at hd
            simp -implicitDefEqProofs (maxSteps := 2000000) (disch := omega) only [go_sem, condB_t, condB_f, pf0, dec_t, dec_f, and_of, ↓reduceIte, Nat.reduceEqDiff, Nat.reduceMul, Nat.reduceAdd, Nat.reduceSub, Nat.reduceLT, Nat.reduceLeDiff, Int.reduceToNat, Nat.reducePow, Int.reducePow, Int.reduceLT, Int.reduceLE, Int.reduceNeg, Int.reduceAdd, Int.reduceSub, Int.reduceMul, decide_true, decide_false, reduceCtorEq, n1, n2, n3, he, hg]
            refine pcallK_pure cx ?_
            simp -implicitDefEqProofs (maxSteps := 2000000) (disch := omega) only [go_sem, condB_t, condB_f, pf0, dec_t, dec_f, and_of, ↓reduceIte, Nat.reduceEqDiff, Nat.reduceMul, Nat.reduceAdd, Nat.reduceSub, Nat.reduceLT, Nat.reduceLeDiff, Int.reduceToNat, Nat.reducePow, Int.reducePow, Int.reduceLT, Int.reduceLE, Int.reduceNeg, Int.reduceAdd, Int.reduceSub, Int.reduceMul, decide_true, decide_false, reduceCtorEq, n1, n2, n3, he, hg, lo]
            exact ⟨(i + 1, j, out ++ [(e.1, e.2.val)]), ⟨h0, hj, by rw [len1]; simp only; omega, by rw [← hq, hd]; simp⟩, by simp only; omega, by simp only [len1]; (refine Weak.head2w (by simp -implicitDefEqProofs (maxSteps := 2000000) (disch := omega) only [go_sem, condB_t, condB_f, pf0, dec_t, dec_f, and_of, ↓reduceIte, Nat.reduceEqDiff, Nat.reduceMul, Nat.reduceAdd, Nat.reduceSub, Nat.reduceLT, Nat.reduceLeDiff, Int.reduceToNat, Nat.reducePow, Int.reducePow, Int.reduceLT, Int.reduceLE, Int.reduceNeg, Int.reduceAdd, Int.reduceSub, Int.reduceMul, decide_true, decide_false, reduceCtorEq, n1, n2, n3, he, hg, lo, ee] <;> (try rfl)) (by omega) (by first | exact mapU _ _ _ | exact mapU entC [_] _ | exact mapU ratC [_] _ | (intro r hr a ha; simp only [List.mem_cons, List.not_mem_nil, or_false] at hr; subst hr; simp only [List.mem_cons, List.not_mem_nil, or_false] at ha; rcases ha with rfl | rfl | rfl <;> trivial)) (by simp -implicitDefEqProofs (maxSteps := 2000000) (disch := omega) only [go_sem, condB_t, condB_f, pf0, dec_t, dec_f, and_of, ↓reduceIte, Nat.reduceEqDiff, Nat.reduceMul, Nat.reduceAdd, Nat.reduceSub, Nat.reduceLT, Nat.reduceLeDiff, Int.reduceToNat, Nat.reducePow, Int.reducePow, Int.reduceLT, Int.reduceLE, Int.reduceNeg, Int.reduceAdd, Int.reduceSub, Int.reduceMul, decide_true, decide_false, reduceCtorEq, n1, n2, n3, he, hg, lo, ee] <;> (try rfl)) (by omega) (by first | exact mapU _ _ _ | exact mapU entC [_] _ | exact mapU ratC [_] _ | (intro r hr a ha; simp only [List.mem_cons, List.not_mem_nil, or_false] at hr; subst hr; simp only [List.mem_cons, List.not_mem_nil, or_false] at ha; rcases ha with rfl | rfl | rfl <;> trivial)) (fun k0 b0 hk00 hk01 hb0 => by have hk10 : (k0 = _) = False := eq_false hk00; have hk11 : (k0 = _) = False := eq_false hk01; have hk2 := (hmen k0 b0 hb0).1; (simp -implicitDefEqProofs (maxSteps := 2000000) (disch := omega) only [go_sem, condB_t, condB_f, pf0, dec_t, dec_f, and_of, ↓reduceIte, Nat.reduceEqDiff, Nat.reduceMul, Nat.reduceAdd, Nat.reduceSub, Nat.reduceLT, Nat.reduceLeDiff, Int.reduceToNat, Nat.reducePow, Int.reducePow, Int.reduceLT, Int.reduceLE, Int.reduceNeg, Int.reduceAdd, Int.reduceSub, Int.reduceMul, decide_true, decide_false, reduceCtorEq, upd, mkH, hk10, hk11]) <;> (try (repeat rw [if_neg (by omega)])) <;> exact hb0) (by omega) hmen ?_; simp -implicitDefEqProofs (maxSteps := 2000000) (disch := omega) only [go_sem, condB_t, condB_f, pf0, dec_t, dec_f, and_of, ↓reduceIte, Nat.reduceEqDiff, Nat.reduceMul, Nat.reduceAdd, Nat.reduceSub, Nat.reduceLT, Nat.reduceLeDiff, Int.reduceToNat, Nat.reducePow, Int.reducePow, Int.reduceLT, Int.reduceLE, Int.reduceNeg, Int.reduceAdd, Int.reduceSub, Int.reduceMul, decide_true, decide_false, reduceCtorEq, AllP, AVle_same, AVle_int, AVle_nil, AVle_row, topU_int, topU_bool, topU_sl, topU_row, topU_ptr, topU_iptr, topU_fn, val, List.drop_length])⟩
          · rw [if_neg h2] at hd
            by_cases h3 : g.1 < e.1
            · rw [if_pos h3] at hd
              simp -implicitDefEqProofs (maxSteps := 2000000) (disch := omega) only [go_sem, condB_t, condB_f, pf0, dec_t, dec_f, and_of, ↓reduceIte, Nat.reduceEqDiff, Nat.reduceMul, Nat.reduceAdd, Nat.reduceSub, Nat.reduceLT, Nat.reduceLeDiff, Int.reduceToNat, Nat.reducePow, Int.reducePow, Int.reduceLT, Int.reduceLE, Int.reduceNeg, Int.reduceAdd, Int.reduceSub, Int.reduceMul, decide_true, decide_false, reduceCtorEq, n1, n2, n3, he, hg]
              refine pcallK_pure cm ?_
              simp -implicitDefEqProofs (maxSteps := 2000000) (disch := omega) only [go_sem, condB_t, condB_f, pf0, dec_t, dec_f, and_of, ↓reduceIte, Nat.reduceEqDiff, Nat.reduceMul, Nat.reduceAdd, Nat.reduceSub, Nat.reduceLT, Nat.reduceLeDiff, Int.reduceToNat, Nat.reducePow, Int.reducePow, Int.reduceLT, Int.reduceLE, Int.reduceNeg, Int.reduceAdd, Int.reduceSub, Int.reduceMul, decide_true, decide_false, reduceCtorEq, n1, n2, n3, he, hg, lo]
              exact ⟨(i, j + 1, out ++ [(g.1, f.val * g.2.val)]), ⟨hi, h1, by rw [len1]; simp only; omega, by rw [← hq, hd]; simp⟩, by simp only; omega, by simp only [len1]; (refine Weak.head2w (by simp -implicitDefEqProofs (maxSteps := 2000000) (disch := omega) only [go_sem, condB_t, condB_f, pf0, dec_t, dec_f, and_of, ↓reduceIte, Nat.reduceEqDiff, Nat.reduceMul, Nat.reduceAdd, Nat.reduceSub, Nat.reduceLT, Nat.reduceLeDiff, Int.reduceToNat, Nat.reducePow, Int.reducePow, Int.reduceLT, Int.reduceLE, Int.reduceNeg, Int.reduceAdd, Int.reduceSub, Int.reduceMul, decide_true, decide_false, reduceCtorEq, n1, n2, n3, he, hg, lo, ee] <;> (try rfl)) (by omega) (by first | exact mapU _ _ _ | exact mapU entC [_] _ | exact mapU ratC [_] _ | (intro r hr a ha; simp only [List.mem_cons, List.not_mem_nil, or_false] at hr; subst hr; simp only [List.mem_cons, List.not_mem_nil, or_false] at ha; rcases ha with rfl | rfl | rfl <;> trivial)) (by simp -implicitDefEqProofs (maxSteps := 2000000) (disch := omega) only [go_sem, condB_t, condB_f, pf0, dec_t, dec_f, and_of, ↓reduceIte, Nat.reduceEqDiff, Nat.reduceMul, Nat.reduceAdd, Nat.reduceSub, Nat.reduceLT, Nat.reduceLeDiff, Int.reduceToNat, Nat.reducePow, Int.reducePow, Int.reduceLT, Int.reduceLE, Int.reduceNeg, Int.reduceAdd, Int.reduceSub, Int.reduceMul, decide_true, decide_false, reduceCtorEq, n1, n2, n3, he, hg, lo, ee] <;> (try rfl)) (by omega) (by first | exact mapU _ _ _ | exact mapU entC [_] _ | exact mapU ratC [_] _ | (intro r hr a ha; simp only [List.mem_cons, List.not_mem_nil, or_false] at hr; subst hr; simp only [List.mem_cons, List.not_mem_nil, or_false] at ha; rcases ha with rfl | rfl | rfl <;> trivial)) (fun k0 b0 hk00 hk01 hb0 => by have hk10 : (k0 = _) = False := eq_false hk00; have hk11 : (k0 = _) = False := eq_false hk01; have hk2 := (hmen k0 b0 hb0).1; (simp -implicitDefEqProofs (maxSteps := 2000000) (disch := omega) only [go_sem, condB_t, condB_f, pf0, dec_t, dec_f, and_of, ↓reduceIte, Nat.reduceEqDiff, Nat.reduceMul, Nat.reduceAdd, Nat.reduceSub, Nat.reduceLT, Nat.reduceLeDiff, Int.reduceToNat, Nat.reducePow, Int.reducePow, Int.reduceLT, Int.reduceLE, Int.reduceNeg, Int.reduceAdd, Int.reduceSub, Int.reduceMul, decide_true, decide_false, reduceCtorEq, upd, mkH, hk10, hk11]) <;> (try (repeat rw [if_neg (by omega)])) <;> exact hb0) (by omega) hmen ?_; simp -implicitDefEqProofs (maxSteps := 2000000) (disch := omega) only [go_sem, condB_t, condB_f, pf0, dec_t, dec_f, and_of, ↓reduceIte, Nat.reduceEqDiff, Nat.reduceMul, Nat.reduceAdd, Nat.reduceSub, Nat.reduceLT, Nat.reduceLeDiff, Int.reduceToNat, Nat.reducePow, Int.reducePow, Int.reduceLT, Int.reduceLE, Int.reduceNeg, Int.reduceAdd, Int.reduceSub, Int.reduceMul, decide_true, decide_false, reduceCtorEq, AllP, AVle_same, AVle_int, AVle_nil, AVle_row, topU_int, topU_bool, topU_sl, topU_row, topU_ptr, topU_iptr, topU_fn, val, List.drop_length])⟩
            · rw [if_neg h3] at hd
              simp -implicitDefEqProofs (maxSteps := 2000000) (disch := omega) only [go_sem, condB_t, condB_f, pf0, dec_t, dec_f, and_of, ↓reduceIte, Nat.reduceEqDiff, Nat.reduceMul, Nat.reduceAdd, Nat.reduceSub, Nat.reduceLT, Nat.reduceLeDiff, Int.reduceToNat, Nat.reducePow, Int.reducePow, Int.reduceLT, Int.reduceLE, Int.reduceNeg, Int.reduceAdd, Int.reduceSub, Int.reduceMul, decide_true, decide_false, reduceCtorEq, n1, n2, n3, he, hg]
              refine pcallK_pure cm ?_
              simp -implicitDefEqProofs (maxSteps := 2000000) (disch := omega) only [go_sem, condB_t, condB_f, pf0, dec_t, dec_f, and_of, ↓reduceIte, Nat.reduceEqDiff, Nat.reduceMul, Nat.reduceAdd, Nat.reduceSub, Nat.reduceLT, Nat.reduceLeDiff, Int.reduceToNat, Nat.reducePow, Int.reducePow, Int.reduceLT, Int.reduceLE, Int.reduceNeg, Int.reduceAdd, Int.reduceSub, Int.reduceMul, decide_true, decide_false, reduceCtorEq, n1, n2, n3, he, hg, lo]
              refine pcallK_pure ca ?_
              simp -implicitDefEqProofs (maxSteps := 2000000) (disch := omega) only [go_sem, condB_t, condB_f, pf0, dec_t, dec_f, and_of, ↓reduceIte, Nat.reduceEqDiff, Nat.reduceMul, Nat.reduceAdd, Nat.reduceSub, Nat.reduceLT, Nat.reduceLeDiff, Int.reduceToNat, Nat.reducePow, Int.reducePow, Int.reduceLT, Int.reduceLE, Int.reduceNeg, Int.reduceAdd, Int.reduceSub, Int.reduceMul, decide_true, decide_false, reduceCtorEq, n1, n2, n3, he, hg, lo]
              refine callK_pure cs ?_
              by_cases h4 : sgnR (e.2.val + f.val * g.2.val) = 0
              · rw [if_pos (sgnR_zero.1 h4), List.nil_append] at hd
                rw [h4]
                simp -implicitDefEqProofs (maxSteps := 2000000) (disch := omega) only [go_sem, condB_t, condB_f, pf0, dec_t, dec_f, and_of, ↓reduceIte, Nat.reduceEqDiff, Nat.reduceMul, Nat.reduceAdd, Nat.reduceSub, Nat.reduceLT, Nat.reduceLeDiff, Int.reduceToNat, Nat.reducePow, Int.reducePow, Int.reduceLT, Int.reduceLE, Int.reduceNeg, Int.reduceAdd, Int.reduceSub, Int.reduceMul, decide_true, decide_false, reduceCtorEq, n1, n2, n3, he, hg, lo]
                exact ⟨(i + 1, j + 1, out), ⟨h0, h1, by simp only; omega, by rw [← hq, hd]⟩, by simp only; omega, by simp only; (refine Weak.head2w (by simp -implicitDefEqProofs (maxSteps := 2000000) (disch := omega) only [go_sem, condB_t, condB_f, pf0, dec_t, dec_f, and_of, ↓reduceIte, Nat.reduceEqDiff, Nat.reduceMul, Nat.reduceAdd, Nat.reduceSub, Nat.reduceLT, Nat.reduceLeDiff, Int.reduceToNat, Nat.reducePow, Int.reducePow, Int.reduceLT, Int.reduceLE, Int.reduceNeg, Int.reduceAdd, Int.reduceSub, Int.reduceMul, decide_true, decide_false, reduceCtorEq, n1, n2, n3, he, hg, lo] <;> (try rfl)) (by omega) (by first | exact mapU _ _ _ | exact mapU entC [_] _ | exact mapU ratC [_] _ | (intro r hr a ha; simp only [List.mem_cons, List.not_mem_nil, or_false] at hr; subst hr; simp only [List.mem_cons, List.not_mem_nil, or_false] at ha; rcases ha with rfl | rfl | rfl <;> trivial)) (by simp -implicitDefEqProofs (maxSteps := 2000000) (disch := omega) only [go_sem, condB_t, condB_f, pf0, dec_t, dec_f, and_of, ↓reduceIte, Nat.reduceEqDiff, Nat.reduceMul, Nat.reduceAdd, Nat.reduceSub, Nat.reduceLT, Nat.reduceLeDiff, Int.reduceToNat, Nat.reducePow, Int.reducePow, Int.reduceLT, Int.reduceLE, Int.reduceNeg, Int.reduceAdd, Int.reduceSub, Int.reduceMul, decide_true, decide_false, reduceCtorEq, n1, n2, n3, he, hg, lo] <;> (try rfl)) (by omega) (by first | exact mapU _ _ _ | exact mapU entC [_] _ | exact mapU ratC [_] _ | (intro r hr a ha; simp only [List.mem_cons, List.not_mem_nil, or_false] at hr; subst hr; simp only [List.mem_cons, List.not_mem_nil, or_false] at ha; rcases ha with rfl | rfl | rfl <;> trivial)) (fun k0 b0 hk00 hk01 hb0 => by have hk10 : (k0 = _) = False := eq_false hk00; have hk11 : (k0 = _) = False := eq_false hk01; have hk2 := (hmen k0 b0 hb0).1; (simp -implicitDefEqProofs (maxSteps := 2000000) (disch := omega) only [go_sem, condB_t, condB_f, pf0, dec_t, dec_f, and_of, ↓reduceIte, Nat.reduceEqDiff, Nat.reduceMul, Nat.reduceAdd, Nat.reduceSub, Nat.reduceLT, Nat.reduceLeDiff, Int.reduceToNat, Nat.reducePow, Int.reducePow, Int.reduceLT, Int.reduceLE, Int.reduceNeg, Int.reduceAdd, Int.reduceSub, Int.reduceMul, decide_true, decide_false, reduceCtorEq, upd, mkH, hk10, hk11]) <;> (try (repeat rw [if_neg (by omega)])) <;> exact hb0) (by omega) hmen ?_; simp -implicitDefEqProofs (maxSteps := 2000000) (disch := omega) only [go_sem, condB_t, condB_f, pf0, dec_t, dec_f, and_of, ↓reduceIte, Nat.reduceEqDiff, Nat.reduceMul, Nat.reduceAdd, Nat.reduceSub, Nat.reduceLT, Nat.reduceLeDiff, Int.reduceToNat, Nat.reducePow, Int.reducePow, Int.reduceLT, Int.reduceLE, Int.reduceNeg, Int.reduceAdd, Int.reduceSub, Int.reduceMul, decide_true, decide_false, reduceCtorEq, AllP, AVle_same, AVle_int, AVle_nil, AVle_row, topU_int, topU_bool, topU_sl, topU_row, topU_ptr, topU_iptr, topU_fn, val, List.drop_length])⟩
              · rw [if_neg (fun h => h4 (sgnR_zero.2 h))] at hd
                simp -implicitDefEqProofs (maxSteps := 2000000) (disch := omega) only [go_sem, condB_t, condB_f, pf0, dec_t, dec_f, and_of, ↓reduceIte, Nat.reduceEqDiff, Nat.reduceMul, Nat.reduceAdd, Nat.reduceSub, Nat.reduceLT, Nat.reduceLeDiff, Int.reduceToNat, Nat.reducePow, Int.reducePow, Int.reduceLT, Int.reduceLE, Int.reduceNeg, Int.reduceAdd, Int.reduceSub, Int.reduceMul, decide_true, decide_false, reduceCtorEq, n1, n2, n3, he, hg, lo]
                exact ⟨(i + 1, j + 1, out ++ [(e.1, e.2.val + f.val * g.2.val)]), ⟨h0, h1, by rw [len1]; simp only; omega, by rw [← hq, hd]; simp⟩, by simp only; omega, by simp only [len1]; (refine Weak.head2w (by simp -implicitDefEqProofs (maxSteps := 2000000) (disch := omega) only [go_sem, condB_t, condB_f, pf0, dec_t, dec_f, and_of, ↓reduceIte, Nat.reduceEqDiff, Nat.reduceMul, Nat.reduceAdd, Nat.reduceSub, Nat.reduceLT, Nat.reduceLeDiff, Int.reduceToNat, Nat.reducePow, Int.reducePow, Int.reduceLT, Int.reduceLE, Int.reduceNeg, Int.reduceAdd, Int.reduceSub, Int.reduceMul, decide_true, decide_false, reduceCtorEq, n1, n2, n3, he, hg, lo, ee] <;> (try rfl)) (by omega) (by first | exact mapU _ _ _ | exact mapU entC [_] _ | exact mapU ratC [_] _ | (intro r hr a ha; simp only [List.mem_cons, List.not_mem_nil, or_false] at hr; subst hr; simp only [List.mem_cons, List.not_mem_nil, or_false] at ha; rcases ha with rfl | rfl | rfl <;> trivial)) (by simp -implicitDefEqProofs (maxSteps := 2000000) (disch := omega) only [go_sem, condB_t, condB_f, pf0, dec_t, dec_f, and_of, ↓reduceIte, Nat.reduceEqDiff, Nat.reduceMul, Nat.reduceAdd, Nat.reduceSub, Nat.reduceLT, Nat.reduceLeDiff, Int.reduceToNat, Nat.reducePow, Int.reducePow, Int.reduceLT, Int.reduceLE, Int.reduceNeg, Int.reduceAdd, Int.reduceSub, Int.reduceMul, decide_true, decide_false, reduceCtorEq, n1, n2, n3, he, hg, lo, ee] <;> (try rfl)) (by omega) (by first | exact mapU _ _ _ | exact mapU entC [_] _ | exact mapU ratC [_] _ | (intro r hr a ha; simp only [List.mem_cons, List.not_mem_nil, or_false] at hr; subst hr; simp only [List.mem_cons, List.not_mem_nil, or_false] at ha; rcases ha with rfl | rfl | rfl <;> trivial)) (fun k0 b0 hk00 hk01 hb0 => by have hk10 : (k0 = _) = False := eq_false hk00; have hk11 : (k0 = _) = False := eq_false hk01; have hk2 := (hmen k0 b0 hb0).1; (simp -implicitDefEqProofs (maxSteps := 2000000) (disch := omega) only [go_sem, condB_t, condB_f, pf0, dec_t, dec_f, and_of, ↓reduceIte, Nat.reduceEqDiff, Nat.reduceMul, Nat.reduceAdd, Nat.reduceSub, Nat.reduceLT, Nat.reduceLeDiff, Int.reduceToNat, Nat.reducePow, Int.reducePow, Int.reduceLT, Int.reduceLE, Int.reduceNeg, Int.reduceAdd, Int.reduceSub, Int.reduceMul, decide_true, decide_false, reduceCtorEq, upd, mkH, hk10, hk11]) <;> (try (repeat rw [if_neg (by omega)])) <;> exact hb0) (by omega) hmen ?_; simp -implicitDefEqProofs (maxSteps := 2000000) (disch := omega) only [go_sem, condB_t, condB_f, pf0, dec_t, dec_f, and_of, ↓reduceIte, Nat.reduceEqDiff, Nat.reduceMul, Nat.reduceAdd, Nat.reduceSub, Nat.reduceLT, Nat.reduceLeDiff, Int.reduceToNat, Nat.reducePow, Int.reducePow, Int.reduceLT, Int.reduceLE, Int.reduceNeg, Int.reduceAdd, Int.reduceSub, Int.reduceMul, decide_true, decide_false, reduceCtorEq, AllP, AVle_same, AVle_int, AVle_nil, AVle_row, topU_int, topU_bool, topU_sl, topU_row, topU_ptr, topU_iptr, topU_fn, val, List.drop_length])⟩
        · have hd := mrg_dropL (f := f.val) (T := T) (j := j) h0 (by omega)
          rw [he] at hd
          obtain rfl : j = T.length := by omega
          unfold rC Raw.cells nl at cx
          simp -implicitDefEqProofs (maxSteps := 2000000) (disch := omega) only [go_sem, condB_t, condB_f, pf0, dec_t, dec_f, and_of, ↓reduceIte, Nat.reduceEqDiff, Nat.reduceMul, Nat.reduceAdd, Nat.reduceSub, Nat.reduceLT, Nat.reduceLeDiff, Int.reduceToNat, Nat.reducePow, Int.reducePow, Int.reduceLT, Int.reduceLE, Int.reduceNeg, Int.reduceAdd, Int.reduceSub, Int.reduceMul, decide_true, decide_false, reduceCtorEq, n1, n2, n3, he]
          refine pcallK_pure cx ?_
          simp -implicitDefEqProofs (maxSteps := 2000000) (disch := omega) only [go_sem, condB_t, condB_f, pf0, dec_t, dec_f, and_of, ↓reduceIte, Nat.reduceEqDiff, Nat.reduceMul, Nat.reduceAdd, Nat.reduceSub, Nat.reduceLT, Nat.reduceLeDiff, Int.reduceToNat, Nat.reducePow, Int.reducePow, Int.reduceLT, Int.reduceLE, Int.reduceNeg, Int.reduceAdd, Int.reduceSub, Int.reduceMul, decide_true, decide_false, reduceCtorEq, n1, n2, n3, he, lo]
          exact ⟨(i + 1, T.length, out ++ [(e.1, e.2.val)]), ⟨h0, hj, by rw [len1]; simp only; omega, by rw [← hq, hd]; simp⟩, by simp only; omega, by simp only [len1]; (refine Weak.head2w (by simp -implicitDefEqProofs (maxSteps := 2000000) (disch := omega) only [go_sem, condB_t, condB_f, pf0, dec_t, dec_f, and_of, ↓reduceIte, Nat.reduceEqDiff, Nat.reduceMul, Nat.reduceAdd, Nat.reduceSub, Nat.reduceLT, Nat.reduceLeDiff, Int.reduceToNat, Nat.reducePow, Int.reducePow, Int.reduceLT, Int.reduceLE, Int.reduceNeg, Int.reduceAdd, Int.reduceSub, Int.reduceMul, decide_true, decide_false, reduceCtorEq, n1, n2, n3, he, lo, ee] <;> (try rfl)) (by omega) (by first | exact mapU _ _ _ | exact mapU entC [_] _ | exact mapU ratC [_] _ | (intro r hr a ha; simp only [List.mem_cons, List.not_mem_nil, or_false] at hr; subst hr; simp only [List.mem_cons, List.not_mem_nil, or_false] at ha; rcases ha with rfl | rfl | rfl <;> trivial)) (by simp -implicitDefEqProofs (maxSteps := 2000000) (disch := omega) only [go_sem, condB_t, condB_f, pf0, dec_t, dec_f, and_of, ↓reduceIte, Nat.reduceEqDiff, Nat.reduceMul, Nat.reduceAdd, Nat.reduceSub, Nat.reduceLT, Nat.reduceLeDiff, Int.reduceToNat, Nat.reducePow, Int.reducePow, Int.reduceLT, Int.reduceLE, Int.reduceNeg, Int.reduceAdd, Int.reduceSub, Int.reduceMul, decide_true, decide_false, reduceCtorEq, n1, n2, n3, he, lo, ee] <;> (try rfl)) (by omega) (by first | exact mapU _ _ _ | exact mapU entC [_] _ | exact mapU ratC [_] _ | (intro r hr a ha; simp only [List.mem_cons, List.not_mem_nil, or_false] at hr; subst hr; simp only [List.mem_cons, List.not_mem_nil, or_false] at ha; rcases ha with rfl | rfl | rfl <;> trivial)) (fun k0 b0 hk00 hk01 hb0 => by have hk10 : (k0 = _) = False := eq_false hk00; have hk11 : (k0 = _) = False := eq_false hk01; have hk2 := (hmen k0 b0 hb0).1; (simp -implicitDefEqProofs (maxSteps := 2000000) (disch := omega) only [go_sem, condB_t, condB_f, pf0, dec_t, dec_f, and_of, ↓reduceIte, Nat.reduceEqDiff, Nat.reduceMul, Nat.reduceAdd, Nat.reduceSub, Nat.reduceLT, Nat.reduceLeDiff, Int.reduceToNat, Nat.reducePow, Int.reducePow, Int.reduceLT, Int.reduceLE, Int.reduceNeg, Int.reduceAdd, Int.reduceSub, Int.reduceMul, decide_true, decide_false, reduceCtorEq, upd, mkH, hk10, hk11]) <;> (try (repeat rw [if_neg (by omega)])) <;> exact hb0) (by omega) hmen ?_; simp -implicitDefEqProofs (maxSteps := 2000000) (disch := omega) only [go_sem, condB_t, condB_f, pf0, dec_t, dec_f, and_of, ↓reduceIte, Nat.reduceEqDiff, Nat.reduceMul, Nat.reduceAdd, Nat.reduceSub, Nat.reduceLT, Nat.reduceLeDiff, Int.reduceToNat, Nat.reducePow, Int.reducePow, Int.reduceLT, Int.reduceLE, Int.reduceNeg, Int.reduceAdd, Int.reduceSub, Int.reduceMul, decide_true, decide_false, reduceCtorEq, AllP, AVle_same, AVle_int, AVle_nil, AVle_row, topU_int, topU_bool, topU_sl, topU_row, topU_ptr, topU_iptr, topU_fn, val, List.drop_length])⟩
      · obtain rfl : i = S.length := by omega
        by_cases h1 : j < T.length
        · have sy := hT.get h1
          obtain ⟨g, hg⟩ : ∃ g, T.getD j default = g := ⟨_, rfl⟩
          have hd := mrg_dropR (f := f.val) (S := S) (i := S.length) (by omega) h1
          rw [hg] at hd
          rw [hg] at sy
          have cm := rmul_spec f g.2 K K hf2 sy K1 K1 (by omega)
          unfold rC Raw.cells nl at cm
          have len1 : ∀ (y : Int × Rat), (out ++ [y]).length = out.length + 1 := fun y => by simp
          have ee := cE_snoc out
          simp -implicitDefEqProofs (maxSteps := 2000000) (disch := omega) only [go_sem, condB_t, condB_f, pf0, dec_t, dec_f, and_of, ↓reduceIte, Nat.reduceEqDiff, Nat.reduceMul, Nat.reduceAdd, Nat.reduceSub, Nat.reduceLT, Nat.reduceLeDiff, Int.reduceToNat, Nat.reducePow, Int.reducePow, Int.reduceLT, Int.reduceLE, Int.reduceNeg, Int.reduceAdd, Int.reduceSub, Int.reduceMul, decide_true, decide_false, reduceCtorEq, n1, n2, n3, hg]
          refine pcallK_pure cm ?_
          simp -implicitDefEqProofs (maxSteps := 2000000) (disch := omega) only [go_sem, condB_t, condB_f, pf0, dec_t, dec_f, and_of, ↓reduceIte, Nat.reduceEqDiff, Nat.reduceMul, Nat.reduceAdd, Nat.reduceSub, Nat.reduceLT, Nat.reduceLeDiff, Int.reduceToNat, Nat.reducePow, Int.reducePow, Int.reduceLT, Int.reduceLE, Int.reduceNeg, Int.reduceAdd, Int.reduceSub, Int.reduceMul, decide_true, decide_false, reduceCtorEq, n1, n2, n3, hg, lo]
          exact ⟨(S.length, j + 1, out ++ [(g.1, f.val * g.2.val)]), ⟨hi, h1, by rw [len1]; simp only; omega, by rw [← hq, hd]; simp⟩, by simp only; omega, by simp only [len1]; (refine Weak.head2w (by simp -implicitDefEqProofs (maxSteps := 2000000) (disch := omega) only [go_sem, condB_t, condB_f, pf0, dec_t, dec_f, and_of, ↓reduceIte, Nat.reduceEqDiff, Nat.reduceMul, Nat.reduceAdd, Nat.reduceSub, Nat.reduceLT, Nat.reduceLeDiff, Int.reduceToNat, Nat.reducePow, Int.reducePow, Int.reduceLT, Int.reduceLE, Int.reduceNeg, Int.reduceAdd, Int.reduceSub, Int.reduceMul, decide_true, decide_false, reduceCtorEq, n1, n2, n3, hg, lo, ee] <;> (try rfl)) (by omega) (by first | exact mapU _ _ _ | exact mapU entC [_] _ | exact mapU ratC [_] _ | (intro r hr a ha; simp only [List.mem_cons, List.not_mem_nil, or_false] at hr; subst hr; simp only [List.mem_cons, List.not_mem_nil, or_false] at ha; rcases ha with rfl | rfl | rfl <;> trivial)) (by simp -implicitDefEqProofs (maxSteps := 2000000) (disch := omega) only [go_sem, condB_t, condB_f, pf0, dec_t, dec_f, and_of, ↓reduceIte, Nat.reduceEqDiff, Nat.reduceMul, Nat.reduceAdd, Nat.reduceSub, Nat.reduceLT, Nat.reduceLeDiff, Int.reduceToNat, Nat.reducePow, Int.reducePow, Int.reduceLT, Int.reduceLE, Int.reduceNeg, Int.reduceAdd, Int.reduceSub, Int.reduceMul, decide_true, decide_false, reduceCtorEq, n1, n2, n3, hg, lo, ee] <;> (try rfl)) (by omega) (by first | exact mapU _ _ _ | exact mapU entC [_] _ | exact mapU ratC [_] _ | (intro r hr a ha; simp only [List.mem_cons, List.not_mem_nil, or_false] at hr; subst hr; simp only [List.mem_cons, List.not_mem_nil, or_false] at ha; rcases ha with rfl | rfl | rfl <;> trivial)) (fun k0 b0 hk00 hk01 hb0 => by have hk10 : (k0 = _) = False := eq_false hk00; have hk11 : (k0 = _) = False := eq_false hk01; have hk2 := (hmen k0 b0 hb0).1; (simp -implicitDefEqProofs (maxSteps := 2000000) (disch := omega) only [go_sem, condB_t, condB_f, pf0, dec_t, dec_f, and_of, ↓reduceIte, Nat.reduceEqDiff, Nat.reduceMul, Nat.reduceAdd, Nat.reduceSub, Nat.reduceLT, Nat.reduceLeDiff, Int.reduceToNat, Nat.reducePow, Int.reducePow, Int.reduceLT, Int.reduceLE, Int.reduceNeg, Int.reduceAdd, Int.reduceSub, Int.reduceMul, decide_true, decide_false, reduceCtorEq, upd, mkH, hk10, hk11]) <;> (try (repeat rw [if_neg (by omega)])) <;> exact hb0) (by omega) hmen ?_; simp -implicitDefEqProofs (maxSteps := 2000000) (disch := omega) only [go_sem, condB_t, condB_f, pf0, dec_t, dec_f, and_of, ↓reduceIte, Nat.reduceEqDiff, Nat.reduceMul, Nat.reduceAdd, Nat.reduceSub, Nat.reduceLT, Nat.reduceLeDiff, Int.reduceToNat, Nat.reducePow, Int.reducePow, Int.reduceLT, Int.reduceLE, Int.reduceNeg, Int.reduceAdd, Int.reduceSub, Int.reduceMul, decide_true, decide_false, reduceCtorEq, AllP, AVle_same, AVle_int, AVle_nil, AVle_row, topU_int, topU_bool, topU_sl, topU_row, topU_ptr, topU_iptr, topU_fn, val, List.drop_length])⟩
        · have hd := mrg_end (f := f.val) (S := S) (T := T) (i := S.length) (j := j) (by omega) (by omega)
          rw [hd, List.append_nil] at hq
          rw [← hq]
          simp -implicitDefEqProofs (maxSteps := 2000000) (disch := omega) only [go_sem, condB_t, condB_f, pf0, dec_t, dec_f, and_of, ↓reduceIte, Nat.reduceEqDiff, Nat.reduceMul, Nat.reduceAdd, Nat.reduceSub, Nat.reduceLT, Nat.reduceLeDiff, Int.reduceToNat, Nat.reducePow, Int.reducePow, Int.reduceLT, Int.reduceLE, Int.reduceNeg, Int.reduceAdd, Int.reduceSub, Int.reduceMul, decide_true, decide_false, reduceCtorEq, n1, n2, n3]
          refine .val (.leaf (Thaw.plain (rows := (cE out).map entC) (by simp [locH, upd, mkH]; omega) (by simp [lo]) (by omega) (List.take_of_length_le (by simp [lo])) (mapP _)))
end Go.Abs
/-! YtbVec8: Sparse vectors: sum, indices, sameness; lists of integers. No condition. -/
set_option linter.unusedVariables false
set_option linter.unusedSimpArgs false
set_option maxRecDepth 100000
set_option maxHeartbeats 1000000
namespace Go.Abs
open Go.Proofs
@[go_sem] theorem R42 : Try.f42.results.toList = [.tmp 4] := rfl
@[go_sem] theorem R48 : Try.f48.results.toList = [.tmp 2] := rfl
@[go_sem] theorem R86 : Try.f86.results.toList = [.tmp 4] := rfl
@[go_sem] theorem R85 : Try.f85.results.toList = [.tmp 6] := rfl
@[go_sem] theorem R46 : Try.f46.results.toList = [.tmp 4] := rfl
@[go_sem] theorem R47 : Try.f47.results.toList = [.tmp 4] := rfl
theorem smul_one (v : Vec) : smul 1 v = v := by
  unfold smul
  conv => rhs; rw [← List.map_id v]
  exact List.map_congr_left fun e _ => by
    show (e.1, 1 * e.2) = e
    rw [Rat.one_mul]
theorem sz_one : Sz (1 : Rat) 1 := ⟨by unfold Fit; decide, by unfold Fit; decide⟩
theorem vadd_spec (a b : List Ent) (k K : Nat) (ha : OkL a k) (hb : OkL b k) (hk1 : 1 ≤ k) (la : a.length ≤ 40) (lb : b.length ≤ 40) (bK : k + 40 * (k + 1) ≤ K) (hK : K ≤ 100000000000) :
    PDet Try.prog 42 [EL a, EL b] (EL (cE (vcan (eV a ++ eV b)))) := by
  refine pdet_of E0ok mixed Try.func42 (by kernel_rfl) rfl (by kernel_rfl) (Nat.le_of_ble_eq_true rfl) fun N0 h hn hmen => ?_
  have c1 := rfromInt_spec 1 (by decide) (by decide)
  have e : (((1 : Int) : Rat)) = 1 := rfl
  rw [e] at c1
  have c2 := addScaled_spec a b (canon 1) k K ha hb ((canon_ok sz_one).mono hk1) hk1 la lb bK hK
  rw [canon_val, smul_one] at c2
  unfold EL Raw.cells nl rC at *
  simp -implicitDefEqProofs (maxSteps := 2000000) (disch := omega) only [go_sem, condB_t, condB_f, pf0, dec_t, dec_f, and_of, ↓reduceIte, Nat.reduceEqDiff, Nat.reduceMul, Nat.reduceAdd, Nat.reduceSub, Nat.reduceLT, Nat.reduceLeDiff, Int.reduceToNat, Nat.reducePow, Int.reducePow, Int.reduceLT, Int.reduceLE, Int.reduceNeg, Int.reduceAdd, Int.reduceSub, Int.reduceMul, decide_true, decide_false, reduceCtorEq]
  refine callK_pure c1 ?_
  simp -implicitDefEqProofs (maxSteps := 2000000) (disch := omega) only [go_sem, condB_t, condB_f, pf0, dec_t, dec_f, and_of, ↓reduceIte, Nat.reduceEqDiff, Nat.reduceMul, Nat.reduceAdd, Nat.reduceSub, Nat.reduceLT, Nat.reduceLeDiff, Int.reduceToNat, Nat.reducePow, Int.reducePow, Int.reduceLT, Int.reduceLE, Int.reduceNeg, Int.reduceAdd, Int.reduceSub, Int.reduceMul, decide_true, decide_false, reduceCtorEq]
  refine callK_pure c2 ?_
  simp -implicitDefEqProofs (maxSteps := 2000000) (disch := omega) only [go_sem, condB_t, condB_f, pf0, dec_t, dec_f, and_of, ↓reduceIte, Nat.reduceEqDiff, Nat.reduceMul, Nat.reduceAdd, Nat.reduceSub, Nat.reduceLT, Nat.reduceLeDiff, Int.reduceToNat, Nat.reducePow, Int.reducePow, Int.reduceLT, Int.reduceLE, Int.reduceNeg, Int.reduceAdd, Int.reduceSub, Int.reduceMul, decide_true, decide_false, reduceCtorEq]
  exact dn
/-- The indices of a vector. -/
def ixL (l : List Ent) : List Int := l.map (·.1)
theorem ixL_succ {l : List Ent} {i : Nat} (h : i < l.length) : ixL (l.take (i + 1)) = ixL (l.take i) ++ [(l.getD i default).1] := by rw [take_succ_getE h]; unfold ixL; rw [List.map_append]; rfl
theorem support_spec (v : List Ent) (k : Nat) (hk : OkL v k) (hk1 : 1 ≤ k) (hlen : v.length ≤ 40) (hb : k + v.length * (k + 1) ≤ 1000000000000) : PDet Try.prog 48 [EL v] (IL ((vcan (eV v)).map (·.1))) := by
  refine pdet_of E0ok mixed Try.func48 (by kernel_rfl) rfl (by kernel_rfl) (Nat.le_of_ble_eq_true rfl) fun N0 h hn hmen => ?_
  have c1 := sorted_spec v k hk hk1 hlen hb
  have lS := srt_len v
  have e0 : (vcan (eV v)).map (·.1) = ixL (srt v) := by rw [← srt_val]; unfold ixL eV; rw [List.map_map]; rfl
  rw [e0]
  generalize srt v = S at *
  unfold EL IL at *
  simp -implicitDefEqProofs (maxSteps := 2000000) (disch := omega) only [go_sem, condB_t, condB_f, pf0, dec_t, dec_f, and_of, ↓reduceIte, Nat.reduceEqDiff, Nat.reduceMul, Nat.reduceAdd, Nat.reduceSub, Nat.reduceLT, Nat.reduceLeDiff, Int.reduceToNat, Nat.reducePow, Int.reducePow, Int.reduceLT, Int.reduceLE, Int.reduceNeg, Int.reduceAdd, Int.reduceSub, Int.reduceMul, decide_true, decide_false, reduceCtorEq]
  refine callK_pure c1 ?_
  simp -implicitDefEqProofs (maxSteps := 2000000) (disch := omega) only [go_sem, condB_t, condB_f, pf0, dec_t, dec_f, and_of, ↓reduceIte, Nat.reduceEqDiff, Nat.reduceMul, Nat.reduceAdd, Nat.reduceSub, Nat.reduceLT, Nat.reduceLeDiff, Int.reduceToNat, Nat.reducePow, Int.reducePow, Int.reduceLT, Int.reduceLE, Int.reduceNeg, Int.reduceAdd, Int.reduceSub, Int.reduceMul, decide_true, decide_false, reduceCtorEq]
  refine aw_weak (Weak.nilRow (t := 3) (sz := 1) (id := N0 + 48) (by omega) (by omega) (by simp -implicitDefEqProofs (maxSteps := 2000000) (disch := omega) only [go_sem, condB_t, condB_f, pf0, dec_t, dec_f, and_of, ↓reduceIte, Nat.reduceEqDiff, Nat.reduceMul, Nat.reduceAdd, Nat.reduceSub, Nat.reduceLT, Nat.reduceLeDiff, Int.reduceToNat, Nat.reducePow, Int.reducePow, Int.reduceLT, Int.reduceLE, Int.reduceNeg, Int.reduceAdd, Int.reduceSub, Int.reduceMul, decide_true, decide_false, reduceCtorEq])) ?_
  obtain ⟨id, hid⟩ : ∃ id, id = N0 + 48 := ⟨_, rfl⟩
  rw [← hid]
  refine aw_loop (X := Nat) (fun i => ⟨mkS [(3, .row id i 0 i), (7, .sl 4 (S.map entC)), (8, .int .i64 S.length), (9, .int .i64 i)], mkH h [(id, ⟨1, (ixL (S.take i)).map intC⟩)], id + 8⟩) (fun i => i ≤ S.length) (fun i => S.length - i) ⟨0, Nat.zero_le _, ?_⟩ ?_
  · (refine Weak.head1w (by simp -implicitDefEqProofs (maxSteps := 2000000) (disch := omega) only [go_sem, condB_t, condB_f, pf0, dec_t, dec_f, and_of, ↓reduceIte, Nat.reduceEqDiff, Nat.reduceMul, Nat.reduceAdd, Nat.reduceSub, Nat.reduceLT, Nat.reduceLeDiff, Int.reduceToNat, Nat.reducePow, Int.reducePow, Int.reduceLT, Int.reduceLE, Int.reduceNeg, Int.reduceAdd, Int.reduceSub, Int.reduceMul, decide_true, decide_false, reduceCtorEq] <;> (try rfl)) (by omega) (mapU _ _ _) (fun k0 b0 hk0 hb0 => by have hk1 : (k0 = _) = False := eq_false hk0; have hk2 := (hmen k0 b0 hb0).1; (simp -implicitDefEqProofs (maxSteps := 2000000) (disch := omega) only [go_sem, condB_t, condB_f, pf0, dec_t, dec_f, and_of, ↓reduceIte, Nat.reduceEqDiff, Nat.reduceMul, Nat.reduceAdd, Nat.reduceSub, Nat.reduceLT, Nat.reduceLeDiff, Int.reduceToNat, Nat.reducePow, Int.reducePow, Int.reduceLT, Int.reduceLE, Int.reduceNeg, Int.reduceAdd, Int.reduceSub, Int.reduceMul, decide_true, decide_false, reduceCtorEq, upd, mkH, hk1]) <;> (try (repeat rw [if_neg (by omega)])) <;> exact hb0) (by omega) hmen ?_; simp -implicitDefEqProofs (maxSteps := 2000000) (disch := omega) only [go_sem, condB_t, condB_f, pf0, dec_t, dec_f, and_of, ↓reduceIte, Nat.reduceEqDiff, Nat.reduceMul, Nat.reduceAdd, Nat.reduceSub, Nat.reduceLT, Nat.reduceLeDiff, Int.reduceToNat, Nat.reducePow, Int.reducePow, Int.reduceLT, Int.reduceLE, Int.reduceNeg, Int.reduceAdd, Int.reduceSub, Int.reduceMul, decide_true, decide_false, reduceCtorEq, AllP, AVle_same, AVle_int, AVle_nil, AVle_row, topU_int, topU_bool, topU_sl, topU_row, topU_ptr, topU_iptr, topU_fn, val, List.drop_length])
  · intro i hi
    by_cases h0 : i < S.length
    · have e := ixL_succ h0
      have hel : (ixL (S.take i)).length = i := by unfold ixL; rw [List.length_map, List.length_take]; omega
      simp -implicitDefEqProofs (maxSteps := 2000000) (disch := omega) only [go_sem, condB_t, condB_f, pf0, dec_t, dec_f, and_of, ↓reduceIte, Nat.reduceEqDiff, Nat.reduceMul, Nat.reduceAdd, Nat.reduceSub, Nat.reduceLT, Nat.reduceLeDiff, Int.reduceToNat, Nat.reducePow, Int.reducePow, Int.reduceLT, Int.reduceLE, Int.reduceNeg, Int.reduceAdd, Int.reduceSub, Int.reduceMul, decide_true, decide_false, reduceCtorEq, hel]
      exact ⟨i + 1, h0, by omega, by (refine Weak.head1w (by simp -implicitDefEqProofs (maxSteps := 2000000) (disch := omega) only [go_sem, condB_t, condB_f, pf0, dec_t, dec_f, and_of, ↓reduceIte, Nat.reduceEqDiff, Nat.reduceMul, Nat.reduceAdd, Nat.reduceSub, Nat.reduceLT, Nat.reduceLeDiff, Int.reduceToNat, Nat.reducePow, Int.reducePow, Int.reduceLT, Int.reduceLE, Int.reduceNeg, Int.reduceAdd, Int.reduceSub, Int.reduceMul, decide_true, decide_false, reduceCtorEq, e] <;> (try rfl)) (by omega) (mapU _ _ _) (fun k0 b0 hk0 hb0 => by have hk1 : (k0 = _) = False := eq_false hk0; have hk2 := (hmen k0 b0 hb0).1; (simp -implicitDefEqProofs (maxSteps := 2000000) (disch := omega) only [go_sem, condB_t, condB_f, pf0, dec_t, dec_f, and_of, ↓reduceIte, Nat.reduceEqDiff, Nat.reduceMul, Nat.reduceAdd, Nat.reduceSub, Nat.reduceLT, Nat.reduceLeDiff, Int.reduceToNat, Nat.reducePow, Int.reducePow, Int.reduceLT, Int.reduceLE, Int.reduceNeg, Int.reduceAdd, Int.reduceSub, Int.reduceMul, decide_true, decide_false, reduceCtorEq, upd, mkH, hk1]) <;> (try (repeat rw [if_neg (by omega)])) <;> exact hb0) (by omega) hmen ?_; simp -implicitDefEqProofs (maxSteps := 2000000) (disch := omega) only [go_sem, condB_t, condB_f, pf0, dec_t, dec_f, and_of, ↓reduceIte, Nat.reduceEqDiff, Nat.reduceMul, Nat.reduceAdd, Nat.reduceSub, Nat.reduceLT, Nat.reduceLeDiff, Int.reduceToNat, Nat.reducePow, Int.reducePow, Int.reduceLT, Int.reduceLE, Int.reduceNeg, Int.reduceAdd, Int.reduceSub, Int.reduceMul, decide_true, decide_false, reduceCtorEq, AllP, AVle_same, AVle_int, AVle_nil, AVle_row, topU_int, topU_bool, topU_sl, topU_row, topU_ptr, topU_iptr, topU_fn, val, List.drop_length, e])⟩
    · obtain rfl : i = S.length := by omega
      simp -implicitDefEqProofs (maxSteps := 2000000) (disch := omega) only [go_sem, condB_t, condB_f, pf0, dec_t, dec_f, and_of, ↓reduceIte, Nat.reduceEqDiff, Nat.reduceMul, Nat.reduceAdd, Nat.reduceSub, Nat.reduceLT, Nat.reduceLeDiff, Int.reduceToNat, Nat.reducePow, Int.reducePow, Int.reduceLT, Int.reduceLE, Int.reduceNeg, Int.reduceAdd, Int.reduceSub, Int.reduceMul, decide_true, decide_false, reduceCtorEq]
      rw [List.take_of_length_le (Nat.le_refl _)]
      refine .val (.leaf (Thaw.plain (rows := (ixL S).map intC) (by simp [locH, upd, mkH]; omega) (by simp [ixL]) (by omega) (List.take_of_length_le (by simp [ixL])) (mapP _)))
theorem cmpR_zero {a b : Rat} : cmpR a b = 0 ↔ a = b := by
  unfold cmpR
  constructor
  · intro h
    split at h
    · omega
    · split at h
      · assumption
      · omega
  · rintro rfl
    rw [if_neg (by grind), if_pos rfl]
theorem sameE_spec (e g : Ent) (k : Nat) (he : e.2.Ok k) (hg : g.2.Ok k) (hk1 : 1 ≤ k) (hk : k ≤ 500000000000) : PDet Try.prog 86 [.agg (entC e), .agg (entC g)] (.bool (decide (e.1 = g.1 ∧ e.2.val = g.2.val))) := by
  refine pdet_of E0ok mixed Try.func86 (by kernel_rfl) rfl (by kernel_rfl) (Nat.le_of_ble_eq_true rfl) fun N0 h hn hmen => ?_
  have c := rcompare_spec e.2 g.2 k k he hg hk1 hk1 (by omega)
  unfold entC
  unfold Raw.cells nl at c
  by_cases h1 : e.1 = g.1
  · by_cases h2 : e.2.val = g.2.val
    · rw [cmpR_zero.2 h2] at c
      rw [decide_eq_true ⟨h1, h2⟩]
      simp -implicitDefEqProofs (maxSteps := 2000000) (disch := omega) only [go_sem, condB_t, condB_f, pf0, dec_t, dec_f, and_of, ↓reduceIte, Nat.reduceEqDiff, Nat.reduceMul, Nat.reduceAdd, Nat.reduceSub, Nat.reduceLT, Nat.reduceLeDiff, Int.reduceToNat, Nat.reducePow, Int.reducePow, Int.reduceLT, Int.reduceLE, Int.reduceNeg, Int.reduceAdd, Int.reduceSub, Int.reduceMul, decide_true, decide_false, reduceCtorEq]
      refine callK_pure c ?_
      simp -implicitDefEqProofs (maxSteps := 2000000) (disch := omega) only [go_sem, condB_t, condB_f, pf0, dec_t, dec_f, and_of, ↓reduceIte, Nat.reduceEqDiff, Nat.reduceMul, Nat.reduceAdd, Nat.reduceSub, Nat.reduceLT, Nat.reduceLeDiff, Int.reduceToNat, Nat.reducePow, Int.reducePow, Int.reduceLT, Int.reduceLE, Int.reduceNeg, Int.reduceAdd, Int.reduceSub, Int.reduceMul, decide_true, decide_false, reduceCtorEq]
      exact dn
    · have h3 : cmpR e.2.val g.2.val ≠ 0 := fun h => h2 (cmpR_zero.1 h)
      rw [decide_eq_false fun h => h2 h.2]
      simp -implicitDefEqProofs (maxSteps := 2000000) (disch := omega) only [go_sem, condB_t, condB_f, pf0, dec_t, dec_f, and_of, ↓reduceIte, Nat.reduceEqDiff, Nat.reduceMul, Nat.reduceAdd, Nat.reduceSub, Nat.reduceLT, Nat.reduceLeDiff, Int.reduceToNat, Nat.reducePow, Int.reducePow, Int.reduceLT, Int.reduceLE, Int.reduceNeg, Int.reduceAdd, Int.reduceSub, Int.reduceMul, decide_true, decide_false, reduceCtorEq]
      refine callK_pure c ?_
      simp -implicitDefEqProofs (maxSteps := 2000000) (disch := omega) only [go_sem, condB_t, condB_f, pf0, dec_t, dec_f, and_of, ↓reduceIte, Nat.reduceEqDiff, Nat.reduceMul, Nat.reduceAdd, Nat.reduceSub, Nat.reduceLT, Nat.reduceLeDiff, Int.reduceToNat, Nat.reducePow, Int.reducePow, Int.reduceLT, Int.reduceLE, Int.reduceNeg, Int.reduceAdd, Int.reduceSub, Int.reduceMul, decide_true, decide_false, reduceCtorEq]
      exact dn
  · rw [decide_eq_false fun h => h1 h.1]
    simp -implicitDefEqProofs (maxSteps := 2000000) (disch := omega) only [go_sem, condB_t, condB_f, pf0, dec_t, dec_f, and_of, ↓reduceIte, Nat.reduceEqDiff, Nat.reduceMul, Nat.reduceAdd, Nat.reduceSub, Nat.reduceLT, Nat.reduceLeDiff, Int.reduceToNat, Nat.reducePow, Int.reducePow, Int.reduceLT, Int.reduceLE, Int.reduceNeg, Int.reduceAdd, Int.reduceSub, Int.reduceMul, decide_true, decide_false, reduceCtorEq]
    exact dn
theorem eV_getD {l : List Ent} {i : Nat} (h : i < l.length) : (eV l).getD i default = ((l.getD i default).1, (l.getD i default).2.val) := by
  unfold eV
  rw [List.getD_eq_getElem?_getD, List.getElem?_map, List.getD_eq_getElem?_getD, List.getElem?_eq_getElem h]; rfl
theorem equalFunc_spec (S T : List Ent) (k : Nat) (hS : OkL S k) (hT : OkL T k) (hk1 : 1 ≤ k) (hk : k ≤ 500000000000) (lS : S.length ≤ 1099511627776) (lT : T.length ≤ 1099511627776) :
    PDet Try.prog 85 [EL S, EL T, .fn 86] (.bool (decide (eV S = eV T))) := by
  refine pdet_of E0ok mixed Try.func85 (by kernel_rfl) rfl (by kernel_rfl) (Nat.le_of_ble_eq_true rfl) fun N0 h hn hmen => ?_
  have l1 := eV_len S
  have l2 := eV_len T
  unfold EL
  by_cases hl : S.length = T.length
  · simp -implicitDefEqProofs (maxSteps := 2000000) (disch := omega) only [go_sem, condB_t, condB_f, pf0, dec_t, dec_f, and_of, ↓reduceIte, Nat.reduceEqDiff, Nat.reduceMul, Nat.reduceAdd, Nat.reduceSub, Nat.reduceLT, Nat.reduceLeDiff, Int.reduceToNat, Nat.reducePow, Int.reducePow, Int.reduceLT, Int.reduceLE, Int.reduceNeg, Int.reduceAdd, Int.reduceSub, Int.reduceMul, decide_true, decide_false, reduceCtorEq]
    refine aw_loop (X := Nat) (fun i => ⟨mkS [(1, .sl 4 (T.map entC)), (2, .fn 86), (15, .sl 4 (S.map entC)), (16, .int .i64 S.length), (17, .int .i64 i)], h, N0⟩) (fun i => i ≤ S.length ∧ (eV S).take i = (eV T).take i) (fun i => S.length - i) ⟨0, ⟨Nat.zero_le _, rfl⟩, ?_⟩ ?_
    · (refine Weak.slots (allP ?_) (fun k0 b0 hb0 => by first | exact hb0 | (have hk1 := (hmen k0 b0 hb0).1; simp only [upd, mkH]; (repeat rw [if_neg (by omega)]); exact hb0)) (by omega) hmen; simp -implicitDefEqProofs (maxSteps := 2000000) (disch := omega) only [go_sem, condB_t, condB_f, pf0, dec_t, dec_f, and_of, ↓reduceIte, Nat.reduceEqDiff, Nat.reduceMul, Nat.reduceAdd, Nat.reduceSub, Nat.reduceLT, Nat.reduceLeDiff, Int.reduceToNat, Nat.reducePow, Int.reducePow, Int.reduceLT, Int.reduceLE, Int.reduceNeg, Int.reduceAdd, Int.reduceSub, Int.reduceMul, decide_true, decide_false, reduceCtorEq, AllP, AVle_same, AVle_int, AVle_nil, AVle_row, topU_int, topU_bool, topU_sl, topU_row, topU_ptr, topU_iptr, topU_fn, val, List.drop_length])
    · rintro i ⟨hi, ht⟩
      by_cases h0 : i < S.length
      · have hst := take_eq_step (x := eV S) (y := eV T) (i := i) (by omega) (by omega) ht
        have g1 := eV_getD h0
        have g2 := eV_getD (l := T) (i := i) (by omega)
        have hx := hS.get h0
        have hy := hT.get (i := i) (by omega)
        have hno : (eV S).getD i default ≠ (eV T).getD i default → eV S ≠ eV T := fun hn e => hn (by rw [e])
        rw [g1, g2] at hst hno
        have c := sameE_spec _ _ k hx hy hk1 hk
        unfold entC at c
        simp -implicitDefEqProofs (maxSteps := 2000000) (disch := omega) only [go_sem, condB_t, condB_f, pf0, dec_t, dec_f, and_of, ↓reduceIte, Nat.reduceEqDiff, Nat.reduceMul, Nat.reduceAdd, Nat.reduceSub, Nat.reduceLT, Nat.reduceLeDiff, Int.reduceToNat, Nat.reducePow, Int.reducePow, Int.reduceLT, Int.reduceLE, Int.reduceNeg, Int.reduceAdd, Int.reduceSub, Int.reduceMul, decide_true, decide_false, reduceCtorEq]
        refine callK_pure c ?_
        by_cases h1 : (S.getD i default).1 = (T.getD i default).1 ∧ (S.getD i default).2.val = (T.getD i default).2.val
        · have hyes := hst.2 (Prod.ext h1.1 h1.2)
          rw [decide_eq_true h1]
          simp -implicitDefEqProofs (maxSteps := 2000000) (disch := omega) only [go_sem, condB_t, condB_f, pf0, dec_t, dec_f, and_of, ↓reduceIte, Nat.reduceEqDiff, Nat.reduceMul, Nat.reduceAdd, Nat.reduceSub, Nat.reduceLT, Nat.reduceLeDiff, Int.reduceToNat, Nat.reducePow, Int.reducePow, Int.reduceLT, Int.reduceLE, Int.reduceNeg, Int.reduceAdd, Int.reduceSub, Int.reduceMul, decide_true, decide_false, reduceCtorEq]
          exact ⟨i + 1, ⟨h0, hyes⟩, by omega, by (refine Weak.slots (allP ?_) (fun k0 b0 hb0 => by first | exact hb0 | (have hk1 := (hmen k0 b0 hb0).1; simp only [upd, mkH]; (repeat rw [if_neg (by omega)]); exact hb0)) (by omega) hmen; simp -implicitDefEqProofs (maxSteps := 2000000) (disch := omega) only [go_sem, condB_t, condB_f, pf0, dec_t, dec_f, and_of, ↓reduceIte, Nat.reduceEqDiff, Nat.reduceMul, Nat.reduceAdd, Nat.reduceSub, Nat.reduceLT, Nat.reduceLeDiff, Int.reduceToNat, Nat.reducePow, Int.reducePow, Int.reduceLT, Int.reduceLE, Int.reduceNeg, Int.reduceAdd, Int.reduceSub, Int.reduceMul, decide_true, decide_false, reduceCtorEq, AllP, AVle_same, AVle_int, AVle_nil, AVle_row, topU_int, topU_bool, topU_sl, topU_row, topU_ptr, topU_iptr, topU_fn, val, List.drop_length])⟩
        · have hne := hno fun e => h1 ⟨(Prod.mk.inj e).1, (Prod.mk.inj e).2⟩
          rw [decide_eq_false h1, decide_eq_false hne]
          simp -implicitDefEqProofs (maxSteps := 2000000) (disch := omega) only [go_sem, condB_t, condB_f, pf0, dec_t, dec_f, and_of, ↓reduceIte, Nat.reduceEqDiff, Nat.reduceMul, Nat.reduceAdd, Nat.reduceSub, Nat.reduceLT, Nat.reduceLeDiff, Int.reduceToNat, Nat.reducePow, Int.reducePow, Int.reduceLT, Int.reduceLE, Int.reduceNeg, Int.reduceAdd, Int.reduceSub, Int.reduceMul, decide_true, decide_false, reduceCtorEq]
          exact dn
      · obtain rfl : i = S.length := by omega
        rw [List.take_of_length_le (by omega), List.take_of_length_le (by omega)] at ht
        rw [decide_eq_true ht]
        simp -implicitDefEqProofs (maxSteps := 2000000) (disch := omega) only [go_sem, condB_t, condB_f, pf0, dec_t, dec_f, and_of, ↓reduceIte, Nat.reduceEqDiff, Nat.reduceMul, Nat.reduceAdd, Nat.reduceSub, Nat.reduceLT, Nat.reduceLeDiff, Int.reduceToNat, Nat.reducePow, Int.reducePow, Int.reduceLT, Int.reduceLE, Int.reduceNeg, Int.reduceAdd, Int.reduceSub, Int.reduceMul, decide_true, decide_false, reduceCtorEq]
        exact dn
  · rw [decide_eq_false (fun e => hl (by rw [← l1, ← l2, e]))]
    simp -implicitDefEqProofs (maxSteps := 2000000) (disch := omega) only [go_sem, condB_t, condB_f, pf0, dec_t, dec_f, and_of, ↓reduceIte, Nat.reduceEqDiff, Nat.reduceMul, Nat.reduceAdd, Nat.reduceSub, Nat.reduceLT, Nat.reduceLeDiff, Int.reduceToNat, Nat.reducePow, Int.reducePow, Int.reduceLT, Int.reduceLE, Int.reduceNeg, Int.reduceAdd, Int.reduceSub, Int.reduceMul, decide_true, decide_false, reduceCtorEq]
    exact dn
theorem vequal_spec (a b : List Ent) (k K : Nat) (ha : OkL a k) (hb : OkL b k) (hk1 : 1 ≤ k) (la : a.length ≤ 40) (lb : b.length ≤ 40) (bK : k + 40 * (k + 1) ≤ K) (hK : K ≤ 100000000000) :
    PDet Try.prog 46 [EL a, EL b] (.bool (decide (vcan (eV a) = vcan (eV b)))) := by
  refine pdet_of E0ok mixed Try.func46 (by kernel_rfl) rfl (by kernel_rfl) (Nat.le_of_ble_eq_true rfl) fun N0 h hn hmen => ?_
  have m1 : a.length * (k + 1) ≤ 40 * (k + 1) := Nat.mul_le_mul_right _ la
  have m2 : b.length * (k + 1) ≤ 40 * (k + 1) := Nat.mul_le_mul_right _ lb
  have c1 := sorted_spec a k ha hk1 la (by omega)
  have c2 := sorted_spec b k hb hk1 lb (by omega)
  have l1 := srt_len a
  have l2 := srt_len b
  have c3 := equalFunc_spec (srt a) (srt b) K ((srt_ok hk1 ha).mono (by omega)) ((srt_ok hk1 hb).mono (by omega)) (by omega) (by omega) (by omega) (by omega)
  rw [srt_val, srt_val] at c3
  unfold EL at *
  simp -implicitDefEqProofs (maxSteps := 2000000) (disch := omega) only [go_sem, condB_t, condB_f, pf0, dec_t, dec_f, and_of, ↓reduceIte, Nat.reduceEqDiff, Nat.reduceMul, Nat.reduceAdd, Nat.reduceSub, Nat.reduceLT, Nat.reduceLeDiff, Int.reduceToNat, Nat.reducePow, Int.reducePow, Int.reduceLT, Int.reduceLE, Int.reduceNeg, Int.reduceAdd, Int.reduceSub, Int.reduceMul, decide_true, decide_false, reduceCtorEq]
  refine callK_pure c1 ?_
  simp -implicitDefEqProofs (maxSteps := 2000000) (disch := omega) only [go_sem, condB_t, condB_f, pf0, dec_t, dec_f, and_of, ↓reduceIte, Nat.reduceEqDiff, Nat.reduceMul, Nat.reduceAdd, Nat.reduceSub, Nat.reduceLT, Nat.reduceLeDiff, Int.reduceToNat, Nat.reducePow, Int.reducePow, Int.reduceLT, Int.reduceLE, Int.reduceNeg, Int.reduceAdd, Int.reduceSub, Int.reduceMul, decide_true, decide_false, reduceCtorEq]
  refine callK_pure c2 ?_
  simp -implicitDefEqProofs (maxSteps := 2000000) (disch := omega) only [go_sem, condB_t, condB_f, pf0, dec_t, dec_f, and_of, ↓reduceIte, Nat.reduceEqDiff, Nat.reduceMul, Nat.reduceAdd, Nat.reduceSub, Nat.reduceLT, Nat.reduceLeDiff, Int.reduceToNat, Nat.reducePow, Int.reducePow, Int.reduceLT, Int.reduceLE, Int.reduceNeg, Int.reduceAdd, Int.reduceSub, Int.reduceMul, decide_true, decide_false, reduceCtorEq]
  refine callK_pure c3 ?_
  simp -implicitDefEqProofs (maxSteps := 2000000) (disch := omega) only [go_sem, condB_t, condB_f, pf0, dec_t, dec_f, and_of, ↓reduceIte, Nat.reduceEqDiff, Nat.reduceMul, Nat.reduceAdd, Nat.reduceSub, Nat.reduceLT, Nat.reduceLeDiff, Int.reduceToNat, Nat.reducePow, Int.reducePow, Int.reduceLT, Int.reduceLE, Int.reduceNeg, Int.reduceAdd, Int.reduceSub, Int.reduceMul, decide_true, decide_false, reduceCtorEq]
  exact dn
theorem hequal_spec (a b : List Int) (la : a.length ≤ 1099511627776) (lb : b.length ≤ 1099511627776) : PDet Try.prog 47 [IL a, IL b] (.bool (decide (a = b))) := by
  refine pdet_of E0ok mixed Try.func47 (by kernel_rfl) rfl (by kernel_rfl) (Nat.le_of_ble_eq_true rfl) fun N0 h hn hmen => ?_
  unfold IL
  by_cases hl : a.length = b.length
  · simp -implicitDefEqProofs (maxSteps := 2000000) (disch := omega) only [go_sem, condB_t, condB_f, pf0, dec_t, dec_f, and_of, ↓reduceIte, Nat.reduceEqDiff, Nat.reduceMul, Nat.reduceAdd, Nat.reduceSub, Nat.reduceLT, Nat.reduceLeDiff, Int.reduceToNat, Nat.reducePow, Int.reducePow, Int.reduceLT, Int.reduceLE, Int.reduceNeg, Int.reduceAdd, Int.reduceSub, Int.reduceMul, decide_true, decide_false, reduceCtorEq]
    refine aw_loop (X := Nat) (fun i => ⟨mkS [(0, .sl 1 (a.map intC)), (1, .sl 1 (b.map intC)), (5, .int .i64 i)], h, N0⟩) (fun i => i ≤ a.length ∧ a.take i = b.take i) (fun i => a.length - i) ⟨0, ⟨Nat.zero_le _, rfl⟩, ?_⟩ ?_
    · (refine Weak.slots (allP ?_) (fun k0 b0 hb0 => by first | exact hb0 | (have hk1 := (hmen k0 b0 hb0).1; simp only [upd, mkH]; (repeat rw [if_neg (by omega)]); exact hb0)) (by omega) hmen; simp -implicitDefEqProofs (maxSteps := 2000000) (disch := omega) only [go_sem, condB_t, condB_f, pf0, dec_t, dec_f, and_of, ↓reduceIte, Nat.reduceEqDiff, Nat.reduceMul, Nat.reduceAdd, Nat.reduceSub, Nat.reduceLT, Nat.reduceLeDiff, Int.reduceToNat, Nat.reducePow, Int.reducePow, Int.reduceLT, Int.reduceLE, Int.reduceNeg, Int.reduceAdd, Int.reduceSub, Int.reduceMul, decide_true, decide_false, reduceCtorEq, AllP, AVle_same, AVle_int, AVle_nil, AVle_row, topU_int, topU_bool, topU_sl, topU_row, topU_ptr, topU_iptr, topU_fn, val, List.drop_length])
    · rintro i ⟨hi, ht⟩
      by_cases h0 : i < a.length
      · have hst := take_eq_step h0 hl ht
        have hno : a.getD i default ≠ b.getD i default → a ≠ b := fun hn e => hn (by rw [e])
        by_cases h1 : a.getD i default = b.getD i default
        · have hyes := hst.2 h1
          have h1 : a.getD i 0 = b.getD i 0 := h1
          simp -implicitDefEqProofs (maxSteps := 2000000) (disch := omega) only [go_sem, condB_t, condB_f, pf0, dec_t, dec_f, and_of, ↓reduceIte, Nat.reduceEqDiff, Nat.reduceMul, Nat.reduceAdd, Nat.reduceSub, Nat.reduceLT, Nat.reduceLeDiff, Int.reduceToNat, Nat.reducePow, Int.reducePow, Int.reduceLT, Int.reduceLE, Int.reduceNeg, Int.reduceAdd, Int.reduceSub, Int.reduceMul, decide_true, decide_false, reduceCtorEq]
          exact ⟨i + 1, ⟨h0, hyes⟩, by omega, by (refine Weak.slots (allP ?_) (fun k0 b0 hb0 => by first | exact hb0 | (have hk1 := (hmen k0 b0 hb0).1; simp only [upd, mkH]; (repeat rw [if_neg (by omega)]); exact hb0)) (by omega) hmen; simp -implicitDefEqProofs (maxSteps := 2000000) (disch := omega) only [go_sem, condB_t, condB_f, pf0, dec_t, dec_f, and_of, ↓reduceIte, Nat.reduceEqDiff, Nat.reduceMul, Nat.reduceAdd, Nat.reduceSub, Nat.reduceLT, Nat.reduceLeDiff, Int.reduceToNat, Nat.reducePow, Int.reducePow, Int.reduceLT, Int.reduceLE, Int.reduceNeg, Int.reduceAdd, Int.reduceSub, Int.reduceMul, decide_true, decide_false, reduceCtorEq, AllP, AVle_same, AVle_int, AVle_nil, AVle_row, topU_int, topU_bool, topU_sl, topU_row, topU_ptr, topU_iptr, topU_fn, val, List.drop_length])⟩
        · rw [decide_eq_false (hno h1)]
          have h1 : ¬ a.getD i 0 = b.getD i 0 := h1
          simp -implicitDefEqProofs (maxSteps := 2000000) (disch := omega) only [go_sem, condB_t, condB_f, pf0, dec_t, dec_f, and_of, ↓reduceIte, Nat.reduceEqDiff, Nat.reduceMul, Nat.reduceAdd, Nat.reduceSub, Nat.reduceLT, Nat.reduceLeDiff, Int.reduceToNat, Nat.reducePow, Int.reducePow, Int.reduceLT, Int.reduceLE, Int.reduceNeg, Int.reduceAdd, Int.reduceSub, Int.reduceMul, decide_true, decide_false, reduceCtorEq]
          exact dn
      · obtain rfl : i = a.length := by omega
        rw [List.take_of_length_le (Nat.le_refl _), List.take_of_length_le (by omega)] at ht
        rw [decide_eq_true ht]
        simp -implicitDefEqProofs (maxSteps := 2000000) (disch := omega) only [go_sem, condB_t, condB_f, pf0, dec_t, dec_f, and_of, ↓reduceIte, Nat.reduceEqDiff, Nat.reduceMul, Nat.reduceAdd, Nat.reduceSub, Nat.reduceLT, Nat.reduceLeDiff, Int.reduceToNat, Nat.reducePow, Int.reducePow, Int.reduceLT, Int.reduceLE, Int.reduceNeg, Int.reduceAdd, Int.reduceSub, Int.reduceMul, decide_true, decide_false, reduceCtorEq]
        exact dn
  · rw [decide_eq_false (fun e => hl (by rw [e]))]
    simp -implicitDefEqProofs (maxSteps := 2000000) (disch := omega) only [go_sem, condB_t, condB_f, pf0, dec_t, dec_f, and_of, ↓reduceIte, Nat.reduceEqDiff, Nat.reduceMul, Nat.reduceAdd, Nat.reduceSub, Nat.reduceLT, Nat.reduceLeDiff, Int.reduceToNat, Nat.reducePow, Int.reducePow, Int.reduceLT, Int.reduceLE, Int.reduceNeg, Int.reduceAdd, Int.reduceSub, Int.reduceMul, decide_true, decide_false, reduceCtorEq]
    exact dn
end Go.Abs
/-! YtbLaw7: VectorSpace returns true for vectors whose numbers have at most 1100000 limbs. -/
set_option linter.unusedVariables false
set_option linter.unusedSimpArgs false
set_option maxRecDepth 100000
set_option maxHeartbeats 1000000
namespace Go.Abs
open Go.Proofs
@[go_sem] theorem R9 : Try.f9.results.toList = [.tmp 6] := rfl
theorem vcan_idx (u : Vec) : ∀ e ∈ vcan u, ∃ x ∈ u, x.1 = e.1 := fun e he => by
  have hc := vcan_can u
  have h1 := can_mem_get hc e he
  rw [vcan_get] at h1
  by_cases hx : ∃ x ∈ u, x.1 = e.1
  · exact hx
  · exact absurd (by rw [← h1]; exact vget_out fun x hx' e1 => hx ⟨x, hx', e1⟩) (hc.nz e he)
theorem vcan_sz {u : Vec} {k n : Nat} (h : ∀ e ∈ u, Sz e.2 k) (hn : u.length ≤ n) : ∀ e ∈ vcan u, Sz e.2 (1 + n * (k + 1)) := fun e he => by
  have h1 := can_mem_get (vcan_can u) e he
  rw [vcan_get] at h1
  rw [← h1]
  exact (vget_sz h e.1).mono (Nat.add_le_add_left (Nat.mul_le_mul_right _ hn) _)
theorem can_rng_len : ∀ {v : Vec} {n : Nat} {lo : Int}, Can v → (∀ e ∈ v, lo ≤ e.1 ∧ e.1 < lo + n) → v.length ≤ n
  | [], _, _, _, _ => Nat.zero_le _
  | e :: v, 0, lo, _, h => by have := h e (List.mem_cons_self ..); omega
  | e :: v, n + 1, lo, hc, h => by
    have := can_rng_len (n := n) (lo := lo + 1) hc.tail fun x hx => by
      have h1 := hc.lt x hx
      have h2 := h e (List.mem_cons_self ..)
      have h3 := h x (List.mem_cons_of_mem _ hx)
      omega
    rw [List.length_cons]; omega
def Rg (v : Vec) : Prop := ∀ e ∈ v, -1 ≤ e.1 ∧ e.1 < 8
theorem Rg.vcan {v : Vec} (h : Rg v) : Rg (vcan v) := fun e he => by
  obtain ⟨x, hx, e1⟩ := vcan_idx v e he
  rw [← e1]; exact h x hx
theorem Rg.len {v : Vec} (h : Rg v) : (Abs.vcan v).length ≤ 9 := can_rng_len (lo := -1) (vcan_can v) fun e he => by have := h.vcan e he; omega
theorem Rg.app {v w : Vec} (h : Rg v) (k : Rg w) : Rg (v ++ w) := fun e he => (List.mem_append.1 he).elim (h e) (k e)
theorem Rg.smul {v : Vec} (h : Rg v) (f : Rat) : Rg (smul f v) := fun e he => by
  obtain ⟨x, hx, rfl⟩ := List.mem_map.1 he
  exact h x hx
theorem shL_rg (l : List Ent) : Rg (eV (shL l)) := fun e he => by
  obtain ⟨x, hx, rfl⟩ := List.mem_map.1 he
  obtain ⟨y, hy, rfl⟩ := List.mem_map.1 hx
  unfold shE
  simp only
  omega
theorem shL_ok {l : List Ent} {k : Nat} (h : OkL l k) : OkL (shL l) k := fun e he => by
  obtain ⟨x, hx, rfl⟩ := List.mem_map.1 he
  exact h x (List.mem_of_mem_take hx)
theorem shL_le (l : List Ent) : (shL l).length ≤ 40 := by rw [shL_len]; omega
/-- A sum's entries are counted and bounded. -/
theorem vadd_ok {u : Vec} {k n : Nat} (h : ∀ e ∈ u, Sz e.2 k) (hn : u.length ≤ n) : OkL (cE (vcan u)) (1 + n * (k + 1)) := cE_ok (vcan_sz h hn)
theorem app_sz {u w : Vec} {k : Nat} (h : ∀ e ∈ u, Sz e.2 k) (g : ∀ e ∈ w, Sz e.2 k) : ∀ e ∈ u ++ w, Sz e.2 k := fun e he => (List.mem_append.1 he).elim (h e) (g e)
theorem space_spec (a b c : List Ent) (k : Nat) (ha : OkL a k) (hb : OkL b k) (hc : OkL c k) (hk1 : 1 ≤ k) (hk : k ≤ 1100000) (hla : a.length ≤ 1099511627776) (hlb : b.length ≤ 1099511627776) (hlc : c.length ≤ 1099511627776) :
    PDet Try.prog 9 [EL a, EL b, EL c] (.bool true) := by
  refine pdet_of E0ok mixed Try.func9 (by kernel_rfl) rfl (by kernel_rfl) (Nat.le_of_ble_eq_true rfl) fun N0 h hn hmen => ?_
  have s1 := lshort_spec a hla
  have s2 := lshort_spec b hlb
  have s3 := lshort_spec c hlc
  have aw0 := awake_spec
  have oa := shL_ok ha
  have ob := shL_ok hb
  have oc := shL_ok hc
  have la := shL_le a
  have lb := shL_le b
  have lc := shL_le c
  have ra := shL_rg a
  have rb := shL_rg b
  have rc := shL_rg c
  generalize shL a = A at *
  generalize shL b = B at *
  generalize shL c = C at *
  have za := eV_sz oa hk1
  have zb := eV_sz ob hk1
  have zc := eV_sz oc hk1
  have na : (eV A).length ≤ 40 := by rw [eV_len]; exact la
  have nb : (eV B).length ≤ 40 := by rw [eV_len]; exact lb
  have nc : (eV C).length ≤ 40 := by rw [eV_len]; exact lc
  obtain ⟨k2, hk2⟩ : ∃ k2, k2 = 1 + 80 * (k + 1) := ⟨_, rfl⟩
  have ab := vadd_ok (app_sz za zb) (n := 80) (by rw [List.length_append]; omega)
  have bc := vadd_ok (app_sz zb zc) (n := 80) (by rw [List.length_append]; omega)
  rw [← hk2] at ab bc
  have lab : (cE (vcan (eV A ++ eV B))).length ≤ 40 := by rw [cE_len]; have := (ra.app rb).len; omega
  have lbc : (cE (vcan (eV B ++ eV C))).length ≤ 40 := by rw [cE_len]; have := (rb.app rc).len; omega
  have d1 := vadd_spec A B k 100000000000 oa ob hk1 la lb (by omega) (by omega)
  have d2 := vadd_spec (cE (vcan (eV A ++ eV B))) C k2 100000000000 ab (oc.mono (by omega)) (by omega) lab lc (by omega) (by omega)
  have d3 := vadd_spec B C k 100000000000 ob oc hk1 lb lc (by omega) (by omega)
  have d4 := vadd_spec A (cE (vcan (eV B ++ eV C))) k2 100000000000 (oa.mono (by omega)) bc (by omega) la lbc (by omega) (by omega)
  have d5 := vadd_spec B A k 100000000000 ob oa hk1 lb la (by omega) (by omega)
  have e1 : vcan (eV (cE (vcan (eV A ++ eV B))) ++ eV C) = vcan (eV A ++ eV B ++ eV C) := by
    rw [eV_cE]; exact vcan_congr fun i => by rw [vget_append, vget_append (v := eV A ++ eV B), vcan_get]
  have e2 : vcan (eV A ++ eV (cE (vcan (eV B ++ eV C)))) = vcan (eV A ++ eV B ++ eV C) := by
    rw [eV_cE]; exact vcan_congr fun i => by rw [vget_append, vget_append (v := eV A ++ eV B), vcan_get, vget_append, vget_append]; grind
  have e3 : vcan (eV B ++ eV A) = vcan (eV A ++ eV B) := vcan_congr fun i => by rw [vget_append, vget_append]; grind
  rw [e1] at d2
  rw [e2] at d4
  rw [e3] at d5
  have zabc := vcan_sz (app_sz (app_sz za zb) zc) (n := 120) (by simp only [List.length_append]; omega)
  have zab := vcan_sz (app_sz za zb) (n := 80) (by rw [List.length_append]; omega)
  have nabc := ((ra.app rb).app rc).len
  have nab := (ra.app rb).len
  have i1 := identical_spec _ _ _ _ zabc zabc (by omega) (by omega) (by omega) (by omega)
  have i2 := identical_spec _ _ _ _ zab zab (by omega) (by omega) (by omega) (by omega)
  rw [decide_eq_true rfl] at i1 i2
  have f1 := r3fromInt_spec (-1) (by decide) (by decide)
  have q1 : (((-1 : Int) : Rat)) = -1 := rfl
  rw [q1] at f1
  have zm : Sz (-1 : Rat) 1 := ⟨by unfold Fit; decide, by unfold Fit; decide⟩
  have f2 := addScaled_spec A A (canon (-1)) k 100000000000 oa oa ((canon_ok zm).mono hk1) hk1 la la (by omega) (by omega)
  have e4 : vcan (eV A ++ smul (-1) (eV A)) = [] := vcan_nil.2 fun i => by rw [vget_append, smul_get]; grind
  rw [canon_val, e4] at f2
  clear e1 e2 e3 e4 zabc zab ra rb rc za zb zc oa ob oc ab bc zm
  have n0 : cE ([] : Vec) = [] := rfl
  rw [n0] at f2
  generalize cE (vcan (eV A ++ eV B ++ eV C)) = ABC at *
  generalize cE (vcan (eV A ++ eV B)) = AB at *
  generalize cE (vcan (eV B ++ eV C)) = BC at *
  unfold EL rC Raw.cells nl at *
  simp -implicitDefEqProofs (maxSteps := 2000000) (disch := omega) only [go_sem, condB_t, condB_f, pf0, dec_t, dec_f, and_of, ↓reduceIte, Nat.reduceEqDiff, Nat.reduceMul, Nat.reduceAdd, Nat.reduceSub, Nat.reduceLT, Nat.reduceLeDiff, Int.reduceToNat, Nat.reducePow, Int.reducePow, Int.reduceLT, Int.reduceLE, Int.reduceNeg, Int.reduceAdd, Int.reduceSub, Int.reduceMul, decide_true, decide_false, reduceCtorEq]
  refine callK_pure s1 ?_
  simp -implicitDefEqProofs (maxSteps := 2000000) (disch := omega) only [go_sem, condB_t, condB_f, pf0, dec_t, dec_f, and_of, ↓reduceIte, Nat.reduceEqDiff, Nat.reduceMul, Nat.reduceAdd, Nat.reduceSub, Nat.reduceLT, Nat.reduceLeDiff, Int.reduceToNat, Nat.reducePow, Int.reducePow, Int.reduceLT, Int.reduceLE, Int.reduceNeg, Int.reduceAdd, Int.reduceSub, Int.reduceMul, decide_true, decide_false, reduceCtorEq]
  refine callK_pure s2 ?_
  simp -implicitDefEqProofs (maxSteps := 2000000) (disch := omega) only [go_sem, condB_t, condB_f, pf0, dec_t, dec_f, and_of, ↓reduceIte, Nat.reduceEqDiff, Nat.reduceMul, Nat.reduceAdd, Nat.reduceSub, Nat.reduceLT, Nat.reduceLeDiff, Int.reduceToNat, Nat.reducePow, Int.reducePow, Int.reduceLT, Int.reduceLE, Int.reduceNeg, Int.reduceAdd, Int.reduceSub, Int.reduceMul, decide_true, decide_false, reduceCtorEq]
  refine callK_pure s3 ?_
  simp -implicitDefEqProofs (maxSteps := 2000000) (disch := omega) only [go_sem, condB_t, condB_f, pf0, dec_t, dec_f, and_of, ↓reduceIte, Nat.reduceEqDiff, Nat.reduceMul, Nat.reduceAdd, Nat.reduceSub, Nat.reduceLT, Nat.reduceLeDiff, Int.reduceToNat, Nat.reducePow, Int.reducePow, Int.reduceLT, Int.reduceLE, Int.reduceNeg, Int.reduceAdd, Int.reduceSub, Int.reduceMul, decide_true, decide_false, reduceCtorEq]
  refine callK_pure aw0 ?_
  simp -implicitDefEqProofs (maxSteps := 2000000) (disch := omega) only [go_sem, condB_t, condB_f, pf0, dec_t, dec_f, and_of, ↓reduceIte, Nat.reduceEqDiff, Nat.reduceMul, Nat.reduceAdd, Nat.reduceSub, Nat.reduceLT, Nat.reduceLeDiff, Int.reduceToNat, Nat.reducePow, Int.reducePow, Int.reduceLT, Int.reduceLE, Int.reduceNeg, Int.reduceAdd, Int.reduceSub, Int.reduceMul, decide_true, decide_false, reduceCtorEq]
  refine callK_pure d1 ?_
  simp -implicitDefEqProofs (maxSteps := 2000000) (disch := omega) only [go_sem, condB_t, condB_f, pf0, dec_t, dec_f, and_of, ↓reduceIte, Nat.reduceEqDiff, Nat.reduceMul, Nat.reduceAdd, Nat.reduceSub, Nat.reduceLT, Nat.reduceLeDiff, Int.reduceToNat, Nat.reducePow, Int.reducePow, Int.reduceLT, Int.reduceLE, Int.reduceNeg, Int.reduceAdd, Int.reduceSub, Int.reduceMul, decide_true, decide_false, reduceCtorEq]
  refine callK_pure d2 ?_
  simp -implicitDefEqProofs (maxSteps := 2000000) (disch := omega) only [go_sem, condB_t, condB_f, pf0, dec_t, dec_f, and_of, ↓reduceIte, Nat.reduceEqDiff, Nat.reduceMul, Nat.reduceAdd, Nat.reduceSub, Nat.reduceLT, Nat.reduceLeDiff, Int.reduceToNat, Nat.reducePow, Int.reducePow, Int.reduceLT, Int.reduceLE, Int.reduceNeg, Int.reduceAdd, Int.reduceSub, Int.reduceMul, decide_true, decide_false, reduceCtorEq]
  refine callK_pure d3 ?_
  simp -implicitDefEqProofs (maxSteps := 2000000) (disch := omega) only [go_sem, condB_t, condB_f, pf0, dec_t, dec_f, and_of, ↓reduceIte, Nat.reduceEqDiff, Nat.reduceMul, Nat.reduceAdd, Nat.reduceSub, Nat.reduceLT, Nat.reduceLeDiff, Int.reduceToNat, Nat.reducePow, Int.reducePow, Int.reduceLT, Int.reduceLE, Int.reduceNeg, Int.reduceAdd, Int.reduceSub, Int.reduceMul, decide_true, decide_false, reduceCtorEq]
  refine callK_pure d4 ?_
  simp -implicitDefEqProofs (maxSteps := 2000000) (disch := omega) only [go_sem, condB_t, condB_f, pf0, dec_t, dec_f, and_of, ↓reduceIte, Nat.reduceEqDiff, Nat.reduceMul, Nat.reduceAdd, Nat.reduceSub, Nat.reduceLT, Nat.reduceLeDiff, Int.reduceToNat, Nat.reducePow, Int.reducePow, Int.reduceLT, Int.reduceLE, Int.reduceNeg, Int.reduceAdd, Int.reduceSub, Int.reduceMul, decide_true, decide_false, reduceCtorEq]
  refine callK_pure i1 ?_
  simp -implicitDefEqProofs (maxSteps := 2000000) (disch := omega) only [go_sem, condB_t, condB_f, pf0, dec_t, dec_f, and_of, ↓reduceIte, Nat.reduceEqDiff, Nat.reduceMul, Nat.reduceAdd, Nat.reduceSub, Nat.reduceLT, Nat.reduceLeDiff, Int.reduceToNat, Nat.reducePow, Int.reducePow, Int.reduceLT, Int.reduceLE, Int.reduceNeg, Int.reduceAdd, Int.reduceSub, Int.reduceMul, decide_true, decide_false, reduceCtorEq]
  refine callK_pure d1 ?_
  simp -implicitDefEqProofs (maxSteps := 2000000) (disch := omega) only [go_sem, condB_t, condB_f, pf0, dec_t, dec_f, and_of, ↓reduceIte, Nat.reduceEqDiff, Nat.reduceMul, Nat.reduceAdd, Nat.reduceSub, Nat.reduceLT, Nat.reduceLeDiff, Int.reduceToNat, Nat.reducePow, Int.reducePow, Int.reduceLT, Int.reduceLE, Int.reduceNeg, Int.reduceAdd, Int.reduceSub, Int.reduceMul, decide_true, decide_false, reduceCtorEq]
  refine callK_pure d5 ?_
  simp -implicitDefEqProofs (maxSteps := 2000000) (disch := omega) only [go_sem, condB_t, condB_f, pf0, dec_t, dec_f, and_of, ↓reduceIte, Nat.reduceEqDiff, Nat.reduceMul, Nat.reduceAdd, Nat.reduceSub, Nat.reduceLT, Nat.reduceLeDiff, Int.reduceToNat, Nat.reducePow, Int.reducePow, Int.reduceLT, Int.reduceLE, Int.reduceNeg, Int.reduceAdd, Int.reduceSub, Int.reduceMul, decide_true, decide_false, reduceCtorEq]
  refine callK_pure i2 ?_
  simp -implicitDefEqProofs (maxSteps := 2000000) (disch := omega) only [go_sem, condB_t, condB_f, pf0, dec_t, dec_f, and_of, ↓reduceIte, Nat.reduceEqDiff, Nat.reduceMul, Nat.reduceAdd, Nat.reduceSub, Nat.reduceLT, Nat.reduceLeDiff, Int.reduceToNat, Nat.reducePow, Int.reducePow, Int.reduceLT, Int.reduceLE, Int.reduceNeg, Int.reduceAdd, Int.reduceSub, Int.reduceMul, decide_true, decide_false, reduceCtorEq]
  refine callK_pure f1 ?_
  simp -implicitDefEqProofs (maxSteps := 2000000) (disch := omega) only [go_sem, condB_t, condB_f, pf0, dec_t, dec_f, and_of, ↓reduceIte, Nat.reduceEqDiff, Nat.reduceMul, Nat.reduceAdd, Nat.reduceSub, Nat.reduceLT, Nat.reduceLeDiff, Int.reduceToNat, Nat.reducePow, Int.reducePow, Int.reduceLT, Int.reduceLE, Int.reduceNeg, Int.reduceAdd, Int.reduceSub, Int.reduceMul, decide_true, decide_false, reduceCtorEq]
  refine callK_pure f2 ?_
  simp -implicitDefEqProofs (maxSteps := 2000000) (disch := omega) only [go_sem, condB_t, condB_f, pf0, dec_t, dec_f, and_of, ↓reduceIte, Nat.reduceEqDiff, Nat.reduceMul, Nat.reduceAdd, Nat.reduceSub, Nat.reduceLT, Nat.reduceLeDiff, Int.reduceToNat, Nat.reducePow, Int.reducePow, Int.reduceLT, Int.reduceLE, Int.reduceNeg, Int.reduceAdd, Int.reduceSub, Int.reduceMul, decide_true, decide_false, reduceCtorEq]
  exact dn
end Go.Abs
/-! YtbFin1: How the laws' arguments read; the bulk. No condition. -/
set_option linter.unusedVariables false
set_option linter.unusedSimpArgs false
set_option maxRecDepth 100000
set_option maxHeartbeats 1000000
namespace Go.Abs
open Go.Proofs
open Go.Proofs.Ytbeajnfghfgmnaa Go.RowKit Go.ChangeShapes Go.WideShapes
theorem bulkAll {H : Type} (l : List (DataW H)) : Rows.uptoBulkAll l = (l.map Rows.uptoBulk).sum := by
  induction l with
  | nil => rw [Rows.uptoBulkAll]; rfl
  | cons d l ih => rw [Rows.uptoBulkAll, ih]; rfl
theorem measB : Meas (@Rows.uptoBulk) where
  pos := fun d => by cases d <;> (try rename_i x; cases x) <;> unfold Rows.uptoBulk <;> omega
  slice := fun e s => by rw [Rows.uptoBulk, ← bulkAll]; omega
  agg := fun p => by rw [Rows.uptoBulk, ← bulkAll]; omega
theorem u3 : Try.prog.underlying 3 = some (.int .i64) := by kernel_rfl
theorem u4 : Try.prog.underlying 4 = some .bool := by kernel_rfl
theorem u22 : Try.prog.underlying 22 = some (.slice 3) := by kernel_rfl
theorem u45 : Try.prog.underlying 45 = some (.slice 78) := by kernel_rfl
def fieldsOf (P : Program) (t : TypeId) : Option (List (TypeId × Nat)) :=
  match P.underlying t with
  | some (.struct fs) => some (fs.toList.map fun f => (f.type, f.offset))
  | _ => none
theorem fieldsOf_two {P : Program} {t a b o p : Nat} (h : fieldsOf P t = some [(a, o), (b, p)]) : ∃ f0 f1 : Field, P.underlying t = some (.struct #[f0, f1]) ∧ f0.type = a ∧ f0.offset = o ∧ f1.type = b ∧ f1.offset = p := by
  unfold fieldsOf at h
  split at h
  · rename_i fs hu
    obtain ⟨l⟩ := fs
    injection h with h
    match l, h with
    | [f0, f1], h =>
      simp only [List.map_cons, List.map_nil, List.cons.injEq, Prod.mk.injEq, and_true] at h
      exact ⟨f0, f1, hu, h.1.1, h.1.2, h.2.1, h.2.2⟩
  · cases h
theorem rd_two {P : Program} {t a b : Nat} {A B : Type} {c0 : A → List AV} {c1 : B → List AV} {s0 : A → Nat} {s1 : B → Nat} {ok0 : A → Prop} {ok1 : B → Prop} {μ : ∀ {H : Type}, DataW H → Nat} (hμ : Meas μ) (hf : fieldsOf P t = some [(a, 0), (b, P.cellsOf a)]) (hsz : P.cellsOf t = P.cellsOf a + P.cellsOf b)
    (h0 : Rd μ P a c0 s0 ok0) (h1 : Rd μ P b c1 s1 ok1) : Rd μ P t (A := A × B) (fun x => c0 x.1 ++ c1 x.2) (fun x => s0 x.1 + s1 x.2 + 1) (fun x => ok0 x.1 ∧ ok1 x.2) := by
  obtain ⟨f0, f1, hu, rfl, o0, rfl, o1⟩ := fieldsOf_two hf
  exact Rd.struct2 hμ hu h0 h1 o0 o1 hsz
theorem f54 : fieldsOf Try.prog 54 = some [(4, 0), (52, Try.prog.cellsOf 4)] := by kernel_rfl
theorem f56 : fieldsOf Try.prog 56 = some [(54, 0), (52, Try.prog.cellsOf 54)] := by kernel_rfl
theorem f78 : fieldsOf Try.prog 78 = some [(3, 0), (56, Try.prog.cellsOf 3)] := by kernel_rfl
theorem s54 : Try.prog.cellsOf 54 = Try.prog.cellsOf 4 + Try.prog.cellsOf 52 := by kernel_rfl
theorem s56 : Try.prog.cellsOf 56 = Try.prog.cellsOf 54 + Try.prog.cellsOf 52 := by kernel_rfl
theorem s78 : Try.prog.cellsOf 78 = Try.prog.cellsOf 3 + Try.prog.cellsOf 56 := by kernel_rfl
theorem z78 : Try.prog.cellsOf 78 = 4 := by kernel_rfl
theorem u52 : Try.prog.underlying 52 = some (.slice 127) := by kernel_rfl
theorem u127 : Try.prog.underlying 127 = some (.int .u32) := by kernel_rfl
theorem z127 : Try.prog.cellsOf 127 = 1 := by kernel_rfl
theorem z3 : Try.prog.cellsOf 3 = 1 := by kernel_rfl
abbrev REnt := Int × ((Bool × List Nat) × List Nat)
def toE (x : REnt) : Ent := (x.1, ⟨x.2.1.1, x.2.1.2, x.2.2⟩)
def okN (l : List Nat) : Prop := (∀ n ∈ l, (n : Int) ≤ IntKind.u32.max) ∧ l.length ≤ maxLen
theorem rd52 : Rd (@Rows.uptoBulk) Try.prog 52 (A := List Nat) (fun l => [.sl 1 (l.map fun (n : Nat) => [AV.int .u32 (n : Int)])]) (fun l => (l.map fun _ => 1).sum + 1) okN := Rd.slice measB u52 (Rd.nat measB u127 rfl) z127 (by decide)
theorem rd78 : Rd (@Rows.uptoBulk) Try.prog 78 (A := REnt) (fun x => [AV.int .i64 x.1] ++ ([AV.bool x.2.1.1] ++ [AV.sl 1 (x.2.1.2.map fun (n : Nat) => [AV.int .u32 (n : Int)])] ++ [AV.sl 1 (x.2.2.map fun (n : Nat) => [AV.int .u32 (n : Int)])]))
    (fun x => 1 + ((1 + ((x.2.1.2.map fun _ => 1).sum + 1) + 1) + ((x.2.2.map fun _ => 1).sum + 1) + 1) + 1) (fun x => (IntKind.i64.min ≤ x.1 ∧ x.1 ≤ IntKind.i64.max) ∧ (True ∧ okN x.2.1.2) ∧ okN x.2.2) :=
  rd_two measB f78 s78 (Rd.int measB u3) (rd_two measB f56 s56 (rd_two measB f54 s54 (Rd.bool measB u4) rd52) rd52)
theorem rd56 : Rd (@Rows.uptoBulk) Try.prog 56 (A := (Bool × List Nat) × List Nat) (fun x => [AV.bool x.1.1] ++ [AV.sl 1 (x.1.2.map fun (n : Nat) => [AV.int .u32 (n : Int)])] ++ [AV.sl 1 (x.2.map fun (n : Nat) => [AV.int .u32 (n : Int)])])
    (fun x => (1 + ((x.1.2.map fun _ => 1).sum + 1) + 1) + ((x.2.map fun _ => 1).sum + 1) + 1) (fun x => (True ∧ okN x.1.2) ∧ okN x.2) := rd_two measB f56 s56 (rd_two measB f54 s54 (Rd.bool measB u4) rd52) rd52
theorem rd45 : Rd (@Rows.uptoBulk) Try.prog 45 (A := List REnt) (fun l => [.sl 4 (l.map fun x => [AV.int .i64 x.1] ++ ([AV.bool x.2.1.1] ++ [AV.sl 1 (x.2.1.2.map fun (n : Nat) => [AV.int .u32 (n : Int)])] ++ [AV.sl 1 (x.2.2.map fun (n : Nat) => [AV.int .u32 (n : Int)])]))])
    (fun l => (l.map fun x => 1 + ((1 + ((x.2.1.2.map fun _ => 1).sum + 1) + 1) + ((x.2.2.map fun _ => 1).sum + 1) + 1) + 1).sum + 1) (fun l => (∀ x ∈ l, (IntKind.i64.min ≤ x.1 ∧ x.1 ≤ IntKind.i64.max) ∧ (True ∧ okN x.2.1.2) ∧ okN x.2.2) ∧ l.length ≤ maxLen) := Rd.slice measB u45 rd78 z78 (by decide)
theorem rd22 : Rd (@Rows.uptoBulk) Try.prog 22 (A := List Int) (fun l => [.sl 1 (l.map fun n => [AV.int .i64 n])]) (fun l => (l.map fun _ => 1).sum + 1) (fun l => (∀ n ∈ l, IntKind.i64.min ≤ n ∧ n ≤ IntKind.i64.max) ∧ l.length ≤ maxLen) := Rd.slice measB u22 (Rd.int measB u3) z3 (by decide)
theorem own0 : ownKnob Try.prog.godebug = none := by kernel_rfl
theorem laidOut0 : laidOutB Try.prog = true := by kernel_rfl
theorem read45 : Try.prog.readableRec 45 = true ∧ 45 < Try.prog.types.size := ⟨by kernel_rfl, of_decide_eq_true (by kernel_rfl)⟩
theorem read22 : Try.prog.readableRec 22 = true ∧ 22 < Try.prog.types.size := ⟨by kernel_rfl, of_decide_eq_true (by kernel_rfl)⟩
theorem bulk_cons {H : Type} {d : DataW H} {l : List (DataW H)} : Rows.uptoBulkAll (d :: l) = Rows.uptoBulk d + Rows.uptoBulkAll l := by rw [Rows.uptoBulkAll]
theorem bulk_app {H : Type} (l r : List (DataW H)) : Rows.uptoBulkAll (l ++ r) = Rows.uptoBulkAll l + Rows.uptoBulkAll r := by
  rw [bulkAll, bulkAll, bulkAll, List.map_append, List.sum_append]
theorem le_sum {α : Type} (f : α → Nat) {l : List α} {a : α} (h : a ∈ l) : f a ≤ (l.map f).sum := by
  induction l with
  | nil => cases h
  | cons x l ih =>
    rw [List.map_cons, List.sum_cons]
    rcases List.mem_cons.1 h with rfl | h
    · omega
    · have := ih h; omega
theorem len_le_sum {α : Type} (f : α → Nat) (hf : ∀ a, 1 ≤ f a) (l : List α) : l.length ≤ (l.map f).sum := by
  induction l with
  | nil => exact Nat.zero_le _
  | cons x l ih => have := hf x; rw [List.map_cons, List.sum_cons, List.length_cons]; omega
theorem ones_sum {α : Type} (l : List α) : (l.map fun _ => 1).sum = l.length := by
  induction l with
  | nil => rfl
  | cons x l ih => rw [List.map_cons, List.sum_cons, List.length_cons, ih]; omega
/-- A list of entries, out of what is read. -/
theorem arg45 {H : Type} {enc : TypeId × Value → H} {W : World} {base : Nat} {v : Value} {d : DataW H} {p : List MemPlace} (h : DataW.Trod enc Try.prog W 0 (fun _ => true) true 45 v d p) (hv : Value.okWide Try.prog W .any base 45 v) :
    ∃ l : List Ent, RTop (cfg0 W) v (EL l) ∧ topU (fun _ => False) (EL l) ∧ OkL l (Rows.uptoBulk d) ∧ l.length ≤ Rows.uptoBulk d := by
  obtain ⟨l, _, h2, h3, h4, h5⟩ := arg_one rd45 u45 rfl h hv
  refine ⟨l.map toE, ?_, ?_, fun e he => ?_, ?_⟩
  · have e : EL (l.map toE) = .sl 4 (l.map fun x => [AV.int .i64 x.1] ++ ([AV.bool x.2.1.1] ++ [AV.sl 1 (x.2.1.2.map fun (n : Nat) => [AV.int .u32 (n : Int)])] ++ [AV.sl 1 (x.2.2.map fun (n : Nat) => [AV.int .u32 (n : Int)])])) := by
      unfold EL; rw [List.map_map]; rfl
    rw [e]; exact h2
  · trivial
  · obtain ⟨x, hx, rfl⟩ := List.mem_map.1 he
    obtain ⟨k1, ⟨⟨_, k2, k3⟩, k4, k5⟩⟩ := h5.1 x hx
    have hs := Nat.le_trans (le_sum (fun x : REnt => 1 + ((1 + ((x.2.1.2.map fun _ => 1).sum + 1) + 1) + ((x.2.2.map fun _ => 1).sum + 1) + 1) + 1) hx) (Nat.le_of_succ_le h4)
    simp only [ones_sum] at hs
    have e32 : IntKind.u32.max = 4294967295 := rfl
    exact ⟨fun n hn => by have := k2 n hn; omega, fun n hn => by have := k4 n hn; omega, by show x.2.1.2.length ≤ _; omega, by show x.2.2.length ≤ _; omega⟩
  · rw [List.length_map]
    exact Nat.le_trans (len_le_sum (fun x : REnt => 1 + ((1 + ((x.2.1.2.map fun _ => 1).sum + 1) + 1) + ((x.2.2.map fun _ => 1).sum + 1) + 1) + 1) (fun a => by omega) l) (by omega)
theorem arg22 {H : Type} {enc : TypeId × Value → H} {W : World} {base : Nat} {v : Value} {d : DataW H} {p : List MemPlace} (h : DataW.Trod enc Try.prog W 0 (fun _ => true) true 22 v d p) (hv : Value.okWide Try.prog W .any base 22 v) :
    ∃ l : List Int, RTop (cfg0 W) v (IL l) ∧ topU (fun _ => False) (IL l) ∧ (∀ n ∈ l, -9223372036854775808 ≤ n ∧ n ≤ 9223372036854775807) ∧ l.length ≤ Rows.uptoBulk d := by
  obtain ⟨l, _, h2, h3, h4, h5⟩ := arg_one rd22 u22 rfl h hv
  refine ⟨l, h2, trivial, fun n hn => ?_, ?_⟩
  · exact h5.1 n hn
  · simp only [ones_sum] at h4; omega
theorem u56 : ∃ fs, Try.prog.underlying 56 = some (.struct fs) := let ⟨_, _, h, _⟩ := fieldsOf_two f56; ⟨_, h⟩
theorem read56 : Try.prog.readableRec 56 = true ∧ 56 < Try.prog.types.size := ⟨by kernel_rfl, of_decide_eq_true (by kernel_rfl)⟩
theorem arg56 {H : Type} {enc : TypeId × Value → H} {W : World} {base : Nat} {v : Value} {d : DataW H} {p : List MemPlace} (h : DataW.Trod enc Try.prog W 0 (fun _ => true) true 56 v d p) (hv : Value.okWide Try.prog W .any base 56 v) :
    ∃ x : Raw, RTop (cfg0 W) v (.agg x.cells) ∧ topU (fun _ => False) (.agg x.cells) ∧ x.Ok (Rows.uptoBulk d) := by
  obtain ⟨fs, hu⟩ := u56
  obtain ⟨x, h2, h3, h4, ⟨⟨_, k2, k3⟩, k4, k5⟩⟩ := arg_agg rd56 hu rfl h hv
  simp only [ones_sum] at h4
  have e32 : IntKind.u32.max = 4294967295 := rfl
  exact ⟨⟨x.1.1, x.1.2, x.2⟩, h2, h3, fun n hn => by have := k2 n hn; omega, fun n hn => by have := k4 n hn; omega, by show x.1.2.length ≤ _; omega, by show x.2.length ≤ _; omega⟩
end Go.Abs
