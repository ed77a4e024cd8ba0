/- Contracts and rules that the claim's text uses: YtbVec4; YtbVec5; YtbVec6; YtbTape1; YtbLaw1; YtbLaw2; YtbLaw3; YtbLaw4; YtbLaw5; YtbLaw6; YtbFin1. No condition. -/
import Derived.Test.YtbeajnfghfgmnaaTD
import Derived.Test.YtbeajnfghfgmnaaRows
/-! YtbVec4: Sparse vectors: sameness, permutations. No condition. -/
set_option linter.unusedVariables false
set_option linter.unusedSimpArgs false
set_option maxRecDepth 100000
set_option maxHeartbeats 1000000
namespace Go.Abs
open Go.Proofs
@[go_sem] theorem R32 : Try.f32.results.toList = [.tmp 4] := rfl
@[go_sem] theorem R62 : Try.f62.results.toList = [.tmp 2] := rfl
theorem identical_spec (x y : Vec) (j k : Nat) (hx : ∀ e ∈ x, Sz e.2 j) (hy : ∀ e ∈ y, Sz e.2 k) (hj : j ≤ 549755813888) (hk : k ≤ 549755813888) (lx : x.length ≤ 1099511627776) (ly : y.length ≤ 1099511627776) :
    PDet Try.prog 32 [EL (cE x), EL (cE y)] (.bool (decide (x = y))) := by
  refine pdet_of E0ok mixed Try.func32 (by kernel_rfl) rfl (by kernel_rfl) (Nat.le_of_ble_eq_true rfl) fun N0 h hn hmen => ?_
  have cl := cE_len x
  have cl2 := cE_len y
  unfold EL
  by_cases hl : x.length = y.length
  · simp -implicitDefEqProofs (maxSteps := 2000000) (disch := omega) only [go_sem, condB_t, condB_f, pf0, dec_t, dec_f, and_of, ↓reduceIte, Nat.reduceEqDiff, Nat.reduceMul, Nat.reduceAdd, Nat.reduceSub, Nat.reduceLT, Nat.reduceLeDiff, Int.reduceToNat, Nat.reducePow, Int.reducePow, Int.reduceLT, Int.reduceLE, Int.reduceNeg, Int.reduceAdd, Int.reduceSub, Int.reduceMul, decide_true, decide_false, reduceCtorEq]
    refine aw_loop (X := Nat) (fun i => ⟨mkS [(0, .sl 4 ((cE x).map entC)), (1, .sl 4 ((cE y).map entC)), (5, .int .i64 i)], h, N0⟩) (fun i => i ≤ x.length ∧ x.take i = y.take i) (fun i => x.length - i) ⟨0, ⟨Nat.zero_le _, rfl⟩, ?_⟩ ?_
    · (refine Weak.slots (allP ?_) (fun k0 b0 hb0 => by first | exact hb0 | (have hk1 := (hmen k0 b0 hb0).1; simp only [upd, mkH]; (repeat rw [if_neg (by omega)]); exact hb0)) (by omega) hmen; simp -implicitDefEqProofs (maxSteps := 2000000) (disch := omega) only [go_sem, condB_t, condB_f, pf0, dec_t, dec_f, and_of, ↓reduceIte, Nat.reduceEqDiff, Nat.reduceMul, Nat.reduceAdd, Nat.reduceSub, Nat.reduceLT, Nat.reduceLeDiff, Int.reduceToNat, Nat.reducePow, Int.reducePow, Int.reduceLT, Int.reduceLE, Int.reduceNeg, Int.reduceAdd, Int.reduceSub, Int.reduceMul, decide_true, decide_false, reduceCtorEq, AllP, AVle_same, AVle_int, AVle_nil, AVle_row, topU_int, topU_bool, topU_sl, topU_row, topU_ptr, topU_iptr, topU_fn, val, List.drop_length])
    · rintro i ⟨hi, ht⟩
      by_cases h0 : i < x.length
      · have hst := take_eq_step h0 hl ht
        have g1 := cE_get h0
        have g2 := cE_get (hl ▸ h0)
        have mx : x.getD i default ∈ x := by rw [List.getD_eq_getElem?_getD, List.getElem?_eq_getElem h0]; exact List.getElem_mem _
        have my : y.getD i default ∈ y := by rw [List.getD_eq_getElem?_getD, List.getElem?_eq_getElem (hl ▸ h0)]; exact List.getElem_mem _
        have cc := r3canonical_canon _ j (hx _ mx) hj
        have ce := r3equal_canon _ _ j k (hx _ mx) (hy _ my) hj hk
        unfold rC Raw.cells nl at cc ce
        have hno : x.getD i default ≠ y.getD i default → x ≠ y := fun hn e => hn (by rw [e])
        by_cases h1 : (x.getD i default).1 = (y.getD i default).1
        · by_cases h2 : (x.getD i default).2 = (y.getD i default).2
          · have hyes := hst.2 (Prod.ext h1 h2)
            rw [decide_eq_true h2] at ce
            simp -implicitDefEqProofs (maxSteps := 2000000) (disch := omega) only [go_sem, condB_t, condB_f, pf0, dec_t, dec_f, and_of, ↓reduceIte, Nat.reduceEqDiff, Nat.reduceMul, Nat.reduceAdd, Nat.reduceSub, Nat.reduceLT, Nat.reduceLeDiff, Int.reduceToNat, Nat.reducePow, Int.reducePow, Int.reduceLT, Int.reduceLE, Int.reduceNeg, Int.reduceAdd, Int.reduceSub, Int.reduceMul, decide_true, decide_false, reduceCtorEq, g1, g2]
            refine pcallK_pure cc ?_
            simp -implicitDefEqProofs (maxSteps := 2000000) (disch := omega) only [go_sem, condB_t, condB_f, pf0, dec_t, dec_f, and_of, ↓reduceIte, Nat.reduceEqDiff, Nat.reduceMul, Nat.reduceAdd, Nat.reduceSub, Nat.reduceLT, Nat.reduceLeDiff, Int.reduceToNat, Nat.reducePow, Int.reducePow, Int.reduceLT, Int.reduceLE, Int.reduceNeg, Int.reduceAdd, Int.reduceSub, Int.reduceMul, decide_true, decide_false, reduceCtorEq, g1, g2]
            refine pcallK_pure ce ?_
            simp -implicitDefEqProofs (maxSteps := 2000000) (disch := omega) only [go_sem, condB_t, condB_f, pf0, dec_t, dec_f, and_of, ↓reduceIte, Nat.reduceEqDiff, Nat.reduceMul, Nat.reduceAdd, Nat.reduceSub, Nat.reduceLT, Nat.reduceLeDiff, Int.reduceToNat, Nat.reducePow, Int.reducePow, Int.reduceLT, Int.reduceLE, Int.reduceNeg, Int.reduceAdd, Int.reduceSub, Int.reduceMul, decide_true, decide_false, reduceCtorEq]
            exact ⟨i + 1, ⟨h0, hyes⟩, by omega, by (refine Weak.slots (allP ?_) (fun k0 b0 hb0 => by first | exact hb0 | (have hk1 := (hmen k0 b0 hb0).1; simp only [upd, mkH]; (repeat rw [if_neg (by omega)]); exact hb0)) (by omega) hmen; simp -implicitDefEqProofs (maxSteps := 2000000) (disch := omega) only [go_sem, condB_t, condB_f, pf0, dec_t, dec_f, and_of, ↓reduceIte, Nat.reduceEqDiff, Nat.reduceMul, Nat.reduceAdd, Nat.reduceSub, Nat.reduceLT, Nat.reduceLeDiff, Int.reduceToNat, Nat.reducePow, Int.reducePow, Int.reduceLT, Int.reduceLE, Int.reduceNeg, Int.reduceAdd, Int.reduceSub, Int.reduceMul, decide_true, decide_false, reduceCtorEq, AllP, AVle_same, AVle_int, AVle_nil, AVle_row, topU_int, topU_bool, topU_sl, topU_row, topU_ptr, topU_iptr, topU_fn, val, List.drop_length])⟩
          · have hne := hno (fun e => h2 (by rw [e]))
            rw [decide_eq_false h2] at ce
            rw [decide_eq_false hne]
            simp -implicitDefEqProofs (maxSteps := 2000000) (disch := omega) only [go_sem, condB_t, condB_f, pf0, dec_t, dec_f, and_of, ↓reduceIte, Nat.reduceEqDiff, Nat.reduceMul, Nat.reduceAdd, Nat.reduceSub, Nat.reduceLT, Nat.reduceLeDiff, Int.reduceToNat, Nat.reducePow, Int.reducePow, Int.reduceLT, Int.reduceLE, Int.reduceNeg, Int.reduceAdd, Int.reduceSub, Int.reduceMul, decide_true, decide_false, reduceCtorEq, g1, g2]
            refine pcallK_pure cc ?_
            simp -implicitDefEqProofs (maxSteps := 2000000) (disch := omega) only [go_sem, condB_t, condB_f, pf0, dec_t, dec_f, and_of, ↓reduceIte, Nat.reduceEqDiff, Nat.reduceMul, Nat.reduceAdd, Nat.reduceSub, Nat.reduceLT, Nat.reduceLeDiff, Int.reduceToNat, Nat.reducePow, Int.reducePow, Int.reduceLT, Int.reduceLE, Int.reduceNeg, Int.reduceAdd, Int.reduceSub, Int.reduceMul, decide_true, decide_false, reduceCtorEq, g1, g2]
            refine pcallK_pure ce ?_
            simp -implicitDefEqProofs (maxSteps := 2000000) (disch := omega) only [go_sem, condB_t, condB_f, pf0, dec_t, dec_f, and_of, ↓reduceIte, Nat.reduceEqDiff, Nat.reduceMul, Nat.reduceAdd, Nat.reduceSub, Nat.reduceLT, Nat.reduceLeDiff, Int.reduceToNat, Nat.reducePow, Int.reducePow, Int.reduceLT, Int.reduceLE, Int.reduceNeg, Int.reduceAdd, Int.reduceSub, Int.reduceMul, decide_true, decide_false, reduceCtorEq]
            exact dn
        · have hne := hno (fun e => h1 (by rw [e]))
          rw [decide_eq_false hne]
          simp -implicitDefEqProofs (maxSteps := 2000000) (disch := omega) only [go_sem, condB_t, condB_f, pf0, dec_t, dec_f, and_of, ↓reduceIte, Nat.reduceEqDiff, Nat.reduceMul, Nat.reduceAdd, Nat.reduceSub, Nat.reduceLT, Nat.reduceLeDiff, Int.reduceToNat, Nat.reducePow, Int.reducePow, Int.reduceLT, Int.reduceLE, Int.reduceNeg, Int.reduceAdd, Int.reduceSub, Int.reduceMul, decide_true, decide_false, reduceCtorEq, g1, g2]
          exact dn
      · obtain rfl : i = x.length := by omega
        rw [List.take_of_length_le (Nat.le_refl _), List.take_of_length_le (by omega)] at ht
        rw [decide_eq_true ht]
        simp -implicitDefEqProofs (maxSteps := 2000000) (disch := omega) only [go_sem, condB_t, condB_f, pf0, dec_t, dec_f, and_of, ↓reduceIte, Nat.reduceEqDiff, Nat.reduceMul, Nat.reduceAdd, Nat.reduceSub, Nat.reduceLT, Nat.reduceLeDiff, Int.reduceToNat, Nat.reducePow, Int.reducePow, Int.reduceLT, Int.reduceLE, Int.reduceNeg, Int.reduceAdd, Int.reduceSub, Int.reduceMul, decide_true, decide_false, reduceCtorEq]
        exact dn
  · rw [decide_eq_false (fun e => hl (by rw [e]))]
    simp -implicitDefEqProofs (maxSteps := 2000000) (disch := omega) only [go_sem, condB_t, condB_f, pf0, dec_t, dec_f, and_of, ↓reduceIte, Nat.reduceEqDiff, Nat.reduceMul, Nat.reduceAdd, Nat.reduceSub, Nat.reduceLT, Nat.reduceLeDiff, Int.reduceToNat, Nat.reducePow, Int.reducePow, Int.reduceLT, Int.reduceLE, Int.reduceNeg, Int.reduceAdd, Int.reduceSub, Int.reduceMul, decide_true, decide_false, reduceCtorEq]
    exact dn
/-- A list of all numbers below its length. -/
def PermL (p : List Int) : Prop := (∀ x ∈ p, 0 ≤ x ∧ x < p.length) ∧ p.Nodup
instance (p : List Int) : Decidable (PermL p) := by unfold PermL; infer_instance
def seenL (n : Nat) (p : List Int) : List Bool := (List.range n).map fun (j : Nat) => decide ((j : Int) ∈ p)
theorem seenL_len (n : Nat) (p : List Int) : (seenL n p).length = n := by simp [seenL]
theorem seenL_get {n : Nat} {p : List Int} {x : Int} (h0 : 0 ≤ x) (h1 : x < n) : (seenL n p).getD x.toNat false = decide (x ∈ p) := by
  unfold seenL
  rw [List.getD_eq_getElem?_getD, List.getElem?_map, List.getElem?_range (by omega)]
  simp only [Option.map_some, Option.getD_some]
  rw [Int.toNat_of_nonneg h0]
theorem seenL_set {n : Nat} {p : List Int} {x : Int} (h0 : 0 ≤ x) (h1 : x < n) : (seenL n p).set x.toNat true = seenL n (p ++ [x]) := by
  refine List.ext_getElem? fun j => ?_
  rw [List.getElem?_set, seenL_len]
  unfold seenL
  rw [List.getElem?_map, List.getElem?_map]
  by_cases hj : j < n
  · rw [List.getElem?_range hj]
    by_cases e : x.toNat = j
    · subst e
      simp only [↓reduceIte, hj, Option.map_some, List.mem_append, List.mem_singleton]
      rw [Int.toNat_of_nonneg h0]; simp
    · rw [if_neg e]
      simp only [Option.map_some, List.mem_append, List.mem_singleton]
      have : ¬ (j : Int) = x := by omega
      simp [this]
  · have hn : ¬ x.toNat = j := by omega
    rw [if_neg hn, List.getElem?_eq_none (by simp; omega)]; rfl
theorem permutation_spec (p : List Int) (hl : p.length ≤ 1099511627776) : PDet Try.prog 62 [IL p] (.bool (decide (PermL p))) := by
  refine pdet_of E0ok mixed Try.func62 (by kernel_rfl) rfl (by kernel_rfl) (Nat.le_of_ble_eq_true rfl) fun N0 h hn hmen => ?_
  unfold IL
  simp -implicitDefEqProofs (maxSteps := 2000000) (disch := omega) only [go_sem, condB_t, condB_f, pf0, dec_t, dec_f, and_of, ↓reduceIte, Nat.reduceEqDiff, Nat.reduceMul, Nat.reduceAdd, Nat.reduceSub, Nat.reduceLT, Nat.reduceLeDiff, Int.reduceToNat, Nat.reducePow, Int.reducePow, Int.reduceLT, Int.reduceLE, Int.reduceNeg, Int.reduceAdd, Int.reduceSub, Int.reduceMul, decide_true, decide_false, reduceCtorEq]
  obtain ⟨id, hid⟩ : ∃ id, id = N0 + 24 := ⟨_, rfl⟩
  rw [← hid]
  have e0 : List.replicate p.length false = seenL p.length (p.take 0) := by
    refine List.ext_getElem (by rw [seenL_len, List.length_replicate]) fun i h1 h2 => ?_
    unfold seenL; simp
  rw [e0]
  refine aw_loop (X := Nat) (fun i => ⟨mkS [(0, .sl 1 (p.map intC)), (3, .row id p.length 0 p.length), (9, .sl 1 (p.map intC)), (10, .int .i64 p.length), (11, .int .i64 i)], mkH h [(id, ⟨1, (seenL p.length (p.take i)).map boolC⟩)], id + 8⟩) (fun i => i ≤ p.length ∧ (∀ x ∈ p.take i, 0 ≤ x ∧ x < p.length) ∧ (p.take i).Nodup) (fun i => p.length - i) ⟨0, ⟨Nat.zero_le _, nofun, .nil⟩, ?_⟩ ?_
  · (refine Weak.head1w (by simp -implicitDefEqProofs (maxSteps := 2000000) (disch := omega) only [go_sem, condB_t, condB_f, pf0, dec_t, dec_f, and_of, ↓reduceIte, Nat.reduceEqDiff, Nat.reduceMul, Nat.reduceAdd, Nat.reduceSub, Nat.reduceLT, Nat.reduceLeDiff, Int.reduceToNat, Nat.reducePow, Int.reducePow, Int.reduceLT, Int.reduceLE, Int.reduceNeg, Int.reduceAdd, Int.reduceSub, Int.reduceMul, decide_true, decide_false, reduceCtorEq] <;> (try rfl)) (by omega) (mapU _ _ _) (fun k0 b0 hk0 hb0 => by have hk1 : (k0 = _) = False := eq_false hk0; have hk2 := (hmen k0 b0 hb0).1; (simp -implicitDefEqProofs (maxSteps := 2000000) (disch := omega) only [go_sem, condB_t, condB_f, pf0, dec_t, dec_f, and_of, ↓reduceIte, Nat.reduceEqDiff, Nat.reduceMul, Nat.reduceAdd, Nat.reduceSub, Nat.reduceLT, Nat.reduceLeDiff, Int.reduceToNat, Nat.reducePow, Int.reducePow, Int.reduceLT, Int.reduceLE, Int.reduceNeg, Int.reduceAdd, Int.reduceSub, Int.reduceMul, decide_true, decide_false, reduceCtorEq, upd, mkH, hk1]) <;> (try (repeat rw [if_neg (by omega)])) <;> exact hb0) (by omega) hmen ?_; simp -implicitDefEqProofs (maxSteps := 2000000) (disch := omega) only [go_sem, condB_t, condB_f, pf0, dec_t, dec_f, and_of, ↓reduceIte, Nat.reduceEqDiff, Nat.reduceMul, Nat.reduceAdd, Nat.reduceSub, Nat.reduceLT, Nat.reduceLeDiff, Int.reduceToNat, Nat.reducePow, Int.reducePow, Int.reduceLT, Int.reduceLE, Int.reduceNeg, Int.reduceAdd, Int.reduceSub, Int.reduceMul, decide_true, decide_false, reduceCtorEq, AllP, AVle_same, AVle_int, AVle_nil, AVle_row, topU_int, topU_bool, topU_sl, topU_row, topU_ptr, topU_iptr, topU_fn, val, List.drop_length])
  · rintro i ⟨hi, hr, hd⟩
    by_cases h0 : i < p.length
    · have ht : p.take (i + 1) = p.take i ++ [p.getD i 0] := by rw [List.take_add_one, List.getElem?_eq_getElem h0, List.getD_eq_getElem?_getD, List.getElem?_eq_getElem h0]; rfl
      have hm : p.getD i 0 ∈ p := by rw [List.getD_eq_getElem?_getD, List.getElem?_eq_getElem h0]; exact List.getElem_mem _
      have hsub : (p.take i ++ [p.getD i 0]).Sublist p := by rw [← ht]; exact List.take_sublist _ _
      have sl := seenL_len p.length (p.take i)
      obtain ⟨x, hxx⟩ : ∃ x, p.getD i 0 = x := ⟨_, rfl⟩
      rw [hxx] at ht hm hsub
      by_cases h1 : x < 0
      · rw [decide_eq_false (fun hp : PermL p => by have := (hp.1 x hm).1; omega)]
        simp -implicitDefEqProofs (maxSteps := 2000000) (disch := omega) only [go_sem, condB_t, condB_f, pf0, dec_t, dec_f, and_of, ↓reduceIte, Nat.reduceEqDiff, Nat.reduceMul, Nat.reduceAdd, Nat.reduceSub, Nat.reduceLT, Nat.reduceLeDiff, Int.reduceToNat, Nat.reducePow, Int.reducePow, Int.reduceLT, Int.reduceLE, Int.reduceNeg, Int.reduceAdd, Int.reduceSub, Int.reduceMul, decide_true, decide_false, reduceCtorEq, hxx]
        exact dn
      · by_cases h2 : p.length ≤ x
        · rw [decide_eq_false (fun hp : PermL p => by have := (hp.1 x hm).2; omega)]
          simp -implicitDefEqProofs (maxSteps := 2000000) (disch := omega) only [go_sem, condB_t, condB_f, pf0, dec_t, dec_f, and_of, ↓reduceIte, Nat.reduceEqDiff, Nat.reduceMul, Nat.reduceAdd, Nat.reduceSub, Nat.reduceLT, Nat.reduceLeDiff, Int.reduceToNat, Nat.reducePow, Int.reducePow, Int.reduceLT, Int.reduceLE, Int.reduceNeg, Int.reduceAdd, Int.reduceSub, Int.reduceMul, decide_true, decide_false, reduceCtorEq, hxx]
          exact dn
        · have hg := seenL_get (n := p.length) (p := p.take i) (x := x) (by omega) (by omega)
          have hs := seenL_set (n := p.length) (p := p.take i) (x := x) (by omega) (by omega)
          rw [← ht] at hs
          by_cases h3 : x ∈ p.take i
          · rw [decide_eq_true h3] at hg
            rw [decide_eq_false (fun hp : PermL p => by
              have := hp.2.sublist hsub
              rw [List.nodup_append] at this
              exact this.2.2 x h3 x (by simp) rfl)]
            simp -implicitDefEqProofs (maxSteps := 2000000) (disch := omega) only [go_sem, condB_t, condB_f, pf0, dec_t, dec_f, and_of, ↓reduceIte, Nat.reduceEqDiff, Nat.reduceMul, Nat.reduceAdd, Nat.reduceSub, Nat.reduceLT, Nat.reduceLeDiff, Int.reduceToNat, Nat.reducePow, Int.reducePow, Int.reduceLT, Int.reduceLE, Int.reduceNeg, Int.reduceAdd, Int.reduceSub, Int.reduceMul, decide_true, decide_false, reduceCtorEq, hxx, hg]
            exact dn
          · rw [decide_eq_false h3] at hg
            simp -implicitDefEqProofs (maxSteps := 2000000) (disch := omega) only [go_sem, condB_t, condB_f, pf0, dec_t, dec_f, and_of, ↓reduceIte, Nat.reduceEqDiff, Nat.reduceMul, Nat.reduceAdd, Nat.reduceSub, Nat.reduceLT, Nat.reduceLeDiff, Int.reduceToNat, Nat.reducePow, Int.reducePow, Int.reduceLT, Int.reduceLE, Int.reduceNeg, Int.reduceAdd, Int.reduceSub, Int.reduceMul, decide_true, decide_false, reduceCtorEq, hxx, hg]
            exact ⟨i + 1, ⟨h0, by rw [ht]; intro y hy; rcases List.mem_append.1 hy with hy | hy; exact hr y hy; rw [List.mem_singleton.1 hy]; omega, by
              rw [ht, List.nodup_append]; exact ⟨hd, by simp, fun a ha b hb => by rw [List.mem_singleton.1 hb]; exact fun e => h3 (e ▸ ha)⟩⟩, by omega, by (refine Weak.head1w (by simp -implicitDefEqProofs (maxSteps := 2000000) (disch := omega) only [go_sem, condB_t, condB_f, pf0, dec_t, dec_f, and_of, ↓reduceIte, Nat.reduceEqDiff, Nat.reduceMul, Nat.reduceAdd, Nat.reduceSub, Nat.reduceLT, Nat.reduceLeDiff, Int.reduceToNat, Nat.reducePow, Int.reducePow, Int.reduceLT, Int.reduceLE, Int.reduceNeg, Int.reduceAdd, Int.reduceSub, Int.reduceMul, decide_true, decide_false, reduceCtorEq, hxx, hs] <;> (try rfl)) (by omega) (mapU _ _ _) (fun k0 b0 hk0 hb0 => by have hk1 : (k0 = _) = False := eq_false hk0; have hk2 := (hmen k0 b0 hb0).1; (simp -implicitDefEqProofs (maxSteps := 2000000) (disch := omega) only [go_sem, condB_t, condB_f, pf0, dec_t, dec_f, and_of, ↓reduceIte, Nat.reduceEqDiff, Nat.reduceMul, Nat.reduceAdd, Nat.reduceSub, Nat.reduceLT, Nat.reduceLeDiff, Int.reduceToNat, Nat.reducePow, Int.reducePow, Int.reduceLT, Int.reduceLE, Int.reduceNeg, Int.reduceAdd, Int.reduceSub, Int.reduceMul, decide_true, decide_false, reduceCtorEq, upd, mkH, hk1]) <;> (try (repeat rw [if_neg (by omega)])) <;> exact hb0) (by omega) hmen ?_; simp -implicitDefEqProofs (maxSteps := 2000000) (disch := omega) only [go_sem, condB_t, condB_f, pf0, dec_t, dec_f, and_of, ↓reduceIte, Nat.reduceEqDiff, Nat.reduceMul, Nat.reduceAdd, Nat.reduceSub, Nat.reduceLT, Nat.reduceLeDiff, Int.reduceToNat, Nat.reducePow, Int.reducePow, Int.reduceLT, Int.reduceLE, Int.reduceNeg, Int.reduceAdd, Int.reduceSub, Int.reduceMul, decide_true, decide_false, reduceCtorEq, AllP, AVle_same, AVle_int, AVle_nil, AVle_row, topU_int, topU_bool, topU_sl, topU_row, topU_ptr, topU_iptr, topU_fn, val, List.drop_length, hxx, hs])⟩
    · obtain rfl : i = p.length := by omega
      rw [List.take_of_length_le (Nat.le_refl _)] at hr hd
      rw [decide_eq_true (show PermL p from ⟨hr, hd⟩)]
      simp -implicitDefEqProofs (maxSteps := 2000000) (disch := omega) only [go_sem, condB_t, condB_f, pf0, dec_t, dec_f, and_of, ↓reduceIte, Nat.reduceEqDiff, Nat.reduceMul, Nat.reduceAdd, Nat.reduceSub, Nat.reduceLT, Nat.reduceLeDiff, Int.reduceToNat, Nat.reducePow, Int.reducePow, Int.reduceLT, Int.reduceLE, Int.reduceNeg, Int.reduceAdd, Int.reduceSub, Int.reduceMul, decide_true, decide_false, reduceCtorEq]
      exact dn
end Go.Abs
/-! YtbVec5: Sparse vectors: permuting. No condition. -/
set_option linter.unusedVariables false
set_option linter.unusedSimpArgs false
set_option maxRecDepth 100000
set_option maxHeartbeats 1000000
namespace Go.Abs
open Go.Proofs
@[go_sem] theorem R28 : Try.f28.results.toList = [.tmp 4, .tmp 5] := rfl
/-- The first i entries' indices sent through p. -/
def pmv (p : List Int) (e : Ent) : Ent := (p.getD e.1.toNat 0, e.2)
def pmL (p : List Int) (l : List Ent) (i : Nat) : List Ent := (l.take i).map (pmv p) ++ l.drop i
theorem pmL_len (p : List Int) (l : List Ent) (i : Nat) : (pmL p l i).length = l.length := by
  unfold pmL; simp only [List.length_append, List.length_map, List.length_take, List.length_drop]; omega
theorem pmL_get {p : List Int} {l : List Ent} {i : Nat} (h : i < l.length) : (pmL p l i).getD i default = l.getD i default := by
  unfold pmL
  have hl : ((l.take i).map (pmv p)).length = i := by rw [List.length_map, List.length_take]; omega
  rw [List.getD_eq_getElem?_getD, List.getElem?_append_right (by omega), hl, Nat.sub_self, List.getElem?_drop, Nat.add_zero, ← List.getD_eq_getElem?_getD]
theorem pmL_set {p : List Int} {l : List Ent} {i : Nat} (h : i < l.length) : (pmL p l i).set i (p.getD (l.getD i default).1.toNat 0, (l.getD i default).2) = pmL p l (i + 1) := by
  have hl : ((l.take i).map (pmv p)).length = i := by rw [List.length_map, List.length_take]; omega
  have hd : l.drop i = l.getD i default :: l.drop (i + 1) := by rw [List.drop_eq_getElem_cons h, List.getD_eq_getElem?_getD, List.getElem?_eq_getElem h]; rfl
  unfold pmL
  rw [List.set_append_right _ _ (by omega), hl, Nat.sub_self, hd, take_succ_getE h, List.map_append, List.append_assoc]
  rfl
/-- Whether the vector fits the permutation, and what it becomes. -/
def PmOk (p : List Int) (v : Vec) : Prop := PermL p ∧ ∀ e ∈ v, 0 ≤ e.1 ∧ e.1 < p.length
instance (p : List Int) (v : Vec) : Decidable (PmOk p v) := by unfold PmOk; infer_instance
def pmOut (p : List Int) (v : Vec) : List Ent := if PmOk p v then srt ((cE v).map (pmv p)) else []
theorem asc_first {v : Vec} (h : Can v) : ∀ e ∈ v, (v.getD 0 default).1 ≤ e.1 := fun e he => by
  cases v with
  | nil => cases he
  | cons x v =>
    have := List.pairwise_cons.1 h.asc
    rcases List.mem_cons.1 he with rfl | he
    · exact Int.le_refl _
    · exact Int.le_of_lt (this.1 e he)
theorem asc_last {v : Vec} (h : Can v) : ∀ e ∈ v, e.1 ≤ (v.getD (v.length - 1) default).1 := fun e he => by
  obtain ⟨i, hi, rfl⟩ := List.mem_iff_getElem.1 he
  rw [List.getD_eq_getElem?_getD, List.getElem?_eq_getElem (by omega)]
  rcases Nat.lt_or_ge i (v.length - 1) with g | g
  · exact Int.le_of_lt (List.pairwise_iff_getElem.1 h.asc i (v.length - 1) hi (by omega) g)
  · obtain rfl : i = v.length - 1 := by omega
    exact Int.le_refl _
@[go_sem] theorem raw_eta (x : Raw) : Raw.mk x.s x.m x.d = x := rfl
theorem permute_spec (v : List Ent) (p : List Int) (k : Nat) (hk : OkL v k) (hk1 : 1 ≤ k) (hlen : v.length < 20) (hb : k + v.length * (k + 1) ≤ 40000000000) (hp : p.length ≤ 1099511627776) :
    PDet Try.prog 28 [EL v, IL p] (.tup [EL (pmOut p (vcan (eV v))), .bool (decide (PmOk p (vcan (eV v))))]) := by
  refine pdet_of E0ok mixed Try.func28 (by kernel_rfl) rfl (by kernel_rfl) (Nat.le_of_ble_eq_true rfl) fun N0 h hn hmen => ?_
  have hok := eV_sz (srt_ok hk1 hk) (by omega)
  rw [srt_val] at hok
  have hcl : (vcan (eV v)).length ≤ v.length := by rw [← srt_val, eV_len]; exact srt_len v
  have c1 := fun h m => norm_new v k hk hk1 hlen (by omega) h m
  have hcan := vcan_can (eV v)
  generalize vcan (eV v) = w at *
  have c2 := permutation_spec p hp
  have cl := cE_len w
  unfold EL IL at *
  simp -implicitDefEqProofs (maxSteps := 2000000) (disch := omega) only [go_sem, condB_t, condB_f, pf0, dec_t, dec_f, and_of, ↓reduceIte, Nat.reduceEqDiff, Nat.reduceMul, Nat.reduceAdd, Nat.reduceSub, Nat.reduceLT, Nat.reduceLeDiff, Int.reduceToNat, Nat.reducePow, Int.reducePow, Int.reduceLT, Int.reduceLE, Int.reduceNeg, Int.reduceAdd, Int.reduceSub, Int.reduceMul, decide_true, decide_false, reduceCtorEq]
  refine callK_of (c1 _ _) ?_
  simp -implicitDefEqProofs (maxSteps := 2000000) (disch := omega) only [go_sem, condB_t, condB_f, pf0, dec_t, dec_f, and_of, ↓reduceIte, Nat.reduceEqDiff, Nat.reduceMul, Nat.reduceAdd, Nat.reduceSub, Nat.reduceLT, Nat.reduceLeDiff, Int.reduceToNat, Nat.reducePow, Int.reducePow, Int.reduceLT, Int.reduceLE, Int.reduceNeg, Int.reduceAdd, Int.reduceSub, Int.reduceMul, decide_true, decide_false, reduceCtorEq]
  refine callK_pure c2 ?_
  by_cases h1 : PermL p
  · rw [decide_eq_true h1]
    rw [cl]
    obtain ⟨id, hid⟩ : ∃ id, id = N0 + 24 := ⟨_, rfl⟩
    rw [← hid]
    have cs : PmOk p w → PDet Try.prog 63 [.sl 4 (((cE w).map (pmv p)).map entC)] (EL (pmOut p w)) := fun hy => by
      unfold pmOut; rw [if_pos hy]
      have hK : OkL ((cE w).map (pmv p)) (k + v.length * (k + 1)) := fun e he => by
        obtain ⟨x, hx, rfl⟩ := List.mem_map.1 he
        exact cE_ok hok x hx
      have hm : w.length * ((k + v.length * (k + 1)) + 1) ≤ 19 * ((k + v.length * (k + 1)) + 1) := Nat.mul_le_mul_right _ (by omega)
      exact sorted_spec _ _ hK (by omega) (by simp [cl]; omega) (by rw [List.length_map, cl]; omega)
    unfold EL at cs
    rcases Nat.eq_zero_or_pos w.length with hw | hw
    · have hyes : PmOk p w := ⟨h1, by rw [List.eq_nil_of_length_eq_zero hw]; exact nofun⟩
      have cs := cs hyes
      rw [decide_eq_true hyes]
      simp -implicitDefEqProofs (maxSteps := 2000000) (disch := omega) only [go_sem, condB_t, condB_f, pf0, dec_t, dec_f, and_of, ↓reduceIte, Nat.reduceEqDiff, Nat.reduceMul, Nat.reduceAdd, Nat.reduceSub, Nat.reduceLT, Nat.reduceLeDiff, Int.reduceToNat, Nat.reducePow, Int.reducePow, Int.reduceLT, Int.reduceLE, Int.reduceNeg, Int.reduceAdd, Int.reduceSub, Int.reduceMul, decide_true, decide_false, reduceCtorEq]
      refine aw_loop (X := Nat) (fun i => ⟨mkS [(1, .sl 1 (p.map intC)), (6, .row id w.length 0 w.length), (38, .int .i64 w.length), (39, .int .i64 i)], mkH h [(id, ⟨4, (pmL p (cE w) i).map entC⟩)], id + 8⟩) (fun i => i ≤ w.length) (fun i => w.length - i) ⟨0, Nat.zero_le _, ?_⟩ ?_
      · rw [show pmL p (cE w) 0 = cE w from rfl]
        (refine Weak.head1w (by simp -implicitDefEqProofs (maxSteps := 2000000) (disch := omega) only [go_sem, condB_t, condB_f, pf0, dec_t, dec_f, and_of, ↓reduceIte, Nat.reduceEqDiff, Nat.reduceMul, Nat.reduceAdd, Nat.reduceSub, Nat.reduceLT, Nat.reduceLeDiff, Int.reduceToNat, Nat.reducePow, Int.reducePow, Int.reduceLT, Int.reduceLE, Int.reduceNeg, Int.reduceAdd, Int.reduceSub, Int.reduceMul, decide_true, decide_false, reduceCtorEq] <;> (try rfl)) (by omega) (mapU _ _ _) (fun k0 b0 hk0 hb0 => by have hk1 : (k0 = _) = False := eq_false hk0; have hk2 := (hmen k0 b0 hb0).1; (simp -implicitDefEqProofs (maxSteps := 2000000) (disch := omega) only [go_sem, condB_t, condB_f, pf0, dec_t, dec_f, and_of, ↓reduceIte, Nat.reduceEqDiff, Nat.reduceMul, Nat.reduceAdd, Nat.reduceSub, Nat.reduceLT, Nat.reduceLeDiff, Int.reduceToNat, Nat.reducePow, Int.reducePow, Int.reduceLT, Int.reduceLE, Int.reduceNeg, Int.reduceAdd, Int.reduceSub, Int.reduceMul, decide_true, decide_false, reduceCtorEq, upd, mkH, hk1]) <;> (try (repeat rw [if_neg (by omega)])) <;> exact hb0) (by omega) hmen ?_; simp -implicitDefEqProofs (maxSteps := 2000000) (disch := omega) only [go_sem, condB_t, condB_f, pf0, dec_t, dec_f, and_of, ↓reduceIte, Nat.reduceEqDiff, Nat.reduceMul, Nat.reduceAdd, Nat.reduceSub, Nat.reduceLT, Nat.reduceLeDiff, Int.reduceToNat, Nat.reducePow, Int.reducePow, Int.reduceLT, Int.reduceLE, Int.reduceNeg, Int.reduceAdd, Int.reduceSub, Int.reduceMul, decide_true, decide_false, reduceCtorEq, AllP, AVle_same, AVle_int, AVle_nil, AVle_row, topU_int, topU_bool, topU_sl, topU_row, topU_ptr, topU_iptr, topU_fn, val, List.drop_length])
      · intro i hi
        have pl := pmL_len p (cE w) i
        by_cases h0 : i < w.length
        · omega
        · obtain rfl : i = w.length := by omega
          have e1 : pmL p (cE w) w.length = (cE w).map (pmv p) := by
            unfold pmL
            rw [← cl, List.take_of_length_le (Nat.le_refl _), List.drop_eq_nil_of_le (Nat.le_refl _), List.append_nil]
          rw [e1]
          simp -implicitDefEqProofs (maxSteps := 2000000) (disch := omega) only [go_sem, condB_t, condB_f, pf0, dec_t, dec_f, and_of, ↓reduceIte, Nat.reduceEqDiff, Nat.reduceMul, Nat.reduceAdd, Nat.reduceSub, Nat.reduceLT, Nat.reduceLeDiff, Int.reduceToNat, Nat.reducePow, Int.reducePow, Int.reduceLT, Int.reduceLE, Int.reduceNeg, Int.reduceAdd, Int.reduceSub, Int.reduceMul, decide_true, decide_false, reduceCtorEq]
          refine callK_row cs (by simp only [upd_same, mkH_cons, ↓reduceIte] <;> rfl) (by simp [cl]) (by omega) (List.take_of_length_le (by simp [cl])) (mapP _) ?_
          simp -implicitDefEqProofs (maxSteps := 2000000) (disch := omega) only [go_sem, condB_t, condB_f, pf0, dec_t, dec_f, and_of, ↓reduceIte, Nat.reduceEqDiff, Nat.reduceMul, Nat.reduceAdd, Nat.reduceSub, Nat.reduceLT, Nat.reduceLeDiff, Int.reduceToNat, Nat.reducePow, Int.reducePow, Int.reduceLT, Int.reduceLE, Int.reduceNeg, Int.reduceAdd, Int.reduceSub, Int.reduceMul, decide_true, decide_false, reduceCtorEq]
          exact dn
    · have gf := cE_get hw
      have gl := cE_get (v := w) (i := w.length - 1) (by omega)
      have hf := asc_first hcan
      have hla := asc_last hcan
      have m0 : w.getD 0 default ∈ w := by rw [List.getD_eq_getElem?_getD, List.getElem?_eq_getElem hw]; exact List.getElem_mem _
      have m1 : w.getD (w.length - 1) default ∈ w := by rw [List.getD_eq_getElem?_getD, List.getElem?_eq_getElem (by omega)]; exact List.getElem_mem _
      by_cases h2 : (w.getD 0 default).1 < 0
      · have hno : ¬ PmOk p w := fun h => by have := (h.2 _ m0).1; omega
        have e : pmOut p w = [] := by unfold pmOut; rw [if_neg hno]
        rw [decide_eq_false hno, e]
        simp -implicitDefEqProofs (maxSteps := 2000000) (disch := omega) only [go_sem, condB_t, condB_f, pf0, dec_t, dec_f, and_of, ↓reduceIte, Nat.reduceEqDiff, Nat.reduceMul, Nat.reduceAdd, Nat.reduceSub, Nat.reduceLT, Nat.reduceLeDiff, Int.reduceToNat, Nat.reducePow, Int.reducePow, Int.reduceLT, Int.reduceLE, Int.reduceNeg, Int.reduceAdd, Int.reduceSub, Int.reduceMul, decide_true, decide_false, reduceCtorEq, gf]
        exact dn
      · by_cases h3 : (p.length : Int) ≤ (w.getD (w.length - 1) default).1
        · have hno : ¬ PmOk p w := fun h => by have := (h.2 _ m1).2; omega
          have e : pmOut p w = [] := by unfold pmOut; rw [if_neg hno]
          rw [decide_eq_false hno, e]
          simp -implicitDefEqProofs (maxSteps := 2000000) (disch := omega) only [go_sem, condB_t, condB_f, pf0, dec_t, dec_f, and_of, ↓reduceIte, Nat.reduceEqDiff, Nat.reduceMul, Nat.reduceAdd, Nat.reduceSub, Nat.reduceLT, Nat.reduceLeDiff, Int.reduceToNat, Nat.reducePow, Int.reducePow, Int.reduceLT, Int.reduceLE, Int.reduceNeg, Int.reduceAdd, Int.reduceSub, Int.reduceMul, decide_true, decide_false, reduceCtorEq, gf, gl]
          exact dn
        · have hyes : PmOk p w := ⟨h1, fun e he => by have := hf e he; have := hla e he; omega⟩
          have cs := cs hyes
          rw [decide_eq_true hyes]
          simp -implicitDefEqProofs (maxSteps := 2000000) (disch := omega) only [go_sem, condB_t, condB_f, pf0, dec_t, dec_f, and_of, ↓reduceIte, Nat.reduceEqDiff, Nat.reduceMul, Nat.reduceAdd, Nat.reduceSub, Nat.reduceLT, Nat.reduceLeDiff, Int.reduceToNat, Nat.reducePow, Int.reducePow, Int.reduceLT, Int.reduceLE, Int.reduceNeg, Int.reduceAdd, Int.reduceSub, Int.reduceMul, decide_true, decide_false, reduceCtorEq, gf, gl]
          refine aw_loop (X := Nat) (fun i => ⟨mkS [(1, .sl 1 (p.map intC)), (6, .row id w.length 0 w.length), (38, .int .i64 w.length), (39, .int .i64 i)], mkH h [(id, ⟨4, (pmL p (cE w) i).map entC⟩)], id + 8⟩) (fun i => i ≤ w.length) (fun i => w.length - i) ⟨0, Nat.zero_le _, ?_⟩ ?_
          · rw [show pmL p (cE w) 0 = cE w from rfl]
            (refine Weak.head1w (by simp -implicitDefEqProofs (maxSteps := 2000000) (disch := omega) only [go_sem, condB_t, condB_f, pf0, dec_t, dec_f, and_of, ↓reduceIte, Nat.reduceEqDiff, Nat.reduceMul, Nat.reduceAdd, Nat.reduceSub, Nat.reduceLT, Nat.reduceLeDiff, Int.reduceToNat, Nat.reducePow, Int.reducePow, Int.reduceLT, Int.reduceLE, Int.reduceNeg, Int.reduceAdd, Int.reduceSub, Int.reduceMul, decide_true, decide_false, reduceCtorEq] <;> (try rfl)) (by omega) (mapU _ _ _) (fun k0 b0 hk0 hb0 => by have hk1 : (k0 = _) = False := eq_false hk0; have hk2 := (hmen k0 b0 hb0).1; (simp -implicitDefEqProofs (maxSteps := 2000000) (disch := omega) only [go_sem, condB_t, condB_f, pf0, dec_t, dec_f, and_of, ↓reduceIte, Nat.reduceEqDiff, Nat.reduceMul, Nat.reduceAdd, Nat.reduceSub, Nat.reduceLT, Nat.reduceLeDiff, Int.reduceToNat, Nat.reducePow, Int.reducePow, Int.reduceLT, Int.reduceLE, Int.reduceNeg, Int.reduceAdd, Int.reduceSub, Int.reduceMul, decide_true, decide_false, reduceCtorEq, upd, mkH, hk1]) <;> (try (repeat rw [if_neg (by omega)])) <;> exact hb0) (by omega) hmen ?_; simp -implicitDefEqProofs (maxSteps := 2000000) (disch := omega) only [go_sem, condB_t, condB_f, pf0, dec_t, dec_f, and_of, ↓reduceIte, Nat.reduceEqDiff, Nat.reduceMul, Nat.reduceAdd, Nat.reduceSub, Nat.reduceLT, Nat.reduceLeDiff, Int.reduceToNat, Nat.reducePow, Int.reducePow, Int.reduceLT, Int.reduceLE, Int.reduceNeg, Int.reduceAdd, Int.reduceSub, Int.reduceMul, decide_true, decide_false, reduceCtorEq, AllP, AVle_same, AVle_int, AVle_nil, AVle_row, topU_int, topU_bool, topU_sl, topU_row, topU_ptr, topU_iptr, topU_fn, val, List.drop_length])
          · intro i hi
            have pl := pmL_len p (cE w) i
            by_cases h0 : i < w.length
            · have g1 := pmL_get (p := p) (l := cE w) (i := i) (by omega)
              have s1 := pmL_set (p := p) (l := cE w) (i := i) (by omega)
              have g2 := cE_get h0
              rw [g2] at g1 s1
              have mx : w.getD i default ∈ w := by rw [List.getD_eq_getElem?_getD, List.getElem?_eq_getElem h0]; exact List.getElem_mem _
              have hin := hyes.2 _ mx
              generalize w.getD i default = e at *
              simp only at s1
              simp -implicitDefEqProofs (maxSteps := 2000000) (disch := omega) only [go_sem, condB_t, condB_f, pf0, dec_t, dec_f, and_of, ↓reduceIte, Nat.reduceEqDiff, Nat.reduceMul, Nat.reduceAdd, Nat.reduceSub, Nat.reduceLT, Nat.reduceLeDiff, Int.reduceToNat, Nat.reducePow, Int.reducePow, Int.reduceLT, Int.reduceLE, Int.reduceNeg, Int.reduceAdd, Int.reduceSub, Int.reduceMul, decide_true, decide_false, reduceCtorEq, g1]
              exact ⟨i + 1, h0, by omega, by (refine Weak.head1w (by simp -implicitDefEqProofs (maxSteps := 2000000) (disch := omega) only [go_sem, condB_t, condB_f, pf0, dec_t, dec_f, and_of, ↓reduceIte, Nat.reduceEqDiff, Nat.reduceMul, Nat.reduceAdd, Nat.reduceSub, Nat.reduceLT, Nat.reduceLeDiff, Int.reduceToNat, Nat.reducePow, Int.reducePow, Int.reduceLT, Int.reduceLE, Int.reduceNeg, Int.reduceAdd, Int.reduceSub, Int.reduceMul, decide_true, decide_false, reduceCtorEq, g1, s1] <;> (try rfl)) (by omega) (mapU _ _ _) (fun k0 b0 hk0 hb0 => by have hk1 : (k0 = _) = False := eq_false hk0; have hk2 := (hmen k0 b0 hb0).1; (simp -implicitDefEqProofs (maxSteps := 2000000) (disch := omega) only [go_sem, condB_t, condB_f, pf0, dec_t, dec_f, and_of, ↓reduceIte, Nat.reduceEqDiff, Nat.reduceMul, Nat.reduceAdd, Nat.reduceSub, Nat.reduceLT, Nat.reduceLeDiff, Int.reduceToNat, Nat.reducePow, Int.reducePow, Int.reduceLT, Int.reduceLE, Int.reduceNeg, Int.reduceAdd, Int.reduceSub, Int.reduceMul, decide_true, decide_false, reduceCtorEq, upd, mkH, hk1]) <;> (try (repeat rw [if_neg (by omega)])) <;> exact hb0) (by omega) hmen ?_; simp -implicitDefEqProofs (maxSteps := 2000000) (disch := omega) only [go_sem, condB_t, condB_f, pf0, dec_t, dec_f, and_of, ↓reduceIte, Nat.reduceEqDiff, Nat.reduceMul, Nat.reduceAdd, Nat.reduceSub, Nat.reduceLT, Nat.reduceLeDiff, Int.reduceToNat, Nat.reducePow, Int.reducePow, Int.reduceLT, Int.reduceLE, Int.reduceNeg, Int.reduceAdd, Int.reduceSub, Int.reduceMul, decide_true, decide_false, reduceCtorEq, AllP, AVle_same, AVle_int, AVle_nil, AVle_row, topU_int, topU_bool, topU_sl, topU_row, topU_ptr, topU_iptr, topU_fn, val, List.drop_length, g1, s1])⟩
            · obtain rfl : i = w.length := by omega
              have e1 : pmL p (cE w) w.length = (cE w).map (pmv p) := by
                unfold pmL
                rw [← cl, List.take_of_length_le (Nat.le_refl _), List.drop_eq_nil_of_le (Nat.le_refl _), List.append_nil]
              rw [e1]
              simp -implicitDefEqProofs (maxSteps := 2000000) (disch := omega) only [go_sem, condB_t, condB_f, pf0, dec_t, dec_f, and_of, ↓reduceIte, Nat.reduceEqDiff, Nat.reduceMul, Nat.reduceAdd, Nat.reduceSub, Nat.reduceLT, Nat.reduceLeDiff, Int.reduceToNat, Nat.reducePow, Int.reducePow, Int.reduceLT, Int.reduceLE, Int.reduceNeg, Int.reduceAdd, Int.reduceSub, Int.reduceMul, decide_true, decide_false, reduceCtorEq]
              refine callK_row cs (by simp only [upd_same, mkH_cons, ↓reduceIte] <;> rfl) (by simp [cl]) (by omega) (List.take_of_length_le (by simp [cl])) (mapP _) ?_
              simp -implicitDefEqProofs (maxSteps := 2000000) (disch := omega) only [go_sem, condB_t, condB_f, pf0, dec_t, dec_f, and_of, ↓reduceIte, Nat.reduceEqDiff, Nat.reduceMul, Nat.reduceAdd, Nat.reduceSub, Nat.reduceLT, Nat.reduceLeDiff, Int.reduceToNat, Nat.reducePow, Int.reducePow, Int.reduceLT, Int.reduceLE, Int.reduceNeg, Int.reduceAdd, Int.reduceSub, Int.reduceMul, decide_true, decide_false, reduceCtorEq]
              exact dn
  · have hno : ¬ PmOk p w := fun h => h1 h.1
    have e : pmOut p w = [] := by unfold pmOut; rw [if_neg hno]
    rw [decide_eq_false h1, decide_eq_false hno, e]
    simp -implicitDefEqProofs (maxSteps := 2000000) (disch := omega) only [go_sem, condB_t, condB_f, pf0, dec_t, dec_f, and_of, ↓reduceIte, Nat.reduceEqDiff, Nat.reduceMul, Nat.reduceAdd, Nat.reduceSub, Nat.reduceLT, Nat.reduceLeDiff, Int.reduceToNat, Nat.reducePow, Int.reducePow, Int.reduceLT, Int.reduceLE, Int.reduceNeg, Int.reduceAdd, Int.reduceSub, Int.reduceMul, decide_true, decide_false, reduceCtorEq]
    exact dn
end Go.Abs
/-! YtbVec6: Sparse vectors: inner product. No condition. -/
set_option linter.unusedVariables false
set_option linter.unusedSimpArgs false
set_option maxRecDepth 100000
set_option maxHeartbeats 1000000
namespace Go.Abs
open Go.Proofs
@[go_sem] theorem R31 : Try.f31.results.toList = [.cell 4 56] := rfl
/-- The inner product of two canonical vectors, as it is summed up. -/
def dotM : Vec → Vec → Rat
  | [], _ => 0
  | _ :: _, [] => 0
  | a :: x, b :: y => if a.1 < b.1 then dotM x (b :: y) else if b.1 < a.1 then dotM (a :: x) y else a.2 * b.2 + dotM x y
termination_by x y => x.length + y.length
theorem dotM_nil (x : Vec) : dotM x [] = 0 := by cases x <;> rw [dotM]
theorem dotM_drop {S T : List Ent} {i j : Nat} (hi : i < S.length) (hj : j < T.length) : dotM (eV (S.drop i)) (eV (T.drop j)) =
    if (S.getD i default).1 < (T.getD j default).1 then dotM (eV (S.drop (i + 1))) (eV (T.drop j)) else if (T.getD j default).1 < (S.getD i default).1 then dotM (eV (S.drop i)) (eV (T.drop (j + 1)))
    else (S.getD i default).2.val * (T.getD j default).2.val + dotM (eV (S.drop (i + 1))) (eV (T.drop (j + 1))) := by
  have h1 : S.drop i = S.getD i default :: S.drop (i + 1) := by rw [List.drop_eq_getElem_cons hi, List.getD_eq_getElem?_getD, List.getElem?_eq_getElem hi]; rfl
  have h2 : T.drop j = T.getD j default :: T.drop (j + 1) := by rw [List.drop_eq_getElem_cons hj, List.getD_eq_getElem?_getD, List.getElem?_eq_getElem hj]; rfl
  rw [h1, h2]
  simp only [eV, List.map_cons]
  rw [dotM]
theorem dot_spec (x y : List Ent) (k K : Nat) (hx : OkL x k) (hy : OkL y k) (hk1 : 1 ≤ k) (lx : x.length < 20) (ly : y.length < 20) (bx : k + x.length * (k + 1) ≤ K) (bY : k + y.length * (k + 1) ≤ K) (hK : K ≤ 1000000000) :
    PDet Try.prog 31 [EL x, EL y] (.agg (rC (dotM (vcan (eV x)) (vcan (eV y))))) := by
  refine pdet_of E0ok mixed Try.func31 (by kernel_rfl) rfl (by kernel_rfl) (Nat.le_of_ble_eq_true rfl) fun N0 h hn hmen => ?_
  have c1 := sorted_spec x k hx hk1 lx (by omega)
  have c2 := sorted_spec y k hy hk1 ly (by omega)
  have hS : OkL (srt x) K := (srt_ok hk1 hx).mono bx
  have hT : OkL (srt y) K := (srt_ok hk1 hy).mono bY
  have lS := srt_len x
  have lT := srt_len y
  have cz := rfromInt_spec 0 (by decide) (by decide)
  rw [← srt_val, ← srt_val]
  generalize srt x = S at *
  generalize srt y = T at *
  unfold EL rC Raw.cells nl at *
  simp -implicitDefEqProofs (maxSteps := 2000000) (disch := omega) only [go_sem, condB_t, condB_f, pf0, dec_t, dec_f, and_of, ↓reduceIte, Nat.reduceEqDiff, Nat.reduceMul, Nat.reduceAdd, Nat.reduceSub, Nat.reduceLT, Nat.reduceLeDiff, Int.reduceToNat, Nat.reducePow, Int.reducePow, Int.reduceLT, Int.reduceLE, Int.reduceNeg, Int.reduceAdd, Int.reduceSub, Int.reduceMul, decide_true, decide_false, reduceCtorEq]
  refine callK_pure c1 ?_
  simp -implicitDefEqProofs (maxSteps := 2000000) (disch := omega) only [go_sem, condB_t, condB_f, pf0, dec_t, dec_f, and_of, ↓reduceIte, Nat.reduceEqDiff, Nat.reduceMul, Nat.reduceAdd, Nat.reduceSub, Nat.reduceLT, Nat.reduceLeDiff, Int.reduceToNat, Nat.reducePow, Int.reducePow, Int.reduceLT, Int.reduceLE, Int.reduceNeg, Int.reduceAdd, Int.reduceSub, Int.reduceMul, decide_true, decide_false, reduceCtorEq]
  refine callK_pure c2 ?_
  simp -implicitDefEqProofs (maxSteps := 2000000) (disch := omega) only [go_sem, condB_t, condB_f, pf0, dec_t, dec_f, and_of, ↓reduceIte, Nat.reduceEqDiff, Nat.reduceMul, Nat.reduceAdd, Nat.reduceSub, Nat.reduceLT, Nat.reduceLeDiff, Int.reduceToNat, Nat.reducePow, Int.reducePow, Int.reduceLT, Int.reduceLE, Int.reduceNeg, Int.reduceAdd, Int.reduceSub, Int.reduceMul, decide_true, decide_false, reduceCtorEq]
  refine callK_pure cz ?_
  simp -implicitDefEqProofs (maxSteps := 2000000) (disch := omega) only [go_sem, condB_t, condB_f, pf0, dec_t, dec_f, and_of, ↓reduceIte, Nat.reduceEqDiff, Nat.reduceMul, Nat.reduceAdd, Nat.reduceSub, Nat.reduceLT, Nat.reduceLeDiff, Int.reduceToNat, Nat.reducePow, Int.reducePow, Int.reduceLT, Int.reduceLE, Int.reduceNeg, Int.reduceAdd, Int.reduceSub, Int.reduceMul, decide_true, decide_false, reduceCtorEq]
  obtain ⟨ia, hia⟩ : ∃ ia, ia = N0 + 64 := ⟨_, rfl⟩
  have n1 : (N0 = ia) = False := eq_false (by omega)
  have n2 : (ia = N0) = False := eq_false (by omega)
  rw [← hia]
  refine aw_loop (X := Nat × Nat × Rat) (fun x => ⟨mkS [(4, .ptr N0 1 0 0), (5, .sl 4 (S.map entC)), (6, .sl 4 (T.map entC)), (7, .ptr ia 1 0 0), (8, .int .i64 x.1), (9, .int .i64 x.2.1)], mkH h [(N0, ⟨3, [[.bool false, .nil, .nil]]⟩), (ia, ⟨3, [[.bool (canon x.2.2).s, .sl 1 (numL (canon x.2.2).m), .sl 1 (numL (canon x.2.2).d)]]⟩)], ia + 8⟩)
    (fun x => x.1 ≤ S.length ∧ x.2.1 ≤ T.length ∧ Sz x.2.2 (1 + x.1 * (K + K + 1)) ∧ x.2.2 + dotM (eV (S.drop x.1)) (eV (T.drop x.2.1)) = dotM (eV S) (eV T)) (fun x => (S.length - x.1) + (T.length - x.2.1)) ⟨(0, 0, 0), ⟨Nat.zero_le _, Nat.zero_le _, sz_zero (by omega), by simp only [List.drop_zero]; grind⟩, ?_⟩ ?_
  · have e : (((0 : Int) : Rat)) = 0 := rfl
    rw [e]
    (refine Weak.head2w (by simp -implicitDefEqProofs (maxSteps := 2000000) (disch := omega) only [go_sem, condB_t, condB_f, pf0, dec_t, dec_f, and_of, ↓reduceIte, Nat.reduceEqDiff, Nat.reduceMul, Nat.reduceAdd, Nat.reduceSub, Nat.reduceLT, Nat.reduceLeDiff, Int.reduceToNat, Nat.reducePow, Int.reducePow, Int.reduceLT, Int.reduceLE, Int.reduceNeg, Int.reduceAdd, Int.reduceSub, Int.reduceMul, decide_true, decide_false, reduceCtorEq, n1, n2] <;> (try rfl)) (by omega) (by first | exact mapU _ _ _ | exact mapU entC [_] _ | exact mapU ratC [_] _ | (intro r hr a ha; simp only [List.mem_cons, List.not_mem_nil, or_false] at hr; subst hr; simp only [List.mem_cons, List.not_mem_nil, or_false] at ha; rcases ha with rfl | rfl | rfl <;> trivial)) (by simp -implicitDefEqProofs (maxSteps := 2000000) (disch := omega) only [go_sem, condB_t, condB_f, pf0, dec_t, dec_f, and_of, ↓reduceIte, Nat.reduceEqDiff, Nat.reduceMul, Nat.reduceAdd, Nat.reduceSub, Nat.reduceLT, Nat.reduceLeDiff, Int.reduceToNat, Nat.reducePow, Int.reducePow, Int.reduceLT, Int.reduceLE, Int.reduceNeg, Int.reduceAdd, Int.reduceSub, Int.reduceMul, decide_true, decide_false, reduceCtorEq, n1, n2] <;> (try rfl)) (by omega) (by first | exact mapU _ _ _ | exact mapU entC [_] _ | exact mapU ratC [_] _ | (intro r hr a ha; simp only [List.mem_cons, List.not_mem_nil, or_false] at hr; subst hr; simp only [List.mem_cons, List.not_mem_nil, or_false] at ha; rcases ha with rfl | rfl | rfl <;> trivial)) (fun k0 b0 hk00 hk01 hb0 => by have hk10 : (k0 = _) = False := eq_false hk00; have hk11 : (k0 = _) = False := eq_false hk01; have hk2 := (hmen k0 b0 hb0).1; (simp -implicitDefEqProofs (maxSteps := 2000000) (disch := omega) only [go_sem, condB_t, condB_f, pf0, dec_t, dec_f, and_of, ↓reduceIte, Nat.reduceEqDiff, Nat.reduceMul, Nat.reduceAdd, Nat.reduceSub, Nat.reduceLT, Nat.reduceLeDiff, Int.reduceToNat, Nat.reducePow, Int.reducePow, Int.reduceLT, Int.reduceLE, Int.reduceNeg, Int.reduceAdd, Int.reduceSub, Int.reduceMul, decide_true, decide_false, reduceCtorEq, upd, mkH, hk10, hk11]) <;> (try (repeat rw [if_neg (by omega)])) <;> exact hb0) (by omega) hmen ?_; simp -implicitDefEqProofs (maxSteps := 2000000) (disch := omega) only [go_sem, condB_t, condB_f, pf0, dec_t, dec_f, and_of, ↓reduceIte, Nat.reduceEqDiff, Nat.reduceMul, Nat.reduceAdd, Nat.reduceSub, Nat.reduceLT, Nat.reduceLeDiff, Int.reduceToNat, Nat.reducePow, Int.reducePow, Int.reduceLT, Int.reduceLE, Int.reduceNeg, Int.reduceAdd, Int.reduceSub, Int.reduceMul, decide_true, decide_false, reduceCtorEq, AllP, AVle_same, AVle_int, AVle_nil, AVle_row, topU_int, topU_bool, topU_sl, topU_row, topU_ptr, topU_iptr, topU_fn, val, List.drop_length])
  · rintro ⟨i, j, q⟩ ⟨hi, hj, hz, hq⟩
    simp only at hi hj hz hq
    by_cases h0 : i < S.length
    · by_cases h1 : j < T.length
      · have sx := hS.get h0
        have sy := hT.get h1
        have hd := dotM_drop h0 h1
        have hm : i * (K + K + 1) ≤ 20 * (1000000000 + 1000000000 + 1) := Nat.mul_le_mul (by omega) (by omega)
        have K1 : 1 ≤ K := by omega
        have cm := rmul_spec _ _ K K sx sy K1 K1 (by omega)
        have sm := (sx.sz K1).mul (sy.sz K1)
        have ca := radd_spec _ _ _ _ (canon_ok hz) (canon_ok sm) (by omega) (by omega) (by omega)
        have ss := hz.add sm
        rw [canon_val, canon_val] at ca
        unfold rC Raw.cells nl at cm ca
        obtain ⟨e, he⟩ : ∃ e, S.getD i default = e := ⟨_, rfl⟩
        obtain ⟨f, hf⟩ : ∃ f, T.getD j default = f := ⟨_, rfl⟩
        rw [he, hf] at hd ca
        rw [he, hf] at cm ss
        by_cases h2 : e.1 < f.1
        · rw [if_pos h2] at hd
          simp -implicitDefEqProofs (maxSteps := 2000000) (disch := omega) only [go_sem, condB_t, condB_f, pf0, dec_t, dec_f, and_of, ↓reduceIte, Nat.reduceEqDiff, Nat.reduceMul, Nat.reduceAdd, Nat.reduceSub, Nat.reduceLT, Nat.reduceLeDiff, Int.reduceToNat, Nat.reducePow, Int.reducePow, Int.reduceLT, Int.reduceLE, Int.reduceNeg, Int.reduceAdd, Int.reduceSub, Int.reduceMul, decide_true, decide_false, reduceCtorEq, n1, n2, he, hf]
          exact ⟨(i + 1, j, q), ⟨h0, hj, hz.mono (Nat.add_le_add_left (Nat.mul_le_mul_right _ (Nat.le_succ i)) 1), by rw [← hq, hd]⟩, by simp only; omega, by (refine Weak.head2w (by simp -implicitDefEqProofs (maxSteps := 2000000) (disch := omega) only [go_sem, condB_t, condB_f, pf0, dec_t, dec_f, and_of, ↓reduceIte, Nat.reduceEqDiff, Nat.reduceMul, Nat.reduceAdd, Nat.reduceSub, Nat.reduceLT, Nat.reduceLeDiff, Int.reduceToNat, Nat.reducePow, Int.reducePow, Int.reduceLT, Int.reduceLE, Int.reduceNeg, Int.reduceAdd, Int.reduceSub, Int.reduceMul, decide_true, decide_false, reduceCtorEq, n1, n2, he, hf] <;> (try rfl)) (by omega) (by first | exact mapU _ _ _ | exact mapU entC [_] _ | exact mapU ratC [_] _ | (intro r hr a ha; simp only [List.mem_cons, List.not_mem_nil, or_false] at hr; subst hr; simp only [List.mem_cons, List.not_mem_nil, or_false] at ha; rcases ha with rfl | rfl | rfl <;> trivial)) (by simp -implicitDefEqProofs (maxSteps := 2000000) (disch := omega) only [go_sem, condB_t, condB_f, pf0, dec_t, dec_f, and_of, ↓reduceIte, Nat.reduceEqDiff, Nat.reduceMul, Nat.reduceAdd, Nat.reduceSub, Nat.reduceLT, Nat.reduceLeDiff, Int.reduceToNat, Nat.reducePow, Int.reducePow, Int.reduceLT, Int.reduceLE, Int.reduceNeg, Int.reduceAdd, Int.reduceSub, Int.reduceMul, decide_true, decide_false, reduceCtorEq, n1, n2, he, hf] <;> (try rfl)) (by omega) (by first | exact mapU _ _ _ | exact mapU entC [_] _ | exact mapU ratC [_] _ | (intro r hr a ha; simp only [List.mem_cons, List.not_mem_nil, or_false] at hr; subst hr; simp only [List.mem_cons, List.not_mem_nil, or_false] at ha; rcases ha with rfl | rfl | rfl <;> trivial)) (fun k0 b0 hk00 hk01 hb0 => by have hk10 : (k0 = _) = False := eq_false hk00; have hk11 : (k0 = _) = False := eq_false hk01; have hk2 := (hmen k0 b0 hb0).1; (simp -implicitDefEqProofs (maxSteps := 2000000) (disch := omega) only [go_sem, condB_t, condB_f, pf0, dec_t, dec_f, and_of, ↓reduceIte, Nat.reduceEqDiff, Nat.reduceMul, Nat.reduceAdd, Nat.reduceSub, Nat.reduceLT, Nat.reduceLeDiff, Int.reduceToNat, Nat.reducePow, Int.reducePow, Int.reduceLT, Int.reduceLE, Int.reduceNeg, Int.reduceAdd, Int.reduceSub, Int.reduceMul, decide_true, decide_false, reduceCtorEq, upd, mkH, hk10, hk11]) <;> (try (repeat rw [if_neg (by omega)])) <;> exact hb0) (by omega) hmen ?_; simp -implicitDefEqProofs (maxSteps := 2000000) (disch := omega) only [go_sem, condB_t, condB_f, pf0, dec_t, dec_f, and_of, ↓reduceIte, Nat.reduceEqDiff, Nat.reduceMul, Nat.reduceAdd, Nat.reduceSub, Nat.reduceLT, Nat.reduceLeDiff, Int.reduceToNat, Nat.reducePow, Int.reducePow, Int.reduceLT, Int.reduceLE, Int.reduceNeg, Int.reduceAdd, Int.reduceSub, Int.reduceMul, decide_true, decide_false, reduceCtorEq, AllP, AVle_same, AVle_int, AVle_nil, AVle_row, topU_int, topU_bool, topU_sl, topU_row, topU_ptr, topU_iptr, topU_fn, val, List.drop_length])⟩
        · rw [if_neg h2] at hd
          by_cases h3 : f.1 < e.1
          · rw [if_pos h3] at hd
            simp -implicitDefEqProofs (maxSteps := 2000000) (disch := omega) only [go_sem, condB_t, condB_f, pf0, dec_t, dec_f, and_of, ↓reduceIte, Nat.reduceEqDiff, Nat.reduceMul, Nat.reduceAdd, Nat.reduceSub, Nat.reduceLT, Nat.reduceLeDiff, Int.reduceToNat, Nat.reducePow, Int.reducePow, Int.reduceLT, Int.reduceLE, Int.reduceNeg, Int.reduceAdd, Int.reduceSub, Int.reduceMul, decide_true, decide_false, reduceCtorEq, n1, n2, he, hf]
            exact ⟨(i, j + 1, q), ⟨hi, h1, hz, by rw [← hq, hd]⟩, by simp only; omega, by (refine Weak.head2w (by simp -implicitDefEqProofs (maxSteps := 2000000) (disch := omega) only [go_sem, condB_t, condB_f, pf0, dec_t, dec_f, and_of, ↓reduceIte, Nat.reduceEqDiff, Nat.reduceMul, Nat.reduceAdd, Nat.reduceSub, Nat.reduceLT, Nat.reduceLeDiff, Int.reduceToNat, Nat.reducePow, Int.reducePow, Int.reduceLT, Int.reduceLE, Int.reduceNeg, Int.reduceAdd, Int.reduceSub, Int.reduceMul, decide_true, decide_false, reduceCtorEq, n1, n2, he, hf] <;> (try rfl)) (by omega) (by first | exact mapU _ _ _ | exact mapU entC [_] _ | exact mapU ratC [_] _ | (intro r hr a ha; simp only [List.mem_cons, List.not_mem_nil, or_false] at hr; subst hr; simp only [List.mem_cons, List.not_mem_nil, or_false] at ha; rcases ha with rfl | rfl | rfl <;> trivial)) (by simp -implicitDefEqProofs (maxSteps := 2000000) (disch := omega) only [go_sem, condB_t, condB_f, pf0, dec_t, dec_f, and_of, ↓reduceIte, Nat.reduceEqDiff, Nat.reduceMul, Nat.reduceAdd, Nat.reduceSub, Nat.reduceLT, Nat.reduceLeDiff, Int.reduceToNat, Nat.reducePow, Int.reducePow, Int.reduceLT, Int.reduceLE, Int.reduceNeg, Int.reduceAdd, Int.reduceSub, Int.reduceMul, decide_true, decide_false, reduceCtorEq, n1, n2, he, hf] <;> (try rfl)) (by omega) (by first | exact mapU _ _ _ | exact mapU entC [_] _ | exact mapU ratC [_] _ | (intro r hr a ha; simp only [List.mem_cons, List.not_mem_nil, or_false] at hr; subst hr; simp only [List.mem_cons, List.not_mem_nil, or_false] at ha; rcases ha with rfl | rfl | rfl <;> trivial)) (fun k0 b0 hk00 hk01 hb0 => by have hk10 : (k0 = _) = False := eq_false hk00; have hk11 : (k0 = _) = False := eq_false hk01; have hk2 := (hmen k0 b0 hb0).1; (simp -implicitDefEqProofs (maxSteps := 2000000) (disch := omega) only [go_sem, condB_t, condB_f, pf0, dec_t, dec_f, and_of, ↓reduceIte, Nat.reduceEqDiff, Nat.reduceMul, Nat.reduceAdd, Nat.reduceSub, Nat.reduceLT, Nat.reduceLeDiff, Int.reduceToNat, Nat.reducePow, Int.reducePow, Int.reduceLT, Int.reduceLE, Int.reduceNeg, Int.reduceAdd, Int.reduceSub, Int.reduceMul, decide_true, decide_false, reduceCtorEq, upd, mkH, hk10, hk11]) <;> (try (repeat rw [if_neg (by omega)])) <;> exact hb0) (by omega) hmen ?_; simp -implicitDefEqProofs (maxSteps := 2000000) (disch := omega) only [go_sem, condB_t, condB_f, pf0, dec_t, dec_f, and_of, ↓reduceIte, Nat.reduceEqDiff, Nat.reduceMul, Nat.reduceAdd, Nat.reduceSub, Nat.reduceLT, Nat.reduceLeDiff, Int.reduceToNat, Nat.reducePow, Int.reducePow, Int.reduceLT, Int.reduceLE, Int.reduceNeg, Int.reduceAdd, Int.reduceSub, Int.reduceMul, decide_true, decide_false, reduceCtorEq, AllP, AVle_same, AVle_int, AVle_nil, AVle_row, topU_int, topU_bool, topU_sl, topU_row, topU_ptr, topU_iptr, topU_fn, val, List.drop_length])⟩
          · rw [if_neg h3] at hd
            simp -implicitDefEqProofs (maxSteps := 2000000) (disch := omega) only [go_sem, condB_t, condB_f, pf0, dec_t, dec_f, and_of, ↓reduceIte, Nat.reduceEqDiff, Nat.reduceMul, Nat.reduceAdd, Nat.reduceSub, Nat.reduceLT, Nat.reduceLeDiff, Int.reduceToNat, Nat.reducePow, Int.reducePow, Int.reduceLT, Int.reduceLE, Int.reduceNeg, Int.reduceAdd, Int.reduceSub, Int.reduceMul, decide_true, decide_false, reduceCtorEq, n1, n2, he, hf]
            refine pcallK_pure cm ?_
            simp -implicitDefEqProofs (maxSteps := 2000000) (disch := omega) only [go_sem, condB_t, condB_f, pf0, dec_t, dec_f, and_of, ↓reduceIte, Nat.reduceEqDiff, Nat.reduceMul, Nat.reduceAdd, Nat.reduceSub, Nat.reduceLT, Nat.reduceLeDiff, Int.reduceToNat, Nat.reducePow, Int.reducePow, Int.reduceLT, Int.reduceLE, Int.reduceNeg, Int.reduceAdd, Int.reduceSub, Int.reduceMul, decide_true, decide_false, reduceCtorEq, n1, n2, he, hf]
            refine pcallK_pure ca ?_
            simp -implicitDefEqProofs (maxSteps := 2000000) (disch := omega) only [go_sem, condB_t, condB_f, pf0, dec_t, dec_f, and_of, ↓reduceIte, Nat.reduceEqDiff, Nat.reduceMul, Nat.reduceAdd, Nat.reduceSub, Nat.reduceLT, Nat.reduceLeDiff, Int.reduceToNat, Nat.reducePow, Int.reducePow, Int.reduceLT, Int.reduceLE, Int.reduceNeg, Int.reduceAdd, Int.reduceSub, Int.reduceMul, decide_true, decide_false, reduceCtorEq, n1, n2, he, hf]
            exact ⟨(i + 1, j + 1, q + e.2.val * f.2.val), ⟨h0, h1, ss.mono (by have h9 : (i + 1) * (K + K + 1) = i * (K + K + 1) + (K + K + 1) := Nat.succ_mul _ _; show _ ≤ 1 + (i + 1) * (K + K + 1); omega), by rw [← hq, hd]; simp only; grind⟩, by simp only; omega, by (refine Weak.head2w (by simp -implicitDefEqProofs (maxSteps := 2000000) (disch := omega) only [go_sem, condB_t, condB_f, pf0, dec_t, dec_f, and_of, ↓reduceIte, Nat.reduceEqDiff, Nat.reduceMul, Nat.reduceAdd, Nat.reduceSub, Nat.reduceLT, Nat.reduceLeDiff, Int.reduceToNat, Nat.reducePow, Int.reducePow, Int.reduceLT, Int.reduceLE, Int.reduceNeg, Int.reduceAdd, Int.reduceSub, Int.reduceMul, decide_true, decide_false, reduceCtorEq, n1, n2, he, hf] <;> (try rfl)) (by omega) (by first | exact mapU _ _ _ | exact mapU entC [_] _ | exact mapU ratC [_] _ | (intro r hr a ha; simp only [List.mem_cons, List.not_mem_nil, or_false] at hr; subst hr; simp only [List.mem_cons, List.not_mem_nil, or_false] at ha; rcases ha with rfl | rfl | rfl <;> trivial)) (by simp -implicitDefEqProofs (maxSteps := 2000000) (disch := omega) only [go_sem, condB_t, condB_f, pf0, dec_t, dec_f, and_of, ↓reduceIte, Nat.reduceEqDiff, Nat.reduceMul, Nat.reduceAdd, Nat.reduceSub, Nat.reduceLT, Nat.reduceLeDiff, Int.reduceToNat, Nat.reducePow, Int.reducePow, Int.reduceLT, Int.reduceLE, Int.reduceNeg, Int.reduceAdd, Int.reduceSub, Int.reduceMul, decide_true, decide_false, reduceCtorEq, n1, n2, he, hf] <;> (try rfl)) (by omega) (by first | exact mapU _ _ _ | exact mapU entC [_] _ | exact mapU ratC [_] _ | (intro r hr a ha; simp only [List.mem_cons, List.not_mem_nil, or_false] at hr; subst hr; simp only [List.mem_cons, List.not_mem_nil, or_false] at ha; rcases ha with rfl | rfl | rfl <;> trivial)) (fun k0 b0 hk00 hk01 hb0 => by have hk10 : (k0 = _) = False := eq_false hk00; have hk11 : (k0 = _) = False := eq_false hk01; have hk2 := (hmen k0 b0 hb0).1; (simp -implicitDefEqProofs (maxSteps := 2000000) (disch := omega) only [go_sem, condB_t, condB_f, pf0, dec_t, dec_f, and_of, ↓reduceIte, Nat.reduceEqDiff, Nat.reduceMul, Nat.reduceAdd, Nat.reduceSub, Nat.reduceLT, Nat.reduceLeDiff, Int.reduceToNat, Nat.reducePow, Int.reducePow, Int.reduceLT, Int.reduceLE, Int.reduceNeg, Int.reduceAdd, Int.reduceSub, Int.reduceMul, decide_true, decide_false, reduceCtorEq, upd, mkH, hk10, hk11]) <;> (try (repeat rw [if_neg (by omega)])) <;> exact hb0) (by omega) hmen ?_; simp -implicitDefEqProofs (maxSteps := 2000000) (disch := omega) only [go_sem, condB_t, condB_f, pf0, dec_t, dec_f, and_of, ↓reduceIte, Nat.reduceEqDiff, Nat.reduceMul, Nat.reduceAdd, Nat.reduceSub, Nat.reduceLT, Nat.reduceLeDiff, Int.reduceToNat, Nat.reducePow, Int.reducePow, Int.reduceLT, Int.reduceLE, Int.reduceNeg, Int.reduceAdd, Int.reduceSub, Int.reduceMul, decide_true, decide_false, reduceCtorEq, AllP, AVle_same, AVle_int, AVle_nil, AVle_row, topU_int, topU_bool, topU_sl, topU_row, topU_ptr, topU_iptr, topU_fn, val, List.drop_length])⟩
      · have hd : dotM (eV (S.drop i)) (eV (T.drop j)) = 0 := by rw [show T.drop j = [] from List.drop_eq_nil_of_le (by omega)]; exact dotM_nil _
        rw [← hq, hd, show q + 0 = q by grind]
        simp -implicitDefEqProofs (maxSteps := 2000000) (disch := omega) only [go_sem, condB_t, condB_f, pf0, dec_t, dec_f, and_of, ↓reduceIte, Nat.reduceEqDiff, Nat.reduceMul, Nat.reduceAdd, Nat.reduceSub, Nat.reduceLT, Nat.reduceLeDiff, Int.reduceToNat, Nat.reducePow, Int.reducePow, Int.reduceLT, Int.reduceLE, Int.reduceNeg, Int.reduceAdd, Int.reduceSub, Int.reduceMul, decide_true, decide_false, reduceCtorEq, n1, n2]
        exact dn
    · have hd : dotM (eV (S.drop i)) (eV (T.drop j)) = 0 := by rw [show S.drop i = [] from List.drop_eq_nil_of_le (by omega)]; unfold eV; rw [List.map_nil, dotM]
      rw [← hq, hd, show q + 0 = q by grind]
      simp -implicitDefEqProofs (maxSteps := 2000000) (disch := omega) only [go_sem, condB_t, condB_f, pf0, dec_t, dec_f, and_of, ↓reduceIte, Nat.reduceEqDiff, Nat.reduceMul, Nat.reduceAdd, Nat.reduceSub, Nat.reduceLT, Nat.reduceLeDiff, Int.reduceToNat, Nat.reducePow, Int.reducePow, Int.reduceLT, Int.reduceLE, Int.reduceNeg, Int.reduceAdd, Int.reduceSub, Int.reduceMul, decide_true, decide_false, reduceCtorEq, n1, n2]
      exact dn
end Go.Abs
/-! YtbTape1: The makers of inputs: the tape. No condition. -/
set_option linter.unusedVariables false
set_option linter.unusedSimpArgs false
set_option maxRecDepth 100000
set_option maxHeartbeats 1000000
namespace Go.Abs
open Go.Proofs
@[go_sem] theorem R21 : Try.f21.results.toList = [.tmp 4] := rfl
@[go_sem] theorem R12 : Try.f12.results.toList = [.tmp 2] := rfl
@[go_sem] theorem R34 : Try.f34.results.toList = [.tmp 4] := rfl
@[go_sem] theorem R13 : Try.f13.results.toList = [.tmp 4] := rfl
theorem mod_spec (x : Int) (n : Nat) (h0 : 0 < n) (hn' : n ≤ 1099511627776) : PDet Try.prog 21 [.int .i64 x, .int .i64 n] (.int .i64 ((x % 18446744073709551616).toNat % n : Nat)) := by
  refine pdet_of E0ok mixed Try.func21 (by kernel_rfl) rfl (by kernel_rfl) (Nat.le_of_ble_eq_true rfl) fun N0 h hn hmen => ?_
  have e : (x % 18446744073709551616).tmod n = (((x % 18446744073709551616).toNat % n : Nat) : Int) := by
    rw [Int.tmod_eq_emod_of_nonneg (by omega), Int.natCast_emod, Int.toNat_of_nonneg (by omega)]
  have hlt := Nat.mod_lt (x % 18446744073709551616).toNat h0
  generalize (x % 18446744073709551616).toNat % n = q at *
  simp -implicitDefEqProofs (maxSteps := 2000000) (disch := omega) only [go_sem, condB_t, condB_f, pf0, dec_t, dec_f, and_of, ↓reduceIte, Nat.reduceEqDiff, Nat.reduceMul, Nat.reduceAdd, Nat.reduceSub, Nat.reduceLT, Nat.reduceLeDiff, Int.reduceToNat, Nat.reducePow, Int.reducePow, Int.reduceLT, Int.reduceLE, Int.reduceNeg, Int.reduceAdd, Int.reduceSub, Int.reduceMul, decide_true, decide_false, reduceCtorEq, e]
  exact dn
theorem tapeNew_new (l : List Int) (h : Heap) (m : Nat) : ADet Try.prog 12 [IL l] h m (.ptr m 1 0 0) (upd h m (some ⟨2, [[IL l, .int .i64 0]]⟩)) := by
  unfold IL
  refine anew_of E0ok mixed Try.func12 (by kernel_rfl) rfl (by kernel_rfl) (Nat.le_of_ble_eq_true rfl) (fun _ h => h) (by intro r hr a ha; simp only [List.mem_cons, List.not_mem_nil, or_false] at hr; subst hr; simp only [List.mem_cons, List.not_mem_nil, or_false] at ha; rcases ha with rfl | rfl <;> rfl) fun N0 hn hmen _ => ⟨hmen, ?_⟩
  simp -implicitDefEqProofs (maxSteps := 2000000) (disch := omega) only [go_sem, condB_t, condB_f, pf0, dec_t, dec_f, and_of, ↓reduceIte, Nat.reduceEqDiff, Nat.reduceMul, Nat.reduceAdd, Nat.reduceSub, Nat.reduceLT, Nat.reduceLeDiff, Int.reduceToNat, Nat.reducePow, Int.reducePow, Int.reduceLT, Int.reduceLE, Int.reduceNeg, Int.reduceAdd, Int.reduceSub, Int.reduceMul, decide_true, decide_false, reduceCtorEq]
  exact ⟨N0 + 24, by omega, by simp -implicitDefEqProofs (maxSteps := 2000000) (disch := omega) only [go_sem, condB_t, condB_f, pf0, dec_t, dec_f, and_of, ↓reduceIte, Nat.reduceEqDiff, Nat.reduceMul, Nat.reduceAdd, Nat.reduceSub, Nat.reduceLT, Nat.reduceLeDiff, Int.reduceToNat, Nat.reducePow, Int.reducePow, Int.reduceLT, Int.reduceLE, Int.reduceNeg, Int.reduceAdd, Int.reduceSub, Int.reduceMul, decide_true, decide_false, reduceCtorEq], .val (.ptr _ _ _)⟩
/-- The number at the tape's head. -/
def tapeN (l : List Int) (i n : Nat) : Nat := if i < l.length then (l.getD i 0 % 18446744073709551616).toNat % n else 0
theorem tapeNext_spec (l : List Int) (i n : Nat) (hi : i ≤ l.length) (hl : l.length ≤ 1099511627776) (h0 : 0 < n) (hn' : n ≤ 1099511627776) (h : Heap) (id m : Nat) (hid : h id = some ⟨2, [[IL l, .int .i64 i]]⟩) :
    ADet Try.prog 34 [.ptr id 1 0 0, .int .i64 n] h m (.int .i64 (tapeN l i n)) (upd h id (some ⟨2, [[IL l, .int .i64 (if i < l.length then i + 1 else i : Nat)]]⟩)) := by
  unfold IL at *
  refine adet_of E0ok mixed Try.func34 (by kernel_rfl) rfl (by kernel_rfl) (Nat.le_of_ble_eq_true rfl) (none_put hid) fun N0 hn hmen _ => ⟨hmen.put hid (by intro r hr a ha; simp only [List.mem_cons, List.not_mem_nil, or_false] at hr; subst hr; simp only [List.mem_cons, List.not_mem_nil, or_false] at ha; rcases ha with rfl | rfl <;> trivial), ?_⟩
  have hidlt : id < N0 := (hmen id _ hid).1
  have cm := mod_spec (l.getD i 0) n h0 hn'
  unfold tapeN
  by_cases h1 : i < l.length
  · rw [if_pos h1, if_pos h1]
    simp -implicitDefEqProofs (maxSteps := 2000000) (disch := omega) only [go_sem, condB_t, condB_f, pf0, dec_t, dec_f, and_of, ↓reduceIte, Nat.reduceEqDiff, Nat.reduceMul, Nat.reduceAdd, Nat.reduceSub, Nat.reduceLT, Nat.reduceLeDiff, Int.reduceToNat, Nat.reducePow, Int.reducePow, Int.reduceLT, Int.reduceLE, Int.reduceNeg, Int.reduceAdd, Int.reduceSub, Int.reduceMul, decide_true, decide_false, reduceCtorEq, hid]
    refine pcallK_pure cm ?_
    simp -implicitDefEqProofs (maxSteps := 2000000) (disch := omega) only [go_sem, condB_t, condB_f, pf0, dec_t, dec_f, and_of, ↓reduceIte, Nat.reduceEqDiff, Nat.reduceMul, Nat.reduceAdd, Nat.reduceSub, Nat.reduceLT, Nat.reduceLeDiff, Int.reduceToNat, Nat.reducePow, Int.reducePow, Int.reduceLT, Int.reduceLE, Int.reduceNeg, Int.reduceAdd, Int.reduceSub, Int.reduceMul, decide_true, decide_false, reduceCtorEq]
    exact dn
  · rw [if_neg h1, if_neg h1]
    simp -implicitDefEqProofs (maxSteps := 2000000) (disch := omega) only [go_sem, condB_t, condB_f, pf0, dec_t, dec_f, and_of, ↓reduceIte, Nat.reduceEqDiff, Nat.reduceMul, Nat.reduceAdd, Nat.reduceSub, Nat.reduceLT, Nat.reduceLeDiff, Int.reduceToNat, Nat.reducePow, Int.reducePow, Int.reduceLT, Int.reduceLE, Int.reduceNeg, Int.reduceAdd, Int.reduceSub, Int.reduceMul, decide_true, decide_false, reduceCtorEq, hid]
    have e : upd h id (some ⟨2, [[.sl 1 (l.map intC), .int .i64 (i : Nat)]]⟩) = h := by
      funext q; unfold upd; split
      · rename_i hq; rw [hq, hid]
      · rfl
    rw [e]
    exact ⟨fun _ _ => rfl, ThawT.refl rfl⟩
/-- The order that the tape deals, i cards in. -/
def permT (l : List Int) (i0 : Nat) : Nat → List Int
  | 0 => []
  | i + 1 => ((permT l i0 i).take (tapeN l (i0 + i) (i + 1)) ++ [(i : Int)]) ++ (permT l i0 i).drop (tapeN l (i0 + i) (i + 1))
theorem tapeN_lt (l : List Int) (i n : Nat) (h : 0 < n) : tapeN l i n < n := by
  unfold tapeN; split
  · exact Nat.mod_lt _ h
  · exact h
theorem permT_len (l : List Int) (i0 i : Nat) : (permT l i0 i).length = i := by
  induction i with
  | zero => rfl
  | succ i ih =>
    have := tapeN_lt l (i0 + i) (i + 1) (Nat.succ_pos _)
    unfold permT
    simp only [List.length_append, List.length_take, List.length_drop, List.length_cons, List.length_nil, ih]; omega
theorem permT_perm (l : List Int) (i0 i : Nat) : (permT l i0 i).Perm ((List.range i).map fun (j : Nat) => (j : Int)) := by
  induction i with
  | zero => exact .refl _
  | succ i ih =>
    rw [List.range_succ, List.map_append]
    unfold permT
    refine List.Perm.trans ?_ (List.Perm.append_right _ ih)
    rw [List.append_assoc]
    refine List.Perm.trans List.perm_append_comm ?_
    rw [List.append_assoc]
    refine List.Perm.trans List.perm_append_comm ?_
    refine List.Perm.append_right _ ?_
    refine List.Perm.trans List.perm_append_comm ?_
    rw [List.take_append_drop]
theorem tape_min (l : List Int) (i n : Nat) : tapeN l (min i l.length) n = tapeN l i n := by
  unfold tapeN
  by_cases h : i < l.length
  · rw [Nat.min_eq_left (by omega)]
  · rw [Nat.min_eq_right (by omega), if_neg (by omega), if_neg h]
theorem tapePerm_spec (l : List Int) (i0 n : Nat) (hi0 : i0 ≤ l.length) (hl : l.length ≤ 1099511627776) (hn' : n ≤ 1000000) (h : Heap) (id m : Nat) (hid : h id = some ⟨2, [[IL l, .int .i64 i0]]⟩) :
    ADet Try.prog 13 [.ptr id 1 0 0, .int .i64 n] h m (IL (permT l i0 n)) (upd h id (some ⟨2, [[IL l, .int .i64 (min (i0 + n) l.length : Nat)]]⟩)) := by
  have hnx := fun i (hi : i ≤ l.length) => tapeNext_spec l i
  unfold IL at *
  refine adet_of E0ok mixed Try.func13 (by kernel_rfl) rfl (by kernel_rfl) (Nat.le_of_ble_eq_true rfl) (none_put hid) fun N0 hn hmen _ => ⟨hmen.put hid (by intro r hr a ha; simp only [List.mem_cons, List.not_mem_nil, or_false] at hr; subst hr; simp only [List.mem_cons, List.not_mem_nil, or_false] at ha; rcases ha with rfl | rfl <;> trivial), ?_⟩
  have hidlt : id < N0 := (hmen id _ hid).1
  simp -implicitDefEqProofs (maxSteps := 2000000) (disch := omega) only [go_sem, condB_t, condB_f, pf0, dec_t, dec_f, and_of, ↓reduceIte, Nat.reduceEqDiff, Nat.reduceMul, Nat.reduceAdd, Nat.reduceSub, Nat.reduceLT, Nat.reduceLeDiff, Int.reduceToNat, Nat.reducePow, Int.reducePow, Int.reduceLT, Int.reduceLE, Int.reduceNeg, Int.reduceAdd, Int.reduceSub, Int.reduceMul, decide_true, decide_false, reduceCtorEq, hid]
  refine aw_weak (Weak.nilRow (t := 5) (sz := 1) (id := N0 + 24) (by omega) (by omega) (by simp -implicitDefEqProofs (maxSteps := 2000000) (disch := omega) only [go_sem, condB_t, condB_f, pf0, dec_t, dec_f, and_of, ↓reduceIte, Nat.reduceEqDiff, Nat.reduceMul, Nat.reduceAdd, Nat.reduceSub, Nat.reduceLT, Nat.reduceLeDiff, Int.reduceToNat, Nat.reducePow, Int.reducePow, Int.reduceLT, Int.reduceLE, Int.reduceNeg, Int.reduceAdd, Int.reduceSub, Int.reduceMul, decide_true, decide_false, reduceCtorEq])) ?_
  refine aw_loop (X := Nat × Nat) (fun x => ⟨mkS [(0, .ptr id 1 0 0), (1, .int .i64 n), (5, .row x.2 x.1 0 x.1), (6, .int .i64 x.1)], mkH h [(id, ⟨2, [[.sl 1 (l.map intC), .int .i64 (min (i0 + x.1) l.length : Nat)]]⟩), (x.2, ⟨1, (permT l i0 x.1).map intC⟩)], x.2 + 8⟩)
    (fun x => x.1 ≤ n ∧ N0 ≤ x.2) (fun x => n - x.1) ⟨(0, N0 + 24), ⟨Nat.zero_le _, by simp⟩, ?_⟩ ?_
  · rw [show min (i0 + 0) l.length = i0 by omega]
    simp only [permT]
    have m1 : (id = N0 + 24) = False := eq_false (by omega)
    (refine Weak.head2w (by simp -implicitDefEqProofs (maxSteps := 2000000) (disch := omega) only [go_sem, condB_t, condB_f, pf0, dec_t, dec_f, and_of, ↓reduceIte, Nat.reduceEqDiff, Nat.reduceMul, Nat.reduceAdd, Nat.reduceSub, Nat.reduceLT, Nat.reduceLeDiff, Int.reduceToNat, Nat.reducePow, Int.reducePow, Int.reduceLT, Int.reduceLE, Int.reduceNeg, Int.reduceAdd, Int.reduceSub, Int.reduceMul, decide_true, decide_false, reduceCtorEq, hid, m1] <;> (try rfl)) (by omega) (by first | exact mapU _ _ _ | exact mapU entC [_] _ | exact mapU ratC [_] _ | (intro r hr a ha; simp only [List.mem_cons, List.not_mem_nil, or_false] at hr; subst hr; simp only [List.mem_cons, List.not_mem_nil, or_false] at ha; rcases ha with rfl | rfl | rfl <;> trivial)) (by simp -implicitDefEqProofs (maxSteps := 2000000) (disch := omega) only [go_sem, condB_t, condB_f, pf0, dec_t, dec_f, and_of, ↓reduceIte, Nat.reduceEqDiff, Nat.reduceMul, Nat.reduceAdd, Nat.reduceSub, Nat.reduceLT, Nat.reduceLeDiff, Int.reduceToNat, Nat.reducePow, Int.reducePow, Int.reduceLT, Int.reduceLE, Int.reduceNeg, Int.reduceAdd, Int.reduceSub, Int.reduceMul, decide_true, decide_false, reduceCtorEq, hid, m1] <;> (try rfl)) (by omega) (by first | exact mapU _ _ _ | exact mapU entC [_] _ | exact mapU ratC [_] _ | (intro r hr a ha; simp only [List.mem_cons, List.not_mem_nil, or_false] at hr; subst hr; simp only [List.mem_cons, List.not_mem_nil, or_false] at ha; rcases ha with rfl | rfl | rfl <;> trivial)) (fun k0 b0 hk00 hk01 hb0 => by have hk10 : (k0 = _) = False := eq_false hk00; have hk11 : (k0 = _) = False := eq_false hk01; have hk2 := (hmen k0 b0 hb0).1; (simp -implicitDefEqProofs (maxSteps := 2000000) (disch := omega) only [go_sem, condB_t, condB_f, pf0, dec_t, dec_f, and_of, ↓reduceIte, Nat.reduceEqDiff, Nat.reduceMul, Nat.reduceAdd, Nat.reduceSub, Nat.reduceLT, Nat.reduceLeDiff, Int.reduceToNat, Nat.reducePow, Int.reducePow, Int.reduceLT, Int.reduceLE, Int.reduceNeg, Int.reduceAdd, Int.reduceSub, Int.reduceMul, decide_true, decide_false, reduceCtorEq, upd, mkH, hk10, hk11]) <;> (try (repeat rw [if_neg (by omega)])) <;> exact hb0) (by omega) hmen ?_; simp -implicitDefEqProofs (maxSteps := 2000000) (disch := omega) only [go_sem, condB_t, condB_f, pf0, dec_t, dec_f, and_of, ↓reduceIte, Nat.reduceEqDiff, Nat.reduceMul, Nat.reduceAdd, Nat.reduceSub, Nat.reduceLT, Nat.reduceLeDiff, Int.reduceToNat, Nat.reducePow, Int.reducePow, Int.reduceLT, Int.reduceLE, Int.reduceNeg, Int.reduceAdd, Int.reduceSub, Int.reduceMul, decide_true, decide_false, reduceCtorEq, AllP, AVle_same, AVle_int, AVle_nil, AVle_row, topU_int, topU_bool, topU_sl, topU_row, topU_ptr, topU_iptr, topU_fn, val, List.drop_length])
  · rintro ⟨i, ip⟩ ⟨hi, hip⟩
    simp only at hi hip
    have n1 : (id = ip) = False := eq_false (by omega)
    have n2 : (ip = id) = False := eq_false (by omega)
    by_cases h0 : i < n
    · simp -implicitDefEqProofs (maxSteps := 2000000) (disch := omega) only [go_sem, condB_t, condB_f, pf0, dec_t, dec_f, and_of, ↓reduceIte, Nat.reduceEqDiff, Nat.reduceMul, Nat.reduceAdd, Nat.reduceSub, Nat.reduceLT, Nat.reduceLeDiff, Int.reduceToNat, Nat.reducePow, Int.reducePow, Int.reduceLT, Int.reduceLE, Int.reduceNeg, Int.reduceAdd, Int.reduceSub, Int.reduceMul, decide_true, decide_false, reduceCtorEq, n1, n2]
      have cx := fun mm => tapeNext_spec l (min (i0 + i) l.length) (i + 1) (Nat.min_le_right _ _) hl (by omega) (by omega) (mkH h [(id, ⟨2, [[.sl 1 (l.map intC), .int .i64 (min (i0 + i) l.length : Nat)]]⟩), (ip, ⟨1, (permT l i0 i).map intC⟩)]) id mm (by simp -implicitDefEqProofs (maxSteps := 2000000) (disch := omega) only [go_sem, condB_t, condB_f, pf0, dec_t, dec_f, and_of, ↓reduceIte, Nat.reduceEqDiff, Nat.reduceMul, Nat.reduceAdd, Nat.reduceSub, Nat.reduceLT, Nat.reduceLeDiff, Int.reduceToNat, Nat.reducePow, Int.reducePow, Int.reduceLT, Int.reduceLE, Int.reduceNeg, Int.reduceAdd, Int.reduceSub, Int.reduceMul, decide_true, decide_false, reduceCtorEq, IL])
      rw [tape_min, show (if min (i0 + i) l.length < l.length then min (i0 + i) l.length + 1 else min (i0 + i) l.length) = min (i0 + (i + 1)) l.length by split <;> omega] at cx
      unfold IL at cx
      refine callK_of (cx _) ?_
      have hj := tapeN_lt l (i0 + i) (i + 1) (Nat.succ_pos _)
      have pl := permT_len l i0 i
      have pe : permT l i0 (i + 1) = ((permT l i0 i).take (tapeN l (i0 + i) (i + 1)) ++ [(i : Int)]) ++ (permT l i0 i).drop (tapeN l (i0 + i) (i + 1)) := rfl
      generalize tapeN l (i0 + i) (i + 1) = j at *
      generalize permT l i0 i = P at *
      have t1 : (P.take j).length = j := by rw [List.length_take]; omega
      have t2 : (P.drop j).take (i - j) = P.drop j := List.take_of_length_le (by rw [List.length_drop]; omega)
      have t3 : (P.drop j).length = i - j := by rw [List.length_drop, pl]
      have t4 : (P.take j ++ [(i : Int)]).length = j + 1 := by rw [List.length_append, t1]; rfl
      have m1 : (id = ip + 72) = False := eq_false (by omega)
      have m2 : (id = ip + 136) = False := eq_false (by omega)
      simp -implicitDefEqProofs (maxSteps := 2000000) (disch := omega) only [go_sem, condB_t, condB_f, pf0, dec_t, dec_f, and_of, ↓reduceIte, Nat.reduceEqDiff, Nat.reduceMul, Nat.reduceAdd, Nat.reduceSub, Nat.reduceLT, Nat.reduceLeDiff, Int.reduceToNat, Nat.reducePow, Int.reducePow, Int.reduceLT, Int.reduceLE, Int.reduceNeg, Int.reduceAdd, Int.reduceSub, Int.reduceMul, decide_true, decide_false, reduceCtorEq, n1, n2, t1, t2, t3, t4]
      refine ⟨(i + 1, ip + 72), ⟨h0, by simp only; omega⟩, by simp only; omega, ?_⟩
      (refine Weak.head2w (by simp -implicitDefEqProofs (maxSteps := 2000000) (disch := omega) only [go_sem, condB_t, condB_f, pf0, dec_t, dec_f, and_of, ↓reduceIte, Nat.reduceEqDiff, Nat.reduceMul, Nat.reduceAdd, Nat.reduceSub, Nat.reduceLT, Nat.reduceLeDiff, Int.reduceToNat, Nat.reducePow, Int.reducePow, Int.reduceLT, Int.reduceLE, Int.reduceNeg, Int.reduceAdd, Int.reduceSub, Int.reduceMul, decide_true, decide_false, reduceCtorEq, n1, n2, m1, m2, t1, t2, t3, pe] <;> (try rfl)) (by omega) (by first | exact mapU _ _ _ | exact mapU entC [_] _ | exact mapU ratC [_] _ | (intro r hr a ha; simp only [List.mem_cons, List.not_mem_nil, or_false] at hr; subst hr; simp only [List.mem_cons, List.not_mem_nil, or_false] at ha; rcases ha with rfl | rfl | rfl <;> trivial)) (by simp -implicitDefEqProofs (maxSteps := 2000000) (disch := omega) only [go_sem, condB_t, condB_f, pf0, dec_t, dec_f, and_of, ↓reduceIte, Nat.reduceEqDiff, Nat.reduceMul, Nat.reduceAdd, Nat.reduceSub, Nat.reduceLT, Nat.reduceLeDiff, Int.reduceToNat, Nat.reducePow, Int.reducePow, Int.reduceLT, Int.reduceLE, Int.reduceNeg, Int.reduceAdd, Int.reduceSub, Int.reduceMul, decide_true, decide_false, reduceCtorEq, n1, n2, m1, m2, t1, t2, t3, pe] <;> (try rfl)) (by omega) (by first | exact mapU _ _ _ | exact mapU entC [_] _ | exact mapU ratC [_] _ | (intro r hr a ha; simp only [List.mem_cons, List.not_mem_nil, or_false] at hr; subst hr; simp only [List.mem_cons, List.not_mem_nil, or_false] at ha; rcases ha with rfl | rfl | rfl <;> trivial)) (fun k0 b0 hk00 hk01 hb0 => by have hk10 : (k0 = _) = False := eq_false hk00; have hk11 : (k0 = _) = False := eq_false hk01; have hk2 := (hmen k0 b0 hb0).1; (simp -implicitDefEqProofs (maxSteps := 2000000) (disch := omega) only [go_sem, condB_t, condB_f, pf0, dec_t, dec_f, and_of, ↓reduceIte, Nat.reduceEqDiff, Nat.reduceMul, Nat.reduceAdd, Nat.reduceSub, Nat.reduceLT, Nat.reduceLeDiff, Int.reduceToNat, Nat.reducePow, Int.reducePow, Int.reduceLT, Int.reduceLE, Int.reduceNeg, Int.reduceAdd, Int.reduceSub, Int.reduceMul, decide_true, decide_false, reduceCtorEq, upd, mkH, hk10, hk11]) <;> (try (repeat rw [if_neg (by omega)])) <;> exact hb0) (by omega) hmen ?_; simp -implicitDefEqProofs (maxSteps := 2000000) (disch := omega) only [go_sem, condB_t, condB_f, pf0, dec_t, dec_f, and_of, ↓reduceIte, Nat.reduceEqDiff, Nat.reduceMul, Nat.reduceAdd, Nat.reduceSub, Nat.reduceLT, Nat.reduceLeDiff, Int.reduceToNat, Nat.reducePow, Int.reducePow, Int.reduceLT, Int.reduceLE, Int.reduceNeg, Int.reduceAdd, Int.reduceSub, Int.reduceMul, decide_true, decide_false, reduceCtorEq, AllP, AVle_same, AVle_int, AVle_nil, AVle_row, topU_int, topU_bool, topU_sl, topU_row, topU_ptr, topU_iptr, topU_fn, val, List.drop_length])
    · obtain rfl : i = n := by omega
      have pl := permT_len l i0 i
      simp -implicitDefEqProofs (maxSteps := 2000000) (disch := omega) only [go_sem, condB_t, condB_f, pf0, dec_t, dec_f, and_of, ↓reduceIte, Nat.reduceEqDiff, Nat.reduceMul, Nat.reduceAdd, Nat.reduceSub, Nat.reduceLT, Nat.reduceLeDiff, Int.reduceToNat, Nat.reducePow, Int.reducePow, Int.reduceLT, Int.reduceLE, Int.reduceNeg, Int.reduceAdd, Int.reduceSub, Int.reduceMul, decide_true, decide_false, reduceCtorEq, n1, n2]
      refine ⟨fun k hk => by simp only [mkH, upd]; (repeat rw [if_neg (show ¬ k = ip by omega)]), ?_⟩
      exact .val (.leaf (Thaw.plain (rows := (permT l i0 i).map intC) (by have e : id ≠ ip := by omega
                                                                          simp [locH, upd, mkH]; omega) (by simp [pl]) (by omega) (List.take_of_length_le (by simp [pl])) (mapP _)))
end Go.Abs
/-! YtbLaw1: What the vector laws read from their inputs. No condition. -/
set_option linter.unusedVariables false
set_option linter.unusedSimpArgs false
set_option maxRecDepth 100000
set_option maxHeartbeats 1000000
namespace Go.Abs
open Go.Proofs
@[go_sem] theorem R81 : Try.f81.results.toList = [.tmp 4] := rfl
@[go_sem] theorem R41 : Try.f41.results.toList = [.tmp 2] := rfl
@[go_sem] theorem R27 : Try.f27.results.toList = [.tmp 2] := rfl
theorem first_spec (l : List Ent) (n : Nat) (hl : l.length ≤ 1099511627776) (hn' : n ≤ 1099511627776) : PDet Try.prog 81 [EL l, .int .i64 n] (EL (l.take n)) := by
  refine pdet_of E0ok mixed Try.func81 (by kernel_rfl) rfl (by kernel_rfl) (Nat.le_of_ble_eq_true rfl) fun N0 h hn hmen => ?_
  unfold EL
  by_cases h0 : n < l.length
  · simp -implicitDefEqProofs (maxSteps := 2000000) (disch := omega) only [go_sem, condB_t, condB_f, pf0, dec_t, dec_f, and_of, ↓reduceIte, Nat.reduceEqDiff, Nat.reduceMul, Nat.reduceAdd, Nat.reduceSub, Nat.reduceLT, Nat.reduceLeDiff, Int.reduceToNat, Nat.reducePow, Int.reducePow, Int.reduceLT, Int.reduceLE, Int.reduceNeg, Int.reduceAdd, Int.reduceSub, Int.reduceMul, decide_true, decide_false, reduceCtorEq]
    exact dn
  · rw [List.take_of_length_le (by omega)]
    simp -implicitDefEqProofs (maxSteps := 2000000) (disch := omega) only [go_sem, condB_t, condB_f, pf0, dec_t, dec_f, and_of, ↓reduceIte, Nat.reduceEqDiff, Nat.reduceMul, Nat.reduceAdd, Nat.reduceSub, Nat.reduceLT, Nat.reduceLeDiff, Int.reduceToNat, Nat.reducePow, Int.reducePow, Int.reduceLT, Int.reduceLE, Int.reduceNeg, Int.reduceAdd, Int.reduceSub, Int.reduceMul, decide_true, decide_false, reduceCtorEq]
    exact dn
/-- The short vector that a law makes of its input: indices from -1 to 7. -/
def shE (e : Ent) : Ent := (((e.1 % 18446744073709551616).toNat % 9 : Nat) - 1, e.2)
def shL (l : List Ent) : List Ent := (l.take 40).map shE
theorem shL_len (l : List Ent) : (shL l).length = min 40 l.length := by unfold shL; rw [List.length_map, List.length_take]
theorem lshort_spec (l : List Ent) (hl : l.length ≤ 1099511627776) : PDet Try.prog 41 [EL l] (EL (shL l)) := by
  refine pdet_of E0ok mixed Try.func41 (by kernel_rfl) rfl (by kernel_rfl) (Nat.le_of_ble_eq_true rfl) fun N0 h hn hmen => ?_
  have cf := first_spec l 40 hl (by omega)
  have ls : (l.take 40).length ≤ 40 := by rw [List.length_take]; omega
  unfold shL
  generalize l.take 40 = v at *
  unfold EL at *
  simp -implicitDefEqProofs (maxSteps := 2000000) (disch := omega) only [go_sem, condB_t, condB_f, pf0, dec_t, dec_f, and_of, ↓reduceIte, Nat.reduceEqDiff, Nat.reduceMul, Nat.reduceAdd, Nat.reduceSub, Nat.reduceLT, Nat.reduceLeDiff, Int.reduceToNat, Nat.reducePow, Int.reducePow, Int.reduceLT, Int.reduceLE, Int.reduceNeg, Int.reduceAdd, Int.reduceSub, Int.reduceMul, decide_true, decide_false, reduceCtorEq]
  refine callK_pure cf ?_
  simp -implicitDefEqProofs (maxSteps := 2000000) (disch := omega) only [go_sem, condB_t, condB_f, pf0, dec_t, dec_f, and_of, ↓reduceIte, Nat.reduceEqDiff, Nat.reduceMul, Nat.reduceAdd, Nat.reduceSub, Nat.reduceLT, Nat.reduceLeDiff, Int.reduceToNat, Nat.reducePow, Int.reducePow, Int.reduceLT, Int.reduceLE, Int.reduceNeg, Int.reduceAdd, Int.reduceSub, Int.reduceMul, decide_true, decide_false, reduceCtorEq]
  refine aw_weak (Weak.nilRow (t := 3) (sz := 4) (id := N0 + 56) (by omega) (by omega) (by simp -implicitDefEqProofs (maxSteps := 2000000) (disch := omega) only [go_sem, condB_t, condB_f, pf0, dec_t, dec_f, and_of, ↓reduceIte, Nat.reduceEqDiff, Nat.reduceMul, Nat.reduceAdd, Nat.reduceSub, Nat.reduceLT, Nat.reduceLeDiff, Int.reduceToNat, Nat.reducePow, Int.reducePow, Int.reduceLT, Int.reduceLE, Int.reduceNeg, Int.reduceAdd, Int.reduceSub, Int.reduceMul, decide_true, decide_false, reduceCtorEq])) ?_
  obtain ⟨id, hid⟩ : ∃ id, id = N0 + 56 := ⟨_, rfl⟩
  rw [← hid]
  refine aw_loop (X := Nat) (fun i => ⟨mkS [(3, .row id i 0 i), (7, .sl 4 (v.map entC)), (8, .int .i64 v.length), (9, .int .i64 i)], mkH h [(id, ⟨4, ((v.take i).map shE).map entC⟩)], id + 8⟩) (fun i => i ≤ v.length) (fun i => v.length - i) ⟨0, Nat.zero_le _, ?_⟩ ?_
  · (refine Weak.head1w (by simp -implicitDefEqProofs (maxSteps := 2000000) (disch := omega) only [go_sem, condB_t, condB_f, pf0, dec_t, dec_f, and_of, ↓reduceIte, Nat.reduceEqDiff, Nat.reduceMul, Nat.reduceAdd, Nat.reduceSub, Nat.reduceLT, Nat.reduceLeDiff, Int.reduceToNat, Nat.reducePow, Int.reducePow, Int.reduceLT, Int.reduceLE, Int.reduceNeg, Int.reduceAdd, Int.reduceSub, Int.reduceMul, decide_true, decide_false, reduceCtorEq] <;> (try rfl)) (by omega) (mapU _ _ _) (fun k0 b0 hk0 hb0 => by have hk1 : (k0 = _) = False := eq_false hk0; have hk2 := (hmen k0 b0 hb0).1; (simp -implicitDefEqProofs (maxSteps := 2000000) (disch := omega) only [go_sem, condB_t, condB_f, pf0, dec_t, dec_f, and_of, ↓reduceIte, Nat.reduceEqDiff, Nat.reduceMul, Nat.reduceAdd, Nat.reduceSub, Nat.reduceLT, Nat.reduceLeDiff, Int.reduceToNat, Nat.reducePow, Int.reducePow, Int.reduceLT, Int.reduceLE, Int.reduceNeg, Int.reduceAdd, Int.reduceSub, Int.reduceMul, decide_true, decide_false, reduceCtorEq, upd, mkH, hk1]) <;> (try (repeat rw [if_neg (by omega)])) <;> exact hb0) (by omega) hmen ?_; simp -implicitDefEqProofs (maxSteps := 2000000) (disch := omega) only [go_sem, condB_t, condB_f, pf0, dec_t, dec_f, and_of, ↓reduceIte, Nat.reduceEqDiff, Nat.reduceMul, Nat.reduceAdd, Nat.reduceSub, Nat.reduceLT, Nat.reduceLeDiff, Int.reduceToNat, Nat.reducePow, Int.reducePow, Int.reduceLT, Int.reduceLE, Int.reduceNeg, Int.reduceAdd, Int.reduceSub, Int.reduceMul, decide_true, decide_false, reduceCtorEq, AllP, AVle_same, AVle_int, AVle_nil, AVle_row, topU_int, topU_bool, topU_sl, topU_row, topU_ptr, topU_iptr, topU_fn, val, List.drop_length])
  · intro i hi
    by_cases h0 : i < v.length
    · have cm := mod_spec (v.getD i default).1 9 (by omega) (by omega)
      have e : (v.take (i + 1)).map shE = (v.take i).map shE ++ [(((((v.getD i default).1 % 18446744073709551616).toNat % 9 : Nat) : Int) - 1, (v.getD i default).2)] := by rw [take_succ_getE h0, List.map_append]; rfl
      have hq := Nat.mod_lt ((v.getD i default).1 % 18446744073709551616).toNat (show 0 < 9 by decide)
      have hlv : ((v.take i).map shE).length = i := by rw [List.length_map, List.length_take]; omega
      generalize ((v.getD i default).1 % 18446744073709551616).toNat % 9 = q at *
      simp -implicitDefEqProofs (maxSteps := 2000000) (disch := omega) only [go_sem, condB_t, condB_f, pf0, dec_t, dec_f, and_of, ↓reduceIte, Nat.reduceEqDiff, Nat.reduceMul, Nat.reduceAdd, Nat.reduceSub, Nat.reduceLT, Nat.reduceLeDiff, Int.reduceToNat, Nat.reducePow, Int.reducePow, Int.reduceLT, Int.reduceLE, Int.reduceNeg, Int.reduceAdd, Int.reduceSub, Int.reduceMul, decide_true, decide_false, reduceCtorEq]
      refine pcallK_pure cm ?_
      simp -implicitDefEqProofs (maxSteps := 2000000) (disch := omega) only [go_sem, condB_t, condB_f, pf0, dec_t, dec_f, and_of, ↓reduceIte, Nat.reduceEqDiff, Nat.reduceMul, Nat.reduceAdd, Nat.reduceSub, Nat.reduceLT, Nat.reduceLeDiff, Int.reduceToNat, Nat.reducePow, Int.reducePow, Int.reduceLT, Int.reduceLE, Int.reduceNeg, Int.reduceAdd, Int.reduceSub, Int.reduceMul, decide_true, decide_false, reduceCtorEq, hlv]
      exact ⟨i + 1, h0, by omega, by (refine Weak.head1w (by simp -implicitDefEqProofs (maxSteps := 2000000) (disch := omega) only [go_sem, condB_t, condB_f, pf0, dec_t, dec_f, and_of, ↓reduceIte, Nat.reduceEqDiff, Nat.reduceMul, Nat.reduceAdd, Nat.reduceSub, Nat.reduceLT, Nat.reduceLeDiff, Int.reduceToNat, Nat.reducePow, Int.reducePow, Int.reduceLT, Int.reduceLE, Int.reduceNeg, Int.reduceAdd, Int.reduceSub, Int.reduceMul, decide_true, decide_false, reduceCtorEq, e] <;> (try rfl)) (by omega) (mapU _ _ _) (fun k0 b0 hk0 hb0 => by have hk1 : (k0 = _) = False := eq_false hk0; have hk2 := (hmen k0 b0 hb0).1; (simp -implicitDefEqProofs (maxSteps := 2000000) (disch := omega) only [go_sem, condB_t, condB_f, pf0, dec_t, dec_f, and_of, ↓reduceIte, Nat.reduceEqDiff, Nat.reduceMul, Nat.reduceAdd, Nat.reduceSub, Nat.reduceLT, Nat.reduceLeDiff, Int.reduceToNat, Nat.reducePow, Int.reducePow, Int.reduceLT, Int.reduceLE, Int.reduceNeg, Int.reduceAdd, Int.reduceSub, Int.reduceMul, decide_true, decide_false, reduceCtorEq, upd, mkH, hk1]) <;> (try (repeat rw [if_neg (by omega)])) <;> exact hb0) (by omega) hmen ?_; simp -implicitDefEqProofs (maxSteps := 2000000) (disch := omega) only [go_sem, condB_t, condB_f, pf0, dec_t, dec_f, and_of, ↓reduceIte, Nat.reduceEqDiff, Nat.reduceMul, Nat.reduceAdd, Nat.reduceSub, Nat.reduceLT, Nat.reduceLeDiff, Int.reduceToNat, Nat.reducePow, Int.reducePow, Int.reduceLT, Int.reduceLE, Int.reduceNeg, Int.reduceAdd, Int.reduceSub, Int.reduceMul, decide_true, decide_false, reduceCtorEq, AllP, AVle_same, AVle_int, AVle_nil, AVle_row, topU_int, topU_bool, topU_sl, topU_row, topU_ptr, topU_iptr, topU_fn, val, List.drop_length, e])⟩
    · obtain rfl : i = v.length := by omega
      simp -implicitDefEqProofs (maxSteps := 2000000) (disch := omega) only [go_sem, condB_t, condB_f, pf0, dec_t, dec_f, and_of, ↓reduceIte, Nat.reduceEqDiff, Nat.reduceMul, Nat.reduceAdd, Nat.reduceSub, Nat.reduceLT, Nat.reduceLeDiff, Int.reduceToNat, Nat.reducePow, Int.reducePow, Int.reduceLT, Int.reduceLE, Int.reduceNeg, Int.reduceAdd, Int.reduceSub, Int.reduceMul, decide_true, decide_false, reduceCtorEq]
      rw [List.take_of_length_le (Nat.le_refl _)]
      refine .val (.leaf (Thaw.plain (rows := (v.map shE).map entC) (by simp [locH, upd, mkH]; omega) (by simp) (by omega) (List.take_of_length_le (by simp)) (mapP _)))
/-- The dense list of ten that a law makes of its input. -/
def dnL (l : List Ent) (n : Nat) : List Raw := (List.range n).map fun (i : Nat) => canon (vget (eV (shL l)) i)
def dnR (l : List Ent) (i : Nat) : List (List AV) := (dnL l i).map ratC ++ List.replicate (10 - i) [.bool false, .nil, .nil]
theorem dnL_len (l : List Ent) (n : Nat) : (dnL l n).length = n := by simp [dnL]
theorem dnR_len {l : List Ent} {i : Nat} (h : i ≤ 10) : (dnR l i).length = 10 := by unfold dnR; simp [dnL_len]; omega
theorem dnR_get {l : List Ent} {i : Nat} (h : i < 10) : (dnR l i).getD i [] = [.bool false, .nil, .nil] := by
  have hl : ((dnL l i).map ratC).length = i := by rw [List.length_map, dnL_len]
  unfold dnR
  rw [List.getD_eq_getElem?_getD, List.getElem?_append_right (by omega), hl, Nat.sub_self, List.getElem?_replicate, if_pos (by omega)]; rfl
theorem dnR_set {l : List Ent} {i : Nat} (h : i < 10) : (dnR l i).set i [.bool (canon (vget (eV (shL l)) i)).s, .sl 1 (numL (canon (vget (eV (shL l)) i)).m), .sl 1 (numL (canon (vget (eV (shL l)) i)).d)] = dnR l (i + 1) := by
  have hl : ((dnL l i).map ratC).length = i := by rw [List.length_map, dnL_len]
  obtain ⟨r, hr⟩ : ∃ r, 10 - i = r + 1 := ⟨9 - i, by omega⟩
  have hr2 : 10 - (i + 1) = r := by omega
  unfold dnR
  rw [List.set_append_right _ _ (by omega), hl, Nat.sub_self, hr, hr2, List.replicate_succ, List.set_cons_zero]
  unfold dnL
  rw [List.range_succ, List.map_append, List.map_append, List.append_assoc]; rfl
theorem dnR_leaf {l : List Ent} {i : Nat} {U : Nat → Prop} : ∀ r ∈ dnR l i, ∀ a ∈ r, leafU U a := fun r hr a ha => by
  unfold dnR at hr
  rcases List.mem_append.1 hr with hr | hr
  · exact mapU ratC _ U r hr a ha
  · rw [(List.mem_replicate.1 hr).2] at ha
    simp only [List.mem_cons, List.not_mem_nil, or_false] at ha
    rcases ha with rfl | rfl | rfl <;> trivial
theorem dense_spec (l : List Ent) (k : Nat) (hk : OkL l k) (hk1 : 1 ≤ k) (hkb : k ≤ 1100000) (hl : l.length ≤ 1099511627776) : PDet Try.prog 27 [EL l] (QL (dnL l 10)) := by
  refine pdet_of E0ok mixed Try.func27 (by kernel_rfl) rfl (by kernel_rfl) (Nat.le_of_ble_eq_true rfl) fun N0 h hn hmen => ?_
  have cs := lshort_spec l hl
  have hk2 : OkL (shL l) k := fun e he => by
    obtain ⟨x, hx, rfl⟩ := List.mem_map.1 he
    exact hk x (List.mem_of_mem_take hx)
  have cg := fun j => get_spec (shL l) j k hk2 hk1 (by rw [shL_len]; omega) hkb
  unfold EL QL rC Raw.cells nl at *
  simp -implicitDefEqProofs (maxSteps := 2000000) (disch := omega) only [go_sem, condB_t, condB_f, pf0, dec_t, dec_f, and_of, ↓reduceIte, Nat.reduceEqDiff, Nat.reduceMul, Nat.reduceAdd, Nat.reduceSub, Nat.reduceLT, Nat.reduceLeDiff, Int.reduceToNat, Nat.reducePow, Int.reducePow, Int.reduceLT, Int.reduceLE, Int.reduceNeg, Int.reduceAdd, Int.reduceSub, Int.reduceMul, decide_true, decide_false, reduceCtorEq]
  obtain ⟨id, hid⟩ : ∃ id, id = N0 + 8 := ⟨_, rfl⟩
  rw [← hid]
  refine aw_loop (X := Nat) (fun i => ⟨mkS [(0, .sl 4 (l.map entC)), (3, .row id 10 0 10), (4, .int .i64 i)], mkH h [(id, ⟨3, dnR l i⟩)], id + 8⟩) (fun i => i ≤ 10) (fun i => 10 - i) ⟨0, Nat.zero_le _, ?_⟩ ?_
  · refine Weak.head1w (by rw [upd_same]; rfl) (by omega) dnR_leaf (fun k0 b0 hk0 hb0 => by simp only [upd, if_neg hk0]; exact hb0) (by omega) hmen ?_
    simp -implicitDefEqProofs (maxSteps := 2000000) (disch := omega) only [go_sem, condB_t, condB_f, pf0, dec_t, dec_f, and_of, ↓reduceIte, Nat.reduceEqDiff, Nat.reduceMul, Nat.reduceAdd, Nat.reduceSub, Nat.reduceLT, Nat.reduceLeDiff, Int.reduceToNat, Nat.reducePow, Int.reducePow, Int.reduceLT, Int.reduceLE, Int.reduceNeg, Int.reduceAdd, Int.reduceSub, Int.reduceMul, decide_true, decide_false, reduceCtorEq, AllP, AVle_same, AVle_int, AVle_nil, AVle_row, topU_int, topU_bool, topU_sl, topU_row, topU_ptr, topU_iptr, topU_fn, val, List.drop_length]
  · intro i hi
    by_cases h0 : i < 10
    · have g1 := dnR_len (l := l) (i := i) (by omega)
      have g2 := dnR_get (l := l) h0
      have g3 := dnR_set (l := l) h0
      simp -implicitDefEqProofs (maxSteps := 2000000) (disch := omega) only [go_sem, condB_t, condB_f, pf0, dec_t, dec_f, and_of, ↓reduceIte, Nat.reduceEqDiff, Nat.reduceMul, Nat.reduceAdd, Nat.reduceSub, Nat.reduceLT, Nat.reduceLeDiff, Int.reduceToNat, Nat.reducePow, Int.reducePow, Int.reduceLT, Int.reduceLE, Int.reduceNeg, Int.reduceAdd, Int.reduceSub, Int.reduceMul, decide_true, decide_false, reduceCtorEq, g1]
      refine callK_pure cs ?_
      simp -implicitDefEqProofs (maxSteps := 2000000) (disch := omega) only [go_sem, condB_t, condB_f, pf0, dec_t, dec_f, and_of, ↓reduceIte, Nat.reduceEqDiff, Nat.reduceMul, Nat.reduceAdd, Nat.reduceSub, Nat.reduceLT, Nat.reduceLeDiff, Int.reduceToNat, Nat.reducePow, Int.reducePow, Int.reduceLT, Int.reduceLE, Int.reduceNeg, Int.reduceAdd, Int.reduceSub, Int.reduceMul, decide_true, decide_false, reduceCtorEq, g1]
      refine callK_pure (cg i) ?_
      simp -implicitDefEqProofs (maxSteps := 2000000) (disch := omega) only [go_sem, condB_t, condB_f, pf0, dec_t, dec_f, and_of, ↓reduceIte, Nat.reduceEqDiff, Nat.reduceMul, Nat.reduceAdd, Nat.reduceSub, Nat.reduceLT, Nat.reduceLeDiff, Int.reduceToNat, Nat.reducePow, Int.reducePow, Int.reduceLT, Int.reduceLE, Int.reduceNeg, Int.reduceAdd, Int.reduceSub, Int.reduceMul, decide_true, decide_false, reduceCtorEq, g1, g2, g3]
      refine ⟨i + 1, h0, by omega, ?_⟩
      refine Weak.head1w (by simp -implicitDefEqProofs (maxSteps := 2000000) (disch := omega) only [go_sem, condB_t, condB_f, pf0, dec_t, dec_f, and_of, ↓reduceIte, Nat.reduceEqDiff, Nat.reduceMul, Nat.reduceAdd, Nat.reduceSub, Nat.reduceLT, Nat.reduceLeDiff, Int.reduceToNat, Nat.reducePow, Int.reducePow, Int.reduceLT, Int.reduceLE, Int.reduceNeg, Int.reduceAdd, Int.reduceSub, Int.reduceMul, decide_true, decide_false, reduceCtorEq, g1, g2, g3] <;> rfl) (by omega) dnR_leaf (fun k0 b0 hk0 hb0 => by simp only [upd, mkH, if_neg hk0]; exact hb0) (by omega) hmen ?_
      simp -implicitDefEqProofs (maxSteps := 2000000) (disch := omega) only [go_sem, condB_t, condB_f, pf0, dec_t, dec_f, and_of, ↓reduceIte, Nat.reduceEqDiff, Nat.reduceMul, Nat.reduceAdd, Nat.reduceSub, Nat.reduceLT, Nat.reduceLeDiff, Int.reduceToNat, Nat.reducePow, Int.reducePow, Int.reduceLT, Int.reduceLE, Int.reduceNeg, Int.reduceAdd, Int.reduceSub, Int.reduceMul, decide_true, decide_false, reduceCtorEq, AllP, AVle_same, AVle_int, AVle_nil, AVle_row, topU_int, topU_bool, topU_sl, topU_row, topU_ptr, topU_iptr, topU_fn, val, List.drop_length]
    · obtain rfl : i = 10 := by omega
      have e : dnR l 10 = (dnL l 10).map ratC := by unfold dnR; simp
      have pl := dnL_len l 10
      rw [e]
      simp -implicitDefEqProofs (maxSteps := 2000000) (disch := omega) only [go_sem, condB_t, condB_f, pf0, dec_t, dec_f, and_of, ↓reduceIte, Nat.reduceEqDiff, Nat.reduceMul, Nat.reduceAdd, Nat.reduceSub, Nat.reduceLT, Nat.reduceLeDiff, Int.reduceToNat, Nat.reducePow, Int.reducePow, Int.reduceLT, Int.reduceLE, Int.reduceNeg, Int.reduceAdd, Int.reduceSub, Int.reduceMul, decide_true, decide_false, reduceCtorEq]
      refine .val (.leaf (Thaw.plain (rows := (dnL l 10).map ratC) (by simp [locH, upd, mkH]; omega) (by simp [pl]) (by omega) (List.take_of_length_le (by simp [pl])) (mapP _)))
end Go.Abs
/-! YtbLaw2: The laws of layer 6: what they check once. No condition. -/
set_option linter.unusedVariables false
set_option linter.unusedSimpArgs false
set_option maxRecDepth 100000
set_option maxHeartbeats 1000000
namespace Go.Abs
open Go.Proofs
@[go_sem] theorem R64 : Try.f64.results.toList = [.cell 4 78] := rfl
@[go_sem] theorem R29 : Try.f29.results.toList = [.tmp 0] := rfl
theorem entry_spec (a v : Int) (h1 : -9223372036854775808 ≤ v) (h2 : v ≤ 9223372036854775807) : PDet Try.prog 64 [.int .i64 a, .int .i64 v] (.agg (entC (a, canon (v : Rat)))) := by
  refine pdet_of E0ok mixed Try.func64 (by kernel_rfl) rfl (by kernel_rfl) (Nat.le_of_ble_eq_true rfl) fun N0 h hn hmen => ?_
  have c := r3fromInt_spec v h1 h2
  unfold entC rC Raw.cells nl at *
  simp -implicitDefEqProofs (maxSteps := 2000000) (disch := omega) only [go_sem, condB_t, condB_f, pf0, dec_t, dec_f, and_of, ↓reduceIte, Nat.reduceEqDiff, Nat.reduceMul, Nat.reduceAdd, Nat.reduceSub, Nat.reduceLT, Nat.reduceLeDiff, Int.reduceToNat, Nat.reducePow, Int.reducePow, Int.reduceLT, Int.reduceLE, Int.reduceNeg, Int.reduceAdd, Int.reduceSub, Int.reduceMul, decide_true, decide_false, reduceCtorEq]
  refine callK_pure c ?_
  simp -implicitDefEqProofs (maxSteps := 2000000) (disch := omega) only [go_sem, condB_t, condB_f, pf0, dec_t, dec_f, and_of, ↓reduceIte, Nat.reduceEqDiff, Nat.reduceMul, Nat.reduceAdd, Nat.reduceSub, Nat.reduceLT, Nat.reduceLeDiff, Int.reduceToNat, Nat.reducePow, Int.reducePow, Int.reduceLT, Int.reduceLE, Int.reduceNeg, Int.reduceAdd, Int.reduceSub, Int.reduceMul, decide_true, decide_false, reduceCtorEq]
  exact dn
theorem nz_can {i : Int} {q : Rat} (h : q ≠ 0) : Can [(i, q)] := ⟨by simp [Asc], fun e he => by rw [List.mem_singleton.1 he]; exact h⟩
theorem vcan_self {v : Vec} (h : Can v) : vcan v = v := (vcan_eq h fun _ => rfl).symm
theorem awake_a : pmOut [2, 0, 1] (vcan (eV [(0, canon 5)])) = cE [(2, 5)] ∧ PmOk [2, 0, 1] (vcan (eV [(0, canon 5)])) := by
  have e : vcan (eV [(0, canon 5)]) = [(0, 5)] := by
    rw [show eV [(0, canon 5)] = [(0, 5)] by simp [eV, canon_val]]
    exact vcan_self (nz_can (by decide))
  have ok : PmOk [2, 0, 1] [(0, 5)] := by decide
  rw [e]
  refine ⟨?_, ok⟩
  unfold pmOut
  rw [if_pos ok]
  have : (cE [(0, (5 : Rat))]).map (pmv [2, 0, 1]) = cE [(2, 5)] := rfl
  rw [this]
  unfold srt
  rw [if_pos (by rw [eV_cE]; exact nz_can (by decide))]
theorem awake_b : vcan (eV [(3, canon 1), (1, canon 2), (3, canon (-1))]) = [(1, 2)] := by
  rw [show eV [(3, canon 1), (1, canon 2), (3, canon (-1))] = [(3, 1), (1, 2), (3, -1)] by simp [eV, canon_val]]
  symm
  refine vcan_eq (nz_can (by decide)) fun i => ?_
  simp only [vget]
  grind
theorem awake_c : dotM (vcan (eV [(0, canon 2), (5, canon 3)])) (vcan (eV [(5, canon 4), (7, canon 1)])) = 12 := by
  rw [show eV [(0, canon 2), (5, canon 3)] = [(0, 2), (5, 3)] by simp [eV, canon_val], show eV [(5, canon 4), (7, canon 1)] = [(5, 4), (7, 1)] by simp [eV, canon_val]]
  rw [vcan_self (v := [(0, 2), (5, 3)]) ⟨by simp [Asc], by simp⟩, vcan_self (v := [(5, 4), (7, 1)]) ⟨by simp [Asc], by simp⟩]
  simp [dotM]
  grind
theorem small_ok {v : Int} (h : v.natAbs < 4294967296) : Sz (v : Rat) 1 := ⟨by unfold Fit; simpa using h, by unfold Fit; rw [show ((v : Rat)).den = 1 from rfl]; decide⟩
theorem small_q {q : Rat} {v : Int} (e : (v : Rat) = q) (h : v.natAbs < 4294967296) : Sz q 1 := e ▸ small_ok h
theorem entry_q (a v : Int) (q : Rat) (e : (v : Rat) = q) (h : v.natAbs < 4294967296) : PDet Try.prog 64 [.int .i64 a, .int .i64 v] (.agg [.int .i64 a, .bool (canon q).s, .sl 1 (numL (canon q).m), .sl 1 (numL (canon q).d)]) := by
  have c := entry_spec a v (by omega) (by omega)
  rw [e] at c
  exact c
theorem ok_c1 {i : Int} {q : Rat} {l : List Ent} (h : Sz q 1) (hl : OkL l 1) : OkL ((i, canon q) :: l) 1 := fun e he => by
  rcases List.mem_cons.1 he with rfl | he
  · exact canon_ok h
  · exact hl e he
theorem ok_c0 : OkL [] 1 := nofun
theorem awake_spec : PDet Try.prog 29 [] (.bool true) := by
  refine pdet_of E0ok mixed Try.func29 (by kernel_rfl) rfl (by kernel_rfl) (Nat.le_of_ble_eq_true rfl) fun N0 h hn hmen => ?_
  have z1 : Sz 1 1 := small_q (v := 1) rfl (by decide)
  have z2 : Sz 2 1 := small_q (v := 2) rfl (by decide)
  have z3 : Sz 3 1 := small_q (v := 3) rfl (by decide)
  have z4 : Sz 4 1 := small_q (v := 4) rfl (by decide)
  have z5 : Sz 5 1 := small_q (v := 5) rfl (by decide)
  have zm : Sz (-1) 1 := small_q (v := -1) rfl (by decide)
  have z12 : Sz 12 1 := small_q (v := 12) rfl (by decide)
  have p1 := permute_spec [(0, canon 5)] [2, 0, 1] 1 (ok_c1 z5 ok_c0) (by decide) (by decide) (by decide) (by decide)
  rw [awake_a.1, decide_eq_true awake_a.2] at p1
  have p2 := norm_spec [(3, canon 1), (1, canon 2), (3, canon (-1))] 1 (ok_c1 z1 (ok_c1 z2 (ok_c1 zm ok_c0))) (by decide) (by decide) (by decide)
  rw [awake_b] at p2
  have p3 := dot_spec [(0, canon 2), (5, canon 3)] [(5, canon 4), (7, canon 1)] 1 100 (ok_c1 z2 (ok_c1 z3 ok_c0)) (ok_c1 z4 (ok_c1 z1 ok_c0)) (by decide) (by decide) (by decide) (by decide) (by decide) (by decide)
  rw [awake_c] at p3
  have p4 := identical_spec [(1, 2)] [(1, 2)] 1 1 (by simpa using z2) (by simpa using z2) (by decide) (by decide) (by decide) (by decide)
  have p5 := identical_spec [(2, 5)] [(2, 5)] 1 1 (by simpa using z5) (by simpa using z5) (by decide) (by decide) (by decide) (by decide)
  have p6 := r3fromInt_spec 12 (by decide) (by decide)
  rw [show ((12 : Int) : Rat) = 12 from rfl] at p6
  have p7 := r3equal_canon 12 12 1 1 z12 z12 (by decide) (by decide)
  rw [decide_eq_true rfl] at p4 p5 p7
  clear z1 z2 z3 z4 z5 zm z12
  unfold EL IL at *
  unfold rC Raw.cells nl at p3 p6 p7
  simp -implicitDefEqProofs (maxSteps := 2000000) (disch := decide) only [go_sem, condB_t, condB_f, pf0, dec_t, dec_f, and_of, ↓reduceIte, Nat.reduceEqDiff, Nat.reduceMul, Nat.reduceAdd, Nat.reduceSub, Nat.reduceLT, Nat.reduceLeDiff, Int.reduceToNat, Nat.reducePow, Int.reducePow, Int.reduceLT, Int.reduceLE, Int.reduceNeg, Int.reduceAdd, Int.reduceSub, Int.reduceMul, decide_true, decide_false, reduceCtorEq]
  refine callK_pure (entry_q 0 5 5 rfl (by decide)) ?_
  simp -implicitDefEqProofs (maxSteps := 2000000) (disch := decide) only [go_sem, condB_t, condB_f, pf0, dec_t, dec_f, and_of, ↓reduceIte, Nat.reduceEqDiff, Nat.reduceMul, Nat.reduceAdd, Nat.reduceSub, Nat.reduceLT, Nat.reduceLeDiff, Int.reduceToNat, Nat.reducePow, Int.reducePow, Int.reduceLT, Int.reduceLE, Int.reduceNeg, Int.reduceAdd, Int.reduceSub, Int.reduceMul, decide_true, decide_false, reduceCtorEq]
  refine callK_row12 p1 (by simp -implicitDefEqProofs (maxSteps := 2000000) (disch := omega) only [go_sem, condB_t, condB_f, pf0, dec_t, dec_f, and_of, ↓reduceIte, Nat.reduceEqDiff, Nat.reduceMul, Nat.reduceAdd, Nat.reduceSub, Nat.reduceLT, Nat.reduceLeDiff, Int.reduceToNat, Nat.reducePow, Int.reducePow, Int.reduceLT, Int.reduceLE, Int.reduceNeg, Int.reduceAdd, Int.reduceSub, Int.reduceMul, decide_true, decide_false, reduceCtorEq]; rfl) rfl (by decide) rfl (mapP _) (by simp -implicitDefEqProofs (maxSteps := 2000000) (disch := omega) only [go_sem, condB_t, condB_f, pf0, dec_t, dec_f, and_of, ↓reduceIte, Nat.reduceEqDiff, Nat.reduceMul, Nat.reduceAdd, Nat.reduceSub, Nat.reduceLT, Nat.reduceLeDiff, Int.reduceToNat, Nat.reducePow, Int.reducePow, Int.reduceLT, Int.reduceLE, Int.reduceNeg, Int.reduceAdd, Int.reduceSub, Int.reduceMul, decide_true, decide_false, reduceCtorEq]; rfl) rfl (by decide) rfl (mapP _) ?_
  simp -implicitDefEqProofs (maxSteps := 2000000) (disch := decide) only [go_sem, condB_t, condB_f, pf0, dec_t, dec_f, and_of, ↓reduceIte, Nat.reduceEqDiff, Nat.reduceMul, Nat.reduceAdd, Nat.reduceSub, Nat.reduceLT, Nat.reduceLeDiff, Int.reduceToNat, Nat.reducePow, Int.reducePow, Int.reduceLT, Int.reduceLE, Int.reduceNeg, Int.reduceAdd, Int.reduceSub, Int.reduceMul, decide_true, decide_false, reduceCtorEq]
  refine callK_pure (entry_q 3 1 1 rfl (by decide)) ?_
  simp -implicitDefEqProofs (maxSteps := 2000000) (disch := decide) only [go_sem, condB_t, condB_f, pf0, dec_t, dec_f, and_of, ↓reduceIte, Nat.reduceEqDiff, Nat.reduceMul, Nat.reduceAdd, Nat.reduceSub, Nat.reduceLT, Nat.reduceLeDiff, Int.reduceToNat, Nat.reducePow, Int.reducePow, Int.reduceLT, Int.reduceLE, Int.reduceNeg, Int.reduceAdd, Int.reduceSub, Int.reduceMul, decide_true, decide_false, reduceCtorEq]
  refine callK_pure (entry_q 1 2 2 rfl (by decide)) ?_
  simp -implicitDefEqProofs (maxSteps := 2000000) (disch := decide) only [go_sem, condB_t, condB_f, pf0, dec_t, dec_f, and_of, ↓reduceIte, Nat.reduceEqDiff, Nat.reduceMul, Nat.reduceAdd, Nat.reduceSub, Nat.reduceLT, Nat.reduceLeDiff, Int.reduceToNat, Nat.reducePow, Int.reducePow, Int.reduceLT, Int.reduceLE, Int.reduceNeg, Int.reduceAdd, Int.reduceSub, Int.reduceMul, decide_true, decide_false, reduceCtorEq]
  refine callK_pure (entry_q 3 (-1) (-1) rfl (by decide)) ?_
  simp -implicitDefEqProofs (maxSteps := 2000000) (disch := decide) only [go_sem, condB_t, condB_f, pf0, dec_t, dec_f, and_of, ↓reduceIte, Nat.reduceEqDiff, Nat.reduceMul, Nat.reduceAdd, Nat.reduceSub, Nat.reduceLT, Nat.reduceLeDiff, Int.reduceToNat, Nat.reducePow, Int.reducePow, Int.reduceLT, Int.reduceLE, Int.reduceNeg, Int.reduceAdd, Int.reduceSub, Int.reduceMul, decide_true, decide_false, reduceCtorEq]
  refine callK_row p2 (by simp -implicitDefEqProofs (maxSteps := 2000000) (disch := omega) only [go_sem, condB_t, condB_f, pf0, dec_t, dec_f, and_of, ↓reduceIte, Nat.reduceEqDiff, Nat.reduceMul, Nat.reduceAdd, Nat.reduceSub, Nat.reduceLT, Nat.reduceLeDiff, Int.reduceToNat, Nat.reducePow, Int.reducePow, Int.reduceLT, Int.reduceLE, Int.reduceNeg, Int.reduceAdd, Int.reduceSub, Int.reduceMul, decide_true, decide_false, reduceCtorEq]; rfl) rfl (by decide) rfl (mapP _) ?_
  simp -implicitDefEqProofs (maxSteps := 2000000) (disch := decide) only [go_sem, condB_t, condB_f, pf0, dec_t, dec_f, and_of, ↓reduceIte, Nat.reduceEqDiff, Nat.reduceMul, Nat.reduceAdd, Nat.reduceSub, Nat.reduceLT, Nat.reduceLeDiff, Int.reduceToNat, Nat.reducePow, Int.reducePow, Int.reduceLT, Int.reduceLE, Int.reduceNeg, Int.reduceAdd, Int.reduceSub, Int.reduceMul, decide_true, decide_false, reduceCtorEq]
  refine callK_pure (entry_q 1 2 2 rfl (by decide)) ?_
  simp -implicitDefEqProofs (maxSteps := 2000000) (disch := decide) only [go_sem, condB_t, condB_f, pf0, dec_t, dec_f, and_of, ↓reduceIte, Nat.reduceEqDiff, Nat.reduceMul, Nat.reduceAdd, Nat.reduceSub, Nat.reduceLT, Nat.reduceLeDiff, Int.reduceToNat, Nat.reducePow, Int.reducePow, Int.reduceLT, Int.reduceLE, Int.reduceNeg, Int.reduceAdd, Int.reduceSub, Int.reduceMul, decide_true, decide_false, reduceCtorEq]
  refine callK_row2 p4 (by simp -implicitDefEqProofs (maxSteps := 2000000) (disch := omega) only [go_sem, condB_t, condB_f, pf0, dec_t, dec_f, and_of, ↓reduceIte, Nat.reduceEqDiff, Nat.reduceMul, Nat.reduceAdd, Nat.reduceSub, Nat.reduceLT, Nat.reduceLeDiff, Int.reduceToNat, Nat.reducePow, Int.reducePow, Int.reduceLT, Int.reduceLE, Int.reduceNeg, Int.reduceAdd, Int.reduceSub, Int.reduceMul, decide_true, decide_false, reduceCtorEq]; rfl) rfl (by decide) rfl (mapP _) ?_
  simp -implicitDefEqProofs (maxSteps := 2000000) (disch := decide) only [go_sem, condB_t, condB_f, pf0, dec_t, dec_f, and_of, ↓reduceIte, Nat.reduceEqDiff, Nat.reduceMul, Nat.reduceAdd, Nat.reduceSub, Nat.reduceLT, Nat.reduceLeDiff, Int.reduceToNat, Nat.reducePow, Int.reducePow, Int.reduceLT, Int.reduceLE, Int.reduceNeg, Int.reduceAdd, Int.reduceSub, Int.reduceMul, decide_true, decide_false, reduceCtorEq]
  refine callK_pure (entry_q 0 2 2 rfl (by decide)) ?_
  simp -implicitDefEqProofs (maxSteps := 2000000) (disch := decide) only [go_sem, condB_t, condB_f, pf0, dec_t, dec_f, and_of, ↓reduceIte, Nat.reduceEqDiff, Nat.reduceMul, Nat.reduceAdd, Nat.reduceSub, Nat.reduceLT, Nat.reduceLeDiff, Int.reduceToNat, Nat.reducePow, Int.reducePow, Int.reduceLT, Int.reduceLE, Int.reduceNeg, Int.reduceAdd, Int.reduceSub, Int.reduceMul, decide_true, decide_false, reduceCtorEq]
  refine callK_pure (entry_q 5 3 3 rfl (by decide)) ?_
  simp -implicitDefEqProofs (maxSteps := 2000000) (disch := decide) only [go_sem, condB_t, condB_f, pf0, dec_t, dec_f, and_of, ↓reduceIte, Nat.reduceEqDiff, Nat.reduceMul, Nat.reduceAdd, Nat.reduceSub, Nat.reduceLT, Nat.reduceLeDiff, Int.reduceToNat, Nat.reducePow, Int.reducePow, Int.reduceLT, Int.reduceLE, Int.reduceNeg, Int.reduceAdd, Int.reduceSub, Int.reduceMul, decide_true, decide_false, reduceCtorEq]
  refine callK_pure (entry_q 5 4 4 rfl (by decide)) ?_
  simp -implicitDefEqProofs (maxSteps := 2000000) (disch := decide) only [go_sem, condB_t, condB_f, pf0, dec_t, dec_f, and_of, ↓reduceIte, Nat.reduceEqDiff, Nat.reduceMul, Nat.reduceAdd, Nat.reduceSub, Nat.reduceLT, Nat.reduceLeDiff, Int.reduceToNat, Nat.reducePow, Int.reducePow, Int.reduceLT, Int.reduceLE, Int.reduceNeg, Int.reduceAdd, Int.reduceSub, Int.reduceMul, decide_true, decide_false, reduceCtorEq]
  refine callK_pure (entry_q 7 1 1 rfl (by decide)) ?_
  simp -implicitDefEqProofs (maxSteps := 2000000) (disch := decide) only [go_sem, condB_t, condB_f, pf0, dec_t, dec_f, and_of, ↓reduceIte, Nat.reduceEqDiff, Nat.reduceMul, Nat.reduceAdd, Nat.reduceSub, Nat.reduceLT, Nat.reduceLeDiff, Int.reduceToNat, Nat.reducePow, Int.reducePow, Int.reduceLT, Int.reduceLE, Int.reduceNeg, Int.reduceAdd, Int.reduceSub, Int.reduceMul, decide_true, decide_false, reduceCtorEq]
  refine callK_row12 p3 (by simp -implicitDefEqProofs (maxSteps := 2000000) (disch := omega) only [go_sem, condB_t, condB_f, pf0, dec_t, dec_f, and_of, ↓reduceIte, Nat.reduceEqDiff, Nat.reduceMul, Nat.reduceAdd, Nat.reduceSub, Nat.reduceLT, Nat.reduceLeDiff, Int.reduceToNat, Nat.reducePow, Int.reducePow, Int.reduceLT, Int.reduceLE, Int.reduceNeg, Int.reduceAdd, Int.reduceSub, Int.reduceMul, decide_true, decide_false, reduceCtorEq]; rfl) rfl (by decide) rfl (mapP _) (by simp -implicitDefEqProofs (maxSteps := 2000000) (disch := omega) only [go_sem, condB_t, condB_f, pf0, dec_t, dec_f, and_of, ↓reduceIte, Nat.reduceEqDiff, Nat.reduceMul, Nat.reduceAdd, Nat.reduceSub, Nat.reduceLT, Nat.reduceLeDiff, Int.reduceToNat, Nat.reducePow, Int.reducePow, Int.reduceLT, Int.reduceLE, Int.reduceNeg, Int.reduceAdd, Int.reduceSub, Int.reduceMul, decide_true, decide_false, reduceCtorEq]; rfl) rfl (by decide) rfl (mapP _) ?_
  simp -implicitDefEqProofs (maxSteps := 2000000) (disch := decide) only [go_sem, condB_t, condB_f, pf0, dec_t, dec_f, and_of, ↓reduceIte, Nat.reduceEqDiff, Nat.reduceMul, Nat.reduceAdd, Nat.reduceSub, Nat.reduceLT, Nat.reduceLeDiff, Int.reduceToNat, Nat.reducePow, Int.reducePow, Int.reduceLT, Int.reduceLE, Int.reduceNeg, Int.reduceAdd, Int.reduceSub, Int.reduceMul, decide_true, decide_false, reduceCtorEq]
  refine callK_pure p6 ?_
  simp -implicitDefEqProofs (maxSteps := 2000000) (disch := decide) only [go_sem, condB_t, condB_f, pf0, dec_t, dec_f, and_of, ↓reduceIte, Nat.reduceEqDiff, Nat.reduceMul, Nat.reduceAdd, Nat.reduceSub, Nat.reduceLT, Nat.reduceLeDiff, Int.reduceToNat, Nat.reducePow, Int.reducePow, Int.reduceLT, Int.reduceLE, Int.reduceNeg, Int.reduceAdd, Int.reduceSub, Int.reduceMul, decide_true, decide_false, reduceCtorEq]
  refine callK_pure p7 ?_
  simp -implicitDefEqProofs (maxSteps := 2000000) (disch := decide) only [go_sem, condB_t, condB_f, pf0, dec_t, dec_f, and_of, ↓reduceIte, Nat.reduceEqDiff, Nat.reduceMul, Nat.reduceAdd, Nat.reduceSub, Nat.reduceLT, Nat.reduceLeDiff, Int.reduceToNat, Nat.reducePow, Int.reducePow, Int.reduceLT, Int.reduceLE, Int.reduceNeg, Int.reduceAdd, Int.reduceSub, Int.reduceMul, decide_true, decide_false, reduceCtorEq]
  refine callK_pure (entry_q 2 5 5 rfl (by decide)) ?_
  simp -implicitDefEqProofs (maxSteps := 2000000) (disch := decide) only [go_sem, condB_t, condB_f, pf0, dec_t, dec_f, and_of, ↓reduceIte, Nat.reduceEqDiff, Nat.reduceMul, Nat.reduceAdd, Nat.reduceSub, Nat.reduceLT, Nat.reduceLeDiff, Int.reduceToNat, Nat.reducePow, Int.reducePow, Int.reduceLT, Int.reduceLE, Int.reduceNeg, Int.reduceAdd, Int.reduceSub, Int.reduceMul, decide_true, decide_false, reduceCtorEq]
  refine callK_row2 p5 (by simp -implicitDefEqProofs (maxSteps := 2000000) (disch := omega) only [go_sem, condB_t, condB_f, pf0, dec_t, dec_f, and_of, ↓reduceIte, Nat.reduceEqDiff, Nat.reduceMul, Nat.reduceAdd, Nat.reduceSub, Nat.reduceLT, Nat.reduceLeDiff, Int.reduceToNat, Nat.reducePow, Int.reducePow, Int.reduceLT, Int.reduceLE, Int.reduceNeg, Int.reduceAdd, Int.reduceSub, Int.reduceMul, decide_true, decide_false, reduceCtorEq]; rfl) rfl (by decide) rfl (mapP _) ?_
  simp -implicitDefEqProofs (maxSteps := 2000000) (disch := decide) only [go_sem, condB_t, condB_f, pf0, dec_t, dec_f, and_of, ↓reduceIte, Nat.reduceEqDiff, Nat.reduceMul, Nat.reduceAdd, Nat.reduceSub, Nat.reduceLT, Nat.reduceLeDiff, Int.reduceToNat, Nat.reducePow, Int.reducePow, Int.reduceLT, Int.reduceLE, Int.reduceNeg, Int.reduceAdd, Int.reduceSub, Int.reduceMul, decide_true, decide_false, reduceCtorEq]
  exact dn
end Go.Abs
/-! YtbLaw3: VectorIsometry: the walk. No condition. -/
set_option linter.unusedVariables false
set_option linter.unusedSimpArgs false
set_option maxRecDepth 100000
set_option maxHeartbeats 1000000
namespace Go.Abs
open Go.Proofs
@[go_sem] theorem R7 : Try.f7.results.toList = [.tmp 6] := rfl
/-- The inverse of a permutation, as the law fills it in. -/
def invF (p : List Int) : Nat → List Int
  | 0 => List.replicate 10 0
  | i + 1 => (invF p i).set (p.getD i 0).toNat i
theorem invF_len (p : List Int) (i : Nat) : (invF p i).length = 10 := by
  induction i with
  | zero => simp [invF]
  | succ i ih => unfold invF; rw [List.length_set]; exact ih
theorem iso_walk (a b : List Ent) (t : List Int) (k K : Nat) (ha : OkL a k) (hb : OkL b k) (hk1 : 1 ≤ k) (hk : k ≤ 1100000) (hla : a.length ≤ 1099511627776) (hlb : b.length ≤ 1099511627776) (hlt : t.length ≤ 1099511627776)
    (p : List Int) (hp : p = permT t 0 10) (hpr : ∀ x ∈ p, 0 ≤ x ∧ x < 10) (v w : Vec) (hv : fD (dnL a 10) = cE v) (hw : fD (dnL b 10) = cE w) (cv : Can v) (cw : Can w) (lv : v.length ≤ 10) (lw : w.length ≤ 10)
    (sv : ∀ e ∈ v, Sz e.2 K) (sw : ∀ e ∈ w, Sz e.2 K) (hK1 : 1 ≤ K) (hK : K ≤ 50000000) (o1 : PmOk p v) (o2 : PmOk p w) (x y : Vec) (hx : pmOut p v = cE x) (hy : pmOut p w = cE y) (cx : Can x) (cy : Can y) (lx : x.length ≤ 10) (ly : y.length ≤ 10)
    (sx : ∀ e ∈ x, Sz e.2 K) (sy : ∀ e ∈ y, Sz e.2 K) (o3 : PmOk (invF p 10) x) (h3 : pmOut (invF p 10) x = cE v) (hd : dotM x y = dotM v w) (hsz : Sz (dotM v w) 549755813888) (da : ∀ i, i < (dnL a 10).length → ((dnL a 10).getD i default).Ok 1099511627776) (db : ∀ i, i < (dnL b 10).length → ((dnL b 10).getD i default).Ok 1099511627776) :
    PDet Try.prog 7 [EL a, EL b, IL t] (.bool true) := by
  refine pdet_of E0ok mixed Try.func7 (by kernel_rfl) rfl (by kernel_rfl) (Nat.le_of_ble_eq_true rfl) fun N0 h hn hmen => ?_
  have c1 := fun h m => tapeNew_new t h m
  have hpl : p.length = 10 := by rw [hp, permT_len]
  have d1 := dense_spec a k ha hk1 hk hla
  have d2 := dense_spec b k hb hk1 hk hlb
  have f1 := fromDense_spec (dnL a 10) _ da (Nat.le_refl _) (by rw [dnL_len]; omega)
  have f2 := fromDense_spec (dnL b 10) _ db (Nat.le_refl _) (by rw [dnL_len]; omega)
  rw [hv] at f1
  rw [hw] at f2
  have m10 : 10 * (K + 1) ≤ 10 * 50000001 := by omega
  have bound : ∀ z : Vec, z.length ≤ 10 → K + (cE z).length * (K + 1) ≤ 600000000 := fun z hz => by
    have : (cE z).length * (K + 1) ≤ 10 * (K + 1) := Nat.mul_le_mul_right _ (by rw [cE_len]; exact hz)
    omega
  have p1 := permute_spec (cE v) p K (cE_ok sv) hK1 (by rw [cE_len]; omega) (by have := bound v lv; omega) (by omega)
  have p2 := permute_spec (cE w) p K (cE_ok sw) hK1 (by rw [cE_len]; omega) (by have := bound w lw; omega) (by omega)
  have p3 := permute_spec (cE x) (invF p 10) K (cE_ok sx) hK1 (by rw [cE_len]; omega) (by have := bound x lx; omega) (by rw [invF_len]; omega)
  have q1 := dot_spec (cE x) (cE y) K 600000000 (cE_ok sx) (cE_ok sy) hK1 (by rw [cE_len]; omega) (by rw [cE_len]; omega) (bound x lx) (bound y ly) (by omega)
  have q2 := dot_spec (cE v) (cE w) K 600000000 (cE_ok sv) (cE_ok sw) hK1 (by rw [cE_len]; omega) (by rw [cE_len]; omega) (bound v lv) (bound w lw) (by omega)
  have i1 := identical_spec v v K K sv sv (by omega) (by omega) (by omega) (by omega)
  rw [eV_cE, vcan_self cv, hx, decide_eq_true o1] at p1
  rw [eV_cE, vcan_self cw, hy, decide_eq_true o2] at p2
  rw [eV_cE, vcan_self cx, h3, decide_eq_true o3] at p3
  rw [eV_cE, eV_cE, vcan_self cx, vcan_self cy, hd] at q1
  rw [eV_cE, eV_cE, vcan_self cv, vcan_self cw] at q2
  rw [decide_eq_true rfl] at i1
  have e1 := r3equal_canon (dotM v w) (dotM v w) 549755813888 549755813888 hsz hsz (by omega) (by omega)
  rw [decide_eq_true rfl] at e1
  have aw0 := awake_spec
  unfold EL IL QL at *
  simp -implicitDefEqProofs (maxSteps := 2000000) (disch := omega) only [go_sem, condB_t, condB_f, pf0, dec_t, dec_f, and_of, ↓reduceIte, Nat.reduceEqDiff, Nat.reduceMul, Nat.reduceAdd, Nat.reduceSub, Nat.reduceLT, Nat.reduceLeDiff, Int.reduceToNat, Nat.reducePow, Int.reducePow, Int.reduceLT, Int.reduceLE, Int.reduceNeg, Int.reduceAdd, Int.reduceSub, Int.reduceMul, decide_true, decide_false, reduceCtorEq]
  refine callK_of (c1 _ _) ?_
  simp -implicitDefEqProofs (maxSteps := 2000000) (disch := omega) only [go_sem, condB_t, condB_f, pf0, dec_t, dec_f, and_of, ↓reduceIte, Nat.reduceEqDiff, Nat.reduceMul, Nat.reduceAdd, Nat.reduceSub, Nat.reduceLT, Nat.reduceLeDiff, Int.reduceToNat, Nat.reducePow, Int.reducePow, Int.reduceLT, Int.reduceLE, Int.reduceNeg, Int.reduceAdd, Int.reduceSub, Int.reduceMul, decide_true, decide_false, reduceCtorEq]
  have c2 := fun hh id m hid => tapePerm_spec t 0 10 (Nat.zero_le _) hlt (by omega) hh id m hid
  rw [← hp] at c2
  unfold IL at c2
  refine callK_of (c2 _ _ _ (by simp -implicitDefEqProofs (maxSteps := 2000000) (disch := omega) only [go_sem, condB_t, condB_f, pf0, dec_t, dec_f, and_of, ↓reduceIte, Nat.reduceEqDiff, Nat.reduceMul, Nat.reduceAdd, Nat.reduceSub, Nat.reduceLT, Nat.reduceLeDiff, Int.reduceToNat, Nat.reducePow, Int.reducePow, Int.reduceLT, Int.reduceLE, Int.reduceNeg, Int.reduceAdd, Int.reduceSub, Int.reduceMul, decide_true, decide_false, reduceCtorEq]; rfl)) ?_
  simp -implicitDefEqProofs (maxSteps := 2000000) (disch := omega) only [go_sem, condB_t, condB_f, pf0, dec_t, dec_f, and_of, ↓reduceIte, Nat.reduceEqDiff, Nat.reduceMul, Nat.reduceAdd, Nat.reduceSub, Nat.reduceLT, Nat.reduceLeDiff, Int.reduceToNat, Nat.reducePow, Int.reducePow, Int.reduceLT, Int.reduceLE, Int.reduceNeg, Int.reduceAdd, Int.reduceSub, Int.reduceMul, decide_true, decide_false, reduceCtorEq]
  obtain ⟨id, hid⟩ : ∃ id, id = N0 + 40 := ⟨_, rfl⟩
  refine aw_loop (X := Nat) (fun i => ⟨mkS [(0, .sl 4 (a.map entC)), (1, .sl 4 (b.map entC)), (7, .sl 1 (p.map intC)), (8, .row id 10 0 10), (9, .int .i64 i)], mkH h [(id, ⟨1, (invF p i).map intC⟩)], id + 8⟩) (fun i => i ≤ 10) (fun i => 10 - i) ⟨0, Nat.zero_le _, ?_⟩ ?_
  · rw [← hid]
    refine Weak.head1w (by rw [upd_same]; rfl) (by omega) (mapU _ _ _) (fun k0 b0 hk0 hb0 => by have hk2 := (hmen k0 b0 hb0).1; simp only [upd, if_neg hk0]; (repeat rw [if_neg (by omega)]); exact hb0) (by omega) hmen ?_
    clear c1 c2 d1 d2 f1 f2 p1 p2 p3 q1 q2 i1 e1 aw0 bound
    simp -implicitDefEqProofs (maxSteps := 2000000) (disch := omega) only [go_sem, condB_t, condB_f, pf0, dec_t, dec_f, and_of, ↓reduceIte, Nat.reduceEqDiff, Nat.reduceMul, Nat.reduceAdd, Nat.reduceSub, Nat.reduceLT, Nat.reduceLeDiff, Int.reduceToNat, Nat.reducePow, Int.reducePow, Int.reduceLT, Int.reduceLE, Int.reduceNeg, Int.reduceAdd, Int.reduceSub, Int.reduceMul, decide_true, decide_false, reduceCtorEq, AllP, AVle_same, AVle_int, AVle_nil, AVle_row, topU_int, topU_bool, topU_sl, topU_row, topU_ptr, topU_iptr, topU_fn, val, List.drop_length]
  · intro i hi
    have il := invF_len p i
    by_cases h0 : i < 10
    · have hm : p.getD i 0 ∈ p := by rw [List.getD_eq_getElem?_getD, List.getElem?_eq_getElem (by omega)]; exact List.getElem_mem _
      have hin := hpr _ hm
      have hs : invF p (i + 1) = (invF p i).set (p.getD i 0).toNat i := rfl
      obtain ⟨x, hxx⟩ : ∃ x, p.getD i 0 = x := ⟨_, rfl⟩
      rw [hxx] at hin hs
      clear c1 c2 d1 d2 f1 f2 p1 p2 p3 q1 q2 i1 e1 aw0 bound
      simp -implicitDefEqProofs (maxSteps := 2000000) (disch := omega) only [go_sem, condB_t, condB_f, pf0, dec_t, dec_f, and_of, ↓reduceIte, Nat.reduceEqDiff, Nat.reduceMul, Nat.reduceAdd, Nat.reduceSub, Nat.reduceLT, Nat.reduceLeDiff, Int.reduceToNat, Nat.reducePow, Int.reducePow, Int.reduceLT, Int.reduceLE, Int.reduceNeg, Int.reduceAdd, Int.reduceSub, Int.reduceMul, decide_true, decide_false, reduceCtorEq, hxx]
      exact ⟨i + 1, h0, by omega, by (refine Weak.head1w (by simp -implicitDefEqProofs (maxSteps := 2000000) (disch := omega) only [go_sem, condB_t, condB_f, pf0, dec_t, dec_f, and_of, ↓reduceIte, Nat.reduceEqDiff, Nat.reduceMul, Nat.reduceAdd, Nat.reduceSub, Nat.reduceLT, Nat.reduceLeDiff, Int.reduceToNat, Nat.reducePow, Int.reducePow, Int.reduceLT, Int.reduceLE, Int.reduceNeg, Int.reduceAdd, Int.reduceSub, Int.reduceMul, decide_true, decide_false, reduceCtorEq, hs] <;> (try rfl)) (by omega) (mapU _ _ _) (fun k0 b0 hk0 hb0 => by have hk1 : (k0 = _) = False := eq_false hk0; have hk2 := (hmen k0 b0 hb0).1; (simp -implicitDefEqProofs (maxSteps := 2000000) (disch := omega) only [go_sem, condB_t, condB_f, pf0, dec_t, dec_f, and_of, ↓reduceIte, Nat.reduceEqDiff, Nat.reduceMul, Nat.reduceAdd, Nat.reduceSub, Nat.reduceLT, Nat.reduceLeDiff, Int.reduceToNat, Nat.reducePow, Int.reducePow, Int.reduceLT, Int.reduceLE, Int.reduceNeg, Int.reduceAdd, Int.reduceSub, Int.reduceMul, decide_true, decide_false, reduceCtorEq, upd, mkH, hk1]) <;> (try (repeat rw [if_neg (by omega)])) <;> exact hb0) (by omega) hmen ?_; simp -implicitDefEqProofs (maxSteps := 2000000) (disch := omega) only [go_sem, condB_t, condB_f, pf0, dec_t, dec_f, and_of, ↓reduceIte, Nat.reduceEqDiff, Nat.reduceMul, Nat.reduceAdd, Nat.reduceSub, Nat.reduceLT, Nat.reduceLeDiff, Int.reduceToNat, Nat.reducePow, Int.reducePow, Int.reduceLT, Int.reduceLE, Int.reduceNeg, Int.reduceAdd, Int.reduceSub, Int.reduceMul, decide_true, decide_false, reduceCtorEq, AllP, AVle_same, AVle_int, AVle_nil, AVle_row, topU_int, topU_bool, topU_sl, topU_row, topU_ptr, topU_iptr, topU_fn, val, List.drop_length, hs])⟩
    · obtain rfl : i = 10 := by omega
      simp -implicitDefEqProofs (maxSteps := 2000000) (disch := omega) only [go_sem, condB_t, condB_f, pf0, dec_t, dec_f, and_of, ↓reduceIte, Nat.reduceEqDiff, Nat.reduceMul, Nat.reduceAdd, Nat.reduceSub, Nat.reduceLT, Nat.reduceLeDiff, Int.reduceToNat, Nat.reducePow, Int.reducePow, Int.reduceLT, Int.reduceLE, Int.reduceNeg, Int.reduceAdd, Int.reduceSub, Int.reduceMul, decide_true, decide_false, reduceCtorEq]
      refine callK_pure d1 ?_
      simp -implicitDefEqProofs (maxSteps := 2000000) (disch := omega) only [go_sem, condB_t, condB_f, pf0, dec_t, dec_f, and_of, ↓reduceIte, Nat.reduceEqDiff, Nat.reduceMul, Nat.reduceAdd, Nat.reduceSub, Nat.reduceLT, Nat.reduceLeDiff, Int.reduceToNat, Nat.reducePow, Int.reducePow, Int.reduceLT, Int.reduceLE, Int.reduceNeg, Int.reduceAdd, Int.reduceSub, Int.reduceMul, decide_true, decide_false, reduceCtorEq]
      refine callK_pure f1 ?_
      simp -implicitDefEqProofs (maxSteps := 2000000) (disch := omega) only [go_sem, condB_t, condB_f, pf0, dec_t, dec_f, and_of, ↓reduceIte, Nat.reduceEqDiff, Nat.reduceMul, Nat.reduceAdd, Nat.reduceSub, Nat.reduceLT, Nat.reduceLeDiff, Int.reduceToNat, Nat.reducePow, Int.reducePow, Int.reduceLT, Int.reduceLE, Int.reduceNeg, Int.reduceAdd, Int.reduceSub, Int.reduceMul, decide_true, decide_false, reduceCtorEq]
      refine callK_pure d2 ?_
      simp -implicitDefEqProofs (maxSteps := 2000000) (disch := omega) only [go_sem, condB_t, condB_f, pf0, dec_t, dec_f, and_of, ↓reduceIte, Nat.reduceEqDiff, Nat.reduceMul, Nat.reduceAdd, Nat.reduceSub, Nat.reduceLT, Nat.reduceLeDiff, Int.reduceToNat, Nat.reducePow, Int.reducePow, Int.reduceLT, Int.reduceLE, Int.reduceNeg, Int.reduceAdd, Int.reduceSub, Int.reduceMul, decide_true, decide_false, reduceCtorEq]
      refine callK_pure f2 ?_
      simp -implicitDefEqProofs (maxSteps := 2000000) (disch := omega) only [go_sem, condB_t, condB_f, pf0, dec_t, dec_f, and_of, ↓reduceIte, Nat.reduceEqDiff, Nat.reduceMul, Nat.reduceAdd, Nat.reduceSub, Nat.reduceLT, Nat.reduceLeDiff, Int.reduceToNat, Nat.reducePow, Int.reducePow, Int.reduceLT, Int.reduceLE, Int.reduceNeg, Int.reduceAdd, Int.reduceSub, Int.reduceMul, decide_true, decide_false, reduceCtorEq]
      refine callK_pure p1 ?_
      simp -implicitDefEqProofs (maxSteps := 2000000) (disch := omega) only [go_sem, condB_t, condB_f, pf0, dec_t, dec_f, and_of, ↓reduceIte, Nat.reduceEqDiff, Nat.reduceMul, Nat.reduceAdd, Nat.reduceSub, Nat.reduceLT, Nat.reduceLeDiff, Int.reduceToNat, Nat.reducePow, Int.reducePow, Int.reduceLT, Int.reduceLE, Int.reduceNeg, Int.reduceAdd, Int.reduceSub, Int.reduceMul, decide_true, decide_false, reduceCtorEq]
      refine callK_pure p2 ?_
      simp -implicitDefEqProofs (maxSteps := 2000000) (disch := omega) only [go_sem, condB_t, condB_f, pf0, dec_t, dec_f, and_of, ↓reduceIte, Nat.reduceEqDiff, Nat.reduceMul, Nat.reduceAdd, Nat.reduceSub, Nat.reduceLT, Nat.reduceLeDiff, Int.reduceToNat, Nat.reducePow, Int.reducePow, Int.reduceLT, Int.reduceLE, Int.reduceNeg, Int.reduceAdd, Int.reduceSub, Int.reduceMul, decide_true, decide_false, reduceCtorEq]
      refine callK_row2 p3 (by simp -implicitDefEqProofs (maxSteps := 2000000) (disch := omega) only [go_sem, condB_t, condB_f, pf0, dec_t, dec_f, and_of, ↓reduceIte, Nat.reduceEqDiff, Nat.reduceMul, Nat.reduceAdd, Nat.reduceSub, Nat.reduceLT, Nat.reduceLeDiff, Int.reduceToNat, Nat.reducePow, Int.reducePow, Int.reduceLT, Int.reduceLE, Int.reduceNeg, Int.reduceAdd, Int.reduceSub, Int.reduceMul, decide_true, decide_false, reduceCtorEq]) (by simp [il]) (by omega) (List.take_of_length_le (by simp [il])) (mapP _) ?_
      simp -implicitDefEqProofs (maxSteps := 2000000) (disch := omega) only [go_sem, condB_t, condB_f, pf0, dec_t, dec_f, and_of, ↓reduceIte, Nat.reduceEqDiff, Nat.reduceMul, Nat.reduceAdd, Nat.reduceSub, Nat.reduceLT, Nat.reduceLeDiff, Int.reduceToNat, Nat.reducePow, Int.reducePow, Int.reduceLT, Int.reduceLE, Int.reduceNeg, Int.reduceAdd, Int.reduceSub, Int.reduceMul, decide_true, decide_false, reduceCtorEq]
      refine callK_pure aw0 ?_
      simp -implicitDefEqProofs (maxSteps := 2000000) (disch := omega) only [go_sem, condB_t, condB_f, pf0, dec_t, dec_f, and_of, ↓reduceIte, Nat.reduceEqDiff, Nat.reduceMul, Nat.reduceAdd, Nat.reduceSub, Nat.reduceLT, Nat.reduceLeDiff, Int.reduceToNat, Nat.reducePow, Int.reducePow, Int.reduceLT, Int.reduceLE, Int.reduceNeg, Int.reduceAdd, Int.reduceSub, Int.reduceMul, decide_true, decide_false, reduceCtorEq]
      refine callK_pure q1 ?_
      simp -implicitDefEqProofs (maxSteps := 2000000) (disch := omega) only [go_sem, condB_t, condB_f, pf0, dec_t, dec_f, and_of, ↓reduceIte, Nat.reduceEqDiff, Nat.reduceMul, Nat.reduceAdd, Nat.reduceSub, Nat.reduceLT, Nat.reduceLeDiff, Int.reduceToNat, Nat.reducePow, Int.reducePow, Int.reduceLT, Int.reduceLE, Int.reduceNeg, Int.reduceAdd, Int.reduceSub, Int.reduceMul, decide_true, decide_false, reduceCtorEq]
      refine callK_pure q2 ?_
      simp -implicitDefEqProofs (maxSteps := 2000000) (disch := omega) only [go_sem, condB_t, condB_f, pf0, dec_t, dec_f, and_of, ↓reduceIte, Nat.reduceEqDiff, Nat.reduceMul, Nat.reduceAdd, Nat.reduceSub, Nat.reduceLT, Nat.reduceLeDiff, Int.reduceToNat, Nat.reducePow, Int.reducePow, Int.reduceLT, Int.reduceLE, Int.reduceNeg, Int.reduceAdd, Int.reduceSub, Int.reduceMul, decide_true, decide_false, reduceCtorEq]
      refine callK_pure e1 ?_
      simp -implicitDefEqProofs (maxSteps := 2000000) (disch := omega) only [go_sem, condB_t, condB_f, pf0, dec_t, dec_f, and_of, ↓reduceIte, Nat.reduceEqDiff, Nat.reduceMul, Nat.reduceAdd, Nat.reduceSub, Nat.reduceLT, Nat.reduceLeDiff, Int.reduceToNat, Nat.reducePow, Int.reducePow, Int.reduceLT, Int.reduceLE, Int.reduceNeg, Int.reduceAdd, Int.reduceSub, Int.reduceMul, decide_true, decide_false, reduceCtorEq]
      refine callK_pure i1 ?_
      simp -implicitDefEqProofs (maxSteps := 2000000) (disch := omega) only [go_sem, condB_t, condB_f, pf0, dec_t, dec_f, and_of, ↓reduceIte, Nat.reduceEqDiff, Nat.reduceMul, Nat.reduceAdd, Nat.reduceSub, Nat.reduceLT, Nat.reduceLeDiff, Int.reduceToNat, Nat.reducePow, Int.reducePow, Int.reduceLT, Int.reduceLE, Int.reduceNeg, Int.reduceAdd, Int.reduceSub, Int.reduceMul, decide_true, decide_false, reduceCtorEq]
      exact dn
end Go.Abs
/-! YtbLaw4: Plain laws of permuted vectors. No condition. -/
set_option linter.unusedVariables false
set_option linter.unusedSimpArgs false
set_option maxRecDepth 100000
set_option maxHeartbeats 1000000
namespace Go.Abs
open Go.Proofs
theorem canE_eq {l : List Ent} (h : ∀ e ∈ l, e.2 = canon e.2.val) : l = cE (eV l) := by
  unfold cE eV
  rw [List.map_map]
  conv => lhs; rw [← List.map_id l]
  exact List.map_congr_left fun e he => Prod.ext rfl (h e he)
theorem cE_canE (u : Vec) : ∀ e ∈ cE u, e.2 = canon e.2.val := fun e he => by
  obtain ⟨x, _, rfl⟩ := List.mem_map.1 he
  simp only [canon_val]
theorem grp_canE : ∀ (l : List Ent) (e : Ent), e.2 = canon e.2.val → (∀ x ∈ l, x.2 = canon x.2.val) → ∀ x ∈ grp e l, x.2 = canon x.2.val
  | [], e, he, _, x, hx => by
    unfold grp fin1 at hx
    split at hx
    · cases hx
    · rw [List.mem_singleton.1 hx]; exact he
  | z :: l, e, he, hl, x, hx => by
    unfold grp at hx
    split at hx
    · exact grp_canE l _ (by simp only [canon_val]) (fun y hy => hl y (List.mem_cons_of_mem _ hy)) x hx
    · rcases List.mem_append.1 hx with hx | hx
      · unfold fin1 at hx
        split at hx
        · cases hx
        · rw [List.mem_singleton.1 hx]; exact he
      · exact grp_canE l z (hl z (List.mem_cons_self ..)) (fun y hy => hl y (List.mem_cons_of_mem _ hy)) x hx
theorem srt_cE (u : Vec) : srt (cE u) = cE (vcan u) := by
  have h : ∀ e ∈ srt (cE u), e.2 = canon e.2.val := by
    unfold srt
    split
    · exact cE_canE u
    · have h2 : ∀ e ∈ isort (cE u), e.2 = canon e.2.val := fun e he => cE_canE u e ((isort_perm _).mem_iff.1 he)
      generalize isort (cE u) = s at h2
      cases s with
      | nil => exact nofun
      | cons z s => exact grp_canE s z (h2 z (List.mem_cons_self ..)) fun y hy => h2 y (List.mem_cons_of_mem _ hy)
  rw [canE_eq h, srt_val, eV_cE]
def pq (p : List Int) (e : Int × Rat) : Int × Rat := (p.getD e.1.toNat 0, e.2)
theorem pmv_cE (p : List Int) (u : Vec) : (cE u).map (pmv p) = cE (u.map (pq p)) := by
  unfold cE; rw [List.map_map, List.map_map]; rfl
theorem pmOut_eq {p : List Int} {v : Vec} (h : PmOk p v) : pmOut p v = cE (vcan (v.map (pq p))) := by
  unfold pmOut; rw [if_pos h, pmv_cE, srt_cE]
/-- The canonical vector of n numbers. -/
def dV (g : Nat → Rat) (n : Nat) : Vec := (List.range n).filterMap fun (i : Nat) => if g i = 0 then none else some ((i : Int), g i)
theorem dV_succ (g : Nat → Rat) (n : Nat) : dV g (n + 1) = dV g n ++ (if g n = 0 then [] else [((n : Int), g n)]) := by
  unfold dV; rw [List.range_succ, List.filterMap_append]; by_cases h : g n = 0 <;> simp [h]
theorem dV_mem {g : Nat → Rat} {n : Nat} {e : Int × Rat} (h : e ∈ dV g n) : ∃ i : Nat, i < n ∧ g i ≠ 0 ∧ e = ((i : Int), g i) := by
  obtain ⟨i, hi, he⟩ := List.mem_filterMap.1 h
  split at he
  · cases he
  · exact ⟨i, List.mem_range.1 hi, ‹_›, (Option.some.inj he).symm⟩
theorem dV_can (g : Nat → Rat) (n : Nat) : Can (dV g n) := by
  induction n with
  | zero => exact ⟨.nil, nofun⟩
  | succ n ih =>
    rw [dV_succ]
    refine ⟨?_, fun e he => ?_⟩
    · refine List.pairwise_append.2 ⟨ih.asc, by split <;> simp, fun x hx y hy => ?_⟩
      obtain ⟨i, hi, _, rfl⟩ := dV_mem hx
      split at hy
      · cases hy
      · rw [List.mem_singleton.1 hy]; exact Int.ofNat_lt.2 hi
    · rcases List.mem_append.1 he with he | he
      · exact ih.nz e he
      · split at he
        · cases he
        · rw [List.mem_singleton.1 he]; assumption
theorem dV_len (g : Nat → Rat) (n : Nat) : (dV g n).length ≤ n := by unfold dV; exact Nat.le_trans (List.length_filterMap_le _ _) (by simp)
theorem dV_get (g : Nat → Rat) (n : Nat) (j : Nat) (hj : j < n) : vget (dV g n) j = g j := by
  induction n with
  | zero => omega
  | succ n ih =>
    rw [dV_succ, vget_append]
    rcases Nat.lt_or_ge j n with h | h
    · rw [ih h, vget_out (v := if g n = 0 then [] else [((n : Int), g n)]) (fun e he => by
        split at he
        · cases he
        · rw [List.mem_singleton.1 he]; simp only; omega)]
      grind
    · obtain rfl : j = n := by omega
      rw [vget_out (v := dV g j) (fun e he => by obtain ⟨i, hi, _, rfl⟩ := dV_mem he; simp only; omega)]
      split
      · rename_i h0; rw [h0]; simp only [vget]; grind
      · simp [vget]; grind
theorem fD_snoc (l : List Raw) (x : Raw) : fD (l ++ [x]) = fD l ++ (if x.val = 0 then [] else [((l.length : Int), canon x.val)]) := by
  unfold fD
  rw [List.zipIdx_append, List.filterMap_append]
  by_cases h : x.val = 0 <;> simp [h]
theorem fD_dnL (a : List Ent) (n : Nat) : fD (dnL a n) = cE (dV (fun (i : Nat) => vget (eV (shL a)) i) n) := by
  induction n with
  | zero => rfl
  | succ n ih =>
    have e : dnL a (n + 1) = dnL a n ++ [canon (vget (eV (shL a)) n)] := by unfold dnL; rw [List.range_succ, List.map_append]; rfl
    rw [e, fD_snoc, ih, dV_succ, dnL_len, canon_val]
    by_cases h : vget (eV (shL a)) n = 0
    · simp [h]
    · simp [h, cE]
end Go.Abs
/-! YtbLaw5: Plain laws: sums over vectors, inner products. No condition. -/
set_option linter.unusedVariables false
set_option linter.unusedSimpArgs false
set_option maxRecDepth 100000
set_option maxHeartbeats 1000000
namespace Go.Abs
open Go.Proofs
def sumV (f : Int → Rat) : Vec → Rat
  | [] => 0
  | e :: v => e.2 * f e.1 + sumV f v
theorem sumV_vins (f : Int → Rat) (i : Int) (q : Rat) : ∀ v : Vec, sumV f (vins i q v) = q * f i + sumV f v
  | [] => by
    unfold vins
    split
    · rename_i h; subst h; simp only [sumV]; grind
    · simp only [sumV]
  | e :: v => by
    have ih := sumV_vins f i q v
    unfold vins
    split
    · split
      · rename_i h; subst h; simp only [sumV]; grind
      · simp only [sumV]
    · split
      · rename_i h
        split
        · rename_i h2; simp only [sumV]; rw [h]; have : q = -e.2 := by grind
          rw [this]; grind
        · simp only [sumV]; rw [h]; grind
      · simp only [sumV]; rw [ih]; grind
theorem sumV_vcan (f : Int → Rat) (v : Vec) : sumV f (vcan v) = sumV f v := by
  induction v with
  | nil => rfl
  | cons e v ih =>
    have : vcan (e :: v) = vins e.1 e.2 (vcan v) := rfl
    rw [this, sumV_vins, ih]; rfl
theorem sumV_congr {f g : Int → Rat} {v : Vec} (h : ∀ e ∈ v, f e.1 = g e.1) : sumV f v = sumV g v := by
  induction v with
  | nil => rfl
  | cons e v ih =>
    simp only [sumV]
    rw [h e (List.mem_cons_self ..), ih fun x hx => h x (List.mem_cons_of_mem _ hx)]
theorem sumV_zero {f : Int → Rat} {v : Vec} (h : ∀ e ∈ v, f e.1 = 0) : sumV f v = 0 := by
  induction v with
  | nil => rfl
  | cons e v ih =>
    simp only [sumV]
    rw [h e (List.mem_cons_self ..), ih fun x hx => h x (List.mem_cons_of_mem _ hx)]; grind
theorem sumV_map (f : Int → Rat) (p : List Int) (v : Vec) : sumV f (v.map (pq p)) = sumV (fun i => f (p.getD i.toNat 0)) v := by
  induction v with
  | nil => rfl
  | cons e v ih => simp only [List.map_cons, sumV, ih]; rfl
theorem Can.lt {e : Int × Rat} {v : Vec} (h : Can (e :: v)) : ∀ x ∈ v, e.1 < x.1 := (List.pairwise_cons.1 h.asc).1
theorem dotM_eq : ∀ (x y : Vec), Can x → Can y → dotM x y = sumV (vget y) x
  | [], y, _, _ => by rw [dotM]; rfl
  | a :: x, [], _, _ => by rw [dotM]; exact (sumV_zero fun _ _ => rfl).symm
  | a :: x, b :: y, hx, hy => by
    rw [dotM]
    split
    · rename_i h
      rw [dotM_eq x (b :: y) hx.tail hy]
      have h0 : vget (b :: y) a.1 = 0 := vget_out fun e he => by
        rcases List.mem_cons.1 he with rfl | he
        · omega
        · have := hy.lt e he; omega
      simp only [sumV]; rw [h0]; grind
    · split
      · rename_i h1 h
        rw [dotM_eq (a :: x) y hx hy.tail]
        refine sumV_congr fun e he => ?_
        have : b.1 < e.1 := by
          rcases List.mem_cons.1 he with rfl | he
          · exact h
          · have := hx.lt e he; omega
        simp only [vget]; rw [if_neg (by omega)]; grind
      · rename_i h1 h2
        have e1 : a.1 = b.1 := by omega
        rw [dotM_eq x y hx.tail hy.tail]
        simp only [sumV]
        rw [e1, hy.head_get]
        have : sumV (vget (b :: y)) x = sumV (vget y) x := sumV_congr fun e he => by
          have := hx.lt e he
          simp only [vget]; rw [if_neg (by omega)]; grind
        rw [this]
termination_by x y => x.length + y.length
theorem vget_sz {l : Vec} {k : Nat} (h : ∀ e ∈ l, Sz e.2 k) (j : Int) : Sz (vget l j) (1 + l.length * (k + 1)) := by
  induction l with
  | nil => exact sz_zero (by omega)
  | cons e l ih =>
    have ih := ih fun x hx => h x (List.mem_cons_of_mem _ hx)
    have h9 : (l.length + 1) * (k + 1) = l.length * (k + 1) + (k + 1) := Nat.succ_mul _ _
    simp only [vget, List.length_cons]
    split
    · exact ((h e (List.mem_cons_self ..)).add ih).mono (by omega)
    · rw [show (0 : Rat) + vget l j = vget l j by grind]; exact ih.mono (by omega)
theorem sumV_sz {f : Int → Rat} {l : Vec} {k : Nat} (h : ∀ e ∈ l, Sz e.2 k) (hf : ∀ e ∈ l, Sz (f e.1) k) : Sz (sumV f l) (1 + l.length * (k + k + 1)) := by
  induction l with
  | nil => exact sz_zero (by omega)
  | cons e l ih =>
    have ih := ih (fun x hx => h x (List.mem_cons_of_mem _ hx)) (fun x hx => hf x (List.mem_cons_of_mem _ hx))
    have h9 : (l.length + 1) * (k + k + 1) = l.length * (k + k + 1) + (k + k + 1) := Nat.succ_mul _ _
    simp only [sumV, List.length_cons]
    exact (((h e (List.mem_cons_self ..)).mul (hf e (List.mem_cons_self ..))).add ih).mono (by omega)
theorem vcan_len (u : Vec) : (vcan u).length ≤ u.length := by
  have h := srt_len (cE u)
  rw [srt_cE, cE_len, cE_len] at h
  exact h
theorem can_mem_get : ∀ {v : Vec}, Can v → ∀ e ∈ v, vget v e.1 = e.2
  | a :: v, h, e, he => by
    rcases List.mem_cons.1 he with rfl | he
    · exact h.head_get
    · have := h.lt e he
      simp only [vget]; rw [if_neg (by omega), can_mem_get h.tail e he]; grind
end Go.Abs
/-! YtbLaw6: Plain laws: permutations and their inverses. No condition. -/
set_option linter.unusedVariables false
set_option linter.unusedSimpArgs false
set_option maxRecDepth 100000
set_option maxHeartbeats 1000000
namespace Go.Abs
open Go.Proofs
structure PermN (p : List Int) (n : Nat) : Prop where
  len : p.length = n
  rng : ∀ i, i < n → 0 ≤ p.getD i 0 ∧ p.getD i 0 < n
  inj : ∀ i j, i < n → j < n → p.getD i 0 = p.getD j 0 → i = j
  sur : ∀ k : Nat, k < n → ∃ i, i < n ∧ p.getD i 0 = k
theorem getD_at {p : List Int} {i : Nat} (h : i < p.length) : p.getD i 0 = p[i] := by rw [List.getD_eq_getElem?_getD, List.getElem?_eq_getElem h]; rfl
theorem permN_of {p : List Int} {n : Nat} (h : p.Perm ((List.range n).map fun (j : Nat) => (j : Int))) : PermN p n := by
  have hl : p.length = n := by rw [h.length_eq]; simp
  have hnd : p.Nodup := h.symm.nodup (List.pairwise_map.2 (List.nodup_range.imp fun h e => h (by omega)))
  refine ⟨hl, fun i hi => ?_, fun i j hi hj e => ?_, fun k hk => ?_⟩
  · rw [getD_at (by omega)]
    obtain ⟨k, hk, e⟩ := List.mem_map.1 (h.mem_iff.1 (List.getElem_mem (by omega : i < p.length)))
    have := List.mem_range.1 hk
    omega
  · rw [getD_at (by omega), getD_at (by omega)] at e
    rcases Nat.lt_trichotomy i j with g | g | g
    · exact absurd e (List.pairwise_iff_getElem.1 hnd i j (by omega) (by omega) g)
    · exact g
    · exact absurd e.symm (List.pairwise_iff_getElem.1 hnd j i (by omega) (by omega) g)
  · obtain ⟨i, hi, e⟩ := List.mem_iff_getElem.1 (h.mem_iff.2 (List.mem_map.2 ⟨k, List.mem_range.2 hk, rfl⟩))
    exact ⟨i, by omega, by rw [getD_at hi]; exact e⟩
theorem PermN.permL {p : List Int} {n : Nat} (h : PermN p n) : PermL p := by
  refine ⟨fun x hx => ?_, List.pairwise_iff_getElem.2 fun i j hi hj g e => ?_⟩
  · obtain ⟨i, hi, rfl⟩ := List.mem_iff_getElem.1 hx
    have := h.rng i (by have := h.len; omega)
    rw [getD_at hi] at this
    rw [h.len]; exact this
  · have hl := h.len
    have := h.inj i j (by omega) (by omega) (by rw [getD_at hi, getD_at hj]; exact e)
    omega
theorem invF_get {p : List Int} (hp : PermN p 10) : ∀ k, k ≤ 10 → ∀ i, i < k → (invF p k).getD (p.getD i 0).toNat 0 = i
  | 0, _, i, hi => by omega
  | k + 1, hk, i, hi => by
    have r1 := hp.rng i (by omega)
    have r2 := hp.rng k (by omega)
    have il := invF_len p k
    unfold invF
    rw [List.getD_eq_getElem?_getD, List.getElem?_set]
    by_cases e : i = k
    · subst e; rw [if_pos rfl, if_pos (by omega)]; rfl
    · have hne : ¬ (p.getD k 0).toNat = (p.getD i 0).toNat := fun h => e (hp.inj i k (by omega) (by omega) (by omega))
      rw [if_neg hne, ← List.getD_eq_getElem?_getD]
      exact invF_get hp k (by omega) i (by omega)
theorem inv_at {p : List Int} (hp : PermN p 10) {i : Nat} (hi : i < 10) : (invF p 10).getD (p.getD i 0).toNat 0 = i := invF_get hp 10 (Nat.le_refl _) i hi
theorem permN_inv {p : List Int} (hp : PermN p 10) : PermN (invF p 10) 10 := by
  refine ⟨invF_len p 10, fun i hi => ?_, fun i j hi hj e => ?_, fun k hk => ?_⟩
  · obtain ⟨a, ha, e⟩ := hp.sur i hi
    have := inv_at hp ha
    rw [e, Int.toNat_natCast] at this
    rw [this]; omega
  · obtain ⟨a, ha, ea⟩ := hp.sur i hi
    obtain ⟨b, hb, eb⟩ := hp.sur j hj
    have h1 := inv_at hp ha
    have h2 := inv_at hp hb
    rw [ea, Int.toNat_natCast] at h1
    rw [eb, Int.toNat_natCast] at h2
    rw [h1, h2] at e
    have : a = b := by omega
    subst this; rw [ea] at eb; omega
  · have := hp.rng k hk
    exact ⟨(p.getD k 0).toNat, by omega, inv_at hp hk⟩
theorem vget_pq {p : List Int} {n : Nat} (hp : PermN p n) {j : Nat} (hj : j < n) : ∀ {v : Vec}, (∀ e ∈ v, 0 ≤ e.1 ∧ e.1 < n) → vget (v.map (pq p)) (p.getD j 0) = vget v j
  | [], _ => rfl
  | e :: v, hv => by
    have h0 := hv e (List.mem_cons_self ..)
    have ih := vget_pq hp hj (v := v) fun x hx => hv x (List.mem_cons_of_mem _ hx)
    simp only [List.map_cons, vget]
    rw [ih]
    by_cases e1 : e.1 = j
    · rw [if_pos e1, if_pos (by unfold pq; simp only; rw [e1, Int.toNat_natCast])]; rfl
    · rw [if_neg e1, if_neg fun h => e1 (by
        have := hp.inj e.1.toNat j (by omega) hj h
        omega)]
theorem pq_rng {p : List Int} {n : Nat} (hp : PermN p n) {v : Vec} (hv : ∀ e ∈ v, 0 ≤ e.1 ∧ e.1 < n) : ∀ e ∈ v.map (pq p), 0 ≤ e.1 ∧ e.1 < n := fun e he => by
  obtain ⟨x, hx, rfl⟩ := List.mem_map.1 he
  have := hv x hx
  exact hp.rng _ (by omega)
theorem vcan_rng {n : Nat} {u : Vec} (h : ∀ e ∈ u, 0 ≤ e.1 ∧ e.1 < n) : ∀ e ∈ vcan u, 0 ≤ e.1 ∧ e.1 < n := fun e he => by
  have hc := vcan_can u
  have h1 := can_mem_get hc e he
  rw [vcan_get] at h1
  have h2 := hc.nz e he
  by_cases hx : ∃ x ∈ u, x.1 = e.1
  · obtain ⟨x, hx, e1⟩ := hx
    rw [← e1]; exact h x hx
  · exact absurd (by rw [← h1]; exact vget_out fun x hx' e1 => hx ⟨x, hx', e1⟩) h2
theorem pq_back {p : List Int} (hp : PermN p 10) {v : Vec} (hc : Can v) (hv : ∀ e ∈ v, 0 ≤ e.1 ∧ e.1 < 10) : vcan ((vcan (v.map (pq p))).map (pq (invF p 10))) = v := by
  have hq := permN_inv hp
  have hx := vcan_rng (n := 10) (pq_rng hp hv)
  refine can_unique (vcan_can _) hc fun i => ?_
  rw [vcan_get]
  by_cases hi : 0 ≤ i ∧ i < 10
  · obtain ⟨j, rfl⟩ : ∃ j : Nat, i = j := ⟨i.toNat, by omega⟩
    have hj : j < 10 := by omega
    have r := hp.rng j hj
    have h1 := vget_pq hq (j := (p.getD j 0).toNat) (by omega) hx
    rw [inv_at hp hj, vcan_get, Int.toNat_of_nonneg r.1, vget_pq hp hj hv] at h1
    exact h1
  · rw [vget_out fun e he e1 => hi (by have := pq_rng hq hx e he; omega), vget_out fun e he e1 => hi (by have := hv e he; omega)]
theorem iso_spec (a b : List Ent) (t : List Int) (k : Nat) (ha : OkL a k) (hb : OkL b k) (hk1 : 1 ≤ k) (hk : k ≤ 1100000) (hla : a.length ≤ 1099511627776) (hlb : b.length ≤ 1099511627776) (hlt : t.length ≤ 1099511627776) :
    PDet Try.prog 7 [EL a, EL b, IL t] (.bool true) := by
  have hp := permN_of (permT_perm t 0 10)
  have hq := permN_inv hp
  have gs : ∀ l : List Ent, OkL l k → ∀ j : Int, Sz (vget (eV (shL l)) j) (1 + 40 * (k + 1)) := fun l hl j => by
    have h2 : OkL (shL l) k := fun e he => by
      obtain ⟨x, hx, rfl⟩ := List.mem_map.1 he
      exact hl x (List.mem_of_mem_take hx)
    refine (vget_sz (eV_sz h2 hk1) j).mono (Nat.add_le_add_left (Nat.mul_le_mul_right _ ?_) _)
    rw [eV_len, shL_len]; omega
  have dr : ∀ g : Nat → Rat, ∀ e ∈ dV g 10, 0 ≤ e.1 ∧ e.1 < 10 := fun g e he => by
    obtain ⟨i, hi, _, rfl⟩ := dV_mem he
    simp only; omega
  have ds : ∀ l : List Ent, OkL l k → ∀ e ∈ dV (fun (i : Nat) => vget (eV (shL l)) i) 10, Sz e.2 (1 + 40 * (k + 1)) := fun l hl e he => by
    obtain ⟨i, hi, _, rfl⟩ := dV_mem he
    exact gs l hl i
  have dk : ∀ l : List Ent, OkL l k → ∀ i, i < (dnL l 10).length → ((dnL l 10).getD i default).Ok 1099511627776 := fun l hl i hi => by
    rw [dnL_len] at hi
    have : (dnL l 10).getD i default = canon (vget (eV (shL l)) i) := by
      unfold dnL
      rw [List.getD_eq_getElem?_getD, List.getElem?_map, List.getElem?_range hi]; rfl
    rw [this]
    exact canon_ok ((gs l hl i).mono (by omega))
  have ok : ∀ g : Nat → Rat, PmOk (permT t 0 10) (dV g 10) := fun g => ⟨hp.permL, by rw [hp.len]; exact dr g⟩
  have hx : ∀ g : Nat → Rat, ∀ e ∈ vcan ((dV g 10).map (pq (permT t 0 10))), 0 ≤ e.1 ∧ e.1 < 10 := fun g => vcan_rng (n := 10) (pq_rng hp (dr g))
  have lx : ∀ g : Nat → Rat, (vcan ((dV g 10).map (pq (permT t 0 10)))).length ≤ 10 := fun g => Nat.le_trans (vcan_len _) (by rw [List.length_map]; exact dV_len g 10)
  have sx : ∀ l : List Ent, OkL l k → ∀ e ∈ vcan ((dV (fun (i : Nat) => vget (eV (shL l)) i) 10).map (pq (permT t 0 10))), Sz e.2 (1 + 40 * (k + 1)) := fun l hl e he => by
    have h1 := can_mem_get (vcan_can _) e he
    have h2 := hx _ e he
    obtain ⟨j, hj, e2⟩ := hp.sur e.1.toNat (by omega)
    rw [Int.toNat_of_nonneg h2.1] at e2
    rw [vcan_get, ← e2, vget_pq hp hj (dr _), dV_get _ _ _ hj] at h1
    rw [← h1]
    exact gs l hl j
  have o3 : ∀ g : Nat → Rat, PmOk (invF (permT t 0 10) 10) (vcan ((dV g 10).map (pq (permT t 0 10)))) := fun g => ⟨hq.permL, by rw [hq.len]; exact hx g⟩
  have fv : ∀ g : Nat → Rat, Sz (0 : Rat) 1 := fun _ => sz_zero (Nat.le_refl _)
  refine iso_walk a b t k (1 + 40 * (k + 1)) ha hb hk1 hk hla hlb hlt _ rfl (fun x hx => by have := (hp.permL).1 x hx; rw [hp.len] at this; exact this) _ _ (fD_dnL a 10) (fD_dnL b 10) (dV_can _ _) (dV_can _ _) (dV_len _ _) (dV_len _ _)
    (ds a ha) (ds b hb) (by omega) (by omega) (ok _) (ok _) _ _ (pmOut_eq (ok _)) (pmOut_eq (ok _)) (vcan_can _) (vcan_can _) (lx _) (lx _) (sx a ha) (sx b hb) (o3 _) ?_ ?_ ?_ (dk a ha) (dk b hb)
  · rw [pmOut_eq (o3 _), pq_back hp (dV_can _ _) (dr _)]
  · rw [dotM_eq _ _ (vcan_can _) (vcan_can _), dotM_eq _ _ (dV_can _ _) (dV_can _ _), sumV_vcan, sumV_map]
    refine sumV_congr fun e he => ?_
    have h := dr _ e he
    obtain ⟨j, hj⟩ : ∃ j : Nat, e.1 = j := ⟨e.1.toNat, by omega⟩
    rw [hj, Int.toNat_natCast, vcan_get, vget_pq hp (by omega) (dr _)]
  · rw [dotM_eq _ _ (dV_can _ _) (dV_can _ _)]
    refine (sumV_sz (ds a ha) fun e he => ?_).mono (k := 1 + _ * (1 + 40 * (k + 1) + (1 + 40 * (k + 1)) + 1)) ?_
    · have h := dr _ e he
      obtain ⟨j, hj⟩ : ∃ j : Nat, e.1 = j := ⟨e.1.toNat, by omega⟩
      rw [hj, dV_get _ _ _ (by omega)]
      exact gs b hb j
    · have := Nat.mul_le_mul_right (1 + 40 * (k + 1) + (1 + 40 * (k + 1)) + 1) (dV_len (fun (i : Nat) => vget (eV (shL a)) i) 10)
      omega
end Go.Abs
/-! YtbFin1: How the laws' arguments read; the bulk. No condition. -/
set_option linter.unusedVariables false
set_option linter.unusedSimpArgs false
set_option maxRecDepth 100000
set_option maxHeartbeats 1000000
namespace Go.Abs
open Go.Proofs
open Go.Proofs.Ytbeajnfghfgmnaa Go.RowKit Go.ChangeShapes Go.WideShapes
theorem bulkAll {H : Type} (l : List (DataW H)) : Rows.uptoBulkAll l = (l.map Rows.uptoBulk).sum := by
  induction l with
  | nil => rw [Rows.uptoBulkAll]; rfl
  | cons d l ih => rw [Rows.uptoBulkAll, ih]; rfl
theorem measB : Meas (@Rows.uptoBulk) where
  pos := fun d => by cases d <;> (try rename_i x; cases x) <;> unfold Rows.uptoBulk <;> omega
  slice := fun e s => by rw [Rows.uptoBulk, ← bulkAll]; omega
  agg := fun p => by rw [Rows.uptoBulk, ← bulkAll]; omega
theorem u3 : Try.prog.underlying 3 = some (.int .i64) := by kernel_rfl
theorem u4 : Try.prog.underlying 4 = some .bool := by kernel_rfl
theorem u22 : Try.prog.underlying 22 = some (.slice 3) := by kernel_rfl
theorem u45 : Try.prog.underlying 45 = some (.slice 78) := by kernel_rfl
def fieldsOf (P : Program) (t : TypeId) : Option (List (TypeId × Nat)) :=
  match P.underlying t with
  | some (.struct fs) => some (fs.toList.map fun f => (f.type, f.offset))
  | _ => none
theorem fieldsOf_two {P : Program} {t a b o p : Nat} (h : fieldsOf P t = some [(a, o), (b, p)]) : ∃ f0 f1 : Field, P.underlying t = some (.struct #[f0, f1]) ∧ f0.type = a ∧ f0.offset = o ∧ f1.type = b ∧ f1.offset = p := by
  unfold fieldsOf at h
  split at h
  · rename_i fs hu
    obtain ⟨l⟩ := fs
    injection h with h
    match l, h with
    | [f0, f1], h =>
      simp only [List.map_cons, List.map_nil, List.cons.injEq, Prod.mk.injEq, and_true] at h
      exact ⟨f0, f1, hu, h.1.1, h.1.2, h.2.1, h.2.2⟩
  · cases h
theorem rd_two {P : Program} {t a b : Nat} {A B : Type} {c0 : A → List AV} {c1 : B → List AV} {s0 : A → Nat} {s1 : B → Nat} {ok0 : A → Prop} {ok1 : B → Prop} {μ : ∀ {H : Type}, DataW H → Nat} (hμ : Meas μ) (hf : fieldsOf P t = some [(a, 0), (b, P.cellsOf a)]) (hsz : P.cellsOf t = P.cellsOf a + P.cellsOf b)
    (h0 : Rd μ P a c0 s0 ok0) (h1 : Rd μ P b c1 s1 ok1) : Rd μ P t (A := A × B) (fun x => c0 x.1 ++ c1 x.2) (fun x => s0 x.1 + s1 x.2 + 1) (fun x => ok0 x.1 ∧ ok1 x.2) := by
  obtain ⟨f0, f1, hu, rfl, o0, rfl, o1⟩ := fieldsOf_two hf
  exact Rd.struct2 hμ hu h0 h1 o0 o1 hsz
theorem f54 : fieldsOf Try.prog 54 = some [(4, 0), (52, Try.prog.cellsOf 4)] := by kernel_rfl
theorem f56 : fieldsOf Try.prog 56 = some [(54, 0), (52, Try.prog.cellsOf 54)] := by kernel_rfl
theorem f78 : fieldsOf Try.prog 78 = some [(3, 0), (56, Try.prog.cellsOf 3)] := by kernel_rfl
theorem s54 : Try.prog.cellsOf 54 = Try.prog.cellsOf 4 + Try.prog.cellsOf 52 := by kernel_rfl
theorem s56 : Try.prog.cellsOf 56 = Try.prog.cellsOf 54 + Try.prog.cellsOf 52 := by kernel_rfl
theorem s78 : Try.prog.cellsOf 78 = Try.prog.cellsOf 3 + Try.prog.cellsOf 56 := by kernel_rfl
theorem z78 : Try.prog.cellsOf 78 = 4 := by kernel_rfl
theorem u52 : Try.prog.underlying 52 = some (.slice 127) := by kernel_rfl
theorem u127 : Try.prog.underlying 127 = some (.int .u32) := by kernel_rfl
theorem z127 : Try.prog.cellsOf 127 = 1 := by kernel_rfl
theorem z3 : Try.prog.cellsOf 3 = 1 := by kernel_rfl
abbrev REnt := Int × ((Bool × List Nat) × List Nat)
def toE (x : REnt) : Ent := (x.1, ⟨x.2.1.1, x.2.1.2, x.2.2⟩)
def okN (l : List Nat) : Prop := (∀ n ∈ l, (n : Int) ≤ IntKind.u32.max) ∧ l.length ≤ maxLen
theorem rd52 : Rd (@Rows.uptoBulk) Try.prog 52 (A := List Nat) (fun l => [.sl 1 (l.map fun (n : Nat) => [AV.int .u32 (n : Int)])]) (fun l => (l.map fun _ => 1).sum + 1) okN := Rd.slice measB u52 (Rd.nat measB u127 rfl) z127 (by decide)
theorem rd78 : Rd (@Rows.uptoBulk) Try.prog 78 (A := REnt) (fun x => [AV.int .i64 x.1] ++ ([AV.bool x.2.1.1] ++ [AV.sl 1 (x.2.1.2.map fun (n : Nat) => [AV.int .u32 (n : Int)])] ++ [AV.sl 1 (x.2.2.map fun (n : Nat) => [AV.int .u32 (n : Int)])]))
    (fun x => 1 + ((1 + ((x.2.1.2.map fun _ => 1).sum + 1) + 1) + ((x.2.2.map fun _ => 1).sum + 1) + 1) + 1) (fun x => (IntKind.i64.min ≤ x.1 ∧ x.1 ≤ IntKind.i64.max) ∧ (True ∧ okN x.2.1.2) ∧ okN x.2.2) :=
  rd_two measB f78 s78 (Rd.int measB u3) (rd_two measB f56 s56 (rd_two measB f54 s54 (Rd.bool measB u4) rd52) rd52)
theorem rd45 : Rd (@Rows.uptoBulk) Try.prog 45 (A := List REnt) (fun l => [.sl 4 (l.map fun x => [AV.int .i64 x.1] ++ ([AV.bool x.2.1.1] ++ [AV.sl 1 (x.2.1.2.map fun (n : Nat) => [AV.int .u32 (n : Int)])] ++ [AV.sl 1 (x.2.2.map fun (n : Nat) => [AV.int .u32 (n : Int)])]))])
    (fun l => (l.map fun x => 1 + ((1 + ((x.2.1.2.map fun _ => 1).sum + 1) + 1) + ((x.2.2.map fun _ => 1).sum + 1) + 1) + 1).sum + 1) (fun l => (∀ x ∈ l, (IntKind.i64.min ≤ x.1 ∧ x.1 ≤ IntKind.i64.max) ∧ (True ∧ okN x.2.1.2) ∧ okN x.2.2) ∧ l.length ≤ maxLen) := Rd.slice measB u45 rd78 z78 (by decide)
theorem rd22 : Rd (@Rows.uptoBulk) Try.prog 22 (A := List Int) (fun l => [.sl 1 (l.map fun n => [AV.int .i64 n])]) (fun l => (l.map fun _ => 1).sum + 1) (fun l => (∀ n ∈ l, IntKind.i64.min ≤ n ∧ n ≤ IntKind.i64.max) ∧ l.length ≤ maxLen) := Rd.slice measB u22 (Rd.int measB u3) z3 (by decide)
theorem own0 : ownKnob Try.prog.godebug = none := by kernel_rfl
theorem laidOut0 : laidOutB Try.prog = true := by kernel_rfl
theorem read45 : Try.prog.readableRec 45 = true ∧ 45 < Try.prog.types.size := ⟨by kernel_rfl, of_decide_eq_true (by kernel_rfl)⟩
theorem read22 : Try.prog.readableRec 22 = true ∧ 22 < Try.prog.types.size := ⟨by kernel_rfl, of_decide_eq_true (by kernel_rfl)⟩
theorem bulk_cons {H : Type} {d : DataW H} {l : List (DataW H)} : Rows.uptoBulkAll (d :: l) = Rows.uptoBulk d + Rows.uptoBulkAll l := by rw [Rows.uptoBulkAll]
theorem bulk_app {H : Type} (l r : List (DataW H)) : Rows.uptoBulkAll (l ++ r) = Rows.uptoBulkAll l + Rows.uptoBulkAll r := by
  rw [bulkAll, bulkAll, bulkAll, List.map_append, List.sum_append]
theorem le_sum {α : Type} (f : α → Nat) {l : List α} {a : α} (h : a ∈ l) : f a ≤ (l.map f).sum := by
  induction l with
  | nil => cases h
  | cons x l ih =>
    rw [List.map_cons, List.sum_cons]
    rcases List.mem_cons.1 h with rfl | h
    · omega
    · have := ih h; omega
theorem len_le_sum {α : Type} (f : α → Nat) (hf : ∀ a, 1 ≤ f a) (l : List α) : l.length ≤ (l.map f).sum := by
  induction l with
  | nil => exact Nat.zero_le _
  | cons x l ih => have := hf x; rw [List.map_cons, List.sum_cons, List.length_cons]; omega
theorem ones_sum {α : Type} (l : List α) : (l.map fun _ => 1).sum = l.length := by
  induction l with
  | nil => rfl
  | cons x l ih => rw [List.map_cons, List.sum_cons, List.length_cons, ih]; omega
/-- A list of entries, out of what is read. -/
theorem arg45 {H : Type} {enc : TypeId × Value → H} {W : World} {base : Nat} {v : Value} {d : DataW H} {p : List MemPlace} (h : DataW.Trod enc Try.prog W 0 (fun _ => true) true 45 v d p) (hv : Value.okWide Try.prog W .any base 45 v) :
    ∃ l : List Ent, RTop (cfg0 W) v (EL l) ∧ topU (fun _ => False) (EL l) ∧ OkL l (Rows.uptoBulk d) ∧ l.length ≤ Rows.uptoBulk d := by
  obtain ⟨l, _, h2, h3, h4, h5⟩ := arg_one rd45 u45 rfl h hv
  refine ⟨l.map toE, ?_, ?_, fun e he => ?_, ?_⟩
  · have e : EL (l.map toE) = .sl 4 (l.map fun x => [AV.int .i64 x.1] ++ ([AV.bool x.2.1.1] ++ [AV.sl 1 (x.2.1.2.map fun (n : Nat) => [AV.int .u32 (n : Int)])] ++ [AV.sl 1 (x.2.2.map fun (n : Nat) => [AV.int .u32 (n : Int)])])) := by
      unfold EL; rw [List.map_map]; rfl
    rw [e]; exact h2
  · trivial
  · obtain ⟨x, hx, rfl⟩ := List.mem_map.1 he
    obtain ⟨k1, ⟨⟨_, k2, k3⟩, k4, k5⟩⟩ := h5.1 x hx
    have hs := Nat.le_trans (le_sum (fun x : REnt => 1 + ((1 + ((x.2.1.2.map fun _ => 1).sum + 1) + 1) + ((x.2.2.map fun _ => 1).sum + 1) + 1) + 1) hx) (Nat.le_of_succ_le h4)
    simp only [ones_sum] at hs
    have e32 : IntKind.u32.max = 4294967295 := rfl
    exact ⟨fun n hn => by have := k2 n hn; omega, fun n hn => by have := k4 n hn; omega, by show x.2.1.2.length ≤ _; omega, by show x.2.2.length ≤ _; omega⟩
  · rw [List.length_map]
    exact Nat.le_trans (len_le_sum (fun x : REnt => 1 + ((1 + ((x.2.1.2.map fun _ => 1).sum + 1) + 1) + ((x.2.2.map fun _ => 1).sum + 1) + 1) + 1) (fun a => by omega) l) (by omega)
theorem arg22 {H : Type} {enc : TypeId × Value → H} {W : World} {base : Nat} {v : Value} {d : DataW H} {p : List MemPlace} (h : DataW.Trod enc Try.prog W 0 (fun _ => true) true 22 v d p) (hv : Value.okWide Try.prog W .any base 22 v) :
    ∃ l : List Int, RTop (cfg0 W) v (IL l) ∧ topU (fun _ => False) (IL l) ∧ (∀ n ∈ l, -9223372036854775808 ≤ n ∧ n ≤ 9223372036854775807) ∧ l.length ≤ Rows.uptoBulk d := by
  obtain ⟨l, _, h2, h3, h4, h5⟩ := arg_one rd22 u22 rfl h hv
  refine ⟨l, h2, trivial, fun n hn => ?_, ?_⟩
  · exact h5.1 n hn
  · simp only [ones_sum] at h4; omega
end Go.Abs
