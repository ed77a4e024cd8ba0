/- Contracts and rules that the claim's text uses: YtbRef2; YtbRef3; YtbRef4; YtbVec1; YtbVec2; YtbSrt1; YtbSrt2. No condition. -/
import Derived.Test.YtbeajnfghfgmnaaTC
/-! YtbRef2: The reference of the first layer: products, binary digits, binary division. No condition. -/
set_option linter.unusedVariables false
set_option linter.unusedSimpArgs false
set_option maxRecDepth 100000
set_option maxHeartbeats 1000000
namespace Go.Abs
open Go.Proofs
@[go_sem] theorem R162 : Try.f162.results.toList = [.tmp 4] := rfl
@[go_sem] theorem R166 : Try.f166.results.toList = [.tmp 2] := rfl
@[go_sem] theorem R167 : Try.f167.results.toList = [.tmp 4] := rfl
@[go_sem] theorem R150 : Try.f150.results.toList = [.tmp 4, .tmp 5, .tmp 6] := rfl
@[go_sem] theorem R149 : Try.f149.results.toList = [.tmp 4] := rfl
theorem r1mul_spec (a b : List Nat) (ba : Lb a) (bb : Lb b) (sl : a.length ≤ 1099511627776) (sm : b.length ≤ 1099511627776) : PDet Try.prog 162 [nl a, nl b] (nl (lim (val a * val b))) := by
  refine pdet_of E0ok mixed Try.func162 (by kernel_rfl) rfl (by kernel_rfl) (Nat.le_of_ble_eq_true rfl) fun N0 h hn hmen => ?_
  unfold nl
  simp -implicitDefEqProofs (maxSteps := 2000000) (disch := omega) only [go_sem, condB_t, condB_f, pf0, dec_t, dec_f, and_of, ↓reduceIte, Nat.reduceEqDiff, Nat.reduceMul, Nat.reduceAdd, Nat.reduceSub, Nat.reduceLT, Nat.reduceLeDiff, Int.reduceToNat, Nat.reducePow, Int.reducePow, Int.reduceLT, Int.reduceLE, Int.reduceNeg, Int.reduceAdd, Int.reduceSub, Int.reduceMul, decide_true, decide_false, reduceCtorEq]
  obtain ⟨id, hid⟩ : ∃ id, id = N0 + 48 := ⟨_, rfl⟩
  rw [← hid]
  obtain ⟨N, hN⟩ : ∃ N, N = a.length + b.length := ⟨_, rfl⟩
  rw [← hN]
  refine aw_loop (X := Nat × List Nat) (fun x => ⟨mkS [(0, .sl 1 (numL a)), (1, .sl 1 (numL b)), (5, .row id N 0 N), (6, .int .i64 x.1)], mkH h [(id, ⟨1, numL x.2⟩)], id + 24⟩)
    (fun x => x.1 ≤ a.length ∧ x.2.length = N ∧ Lb x.2 ∧ val (x.2.take (x.1 + b.length)) = val (a.take x.1) * val b) (fun x => a.length - x.1)
    ⟨(0, List.replicate N 0), ⟨Nat.zero_le _, by simp, Lb.zeros _, by simp [List.take_replicate, val_zeros, val]⟩, ?_⟩ ?_
  · (refine Weak.head1 (by simp only [upd_same, mkH_cons, ↓reduceIte] <;> rfl) (by omega) (numL_leafU _ _) (fun q hq => by simp only [upd, mkH, if_neg hq]) (by omega) hmen ?_; simp -implicitDefEqProofs (maxSteps := 2000000) (disch := omega) only [go_sem, condB_t, condB_f, pf0, dec_t, dec_f, and_of, ↓reduceIte, Nat.reduceEqDiff, Nat.reduceMul, Nat.reduceAdd, Nat.reduceSub, Nat.reduceLT, Nat.reduceLeDiff, Int.reduceToNat, Nat.reducePow, Int.reducePow, Int.reduceLT, Int.reduceLE, Int.reduceNeg, Int.reduceAdd, Int.reduceSub, Int.reduceMul, decide_true, decide_false, reduceCtorEq, AllP, AVle_same, AVle_int, AVle_nil, AVle_row, topU_int, topU_bool, topU_sl, topU_row, topU_ptr, topU_iptr, topU_fn, val, List.drop_length])
  · rintro ⟨i, o0⟩ ⟨hi, ho0, lo0, hv0⟩
    simp only at hi ho0 lo0 hv0
    by_cases h0 : i < a.length
    · have hx := ba.get i
      simp -implicitDefEqProofs (maxSteps := 2000000) (disch := omega) only [go_sem, condB_t, condB_f, pf0, dec_t, dec_f, and_of, ↓reduceIte, Nat.reduceEqDiff, Nat.reduceMul, Nat.reduceAdd, Nat.reduceSub, Nat.reduceLT, Nat.reduceLeDiff, Int.reduceToNat, Nat.reducePow, Int.reducePow, Int.reduceLT, Int.reduceLE, Int.reduceNeg, Int.reduceAdd, Int.reduceSub, Int.reduceMul, decide_true, decide_false, reduceCtorEq]
      refine aw_loop (X := Nat × List Nat × Nat) (fun x => ⟨mkS [(0, .sl 1 (numL a)), (1, .sl 1 (numL b)), (5, .row id N 0 N), (6, .int .i64 i), (7, .int .u64 x.2.2), (8, .int .i64 x.1)], mkH h [(id, ⟨1, numL x.2.1⟩)], id + 24⟩)
        (fun x => x.1 ≤ b.length ∧ x.2.1.length = N ∧ Lb x.2.1 ∧ x.2.2 < 4294967296 ∧ x.2.1.drop (i + x.1) = o0.drop (i + x.1) ∧
          val (x.2.1.take (i + x.1)) + 4294967296 ^ i * 4294967296 ^ x.1 * x.2.2 = val (o0.take (i + x.1)) + 4294967296 ^ i * a.getD i 0 * val (b.take x.1)) (fun x => b.length - x.1)
        ⟨(0, o0, 0), ⟨Nat.zero_le _, ho0, lo0, (by first | omega | (simp only; omega)), rfl, by simp [val]⟩, ?_⟩ ?_
      · (refine Weak.head1 (by simp only [upd_same, mkH_cons, ↓reduceIte] <;> rfl) (by omega) (numL_leafU _ _) (fun q hq => by simp only [upd, mkH, if_neg hq]) (by omega) hmen ?_; simp -implicitDefEqProofs (maxSteps := 2000000) (disch := omega) only [go_sem, condB_t, condB_f, pf0, dec_t, dec_f, and_of, ↓reduceIte, Nat.reduceEqDiff, Nat.reduceMul, Nat.reduceAdd, Nat.reduceSub, Nat.reduceLT, Nat.reduceLeDiff, Int.reduceToNat, Nat.reducePow, Int.reducePow, Int.reduceLT, Int.reduceLE, Int.reduceNeg, Int.reduceAdd, Int.reduceSub, Int.reduceMul, decide_true, decide_false, reduceCtorEq, AllP, AVle_same, AVle_int, AVle_nil, AVle_row, topU_int, topU_bool, topU_sl, topU_row, topU_ptr, topU_iptr, topU_fn, val, List.drop_length])
      · rintro ⟨k, o, c⟩ ⟨hk, ho, lo, hc, hd, hv⟩
        simp only at hk ho lo hc hd hv
        by_cases h1 : k < b.length
        · have hy := bb.get k
          have hw := lo.get (i + k)
          obtain ⟨hb1, hb2⟩ := mul_bound hx hy hw hc
          obtain ⟨g1, g2, g3, g4, g5⟩ := mul_round ho ho0 lo bb h1 (by omega) hx hc hd hv rfl
          simp -implicitDefEqProofs (maxSteps := 2000000) (disch := omega) only [go_sem, condB_t, condB_f, pf0, dec_t, dec_f, and_of, ↓reduceIte, Nat.reduceEqDiff, Nat.reduceMul, Nat.reduceAdd, Nat.reduceSub, Nat.reduceLT, Nat.reduceLeDiff, Int.reduceToNat, Nat.reducePow, Int.reducePow, Int.reduceLT, Int.reduceLE, Int.reduceNeg, Int.reduceAdd, Int.reduceSub, Int.reduceMul, decide_true, decide_false, reduceCtorEq]
          exact ⟨(k + 1, o.set (i + k) ((c + (o.getD (i + k) 0 + a.getD i 0 * b.getD k 0)) % 4294967296), (c + (o.getD (i + k) 0 + a.getD i 0 * b.getD k 0)) / 4294967296), ⟨h1, g1, g2, g3, g4, g5⟩, (by first | omega | (simp only; omega)), by (refine Weak.head1 (by simp only [upd_same, mkH_cons, ↓reduceIte] <;> rfl) (by omega) (numL_leafU _ _) (fun q hq => by simp only [upd, mkH, if_neg hq]) (by omega) hmen ?_; simp -implicitDefEqProofs (maxSteps := 2000000) (disch := omega) only [go_sem, condB_t, condB_f, pf0, dec_t, dec_f, and_of, ↓reduceIte, Nat.reduceEqDiff, Nat.reduceMul, Nat.reduceAdd, Nat.reduceSub, Nat.reduceLT, Nat.reduceLeDiff, Int.reduceToNat, Nat.reducePow, Int.reducePow, Int.reduceLT, Int.reduceLE, Int.reduceNeg, Int.reduceAdd, Int.reduceSub, Int.reduceMul, decide_true, decide_false, reduceCtorEq, AllP, AVle_same, AVle_int, AVle_nil, AVle_row, topU_int, topU_bool, topU_sl, topU_row, topU_ptr, topU_iptr, topU_fn, val, List.drop_length])⟩
        · obtain rfl : k = b.length := by omega
          simp -implicitDefEqProofs (maxSteps := 2000000) (disch := omega) only [go_sem, condB_t, condB_f, pf0, dec_t, dec_f, and_of, ↓reduceIte, Nat.reduceEqDiff, Nat.reduceMul, Nat.reduceAdd, Nat.reduceSub, Nat.reduceLT, Nat.reduceLeDiff, Int.reduceToNat, Nat.reducePow, Int.reducePow, Int.reduceLT, Int.reduceLE, Int.reduceNeg, Int.reduceAdd, Int.reduceSub, Int.reduceMul, decide_true, decide_false, reduceCtorEq]
          exact ⟨(i + 1, o.set (i + b.length) c), ⟨by omega, by simp [ho], lo.set hc, mul_row_end ho hN h0 hv0 hv⟩, (by first | omega | (simp only; omega)), by (refine Weak.head1 (by simp only [upd_same, mkH_cons, ↓reduceIte] <;> rfl) (by omega) (numL_leafU _ _) (fun q hq => by simp only [upd, mkH, if_neg hq]) (by omega) hmen ?_; simp -implicitDefEqProofs (maxSteps := 2000000) (disch := omega) only [go_sem, condB_t, condB_f, pf0, dec_t, dec_f, and_of, ↓reduceIte, Nat.reduceEqDiff, Nat.reduceMul, Nat.reduceAdd, Nat.reduceSub, Nat.reduceLT, Nat.reduceLeDiff, Int.reduceToNat, Nat.reducePow, Int.reducePow, Int.reduceLT, Int.reduceLE, Int.reduceNeg, Int.reduceAdd, Int.reduceSub, Int.reduceMul, decide_true, decide_false, reduceCtorEq, AllP, AVle_same, AVle_int, AVle_nil, AVle_row, topU_int, topU_bool, topU_sl, topU_row, topU_ptr, topU_iptr, topU_fn, val, List.drop_length])⟩
    · obtain rfl : i = a.length := by omega
      rw [List.take_of_length_le (by omega), List.take_of_length_le (Nat.le_refl _)] at hv0
      simp -implicitDefEqProofs (maxSteps := 2000000) (disch := omega) only [go_sem, condB_t, condB_f, pf0, dec_t, dec_f, and_of, ↓reduceIte, Nat.reduceEqDiff, Nat.reduceMul, Nat.reduceAdd, Nat.reduceSub, Nat.reduceLT, Nat.reduceLeDiff, Int.reduceToNat, Nat.reducePow, Int.reducePow, Int.reduceLT, Int.reduceLE, Int.reduceNeg, Int.reduceAdd, Int.reduceSub, Int.reduceMul, decide_true, decide_false, reduceCtorEq]
      have hc2 := r1trim_spec o0 lo0 (by omega)
      rw [hv0] at hc2
      refine callK_row hc2 (by simp only [upd_same, mkH_cons, ↓reduceIte] <;> rfl) (by simp [ho0]) (by omega) (List.take_of_length_le (by simp [ho0])) (numL_plain _) ?_
      simp -implicitDefEqProofs (maxSteps := 2000000) (disch := omega) only [go_sem, condB_t, condB_f, pf0, dec_t, dec_f, and_of, ↓reduceIte, Nat.reduceEqDiff, Nat.reduceMul, Nat.reduceAdd, Nat.reduceSub, Nat.reduceLT, Nat.reduceLeDiff, Int.reduceToNat, Nat.reducePow, Int.reducePow, Int.reduceLT, Int.reduceLE, Int.reduceNeg, Int.reduceAdd, Int.reduceSub, Int.reduceMul, decide_true, decide_false, reduceCtorEq]
      exact dn
theorem r1bits_spec (l : List Nat) (hb : Lb l) (hl : l.length ≤ 1099511627776) : PDet Try.prog 166 [nl l] (.int .i64 (nbits (val l) : Nat)) := by
  refine pdet_of E0ok mixed Try.func166 (by kernel_rfl) rfl (by kernel_rfl) (Nat.le_of_ble_eq_true rfl) fun N0 h hn hmen => ?_
  have hlen := lim_len_val hb
  unfold nl
  simp -implicitDefEqProofs (maxSteps := 2000000) (disch := omega) only [go_sem, condB_t, condB_f, pf0, dec_t, dec_f, and_of, ↓reduceIte, Nat.reduceEqDiff, Nat.reduceMul, Nat.reduceAdd, Nat.reduceSub, Nat.reduceLT, Nat.reduceLeDiff, Int.reduceToNat, Nat.reducePow, Int.reducePow, Int.reduceLT, Int.reduceLE, Int.reduceNeg, Int.reduceAdd, Int.reduceSub, Int.reduceMul, decide_true, decide_false, reduceCtorEq]
  refine callK_pure (r1trim_spec l hb (by omega)) ?_
  unfold nl
  by_cases h0 : (lim (val l)).length = 0
  · have hv : val l = 0 := lim_nil.1 (List.length_eq_zero_iff.1 h0)
    have hn0 : nbits (val l) = 0 := nbits_zero.2 hv
    rw [hn0]
    simp -implicitDefEqProofs (maxSteps := 2000000) (disch := omega) only [go_sem, condB_t, condB_f, pf0, dec_t, dec_f, and_of, ↓reduceIte, Nat.reduceEqDiff, Nat.reduceMul, Nat.reduceAdd, Nat.reduceSub, Nat.reduceLT, Nat.reduceLeDiff, Int.reduceToNat, Nat.reducePow, Int.reducePow, Int.reduceLT, Int.reduceLE, Int.reduceNeg, Int.reduceAdd, Int.reduceSub, Int.reduceMul, decide_true, decide_false, reduceCtorEq]
    exact dn
  · have ha := lb_lim (val l)
    have hv := val_lim (val l)
    have hne : val l ≠ 0 := fun e => h0 (by rw [e, lim_zero]; rfl)
    have htop : (lim (val l)).getD ((lim (val l)).length - 1) 0 ≠ 0 := fun e => by
      have h1 := le_of_lim hne
      have h2 := val_take_succ (l := lim (val l)) (k := (lim (val l)).length - 1) (by omega)
      have h3 := val_lt (ha.take ((lim (val l)).length - 1))
      rw [List.length_take, Nat.min_eq_left (by omega)] at h3
      rw [e, Nat.mul_zero, show (lim (val l)).length - 1 + 1 = (lim (val l)).length by omega, List.take_of_length_le (Nat.le_refl _), hv] at h2
      omega
    generalize lim (val l) = a at *
    have hx := ha.get (a.length - 1)
    have hn : nbits (val l) = 32 * (a.length - 1) + nbits (a.getD (a.length - 1) 0) := by
      rw [← hv]
      have h2 := val_take_succ (l := a) (k := a.length - 1) (by omega)
      have h3 := val_lt (ha.take (a.length - 1))
      rw [List.length_take, Nat.min_eq_left (by omega)] at h3
      rw [show a.length - 1 + 1 = a.length by omega, List.take_of_length_le (Nat.le_refl _)] at h2
      rw [h2, show (4294967296 : Nat) ^ (a.length - 1) = 2 ^ (32 * (a.length - 1)) by rw [Nat.pow_mul]]
      rw [show (4294967296 : Nat) ^ (a.length - 1) = 2 ^ (32 * (a.length - 1)) by rw [Nat.pow_mul]] at h3
      exact nbits_top h3 htop
    have hle := nbits_le (n := a.getD (a.length - 1) 0) (k := 32) hx
    have e0 : (32 : Int) * ((a.length - 1 : Nat) : Int) = ((32 * (a.length - 1) : Nat) : Int) := by omega
    simp -implicitDefEqProofs (maxSteps := 2000000) (disch := omega) only [go_sem, condB_t, condB_f, pf0, dec_t, dec_f, and_of, ↓reduceIte, Nat.reduceEqDiff, Nat.reduceMul, Nat.reduceAdd, Nat.reduceSub, Nat.reduceLT, Nat.reduceLeDiff, Int.reduceToNat, Nat.reducePow, Int.reducePow, Int.reduceLT, Int.reduceLE, Int.reduceNeg, Int.reduceAdd, Int.reduceSub, Int.reduceMul, decide_true, decide_false, reduceCtorEq, e0]
    rw [hn]
    refine aw_loop (X := Nat × Nat) (fun x => ⟨mkS [(3, .int .i64 x.1), (4, .int .u32 x.2)], h, N0⟩) (fun x => x.1 + nbits x.2 = 32 * (a.length - 1) + nbits (a.getD (a.length - 1) 0) ∧ x.2 < 4294967296) (fun x => x.2)
      ⟨(32 * (a.length - 1), a.getD (a.length - 1) 0), ⟨rfl, hx⟩, ?_⟩ ?_
    · (refine Weak.slots (allP ?_) (fun k0 b0 hb0 => by first | exact hb0 | (have hk1 := (hmen k0 b0 hb0).1; simp only [upd, mkH]; (repeat rw [if_neg (by omega)]); exact hb0)) (by omega) hmen; simp -implicitDefEqProofs (maxSteps := 2000000) (disch := omega) only [go_sem, condB_t, condB_f, pf0, dec_t, dec_f, and_of, ↓reduceIte, Nat.reduceEqDiff, Nat.reduceMul, Nat.reduceAdd, Nat.reduceSub, Nat.reduceLT, Nat.reduceLeDiff, Int.reduceToNat, Nat.reducePow, Int.reducePow, Int.reduceLT, Int.reduceLE, Int.reduceNeg, Int.reduceAdd, Int.reduceSub, Int.reduceMul, decide_true, decide_false, reduceCtorEq, AllP, AVle_same, AVle_int, AVle_nil, AVle_row, topU_int, topU_bool, topU_sl, topU_row, topU_ptr, topU_iptr, topU_fn, val, List.drop_length])
    · rintro ⟨n, v⟩ ⟨h1, h2⟩
      simp only at h1 h2
      by_cases h3 : 0 < v
      · have h4 := nbits_half h3
        simp -implicitDefEqProofs (maxSteps := 2000000) (disch := omega) only [go_sem, condB_t, condB_f, pf0, dec_t, dec_f, and_of, ↓reduceIte, Nat.reduceEqDiff, Nat.reduceMul, Nat.reduceAdd, Nat.reduceSub, Nat.reduceLT, Nat.reduceLeDiff, Int.reduceToNat, Nat.reducePow, Int.reducePow, Int.reduceLT, Int.reduceLE, Int.reduceNeg, Int.reduceAdd, Int.reduceSub, Int.reduceMul, decide_true, decide_false, reduceCtorEq]
        exact ⟨(n + 1, v / 2), ⟨by simp only; omega, by simp only; omega⟩, by simp only; omega, by (refine Weak.slots (allP ?_) (fun k0 b0 hb0 => by first | exact hb0 | (have hk1 := (hmen k0 b0 hb0).1; simp only [upd, mkH]; (repeat rw [if_neg (by omega)]); exact hb0)) (by omega) hmen; simp -implicitDefEqProofs (maxSteps := 2000000) (disch := omega) only [go_sem, condB_t, condB_f, pf0, dec_t, dec_f, and_of, ↓reduceIte, Nat.reduceEqDiff, Nat.reduceMul, Nat.reduceAdd, Nat.reduceSub, Nat.reduceLT, Nat.reduceLeDiff, Int.reduceToNat, Nat.reducePow, Int.reducePow, Int.reduceLT, Int.reduceLE, Int.reduceNeg, Int.reduceAdd, Int.reduceSub, Int.reduceMul, decide_true, decide_false, reduceCtorEq, AllP, AVle_same, AVle_int, AVle_nil, AVle_row, topU_int, topU_bool, topU_sl, topU_row, topU_ptr, topU_iptr, topU_fn, val, List.drop_length])⟩
      · obtain rfl : v = 0 := by omega
        have h4 : nbits 0 = 0 := rfl
        rw [h4] at h1
        simp -implicitDefEqProofs (maxSteps := 2000000) (disch := omega) only [go_sem, condB_t, condB_f, pf0, dec_t, dec_f, and_of, ↓reduceIte, Nat.reduceEqDiff, Nat.reduceMul, Nat.reduceAdd, Nat.reduceSub, Nat.reduceLT, Nat.reduceLeDiff, Int.reduceToNat, Nat.reducePow, Int.reducePow, Int.reduceLT, Int.reduceLE, Int.reduceNeg, Int.reduceAdd, Int.reduceSub, Int.reduceMul, decide_true, decide_false, reduceCtorEq]
        exact .int (by omega)
theorem r1bit_spec (l : List Nat) (i : Nat) (hb : Lb l) (hl : l.length ≤ 1099511627776) (hi : i < 70368744177664) : PDet Try.prog 167 [nl l, .int .i64 i] (.int .u32 (val l / 2 ^ i % 2 : Nat)) := by
  refine pdet_of E0ok mixed Try.func167 (by kernel_rfl) rfl (by kernel_rfl) (Nat.le_of_ble_eq_true rfl) fun N0 h hn hmen => ?_
  unfold nl
  by_cases h0 : i / 32 < l.length
  · have hx := hb.get (i / 32)
    have hm : i % 32 < 32 := Nat.mod_lt _ (by decide)
    have hlt : l.getD (i / 32) 0 / 2 ^ (i % 32) < 4294967296 := Nat.lt_of_le_of_lt (Nat.div_le_self _ _) hx
    rw [← bit_digit hb h0]
    simp -implicitDefEqProofs (maxSteps := 2000000) (disch := omega) only [go_sem, condB_t, condB_f, pf0, dec_t, dec_f, and_of, ↓reduceIte, Nat.reduceEqDiff, Nat.reduceMul, Nat.reduceAdd, Nat.reduceSub, Nat.reduceLT, Nat.reduceLeDiff, Int.reduceToNat, Nat.reducePow, Int.reducePow, Int.reduceLT, Int.reduceLE, Int.reduceNeg, Int.reduceAdd, Int.reduceSub, Int.reduceMul, decide_true, decide_false, reduceCtorEq]
    exact dn
  · rw [bit_high hb h0]
    simp -implicitDefEqProofs (maxSteps := 2000000) (disch := omega) only [go_sem, condB_t, condB_f, pf0, dec_t, dec_f, and_of, ↓reduceIte, Nat.reduceEqDiff, Nat.reduceMul, Nat.reduceAdd, Nat.reduceSub, Nat.reduceLT, Nat.reduceLeDiff, Int.reduceToNat, Nat.reducePow, Int.reducePow, Int.reduceLT, Int.reduceLE, Int.reduceNeg, Int.reduceAdd, Int.reduceSub, Int.reduceMul, decide_true, decide_false, reduceCtorEq]
    exact dn
theorem r1divMod_zero (a b : List Nat) (ha : Lb a) (hb : Lb b) (hla : a.length ≤ 549755813888) (hlb : b.length ≤ 549755813888) (h0 : val b = 0) :
    PDet Try.prog 150 [nl a, nl b] (.tup [nl [], nl [], .bool false]) := by
  refine pdet_of E0ok mixed Try.func150 (by kernel_rfl) rfl (by kernel_rfl) (Nat.le_of_ble_eq_true rfl) fun N0 h hn hmen => ?_
  unfold nl
  simp -implicitDefEqProofs (maxSteps := 2000000) (disch := omega) only [go_sem, condB_t, condB_f, pf0, dec_t, dec_f, and_of, ↓reduceIte, Nat.reduceEqDiff, Nat.reduceMul, Nat.reduceAdd, Nat.reduceSub, Nat.reduceLT, Nat.reduceLeDiff, Int.reduceToNat, Nat.reducePow, Int.reducePow, Int.reduceLT, Int.reduceLE, Int.reduceNeg, Int.reduceAdd, Int.reduceSub, Int.reduceMul, decide_true, decide_false, reduceCtorEq]
  refine callK_pure (r1trim_spec b hb (by omega)) ?_
  rw [h0, lim_zero]
  unfold nl
  simp -implicitDefEqProofs (maxSteps := 2000000) (disch := omega) only [go_sem, condB_t, condB_f, pf0, dec_t, dec_f, and_of, ↓reduceIte, Nat.reduceEqDiff, Nat.reduceMul, Nat.reduceAdd, Nat.reduceSub, Nat.reduceLT, Nat.reduceLeDiff, Int.reduceToNat, Nat.reducePow, Int.reducePow, Int.reduceLT, Int.reduceLE, Int.reduceNeg, Int.reduceAdd, Int.reduceSub, Int.reduceMul, decide_true, decide_false, reduceCtorEq]
  exact dn
theorem r1divMod_spec (a b : List Nat) (ha : Lb a) (hb : Lb b) (hla : a.length ≤ 549755813888) (hlb : b.length ≤ 549755813888) (h0 : val b ≠ 0) :
    PDet Try.prog 150 [nl a, nl b] (.tup [nl (lim (val a / val b)), nl (lim (val a % val b)), .bool true]) := by
  refine pdet_of E0ok mixed Try.func150 (by kernel_rfl) rfl (by kernel_rfl) (Nat.le_of_ble_eq_true rfl) fun N0 h hn hmen => ?_
  have hlB := lim_len_val hb
  have cA1 := fun h => r1uint64_ok a ha (by omega) h
  have cA2 := fun h => r1uint64_no a ha (by omega) h
  have cB1 := fun h => r1uint64_ok (lim (val b)) (lb_lim _) (by omega) h
  have cB2 := fun h => r1uint64_no (lim (val b)) (lb_lim _) (by omega) h
  have cbits := r1bits_spec a ha (by omega)
  have cbit := fun i hi => r1bit_spec a i ha (by omega) hi
  have hnb := nbits_len ha
  simp only [val_lim] at cB1 cB2
  have hAlt := val_lt ha
  unfold nl
  simp -implicitDefEqProofs (maxSteps := 2000000) (disch := omega) only [go_sem, condB_t, condB_f, pf0, dec_t, dec_f, and_of, ↓reduceIte, Nat.reduceEqDiff, Nat.reduceMul, Nat.reduceAdd, Nat.reduceSub, Nat.reduceLT, Nat.reduceLeDiff, Int.reduceToNat, Nat.reducePow, Int.reducePow, Int.reduceLT, Int.reduceLE, Int.reduceNeg, Int.reduceAdd, Int.reduceSub, Int.reduceMul, decide_true, decide_false, reduceCtorEq]
  refine callK_pure (r1trim_spec b hb (by omega)) ?_
  generalize hAv : val a = A at *
  generalize val b = B at *
  obtain ⟨Q0, hQ0⟩ : ∃ x, x = A / B := ⟨_, rfl⟩
  obtain ⟨R0, hR0⟩ : ∃ x, x = A % B := ⟨_, rfl⟩
  rw [← hQ0, ← hR0]
  have hB0 : (lim B).length ≠ 0 := fun e => h0 (lim_nil.1 (List.length_eq_zero_iff.1 e))
  unfold nl at *
  simp -implicitDefEqProofs (maxSteps := 2000000) (disch := omega) only [go_sem, condB_t, condB_f, pf0, dec_t, dec_f, and_of, ↓reduceIte, Nat.reduceEqDiff, Nat.reduceMul, Nat.reduceAdd, Nat.reduceSub, Nat.reduceLT, Nat.reduceLeDiff, Int.reduceToNat, Nat.reducePow, Int.reducePow, Int.reduceLT, Int.reduceLE, Int.reduceNeg, Int.reduceAdd, Int.reduceSub, Int.reduceMul, decide_true, decide_false, reduceCtorEq]
  have hBp : 0 < B := Nat.pos_of_ne_zero h0
  have hA0 : A / 2 ^ nbits A = 0 := Nat.div_eq_of_lt (by
    by_cases e : A = 0
    · rw [e]; exact Nat.two_pow_pos _
    · exact (nbits_spec e).2)
  by_cases hA : A < 18446744073709551616
  · refine callK_pure (cA1 hA) ?_
    simp -implicitDefEqProofs (maxSteps := 2000000) (disch := omega) only [go_sem, condB_t, condB_f, pf0, dec_t, dec_f, and_of, ↓reduceIte, Nat.reduceEqDiff, Nat.reduceMul, Nat.reduceAdd, Nat.reduceSub, Nat.reduceLT, Nat.reduceLeDiff, Int.reduceToNat, Nat.reducePow, Int.reducePow, Int.reduceLT, Int.reduceLE, Int.reduceNeg, Int.reduceAdd, Int.reduceSub, Int.reduceMul, decide_true, decide_false, reduceCtorEq]
    by_cases hB : B < 18446744073709551616
    · refine callK_pure (cB1 hB) ?_
      have d1 := r1fromUint64_spec (A / B) (Nat.lt_of_le_of_lt (Nat.div_le_self _ _) hA)
      have d2 := r1fromUint64_spec (A % B) (Nat.lt_of_le_of_lt (Nat.mod_le _ _) hA)
      have hq := Nat.lt_of_le_of_lt (Nat.div_le_self A B) hA
      unfold nl at *
      simp -implicitDefEqProofs (maxSteps := 2000000) (disch := omega) only [go_sem, condB_t, condB_f, pf0, dec_t, dec_f, and_of, ↓reduceIte, Nat.reduceEqDiff, Nat.reduceMul, Nat.reduceAdd, Nat.reduceSub, Nat.reduceLT, Nat.reduceLeDiff, Int.reduceToNat, Nat.reducePow, Int.reducePow, Int.reduceLT, Int.reduceLE, Int.reduceNeg, Int.reduceAdd, Int.reduceSub, Int.reduceMul, decide_true, decide_false, reduceCtorEq]
      refine pcallK_pure d1 ?_
      simp -implicitDefEqProofs (maxSteps := 2000000) (disch := omega) only [go_sem, condB_t, condB_f, pf0, dec_t, dec_f, and_of, ↓reduceIte, Nat.reduceEqDiff, Nat.reduceMul, Nat.reduceAdd, Nat.reduceSub, Nat.reduceLT, Nat.reduceLeDiff, Int.reduceToNat, Nat.reducePow, Int.reducePow, Int.reduceLT, Int.reduceLE, Int.reduceNeg, Int.reduceAdd, Int.reduceSub, Int.reduceMul, decide_true, decide_false, reduceCtorEq]
      refine pcallK_pure d2 ?_
      rw [hQ0, hR0]
      simp -implicitDefEqProofs (maxSteps := 2000000) (disch := omega) only [go_sem, condB_t, condB_f, pf0, dec_t, dec_f, and_of, ↓reduceIte, Nat.reduceEqDiff, Nat.reduceMul, Nat.reduceAdd, Nat.reduceSub, Nat.reduceLT, Nat.reduceLeDiff, Int.reduceToNat, Nat.reducePow, Int.reducePow, Int.reduceLT, Int.reduceLE, Int.reduceNeg, Int.reduceAdd, Int.reduceSub, Int.reduceMul, decide_true, decide_false, reduceCtorEq]
      exact dn
    · refine callK_pure (cB2 hB) ?_
      simp -implicitDefEqProofs (maxSteps := 2000000) (disch := omega) only [go_sem, condB_t, condB_f, pf0, dec_t, dec_f, and_of, ↓reduceIte, Nat.reduceEqDiff, Nat.reduceMul, Nat.reduceAdd, Nat.reduceSub, Nat.reduceLT, Nat.reduceLeDiff, Int.reduceToNat, Nat.reducePow, Int.reducePow, Int.reduceLT, Int.reduceLE, Int.reduceNeg, Int.reduceAdd, Int.reduceSub, Int.reduceMul, decide_true, decide_false, reduceCtorEq]
      refine callK_pure cbits ?_
      simp -implicitDefEqProofs (maxSteps := 2000000) (disch := omega) only [go_sem, condB_t, condB_f, pf0, dec_t, dec_f, and_of, ↓reduceIte, Nat.reduceEqDiff, Nat.reduceMul, Nat.reduceAdd, Nat.reduceSub, Nat.reduceLT, Nat.reduceLeDiff, Int.reduceToNat, Nat.reducePow, Int.reducePow, Int.reduceLT, Int.reduceLE, Int.reduceNeg, Int.reduceAdd, Int.reduceSub, Int.reduceMul, decide_true, decide_false, reduceCtorEq]
      obtain ⟨id, hid⟩ : ∃ id, id = N0 + 232 := ⟨_, rfl⟩
      rw [← hid]
      refine aw_loop (X := Nat × List Nat) (fun x => ⟨mkS [(0, .sl 1 (numL a)), (1, .sl 1 (numL (lim B))), (4, .row id a.length 0 a.length), (5, .sl 1 (numL (lim (A / 2 ^ x.1 % B)))), (11, .int .i64 ((x.1 : Int) - 1))], mkH h [(id, ⟨1, numL x.2⟩)], id + 48⟩)
        (fun x => x.1 ≤ nbits A ∧ x.2.length = a.length ∧ Lb x.2 ∧ val x.2 = 2 ^ x.1 * (A / 2 ^ x.1 / B)) (fun x => x.1)
        ⟨(nbits A, List.replicate a.length 0), ⟨Nat.le_refl _, by simp, Lb.zeros _, by rw [val_zeros, hA0, Nat.zero_div, Nat.mul_zero]⟩, ?_⟩ ?_
      · (refine Weak.head1 (by simp only [upd_same, mkH_cons, ↓reduceIte] <;> rfl) (by omega) (numL_leafU _ _) (fun q hq => by simp only [upd, mkH, if_neg hq]) (by omega) hmen ?_; simp -implicitDefEqProofs (maxSteps := 2000000) (disch := omega) only [go_sem, condB_t, condB_f, pf0, dec_t, dec_f, and_of, ↓reduceIte, Nat.reduceEqDiff, Nat.reduceMul, Nat.reduceAdd, Nat.reduceSub, Nat.reduceLT, Nat.reduceLeDiff, Int.reduceToNat, Nat.reducePow, Int.reducePow, Int.reduceLT, Int.reduceLE, Int.reduceNeg, Int.reduceAdd, Int.reduceSub, Int.reduceMul, decide_true, decide_false, reduceCtorEq, AllP, AVle_same, AVle_int, AVle_nil, AVle_row, topU_int, topU_bool, topU_sl, topU_row, topU_ptr, topU_iptr, topU_fn, val, List.drop_length, hA0, Nat.zero_mod, lim_zero, numL_nil])
      · rintro ⟨j, q⟩ ⟨hj, hql, hqb, hqv⟩
        simp only at hj hql hqb hqv
        by_cases h1 : 0 < j
        · obtain ⟨i, rfl⟩ : ∃ i, j = i + 1 := ⟨j - 1, by omega⟩
          obtain ⟨bt, hbt⟩ : ∃ x, x = A / 2 ^ i % 2 := ⟨_, rfl⟩
          have hbt2 : bt < 2 := by rw [hbt]; exact Nat.mod_lt _ (by decide)
          have hbs := bin_step (A := A) (i := i) hBp
          rw [← hbt] at hbs
          have hbd := bin_div hBp hbt2 hbs
          have hi32 : i / 32 < a.length := by omega
          have hqi : i / 32 < q.length := by omega
          have hm32 : i % 32 < 32 := Nat.mod_lt _ (by decide)
          have hlm := limb_mod hqb hqi hqv
          have hlt := hqb.get (i / 32)
          obtain ⟨or1, or2⟩ := or_bit hm32 hlt hlm
          have hsb := set_bit hqb hqi hqv
          have hp32 : 2 ^ (i % 32) < 4294967296 := by omega
          obtain ⟨R, hR⟩ : ∃ R, R = A / 2 ^ (i + 1) % B := ⟨_, rfl⟩
          rw [← hR] at hbd
          have hRB : R < B := by rw [hR]; exact Nat.mod_lt _ hBp
          have lR := lim_len_mono (Nat.le_of_lt hRB)
          have a1 := r1add_spec (lim R) (lim R) (lb_lim _) (lb_lim _) (by omega) (by omega)
          have l2R := lim_len_add R R
          have a2 := r1add_spec (lim (R + R)) [1] (lb_lim _) (by intro x hx; rw [List.mem_singleton.1 hx]; decide) (by omega) (by simp)
          have cb := cbit i (by omega)
          rw [← hbt] at cb
          have l2R1 := lim_len_add (R + R) 1
          have l1 : (lim 1).length = 1 := by rw [lim_one]; rfl
          have s1 := fun c (hc : (lim c).length ≤ 1099511627776) (h : B ≤ c) => r1sub_ok (lim c) (lim B) (lb_lim _) (lb_lim _) hc (by omega) (by rw [val_lim, val_lim]; exact h)
          have s2 := fun c (hc : (lim c).length ≤ 1099511627776) (h : c < B) => r1sub_no (lim c) (lim B) (lb_lim _) (lb_lim _) hc (by omega) (by rw [val_lim, val_lim]; exact h)
          simp only [val_lim] at a1 a2 s1 s2
          have e1 : val [1] = 1 := rfl
          rw [e1] at a2
          unfold nl at *
          clear hbt hA0
          have hcase : bt = 0 ∨ bt = 1 := by omega
          rcases hcase with rfl | rfl
          · have t0 : R + R = 2 * R := by omega
            rw [t0] at a1 l2R
            simp only [Nat.add_zero] at hbd
            by_cases h2 : 2 * R < B
            · rw [if_pos h2] at hbd
              obtain ⟨d1, d2⟩ := hbd
              simp -implicitDefEqProofs (maxSteps := 2000000) (disch := omega) only [go_sem, condB_t, condB_f, pf0, dec_t, dec_f, and_of, ↓reduceIte, Nat.reduceEqDiff, Nat.reduceMul, Nat.reduceAdd, Nat.reduceSub, Nat.reduceLT, Nat.reduceLeDiff, Int.reduceToNat, Nat.reducePow, Int.reducePow, Int.reduceLT, Int.reduceLE, Int.reduceNeg, Int.reduceAdd, Int.reduceSub, Int.reduceMul, decide_true, decide_false, reduceCtorEq, ← hR]
              refine callK_pure a1 ?_
              simp -implicitDefEqProofs (maxSteps := 2000000) (disch := omega) only [go_sem, condB_t, condB_f, pf0, dec_t, dec_f, and_of, ↓reduceIte, Nat.reduceEqDiff, Nat.reduceMul, Nat.reduceAdd, Nat.reduceSub, Nat.reduceLT, Nat.reduceLeDiff, Int.reduceToNat, Nat.reducePow, Int.reducePow, Int.reduceLT, Int.reduceLE, Int.reduceNeg, Int.reduceAdd, Int.reduceSub, Int.reduceMul, decide_true, decide_false, reduceCtorEq]
              refine callK_pure cb ?_
              simp -implicitDefEqProofs (maxSteps := 2000000) (disch := omega) only [go_sem, condB_t, condB_f, pf0, dec_t, dec_f, and_of, ↓reduceIte, Nat.reduceEqDiff, Nat.reduceMul, Nat.reduceAdd, Nat.reduceSub, Nat.reduceLT, Nat.reduceLeDiff, Int.reduceToNat, Nat.reducePow, Int.reducePow, Int.reduceLT, Int.reduceLE, Int.reduceNeg, Int.reduceAdd, Int.reduceSub, Int.reduceMul, decide_true, decide_false, reduceCtorEq]
              refine callK_pure (s2 _ (by omega) h2) ?_
              simp -implicitDefEqProofs (maxSteps := 2000000) (disch := omega) only [go_sem, condB_t, condB_f, pf0, dec_t, dec_f, and_of, ↓reduceIte, Nat.reduceEqDiff, Nat.reduceMul, Nat.reduceAdd, Nat.reduceSub, Nat.reduceLT, Nat.reduceLeDiff, Int.reduceToNat, Nat.reducePow, Int.reducePow, Int.reduceLT, Int.reduceLE, Int.reduceNeg, Int.reduceAdd, Int.reduceSub, Int.reduceMul, decide_true, decide_false, reduceCtorEq]
              refine ⟨(i, q), ⟨by simp only; omega, hql, hqb, ?_⟩, by simp only; omega, by (refine Weak.head1 (by simp only [upd_same, mkH_cons, ↓reduceIte] <;> rfl) (by omega) (numL_leafU _ _) (fun q hq => by simp only [upd, mkH, if_neg hq]) (by omega) hmen ?_; simp -implicitDefEqProofs (maxSteps := 2000000) (disch := omega) only [go_sem, condB_t, condB_f, pf0, dec_t, dec_f, and_of, ↓reduceIte, Nat.reduceEqDiff, Nat.reduceMul, Nat.reduceAdd, Nat.reduceSub, Nat.reduceLT, Nat.reduceLeDiff, Int.reduceToNat, Nat.reducePow, Int.reducePow, Int.reduceLT, Int.reduceLE, Int.reduceNeg, Int.reduceAdd, Int.reduceSub, Int.reduceMul, decide_true, decide_false, reduceCtorEq, AllP, AVle_same, AVle_int, AVle_nil, AVle_row, topU_int, topU_bool, topU_sl, topU_row, topU_ptr, topU_iptr, topU_fn, val, List.drop_length, d2])⟩
              simp only
              rw [d1, ← Nat.mul_assoc, ← Nat.pow_succ]; exact hqv
            · rw [if_neg h2] at hbd
              obtain ⟨d1, d2⟩ := hbd
              simp -implicitDefEqProofs (maxSteps := 2000000) (disch := omega) only [go_sem, condB_t, condB_f, pf0, dec_t, dec_f, and_of, ↓reduceIte, Nat.reduceEqDiff, Nat.reduceMul, Nat.reduceAdd, Nat.reduceSub, Nat.reduceLT, Nat.reduceLeDiff, Int.reduceToNat, Nat.reducePow, Int.reducePow, Int.reduceLT, Int.reduceLE, Int.reduceNeg, Int.reduceAdd, Int.reduceSub, Int.reduceMul, decide_true, decide_false, reduceCtorEq, ← hR]
              refine callK_pure a1 ?_
              simp -implicitDefEqProofs (maxSteps := 2000000) (disch := omega) only [go_sem, condB_t, condB_f, pf0, dec_t, dec_f, and_of, ↓reduceIte, Nat.reduceEqDiff, Nat.reduceMul, Nat.reduceAdd, Nat.reduceSub, Nat.reduceLT, Nat.reduceLeDiff, Int.reduceToNat, Nat.reducePow, Int.reducePow, Int.reduceLT, Int.reduceLE, Int.reduceNeg, Int.reduceAdd, Int.reduceSub, Int.reduceMul, decide_true, decide_false, reduceCtorEq]
              refine callK_pure cb ?_
              simp -implicitDefEqProofs (maxSteps := 2000000) (disch := omega) only [go_sem, condB_t, condB_f, pf0, dec_t, dec_f, and_of, ↓reduceIte, Nat.reduceEqDiff, Nat.reduceMul, Nat.reduceAdd, Nat.reduceSub, Nat.reduceLT, Nat.reduceLeDiff, Int.reduceToNat, Nat.reducePow, Int.reducePow, Int.reduceLT, Int.reduceLE, Int.reduceNeg, Int.reduceAdd, Int.reduceSub, Int.reduceMul, decide_true, decide_false, reduceCtorEq]
              refine callK_pure (s1 _ (by omega) (by omega)) ?_
              simp -implicitDefEqProofs (maxSteps := 2000000) (disch := omega) only [go_sem, condB_t, condB_f, pf0, dec_t, dec_f, and_of, ↓reduceIte, Nat.reduceEqDiff, Nat.reduceMul, Nat.reduceAdd, Nat.reduceSub, Nat.reduceLT, Nat.reduceLeDiff, Int.reduceToNat, Nat.reducePow, Int.reducePow, Int.reduceLT, Int.reduceLE, Int.reduceNeg, Int.reduceAdd, Int.reduceSub, Int.reduceMul, decide_true, decide_false, reduceCtorEq, or1]
              refine ⟨(i, q.set (i / 32) (q.getD (i / 32) 0 + 2 ^ (i % 32))), ⟨by simp only; omega, by simp only; rw [List.length_set]; exact hql, hqb.set or2, ?_⟩, by simp only; omega, by (refine Weak.head1 (by simp only [upd_same, mkH_cons, ↓reduceIte] <;> rfl) (by omega) (numL_leafU _ _) (fun q hq => by simp only [upd, mkH, if_neg hq]) (by omega) hmen ?_; simp -implicitDefEqProofs (maxSteps := 2000000) (disch := omega) only [go_sem, condB_t, condB_f, pf0, dec_t, dec_f, and_of, ↓reduceIte, Nat.reduceEqDiff, Nat.reduceMul, Nat.reduceAdd, Nat.reduceSub, Nat.reduceLT, Nat.reduceLeDiff, Int.reduceToNat, Nat.reducePow, Int.reducePow, Int.reduceLT, Int.reduceLE, Int.reduceNeg, Int.reduceAdd, Int.reduceSub, Int.reduceMul, decide_true, decide_false, reduceCtorEq, AllP, AVle_same, AVle_int, AVle_nil, AVle_row, topU_int, topU_bool, topU_sl, topU_row, topU_ptr, topU_iptr, topU_fn, val, List.drop_length, d2])⟩
              simp only
              rw [d1]; exact hsb
          · have t0 : R + R = 2 * R := by omega
            rw [t0] at a1 a2 l2R l2R1
            by_cases h2 : 2 * R + 1 < B
            · rw [if_pos h2] at hbd
              obtain ⟨d1, d2⟩ := hbd
              simp -implicitDefEqProofs (maxSteps := 2000000) (disch := omega) only [go_sem, condB_t, condB_f, pf0, dec_t, dec_f, and_of, ↓reduceIte, Nat.reduceEqDiff, Nat.reduceMul, Nat.reduceAdd, Nat.reduceSub, Nat.reduceLT, Nat.reduceLeDiff, Int.reduceToNat, Nat.reducePow, Int.reducePow, Int.reduceLT, Int.reduceLE, Int.reduceNeg, Int.reduceAdd, Int.reduceSub, Int.reduceMul, decide_true, decide_false, reduceCtorEq, ← hR]
              refine callK_pure a1 ?_
              simp -implicitDefEqProofs (maxSteps := 2000000) (disch := omega) only [go_sem, condB_t, condB_f, pf0, dec_t, dec_f, and_of, ↓reduceIte, Nat.reduceEqDiff, Nat.reduceMul, Nat.reduceAdd, Nat.reduceSub, Nat.reduceLT, Nat.reduceLeDiff, Int.reduceToNat, Nat.reducePow, Int.reducePow, Int.reduceLT, Int.reduceLE, Int.reduceNeg, Int.reduceAdd, Int.reduceSub, Int.reduceMul, decide_true, decide_false, reduceCtorEq]
              refine callK_pure cb ?_
              simp -implicitDefEqProofs (maxSteps := 2000000) (disch := omega) only [go_sem, condB_t, condB_f, pf0, dec_t, dec_f, and_of, ↓reduceIte, Nat.reduceEqDiff, Nat.reduceMul, Nat.reduceAdd, Nat.reduceSub, Nat.reduceLT, Nat.reduceLeDiff, Int.reduceToNat, Nat.reducePow, Int.reducePow, Int.reduceLT, Int.reduceLE, Int.reduceNeg, Int.reduceAdd, Int.reduceSub, Int.reduceMul, decide_true, decide_false, reduceCtorEq]
              refine callK_row2 a2 (by simp only [upd_same] <;> rfl) rfl (by simp) rfl (numL_plain _) ?_
              simp -implicitDefEqProofs (maxSteps := 2000000) (disch := omega) only [go_sem, condB_t, condB_f, pf0, dec_t, dec_f, and_of, ↓reduceIte, Nat.reduceEqDiff, Nat.reduceMul, Nat.reduceAdd, Nat.reduceSub, Nat.reduceLT, Nat.reduceLeDiff, Int.reduceToNat, Nat.reducePow, Int.reducePow, Int.reduceLT, Int.reduceLE, Int.reduceNeg, Int.reduceAdd, Int.reduceSub, Int.reduceMul, decide_true, decide_false, reduceCtorEq]
              refine callK_pure (s2 _ (by omega) h2) ?_
              simp -implicitDefEqProofs (maxSteps := 2000000) (disch := omega) only [go_sem, condB_t, condB_f, pf0, dec_t, dec_f, and_of, ↓reduceIte, Nat.reduceEqDiff, Nat.reduceMul, Nat.reduceAdd, Nat.reduceSub, Nat.reduceLT, Nat.reduceLeDiff, Int.reduceToNat, Nat.reducePow, Int.reducePow, Int.reduceLT, Int.reduceLE, Int.reduceNeg, Int.reduceAdd, Int.reduceSub, Int.reduceMul, decide_true, decide_false, reduceCtorEq]
              refine ⟨(i, q), ⟨by simp only; omega, hql, hqb, ?_⟩, by simp only; omega, by (refine Weak.head1 (by simp -implicitDefEqProofs (maxSteps := 2000000) (disch := omega) only [go_sem, condB_t, condB_f, pf0, dec_t, dec_f, and_of, ↓reduceIte, Nat.reduceEqDiff, Nat.reduceMul, Nat.reduceAdd, Nat.reduceSub, Nat.reduceLT, Nat.reduceLeDiff, Int.reduceToNat, Nat.reducePow, Int.reducePow, Int.reduceLT, Int.reduceLE, Int.reduceNeg, Int.reduceAdd, Int.reduceSub, Int.reduceMul, decide_true, decide_false, reduceCtorEq]) (by omega) (numL_leafU _ _) (fun k0 hk0 => by have hk1 : (k0 = id) = False := eq_false hk0; by_cases e : k0 = id + 136 <;> (simp -implicitDefEqProofs (maxSteps := 2000000) (disch := omega) only [go_sem, condB_t, condB_f, pf0, dec_t, dec_f, and_of, ↓reduceIte, Nat.reduceEqDiff, Nat.reduceMul, Nat.reduceAdd, Nat.reduceSub, Nat.reduceLT, Nat.reduceLeDiff, Int.reduceToNat, Nat.reducePow, Int.reducePow, Int.reduceLT, Int.reduceLE, Int.reduceNeg, Int.reduceAdd, Int.reduceSub, Int.reduceMul, decide_true, decide_false, reduceCtorEq, upd, mkH, hk1, e]) <;> first | done | exact (hn _ (by omega)).symm) (by omega) hmen ?_; simp -implicitDefEqProofs (maxSteps := 2000000) (disch := omega) only [go_sem, condB_t, condB_f, pf0, dec_t, dec_f, and_of, ↓reduceIte, Nat.reduceEqDiff, Nat.reduceMul, Nat.reduceAdd, Nat.reduceSub, Nat.reduceLT, Nat.reduceLeDiff, Int.reduceToNat, Nat.reducePow, Int.reducePow, Int.reduceLT, Int.reduceLE, Int.reduceNeg, Int.reduceAdd, Int.reduceSub, Int.reduceMul, decide_true, decide_false, reduceCtorEq, AllP, AVle_same, AVle_int, AVle_nil, AVle_row, topU_int, topU_bool, topU_sl, topU_row, topU_ptr, topU_iptr, topU_fn, val, List.drop_length, d2])⟩
              simp only
              rw [d1, ← Nat.mul_assoc, ← Nat.pow_succ]; exact hqv
            · rw [if_neg h2] at hbd
              obtain ⟨d1, d2⟩ := hbd
              simp -implicitDefEqProofs (maxSteps := 2000000) (disch := omega) only [go_sem, condB_t, condB_f, pf0, dec_t, dec_f, and_of, ↓reduceIte, Nat.reduceEqDiff, Nat.reduceMul, Nat.reduceAdd, Nat.reduceSub, Nat.reduceLT, Nat.reduceLeDiff, Int.reduceToNat, Nat.reducePow, Int.reducePow, Int.reduceLT, Int.reduceLE, Int.reduceNeg, Int.reduceAdd, Int.reduceSub, Int.reduceMul, decide_true, decide_false, reduceCtorEq, ← hR]
              refine callK_pure a1 ?_
              simp -implicitDefEqProofs (maxSteps := 2000000) (disch := omega) only [go_sem, condB_t, condB_f, pf0, dec_t, dec_f, and_of, ↓reduceIte, Nat.reduceEqDiff, Nat.reduceMul, Nat.reduceAdd, Nat.reduceSub, Nat.reduceLT, Nat.reduceLeDiff, Int.reduceToNat, Nat.reducePow, Int.reducePow, Int.reduceLT, Int.reduceLE, Int.reduceNeg, Int.reduceAdd, Int.reduceSub, Int.reduceMul, decide_true, decide_false, reduceCtorEq]
              refine callK_pure cb ?_
              simp -implicitDefEqProofs (maxSteps := 2000000) (disch := omega) only [go_sem, condB_t, condB_f, pf0, dec_t, dec_f, and_of, ↓reduceIte, Nat.reduceEqDiff, Nat.reduceMul, Nat.reduceAdd, Nat.reduceSub, Nat.reduceLT, Nat.reduceLeDiff, Int.reduceToNat, Nat.reducePow, Int.reducePow, Int.reduceLT, Int.reduceLE, Int.reduceNeg, Int.reduceAdd, Int.reduceSub, Int.reduceMul, decide_true, decide_false, reduceCtorEq]
              refine callK_row2 a2 (by simp only [upd_same] <;> rfl) rfl (by simp) rfl (numL_plain _) ?_
              simp -implicitDefEqProofs (maxSteps := 2000000) (disch := omega) only [go_sem, condB_t, condB_f, pf0, dec_t, dec_f, and_of, ↓reduceIte, Nat.reduceEqDiff, Nat.reduceMul, Nat.reduceAdd, Nat.reduceSub, Nat.reduceLT, Nat.reduceLeDiff, Int.reduceToNat, Nat.reducePow, Int.reducePow, Int.reduceLT, Int.reduceLE, Int.reduceNeg, Int.reduceAdd, Int.reduceSub, Int.reduceMul, decide_true, decide_false, reduceCtorEq]
              refine callK_pure (s1 _ (by omega) (by omega)) ?_
              simp -implicitDefEqProofs (maxSteps := 2000000) (disch := omega) only [go_sem, condB_t, condB_f, pf0, dec_t, dec_f, and_of, ↓reduceIte, Nat.reduceEqDiff, Nat.reduceMul, Nat.reduceAdd, Nat.reduceSub, Nat.reduceLT, Nat.reduceLeDiff, Int.reduceToNat, Nat.reducePow, Int.reducePow, Int.reduceLT, Int.reduceLE, Int.reduceNeg, Int.reduceAdd, Int.reduceSub, Int.reduceMul, decide_true, decide_false, reduceCtorEq, or1]
              refine ⟨(i, q.set (i / 32) (q.getD (i / 32) 0 + 2 ^ (i % 32))), ⟨by simp only; omega, by simp only; rw [List.length_set]; exact hql, hqb.set or2, ?_⟩, by simp only; omega, by (refine Weak.head1 (by simp -implicitDefEqProofs (maxSteps := 2000000) (disch := omega) only [go_sem, condB_t, condB_f, pf0, dec_t, dec_f, and_of, ↓reduceIte, Nat.reduceEqDiff, Nat.reduceMul, Nat.reduceAdd, Nat.reduceSub, Nat.reduceLT, Nat.reduceLeDiff, Int.reduceToNat, Nat.reducePow, Int.reducePow, Int.reduceLT, Int.reduceLE, Int.reduceNeg, Int.reduceAdd, Int.reduceSub, Int.reduceMul, decide_true, decide_false, reduceCtorEq]) (by omega) (numL_leafU _ _) (fun k0 hk0 => by have hk1 : (k0 = id) = False := eq_false hk0; by_cases e : k0 = id + 136 <;> (simp -implicitDefEqProofs (maxSteps := 2000000) (disch := omega) only [go_sem, condB_t, condB_f, pf0, dec_t, dec_f, and_of, ↓reduceIte, Nat.reduceEqDiff, Nat.reduceMul, Nat.reduceAdd, Nat.reduceSub, Nat.reduceLT, Nat.reduceLeDiff, Int.reduceToNat, Nat.reducePow, Int.reducePow, Int.reduceLT, Int.reduceLE, Int.reduceNeg, Int.reduceAdd, Int.reduceSub, Int.reduceMul, decide_true, decide_false, reduceCtorEq, upd, mkH, hk1, e]) <;> first | done | exact (hn _ (by omega)).symm) (by omega) hmen ?_; simp -implicitDefEqProofs (maxSteps := 2000000) (disch := omega) only [go_sem, condB_t, condB_f, pf0, dec_t, dec_f, and_of, ↓reduceIte, Nat.reduceEqDiff, Nat.reduceMul, Nat.reduceAdd, Nat.reduceSub, Nat.reduceLT, Nat.reduceLeDiff, Int.reduceToNat, Nat.reducePow, Int.reducePow, Int.reduceLT, Int.reduceLE, Int.reduceNeg, Int.reduceAdd, Int.reduceSub, Int.reduceMul, decide_true, decide_false, reduceCtorEq, AllP, AVle_same, AVle_int, AVle_nil, AVle_row, topU_int, topU_bool, topU_sl, topU_row, topU_ptr, topU_iptr, topU_fn, val, List.drop_length, d2])⟩
              simp only
              rw [d1]; exact hsb
        · obtain rfl : j = 0 := by omega
          rw [Nat.pow_zero, Nat.div_one, Nat.one_mul] at hqv
          have c1 := r1trim_spec q hqb (by omega)
          rw [← hQ0] at hqv
          have e0 : A / 1 % B = R0 := by rw [Nat.div_one, hR0]
          have hRB : R0 < B := by rw [hR0]; exact Nat.mod_lt _ hBp
          have lR := lim_len_mono (Nat.le_of_lt hRB)
          have c2 := r1trim_spec (lim R0) (lb_lim _) (by omega)
          clear hR0 hQ0
          rw [hqv] at c1
          rw [val_lim] at c2
          unfold nl at *
          simp -implicitDefEqProofs (maxSteps := 2000000) (disch := omega) only [go_sem, condB_t, condB_f, pf0, dec_t, dec_f, and_of, ↓reduceIte, Nat.reduceEqDiff, Nat.reduceMul, Nat.reduceAdd, Nat.reduceSub, Nat.reduceLT, Nat.reduceLeDiff, Int.reduceToNat, Nat.reducePow, Int.reducePow, Int.reduceLT, Int.reduceLE, Int.reduceNeg, Int.reduceAdd, Int.reduceSub, Int.reduceMul, decide_true, decide_false, reduceCtorEq, e0]
          refine callK_row c1 (by simp only [upd_same, mkH_cons, ↓reduceIte] <;> rfl) (by simp [hql]) (by omega) (List.take_of_length_le (by simp [hql])) (numL_plain _) ?_
          simp -implicitDefEqProofs (maxSteps := 2000000) (disch := omega) only [go_sem, condB_t, condB_f, pf0, dec_t, dec_f, and_of, ↓reduceIte, Nat.reduceEqDiff, Nat.reduceMul, Nat.reduceAdd, Nat.reduceSub, Nat.reduceLT, Nat.reduceLeDiff, Int.reduceToNat, Nat.reducePow, Int.reducePow, Int.reduceLT, Int.reduceLE, Int.reduceNeg, Int.reduceAdd, Int.reduceSub, Int.reduceMul, decide_true, decide_false, reduceCtorEq]
          refine callK_pure c2 ?_
          simp -implicitDefEqProofs (maxSteps := 2000000) (disch := omega) only [go_sem, condB_t, condB_f, pf0, dec_t, dec_f, and_of, ↓reduceIte, Nat.reduceEqDiff, Nat.reduceMul, Nat.reduceAdd, Nat.reduceSub, Nat.reduceLT, Nat.reduceLeDiff, Int.reduceToNat, Nat.reducePow, Int.reducePow, Int.reduceLT, Int.reduceLE, Int.reduceNeg, Int.reduceAdd, Int.reduceSub, Int.reduceMul, decide_true, decide_false, reduceCtorEq]
          exact dn
  · refine callK_pure (cA2 hA) ?_
    simp -implicitDefEqProofs (maxSteps := 2000000) (disch := omega) only [go_sem, condB_t, condB_f, pf0, dec_t, dec_f, and_of, ↓reduceIte, Nat.reduceEqDiff, Nat.reduceMul, Nat.reduceAdd, Nat.reduceSub, Nat.reduceLT, Nat.reduceLeDiff, Int.reduceToNat, Nat.reducePow, Int.reducePow, Int.reduceLT, Int.reduceLE, Int.reduceNeg, Int.reduceAdd, Int.reduceSub, Int.reduceMul, decide_true, decide_false, reduceCtorEq]
    by_cases hB : B < 18446744073709551616
    · refine callK_pure (cB1 hB) ?_
      simp -implicitDefEqProofs (maxSteps := 2000000) (disch := omega) only [go_sem, condB_t, condB_f, pf0, dec_t, dec_f, and_of, ↓reduceIte, Nat.reduceEqDiff, Nat.reduceMul, Nat.reduceAdd, Nat.reduceSub, Nat.reduceLT, Nat.reduceLeDiff, Int.reduceToNat, Nat.reducePow, Int.reducePow, Int.reduceLT, Int.reduceLE, Int.reduceNeg, Int.reduceAdd, Int.reduceSub, Int.reduceMul, decide_true, decide_false, reduceCtorEq]
      refine callK_pure cbits ?_
      simp -implicitDefEqProofs (maxSteps := 2000000) (disch := omega) only [go_sem, condB_t, condB_f, pf0, dec_t, dec_f, and_of, ↓reduceIte, Nat.reduceEqDiff, Nat.reduceMul, Nat.reduceAdd, Nat.reduceSub, Nat.reduceLT, Nat.reduceLeDiff, Int.reduceToNat, Nat.reducePow, Int.reducePow, Int.reduceLT, Int.reduceLE, Int.reduceNeg, Int.reduceAdd, Int.reduceSub, Int.reduceMul, decide_true, decide_false, reduceCtorEq]
      obtain ⟨id, hid⟩ : ∃ id, id = N0 + 232 := ⟨_, rfl⟩
      rw [← hid]
      refine aw_loop (X := Nat × List Nat) (fun x => ⟨mkS [(0, .sl 1 (numL a)), (1, .sl 1 (numL (lim B))), (4, .row id a.length 0 a.length), (5, .sl 1 (numL (lim (A / 2 ^ x.1 % B)))), (11, .int .i64 ((x.1 : Int) - 1))], mkH h [(id, ⟨1, numL x.2⟩)], id + 48⟩)
        (fun x => x.1 ≤ nbits A ∧ x.2.length = a.length ∧ Lb x.2 ∧ val x.2 = 2 ^ x.1 * (A / 2 ^ x.1 / B)) (fun x => x.1)
        ⟨(nbits A, List.replicate a.length 0), ⟨Nat.le_refl _, by simp, Lb.zeros _, by rw [val_zeros, hA0, Nat.zero_div, Nat.mul_zero]⟩, ?_⟩ ?_
      · (refine Weak.head1 (by simp only [upd_same, mkH_cons, ↓reduceIte] <;> rfl) (by omega) (numL_leafU _ _) (fun q hq => by simp only [upd, mkH, if_neg hq]) (by omega) hmen ?_; simp -implicitDefEqProofs (maxSteps := 2000000) (disch := omega) only [go_sem, condB_t, condB_f, pf0, dec_t, dec_f, and_of, ↓reduceIte, Nat.reduceEqDiff, Nat.reduceMul, Nat.reduceAdd, Nat.reduceSub, Nat.reduceLT, Nat.reduceLeDiff, Int.reduceToNat, Nat.reducePow, Int.reducePow, Int.reduceLT, Int.reduceLE, Int.reduceNeg, Int.reduceAdd, Int.reduceSub, Int.reduceMul, decide_true, decide_false, reduceCtorEq, AllP, AVle_same, AVle_int, AVle_nil, AVle_row, topU_int, topU_bool, topU_sl, topU_row, topU_ptr, topU_iptr, topU_fn, val, List.drop_length, hA0, Nat.zero_mod, lim_zero, numL_nil])
      · rintro ⟨j, q⟩ ⟨hj, hql, hqb, hqv⟩
        simp only at hj hql hqb hqv
        by_cases h1 : 0 < j
        · obtain ⟨i, rfl⟩ : ∃ i, j = i + 1 := ⟨j - 1, by omega⟩
          obtain ⟨bt, hbt⟩ : ∃ x, x = A / 2 ^ i % 2 := ⟨_, rfl⟩
          have hbt2 : bt < 2 := by rw [hbt]; exact Nat.mod_lt _ (by decide)
          have hbs := bin_step (A := A) (i := i) hBp
          rw [← hbt] at hbs
          have hbd := bin_div hBp hbt2 hbs
          have hi32 : i / 32 < a.length := by omega
          have hqi : i / 32 < q.length := by omega
          have hm32 : i % 32 < 32 := Nat.mod_lt _ (by decide)
          have hlm := limb_mod hqb hqi hqv
          have hlt := hqb.get (i / 32)
          obtain ⟨or1, or2⟩ := or_bit hm32 hlt hlm
          have hsb := set_bit hqb hqi hqv
          have hp32 : 2 ^ (i % 32) < 4294967296 := by omega
          obtain ⟨R, hR⟩ : ∃ R, R = A / 2 ^ (i + 1) % B := ⟨_, rfl⟩
          rw [← hR] at hbd
          have hRB : R < B := by rw [hR]; exact Nat.mod_lt _ hBp
          have lR := lim_len_mono (Nat.le_of_lt hRB)
          have a1 := r1add_spec (lim R) (lim R) (lb_lim _) (lb_lim _) (by omega) (by omega)
          have l2R := lim_len_add R R
          have a2 := r1add_spec (lim (R + R)) [1] (lb_lim _) (by intro x hx; rw [List.mem_singleton.1 hx]; decide) (by omega) (by simp)
          have cb := cbit i (by omega)
          rw [← hbt] at cb
          have l2R1 := lim_len_add (R + R) 1
          have l1 : (lim 1).length = 1 := by rw [lim_one]; rfl
          have s1 := fun c (hc : (lim c).length ≤ 1099511627776) (h : B ≤ c) => r1sub_ok (lim c) (lim B) (lb_lim _) (lb_lim _) hc (by omega) (by rw [val_lim, val_lim]; exact h)
          have s2 := fun c (hc : (lim c).length ≤ 1099511627776) (h : c < B) => r1sub_no (lim c) (lim B) (lb_lim _) (lb_lim _) hc (by omega) (by rw [val_lim, val_lim]; exact h)
          simp only [val_lim] at a1 a2 s1 s2
          have e1 : val [1] = 1 := rfl
          rw [e1] at a2
          unfold nl at *
          clear hbt hA0
          have hcase : bt = 0 ∨ bt = 1 := by omega
          rcases hcase with rfl | rfl
          · have t0 : R + R = 2 * R := by omega
            rw [t0] at a1 l2R
            simp only [Nat.add_zero] at hbd
            by_cases h2 : 2 * R < B
            · rw [if_pos h2] at hbd
              obtain ⟨d1, d2⟩ := hbd
              simp -implicitDefEqProofs (maxSteps := 2000000) (disch := omega) only [go_sem, condB_t, condB_f, pf0, dec_t, dec_f, and_of, ↓reduceIte, Nat.reduceEqDiff, Nat.reduceMul, Nat.reduceAdd, Nat.reduceSub, Nat.reduceLT, Nat.reduceLeDiff, Int.reduceToNat, Nat.reducePow, Int.reducePow, Int.reduceLT, Int.reduceLE, Int.reduceNeg, Int.reduceAdd, Int.reduceSub, Int.reduceMul, decide_true, decide_false, reduceCtorEq, ← hR]
              refine callK_pure a1 ?_
              simp -implicitDefEqProofs (maxSteps := 2000000) (disch := omega) only [go_sem, condB_t, condB_f, pf0, dec_t, dec_f, and_of, ↓reduceIte, Nat.reduceEqDiff, Nat.reduceMul, Nat.reduceAdd, Nat.reduceSub, Nat.reduceLT, Nat.reduceLeDiff, Int.reduceToNat, Nat.reducePow, Int.reducePow, Int.reduceLT, Int.reduceLE, Int.reduceNeg, Int.reduceAdd, Int.reduceSub, Int.reduceMul, decide_true, decide_false, reduceCtorEq]
              refine callK_pure cb ?_
              simp -implicitDefEqProofs (maxSteps := 2000000) (disch := omega) only [go_sem, condB_t, condB_f, pf0, dec_t, dec_f, and_of, ↓reduceIte, Nat.reduceEqDiff, Nat.reduceMul, Nat.reduceAdd, Nat.reduceSub, Nat.reduceLT, Nat.reduceLeDiff, Int.reduceToNat, Nat.reducePow, Int.reducePow, Int.reduceLT, Int.reduceLE, Int.reduceNeg, Int.reduceAdd, Int.reduceSub, Int.reduceMul, decide_true, decide_false, reduceCtorEq]
              refine callK_pure (s2 _ (by omega) h2) ?_
              simp -implicitDefEqProofs (maxSteps := 2000000) (disch := omega) only [go_sem, condB_t, condB_f, pf0, dec_t, dec_f, and_of, ↓reduceIte, Nat.reduceEqDiff, Nat.reduceMul, Nat.reduceAdd, Nat.reduceSub, Nat.reduceLT, Nat.reduceLeDiff, Int.reduceToNat, Nat.reducePow, Int.reducePow, Int.reduceLT, Int.reduceLE, Int.reduceNeg, Int.reduceAdd, Int.reduceSub, Int.reduceMul, decide_true, decide_false, reduceCtorEq]
              refine ⟨(i, q), ⟨by simp only; omega, hql, hqb, ?_⟩, by simp only; omega, by (refine Weak.head1 (by simp only [upd_same, mkH_cons, ↓reduceIte] <;> rfl) (by omega) (numL_leafU _ _) (fun q hq => by simp only [upd, mkH, if_neg hq]) (by omega) hmen ?_; simp -implicitDefEqProofs (maxSteps := 2000000) (disch := omega) only [go_sem, condB_t, condB_f, pf0, dec_t, dec_f, and_of, ↓reduceIte, Nat.reduceEqDiff, Nat.reduceMul, Nat.reduceAdd, Nat.reduceSub, Nat.reduceLT, Nat.reduceLeDiff, Int.reduceToNat, Nat.reducePow, Int.reducePow, Int.reduceLT, Int.reduceLE, Int.reduceNeg, Int.reduceAdd, Int.reduceSub, Int.reduceMul, decide_true, decide_false, reduceCtorEq, AllP, AVle_same, AVle_int, AVle_nil, AVle_row, topU_int, topU_bool, topU_sl, topU_row, topU_ptr, topU_iptr, topU_fn, val, List.drop_length, d2])⟩
              simp only
              rw [d1, ← Nat.mul_assoc, ← Nat.pow_succ]; exact hqv
            · rw [if_neg h2] at hbd
              obtain ⟨d1, d2⟩ := hbd
              simp -implicitDefEqProofs (maxSteps := 2000000) (disch := omega) only [go_sem, condB_t, condB_f, pf0, dec_t, dec_f, and_of, ↓reduceIte, Nat.reduceEqDiff, Nat.reduceMul, Nat.reduceAdd, Nat.reduceSub, Nat.reduceLT, Nat.reduceLeDiff, Int.reduceToNat, Nat.reducePow, Int.reducePow, Int.reduceLT, Int.reduceLE, Int.reduceNeg, Int.reduceAdd, Int.reduceSub, Int.reduceMul, decide_true, decide_false, reduceCtorEq, ← hR]
              refine callK_pure a1 ?_
              simp -implicitDefEqProofs (maxSteps := 2000000) (disch := omega) only [go_sem, condB_t, condB_f, pf0, dec_t, dec_f, and_of, ↓reduceIte, Nat.reduceEqDiff, Nat.reduceMul, Nat.reduceAdd, Nat.reduceSub, Nat.reduceLT, Nat.reduceLeDiff, Int.reduceToNat, Nat.reducePow, Int.reducePow, Int.reduceLT, Int.reduceLE, Int.reduceNeg, Int.reduceAdd, Int.reduceSub, Int.reduceMul, decide_true, decide_false, reduceCtorEq]
              refine callK_pure cb ?_
              simp -implicitDefEqProofs (maxSteps := 2000000) (disch := omega) only [go_sem, condB_t, condB_f, pf0, dec_t, dec_f, and_of, ↓reduceIte, Nat.reduceEqDiff, Nat.reduceMul, Nat.reduceAdd, Nat.reduceSub, Nat.reduceLT, Nat.reduceLeDiff, Int.reduceToNat, Nat.reducePow, Int.reducePow, Int.reduceLT, Int.reduceLE, Int.reduceNeg, Int.reduceAdd, Int.reduceSub, Int.reduceMul, decide_true, decide_false, reduceCtorEq]
              refine callK_pure (s1 _ (by omega) (by omega)) ?_
              simp -implicitDefEqProofs (maxSteps := 2000000) (disch := omega) only [go_sem, condB_t, condB_f, pf0, dec_t, dec_f, and_of, ↓reduceIte, Nat.reduceEqDiff, Nat.reduceMul, Nat.reduceAdd, Nat.reduceSub, Nat.reduceLT, Nat.reduceLeDiff, Int.reduceToNat, Nat.reducePow, Int.reducePow, Int.reduceLT, Int.reduceLE, Int.reduceNeg, Int.reduceAdd, Int.reduceSub, Int.reduceMul, decide_true, decide_false, reduceCtorEq, or1]
              refine ⟨(i, q.set (i / 32) (q.getD (i / 32) 0 + 2 ^ (i % 32))), ⟨by simp only; omega, by simp only; rw [List.length_set]; exact hql, hqb.set or2, ?_⟩, by simp only; omega, by (refine Weak.head1 (by simp only [upd_same, mkH_cons, ↓reduceIte] <;> rfl) (by omega) (numL_leafU _ _) (fun q hq => by simp only [upd, mkH, if_neg hq]) (by omega) hmen ?_; simp -implicitDefEqProofs (maxSteps := 2000000) (disch := omega) only [go_sem, condB_t, condB_f, pf0, dec_t, dec_f, and_of, ↓reduceIte, Nat.reduceEqDiff, Nat.reduceMul, Nat.reduceAdd, Nat.reduceSub, Nat.reduceLT, Nat.reduceLeDiff, Int.reduceToNat, Nat.reducePow, Int.reducePow, Int.reduceLT, Int.reduceLE, Int.reduceNeg, Int.reduceAdd, Int.reduceSub, Int.reduceMul, decide_true, decide_false, reduceCtorEq, AllP, AVle_same, AVle_int, AVle_nil, AVle_row, topU_int, topU_bool, topU_sl, topU_row, topU_ptr, topU_iptr, topU_fn, val, List.drop_length, d2])⟩
              simp only
              rw [d1]; exact hsb
          · have t0 : R + R = 2 * R := by omega
            rw [t0] at a1 a2 l2R l2R1
            by_cases h2 : 2 * R + 1 < B
            · rw [if_pos h2] at hbd
              obtain ⟨d1, d2⟩ := hbd
              simp -implicitDefEqProofs (maxSteps := 2000000) (disch := omega) only [go_sem, condB_t, condB_f, pf0, dec_t, dec_f, and_of, ↓reduceIte, Nat.reduceEqDiff, Nat.reduceMul, Nat.reduceAdd, Nat.reduceSub, Nat.reduceLT, Nat.reduceLeDiff, Int.reduceToNat, Nat.reducePow, Int.reducePow, Int.reduceLT, Int.reduceLE, Int.reduceNeg, Int.reduceAdd, Int.reduceSub, Int.reduceMul, decide_true, decide_false, reduceCtorEq, ← hR]
              refine callK_pure a1 ?_
              simp -implicitDefEqProofs (maxSteps := 2000000) (disch := omega) only [go_sem, condB_t, condB_f, pf0, dec_t, dec_f, and_of, ↓reduceIte, Nat.reduceEqDiff, Nat.reduceMul, Nat.reduceAdd, Nat.reduceSub, Nat.reduceLT, Nat.reduceLeDiff, Int.reduceToNat, Nat.reducePow, Int.reducePow, Int.reduceLT, Int.reduceLE, Int.reduceNeg, Int.reduceAdd, Int.reduceSub, Int.reduceMul, decide_true, decide_false, reduceCtorEq]
              refine callK_pure cb ?_
              simp -implicitDefEqProofs (maxSteps := 2000000) (disch := omega) only [go_sem, condB_t, condB_f, pf0, dec_t, dec_f, and_of, ↓reduceIte, Nat.reduceEqDiff, Nat.reduceMul, Nat.reduceAdd, Nat.reduceSub, Nat.reduceLT, Nat.reduceLeDiff, Int.reduceToNat, Nat.reducePow, Int.reducePow, Int.reduceLT, Int.reduceLE, Int.reduceNeg, Int.reduceAdd, Int.reduceSub, Int.reduceMul, decide_true, decide_false, reduceCtorEq]
              refine callK_row2 a2 (by simp only [upd_same] <;> rfl) rfl (by simp) rfl (numL_plain _) ?_
              simp -implicitDefEqProofs (maxSteps := 2000000) (disch := omega) only [go_sem, condB_t, condB_f, pf0, dec_t, dec_f, and_of, ↓reduceIte, Nat.reduceEqDiff, Nat.reduceMul, Nat.reduceAdd, Nat.reduceSub, Nat.reduceLT, Nat.reduceLeDiff, Int.reduceToNat, Nat.reducePow, Int.reducePow, Int.reduceLT, Int.reduceLE, Int.reduceNeg, Int.reduceAdd, Int.reduceSub, Int.reduceMul, decide_true, decide_false, reduceCtorEq]
              refine callK_pure (s2 _ (by omega) h2) ?_
              simp -implicitDefEqProofs (maxSteps := 2000000) (disch := omega) only [go_sem, condB_t, condB_f, pf0, dec_t, dec_f, and_of, ↓reduceIte, Nat.reduceEqDiff, Nat.reduceMul, Nat.reduceAdd, Nat.reduceSub, Nat.reduceLT, Nat.reduceLeDiff, Int.reduceToNat, Nat.reducePow, Int.reducePow, Int.reduceLT, Int.reduceLE, Int.reduceNeg, Int.reduceAdd, Int.reduceSub, Int.reduceMul, decide_true, decide_false, reduceCtorEq]
              refine ⟨(i, q), ⟨by simp only; omega, hql, hqb, ?_⟩, by simp only; omega, by (refine Weak.head1 (by simp -implicitDefEqProofs (maxSteps := 2000000) (disch := omega) only [go_sem, condB_t, condB_f, pf0, dec_t, dec_f, and_of, ↓reduceIte, Nat.reduceEqDiff, Nat.reduceMul, Nat.reduceAdd, Nat.reduceSub, Nat.reduceLT, Nat.reduceLeDiff, Int.reduceToNat, Nat.reducePow, Int.reducePow, Int.reduceLT, Int.reduceLE, Int.reduceNeg, Int.reduceAdd, Int.reduceSub, Int.reduceMul, decide_true, decide_false, reduceCtorEq]) (by omega) (numL_leafU _ _) (fun k0 hk0 => by have hk1 : (k0 = id) = False := eq_false hk0; by_cases e : k0 = id + 136 <;> (simp -implicitDefEqProofs (maxSteps := 2000000) (disch := omega) only [go_sem, condB_t, condB_f, pf0, dec_t, dec_f, and_of, ↓reduceIte, Nat.reduceEqDiff, Nat.reduceMul, Nat.reduceAdd, Nat.reduceSub, Nat.reduceLT, Nat.reduceLeDiff, Int.reduceToNat, Nat.reducePow, Int.reducePow, Int.reduceLT, Int.reduceLE, Int.reduceNeg, Int.reduceAdd, Int.reduceSub, Int.reduceMul, decide_true, decide_false, reduceCtorEq, upd, mkH, hk1, e]) <;> first | done | exact (hn _ (by omega)).symm) (by omega) hmen ?_; simp -implicitDefEqProofs (maxSteps := 2000000) (disch := omega) only [go_sem, condB_t, condB_f, pf0, dec_t, dec_f, and_of, ↓reduceIte, Nat.reduceEqDiff, Nat.reduceMul, Nat.reduceAdd, Nat.reduceSub, Nat.reduceLT, Nat.reduceLeDiff, Int.reduceToNat, Nat.reducePow, Int.reducePow, Int.reduceLT, Int.reduceLE, Int.reduceNeg, Int.reduceAdd, Int.reduceSub, Int.reduceMul, decide_true, decide_false, reduceCtorEq, AllP, AVle_same, AVle_int, AVle_nil, AVle_row, topU_int, topU_bool, topU_sl, topU_row, topU_ptr, topU_iptr, topU_fn, val, List.drop_length, d2])⟩
              simp only
              rw [d1, ← Nat.mul_assoc, ← Nat.pow_succ]; exact hqv
            · rw [if_neg h2] at hbd
              obtain ⟨d1, d2⟩ := hbd
              simp -implicitDefEqProofs (maxSteps := 2000000) (disch := omega) only [go_sem, condB_t, condB_f, pf0, dec_t, dec_f, and_of, ↓reduceIte, Nat.reduceEqDiff, Nat.reduceMul, Nat.reduceAdd, Nat.reduceSub, Nat.reduceLT, Nat.reduceLeDiff, Int.reduceToNat, Nat.reducePow, Int.reducePow, Int.reduceLT, Int.reduceLE, Int.reduceNeg, Int.reduceAdd, Int.reduceSub, Int.reduceMul, decide_true, decide_false, reduceCtorEq, ← hR]
              refine callK_pure a1 ?_
              simp -implicitDefEqProofs (maxSteps := 2000000) (disch := omega) only [go_sem, condB_t, condB_f, pf0, dec_t, dec_f, and_of, ↓reduceIte, Nat.reduceEqDiff, Nat.reduceMul, Nat.reduceAdd, Nat.reduceSub, Nat.reduceLT, Nat.reduceLeDiff, Int.reduceToNat, Nat.reducePow, Int.reducePow, Int.reduceLT, Int.reduceLE, Int.reduceNeg, Int.reduceAdd, Int.reduceSub, Int.reduceMul, decide_true, decide_false, reduceCtorEq]
              refine callK_pure cb ?_
              simp -implicitDefEqProofs (maxSteps := 2000000) (disch := omega) only [go_sem, condB_t, condB_f, pf0, dec_t, dec_f, and_of, ↓reduceIte, Nat.reduceEqDiff, Nat.reduceMul, Nat.reduceAdd, Nat.reduceSub, Nat.reduceLT, Nat.reduceLeDiff, Int.reduceToNat, Nat.reducePow, Int.reducePow, Int.reduceLT, Int.reduceLE, Int.reduceNeg, Int.reduceAdd, Int.reduceSub, Int.reduceMul, decide_true, decide_false, reduceCtorEq]
              refine callK_row2 a2 (by simp only [upd_same] <;> rfl) rfl (by simp) rfl (numL_plain _) ?_
              simp -implicitDefEqProofs (maxSteps := 2000000) (disch := omega) only [go_sem, condB_t, condB_f, pf0, dec_t, dec_f, and_of, ↓reduceIte, Nat.reduceEqDiff, Nat.reduceMul, Nat.reduceAdd, Nat.reduceSub, Nat.reduceLT, Nat.reduceLeDiff, Int.reduceToNat, Nat.reducePow, Int.reducePow, Int.reduceLT, Int.reduceLE, Int.reduceNeg, Int.reduceAdd, Int.reduceSub, Int.reduceMul, decide_true, decide_false, reduceCtorEq]
              refine callK_pure (s1 _ (by omega) (by omega)) ?_
              simp -implicitDefEqProofs (maxSteps := 2000000) (disch := omega) only [go_sem, condB_t, condB_f, pf0, dec_t, dec_f, and_of, ↓reduceIte, Nat.reduceEqDiff, Nat.reduceMul, Nat.reduceAdd, Nat.reduceSub, Nat.reduceLT, Nat.reduceLeDiff, Int.reduceToNat, Nat.reducePow, Int.reducePow, Int.reduceLT, Int.reduceLE, Int.reduceNeg, Int.reduceAdd, Int.reduceSub, Int.reduceMul, decide_true, decide_false, reduceCtorEq, or1]
              refine ⟨(i, q.set (i / 32) (q.getD (i / 32) 0 + 2 ^ (i % 32))), ⟨by simp only; omega, by simp only; rw [List.length_set]; exact hql, hqb.set or2, ?_⟩, by simp only; omega, by (refine Weak.head1 (by simp -implicitDefEqProofs (maxSteps := 2000000) (disch := omega) only [go_sem, condB_t, condB_f, pf0, dec_t, dec_f, and_of, ↓reduceIte, Nat.reduceEqDiff, Nat.reduceMul, Nat.reduceAdd, Nat.reduceSub, Nat.reduceLT, Nat.reduceLeDiff, Int.reduceToNat, Nat.reducePow, Int.reducePow, Int.reduceLT, Int.reduceLE, Int.reduceNeg, Int.reduceAdd, Int.reduceSub, Int.reduceMul, decide_true, decide_false, reduceCtorEq]) (by omega) (numL_leafU _ _) (fun k0 hk0 => by have hk1 : (k0 = id) = False := eq_false hk0; by_cases e : k0 = id + 136 <;> (simp -implicitDefEqProofs (maxSteps := 2000000) (disch := omega) only [go_sem, condB_t, condB_f, pf0, dec_t, dec_f, and_of, ↓reduceIte, Nat.reduceEqDiff, Nat.reduceMul, Nat.reduceAdd, Nat.reduceSub, Nat.reduceLT, Nat.reduceLeDiff, Int.reduceToNat, Nat.reducePow, Int.reducePow, Int.reduceLT, Int.reduceLE, Int.reduceNeg, Int.reduceAdd, Int.reduceSub, Int.reduceMul, decide_true, decide_false, reduceCtorEq, upd, mkH, hk1, e]) <;> first | done | exact (hn _ (by omega)).symm) (by omega) hmen ?_; simp -implicitDefEqProofs (maxSteps := 2000000) (disch := omega) only [go_sem, condB_t, condB_f, pf0, dec_t, dec_f, and_of, ↓reduceIte, Nat.reduceEqDiff, Nat.reduceMul, Nat.reduceAdd, Nat.reduceSub, Nat.reduceLT, Nat.reduceLeDiff, Int.reduceToNat, Nat.reducePow, Int.reducePow, Int.reduceLT, Int.reduceLE, Int.reduceNeg, Int.reduceAdd, Int.reduceSub, Int.reduceMul, decide_true, decide_false, reduceCtorEq, AllP, AVle_same, AVle_int, AVle_nil, AVle_row, topU_int, topU_bool, topU_sl, topU_row, topU_ptr, topU_iptr, topU_fn, val, List.drop_length, d2])⟩
              simp only
              rw [d1]; exact hsb
        · obtain rfl : j = 0 := by omega
          rw [Nat.pow_zero, Nat.div_one, Nat.one_mul] at hqv
          have c1 := r1trim_spec q hqb (by omega)
          rw [← hQ0] at hqv
          have e0 : A / 1 % B = R0 := by rw [Nat.div_one, hR0]
          have hRB : R0 < B := by rw [hR0]; exact Nat.mod_lt _ hBp
          have lR := lim_len_mono (Nat.le_of_lt hRB)
          have c2 := r1trim_spec (lim R0) (lb_lim _) (by omega)
          clear hR0 hQ0
          rw [hqv] at c1
          rw [val_lim] at c2
          unfold nl at *
          simp -implicitDefEqProofs (maxSteps := 2000000) (disch := omega) only [go_sem, condB_t, condB_f, pf0, dec_t, dec_f, and_of, ↓reduceIte, Nat.reduceEqDiff, Nat.reduceMul, Nat.reduceAdd, Nat.reduceSub, Nat.reduceLT, Nat.reduceLeDiff, Int.reduceToNat, Nat.reducePow, Int.reducePow, Int.reduceLT, Int.reduceLE, Int.reduceNeg, Int.reduceAdd, Int.reduceSub, Int.reduceMul, decide_true, decide_false, reduceCtorEq, e0]
          refine callK_row c1 (by simp only [upd_same, mkH_cons, ↓reduceIte] <;> rfl) (by simp [hql]) (by omega) (List.take_of_length_le (by simp [hql])) (numL_plain _) ?_
          simp -implicitDefEqProofs (maxSteps := 2000000) (disch := omega) only [go_sem, condB_t, condB_f, pf0, dec_t, dec_f, and_of, ↓reduceIte, Nat.reduceEqDiff, Nat.reduceMul, Nat.reduceAdd, Nat.reduceSub, Nat.reduceLT, Nat.reduceLeDiff, Int.reduceToNat, Nat.reducePow, Int.reducePow, Int.reduceLT, Int.reduceLE, Int.reduceNeg, Int.reduceAdd, Int.reduceSub, Int.reduceMul, decide_true, decide_false, reduceCtorEq]
          refine callK_pure c2 ?_
          simp -implicitDefEqProofs (maxSteps := 2000000) (disch := omega) only [go_sem, condB_t, condB_f, pf0, dec_t, dec_f, and_of, ↓reduceIte, Nat.reduceEqDiff, Nat.reduceMul, Nat.reduceAdd, Nat.reduceSub, Nat.reduceLT, Nat.reduceLeDiff, Int.reduceToNat, Nat.reducePow, Int.reducePow, Int.reduceLT, Int.reduceLE, Int.reduceNeg, Int.reduceAdd, Int.reduceSub, Int.reduceMul, decide_true, decide_false, reduceCtorEq]
          exact dn
    · refine callK_pure (cB2 hB) ?_
      simp -implicitDefEqProofs (maxSteps := 2000000) (disch := omega) only [go_sem, condB_t, condB_f, pf0, dec_t, dec_f, and_of, ↓reduceIte, Nat.reduceEqDiff, Nat.reduceMul, Nat.reduceAdd, Nat.reduceSub, Nat.reduceLT, Nat.reduceLeDiff, Int.reduceToNat, Nat.reducePow, Int.reducePow, Int.reduceLT, Int.reduceLE, Int.reduceNeg, Int.reduceAdd, Int.reduceSub, Int.reduceMul, decide_true, decide_false, reduceCtorEq]
      refine callK_pure cbits ?_
      simp -implicitDefEqProofs (maxSteps := 2000000) (disch := omega) only [go_sem, condB_t, condB_f, pf0, dec_t, dec_f, and_of, ↓reduceIte, Nat.reduceEqDiff, Nat.reduceMul, Nat.reduceAdd, Nat.reduceSub, Nat.reduceLT, Nat.reduceLeDiff, Int.reduceToNat, Nat.reducePow, Int.reducePow, Int.reduceLT, Int.reduceLE, Int.reduceNeg, Int.reduceAdd, Int.reduceSub, Int.reduceMul, decide_true, decide_false, reduceCtorEq]
      obtain ⟨id, hid⟩ : ∃ id, id = N0 + 232 := ⟨_, rfl⟩
      rw [← hid]
      refine aw_loop (X := Nat × List Nat) (fun x => ⟨mkS [(0, .sl 1 (numL a)), (1, .sl 1 (numL (lim B))), (4, .row id a.length 0 a.length), (5, .sl 1 (numL (lim (A / 2 ^ x.1 % B)))), (11, .int .i64 ((x.1 : Int) - 1))], mkH h [(id, ⟨1, numL x.2⟩)], id + 48⟩)
        (fun x => x.1 ≤ nbits A ∧ x.2.length = a.length ∧ Lb x.2 ∧ val x.2 = 2 ^ x.1 * (A / 2 ^ x.1 / B)) (fun x => x.1)
        ⟨(nbits A, List.replicate a.length 0), ⟨Nat.le_refl _, by simp, Lb.zeros _, by rw [val_zeros, hA0, Nat.zero_div, Nat.mul_zero]⟩, ?_⟩ ?_
      · (refine Weak.head1 (by simp only [upd_same, mkH_cons, ↓reduceIte] <;> rfl) (by omega) (numL_leafU _ _) (fun q hq => by simp only [upd, mkH, if_neg hq]) (by omega) hmen ?_; simp -implicitDefEqProofs (maxSteps := 2000000) (disch := omega) only [go_sem, condB_t, condB_f, pf0, dec_t, dec_f, and_of, ↓reduceIte, Nat.reduceEqDiff, Nat.reduceMul, Nat.reduceAdd, Nat.reduceSub, Nat.reduceLT, Nat.reduceLeDiff, Int.reduceToNat, Nat.reducePow, Int.reducePow, Int.reduceLT, Int.reduceLE, Int.reduceNeg, Int.reduceAdd, Int.reduceSub, Int.reduceMul, decide_true, decide_false, reduceCtorEq, AllP, AVle_same, AVle_int, AVle_nil, AVle_row, topU_int, topU_bool, topU_sl, topU_row, topU_ptr, topU_iptr, topU_fn, val, List.drop_length, hA0, Nat.zero_mod, lim_zero, numL_nil])
      · rintro ⟨j, q⟩ ⟨hj, hql, hqb, hqv⟩
        simp only at hj hql hqb hqv
        by_cases h1 : 0 < j
        · obtain ⟨i, rfl⟩ : ∃ i, j = i + 1 := ⟨j - 1, by omega⟩
          obtain ⟨bt, hbt⟩ : ∃ x, x = A / 2 ^ i % 2 := ⟨_, rfl⟩
          have hbt2 : bt < 2 := by rw [hbt]; exact Nat.mod_lt _ (by decide)
          have hbs := bin_step (A := A) (i := i) hBp
          rw [← hbt] at hbs
          have hbd := bin_div hBp hbt2 hbs
          have hi32 : i / 32 < a.length := by omega
          have hqi : i / 32 < q.length := by omega
          have hm32 : i % 32 < 32 := Nat.mod_lt _ (by decide)
          have hlm := limb_mod hqb hqi hqv
          have hlt := hqb.get (i / 32)
          obtain ⟨or1, or2⟩ := or_bit hm32 hlt hlm
          have hsb := set_bit hqb hqi hqv
          have hp32 : 2 ^ (i % 32) < 4294967296 := by omega
          obtain ⟨R, hR⟩ : ∃ R, R = A / 2 ^ (i + 1) % B := ⟨_, rfl⟩
          rw [← hR] at hbd
          have hRB : R < B := by rw [hR]; exact Nat.mod_lt _ hBp
          have lR := lim_len_mono (Nat.le_of_lt hRB)
          have a1 := r1add_spec (lim R) (lim R) (lb_lim _) (lb_lim _) (by omega) (by omega)
          have l2R := lim_len_add R R
          have a2 := r1add_spec (lim (R + R)) [1] (lb_lim _) (by intro x hx; rw [List.mem_singleton.1 hx]; decide) (by omega) (by simp)
          have cb := cbit i (by omega)
          rw [← hbt] at cb
          have l2R1 := lim_len_add (R + R) 1
          have l1 : (lim 1).length = 1 := by rw [lim_one]; rfl
          have s1 := fun c (hc : (lim c).length ≤ 1099511627776) (h : B ≤ c) => r1sub_ok (lim c) (lim B) (lb_lim _) (lb_lim _) hc (by omega) (by rw [val_lim, val_lim]; exact h)
          have s2 := fun c (hc : (lim c).length ≤ 1099511627776) (h : c < B) => r1sub_no (lim c) (lim B) (lb_lim _) (lb_lim _) hc (by omega) (by rw [val_lim, val_lim]; exact h)
          simp only [val_lim] at a1 a2 s1 s2
          have e1 : val [1] = 1 := rfl
          rw [e1] at a2
          unfold nl at *
          clear hbt hA0
          have hcase : bt = 0 ∨ bt = 1 := by omega
          rcases hcase with rfl | rfl
          · have t0 : R + R = 2 * R := by omega
            rw [t0] at a1 l2R
            simp only [Nat.add_zero] at hbd
            by_cases h2 : 2 * R < B
            · rw [if_pos h2] at hbd
              obtain ⟨d1, d2⟩ := hbd
              simp -implicitDefEqProofs (maxSteps := 2000000) (disch := omega) only [go_sem, condB_t, condB_f, pf0, dec_t, dec_f, and_of, ↓reduceIte, Nat.reduceEqDiff, Nat.reduceMul, Nat.reduceAdd, Nat.reduceSub, Nat.reduceLT, Nat.reduceLeDiff, Int.reduceToNat, Nat.reducePow, Int.reducePow, Int.reduceLT, Int.reduceLE, Int.reduceNeg, Int.reduceAdd, Int.reduceSub, Int.reduceMul, decide_true, decide_false, reduceCtorEq, ← hR]
              refine callK_pure a1 ?_
              simp -implicitDefEqProofs (maxSteps := 2000000) (disch := omega) only [go_sem, condB_t, condB_f, pf0, dec_t, dec_f, and_of, ↓reduceIte, Nat.reduceEqDiff, Nat.reduceMul, Nat.reduceAdd, Nat.reduceSub, Nat.reduceLT, Nat.reduceLeDiff, Int.reduceToNat, Nat.reducePow, Int.reducePow, Int.reduceLT, Int.reduceLE, Int.reduceNeg, Int.reduceAdd, Int.reduceSub, Int.reduceMul, decide_true, decide_false, reduceCtorEq]
              refine callK_pure cb ?_
              simp -implicitDefEqProofs (maxSteps := 2000000) (disch := omega) only [go_sem, condB_t, condB_f, pf0, dec_t, dec_f, and_of, ↓reduceIte, Nat.reduceEqDiff, Nat.reduceMul, Nat.reduceAdd, Nat.reduceSub, Nat.reduceLT, Nat.reduceLeDiff, Int.reduceToNat, Nat.reducePow, Int.reducePow, Int.reduceLT, Int.reduceLE, Int.reduceNeg, Int.reduceAdd, Int.reduceSub, Int.reduceMul, decide_true, decide_false, reduceCtorEq]
              refine callK_pure (s2 _ (by omega) h2) ?_
              simp -implicitDefEqProofs (maxSteps := 2000000) (disch := omega) only [go_sem, condB_t, condB_f, pf0, dec_t, dec_f, and_of, ↓reduceIte, Nat.reduceEqDiff, Nat.reduceMul, Nat.reduceAdd, Nat.reduceSub, Nat.reduceLT, Nat.reduceLeDiff, Int.reduceToNat, Nat.reducePow, Int.reducePow, Int.reduceLT, Int.reduceLE, Int.reduceNeg, Int.reduceAdd, Int.reduceSub, Int.reduceMul, decide_true, decide_false, reduceCtorEq]
              refine ⟨(i, q), ⟨by simp only; omega, hql, hqb, ?_⟩, by simp only; omega, by (refine Weak.head1 (by simp only [upd_same, mkH_cons, ↓reduceIte] <;> rfl) (by omega) (numL_leafU _ _) (fun q hq => by simp only [upd, mkH, if_neg hq]) (by omega) hmen ?_; simp -implicitDefEqProofs (maxSteps := 2000000) (disch := omega) only [go_sem, condB_t, condB_f, pf0, dec_t, dec_f, and_of, ↓reduceIte, Nat.reduceEqDiff, Nat.reduceMul, Nat.reduceAdd, Nat.reduceSub, Nat.reduceLT, Nat.reduceLeDiff, Int.reduceToNat, Nat.reducePow, Int.reducePow, Int.reduceLT, Int.reduceLE, Int.reduceNeg, Int.reduceAdd, Int.reduceSub, Int.reduceMul, decide_true, decide_false, reduceCtorEq, AllP, AVle_same, AVle_int, AVle_nil, AVle_row, topU_int, topU_bool, topU_sl, topU_row, topU_ptr, topU_iptr, topU_fn, val, List.drop_length, d2])⟩
              simp only
              rw [d1, ← Nat.mul_assoc, ← Nat.pow_succ]; exact hqv
            · rw [if_neg h2] at hbd
              obtain ⟨d1, d2⟩ := hbd
              simp -implicitDefEqProofs (maxSteps := 2000000) (disch := omega) only [go_sem, condB_t, condB_f, pf0, dec_t, dec_f, and_of, ↓reduceIte, Nat.reduceEqDiff, Nat.reduceMul, Nat.reduceAdd, Nat.reduceSub, Nat.reduceLT, Nat.reduceLeDiff, Int.reduceToNat, Nat.reducePow, Int.reducePow, Int.reduceLT, Int.reduceLE, Int.reduceNeg, Int.reduceAdd, Int.reduceSub, Int.reduceMul, decide_true, decide_false, reduceCtorEq, ← hR]
              refine callK_pure a1 ?_
              simp -implicitDefEqProofs (maxSteps := 2000000) (disch := omega) only [go_sem, condB_t, condB_f, pf0, dec_t, dec_f, and_of, ↓reduceIte, Nat.reduceEqDiff, Nat.reduceMul, Nat.reduceAdd, Nat.reduceSub, Nat.reduceLT, Nat.reduceLeDiff, Int.reduceToNat, Nat.reducePow, Int.reducePow, Int.reduceLT, Int.reduceLE, Int.reduceNeg, Int.reduceAdd, Int.reduceSub, Int.reduceMul, decide_true, decide_false, reduceCtorEq]
              refine callK_pure cb ?_
              simp -implicitDefEqProofs (maxSteps := 2000000) (disch := omega) only [go_sem, condB_t, condB_f, pf0, dec_t, dec_f, and_of, ↓reduceIte, Nat.reduceEqDiff, Nat.reduceMul, Nat.reduceAdd, Nat.reduceSub, Nat.reduceLT, Nat.reduceLeDiff, Int.reduceToNat, Nat.reducePow, Int.reducePow, Int.reduceLT, Int.reduceLE, Int.reduceNeg, Int.reduceAdd, Int.reduceSub, Int.reduceMul, decide_true, decide_false, reduceCtorEq]
              refine callK_pure (s1 _ (by omega) (by omega)) ?_
              simp -implicitDefEqProofs (maxSteps := 2000000) (disch := omega) only [go_sem, condB_t, condB_f, pf0, dec_t, dec_f, and_of, ↓reduceIte, Nat.reduceEqDiff, Nat.reduceMul, Nat.reduceAdd, Nat.reduceSub, Nat.reduceLT, Nat.reduceLeDiff, Int.reduceToNat, Nat.reducePow, Int.reducePow, Int.reduceLT, Int.reduceLE, Int.reduceNeg, Int.reduceAdd, Int.reduceSub, Int.reduceMul, decide_true, decide_false, reduceCtorEq, or1]
              refine ⟨(i, q.set (i / 32) (q.getD (i / 32) 0 + 2 ^ (i % 32))), ⟨by simp only; omega, by simp only; rw [List.length_set]; exact hql, hqb.set or2, ?_⟩, by simp only; omega, by (refine Weak.head1 (by simp only [upd_same, mkH_cons, ↓reduceIte] <;> rfl) (by omega) (numL_leafU _ _) (fun q hq => by simp only [upd, mkH, if_neg hq]) (by omega) hmen ?_; simp -implicitDefEqProofs (maxSteps := 2000000) (disch := omega) only [go_sem, condB_t, condB_f, pf0, dec_t, dec_f, and_of, ↓reduceIte, Nat.reduceEqDiff, Nat.reduceMul, Nat.reduceAdd, Nat.reduceSub, Nat.reduceLT, Nat.reduceLeDiff, Int.reduceToNat, Nat.reducePow, Int.reducePow, Int.reduceLT, Int.reduceLE, Int.reduceNeg, Int.reduceAdd, Int.reduceSub, Int.reduceMul, decide_true, decide_false, reduceCtorEq, AllP, AVle_same, AVle_int, AVle_nil, AVle_row, topU_int, topU_bool, topU_sl, topU_row, topU_ptr, topU_iptr, topU_fn, val, List.drop_length, d2])⟩
              simp only
              rw [d1]; exact hsb
          · have t0 : R + R = 2 * R := by omega
            rw [t0] at a1 a2 l2R l2R1
            by_cases h2 : 2 * R + 1 < B
            · rw [if_pos h2] at hbd
              obtain ⟨d1, d2⟩ := hbd
              simp -implicitDefEqProofs (maxSteps := 2000000) (disch := omega) only [go_sem, condB_t, condB_f, pf0, dec_t, dec_f, and_of, ↓reduceIte, Nat.reduceEqDiff, Nat.reduceMul, Nat.reduceAdd, Nat.reduceSub, Nat.reduceLT, Nat.reduceLeDiff, Int.reduceToNat, Nat.reducePow, Int.reducePow, Int.reduceLT, Int.reduceLE, Int.reduceNeg, Int.reduceAdd, Int.reduceSub, Int.reduceMul, decide_true, decide_false, reduceCtorEq, ← hR]
              refine callK_pure a1 ?_
              simp -implicitDefEqProofs (maxSteps := 2000000) (disch := omega) only [go_sem, condB_t, condB_f, pf0, dec_t, dec_f, and_of, ↓reduceIte, Nat.reduceEqDiff, Nat.reduceMul, Nat.reduceAdd, Nat.reduceSub, Nat.reduceLT, Nat.reduceLeDiff, Int.reduceToNat, Nat.reducePow, Int.reducePow, Int.reduceLT, Int.reduceLE, Int.reduceNeg, Int.reduceAdd, Int.reduceSub, Int.reduceMul, decide_true, decide_false, reduceCtorEq]
              refine callK_pure cb ?_
              simp -implicitDefEqProofs (maxSteps := 2000000) (disch := omega) only [go_sem, condB_t, condB_f, pf0, dec_t, dec_f, and_of, ↓reduceIte, Nat.reduceEqDiff, Nat.reduceMul, Nat.reduceAdd, Nat.reduceSub, Nat.reduceLT, Nat.reduceLeDiff, Int.reduceToNat, Nat.reducePow, Int.reducePow, Int.reduceLT, Int.reduceLE, Int.reduceNeg, Int.reduceAdd, Int.reduceSub, Int.reduceMul, decide_true, decide_false, reduceCtorEq]
              refine callK_row2 a2 (by simp only [upd_same] <;> rfl) rfl (by simp) rfl (numL_plain _) ?_
              simp -implicitDefEqProofs (maxSteps := 2000000) (disch := omega) only [go_sem, condB_t, condB_f, pf0, dec_t, dec_f, and_of, ↓reduceIte, Nat.reduceEqDiff, Nat.reduceMul, Nat.reduceAdd, Nat.reduceSub, Nat.reduceLT, Nat.reduceLeDiff, Int.reduceToNat, Nat.reducePow, Int.reducePow, Int.reduceLT, Int.reduceLE, Int.reduceNeg, Int.reduceAdd, Int.reduceSub, Int.reduceMul, decide_true, decide_false, reduceCtorEq]
              refine callK_pure (s2 _ (by omega) h2) ?_
              simp -implicitDefEqProofs (maxSteps := 2000000) (disch := omega) only [go_sem, condB_t, condB_f, pf0, dec_t, dec_f, and_of, ↓reduceIte, Nat.reduceEqDiff, Nat.reduceMul, Nat.reduceAdd, Nat.reduceSub, Nat.reduceLT, Nat.reduceLeDiff, Int.reduceToNat, Nat.reducePow, Int.reducePow, Int.reduceLT, Int.reduceLE, Int.reduceNeg, Int.reduceAdd, Int.reduceSub, Int.reduceMul, decide_true, decide_false, reduceCtorEq]
              refine ⟨(i, q), ⟨by simp only; omega, hql, hqb, ?_⟩, by simp only; omega, by (refine Weak.head1 (by simp -implicitDefEqProofs (maxSteps := 2000000) (disch := omega) only [go_sem, condB_t, condB_f, pf0, dec_t, dec_f, and_of, ↓reduceIte, Nat.reduceEqDiff, Nat.reduceMul, Nat.reduceAdd, Nat.reduceSub, Nat.reduceLT, Nat.reduceLeDiff, Int.reduceToNat, Nat.reducePow, Int.reducePow, Int.reduceLT, Int.reduceLE, Int.reduceNeg, Int.reduceAdd, Int.reduceSub, Int.reduceMul, decide_true, decide_false, reduceCtorEq]) (by omega) (numL_leafU _ _) (fun k0 hk0 => by have hk1 : (k0 = id) = False := eq_false hk0; by_cases e : k0 = id + 136 <;> (simp -implicitDefEqProofs (maxSteps := 2000000) (disch := omega) only [go_sem, condB_t, condB_f, pf0, dec_t, dec_f, and_of, ↓reduceIte, Nat.reduceEqDiff, Nat.reduceMul, Nat.reduceAdd, Nat.reduceSub, Nat.reduceLT, Nat.reduceLeDiff, Int.reduceToNat, Nat.reducePow, Int.reducePow, Int.reduceLT, Int.reduceLE, Int.reduceNeg, Int.reduceAdd, Int.reduceSub, Int.reduceMul, decide_true, decide_false, reduceCtorEq, upd, mkH, hk1, e]) <;> first | done | exact (hn _ (by omega)).symm) (by omega) hmen ?_; simp -implicitDefEqProofs (maxSteps := 2000000) (disch := omega) only [go_sem, condB_t, condB_f, pf0, dec_t, dec_f, and_of, ↓reduceIte, Nat.reduceEqDiff, Nat.reduceMul, Nat.reduceAdd, Nat.reduceSub, Nat.reduceLT, Nat.reduceLeDiff, Int.reduceToNat, Nat.reducePow, Int.reducePow, Int.reduceLT, Int.reduceLE, Int.reduceNeg, Int.reduceAdd, Int.reduceSub, Int.reduceMul, decide_true, decide_false, reduceCtorEq, AllP, AVle_same, AVle_int, AVle_nil, AVle_row, topU_int, topU_bool, topU_sl, topU_row, topU_ptr, topU_iptr, topU_fn, val, List.drop_length, d2])⟩
              simp only
              rw [d1, ← Nat.mul_assoc, ← Nat.pow_succ]; exact hqv
            · rw [if_neg h2] at hbd
              obtain ⟨d1, d2⟩ := hbd
              simp -implicitDefEqProofs (maxSteps := 2000000) (disch := omega) only [go_sem, condB_t, condB_f, pf0, dec_t, dec_f, and_of, ↓reduceIte, Nat.reduceEqDiff, Nat.reduceMul, Nat.reduceAdd, Nat.reduceSub, Nat.reduceLT, Nat.reduceLeDiff, Int.reduceToNat, Nat.reducePow, Int.reducePow, Int.reduceLT, Int.reduceLE, Int.reduceNeg, Int.reduceAdd, Int.reduceSub, Int.reduceMul, decide_true, decide_false, reduceCtorEq, ← hR]
              refine callK_pure a1 ?_
              simp -implicitDefEqProofs (maxSteps := 2000000) (disch := omega) only [go_sem, condB_t, condB_f, pf0, dec_t, dec_f, and_of, ↓reduceIte, Nat.reduceEqDiff, Nat.reduceMul, Nat.reduceAdd, Nat.reduceSub, Nat.reduceLT, Nat.reduceLeDiff, Int.reduceToNat, Nat.reducePow, Int.reducePow, Int.reduceLT, Int.reduceLE, Int.reduceNeg, Int.reduceAdd, Int.reduceSub, Int.reduceMul, decide_true, decide_false, reduceCtorEq]
              refine callK_pure cb ?_
              simp -implicitDefEqProofs (maxSteps := 2000000) (disch := omega) only [go_sem, condB_t, condB_f, pf0, dec_t, dec_f, and_of, ↓reduceIte, Nat.reduceEqDiff, Nat.reduceMul, Nat.reduceAdd, Nat.reduceSub, Nat.reduceLT, Nat.reduceLeDiff, Int.reduceToNat, Nat.reducePow, Int.reducePow, Int.reduceLT, Int.reduceLE, Int.reduceNeg, Int.reduceAdd, Int.reduceSub, Int.reduceMul, decide_true, decide_false, reduceCtorEq]
              refine callK_row2 a2 (by simp only [upd_same] <;> rfl) rfl (by simp) rfl (numL_plain _) ?_
              simp -implicitDefEqProofs (maxSteps := 2000000) (disch := omega) only [go_sem, condB_t, condB_f, pf0, dec_t, dec_f, and_of, ↓reduceIte, Nat.reduceEqDiff, Nat.reduceMul, Nat.reduceAdd, Nat.reduceSub, Nat.reduceLT, Nat.reduceLeDiff, Int.reduceToNat, Nat.reducePow, Int.reducePow, Int.reduceLT, Int.reduceLE, Int.reduceNeg, Int.reduceAdd, Int.reduceSub, Int.reduceMul, decide_true, decide_false, reduceCtorEq]
              refine callK_pure (s1 _ (by omega) (by omega)) ?_
              simp -implicitDefEqProofs (maxSteps := 2000000) (disch := omega) only [go_sem, condB_t, condB_f, pf0, dec_t, dec_f, and_of, ↓reduceIte, Nat.reduceEqDiff, Nat.reduceMul, Nat.reduceAdd, Nat.reduceSub, Nat.reduceLT, Nat.reduceLeDiff, Int.reduceToNat, Nat.reducePow, Int.reducePow, Int.reduceLT, Int.reduceLE, Int.reduceNeg, Int.reduceAdd, Int.reduceSub, Int.reduceMul, decide_true, decide_false, reduceCtorEq, or1]
              refine ⟨(i, q.set (i / 32) (q.getD (i / 32) 0 + 2 ^ (i % 32))), ⟨by simp only; omega, by simp only; rw [List.length_set]; exact hql, hqb.set or2, ?_⟩, by simp only; omega, by (refine Weak.head1 (by simp -implicitDefEqProofs (maxSteps := 2000000) (disch := omega) only [go_sem, condB_t, condB_f, pf0, dec_t, dec_f, and_of, ↓reduceIte, Nat.reduceEqDiff, Nat.reduceMul, Nat.reduceAdd, Nat.reduceSub, Nat.reduceLT, Nat.reduceLeDiff, Int.reduceToNat, Nat.reducePow, Int.reducePow, Int.reduceLT, Int.reduceLE, Int.reduceNeg, Int.reduceAdd, Int.reduceSub, Int.reduceMul, decide_true, decide_false, reduceCtorEq]) (by omega) (numL_leafU _ _) (fun k0 hk0 => by have hk1 : (k0 = id) = False := eq_false hk0; by_cases e : k0 = id + 136 <;> (simp -implicitDefEqProofs (maxSteps := 2000000) (disch := omega) only [go_sem, condB_t, condB_f, pf0, dec_t, dec_f, and_of, ↓reduceIte, Nat.reduceEqDiff, Nat.reduceMul, Nat.reduceAdd, Nat.reduceSub, Nat.reduceLT, Nat.reduceLeDiff, Int.reduceToNat, Nat.reducePow, Int.reducePow, Int.reduceLT, Int.reduceLE, Int.reduceNeg, Int.reduceAdd, Int.reduceSub, Int.reduceMul, decide_true, decide_false, reduceCtorEq, upd, mkH, hk1, e]) <;> first | done | exact (hn _ (by omega)).symm) (by omega) hmen ?_; simp -implicitDefEqProofs (maxSteps := 2000000) (disch := omega) only [go_sem, condB_t, condB_f, pf0, dec_t, dec_f, and_of, ↓reduceIte, Nat.reduceEqDiff, Nat.reduceMul, Nat.reduceAdd, Nat.reduceSub, Nat.reduceLT, Nat.reduceLeDiff, Int.reduceToNat, Nat.reducePow, Int.reducePow, Int.reduceLT, Int.reduceLE, Int.reduceNeg, Int.reduceAdd, Int.reduceSub, Int.reduceMul, decide_true, decide_false, reduceCtorEq, AllP, AVle_same, AVle_int, AVle_nil, AVle_row, topU_int, topU_bool, topU_sl, topU_row, topU_ptr, topU_iptr, topU_fn, val, List.drop_length, d2])⟩
              simp only
              rw [d1]; exact hsb
        · obtain rfl : j = 0 := by omega
          rw [Nat.pow_zero, Nat.div_one, Nat.one_mul] at hqv
          have c1 := r1trim_spec q hqb (by omega)
          rw [← hQ0] at hqv
          have e0 : A / 1 % B = R0 := by rw [Nat.div_one, hR0]
          have hRB : R0 < B := by rw [hR0]; exact Nat.mod_lt _ hBp
          have lR := lim_len_mono (Nat.le_of_lt hRB)
          have c2 := r1trim_spec (lim R0) (lb_lim _) (by omega)
          clear hR0 hQ0
          rw [hqv] at c1
          rw [val_lim] at c2
          unfold nl at *
          simp -implicitDefEqProofs (maxSteps := 2000000) (disch := omega) only [go_sem, condB_t, condB_f, pf0, dec_t, dec_f, and_of, ↓reduceIte, Nat.reduceEqDiff, Nat.reduceMul, Nat.reduceAdd, Nat.reduceSub, Nat.reduceLT, Nat.reduceLeDiff, Int.reduceToNat, Nat.reducePow, Int.reducePow, Int.reduceLT, Int.reduceLE, Int.reduceNeg, Int.reduceAdd, Int.reduceSub, Int.reduceMul, decide_true, decide_false, reduceCtorEq, e0]
          refine callK_row c1 (by simp only [upd_same, mkH_cons, ↓reduceIte] <;> rfl) (by simp [hql]) (by omega) (List.take_of_length_le (by simp [hql])) (numL_plain _) ?_
          simp -implicitDefEqProofs (maxSteps := 2000000) (disch := omega) only [go_sem, condB_t, condB_f, pf0, dec_t, dec_f, and_of, ↓reduceIte, Nat.reduceEqDiff, Nat.reduceMul, Nat.reduceAdd, Nat.reduceSub, Nat.reduceLT, Nat.reduceLeDiff, Int.reduceToNat, Nat.reducePow, Int.reducePow, Int.reduceLT, Int.reduceLE, Int.reduceNeg, Int.reduceAdd, Int.reduceSub, Int.reduceMul, decide_true, decide_false, reduceCtorEq]
          refine callK_pure c2 ?_
          simp -implicitDefEqProofs (maxSteps := 2000000) (disch := omega) only [go_sem, condB_t, condB_f, pf0, dec_t, dec_f, and_of, ↓reduceIte, Nat.reduceEqDiff, Nat.reduceMul, Nat.reduceAdd, Nat.reduceSub, Nat.reduceLT, Nat.reduceLeDiff, Int.reduceToNat, Nat.reducePow, Int.reducePow, Int.reduceLT, Int.reduceLE, Int.reduceNeg, Int.reduceAdd, Int.reduceSub, Int.reduceMul, decide_true, decide_false, reduceCtorEq]
          exact dn
theorem r1gcd_spec (a b : List Nat) (ha : Lb a) (hb : Lb b) (hla : a.length ≤ 549755813888) (hlb : b.length ≤ 549755813888) :
    PDet Try.prog 149 [nl a, nl b] (nl (lim (Nat.gcd (val a) (val b)))) := by
  refine pdet_of E0ok mixed Try.func149 (by kernel_rfl) rfl (by kernel_rfl) (Nat.le_of_ble_eq_true rfl) fun N0 h hn hmen => ?_
  have hlA := lim_len_val ha
  have hlB := lim_len_val hb
  have c1 := r1trim_spec a ha (by omega)
  have c2 := r1trim_spec b hb (by omega)
  generalize val a = A at *
  generalize val b = B at *
  unfold nl at *
  simp -implicitDefEqProofs (maxSteps := 2000000) (disch := omega) only [go_sem, condB_t, condB_f, pf0, dec_t, dec_f, and_of, ↓reduceIte, Nat.reduceEqDiff, Nat.reduceMul, Nat.reduceAdd, Nat.reduceSub, Nat.reduceLT, Nat.reduceLeDiff, Int.reduceToNat, Nat.reducePow, Int.reducePow, Int.reduceLT, Int.reduceLE, Int.reduceNeg, Int.reduceAdd, Int.reduceSub, Int.reduceMul, decide_true, decide_false, reduceCtorEq]
  refine callK_pure c1 ?_
  simp -implicitDefEqProofs (maxSteps := 2000000) (disch := omega) only [go_sem, condB_t, condB_f, pf0, dec_t, dec_f, and_of, ↓reduceIte, Nat.reduceEqDiff, Nat.reduceMul, Nat.reduceAdd, Nat.reduceSub, Nat.reduceLT, Nat.reduceLeDiff, Int.reduceToNat, Nat.reducePow, Int.reducePow, Int.reduceLT, Int.reduceLE, Int.reduceNeg, Int.reduceAdd, Int.reduceSub, Int.reduceMul, decide_true, decide_false, reduceCtorEq]
  refine callK_pure c2 ?_
  simp -implicitDefEqProofs (maxSteps := 2000000) (disch := omega) only [go_sem, condB_t, condB_f, pf0, dec_t, dec_f, and_of, ↓reduceIte, Nat.reduceEqDiff, Nat.reduceMul, Nat.reduceAdd, Nat.reduceSub, Nat.reduceLT, Nat.reduceLeDiff, Int.reduceToNat, Nat.reducePow, Int.reducePow, Int.reduceLT, Int.reduceLE, Int.reduceNeg, Int.reduceAdd, Int.reduceSub, Int.reduceMul, decide_true, decide_false, reduceCtorEq]
  refine aw_loop (X := Nat × Nat) (fun x => ⟨mkS [(0, .sl 1 (numL (lim x.1))), (1, .sl 1 (numL (lim x.2)))], h, N0⟩) (fun x => Nat.gcd x.1 x.2 = Nat.gcd A B ∧ (lim x.1).length ≤ 549755813888 ∧ (lim x.2).length ≤ 549755813888) (fun x => x.2)
    ⟨(A, B), ⟨rfl, by simp only; omega, by simp only; omega⟩, ?_⟩ ?_
  · (refine Weak.slots (allP ?_) (fun k0 b0 hb0 => by first | exact hb0 | (have hk1 := (hmen k0 b0 hb0).1; simp only [upd, mkH]; (repeat rw [if_neg (by omega)]); exact hb0)) (by omega) hmen; simp -implicitDefEqProofs (maxSteps := 2000000) (disch := omega) only [go_sem, condB_t, condB_f, pf0, dec_t, dec_f, and_of, ↓reduceIte, Nat.reduceEqDiff, Nat.reduceMul, Nat.reduceAdd, Nat.reduceSub, Nat.reduceLT, Nat.reduceLeDiff, Int.reduceToNat, Nat.reducePow, Int.reducePow, Int.reduceLT, Int.reduceLE, Int.reduceNeg, Int.reduceAdd, Int.reduceSub, Int.reduceMul, decide_true, decide_false, reduceCtorEq, AllP, AVle_same, AVle_int, AVle_nil, AVle_row, topU_int, topU_bool, topU_sl, topU_row, topU_ptr, topU_iptr, topU_fn, val, List.drop_length])
  · rintro ⟨x, y⟩ ⟨hg, hx, hy⟩
    simp only at hg hx hy
    have hdm := fun h0 => r1divMod_spec (lim x) (lim y) (lb_lim x) (lb_lim y) hx hy h0
    simp only [val_lim] at hdm
    have hy0 : y = 0 ↔ (lim y).length = 0 := by rw [List.length_eq_zero_iff, lim_nil]
    unfold nl at *
    by_cases h1 : 0 < (lim y).length
    · have h0 : y ≠ 0 := by omega
      have hlm := lim_len_mono (Nat.le_of_lt (Nat.mod_lt x (Nat.pos_of_ne_zero h0)))
      simp -implicitDefEqProofs (maxSteps := 2000000) (disch := omega) only [go_sem, condB_t, condB_f, pf0, dec_t, dec_f, and_of, ↓reduceIte, Nat.reduceEqDiff, Nat.reduceMul, Nat.reduceAdd, Nat.reduceSub, Nat.reduceLT, Nat.reduceLeDiff, Int.reduceToNat, Nat.reducePow, Int.reducePow, Int.reduceLT, Int.reduceLE, Int.reduceNeg, Int.reduceAdd, Int.reduceSub, Int.reduceMul, decide_true, decide_false, reduceCtorEq]
      refine callK_pure (hdm h0) ?_
      simp -implicitDefEqProofs (maxSteps := 2000000) (disch := omega) only [go_sem, condB_t, condB_f, pf0, dec_t, dec_f, and_of, ↓reduceIte, Nat.reduceEqDiff, Nat.reduceMul, Nat.reduceAdd, Nat.reduceSub, Nat.reduceLT, Nat.reduceLeDiff, Int.reduceToNat, Nat.reducePow, Int.reducePow, Int.reduceLT, Int.reduceLE, Int.reduceNeg, Int.reduceAdd, Int.reduceSub, Int.reduceMul, decide_true, decide_false, reduceCtorEq]
      exact ⟨(y, x % y), ⟨by simp only; rw [← hg, Nat.gcd_comm y, ← Nat.gcd_rec, Nat.gcd_comm], hy, by simp only; omega⟩, Nat.mod_lt _ (Nat.pos_of_ne_zero h0), by (refine Weak.slots (allP ?_) (fun k0 b0 hb0 => by first | exact hb0 | (have hk1 := (hmen k0 b0 hb0).1; simp only [upd, mkH]; (repeat rw [if_neg (by omega)]); exact hb0)) (by omega) hmen; simp -implicitDefEqProofs (maxSteps := 2000000) (disch := omega) only [go_sem, condB_t, condB_f, pf0, dec_t, dec_f, and_of, ↓reduceIte, Nat.reduceEqDiff, Nat.reduceMul, Nat.reduceAdd, Nat.reduceSub, Nat.reduceLT, Nat.reduceLeDiff, Int.reduceToNat, Nat.reducePow, Int.reducePow, Int.reduceLT, Int.reduceLE, Int.reduceNeg, Int.reduceAdd, Int.reduceSub, Int.reduceMul, decide_true, decide_false, reduceCtorEq, AllP, AVle_same, AVle_int, AVle_nil, AVle_row, topU_int, topU_bool, topU_sl, topU_row, topU_ptr, topU_iptr, topU_fn, val, List.drop_length])⟩
    · obtain rfl := hy0.2 (by omega)
      rw [Nat.gcd_zero_right] at hg
      simp -implicitDefEqProofs (maxSteps := 2000000) (disch := omega) only [go_sem, condB_t, condB_f, pf0, dec_t, dec_f, and_of, ↓reduceIte, Nat.reduceEqDiff, Nat.reduceMul, Nat.reduceAdd, Nat.reduceSub, Nat.reduceLT, Nat.reduceLeDiff, Int.reduceToNat, Nat.reducePow, Int.reducePow, Int.reduceLT, Int.reduceLE, Int.reduceNeg, Int.reduceAdd, Int.reduceSub, Int.reduceMul, decide_true, decide_false, reduceCtorEq]
      rw [hg]
      exact dn
end Go.Abs
/-! YtbRef3: The references of the second and the third layer: integers and rational numbers. No condition. -/
set_option linter.unusedVariables false
set_option linter.unusedSimpArgs false
set_option maxRecDepth 100000
set_option maxHeartbeats 1000000
namespace Go.Abs
open Go.Proofs
@[go_sem] theorem R124 : Try.f124.results.toList = [.cell 4 54] := rfl
@[go_sem] theorem R120 : Try.f120.results.toList = [.cell 2 54] := rfl
@[go_sem] theorem R123 : Try.f123.results.toList = [.cell 2 54] := rfl
@[go_sem] theorem R151 : Try.f151.results.toList = [.cell 2 54] := rfl
@[go_sem] theorem R65 : Try.f65.results.toList = [.tmp 4] := rfl
@[go_sem] theorem R83 : Try.f83.results.toList = [.cell 2 54] := rfl
@[go_sem] theorem R117 : Try.f117.results.toList = [.tmp 2] := rfl
@[go_sem] theorem R139 : Try.f139.results.toList = [.cell 4 54] := rfl
@[go_sem] theorem R152 : Try.f152.results.toList = [.cell 4 54] := rfl
@[go_sem] theorem R140 : Try.f140.results.toList = [.cell 4 54] := rfl
@[go_sem] theorem R121 : Try.f121.results.toList = [.cell 4 54] := rfl
@[go_sem] theorem R122 : Try.f122.results.toList = [.cell 4 54, .cell 5 54, .tmp 6] := rfl
def ED122 : Env := { tt := E0.tt, pf := E0.pf, dyn := fun id => lookD id [(10, [(1, 2)])] }
theorem ED122ok : EnvOk Try.prog ED122 := ⟨E0ok.tt⟩
@[go_sem] theorem ED122tt (t : Nat) : ED122.tt t = E0.tt t := rfl
@[go_sem] theorem ED122dyn (id : Nat) : ED122.dyn id = lookD id [(10, [(1, 2)])] := rfl
@[go_sem] theorem ED122pf (f : Nat) : ED122.pf f = E0.pf f := rfl
theorem r2make_spec (s : Bool) (m : List Nat) (hm : Lb m) (sm : m.length ≤ 4398046511104) : PDet Try.prog 124 [.bool s, nl m] (.agg (iC (ival s (val m)))) := by
  refine pdet_of E0ok mixed Try.func124 (by kernel_rfl) rfl (by kernel_rfl) (Nat.le_of_ble_eq_true rfl) fun N0 h hn hmen => ?_
  have c1 := r1trim_spec m hm sm
  have hl := lim_pos_len (val m)
  have hlen := lim_len_val hm
  rw [iC_ival]
  unfold nl at *
  simp -implicitDefEqProofs (maxSteps := 2000000) (disch := omega) only [go_sem, condB_t, condB_f, pf0, dec_t, dec_f, and_of, ↓reduceIte, Nat.reduceEqDiff, Nat.reduceMul, Nat.reduceAdd, Nat.reduceSub, Nat.reduceLT, Nat.reduceLeDiff, Int.reduceToNat, Nat.reducePow, Int.reducePow, Int.reduceLT, Int.reduceLE, Int.reduceNeg, Int.reduceAdd, Int.reduceSub, Int.reduceMul, decide_true, decide_false, reduceCtorEq]
  refine callK_pure c1 ?_
  by_cases h0 : 0 < val m
  · rw [decide_eq_true h0]
    have h1 := hl.2 h0
    cases s <;> simp -implicitDefEqProofs (maxSteps := 2000000) (disch := omega) only [go_sem, condB_t, condB_f, pf0, dec_t, dec_f, and_of, ↓reduceIte, Nat.reduceEqDiff, Nat.reduceMul, Nat.reduceAdd, Nat.reduceSub, Nat.reduceLT, Nat.reduceLeDiff, Int.reduceToNat, Nat.reducePow, Int.reducePow, Int.reduceLT, Int.reduceLE, Int.reduceNeg, Int.reduceAdd, Int.reduceSub, Int.reduceMul, decide_true, decide_false, reduceCtorEq] <;> exact dn
  · rw [decide_eq_false h0]
    have h1 : ¬ 0 < (lim (val m)).length := fun h => h0 (hl.1 h)
    cases s <;> simp -implicitDefEqProofs (maxSteps := 2000000) (disch := omega) only [go_sem, condB_t, condB_f, pf0, dec_t, dec_f, and_of, ↓reduceIte, Nat.reduceEqDiff, Nat.reduceMul, Nat.reduceAdd, Nat.reduceSub, Nat.reduceLT, Nat.reduceLeDiff, Int.reduceToNat, Nat.reducePow, Int.reducePow, Int.reduceLT, Int.reduceLE, Int.reduceNeg, Int.reduceAdd, Int.reduceSub, Int.reduceMul, decide_true, decide_false, reduceCtorEq] <;> exact dn
theorem r2norm_spec (s : Bool) (m : List Nat) (hm : Lb m) (sm : m.length ≤ 1099511627776) : PDet Try.prog 120 [.agg [.bool s, nl m]] (.agg (iC (ival s (val m)))) := by
  refine pdet_of E0ok mixed Try.func120 (by kernel_rfl) rfl (by kernel_rfl) (Nat.le_of_ble_eq_true rfl) fun N0 h hn hmen => ?_
  have c := r2make_spec s m hm (by omega)
  unfold iC nl at *
  simp -implicitDefEqProofs (maxSteps := 2000000) (disch := decide) only [go_sem, condB_t, condB_f, pf0, dec_t, dec_f, and_of, ↓reduceIte, Nat.reduceEqDiff, Nat.reduceMul, Nat.reduceAdd, Nat.reduceSub, Nat.reduceLT, Nat.reduceLeDiff, Int.reduceToNat, Nat.reducePow, Int.reducePow, Int.reduceLT, Int.reduceLE, Int.reduceNeg, Int.reduceAdd, Int.reduceSub, Int.reduceMul, decide_true, decide_false, reduceCtorEq]
  refine callK_pure c ?_
  simp -implicitDefEqProofs (maxSteps := 2000000) (disch := decide) only [go_sem, condB_t, condB_f, pf0, dec_t, dec_f, and_of, ↓reduceIte, Nat.reduceEqDiff, Nat.reduceMul, Nat.reduceAdd, Nat.reduceSub, Nat.reduceLT, Nat.reduceLeDiff, Int.reduceToNat, Nat.reducePow, Int.reducePow, Int.reduceLT, Int.reduceLE, Int.reduceNeg, Int.reduceAdd, Int.reduceSub, Int.reduceMul, decide_true, decide_false, reduceCtorEq]
  exact dn
theorem r2neg_spec (s : Bool) (m : List Nat) (hm : Lb m) (sm : m.length ≤ 1099511627776) : PDet Try.prog 123 [.agg [.bool s, nl m]] (.agg (iC (-ival s (val m)))) := by
  refine pdet_of E0ok mixed Try.func123 (by kernel_rfl) rfl (by kernel_rfl) (Nat.le_of_ble_eq_true rfl) fun N0 h hn hmen => ?_
  have c := r2make_spec (!s) m hm (by omega)
  rw [ival_not] at c
  unfold iC nl at *
  simp -implicitDefEqProofs (maxSteps := 2000000) (disch := decide) only [go_sem, condB_t, condB_f, pf0, dec_t, dec_f, and_of, ↓reduceIte, Nat.reduceEqDiff, Nat.reduceMul, Nat.reduceAdd, Nat.reduceSub, Nat.reduceLT, Nat.reduceLeDiff, Int.reduceToNat, Nat.reducePow, Int.reducePow, Int.reduceLT, Int.reduceLE, Int.reduceNeg, Int.reduceAdd, Int.reduceSub, Int.reduceMul, decide_true, decide_false, reduceCtorEq]
  refine callK_pure c ?_
  simp -implicitDefEqProofs (maxSteps := 2000000) (disch := decide) only [go_sem, condB_t, condB_f, pf0, dec_t, dec_f, and_of, ↓reduceIte, Nat.reduceEqDiff, Nat.reduceMul, Nat.reduceAdd, Nat.reduceSub, Nat.reduceLT, Nat.reduceLeDiff, Int.reduceToNat, Nat.reducePow, Int.reducePow, Int.reduceLT, Int.reduceLE, Int.reduceNeg, Int.reduceAdd, Int.reduceSub, Int.reduceMul, decide_true, decide_false, reduceCtorEq]
  exact dn
theorem r2abs_spec (s : Bool) (m : List Nat) (hm : Lb m) (sm : m.length ≤ 1099511627776) : PDet Try.prog 151 [.agg [.bool s, nl m]] (.agg (iC (val m : Int))) := by
  refine pdet_of E0ok mixed Try.func151 (by kernel_rfl) rfl (by kernel_rfl) (Nat.le_of_ble_eq_true rfl) fun N0 h hn hmen => ?_
  have c := r2make_spec false m hm (by omega)
  rw [ival_f] at c
  unfold iC nl at *
  simp -implicitDefEqProofs (maxSteps := 2000000) (disch := decide) only [go_sem, condB_t, condB_f, pf0, dec_t, dec_f, and_of, ↓reduceIte, Nat.reduceEqDiff, Nat.reduceMul, Nat.reduceAdd, Nat.reduceSub, Nat.reduceLT, Nat.reduceLeDiff, Int.reduceToNat, Nat.reducePow, Int.reducePow, Int.reduceLT, Int.reduceLE, Int.reduceNeg, Int.reduceAdd, Int.reduceSub, Int.reduceMul, decide_true, decide_false, reduceCtorEq]
  refine callK_pure c ?_
  simp -implicitDefEqProofs (maxSteps := 2000000) (disch := decide) only [go_sem, condB_t, condB_f, pf0, dec_t, dec_f, and_of, ↓reduceIte, Nat.reduceEqDiff, Nat.reduceMul, Nat.reduceAdd, Nat.reduceSub, Nat.reduceLT, Nat.reduceLeDiff, Int.reduceToNat, Nat.reducePow, Int.reducePow, Int.reduceLT, Int.reduceLE, Int.reduceNeg, Int.reduceAdd, Int.reduceSub, Int.reduceMul, decide_true, decide_false, reduceCtorEq]
  exact dn
theorem r2equal_spec (s t : Bool) (m n : List Nat) (sm : m.length ≤ 1099511627776) (sn : n.length ≤ 1099511627776) : PDet Try.prog 65 [.agg [.bool s, nl m], .agg [.bool t, nl n]] (.bool (decide (s = t ∧ m = n))) := by
  refine pdet_of E0ok mixed Try.func65 (by kernel_rfl) rfl (by kernel_rfl) (Nat.le_of_ble_eq_true rfl) fun N0 h hn hmen => ?_
  have c := r1equal_spec m n sm sn
  unfold nl at *
  by_cases e : s = t
  · subst e
    have e1 : (s == s) = true := by simp
    have e2 : decide (s = s ∧ m = n) = decide (m = n) := by simp
    rw [e2]
    simp -implicitDefEqProofs (maxSteps := 2000000) (disch := decide) only [go_sem, condB_t, condB_f, pf0, dec_t, dec_f, and_of, ↓reduceIte, Nat.reduceEqDiff, Nat.reduceMul, Nat.reduceAdd, Nat.reduceSub, Nat.reduceLT, Nat.reduceLeDiff, Int.reduceToNat, Nat.reducePow, Int.reducePow, Int.reduceLT, Int.reduceLE, Int.reduceNeg, Int.reduceAdd, Int.reduceSub, Int.reduceMul, decide_true, decide_false, reduceCtorEq, e1]
    refine callK_pure c ?_
    simp -implicitDefEqProofs (maxSteps := 2000000) (disch := decide) only [go_sem, condB_t, condB_f, pf0, dec_t, dec_f, and_of, ↓reduceIte, Nat.reduceEqDiff, Nat.reduceMul, Nat.reduceAdd, Nat.reduceSub, Nat.reduceLT, Nat.reduceLeDiff, Int.reduceToNat, Nat.reducePow, Int.reducePow, Int.reduceLT, Int.reduceLE, Int.reduceNeg, Int.reduceAdd, Int.reduceSub, Int.reduceMul, decide_true, decide_false, reduceCtorEq]
    exact dn
  · have e1 : (s == t) = false := by simpa using e
    have e2 : decide (s = t ∧ m = n) = false := decide_eq_false fun h => e h.1
    rw [e2]
    simp -implicitDefEqProofs (maxSteps := 2000000) (disch := decide) only [go_sem, condB_t, condB_f, pf0, dec_t, dec_f, and_of, ↓reduceIte, Nat.reduceEqDiff, Nat.reduceMul, Nat.reduceAdd, Nat.reduceSub, Nat.reduceLT, Nat.reduceLeDiff, Int.reduceToNat, Nat.reducePow, Int.reducePow, Int.reduceLT, Int.reduceLE, Int.reduceNeg, Int.reduceAdd, Int.reduceSub, Int.reduceMul, decide_true, decide_false, reduceCtorEq, e1]
    exact dn
theorem r2fromInt_spec (v : Int) (h1 : -9223372036854775808 ≤ v) (h2 : v ≤ 9223372036854775807) : PDet Try.prog 83 [.int .i64 v] (.agg (iC v)) := by
  refine pdet_of E0ok mixed Try.func83 (by kernel_rfl) rfl (by kernel_rfl) (Nat.le_of_ble_eq_true rfl) fun N0 h hn hmen => ?_
  by_cases hv : v < 0
  · obtain ⟨n, rfl⟩ : ∃ n : Nat, v = -((n : Int) + 1) := ⟨(-v - 1).toNat, by omega⟩
    have e2 : ival true (n + 1) = -((n : Int) + 1) := by simp [ival]
    have hl2 : (lim (n + 1)).length ≤ 2 := lim_len.2 (show n + 1 < 18446744073709551616 by omega)
    have hw := r2make_spec true (lim (n + 1)) (lb_lim _) (by omega)
    rw [val_lim, e2] at hw
    simp -implicitDefEqProofs (maxSteps := 2000000) (disch := omega) only [go_sem, condB_t, condB_f, pf0, dec_t, dec_f, and_of, ↓reduceIte, Nat.reduceEqDiff, Nat.reduceMul, Nat.reduceAdd, Nat.reduceSub, Nat.reduceLT, Nat.reduceLeDiff, Int.reduceToNat, Nat.reducePow, Int.reducePow, Int.reduceLT, Int.reduceLE, Int.reduceNeg, Int.reduceAdd, Int.reduceSub, Int.reduceMul, decide_true, decide_false, reduceCtorEq]
    rw [show (-(-((n + 1 : Nat) : Int) + 1) % 18446744073709551616 + 1) % 18446744073709551616 = ((n + 1 : Nat) : Int) by omega]
    refine callK_pure (r1fromUint64_spec (n + 1) (by omega)) ?_
    simp -implicitDefEqProofs (maxSteps := 2000000) (disch := omega) only [go_sem, condB_t, condB_f, pf0, dec_t, dec_f, and_of, ↓reduceIte, Nat.reduceEqDiff, Nat.reduceMul, Nat.reduceAdd, Nat.reduceSub, Nat.reduceLT, Nat.reduceLeDiff, Int.reduceToNat, Nat.reducePow, Int.reducePow, Int.reduceLT, Int.reduceLE, Int.reduceNeg, Int.reduceAdd, Int.reduceSub, Int.reduceMul, decide_true, decide_false, reduceCtorEq]
    refine callK_pure hw ?_
    unfold iC nl
    simp -implicitDefEqProofs (maxSteps := 2000000) (disch := omega) only [go_sem, condB_t, condB_f, pf0, dec_t, dec_f, and_of, ↓reduceIte, Nat.reduceEqDiff, Nat.reduceMul, Nat.reduceAdd, Nat.reduceSub, Nat.reduceLT, Nat.reduceLeDiff, Int.reduceToNat, Nat.reducePow, Int.reducePow, Int.reduceLT, Int.reduceLE, Int.reduceNeg, Int.reduceAdd, Int.reduceSub, Int.reduceMul, decide_true, decide_false, reduceCtorEq]
    exact dn
  · obtain ⟨n, rfl⟩ : ∃ n : Nat, v = (n : Int) := ⟨v.toNat, by omega⟩
    have hl2 : (lim n).length ≤ 2 := lim_len.2 (show n < 18446744073709551616 by omega)
    have hw := r2make_spec false (lim n) (lb_lim _) (by omega)
    rw [val_lim, ival_f] at hw
    simp -implicitDefEqProofs (maxSteps := 2000000) (disch := omega) only [go_sem, condB_t, condB_f, pf0, dec_t, dec_f, and_of, ↓reduceIte, Nat.reduceEqDiff, Nat.reduceMul, Nat.reduceAdd, Nat.reduceSub, Nat.reduceLT, Nat.reduceLeDiff, Int.reduceToNat, Nat.reducePow, Int.reducePow, Int.reduceLT, Int.reduceLE, Int.reduceNeg, Int.reduceAdd, Int.reduceSub, Int.reduceMul, decide_true, decide_false, reduceCtorEq]
    refine callK_pure (r1fromUint64_spec n (by omega)) ?_
    simp -implicitDefEqProofs (maxSteps := 2000000) (disch := omega) only [go_sem, condB_t, condB_f, pf0, dec_t, dec_f, and_of, ↓reduceIte, Nat.reduceEqDiff, Nat.reduceMul, Nat.reduceAdd, Nat.reduceSub, Nat.reduceLT, Nat.reduceLeDiff, Int.reduceToNat, Nat.reducePow, Int.reducePow, Int.reduceLT, Int.reduceLE, Int.reduceNeg, Int.reduceAdd, Int.reduceSub, Int.reduceMul, decide_true, decide_false, reduceCtorEq]
    refine callK_pure hw ?_
    unfold iC nl
    simp -implicitDefEqProofs (maxSteps := 2000000) (disch := omega) only [go_sem, condB_t, condB_f, pf0, dec_t, dec_f, and_of, ↓reduceIte, Nat.reduceEqDiff, Nat.reduceMul, Nat.reduceAdd, Nat.reduceSub, Nat.reduceLT, Nat.reduceLeDiff, Int.reduceToNat, Nat.reducePow, Int.reducePow, Int.reduceLT, Int.reduceLE, Int.reduceNeg, Int.reduceAdd, Int.reduceSub, Int.reduceMul, decide_true, decide_false, reduceCtorEq]
    exact dn
theorem r2sign_spec (s : Bool) (m : List Nat) (hm : Lb m) (sm : m.length ≤ 1099511627776) : PDet Try.prog 117 [.agg [.bool s, nl m]] (.int .i64 (ival s (val m)).sign) := by
  refine pdet_of E0ok mixed Try.func117 (by kernel_rfl) rfl (by kernel_rfl) (Nat.le_of_ble_eq_true rfl) fun N0 h hn hmen => ?_
  have c := r2norm_spec s m hm sm
  have hl := lim_pos_len (val m)
  have hlen := lim_len_val hm
  rw [iC_ival] at c
  rw [sign_ival]
  unfold nl at *
  simp -implicitDefEqProofs (maxSteps := 2000000) (disch := omega) only [go_sem, condB_t, condB_f, pf0, dec_t, dec_f, and_of, ↓reduceIte, Nat.reduceEqDiff, Nat.reduceMul, Nat.reduceAdd, Nat.reduceSub, Nat.reduceLT, Nat.reduceLeDiff, Int.reduceToNat, Nat.reducePow, Int.reducePow, Int.reduceLT, Int.reduceLE, Int.reduceNeg, Int.reduceAdd, Int.reduceSub, Int.reduceMul, decide_true, decide_false, reduceCtorEq]
  refine callK_pure c ?_
  by_cases h0 : val m = 0
  · rw [if_pos h0, h0, decide_eq_false (Nat.lt_irrefl 0), Bool.and_false, lim_zero]
    simp -implicitDefEqProofs (maxSteps := 2000000) (disch := omega) only [go_sem, condB_t, condB_f, pf0, dec_t, dec_f, and_of, ↓reduceIte, Nat.reduceEqDiff, Nat.reduceMul, Nat.reduceAdd, Nat.reduceSub, Nat.reduceLT, Nat.reduceLeDiff, Int.reduceToNat, Nat.reducePow, Int.reducePow, Int.reduceLT, Int.reduceLE, Int.reduceNeg, Int.reduceAdd, Int.reduceSub, Int.reduceMul, decide_true, decide_false, reduceCtorEq]
    exact dn
  · rw [if_neg h0, decide_eq_true (Nat.pos_of_ne_zero h0), Bool.and_true]
    have h1 := hl.2 (Nat.pos_of_ne_zero h0)
    cases s <;> simp -implicitDefEqProofs (maxSteps := 2000000) (disch := omega) only [go_sem, condB_t, condB_f, pf0, dec_t, dec_f, and_of, ↓reduceIte, Nat.reduceEqDiff, Nat.reduceMul, Nat.reduceAdd, Nat.reduceSub, Nat.reduceLT, Nat.reduceLeDiff, Int.reduceToNat, Nat.reducePow, Int.reducePow, Int.reduceLT, Int.reduceLE, Int.reduceNeg, Int.reduceAdd, Int.reduceSub, Int.reduceMul, decide_true, decide_false, reduceCtorEq] <;> exact dn
theorem r2add_spec (s t : Bool) (m n : List Nat) (hm : Lb m) (hn' : Lb n) (sm : m.length ≤ 1099511627776) (sn : n.length ≤ 1099511627776) : PDet Try.prog 139 [.agg [.bool s, nl m], .agg [.bool t, nl n]] (.agg (iC (ival s (val m) + ival t (val n)))) := by
  refine pdet_of E0ok mixed Try.func139 (by kernel_rfl) rfl (by kernel_rfl) (Nat.le_of_ble_eq_true rfl) fun N0 h hn hmen => ?_
  have c1 := r1add_spec m n hm hn' sm sn
  have c2 := fun h => r1sub_ok m n hm hn' sm sn h
  have c3 := fun h => r1sub_no m n hm hn' sm sn h
  have c4 := fun h => r1sub_ok n m hn' hm sn sm h
  have l1 := lim_len_add (val m) (val n)
  have l2 := lim_len_mono (Nat.sub_le (val m) (val n))
  have l3 := lim_len_mono (Nat.sub_le (val n) (val m))
  have l4 := lim_len_val hm
  have l5 := lim_len_val hn'
  generalize val m = a at *
  generalize val n = b at *
  have w := fun s k (h : (lim k).length ≤ 4398046511104) => r2make_spec s (lim k) (lb_lim k) h
  simp only [iC_ival, val_lim] at w
  have w1 := w s (a + b) (by omega)
  have w2 := w s (a - b) (by omega)
  have w3 := w t (b - a) (by omega)
  unfold nl at *
  clear l1 l2 l3 l4 l5 w
  by_cases e : (s == t) = true
  · have e2 : ival s a + ival t b = ival s (a + b) := by
      have := eq_of_beq e
      subst this
      cases s <;> simp [ival] <;> omega
    rw [e2, iC_ival]
    unfold nl
    simp -implicitDefEqProofs (maxSteps := 2000000) (disch := decide) only [go_sem, condB_t, condB_f, pf0, dec_t, dec_f, and_of, ↓reduceIte, Nat.reduceEqDiff, Nat.reduceMul, Nat.reduceAdd, Nat.reduceSub, Nat.reduceLT, Nat.reduceLeDiff, Int.reduceToNat, Nat.reducePow, Int.reducePow, Int.reduceLT, Int.reduceLE, Int.reduceNeg, Int.reduceAdd, Int.reduceSub, Int.reduceMul, decide_true, decide_false, reduceCtorEq, e]
    refine pcallK_pure c1 ?_
    simp -implicitDefEqProofs (maxSteps := 2000000) (disch := decide) only [go_sem, condB_t, condB_f, pf0, dec_t, dec_f, and_of, ↓reduceIte, Nat.reduceEqDiff, Nat.reduceMul, Nat.reduceAdd, Nat.reduceSub, Nat.reduceLT, Nat.reduceLeDiff, Int.reduceToNat, Nat.reducePow, Int.reducePow, Int.reduceLT, Int.reduceLE, Int.reduceNeg, Int.reduceAdd, Int.reduceSub, Int.reduceMul, decide_true, decide_false, reduceCtorEq]
    refine pcallK_pure w1 ?_
    simp -implicitDefEqProofs (maxSteps := 2000000) (disch := decide) only [go_sem, condB_t, condB_f, pf0, dec_t, dec_f, and_of, ↓reduceIte, Nat.reduceEqDiff, Nat.reduceMul, Nat.reduceAdd, Nat.reduceSub, Nat.reduceLT, Nat.reduceLeDiff, Int.reduceToNat, Nat.reducePow, Int.reducePow, Int.reduceLT, Int.reduceLE, Int.reduceNeg, Int.reduceAdd, Int.reduceSub, Int.reduceMul, decide_true, decide_false, reduceCtorEq]
    exact dn
  · have e' : (s == t) = false := by simpa using e
    by_cases hle : b ≤ a
    · have e2 : ival s a + ival t b = ival s (a - b) := by
        cases s <;> cases t <;> simp at e <;> simp [ival] <;> omega
      rw [e2, iC_ival]
      unfold nl
      simp -implicitDefEqProofs (maxSteps := 2000000) (disch := decide) only [go_sem, condB_t, condB_f, pf0, dec_t, dec_f, and_of, ↓reduceIte, Nat.reduceEqDiff, Nat.reduceMul, Nat.reduceAdd, Nat.reduceSub, Nat.reduceLT, Nat.reduceLeDiff, Int.reduceToNat, Nat.reducePow, Int.reducePow, Int.reduceLT, Int.reduceLE, Int.reduceNeg, Int.reduceAdd, Int.reduceSub, Int.reduceMul, decide_true, decide_false, reduceCtorEq, e']
      refine callK_pure (c2 hle) ?_
      simp -implicitDefEqProofs (maxSteps := 2000000) (disch := decide) only [go_sem, condB_t, condB_f, pf0, dec_t, dec_f, and_of, ↓reduceIte, Nat.reduceEqDiff, Nat.reduceMul, Nat.reduceAdd, Nat.reduceSub, Nat.reduceLT, Nat.reduceLeDiff, Int.reduceToNat, Nat.reducePow, Int.reducePow, Int.reduceLT, Int.reduceLE, Int.reduceNeg, Int.reduceAdd, Int.reduceSub, Int.reduceMul, decide_true, decide_false, reduceCtorEq]
      refine callK_pure w2 ?_
      simp -implicitDefEqProofs (maxSteps := 2000000) (disch := decide) only [go_sem, condB_t, condB_f, pf0, dec_t, dec_f, and_of, ↓reduceIte, Nat.reduceEqDiff, Nat.reduceMul, Nat.reduceAdd, Nat.reduceSub, Nat.reduceLT, Nat.reduceLeDiff, Int.reduceToNat, Nat.reducePow, Int.reducePow, Int.reduceLT, Int.reduceLE, Int.reduceNeg, Int.reduceAdd, Int.reduceSub, Int.reduceMul, decide_true, decide_false, reduceCtorEq]
      exact dn
    · have e2 : ival s a + ival t b = ival t (b - a) := by
        cases s <;> cases t <;> simp at e <;> simp [ival] <;> omega
      rw [e2, iC_ival]
      unfold nl
      simp -implicitDefEqProofs (maxSteps := 2000000) (disch := decide) only [go_sem, condB_t, condB_f, pf0, dec_t, dec_f, and_of, ↓reduceIte, Nat.reduceEqDiff, Nat.reduceMul, Nat.reduceAdd, Nat.reduceSub, Nat.reduceLT, Nat.reduceLeDiff, Int.reduceToNat, Nat.reducePow, Int.reducePow, Int.reduceLT, Int.reduceLE, Int.reduceNeg, Int.reduceAdd, Int.reduceSub, Int.reduceMul, decide_true, decide_false, reduceCtorEq, e']
      refine callK_pure (c3 (by omega)) ?_
      simp -implicitDefEqProofs (maxSteps := 2000000) (disch := decide) only [go_sem, condB_t, condB_f, pf0, dec_t, dec_f, and_of, ↓reduceIte, Nat.reduceEqDiff, Nat.reduceMul, Nat.reduceAdd, Nat.reduceSub, Nat.reduceLT, Nat.reduceLeDiff, Int.reduceToNat, Nat.reducePow, Int.reducePow, Int.reduceLT, Int.reduceLE, Int.reduceNeg, Int.reduceAdd, Int.reduceSub, Int.reduceMul, decide_true, decide_false, reduceCtorEq]
      refine callK_pure (c4 (by omega)) ?_
      simp -implicitDefEqProofs (maxSteps := 2000000) (disch := decide) only [go_sem, condB_t, condB_f, pf0, dec_t, dec_f, and_of, ↓reduceIte, Nat.reduceEqDiff, Nat.reduceMul, Nat.reduceAdd, Nat.reduceSub, Nat.reduceLT, Nat.reduceLeDiff, Int.reduceToNat, Nat.reducePow, Int.reducePow, Int.reduceLT, Int.reduceLE, Int.reduceNeg, Int.reduceAdd, Int.reduceSub, Int.reduceMul, decide_true, decide_false, reduceCtorEq]
      refine callK_pure w3 ?_
      simp -implicitDefEqProofs (maxSteps := 2000000) (disch := decide) only [go_sem, condB_t, condB_f, pf0, dec_t, dec_f, and_of, ↓reduceIte, Nat.reduceEqDiff, Nat.reduceMul, Nat.reduceAdd, Nat.reduceSub, Nat.reduceLT, Nat.reduceLeDiff, Int.reduceToNat, Nat.reducePow, Int.reducePow, Int.reduceLT, Int.reduceLE, Int.reduceNeg, Int.reduceAdd, Int.reduceSub, Int.reduceMul, decide_true, decide_false, reduceCtorEq]
      exact dn
theorem r2sub_spec (s t : Bool) (m n : List Nat) (hm : Lb m) (hn' : Lb n) (sm : m.length ≤ 1099511627776) (sn : n.length ≤ 1099511627776) : PDet Try.prog 152 [.agg [.bool s, nl m], .agg [.bool t, nl n]] (.agg (iC (ival s (val m) - ival t (val n)))) := by
  refine pdet_of E0ok mixed Try.func152 (by kernel_rfl) rfl (by kernel_rfl) (Nat.le_of_ble_eq_true rfl) fun N0 h hn hmen => ?_
  have c1 := r2neg_spec t n hn' sn
  rw [← ival_not, iC_ival] at c1
  have l5 := lim_len_val hn'
  have c2 := r2add_spec s (!t && decide (0 < val n)) m (lim (val n)) hm (lb_lim _) sm (by omega)
  have e : ival (!t && decide (0 < val n)) (val n) = -ival t (val n) := by
    by_cases h : 0 < val n
    · rw [decide_eq_true h, Bool.and_true, ival_not]
    · obtain h0 : val n = 0 := by omega
      rw [h0]; cases t <;> simp [ival]
  rw [val_lim, e] at c2
  rw [Int.sub_eq_add_neg]
  unfold iC nl at *
  simp -implicitDefEqProofs (maxSteps := 2000000) (disch := decide) only [go_sem, condB_t, condB_f, pf0, dec_t, dec_f, and_of, ↓reduceIte, Nat.reduceEqDiff, Nat.reduceMul, Nat.reduceAdd, Nat.reduceSub, Nat.reduceLT, Nat.reduceLeDiff, Int.reduceToNat, Nat.reducePow, Int.reducePow, Int.reduceLT, Int.reduceLE, Int.reduceNeg, Int.reduceAdd, Int.reduceSub, Int.reduceMul, decide_true, decide_false, reduceCtorEq]
  refine pcallK_pure c1 ?_
  simp -implicitDefEqProofs (maxSteps := 2000000) (disch := decide) only [go_sem, condB_t, condB_f, pf0, dec_t, dec_f, and_of, ↓reduceIte, Nat.reduceEqDiff, Nat.reduceMul, Nat.reduceAdd, Nat.reduceSub, Nat.reduceLT, Nat.reduceLeDiff, Int.reduceToNat, Nat.reducePow, Int.reducePow, Int.reduceLT, Int.reduceLE, Int.reduceNeg, Int.reduceAdd, Int.reduceSub, Int.reduceMul, decide_true, decide_false, reduceCtorEq]
  refine pcallK_pure c2 ?_
  simp -implicitDefEqProofs (maxSteps := 2000000) (disch := decide) only [go_sem, condB_t, condB_f, pf0, dec_t, dec_f, and_of, ↓reduceIte, Nat.reduceEqDiff, Nat.reduceMul, Nat.reduceAdd, Nat.reduceSub, Nat.reduceLT, Nat.reduceLeDiff, Int.reduceToNat, Nat.reducePow, Int.reducePow, Int.reduceLT, Int.reduceLE, Int.reduceNeg, Int.reduceAdd, Int.reduceSub, Int.reduceMul, decide_true, decide_false, reduceCtorEq]
  exact dn
theorem r2mul_spec (s t : Bool) (m n : List Nat) (hm : Lb m) (hn' : Lb n) (sm : m.length ≤ 1099511627776) (sn : n.length ≤ 1099511627776) : PDet Try.prog 140 [.agg [.bool s, nl m], .agg [.bool t, nl n]] (.agg (iC (ival s (val m) * ival t (val n)))) := by
  refine pdet_of E0ok mixed Try.func140 (by kernel_rfl) rfl (by kernel_rfl) (Nat.le_of_ble_eq_true rfl) fun N0 h hn hmen => ?_
  have c1 := r1mul_spec m n hm hn' sm sn
  have l1 := lim_len_mul (val m) (val n)
  have l4 := lim_len_val hm
  have l5 := lim_len_val hn'
  generalize val m = a at *
  generalize val n = b at *
  have w := fun s => r2make_spec s (lim (a * b)) (lb_lim _) (by omega)
  simp only [iC_ival, val_lim] at w
  have e2 : ival s a * ival t b = ival (!(s == t)) (a * b) := by
    cases s <;> cases t <;> simp [ival, Int.natCast_mul, Int.neg_mul, Int.mul_neg]
  rw [e2, iC_ival]
  unfold nl at *
  clear l1 l4 l5
  simp -implicitDefEqProofs (maxSteps := 2000000) (disch := decide) only [go_sem, condB_t, condB_f, pf0, dec_t, dec_f, and_of, ↓reduceIte, Nat.reduceEqDiff, Nat.reduceMul, Nat.reduceAdd, Nat.reduceSub, Nat.reduceLT, Nat.reduceLeDiff, Int.reduceToNat, Nat.reducePow, Int.reducePow, Int.reduceLT, Int.reduceLE, Int.reduceNeg, Int.reduceAdd, Int.reduceSub, Int.reduceMul, decide_true, decide_false, reduceCtorEq]
  refine pcallK_pure c1 ?_
  simp -implicitDefEqProofs (maxSteps := 2000000) (disch := decide) only [go_sem, condB_t, condB_f, pf0, dec_t, dec_f, and_of, ↓reduceIte, Nat.reduceEqDiff, Nat.reduceMul, Nat.reduceAdd, Nat.reduceSub, Nat.reduceLT, Nat.reduceLeDiff, Int.reduceToNat, Nat.reducePow, Int.reducePow, Int.reduceLT, Int.reduceLE, Int.reduceNeg, Int.reduceAdd, Int.reduceSub, Int.reduceMul, decide_true, decide_false, reduceCtorEq]
  refine pcallK_pure (w _) ?_
  simp -implicitDefEqProofs (maxSteps := 2000000) (disch := decide) only [go_sem, condB_t, condB_f, pf0, dec_t, dec_f, and_of, ↓reduceIte, Nat.reduceEqDiff, Nat.reduceMul, Nat.reduceAdd, Nat.reduceSub, Nat.reduceLT, Nat.reduceLeDiff, Int.reduceToNat, Nat.reducePow, Int.reducePow, Int.reduceLT, Int.reduceLE, Int.reduceNeg, Int.reduceAdd, Int.reduceSub, Int.reduceMul, decide_true, decide_false, reduceCtorEq]
  exact dn
theorem r2gcd_spec (s t : Bool) (m n : List Nat) (hm : Lb m) (hn' : Lb n) (sm : m.length ≤ 549755813888) (sn : n.length ≤ 549755813888) : PDet Try.prog 121 [.agg [.bool s, nl m], .agg [.bool t, nl n]] (.agg (iC (Nat.gcd (val m) (val n) : Int))) := by
  refine pdet_of E0ok mixed Try.func121 (by kernel_rfl) rfl (by kernel_rfl) (Nat.le_of_ble_eq_true rfl) fun N0 h hn hmen => ?_
  have c1 := r1gcd_spec m n hm hn' sm sn
  have l4 := lim_len_val hm
  have l5 := lim_len_val hn'
  have l6 : (lim (Nat.gcd (val m) (val n))).length ≤ 4398046511104 := by
    rcases Nat.eq_zero_or_pos (val m) with h | h
    · rw [h, Nat.gcd_zero_left]; omega
    · have := lim_len_mono (Nat.gcd_le_left (val n) h); omega
  have w := r2make_spec false (lim (Nat.gcd (val m) (val n))) (lb_lim _) l6
  rw [val_lim, ival_f] at w
  unfold iC nl at *
  simp -implicitDefEqProofs (maxSteps := 2000000) (disch := decide) only [go_sem, condB_t, condB_f, pf0, dec_t, dec_f, and_of, ↓reduceIte, Nat.reduceEqDiff, Nat.reduceMul, Nat.reduceAdd, Nat.reduceSub, Nat.reduceLT, Nat.reduceLeDiff, Int.reduceToNat, Nat.reducePow, Int.reducePow, Int.reduceLT, Int.reduceLE, Int.reduceNeg, Int.reduceAdd, Int.reduceSub, Int.reduceMul, decide_true, decide_false, reduceCtorEq]
  refine callK_pure c1 ?_
  simp -implicitDefEqProofs (maxSteps := 2000000) (disch := decide) only [go_sem, condB_t, condB_f, pf0, dec_t, dec_f, and_of, ↓reduceIte, Nat.reduceEqDiff, Nat.reduceMul, Nat.reduceAdd, Nat.reduceSub, Nat.reduceLT, Nat.reduceLeDiff, Int.reduceToNat, Nat.reducePow, Int.reducePow, Int.reduceLT, Int.reduceLE, Int.reduceNeg, Int.reduceAdd, Int.reduceSub, Int.reduceMul, decide_true, decide_false, reduceCtorEq]
  refine callK_pure w ?_
  simp -implicitDefEqProofs (maxSteps := 2000000) (disch := decide) only [go_sem, condB_t, condB_f, pf0, dec_t, dec_f, and_of, ↓reduceIte, Nat.reduceEqDiff, Nat.reduceMul, Nat.reduceAdd, Nat.reduceSub, Nat.reduceLT, Nat.reduceLeDiff, Int.reduceToNat, Nat.reducePow, Int.reducePow, Int.reduceLT, Int.reduceLE, Int.reduceNeg, Int.reduceAdd, Int.reduceSub, Int.reduceMul, decide_true, decide_false, reduceCtorEq]
  exact dn
/-- Exact division. -/
theorem r2divMod_exact (s : Bool) (m n : List Nat) (hm : Lb m) (hn' : Lb n) (sm : m.length ≤ 549755813888) (sn : n.length ≤ 549755813888) (h0 : val n ≠ 0) (hd : val n ∣ val m) : PDet Try.prog 122 [.agg [.bool s, nl m], .agg [.bool false, nl n]] (.tup [.agg (iC (ival s (val m / val n))), .agg (iC 0), .bool true]) := by
  refine pdet_of ED122ok mixed Try.func122 (by kernel_rfl) rfl (by kernel_rfl) (Nat.le_of_ble_eq_true rfl) fun N0 h hn hmen => ?_
  have c1 := r1divMod_spec m n hm hn' sm sn h0
  rw [Nat.mod_eq_zero_of_dvd hd] at c1
  have l4 := lim_len_val hm
  have l5 := lim_len_mono (Nat.div_le_self (val m) (val n))
  have w1 := r2make_spec s (lim (val m / val n)) (lb_lim _) (by omega)
  have w2 := r2make_spec s (lim 0) (lb_lim _) (by rw [lim_zero]; simp)
  rw [val_lim] at w1 w2
  have z : ival s 0 = 0 := by cases s <;> rfl
  rw [z] at w2
  have e : (!(s == false)) = s := by cases s <;> rfl
  unfold iC nl at *
  clear l4 l5
  simp -implicitDefEqProofs (maxSteps := 2000000) (disch := decide) only [go_sem, condB_t, condB_f, pf0, dec_t, dec_f, and_of, ↓reduceIte, Nat.reduceEqDiff, Nat.reduceMul, Nat.reduceAdd, Nat.reduceSub, Nat.reduceLT, Nat.reduceLeDiff, Int.reduceToNat, Nat.reducePow, Int.reducePow, Int.reduceLT, Int.reduceLE, Int.reduceNeg, Int.reduceAdd, Int.reduceSub, Int.reduceMul, decide_true, decide_false, reduceCtorEq]
  refine callK_pure c1 ?_
  simp -implicitDefEqProofs (maxSteps := 2000000) (disch := decide) only [go_sem, condB_t, condB_f, pf0, dec_t, dec_f, and_of, ↓reduceIte, Nat.reduceEqDiff, Nat.reduceMul, Nat.reduceAdd, Nat.reduceSub, Nat.reduceLT, Nat.reduceLeDiff, Int.reduceToNat, Nat.reducePow, Int.reducePow, Int.reduceLT, Int.reduceLE, Int.reduceNeg, Int.reduceAdd, Int.reduceSub, Int.reduceMul, decide_true, decide_false, reduceCtorEq, e]
  refine pcallK_pure w1 ?_
  simp -implicitDefEqProofs (maxSteps := 2000000) (disch := decide) only [go_sem, condB_t, condB_f, pf0, dec_t, dec_f, and_of, ↓reduceIte, Nat.reduceEqDiff, Nat.reduceMul, Nat.reduceAdd, Nat.reduceSub, Nat.reduceLT, Nat.reduceLeDiff, Int.reduceToNat, Nat.reducePow, Int.reducePow, Int.reduceLT, Int.reduceLE, Int.reduceNeg, Int.reduceAdd, Int.reduceSub, Int.reduceMul, decide_true, decide_false, reduceCtorEq]
  refine pcallK_pure w2 ?_
  simp -implicitDefEqProofs (maxSteps := 2000000) (disch := decide) only [go_sem, condB_t, condB_f, pf0, dec_t, dec_f, and_of, ↓reduceIte, Nat.reduceEqDiff, Nat.reduceMul, Nat.reduceAdd, Nat.reduceSub, Nat.reduceLT, Nat.reduceLeDiff, Int.reduceToNat, Nat.reducePow, Int.reducePow, Int.reduceLT, Int.reduceLE, Int.reduceNeg, Int.reduceAdd, Int.reduceSub, Int.reduceMul, decide_true, decide_false, reduceCtorEq, Int.lt_irrefl]
  exact dn
end Go.Abs
/-! YtbRef4: The reference of the third layer: rational numbers. No condition. -/
set_option linter.unusedVariables false
set_option linter.unusedSimpArgs false
set_option maxRecDepth 100000
set_option maxHeartbeats 1000000
namespace Go.Abs
open Go.Proofs
@[go_sem] theorem R71 : Try.f71.results.toList = [.cell 0 56] := rfl
@[go_sem] theorem R82 : Try.f82.results.toList = [.cell 4 56] := rfl
@[go_sem] theorem R111 : Try.f111.results.toList = [.cell 2 56] := rfl
@[go_sem] theorem R30 : Try.f30.results.toList = [.tmp 4] := rfl
@[go_sem] theorem R70 : Try.f70.results.toList = [.tmp 2] := rfl
@[go_sem] theorem R141 : Try.f141.results.toList = [.cell 2 54] := rfl
@[go_sem] theorem R44 : Try.f44.results.toList = [.cell 2 56] := rfl
@[go_sem] theorem R112 : Try.f112.results.toList = [.cell 4 56] := rfl
@[go_sem] theorem R77 : Try.f77.results.toList = [.tmp 2] := rfl
@[go_sem] theorem R98 : Try.f98.results.toList = [.cell 4 56] := rfl
def ED98 : Env := { tt := E0.tt, pf := E0.pf, dyn := fun id => lookD id [(1, [(0, 4), (2, 4), (0, 5), (2, 5)])] }
theorem ED98ok : EnvOk Try.prog ED98 := ⟨E0ok.tt⟩
@[go_sem] theorem ED98tt (t : Nat) : ED98.tt t = E0.tt t := rfl
@[go_sem] theorem ED98dyn (id : Nat) : ED98.dyn id = lookD id [(1, [(0, 4), (2, 4), (0, 5), (2, 5)])] := rfl
@[go_sem] theorem ED98pf (f : Nat) : ED98.pf f = E0.pf f := rfl
theorem r3zero_spec : PDet Try.prog 71 [] (.agg (rC 0)) := by
  refine pdet_of E0ok mixed Try.func71 (by kernel_rfl) rfl (by kernel_rfl) (Nat.le_of_ble_eq_true rfl) fun N0 h hn hmen => ?_
  have e : rC 0 = [.bool false, .sl 1 (numL []), .sl 1 (numL [1])] := by
    have := rC_int 0
    simp [lim_zero, lim_one] at this
    exact this
  rw [e]
  simp -implicitDefEqProofs (maxSteps := 2000000) (disch := omega) only [go_sem, condB_t, condB_f, pf0, dec_t, dec_f, and_of, ↓reduceIte, Nat.reduceEqDiff, Nat.reduceMul, Nat.reduceAdd, Nat.reduceSub, Nat.reduceLT, Nat.reduceLeDiff, Int.reduceToNat, Nat.reducePow, Int.reducePow, Int.reduceLT, Int.reduceLE, Int.reduceNeg, Int.reduceAdd, Int.reduceSub, Int.reduceMul, decide_true, decide_false, reduceCtorEq]
  refine .val (.agg3 (.same rfl) (Thaw.plain (id := N0 + 8) (rows := numL []) (by simp [locH, upd]; rfl) rfl (by simp) rfl (numL_plain [])) (Thaw.plain (id := N0 + 24) (rows := numL [1]) ?_ rfl (by simp) rfl (numL_plain [1])))
  simp [locH, upd]
  rfl
theorem r3make_zero (s t : Bool) (m n : List Nat) (hm : Lb m) (hn' : Lb n) (sm : m.length ≤ 549755813888) (sn : n.length ≤ 549755813888) (h0 : val n = 0) : PDet Try.prog 82 [.agg [.bool s, nl m], .agg [.bool t, nl n]] (.agg (rC (quot (ival s (val m)) (ival t (val n))))) := by
  refine pdet_of E0ok mixed Try.func82 (by kernel_rfl) rfl (by kernel_rfl) (Nat.le_of_ble_eq_true rfl) fun N0 h hn hmen => ?_
  have c1 := r2sign_spec t n hn' (by omega)
  have c2 := r3zero_spec
  have e : quot (ival s (val m)) (ival t (val n)) = 0 := by
    unfold quot
    rw [natAbs_ival, h0, Rat.mkRat_zero]
  rw [sign_ival, if_pos h0] at c1
  rw [e]
  unfold rC Raw.cells nl at *
  simp -implicitDefEqProofs (maxSteps := 2000000) (disch := decide) only [go_sem, condB_t, condB_f, pf0, dec_t, dec_f, and_of, ↓reduceIte, Nat.reduceEqDiff, Nat.reduceMul, Nat.reduceAdd, Nat.reduceSub, Nat.reduceLT, Nat.reduceLeDiff, Int.reduceToNat, Nat.reducePow, Int.reducePow, Int.reduceLT, Int.reduceLE, Int.reduceNeg, Int.reduceAdd, Int.reduceSub, Int.reduceMul, decide_true, decide_false, reduceCtorEq]
  refine callK_pure c1 ?_
  simp -implicitDefEqProofs (maxSteps := 2000000) (disch := decide) only [go_sem, condB_t, condB_f, pf0, dec_t, dec_f, and_of, ↓reduceIte, Nat.reduceEqDiff, Nat.reduceMul, Nat.reduceAdd, Nat.reduceSub, Nat.reduceLT, Nat.reduceLeDiff, Int.reduceToNat, Nat.reducePow, Int.reducePow, Int.reduceLT, Int.reduceLE, Int.reduceNeg, Int.reduceAdd, Int.reduceSub, Int.reduceMul, decide_true, decide_false, reduceCtorEq]
  refine callK_pure c2 ?_
  simp -implicitDefEqProofs (maxSteps := 2000000) (disch := decide) only [go_sem, condB_t, condB_f, pf0, dec_t, dec_f, and_of, ↓reduceIte, Nat.reduceEqDiff, Nat.reduceMul, Nat.reduceAdd, Nat.reduceSub, Nat.reduceLT, Nat.reduceLeDiff, Int.reduceToNat, Nat.reducePow, Int.reducePow, Int.reduceLT, Int.reduceLE, Int.reduceNeg, Int.reduceAdd, Int.reduceSub, Int.reduceMul, decide_true, decide_false, reduceCtorEq]
  exact dn
theorem quot_ival {s t : Bool} {m n : Nat} (h : n ≠ 0) : rC (quot (ival s m) (ival t n)) = [.bool ((!(s == t)) && decide (0 < m)), nl (lim (m / Nat.gcd m n)), nl (lim (n / Nat.gcd m n))] := by
  have e : quot (ival s m) (ival t n) = mkRat (ival (!(s == t)) m) n := by
    unfold quot
    rw [natAbs_ival, sign_ival, if_neg h]
    cases s <;> cases t <;> simp [ival]
  rw [e, rC_mk h]
theorem r3make_spec (s t : Bool) (m n : List Nat) (hm : Lb m) (hn' : Lb n) (sm : m.length ≤ 549755813888) (sn : n.length ≤ 549755813888) : PDet Try.prog 82 [.agg [.bool s, nl m], .agg [.bool t, nl n]] (.agg (rC (quot (ival s (val m)) (ival t (val n))))) := by
  by_cases h0 : val n = 0
  · exact r3make_zero s t m n hm hn' sm sn h0
  refine pdet_of E0ok mixed Try.func82 (by kernel_rfl) rfl (by kernel_rfl) (Nat.le_of_ble_eq_true rfl) fun N0 h hn hmen => ?_
  have c1 := r2sign_spec t n hn' (by omega)
  rw [sign_ival, if_neg h0] at c1
  have c2 := r2norm_spec t n hn' (by omega)
  rw [iC_ival, decide_eq_true (Nat.pos_of_ne_zero h0), Bool.and_true] at c2
  have c3 := r2norm_spec s m hm (by omega)
  have l1 := lim_len_val hn'
  have c4 := r1equal_spec (lim (val n)) [1] (by omega) (by simp)
  have c5 := r2gcd_spec s t m n hm hn' sm sn
  have g0 : Nat.gcd (val m) (val n) ≠ 0 := fun e => h0 (Nat.gcd_eq_zero_iff.1 e).2
  have lg : (lim (Nat.gcd (val m) (val n))).length ≤ 549755813888 := by
    have := lim_len_mono (Nat.gcd_le_right (val m) (Nat.pos_of_ne_zero h0)); omega
  rw [← ival_f, iC_ival, decide_eq_true (Nat.pos_of_ne_zero g0), Bool.and_true] at c5
  have c6 := r2divMod_exact s m (lim (Nat.gcd (val m) (val n))) hm (lb_lim _) sm lg (by rw [val_lim]; exact g0) (by rw [val_lim]; exact Nat.gcd_dvd_left _ _)
  have c7 := r2divMod_exact t n (lim (Nat.gcd (val m) (val n))) hn' (lb_lim _) sn lg (by rw [val_lim]; exact g0) (by rw [val_lim]; exact Nat.gcd_dvd_right _ _)
  have l2 := lim_len_mono (Nat.div_le_self (val m) (Nat.gcd (val m) (val n)))
  have l3 := lim_len_mono (Nat.div_le_self (val n) (Nat.gcd (val m) (val n)))
  have l4 := lim_len_val hm
  rw [val_lim] at c6 c7
  have hdp : 0 < val n / Nat.gcd (val m) (val n) := Nat.div_pos (Nat.gcd_le_right _ (Nat.pos_of_ne_zero h0)) (Nat.pos_of_ne_zero g0)
  have hmp : (0 < val m / Nat.gcd (val m) (val n)) ↔ 0 < val m := by
    rw [Nat.div_pos_iff]
    exact ⟨fun h => Nat.lt_of_lt_of_le h.1 h.2, fun h => ⟨Nat.pos_of_ne_zero g0, Nat.gcd_le_left _ h⟩⟩
  rw [iC_ival] at c3 c6 c7
  rw [decide_eq_true hdp, Bool.and_true] at c7
  have c8 := r2neg_spec (s && decide (0 < val m / Nat.gcd (val m) (val n))) (lim (val m / Nat.gcd (val m) (val n))) (lb_lim _) (by omega)
  have c9 := r2neg_spec true (lim (val n / Nat.gcd (val m) (val n))) (lb_lim _) (by omega)
  rw [← ival_not, iC_ival] at c8 c9
  rw [val_lim] at c8 c9
  rw [quot_ival h0]
  clear l1 lg l2 l3 l4
  by_cases ht : t = true
  · subst ht
    simp only [hmp] at c6 c8
    have e1 : (!(s && decide (0 < val m)) && decide (0 < val m)) = (!(s == true) && decide (0 < val m)) := by cases s <;> by_cases h : 0 < val m <;> simp [h]
    rw [e1] at c8
    unfold iC nl at *
    simp -implicitDefEqProofs (maxSteps := 2000000) (disch := decide) only [go_sem, condB_t, condB_f, pf0, dec_t, dec_f, and_of, ↓reduceIte, Nat.reduceEqDiff, Nat.reduceMul, Nat.reduceAdd, Nat.reduceSub, Nat.reduceLT, Nat.reduceLeDiff, Int.reduceToNat, Nat.reducePow, Int.reducePow, Int.reduceLT, Int.reduceLE, Int.reduceNeg, Int.reduceAdd, Int.reduceSub, Int.reduceMul, decide_true, decide_false, reduceCtorEq]
    refine callK_pure c1 ?_
    simp -implicitDefEqProofs (maxSteps := 2000000) (disch := decide) only [go_sem, condB_t, condB_f, pf0, dec_t, dec_f, and_of, ↓reduceIte, Nat.reduceEqDiff, Nat.reduceMul, Nat.reduceAdd, Nat.reduceSub, Nat.reduceLT, Nat.reduceLeDiff, Int.reduceToNat, Nat.reducePow, Int.reducePow, Int.reduceLT, Int.reduceLE, Int.reduceNeg, Int.reduceAdd, Int.reduceSub, Int.reduceMul, decide_true, decide_false, reduceCtorEq]
    refine callK_pure c2 ?_
    simp -implicitDefEqProofs (maxSteps := 2000000) (disch := decide) only [go_sem, condB_t, condB_f, pf0, dec_t, dec_f, and_of, ↓reduceIte, Nat.reduceEqDiff, Nat.reduceMul, Nat.reduceAdd, Nat.reduceSub, Nat.reduceLT, Nat.reduceLeDiff, Int.reduceToNat, Nat.reducePow, Int.reducePow, Int.reduceLT, Int.reduceLE, Int.reduceNeg, Int.reduceAdd, Int.reduceSub, Int.reduceMul, decide_true, decide_false, reduceCtorEq]
    refine callK_pure c5 ?_
    simp -implicitDefEqProofs (maxSteps := 2000000) (disch := decide) only [go_sem, condB_t, condB_f, pf0, dec_t, dec_f, and_of, ↓reduceIte, Nat.reduceEqDiff, Nat.reduceMul, Nat.reduceAdd, Nat.reduceSub, Nat.reduceLT, Nat.reduceLeDiff, Int.reduceToNat, Nat.reducePow, Int.reducePow, Int.reduceLT, Int.reduceLE, Int.reduceNeg, Int.reduceAdd, Int.reduceSub, Int.reduceMul, decide_true, decide_false, reduceCtorEq]
    refine callK_pure c6 ?_
    simp -implicitDefEqProofs (maxSteps := 2000000) (disch := decide) only [go_sem, condB_t, condB_f, pf0, dec_t, dec_f, and_of, ↓reduceIte, Nat.reduceEqDiff, Nat.reduceMul, Nat.reduceAdd, Nat.reduceSub, Nat.reduceLT, Nat.reduceLeDiff, Int.reduceToNat, Nat.reducePow, Int.reducePow, Int.reduceLT, Int.reduceLE, Int.reduceNeg, Int.reduceAdd, Int.reduceSub, Int.reduceMul, decide_true, decide_false, reduceCtorEq]
    refine callK_pure c7 ?_
    simp -implicitDefEqProofs (maxSteps := 2000000) (disch := decide) only [go_sem, condB_t, condB_f, pf0, dec_t, dec_f, and_of, ↓reduceIte, Nat.reduceEqDiff, Nat.reduceMul, Nat.reduceAdd, Nat.reduceSub, Nat.reduceLT, Nat.reduceLeDiff, Int.reduceToNat, Nat.reducePow, Int.reducePow, Int.reduceLT, Int.reduceLE, Int.reduceNeg, Int.reduceAdd, Int.reduceSub, Int.reduceMul, decide_true, decide_false, reduceCtorEq]
    refine pcallK_pure c8 ?_
    simp -implicitDefEqProofs (maxSteps := 2000000) (disch := decide) only [go_sem, condB_t, condB_f, pf0, dec_t, dec_f, and_of, ↓reduceIte, Nat.reduceEqDiff, Nat.reduceMul, Nat.reduceAdd, Nat.reduceSub, Nat.reduceLT, Nat.reduceLeDiff, Int.reduceToNat, Nat.reducePow, Int.reducePow, Int.reduceLT, Int.reduceLE, Int.reduceNeg, Int.reduceAdd, Int.reduceSub, Int.reduceMul, decide_true, decide_false, reduceCtorEq]
    refine pcallK_pure c9 ?_
    simp -implicitDefEqProofs (maxSteps := 2000000) (disch := decide) only [go_sem, condB_t, condB_f, pf0, dec_t, dec_f, and_of, ↓reduceIte, Nat.reduceEqDiff, Nat.reduceMul, Nat.reduceAdd, Nat.reduceSub, Nat.reduceLT, Nat.reduceLeDiff, Int.reduceToNat, Nat.reducePow, Int.reducePow, Int.reduceLT, Int.reduceLE, Int.reduceNeg, Int.reduceAdd, Int.reduceSub, Int.reduceMul, decide_true, decide_false, reduceCtorEq]
    exact dn
  · obtain rfl : t = false := by simpa using ht
    have e1 : (!(s == false)) = s := by cases s <;> rfl
    rw [e1]
    simp only [hmp] at c6
    have fin : ∀ (r : AV), True := fun _ => trivial
    by_cases h1 : val n = 1
    · have e2 : lim (val n) = [1] := by rw [h1, lim_one]
      rw [decide_eq_true e2] at c4
      simp only [h1, Nat.gcd_one_right, Nat.div_one]
      unfold iC nl at *
      simp -implicitDefEqProofs (maxSteps := 2000000) (disch := decide) only [go_sem, condB_t, condB_f, pf0, dec_t, dec_f, and_of, ↓reduceIte, Nat.reduceEqDiff, Nat.reduceMul, Nat.reduceAdd, Nat.reduceSub, Nat.reduceLT, Nat.reduceLeDiff, Int.reduceToNat, Nat.reducePow, Int.reducePow, Int.reduceLT, Int.reduceLE, Int.reduceNeg, Int.reduceAdd, Int.reduceSub, Int.reduceMul, decide_true, decide_false, reduceCtorEq]
      refine callK_pure c1 ?_
      simp -implicitDefEqProofs (maxSteps := 2000000) (disch := decide) only [go_sem, condB_t, condB_f, pf0, dec_t, dec_f, and_of, ↓reduceIte, Nat.reduceEqDiff, Nat.reduceMul, Nat.reduceAdd, Nat.reduceSub, Nat.reduceLT, Nat.reduceLeDiff, Int.reduceToNat, Nat.reducePow, Int.reducePow, Int.reduceLT, Int.reduceLE, Int.reduceNeg, Int.reduceAdd, Int.reduceSub, Int.reduceMul, decide_true, decide_false, reduceCtorEq]
      refine callK_pure c2 ?_
      simp -implicitDefEqProofs (maxSteps := 2000000) (disch := decide) only [go_sem, condB_t, condB_f, pf0, dec_t, dec_f, and_of, ↓reduceIte, Nat.reduceEqDiff, Nat.reduceMul, Nat.reduceAdd, Nat.reduceSub, Nat.reduceLT, Nat.reduceLeDiff, Int.reduceToNat, Nat.reducePow, Int.reducePow, Int.reduceLT, Int.reduceLE, Int.reduceNeg, Int.reduceAdd, Int.reduceSub, Int.reduceMul, decide_true, decide_false, reduceCtorEq]
      refine callK_row2 c4 (by simp only [upd_same] <;> rfl) rfl (by simp) rfl (numL_plain [1]) ?_
      simp -implicitDefEqProofs (maxSteps := 2000000) (disch := decide) only [go_sem, condB_t, condB_f, pf0, dec_t, dec_f, and_of, ↓reduceIte, Nat.reduceEqDiff, Nat.reduceMul, Nat.reduceAdd, Nat.reduceSub, Nat.reduceLT, Nat.reduceLeDiff, Int.reduceToNat, Nat.reducePow, Int.reducePow, Int.reduceLT, Int.reduceLE, Int.reduceNeg, Int.reduceAdd, Int.reduceSub, Int.reduceMul, decide_true, decide_false, reduceCtorEq]
      refine pcallK_pure c3 ?_
      simp -implicitDefEqProofs (maxSteps := 2000000) (disch := decide) only [go_sem, condB_t, condB_f, pf0, dec_t, dec_f, and_of, ↓reduceIte, Nat.reduceEqDiff, Nat.reduceMul, Nat.reduceAdd, Nat.reduceSub, Nat.reduceLT, Nat.reduceLeDiff, Int.reduceToNat, Nat.reducePow, Int.reducePow, Int.reduceLT, Int.reduceLE, Int.reduceNeg, Int.reduceAdd, Int.reduceSub, Int.reduceMul, decide_true, decide_false, reduceCtorEq]
      have e3 : lim (val n) = lim 1 := by rw [h1]
      rw [e3]
      exact dn
    · have e2 : lim (val n) ≠ [1] := fun e => h1 (by rw [← val_lim (val n), e]; rfl)
      rw [decide_eq_false e2] at c4
      unfold iC nl at *
      simp -implicitDefEqProofs (maxSteps := 2000000) (disch := decide) only [go_sem, condB_t, condB_f, pf0, dec_t, dec_f, and_of, ↓reduceIte, Nat.reduceEqDiff, Nat.reduceMul, Nat.reduceAdd, Nat.reduceSub, Nat.reduceLT, Nat.reduceLeDiff, Int.reduceToNat, Nat.reducePow, Int.reducePow, Int.reduceLT, Int.reduceLE, Int.reduceNeg, Int.reduceAdd, Int.reduceSub, Int.reduceMul, decide_true, decide_false, reduceCtorEq]
      refine callK_pure c1 ?_
      simp -implicitDefEqProofs (maxSteps := 2000000) (disch := decide) only [go_sem, condB_t, condB_f, pf0, dec_t, dec_f, and_of, ↓reduceIte, Nat.reduceEqDiff, Nat.reduceMul, Nat.reduceAdd, Nat.reduceSub, Nat.reduceLT, Nat.reduceLeDiff, Int.reduceToNat, Nat.reducePow, Int.reducePow, Int.reduceLT, Int.reduceLE, Int.reduceNeg, Int.reduceAdd, Int.reduceSub, Int.reduceMul, decide_true, decide_false, reduceCtorEq]
      refine callK_pure c2 ?_
      simp -implicitDefEqProofs (maxSteps := 2000000) (disch := decide) only [go_sem, condB_t, condB_f, pf0, dec_t, dec_f, and_of, ↓reduceIte, Nat.reduceEqDiff, Nat.reduceMul, Nat.reduceAdd, Nat.reduceSub, Nat.reduceLT, Nat.reduceLeDiff, Int.reduceToNat, Nat.reducePow, Int.reducePow, Int.reduceLT, Int.reduceLE, Int.reduceNeg, Int.reduceAdd, Int.reduceSub, Int.reduceMul, decide_true, decide_false, reduceCtorEq]
      refine callK_row2 c4 (by simp only [upd_same] <;> rfl) rfl (by simp) rfl (numL_plain [1]) ?_
      simp -implicitDefEqProofs (maxSteps := 2000000) (disch := decide) only [go_sem, condB_t, condB_f, pf0, dec_t, dec_f, and_of, ↓reduceIte, Nat.reduceEqDiff, Nat.reduceMul, Nat.reduceAdd, Nat.reduceSub, Nat.reduceLT, Nat.reduceLeDiff, Int.reduceToNat, Nat.reducePow, Int.reducePow, Int.reduceLT, Int.reduceLE, Int.reduceNeg, Int.reduceAdd, Int.reduceSub, Int.reduceMul, decide_true, decide_false, reduceCtorEq]
      refine callK_pure c5 ?_
      simp -implicitDefEqProofs (maxSteps := 2000000) (disch := decide) only [go_sem, condB_t, condB_f, pf0, dec_t, dec_f, and_of, ↓reduceIte, Nat.reduceEqDiff, Nat.reduceMul, Nat.reduceAdd, Nat.reduceSub, Nat.reduceLT, Nat.reduceLeDiff, Int.reduceToNat, Nat.reducePow, Int.reducePow, Int.reduceLT, Int.reduceLE, Int.reduceNeg, Int.reduceAdd, Int.reduceSub, Int.reduceMul, decide_true, decide_false, reduceCtorEq]
      refine callK_pure c6 ?_
      simp -implicitDefEqProofs (maxSteps := 2000000) (disch := decide) only [go_sem, condB_t, condB_f, pf0, dec_t, dec_f, and_of, ↓reduceIte, Nat.reduceEqDiff, Nat.reduceMul, Nat.reduceAdd, Nat.reduceSub, Nat.reduceLT, Nat.reduceLeDiff, Int.reduceToNat, Nat.reducePow, Int.reducePow, Int.reduceLT, Int.reduceLE, Int.reduceNeg, Int.reduceAdd, Int.reduceSub, Int.reduceMul, decide_true, decide_false, reduceCtorEq]
      refine callK_pure c7 ?_
      simp -implicitDefEqProofs (maxSteps := 2000000) (disch := decide) only [go_sem, condB_t, condB_f, pf0, dec_t, dec_f, and_of, ↓reduceIte, Nat.reduceEqDiff, Nat.reduceMul, Nat.reduceAdd, Nat.reduceSub, Nat.reduceLT, Nat.reduceLeDiff, Int.reduceToNat, Nat.reducePow, Int.reducePow, Int.reduceLT, Int.reduceLE, Int.reduceNeg, Int.reduceAdd, Int.reduceSub, Int.reduceMul, decide_true, decide_false, reduceCtorEq]
      exact dn
theorem r3norm_spec (x : Raw) (k : Nat) (hx : x.Ok k) (hk : k ≤ 549755813888) : PDet Try.prog 111 [.agg x.cells] (.agg (rC x.val)) := by
  refine pdet_of E0ok mixed Try.func111 (by kernel_rfl) rfl (by kernel_rfl) (Nat.le_of_ble_eq_true rfl) fun N0 h hn hmen => ?_
  obtain ⟨s, m, d⟩ := x
  obtain ⟨lm, ld, sm, sd⟩ := hx
  simp only at lm ld sm sd
  have c := r3make_spec s false m d lm ld (by omega) (by omega)
  rw [ival_f, quot_nat] at c
  unfold Raw.val Raw.num rC Raw.cells nl at *
  simp -implicitDefEqProofs (maxSteps := 2000000) (disch := decide) only [go_sem, condB_t, condB_f, pf0, dec_t, dec_f, and_of, ↓reduceIte, Nat.reduceEqDiff, Nat.reduceMul, Nat.reduceAdd, Nat.reduceSub, Nat.reduceLT, Nat.reduceLeDiff, Int.reduceToNat, Nat.reducePow, Int.reducePow, Int.reduceLT, Int.reduceLE, Int.reduceNeg, Int.reduceAdd, Int.reduceSub, Int.reduceMul, decide_true, decide_false, reduceCtorEq]
  refine callK_pure c ?_
  simp -implicitDefEqProofs (maxSteps := 2000000) (disch := decide) only [go_sem, condB_t, condB_f, pf0, dec_t, dec_f, and_of, ↓reduceIte, Nat.reduceEqDiff, Nat.reduceMul, Nat.reduceAdd, Nat.reduceSub, Nat.reduceLT, Nat.reduceLeDiff, Int.reduceToNat, Nat.reducePow, Int.reducePow, Int.reduceLT, Int.reduceLE, Int.reduceNeg, Int.reduceAdd, Int.reduceSub, Int.reduceMul, decide_true, decide_false, reduceCtorEq]
  exact dn
theorem r3equal_spec (x y : Raw) (j k : Nat) (hx : x.Ok j) (hy : y.Ok k) (hj : j ≤ 549755813888) (hk : k ≤ 549755813888) : PDet Try.prog 30 [.agg x.cells, .agg y.cells] (.bool (decide (x = y))) := by
  refine pdet_of E0ok mixed Try.func30 (by kernel_rfl) rfl (by kernel_rfl) (Nat.le_of_ble_eq_true rfl) fun N0 h hn hmen => ?_
  obtain ⟨s, m, d⟩ := x
  obtain ⟨t, n, e⟩ := y
  have c1 := r2equal_spec s t m n (Nat.le_trans hx.sm (by omega)) (Nat.le_trans hy.sm (by omega))
  have c2 := r1equal_spec d e (Nat.le_trans hx.sd (by omega)) (Nat.le_trans hy.sd (by omega))
  unfold Raw.cells nl at *
  by_cases h : s = t ∧ m = n
  · rw [decide_eq_true h] at c1
    obtain ⟨rfl, rfl⟩ := h
    have e2 : decide (Raw.mk s m d = Raw.mk s m e) = decide (d = e) := by simp
    rw [e2]
    simp -implicitDefEqProofs (maxSteps := 2000000) (disch := decide) only [go_sem, condB_t, condB_f, pf0, dec_t, dec_f, and_of, ↓reduceIte, Nat.reduceEqDiff, Nat.reduceMul, Nat.reduceAdd, Nat.reduceSub, Nat.reduceLT, Nat.reduceLeDiff, Int.reduceToNat, Nat.reducePow, Int.reducePow, Int.reduceLT, Int.reduceLE, Int.reduceNeg, Int.reduceAdd, Int.reduceSub, Int.reduceMul, decide_true, decide_false, reduceCtorEq]
    refine callK_pure c1 ?_
    simp -implicitDefEqProofs (maxSteps := 2000000) (disch := decide) only [go_sem, condB_t, condB_f, pf0, dec_t, dec_f, and_of, ↓reduceIte, Nat.reduceEqDiff, Nat.reduceMul, Nat.reduceAdd, Nat.reduceSub, Nat.reduceLT, Nat.reduceLeDiff, Int.reduceToNat, Nat.reducePow, Int.reducePow, Int.reduceLT, Int.reduceLE, Int.reduceNeg, Int.reduceAdd, Int.reduceSub, Int.reduceMul, decide_true, decide_false, reduceCtorEq]
    refine callK_pure c2 ?_
    simp -implicitDefEqProofs (maxSteps := 2000000) (disch := decide) only [go_sem, condB_t, condB_f, pf0, dec_t, dec_f, and_of, ↓reduceIte, Nat.reduceEqDiff, Nat.reduceMul, Nat.reduceAdd, Nat.reduceSub, Nat.reduceLT, Nat.reduceLeDiff, Int.reduceToNat, Nat.reducePow, Int.reducePow, Int.reduceLT, Int.reduceLE, Int.reduceNeg, Int.reduceAdd, Int.reduceSub, Int.reduceMul, decide_true, decide_false, reduceCtorEq]
    exact dn
  · rw [decide_eq_false h] at c1
    have e2 : decide (Raw.mk s m d = Raw.mk t n e) = false := decide_eq_false fun hh => h (by injection hh with h1 h2; exact ⟨h1, h2⟩)
    rw [e2]
    simp -implicitDefEqProofs (maxSteps := 2000000) (disch := decide) only [go_sem, condB_t, condB_f, pf0, dec_t, dec_f, and_of, ↓reduceIte, Nat.reduceEqDiff, Nat.reduceMul, Nat.reduceAdd, Nat.reduceSub, Nat.reduceLT, Nat.reduceLeDiff, Int.reduceToNat, Nat.reducePow, Int.reducePow, Int.reduceLT, Int.reduceLE, Int.reduceNeg, Int.reduceAdd, Int.reduceSub, Int.reduceMul, decide_true, decide_false, reduceCtorEq]
    refine callK_pure c1 ?_
    simp -implicitDefEqProofs (maxSteps := 2000000) (disch := decide) only [go_sem, condB_t, condB_f, pf0, dec_t, dec_f, and_of, ↓reduceIte, Nat.reduceEqDiff, Nat.reduceMul, Nat.reduceAdd, Nat.reduceSub, Nat.reduceLT, Nat.reduceLeDiff, Int.reduceToNat, Nat.reducePow, Int.reducePow, Int.reduceLT, Int.reduceLE, Int.reduceNeg, Int.reduceAdd, Int.reduceSub, Int.reduceMul, decide_true, decide_false, reduceCtorEq]
    exact dn
theorem r3equal_canon (p q : Rat) (j k : Nat) (hp : Sz p j) (hq : Sz q k) (hj : j ≤ 549755813888) (hk : k ≤ 549755813888) : PDet Try.prog 30 [.agg (rC p), .agg (rC q)] (.bool (decide (p = q))) := by
  have h := r3equal_spec (canon p) (canon q) j k (canon_ok hp) (canon_ok hq) hj hk
  have e : decide (canon p = canon q) = decide (p = q) := by
    by_cases e : p = q
    · rw [e]; simp
    · rw [decide_eq_false e, decide_eq_false (fun h => e (canon_inj h))]
  rw [e] at h
  exact h
theorem r3canonical_spec (x : Raw) (k : Nat) (hx : x.Ok k) (hk : k ≤ 549755813888) : PDet Try.prog 70 [.agg x.cells] (.bool (decide (x = canon x.val))) := by
  refine pdet_of E0ok mixed Try.func70 (by kernel_rfl) rfl (by kernel_rfl) (Nat.le_of_ble_eq_true rfl) fun N0 h hn hmen => ?_
  have c1 := r3norm_spec x k hx hk
  have hs : Sz x.val (max k 1) := (hx.mono (Nat.le_max_left k 1)).sz (Nat.le_max_right k 1)
  have c2 := r3equal_spec x (canon x.val) k (max k 1) hx (canon_ok hs) hk (by omega)
  unfold rC at c1
  unfold Raw.cells nl at *
  simp -implicitDefEqProofs (maxSteps := 2000000) (disch := decide) only [go_sem, condB_t, condB_f, pf0, dec_t, dec_f, and_of, ↓reduceIte, Nat.reduceEqDiff, Nat.reduceMul, Nat.reduceAdd, Nat.reduceSub, Nat.reduceLT, Nat.reduceLeDiff, Int.reduceToNat, Nat.reducePow, Int.reducePow, Int.reduceLT, Int.reduceLE, Int.reduceNeg, Int.reduceAdd, Int.reduceSub, Int.reduceMul, decide_true, decide_false, reduceCtorEq]
  refine pcallK_pure c1 ?_
  simp -implicitDefEqProofs (maxSteps := 2000000) (disch := decide) only [go_sem, condB_t, condB_f, pf0, dec_t, dec_f, and_of, ↓reduceIte, Nat.reduceEqDiff, Nat.reduceMul, Nat.reduceAdd, Nat.reduceSub, Nat.reduceLT, Nat.reduceLeDiff, Int.reduceToNat, Nat.reducePow, Int.reducePow, Int.reduceLT, Int.reduceLE, Int.reduceNeg, Int.reduceAdd, Int.reduceSub, Int.reduceMul, decide_true, decide_false, reduceCtorEq]
  refine pcallK_pure c2 ?_
  simp -implicitDefEqProofs (maxSteps := 2000000) (disch := decide) only [go_sem, condB_t, condB_f, pf0, dec_t, dec_f, and_of, ↓reduceIte, Nat.reduceEqDiff, Nat.reduceMul, Nat.reduceAdd, Nat.reduceSub, Nat.reduceLT, Nat.reduceLeDiff, Int.reduceToNat, Nat.reducePow, Int.reducePow, Int.reduceLT, Int.reduceLE, Int.reduceNeg, Int.reduceAdd, Int.reduceSub, Int.reduceMul, decide_true, decide_false, reduceCtorEq]
  exact dn
theorem r3canonical_canon (q : Rat) (k : Nat) (hq : Sz q k) (hk : k ≤ 549755813888) : PDet Try.prog 70 [.agg (rC q)] (.bool true) := by
  have h := r3canonical_spec (canon q) k (canon_ok hq) hk
  rw [canon_val, decide_eq_true rfl] at h
  exact h
theorem r3den_spec (x : Raw) (k : Nat) (hx : x.Ok k) (hk : k ≤ 549755813888) : PDet Try.prog 141 [.agg x.cells] (.agg [.bool false, nl (lim x.val.den)]) := by
  refine pdet_of E0ok mixed Try.func141 (by kernel_rfl) rfl (by kernel_rfl) (Nat.le_of_ble_eq_true rfl) fun N0 h hn hmen => ?_
  have c1 := r3norm_spec x k hx hk
  unfold rC Raw.cells canon nl at *
  simp -implicitDefEqProofs (maxSteps := 2000000) (disch := decide) only [go_sem, condB_t, condB_f, pf0, dec_t, dec_f, and_of, ↓reduceIte, Nat.reduceEqDiff, Nat.reduceMul, Nat.reduceAdd, Nat.reduceSub, Nat.reduceLT, Nat.reduceLeDiff, Int.reduceToNat, Nat.reducePow, Int.reducePow, Int.reduceLT, Int.reduceLE, Int.reduceNeg, Int.reduceAdd, Int.reduceSub, Int.reduceMul, decide_true, decide_false, reduceCtorEq]
  refine callK_pure c1 ?_
  simp -implicitDefEqProofs (maxSteps := 2000000) (disch := decide) only [go_sem, condB_t, condB_f, pf0, dec_t, dec_f, and_of, ↓reduceIte, Nat.reduceEqDiff, Nat.reduceMul, Nat.reduceAdd, Nat.reduceSub, Nat.reduceLT, Nat.reduceLeDiff, Int.reduceToNat, Nat.reducePow, Int.reducePow, Int.reduceLT, Int.reduceLE, Int.reduceNeg, Int.reduceAdd, Int.reduceSub, Int.reduceMul, decide_true, decide_false, reduceCtorEq]
  exact dn
theorem r3fromInt_spec (v : Int) (h1 : -9223372036854775808 ≤ v) (h2 : v ≤ 9223372036854775807) : PDet Try.prog 44 [.int .i64 v] (.agg (rC (v : Rat))) := by
  refine pdet_of E0ok mixed Try.func44 (by kernel_rfl) rfl (by kernel_rfl) (Nat.le_of_ble_eq_true rfl) fun N0 h hn hmen => ?_
  have c1 := r2fromInt_spec v h1 h2
  have c2 := r2fromInt_spec 1 (by decide) (by decide)
  obtain ⟨s, n, e1, e2, e3⟩ := ival_iC v
  obtain ⟨t, o, e4, e5, e6⟩ := ival_iC 1
  have ln : (lim n).length ≤ 2 := lim_len.2 (show n < 18446744073709551616 by omega)
  have lo : (lim o).length ≤ 2 := lim_len.2 (show o < 18446744073709551616 by omega)
  have c3 := r3make_spec s t (lim n) (lim o) (lb_lim _) (lb_lim _) (by omega) (by omega)
  rw [val_lim, val_lim, ← e1, ← e4] at c3
  have e7 : quot v 1 = (v : Rat) := by
    have := quot_nat v 1
    rw [Int.natCast_one] at this
    rw [this, Rat.mkRat_one]
  rw [e7] at c3
  rw [e2] at c1
  rw [e5] at c2
  unfold rC Raw.cells nl at *
  clear ln lo
  simp -implicitDefEqProofs (maxSteps := 2000000) (disch := decide) only [go_sem, condB_t, condB_f, pf0, dec_t, dec_f, and_of, ↓reduceIte, Nat.reduceEqDiff, Nat.reduceMul, Nat.reduceAdd, Nat.reduceSub, Nat.reduceLT, Nat.reduceLeDiff, Int.reduceToNat, Nat.reducePow, Int.reducePow, Int.reduceLT, Int.reduceLE, Int.reduceNeg, Int.reduceAdd, Int.reduceSub, Int.reduceMul, decide_true, decide_false, reduceCtorEq]
  refine callK_pure c1 ?_
  simp -implicitDefEqProofs (maxSteps := 2000000) (disch := decide) only [go_sem, condB_t, condB_f, pf0, dec_t, dec_f, and_of, ↓reduceIte, Nat.reduceEqDiff, Nat.reduceMul, Nat.reduceAdd, Nat.reduceSub, Nat.reduceLT, Nat.reduceLeDiff, Int.reduceToNat, Nat.reducePow, Int.reducePow, Int.reduceLT, Int.reduceLE, Int.reduceNeg, Int.reduceAdd, Int.reduceSub, Int.reduceMul, decide_true, decide_false, reduceCtorEq]
  refine callK_pure c2 ?_
  simp -implicitDefEqProofs (maxSteps := 2000000) (disch := decide) only [go_sem, condB_t, condB_f, pf0, dec_t, dec_f, and_of, ↓reduceIte, Nat.reduceEqDiff, Nat.reduceMul, Nat.reduceAdd, Nat.reduceSub, Nat.reduceLT, Nat.reduceLeDiff, Int.reduceToNat, Nat.reducePow, Int.reducePow, Int.reduceLT, Int.reduceLE, Int.reduceNeg, Int.reduceAdd, Int.reduceSub, Int.reduceMul, decide_true, decide_false, reduceCtorEq]
  refine callK_pure c3 ?_
  simp -implicitDefEqProofs (maxSteps := 2000000) (disch := decide) only [go_sem, condB_t, condB_f, pf0, dec_t, dec_f, and_of, ↓reduceIte, Nat.reduceEqDiff, Nat.reduceMul, Nat.reduceAdd, Nat.reduceSub, Nat.reduceLT, Nat.reduceLeDiff, Int.reduceToNat, Nat.reducePow, Int.reducePow, Int.reduceLT, Int.reduceLE, Int.reduceNeg, Int.reduceAdd, Int.reduceSub, Int.reduceMul, decide_true, decide_false, reduceCtorEq]
  exact dn
theorem r3of_spec (v u : Int) (h1 : -9223372036854775808 ≤ v) (h2 : v ≤ 9223372036854775807) (h3 : -9223372036854775808 ≤ u) (h4 : u ≤ 9223372036854775807) : PDet Try.prog 112 [.int .i64 v, .int .i64 u] (.agg (rC (quot v u))) := by
  refine pdet_of E0ok mixed Try.func112 (by kernel_rfl) rfl (by kernel_rfl) (Nat.le_of_ble_eq_true rfl) fun N0 h hn hmen => ?_
  have c1 := r2fromInt_spec v h1 h2
  have c2 := r2fromInt_spec u h3 h4
  obtain ⟨s, n, e1, e2, e3⟩ := ival_iC v
  obtain ⟨t, o, e4, e5, e6⟩ := ival_iC u
  have ln : (lim n).length ≤ 2 := lim_len.2 (show n < 18446744073709551616 by omega)
  have lo : (lim o).length ≤ 2 := lim_len.2 (show o < 18446744073709551616 by omega)
  have c3 := r3make_spec s t (lim n) (lim o) (lb_lim _) (lb_lim _) (by omega) (by omega)
  rw [val_lim, val_lim, ← e1, ← e4] at c3
  rw [e2] at c1
  rw [e5] at c2
  unfold rC Raw.cells nl at *
  clear ln lo
  simp -implicitDefEqProofs (maxSteps := 2000000) (disch := decide) only [go_sem, condB_t, condB_f, pf0, dec_t, dec_f, and_of, ↓reduceIte, Nat.reduceEqDiff, Nat.reduceMul, Nat.reduceAdd, Nat.reduceSub, Nat.reduceLT, Nat.reduceLeDiff, Int.reduceToNat, Nat.reducePow, Int.reducePow, Int.reduceLT, Int.reduceLE, Int.reduceNeg, Int.reduceAdd, Int.reduceSub, Int.reduceMul, decide_true, decide_false, reduceCtorEq]
  refine callK_pure c1 ?_
  simp -implicitDefEqProofs (maxSteps := 2000000) (disch := decide) only [go_sem, condB_t, condB_f, pf0, dec_t, dec_f, and_of, ↓reduceIte, Nat.reduceEqDiff, Nat.reduceMul, Nat.reduceAdd, Nat.reduceSub, Nat.reduceLT, Nat.reduceLeDiff, Int.reduceToNat, Nat.reducePow, Int.reducePow, Int.reduceLT, Int.reduceLE, Int.reduceNeg, Int.reduceAdd, Int.reduceSub, Int.reduceMul, decide_true, decide_false, reduceCtorEq]
  refine callK_pure c2 ?_
  simp -implicitDefEqProofs (maxSteps := 2000000) (disch := decide) only [go_sem, condB_t, condB_f, pf0, dec_t, dec_f, and_of, ↓reduceIte, Nat.reduceEqDiff, Nat.reduceMul, Nat.reduceAdd, Nat.reduceSub, Nat.reduceLT, Nat.reduceLeDiff, Int.reduceToNat, Nat.reducePow, Int.reducePow, Int.reduceLT, Int.reduceLE, Int.reduceNeg, Int.reduceAdd, Int.reduceSub, Int.reduceMul, decide_true, decide_false, reduceCtorEq]
  refine callK_pure c3 ?_
  simp -implicitDefEqProofs (maxSteps := 2000000) (disch := decide) only [go_sem, condB_t, condB_f, pf0, dec_t, dec_f, and_of, ↓reduceIte, Nat.reduceEqDiff, Nat.reduceMul, Nat.reduceAdd, Nat.reduceSub, Nat.reduceLT, Nat.reduceLeDiff, Int.reduceToNat, Nat.reducePow, Int.reducePow, Int.reduceLT, Int.reduceLE, Int.reduceNeg, Int.reduceAdd, Int.reduceSub, Int.reduceMul, decide_true, decide_false, reduceCtorEq]
  exact dn
theorem r3sign_spec (x : Raw) (k : Nat) (hx : x.Ok k) (hk : k ≤ 549755813888) : PDet Try.prog 77 [.agg x.cells] (.int .i64 (sgnR x.val)) := by
  refine pdet_of E0ok mixed Try.func77 (by kernel_rfl) rfl (by kernel_rfl) (Nat.le_of_ble_eq_true rfl) fun N0 h hn hmen => ?_
  have c1 := r3norm_spec x k hx hk
  have hs := canon_ok ((hx.mono (Nat.le_max_left k 1)).sz (Nat.le_max_right k 1))
  have c2 := r2sign_spec (canon x.val).s (canon x.val).m hs.lm (Nat.le_trans hs.sm (by omega))
  rw [canon_num] at c2
  unfold sgnR rC Raw.cells nl at *
  simp -implicitDefEqProofs (maxSteps := 2000000) (disch := decide) only [go_sem, condB_t, condB_f, pf0, dec_t, dec_f, and_of, ↓reduceIte, Nat.reduceEqDiff, Nat.reduceMul, Nat.reduceAdd, Nat.reduceSub, Nat.reduceLT, Nat.reduceLeDiff, Int.reduceToNat, Nat.reducePow, Int.reducePow, Int.reduceLT, Int.reduceLE, Int.reduceNeg, Int.reduceAdd, Int.reduceSub, Int.reduceMul, decide_true, decide_false, reduceCtorEq]
  refine callK_pure c1 ?_
  simp -implicitDefEqProofs (maxSteps := 2000000) (disch := decide) only [go_sem, condB_t, condB_f, pf0, dec_t, dec_f, and_of, ↓reduceIte, Nat.reduceEqDiff, Nat.reduceMul, Nat.reduceAdd, Nat.reduceSub, Nat.reduceLT, Nat.reduceLeDiff, Int.reduceToNat, Nat.reducePow, Int.reducePow, Int.reduceLT, Int.reduceLE, Int.reduceNeg, Int.reduceAdd, Int.reduceSub, Int.reduceMul, decide_true, decide_false, reduceCtorEq]
  refine callK_pure c2 ?_
  simp -implicitDefEqProofs (maxSteps := 2000000) (disch := decide) only [go_sem, condB_t, condB_f, pf0, dec_t, dec_f, and_of, ↓reduceIte, Nat.reduceEqDiff, Nat.reduceMul, Nat.reduceAdd, Nat.reduceSub, Nat.reduceLT, Nat.reduceLeDiff, Int.reduceToNat, Nat.reducePow, Int.reducePow, Int.reduceLT, Int.reduceLE, Int.reduceNeg, Int.reduceAdd, Int.reduceSub, Int.reduceMul, decide_true, decide_false, reduceCtorEq]
  exact dn
theorem r3add_spec (x y : Raw) (j k : Nat) (hx : x.Ok j) (hy : y.Ok k) (hj : 1 ≤ j) (hk : 1 ≤ k) (hjk : j + k + 1 ≤ 549755813888) : PDet Try.prog 98 [.agg x.cells, .agg y.cells] (.agg (rC (x.val + y.val))) := by
  refine pdet_of ED98ok mixed Try.func98 (by kernel_rfl) rfl (by kernel_rfl) (Nat.le_of_ble_eq_true rfl) fun N0 h hn hmen => ?_
  have c1 := r3norm_spec x j hx (by omega)
  have c2 := r3norm_spec y k hy (by omega)
  have d1 := r3den_spec x j hx (by omega)
  have d2 := r3den_spec y k hy (by omega)
  have sx := hx.sz hj
  have sy := hy.sz hk
  have ox := canon_ok sx
  have oy := canon_ok sy
  unfold rC at c1 c2
  have f1 := sx.1.mul sy.2
  have f2 := (sy.1.mul sx.2).mono (show k + j ≤ j + k by omega)
  have f3 := sx.2.mul sy.2
  have m1 := r2mul_spec (canon x.val).s false (canon x.val).m (lim y.val.den) ox.lm (lb_lim _) (Nat.le_trans ox.sm (by omega)) (Nat.le_trans sy.2.len (by omega))
  have m2 := r2mul_spec (canon y.val).s false (canon y.val).m (lim x.val.den) oy.lm (lb_lim _) (Nat.le_trans oy.sm (by omega)) (Nat.le_trans sx.2.len (by omega))
  have m3 := r2mul_spec false false (lim x.val.den) (lim y.val.den) (lb_lim _) (lb_lim _) (Nat.le_trans sx.2.len (by omega)) (Nat.le_trans sy.2.len (by omega))
  rw [canon_num, val_lim, ival_f] at m1 m2
  rw [val_lim, val_lim, ival_f, ival_f] at m3
  obtain ⟨s1, n1, e1, e2, e3⟩ := ival_iC (x.val.num * (y.val.den : Int))
  obtain ⟨s2, n2, e4, e5, e6⟩ := ival_iC (y.val.num * (x.val.den : Int))
  obtain ⟨s3, n3, e7, e8, e9⟩ := ival_iC ((x.val.den : Int) * (y.val.den : Int))
  rw [Int.natAbs_mul, Int.natAbs_natCast] at e3 e6 e9
  rw [e3] at f1
  rw [e6] at f2
  rw [Int.natAbs_natCast] at e9
  rw [e9] at f3
  have l1 := f1.len
  have l2 := f2.len
  have l3 := f3.len
  have a1 := r2add_spec s1 s2 (lim n1) (lim n2) (lb_lim _) (lb_lim _) (by omega) (by omega)
  rw [val_lim, val_lim, ← e1, ← e4] at a1
  obtain ⟨s4, n4, e10, e11, e12⟩ := ival_iC (x.val.num * (y.val.den : Int) + y.val.num * (x.val.den : Int))
  have f4 : Fit n4 (j + k + 1) := by
    rw [← e12]
    refine Fit.le ?_ (Int.natAbs_add_le _ _)
    rw [Int.natAbs_mul, Int.natAbs_natCast, Int.natAbs_mul, Int.natAbs_natCast, e3, e6]
    exact f1.add f2
  have l4 := f4.len
  have k1 := r3make_spec s4 s3 (lim n4) (lim n3) (lb_lim _) (lb_lim _) (by omega) (by omega)
  rw [val_lim, val_lim, ← e10, ← e7, quot_add] at k1
  rw [e2] at m1
  rw [e5] at m2
  rw [e8] at m3
  rw [e11] at a1
  clear l1 l2 l3 l4 f1 f2 f3 f4 e1 e2 e3 e4 e5 e6 e7 e8 e9 e10 e11 e12
  unfold rC at k1 ⊢
  unfold Raw.cells nl at *
  simp -implicitDefEqProofs (maxSteps := 2000000) (disch := decide) only [go_sem, condB_t, condB_f, pf0, dec_t, dec_f, and_of, ↓reduceIte, Nat.reduceEqDiff, Nat.reduceMul, Nat.reduceAdd, Nat.reduceSub, Nat.reduceLT, Nat.reduceLeDiff, Int.reduceToNat, Nat.reducePow, Int.reducePow, Int.reduceLT, Int.reduceLE, Int.reduceNeg, Int.reduceAdd, Int.reduceSub, Int.reduceMul, decide_true, decide_false, reduceCtorEq]
  refine pcallK_pure c1 ?_
  simp -implicitDefEqProofs (maxSteps := 2000000) (disch := decide) only [go_sem, condB_t, condB_f, pf0, dec_t, dec_f, and_of, ↓reduceIte, Nat.reduceEqDiff, Nat.reduceMul, Nat.reduceAdd, Nat.reduceSub, Nat.reduceLT, Nat.reduceLeDiff, Int.reduceToNat, Nat.reducePow, Int.reducePow, Int.reduceLT, Int.reduceLE, Int.reduceNeg, Int.reduceAdd, Int.reduceSub, Int.reduceMul, decide_true, decide_false, reduceCtorEq]
  refine pcallK_pure c2 ?_
  simp -implicitDefEqProofs (maxSteps := 2000000) (disch := decide) only [go_sem, condB_t, condB_f, pf0, dec_t, dec_f, and_of, ↓reduceIte, Nat.reduceEqDiff, Nat.reduceMul, Nat.reduceAdd, Nat.reduceSub, Nat.reduceLT, Nat.reduceLeDiff, Int.reduceToNat, Nat.reducePow, Int.reducePow, Int.reduceLT, Int.reduceLE, Int.reduceNeg, Int.reduceAdd, Int.reduceSub, Int.reduceMul, decide_true, decide_false, reduceCtorEq]
  refine pcallK_pure d2 ?_
  simp -implicitDefEqProofs (maxSteps := 2000000) (disch := decide) only [go_sem, condB_t, condB_f, pf0, dec_t, dec_f, and_of, ↓reduceIte, Nat.reduceEqDiff, Nat.reduceMul, Nat.reduceAdd, Nat.reduceSub, Nat.reduceLT, Nat.reduceLeDiff, Int.reduceToNat, Nat.reducePow, Int.reducePow, Int.reduceLT, Int.reduceLE, Int.reduceNeg, Int.reduceAdd, Int.reduceSub, Int.reduceMul, decide_true, decide_false, reduceCtorEq]
  refine pcallK_pure m1 ?_
  simp -implicitDefEqProofs (maxSteps := 2000000) (disch := decide) only [go_sem, condB_t, condB_f, pf0, dec_t, dec_f, and_of, ↓reduceIte, Nat.reduceEqDiff, Nat.reduceMul, Nat.reduceAdd, Nat.reduceSub, Nat.reduceLT, Nat.reduceLeDiff, Int.reduceToNat, Nat.reducePow, Int.reducePow, Int.reduceLT, Int.reduceLE, Int.reduceNeg, Int.reduceAdd, Int.reduceSub, Int.reduceMul, decide_true, decide_false, reduceCtorEq]
  refine pcallK_pure d1 ?_
  simp -implicitDefEqProofs (maxSteps := 2000000) (disch := decide) only [go_sem, condB_t, condB_f, pf0, dec_t, dec_f, and_of, ↓reduceIte, Nat.reduceEqDiff, Nat.reduceMul, Nat.reduceAdd, Nat.reduceSub, Nat.reduceLT, Nat.reduceLeDiff, Int.reduceToNat, Nat.reducePow, Int.reducePow, Int.reduceLT, Int.reduceLE, Int.reduceNeg, Int.reduceAdd, Int.reduceSub, Int.reduceMul, decide_true, decide_false, reduceCtorEq]
  refine pcallK_pure m2 ?_
  simp -implicitDefEqProofs (maxSteps := 2000000) (disch := decide) only [go_sem, condB_t, condB_f, pf0, dec_t, dec_f, and_of, ↓reduceIte, Nat.reduceEqDiff, Nat.reduceMul, Nat.reduceAdd, Nat.reduceSub, Nat.reduceLT, Nat.reduceLeDiff, Int.reduceToNat, Nat.reducePow, Int.reducePow, Int.reduceLT, Int.reduceLE, Int.reduceNeg, Int.reduceAdd, Int.reduceSub, Int.reduceMul, decide_true, decide_false, reduceCtorEq]
  refine pcallK_pure a1 ?_
  simp -implicitDefEqProofs (maxSteps := 2000000) (disch := decide) only [go_sem, condB_t, condB_f, pf0, dec_t, dec_f, and_of, ↓reduceIte, Nat.reduceEqDiff, Nat.reduceMul, Nat.reduceAdd, Nat.reduceSub, Nat.reduceLT, Nat.reduceLeDiff, Int.reduceToNat, Nat.reducePow, Int.reducePow, Int.reduceLT, Int.reduceLE, Int.reduceNeg, Int.reduceAdd, Int.reduceSub, Int.reduceMul, decide_true, decide_false, reduceCtorEq]
  refine pcallK_pure d1 ?_
  simp -implicitDefEqProofs (maxSteps := 2000000) (disch := decide) only [go_sem, condB_t, condB_f, pf0, dec_t, dec_f, and_of, ↓reduceIte, Nat.reduceEqDiff, Nat.reduceMul, Nat.reduceAdd, Nat.reduceSub, Nat.reduceLT, Nat.reduceLeDiff, Int.reduceToNat, Nat.reducePow, Int.reducePow, Int.reduceLT, Int.reduceLE, Int.reduceNeg, Int.reduceAdd, Int.reduceSub, Int.reduceMul, decide_true, decide_false, reduceCtorEq]
  refine pcallK_pure d2 ?_
  simp -implicitDefEqProofs (maxSteps := 2000000) (disch := decide) only [go_sem, condB_t, condB_f, pf0, dec_t, dec_f, and_of, ↓reduceIte, Nat.reduceEqDiff, Nat.reduceMul, Nat.reduceAdd, Nat.reduceSub, Nat.reduceLT, Nat.reduceLeDiff, Int.reduceToNat, Nat.reducePow, Int.reducePow, Int.reduceLT, Int.reduceLE, Int.reduceNeg, Int.reduceAdd, Int.reduceSub, Int.reduceMul, decide_true, decide_false, reduceCtorEq]
  refine pcallK_pure m3 ?_
  simp -implicitDefEqProofs (maxSteps := 2000000) (disch := decide) only [go_sem, condB_t, condB_f, pf0, dec_t, dec_f, and_of, ↓reduceIte, Nat.reduceEqDiff, Nat.reduceMul, Nat.reduceAdd, Nat.reduceSub, Nat.reduceLT, Nat.reduceLeDiff, Int.reduceToNat, Nat.reducePow, Int.reducePow, Int.reduceLT, Int.reduceLE, Int.reduceNeg, Int.reduceAdd, Int.reduceSub, Int.reduceMul, decide_true, decide_false, reduceCtorEq]
  refine pcallK_pure k1 ?_
  simp -implicitDefEqProofs (maxSteps := 2000000) (disch := decide) only [go_sem, condB_t, condB_f, pf0, dec_t, dec_f, and_of, ↓reduceIte, Nat.reduceEqDiff, Nat.reduceMul, Nat.reduceAdd, Nat.reduceSub, Nat.reduceLT, Nat.reduceLeDiff, Int.reduceToNat, Nat.reducePow, Int.reducePow, Int.reduceLT, Int.reduceLE, Int.reduceNeg, Int.reduceAdd, Int.reduceSub, Int.reduceMul, decide_true, decide_false, reduceCtorEq]
  exact dn
end Go.Abs
/-! YtbVec1: Sparse vectors of the program: order, canonical values. No condition. -/
set_option linter.unusedVariables false
set_option linter.unusedSimpArgs false
set_option maxRecDepth 100000
set_option maxHeartbeats 1000000
namespace Go.Abs
open Go.Proofs
@[go_sem] theorem R143 : Try.f143.results.toList = [.tmp 2] := rfl
@[go_sem] theorem R103 : Try.f103.results.toList = [.tmp 4] := rfl
@[go_sem] theorem R102 : Try.f102.results.toList = [.tmp 4] := rfl
@[go_sem] theorem R99 : Try.f99.results.toList = [.tmp 2] := rfl
@[go_sem] theorem R84 : Try.f84.results.toList = [.tmp 2] := rfl
theorem cmpInt_spec (a b : Int) : PDet Try.prog 103 [.int .i64 a, .int .i64 b] (.int .i64 (cmpI a b)) := by
  have hn : ∀ x : Int, PDet Try.prog 143 [.int .i64 x] (.bool false) := fun x => by
    refine pdet_of E0ok mixed Try.func143 (by kernel_rfl) rfl (by kernel_rfl) (Nat.le_of_ble_eq_true rfl) fun N0 h hn hmen => ?_
    simp -implicitDefEqProofs (maxSteps := 2000000) (disch := omega) only [go_sem, condB_t, condB_f, pf0, dec_t, dec_f, and_of, ↓reduceIte, Nat.reduceEqDiff, Nat.reduceMul, Nat.reduceAdd, Nat.reduceSub, Nat.reduceLT, Nat.reduceLeDiff, Int.reduceToNat, Nat.reducePow, Int.reducePow, Int.reduceLT, Int.reduceLE, Int.reduceNeg, Int.reduceAdd, Int.reduceSub, Int.reduceMul, decide_true, decide_false, reduceCtorEq]
    exact dn
  refine pdet_of E0ok mixed Try.func103 (by kernel_rfl) rfl (by kernel_rfl) (Nat.le_of_ble_eq_true rfl) fun N0 h hn hmen => ?_
  unfold cmpI
  simp -implicitDefEqProofs (maxSteps := 2000000) (disch := omega) only [go_sem, condB_t, condB_f, pf0, dec_t, dec_f, and_of, ↓reduceIte, Nat.reduceEqDiff, Nat.reduceMul, Nat.reduceAdd, Nat.reduceSub, Nat.reduceLT, Nat.reduceLeDiff, Int.reduceToNat, Nat.reducePow, Int.reducePow, Int.reduceLT, Int.reduceLE, Int.reduceNeg, Int.reduceAdd, Int.reduceSub, Int.reduceMul, decide_true, decide_false, reduceCtorEq]
  refine callK_pure (‹∀ x : Int, PDet Try.prog 143 [.int .i64 x] (.bool false)› a) ?_
  simp -implicitDefEqProofs (maxSteps := 2000000) (disch := omega) only [go_sem, condB_t, condB_f, pf0, dec_t, dec_f, and_of, ↓reduceIte, Nat.reduceEqDiff, Nat.reduceMul, Nat.reduceAdd, Nat.reduceSub, Nat.reduceLT, Nat.reduceLeDiff, Int.reduceToNat, Nat.reducePow, Int.reducePow, Int.reduceLT, Int.reduceLE, Int.reduceNeg, Int.reduceAdd, Int.reduceSub, Int.reduceMul, decide_true, decide_false, reduceCtorEq]
  refine callK_pure (‹∀ x : Int, PDet Try.prog 143 [.int .i64 x] (.bool false)› b) ?_
  by_cases h1 : a < b
  · rw [if_pos h1]
    simp -implicitDefEqProofs (maxSteps := 2000000) (disch := omega) only [go_sem, condB_t, condB_f, pf0, dec_t, dec_f, and_of, ↓reduceIte, Nat.reduceEqDiff, Nat.reduceMul, Nat.reduceAdd, Nat.reduceSub, Nat.reduceLT, Nat.reduceLeDiff, Int.reduceToNat, Nat.reducePow, Int.reducePow, Int.reduceLT, Int.reduceLE, Int.reduceNeg, Int.reduceAdd, Int.reduceSub, Int.reduceMul, decide_true, decide_false, reduceCtorEq]
    exact dn
  · rw [if_neg h1]
    by_cases h2 : a = b
    · rw [if_pos h2]
      simp -implicitDefEqProofs (maxSteps := 2000000) (disch := omega) only [go_sem, condB_t, condB_f, pf0, dec_t, dec_f, and_of, ↓reduceIte, Nat.reduceEqDiff, Nat.reduceMul, Nat.reduceAdd, Nat.reduceSub, Nat.reduceLT, Nat.reduceLeDiff, Int.reduceToNat, Nat.reducePow, Int.reducePow, Int.reduceLT, Int.reduceLE, Int.reduceNeg, Int.reduceAdd, Int.reduceSub, Int.reduceMul, decide_true, decide_false, reduceCtorEq]
      exact dn
    · rw [if_neg h2]
      simp -implicitDefEqProofs (maxSteps := 2000000) (disch := omega) only [go_sem, condB_t, condB_f, pf0, dec_t, dec_f, and_of, ↓reduceIte, Nat.reduceEqDiff, Nat.reduceMul, Nat.reduceAdd, Nat.reduceSub, Nat.reduceLT, Nat.reduceLeDiff, Int.reduceToNat, Nat.reducePow, Int.reducePow, Int.reduceLT, Int.reduceLE, Int.reduceNeg, Int.reduceAdd, Int.reduceSub, Int.reduceMul, decide_true, decide_false, reduceCtorEq]
      exact dn
theorem sortedLt_spec (e f : Ent) : PDet Try.prog 102 [.agg (entC e), .agg (entC f)] (.int .i64 (cmpI e.1 f.1)) := by
  refine pdet_of E0ok mixed Try.func102 (by kernel_rfl) rfl (by kernel_rfl) (Nat.le_of_ble_eq_true rfl) fun N0 h hn hmen => ?_
  have c := cmpInt_spec e.1 f.1
  unfold entC at *
  simp -implicitDefEqProofs (maxSteps := 2000000) (disch := decide) only [go_sem, condB_t, condB_f, pf0, dec_t, dec_f, and_of, ↓reduceIte, Nat.reduceEqDiff, Nat.reduceMul, Nat.reduceAdd, Nat.reduceSub, Nat.reduceLT, Nat.reduceLeDiff, Int.reduceToNat, Nat.reducePow, Int.reducePow, Int.reduceLT, Int.reduceLE, Int.reduceNeg, Int.reduceAdd, Int.reduceSub, Int.reduceMul, decide_true, decide_false, reduceCtorEq]
  refine callK_pure c ?_
  simp -implicitDefEqProofs (maxSteps := 2000000) (disch := decide) only [go_sem, condB_t, condB_f, pf0, dec_t, dec_f, and_of, ↓reduceIte, Nat.reduceEqDiff, Nat.reduceMul, Nat.reduceAdd, Nat.reduceSub, Nat.reduceLT, Nat.reduceLeDiff, Int.reduceToNat, Nat.reducePow, Int.reducePow, Int.reduceLT, Int.reduceLE, Int.reduceNeg, Int.reduceAdd, Int.reduceSub, Int.reduceMul, decide_true, decide_false, reduceCtorEq]
  exact dn
theorem ascending_spec (l : List Ent) (k : Nat) (hk : OkL l k) (hkb : k ≤ 1099511627776) (hl : l.length ≤ 1099511627776) : PDet Try.prog 99 [EL l] (.bool (decide (Can (eV l)))) := by
  refine pdet_of E0ok mixed Try.func99 (by kernel_rfl) rfl (by kernel_rfl) (Nat.le_of_ble_eq_true rfl) fun N0 h hn hmen => ?_
  unfold EL
  simp -implicitDefEqProofs (maxSteps := 2000000) (disch := omega) only [go_sem, condB_t, condB_f, pf0, dec_t, dec_f, and_of, ↓reduceIte, Nat.reduceEqDiff, Nat.reduceMul, Nat.reduceAdd, Nat.reduceSub, Nat.reduceLT, Nat.reduceLeDiff, Int.reduceToNat, Nat.reducePow, Int.reducePow, Int.reduceLT, Int.reduceLE, Int.reduceNeg, Int.reduceAdd, Int.reduceSub, Int.reduceMul, decide_true, decide_false, reduceCtorEq]
  refine aw_loop (X := Nat) (fun i => ⟨mkS [(0, .sl 4 (l.map entC)), (5, .sl 4 (l.map entC)), (6, .int .i64 l.length), (7, .int .i64 i)], h, N0⟩) (fun i => i ≤ l.length ∧ Can (eV (l.take i))) (fun i => l.length - i) ⟨0, ⟨Nat.zero_le _, by simp [eV]; exact ⟨.nil, nofun⟩⟩, ?_⟩ ?_
  · (refine Weak.slots (allP ?_) (fun k0 b0 hb0 => by first | exact hb0 | (have hk1 := (hmen k0 b0 hb0).1; simp only [upd, mkH]; (repeat rw [if_neg (by omega)]); exact hb0)) (by omega) hmen; simp -implicitDefEqProofs (maxSteps := 2000000) (disch := omega) only [go_sem, condB_t, condB_f, pf0, dec_t, dec_f, and_of, ↓reduceIte, Nat.reduceEqDiff, Nat.reduceMul, Nat.reduceAdd, Nat.reduceSub, Nat.reduceLT, Nat.reduceLeDiff, Int.reduceToNat, Nat.reducePow, Int.reducePow, Int.reduceLT, Int.reduceLE, Int.reduceNeg, Int.reduceAdd, Int.reduceSub, Int.reduceMul, decide_true, decide_false, reduceCtorEq, AllP, AVle_same, AVle_int, AVle_nil, AVle_row, topU_int, topU_bool, topU_sl, topU_row, topU_ptr, topU_iptr, topU_fn, val, List.drop_length])
  · rintro i ⟨hi, hc⟩
    by_cases h0 : i < l.length
    · have hx := hk.get h0
      have cs := rsign_spec _ k hx hkb
      unfold Raw.cells nl at cs
      have step := can_take_succ h0 hc
      by_cases h1 : 0 < i → (l.getD (i - 1) default).1 < (l.getD i default).1
      · by_cases h2 : sgnR (l.getD i default).2.val = 0
        · have hno : ¬ Can (eV l) := fun h => (step.1 (can_take h (i + 1))).2 (sgnR_zero.1 h2)
          rw [decide_eq_false hno]
          rw [h2] at cs
          by_cases h3 : 0 < i
          · have h4 := h1 h3
            simp -implicitDefEqProofs (maxSteps := 2000000) (disch := omega) only [go_sem, condB_t, condB_f, pf0, dec_t, dec_f, and_of, ↓reduceIte, Nat.reduceEqDiff, Nat.reduceMul, Nat.reduceAdd, Nat.reduceSub, Nat.reduceLT, Nat.reduceLeDiff, Int.reduceToNat, Nat.reducePow, Int.reducePow, Int.reduceLT, Int.reduceLE, Int.reduceNeg, Int.reduceAdd, Int.reduceSub, Int.reduceMul, decide_true, decide_false, reduceCtorEq]
            refine pcallK_pure cs ?_
            simp -implicitDefEqProofs (maxSteps := 2000000) (disch := omega) only [go_sem, condB_t, condB_f, pf0, dec_t, dec_f, and_of, ↓reduceIte, Nat.reduceEqDiff, Nat.reduceMul, Nat.reduceAdd, Nat.reduceSub, Nat.reduceLT, Nat.reduceLeDiff, Int.reduceToNat, Nat.reducePow, Int.reducePow, Int.reduceLT, Int.reduceLE, Int.reduceNeg, Int.reduceAdd, Int.reduceSub, Int.reduceMul, decide_true, decide_false, reduceCtorEq]
            exact dn
          · simp -implicitDefEqProofs (maxSteps := 2000000) (disch := omega) only [go_sem, condB_t, condB_f, pf0, dec_t, dec_f, and_of, ↓reduceIte, Nat.reduceEqDiff, Nat.reduceMul, Nat.reduceAdd, Nat.reduceSub, Nat.reduceLT, Nat.reduceLeDiff, Int.reduceToNat, Nat.reducePow, Int.reducePow, Int.reduceLT, Int.reduceLE, Int.reduceNeg, Int.reduceAdd, Int.reduceSub, Int.reduceMul, decide_true, decide_false, reduceCtorEq]
            refine pcallK_pure cs ?_
            simp -implicitDefEqProofs (maxSteps := 2000000) (disch := omega) only [go_sem, condB_t, condB_f, pf0, dec_t, dec_f, and_of, ↓reduceIte, Nat.reduceEqDiff, Nat.reduceMul, Nat.reduceAdd, Nat.reduceSub, Nat.reduceLT, Nat.reduceLeDiff, Int.reduceToNat, Nat.reducePow, Int.reducePow, Int.reduceLT, Int.reduceLE, Int.reduceNeg, Int.reduceAdd, Int.reduceSub, Int.reduceMul, decide_true, decide_false, reduceCtorEq]
            exact dn
        · have hyes := step.2 ⟨h1, fun e => h2 (sgnR_zero.2 e)⟩
          by_cases h3 : 0 < i
          · have h4 := h1 h3
            simp -implicitDefEqProofs (maxSteps := 2000000) (disch := omega) only [go_sem, condB_t, condB_f, pf0, dec_t, dec_f, and_of, ↓reduceIte, Nat.reduceEqDiff, Nat.reduceMul, Nat.reduceAdd, Nat.reduceSub, Nat.reduceLT, Nat.reduceLeDiff, Int.reduceToNat, Nat.reducePow, Int.reducePow, Int.reduceLT, Int.reduceLE, Int.reduceNeg, Int.reduceAdd, Int.reduceSub, Int.reduceMul, decide_true, decide_false, reduceCtorEq]
            refine pcallK_pure cs ?_
            simp -implicitDefEqProofs (maxSteps := 2000000) (disch := omega) only [go_sem, condB_t, condB_f, pf0, dec_t, dec_f, and_of, ↓reduceIte, Nat.reduceEqDiff, Nat.reduceMul, Nat.reduceAdd, Nat.reduceSub, Nat.reduceLT, Nat.reduceLeDiff, Int.reduceToNat, Nat.reducePow, Int.reducePow, Int.reduceLT, Int.reduceLE, Int.reduceNeg, Int.reduceAdd, Int.reduceSub, Int.reduceMul, decide_true, decide_false, reduceCtorEq]
            exact ⟨i + 1, ⟨h0, hyes⟩, by omega, by (refine Weak.slots (allP ?_) (fun k0 b0 hb0 => by first | exact hb0 | (have hk1 := (hmen k0 b0 hb0).1; simp only [upd, mkH]; (repeat rw [if_neg (by omega)]); exact hb0)) (by omega) hmen; simp -implicitDefEqProofs (maxSteps := 2000000) (disch := omega) only [go_sem, condB_t, condB_f, pf0, dec_t, dec_f, and_of, ↓reduceIte, Nat.reduceEqDiff, Nat.reduceMul, Nat.reduceAdd, Nat.reduceSub, Nat.reduceLT, Nat.reduceLeDiff, Int.reduceToNat, Nat.reducePow, Int.reducePow, Int.reduceLT, Int.reduceLE, Int.reduceNeg, Int.reduceAdd, Int.reduceSub, Int.reduceMul, decide_true, decide_false, reduceCtorEq, AllP, AVle_same, AVle_int, AVle_nil, AVle_row, topU_int, topU_bool, topU_sl, topU_row, topU_ptr, topU_iptr, topU_fn, val, List.drop_length])⟩
          · simp -implicitDefEqProofs (maxSteps := 2000000) (disch := omega) only [go_sem, condB_t, condB_f, pf0, dec_t, dec_f, and_of, ↓reduceIte, Nat.reduceEqDiff, Nat.reduceMul, Nat.reduceAdd, Nat.reduceSub, Nat.reduceLT, Nat.reduceLeDiff, Int.reduceToNat, Nat.reducePow, Int.reducePow, Int.reduceLT, Int.reduceLE, Int.reduceNeg, Int.reduceAdd, Int.reduceSub, Int.reduceMul, decide_true, decide_false, reduceCtorEq]
            refine pcallK_pure cs ?_
            simp -implicitDefEqProofs (maxSteps := 2000000) (disch := omega) only [go_sem, condB_t, condB_f, pf0, dec_t, dec_f, and_of, ↓reduceIte, Nat.reduceEqDiff, Nat.reduceMul, Nat.reduceAdd, Nat.reduceSub, Nat.reduceLT, Nat.reduceLeDiff, Int.reduceToNat, Nat.reducePow, Int.reducePow, Int.reduceLT, Int.reduceLE, Int.reduceNeg, Int.reduceAdd, Int.reduceSub, Int.reduceMul, decide_true, decide_false, reduceCtorEq]
            exact ⟨i + 1, ⟨h0, hyes⟩, by omega, by (refine Weak.slots (allP ?_) (fun k0 b0 hb0 => by first | exact hb0 | (have hk1 := (hmen k0 b0 hb0).1; simp only [upd, mkH]; (repeat rw [if_neg (by omega)]); exact hb0)) (by omega) hmen; simp -implicitDefEqProofs (maxSteps := 2000000) (disch := omega) only [go_sem, condB_t, condB_f, pf0, dec_t, dec_f, and_of, ↓reduceIte, Nat.reduceEqDiff, Nat.reduceMul, Nat.reduceAdd, Nat.reduceSub, Nat.reduceLT, Nat.reduceLeDiff, Int.reduceToNat, Nat.reducePow, Int.reducePow, Int.reduceLT, Int.reduceLE, Int.reduceNeg, Int.reduceAdd, Int.reduceSub, Int.reduceMul, decide_true, decide_false, reduceCtorEq, AllP, AVle_same, AVle_int, AVle_nil, AVle_row, topU_int, topU_bool, topU_sl, topU_row, topU_ptr, topU_iptr, topU_fn, val, List.drop_length])⟩
      · have hno : ¬ Can (eV l) := fun h => h1 (step.1 (can_take h (i + 1))).1
        rw [decide_eq_false hno]
        have h3 : 0 < i := by
          rcases Nat.eq_zero_or_pos i with e | e
          · exact absurd (fun h => by omega) h1
          · exact e
        have h4 : ¬ (l.getD (i - 1) default).1 < (l.getD i default).1 := fun h => h1 fun _ => h
        simp -implicitDefEqProofs (maxSteps := 2000000) (disch := omega) only [go_sem, condB_t, condB_f, pf0, dec_t, dec_f, and_of, ↓reduceIte, Nat.reduceEqDiff, Nat.reduceMul, Nat.reduceAdd, Nat.reduceSub, Nat.reduceLT, Nat.reduceLeDiff, Int.reduceToNat, Nat.reducePow, Int.reducePow, Int.reduceLT, Int.reduceLE, Int.reduceNeg, Int.reduceAdd, Int.reduceSub, Int.reduceMul, decide_true, decide_false, reduceCtorEq]
        exact dn
    · obtain rfl : i = l.length := by omega
      rw [List.take_of_length_le (Nat.le_refl _)] at hc
      rw [decide_eq_true hc]
      simp -implicitDefEqProofs (maxSteps := 2000000) (disch := omega) only [go_sem, condB_t, condB_f, pf0, dec_t, dec_f, and_of, ↓reduceIte, Nat.reduceEqDiff, Nat.reduceMul, Nat.reduceAdd, Nat.reduceSub, Nat.reduceLT, Nat.reduceLeDiff, Int.reduceToNat, Nat.reducePow, Int.reducePow, Int.reduceLT, Int.reduceLE, Int.reduceNeg, Int.reduceAdd, Int.reduceSub, Int.reduceMul, decide_true, decide_false, reduceCtorEq]
      exact dn
theorem own_new (l : List Ent) (k : Nat) (hk : OkL l k) (hkb : k ≤ 1099511627776) (hl : l.length ≤ 1099511627776) (h : Heap) (m : Nat) :
    ADet Try.prog 84 [EL l] h m (.row m l.length 0 l.length) (upd h m (some ⟨4, (cE (eV l)).map entC⟩)) := by
  refine anew_of E0ok mixed Try.func84 (by kernel_rfl) rfl (by kernel_rfl) (Nat.le_of_ble_eq_true rfl) (fun _ h => h) (fun r hr => (mapP _ r hr).2) fun N0 hn hmen _ => ⟨hmen, ?_⟩
  unfold EL
  simp -implicitDefEqProofs (maxSteps := 2000000) (disch := omega) only [go_sem, condB_t, condB_f, pf0, dec_t, dec_f, and_of, ↓reduceIte, Nat.reduceEqDiff, Nat.reduceMul, Nat.reduceAdd, Nat.reduceSub, Nat.reduceLT, Nat.reduceLeDiff, Int.reduceToNat, Nat.reducePow, Int.reducePow, Int.reduceLT, Int.reduceLE, Int.reduceNeg, Int.reduceAdd, Int.reduceSub, Int.reduceMul, decide_true, decide_false, reduceCtorEq]
  refine aw_weak (Weak.nilRow (t := 3) (sz := 4) (id := N0 + 48) (by omega) (by omega) (by simp -implicitDefEqProofs (maxSteps := 2000000) (disch := omega) only [go_sem, condB_t, condB_f, pf0, dec_t, dec_f, and_of, ↓reduceIte, Nat.reduceEqDiff, Nat.reduceMul, Nat.reduceAdd, Nat.reduceSub, Nat.reduceLT, Nat.reduceLeDiff, Int.reduceToNat, Nat.reducePow, Int.reducePow, Int.reduceLT, Int.reduceLE, Int.reduceNeg, Int.reduceAdd, Int.reduceSub, Int.reduceMul, decide_true, decide_false, reduceCtorEq])) ?_
  obtain ⟨id, hid⟩ : ∃ id, id = N0 + 48 := ⟨_, rfl⟩
  rw [← hid]
  refine aw_loop (X := Nat) (fun i => ⟨mkS [(3, .row id i 0 i), (6, .sl 4 (l.map entC)), (7, .int .i64 l.length), (8, .int .i64 i)], mkH h [(id, ⟨4, (cE (eV (l.take i))).map entC⟩)], id + 8⟩) (fun i => i ≤ l.length) (fun i => l.length - i) ⟨0, Nat.zero_le _, ?_⟩ ?_
  · (refine Weak.head1w (by simp -implicitDefEqProofs (maxSteps := 2000000) (disch := omega) only [go_sem, condB_t, condB_f, pf0, dec_t, dec_f, and_of, ↓reduceIte, Nat.reduceEqDiff, Nat.reduceMul, Nat.reduceAdd, Nat.reduceSub, Nat.reduceLT, Nat.reduceLeDiff, Int.reduceToNat, Nat.reducePow, Int.reducePow, Int.reduceLT, Int.reduceLE, Int.reduceNeg, Int.reduceAdd, Int.reduceSub, Int.reduceMul, decide_true, decide_false, reduceCtorEq] <;> (try rfl)) (by omega) (mapU _ _ _) (fun k0 b0 hk0 hb0 => by have hk1 : (k0 = _) = False := eq_false hk0; have hk2 := (hmen k0 b0 hb0).1; (simp -implicitDefEqProofs (maxSteps := 2000000) (disch := omega) only [go_sem, condB_t, condB_f, pf0, dec_t, dec_f, and_of, ↓reduceIte, Nat.reduceEqDiff, Nat.reduceMul, Nat.reduceAdd, Nat.reduceSub, Nat.reduceLT, Nat.reduceLeDiff, Int.reduceToNat, Nat.reducePow, Int.reducePow, Int.reduceLT, Int.reduceLE, Int.reduceNeg, Int.reduceAdd, Int.reduceSub, Int.reduceMul, decide_true, decide_false, reduceCtorEq, upd, mkH, hk1]) <;> (try (repeat rw [if_neg (by omega)])) <;> exact hb0) (by omega) hmen ?_; simp -implicitDefEqProofs (maxSteps := 2000000) (disch := omega) only [go_sem, condB_t, condB_f, pf0, dec_t, dec_f, and_of, ↓reduceIte, Nat.reduceEqDiff, Nat.reduceMul, Nat.reduceAdd, Nat.reduceSub, Nat.reduceLT, Nat.reduceLeDiff, Int.reduceToNat, Nat.reducePow, Int.reducePow, Int.reduceLT, Int.reduceLE, Int.reduceNeg, Int.reduceAdd, Int.reduceSub, Int.reduceMul, decide_true, decide_false, reduceCtorEq, AllP, AVle_same, AVle_int, AVle_nil, AVle_row, topU_int, topU_bool, topU_sl, topU_row, topU_ptr, topU_iptr, topU_fn, val, List.drop_length])
  · intro i hi
    by_cases h0 : i < l.length
    · have hx := hk.get h0
      have cs := rnorm_spec _ k hx hkb
      have e := cE_take_succ h0
      have hel : (cE (eV (l.take i))).length = i := by rw [cE_len, eV_len, List.length_take]; omega
      unfold rC Raw.cells nl at cs
      simp -implicitDefEqProofs (maxSteps := 2000000) (disch := omega) only [go_sem, condB_t, condB_f, pf0, dec_t, dec_f, and_of, ↓reduceIte, Nat.reduceEqDiff, Nat.reduceMul, Nat.reduceAdd, Nat.reduceSub, Nat.reduceLT, Nat.reduceLeDiff, Int.reduceToNat, Nat.reducePow, Int.reducePow, Int.reduceLT, Int.reduceLE, Int.reduceNeg, Int.reduceAdd, Int.reduceSub, Int.reduceMul, decide_true, decide_false, reduceCtorEq]
      refine pcallK_pure cs ?_
      simp -implicitDefEqProofs (maxSteps := 2000000) (disch := omega) only [go_sem, condB_t, condB_f, pf0, dec_t, dec_f, and_of, ↓reduceIte, Nat.reduceEqDiff, Nat.reduceMul, Nat.reduceAdd, Nat.reduceSub, Nat.reduceLT, Nat.reduceLeDiff, Int.reduceToNat, Nat.reducePow, Int.reducePow, Int.reduceLT, Int.reduceLE, Int.reduceNeg, Int.reduceAdd, Int.reduceSub, Int.reduceMul, decide_true, decide_false, reduceCtorEq, hel]
      exact ⟨i + 1, h0, by omega, by (refine Weak.head1w (by simp -implicitDefEqProofs (maxSteps := 2000000) (disch := omega) only [go_sem, condB_t, condB_f, pf0, dec_t, dec_f, and_of, ↓reduceIte, Nat.reduceEqDiff, Nat.reduceMul, Nat.reduceAdd, Nat.reduceSub, Nat.reduceLT, Nat.reduceLeDiff, Int.reduceToNat, Nat.reducePow, Int.reducePow, Int.reduceLT, Int.reduceLE, Int.reduceNeg, Int.reduceAdd, Int.reduceSub, Int.reduceMul, decide_true, decide_false, reduceCtorEq, e] <;> (try rfl)) (by omega) (mapU _ _ _) (fun k0 b0 hk0 hb0 => by have hk1 : (k0 = _) = False := eq_false hk0; have hk2 := (hmen k0 b0 hb0).1; (simp -implicitDefEqProofs (maxSteps := 2000000) (disch := omega) only [go_sem, condB_t, condB_f, pf0, dec_t, dec_f, and_of, ↓reduceIte, Nat.reduceEqDiff, Nat.reduceMul, Nat.reduceAdd, Nat.reduceSub, Nat.reduceLT, Nat.reduceLeDiff, Int.reduceToNat, Nat.reducePow, Int.reducePow, Int.reduceLT, Int.reduceLE, Int.reduceNeg, Int.reduceAdd, Int.reduceSub, Int.reduceMul, decide_true, decide_false, reduceCtorEq, upd, mkH, hk1]) <;> (try (repeat rw [if_neg (by omega)])) <;> exact hb0) (by omega) hmen ?_; simp -implicitDefEqProofs (maxSteps := 2000000) (disch := omega) only [go_sem, condB_t, condB_f, pf0, dec_t, dec_f, and_of, ↓reduceIte, Nat.reduceEqDiff, Nat.reduceMul, Nat.reduceAdd, Nat.reduceSub, Nat.reduceLT, Nat.reduceLeDiff, Int.reduceToNat, Nat.reducePow, Int.reducePow, Int.reduceLT, Int.reduceLE, Int.reduceNeg, Int.reduceAdd, Int.reduceSub, Int.reduceMul, decide_true, decide_false, reduceCtorEq, AllP, AVle_same, AVle_int, AVle_nil, AVle_row, topU_int, topU_bool, topU_sl, topU_row, topU_ptr, topU_iptr, topU_fn, val, List.drop_length, e])⟩
    · obtain rfl : i = l.length := by omega
      simp -implicitDefEqProofs (maxSteps := 2000000) (disch := omega) only [go_sem, condB_t, condB_f, pf0, dec_t, dec_f, and_of, ↓reduceIte, Nat.reduceEqDiff, Nat.reduceMul, Nat.reduceAdd, Nat.reduceSub, Nat.reduceLT, Nat.reduceLeDiff, Int.reduceToNat, Nat.reducePow, Int.reducePow, Int.reduceLT, Int.reduceLE, Int.reduceNeg, Int.reduceAdd, Int.reduceSub, Int.reduceMul, decide_true, decide_false, reduceCtorEq]
      exact ⟨id, by omega, by simp -implicitDefEqProofs (maxSteps := 2000000) (disch := omega) only [go_sem, condB_t, condB_f, pf0, dec_t, dec_f, and_of, ↓reduceIte, Nat.reduceEqDiff, Nat.reduceMul, Nat.reduceAdd, Nat.reduceSub, Nat.reduceLT, Nat.reduceLeDiff, Int.reduceToNat, Nat.reducePow, Int.reducePow, Int.reduceLT, Int.reduceLE, Int.reduceNeg, Int.reduceAdd, Int.reduceSub, Int.reduceMul, decide_true, decide_false, reduceCtorEq]; rw [List.take_of_length_le (Nat.le_refl _)], .val (.row _ _ _)⟩
end Go.Abs
/-! YtbVec2: Sparse vectors: the stable sort of short lists. No condition. -/
set_option linter.unusedVariables false
set_option linter.unusedSimpArgs false
set_option maxRecDepth 100000
set_option maxHeartbeats 1000000
namespace Go.Abs
open Go.Proofs
@[go_sem] theorem R163 : Try.f163.results.toList = [] := rfl
@[go_sem] theorem valCall0 (P : Program) (g : FuncId) (args : List AV) (h : Heap) (m : Nat) (K : AV → Heap → Prop) : valCall P E0 g args h m K = pcallK P g args h K := valCall_t g args K rfl
@[go_sem] theorem map_entC_get2 (l : List Ent) (i j : Nat) (e : Ent) (h : i < l.length) : ((l.set j e).map entC).getD i [] = [.int .i64 ((l.set j e).getD i default).1, .bool ((l.set j e).getD i default).2.s, .sl 1 (numL ((l.set j e).getD i default).2.m), .sl 1 (numL ((l.set j e).getD i default).2.d)] := map_entC_get _ _ (by rw [List.length_set]; exact h)
@[go_sem] theorem ent_eta (e : Ent) : ((e.1, Raw.mk e.2.s e.2.m e.2.d) : Ent) = e := rfl
theorem insertion_spec (A M Z : List Ent) (N : Nat) (hN : (A ++ M ++ Z).length = N) (hs : N ≤ 1099511627776) (h : Heap) (id m : Nat) (hid : h id = some ⟨4, (A ++ M ++ Z).map entC⟩) :
    ADet Try.prog 163 [.row id N 0 N, .int .i64 A.length, .int .i64 (A.length + M.length : Nat), .fn 102] h m (.tup []) (upd h id (some ⟨4, (A ++ isort M ++ Z).map entC⟩)) := by
  refine adet_of E0ok mixed Try.func163 (by kernel_rfl) rfl (by kernel_rfl) (Nat.le_of_ble_eq_true rfl) (none_put hid) fun N0 hn hmen _ => ⟨hmen.put hid (mapU _ _ _), ?_⟩
  have hidlt : id < N0 := (hmen id _ hid).1
  simp only [List.length_append] at hN
  simp -implicitDefEqProofs (maxSteps := 2000000) (disch := omega) only [go_sem, condB_t, condB_f, pf0, dec_t, dec_f, and_of, ↓reduceIte, Nat.reduceEqDiff, Nat.reduceMul, Nat.reduceAdd, Nat.reduceSub, Nat.reduceLT, Nat.reduceLeDiff, Int.reduceToNat, Nat.reducePow, Int.reducePow, Int.reduceLT, Int.reduceLE, Int.reduceNeg, Int.reduceAdd, Int.reduceSub, Int.reduceMul, decide_true, decide_false, reduceCtorEq, hid]
  refine aw_loop (X := Nat) (fun i => ⟨mkS [(0, .row id N 0 N), (1, .int .i64 A.length), (2, .int .i64 (A.length + M.length : Nat)), (3, .fn 102), (8, .int .i64 (A.length + i : Nat))], mkH h [(id, ⟨4, (A ++ isort (M.take i) ++ (M.drop i ++ Z)).map entC⟩)], N0⟩)
    (fun i => 1 ≤ i ∧ (i ≤ M.length ∨ i = 1)) (fun i => M.length - i) ⟨1, ⟨Nat.le_refl _, .inr rfl⟩, ?_⟩ ?_
  · have e0 : A ++ isort (M.take 1) ++ (M.drop 1 ++ Z) = A ++ M ++ Z := by
      cases M with
      | nil => rfl
      | cons x M => simp [isort, insE]
    refine Weak.head1w (by rw [e0]; exact hid) (by omega) (mapU _ _ _) (fun k0 b0 _ hb0 => hb0) (by omega) hmen ?_
    simp -implicitDefEqProofs (maxSteps := 2000000) (disch := omega) only [go_sem, condB_t, condB_f, pf0, dec_t, dec_f, and_of, ↓reduceIte, Nat.reduceEqDiff, Nat.reduceMul, Nat.reduceAdd, Nat.reduceSub, Nat.reduceLT, Nat.reduceLeDiff, Int.reduceToNat, Nat.reducePow, Int.reducePow, Int.reduceLT, Int.reduceLE, Int.reduceNeg, Int.reduceAdd, Int.reduceSub, Int.reduceMul, decide_true, decide_false, reduceCtorEq, AllP, AVle_same, AVle_int, AVle_nil, AVle_row, topU_int, topU_bool, topU_sl, topU_row, topU_ptr, topU_iptr, topU_fn, val, List.drop_length]
  · rintro i ⟨h1, h2⟩
    by_cases h0 : i < M.length
    · have el : (isort (M.take i)).length = i := by rw [isort_len, List.length_take]; omega
      have es := isort_sort (M.take i)
      have e1 : A ++ isort (M.take i) ++ (M.drop i ++ Z) = mid A (isort (M.take i)) (M.getD i default) i (M.drop (i + 1) ++ Z) := by
        rw [List.drop_eq_getElem_cons h0, List.getD_eq_getElem?_getD, List.getElem?_eq_getElem h0]
        have := mid_end (A := A) (T := isort (M.take i)) (e := M[i]) (R := M.drop (i + 1) ++ Z)
        rw [el] at this
        exact this.symm
      have e2 : isort (M.take (i + 1)) = insE (M.getD i default) (isort (M.take i)) := by
        rw [← isort_snoc, List.take_add_one, List.getElem?_eq_getElem h0, List.getD_eq_getElem?_getD, List.getElem?_eq_getElem h0]; rfl
      rw [e1]
      generalize isort (M.take i) = T at *
      generalize M.getD i default = e at *
      simp -implicitDefEqProofs (maxSteps := 2000000) (disch := omega) only [go_sem, condB_t, condB_f, pf0, dec_t, dec_f, and_of, ↓reduceIte, Nat.reduceEqDiff, Nat.reduceMul, Nat.reduceAdd, Nat.reduceSub, Nat.reduceLT, Nat.reduceLeDiff, Int.reduceToNat, Nat.reducePow, Int.reducePow, Int.reduceLT, Int.reduceLE, Int.reduceNeg, Int.reduceAdd, Int.reduceSub, Int.reduceMul, decide_true, decide_false, reduceCtorEq]
      refine aw_loop (X := Nat) (fun j => ⟨mkS [(0, .row id N 0 N), (1, .int .i64 A.length), (2, .int .i64 (A.length + M.length : Nat)), (3, .fn 102), (8, .int .i64 (A.length + i : Nat)), (9, .int .i64 (A.length + j : Nat))], mkH h [(id, ⟨4, (mid A T e j (M.drop (i + 1) ++ Z)).map entC⟩)], N0⟩)
        (fun j => j ≤ i ∧ ∀ x ∈ T.drop j, e.1 < x.1) (fun j => j) ⟨i, ⟨Nat.le_refl _, by rw [← el, List.drop_length]; exact nofun⟩, ?_⟩ ?_
      · (refine Weak.head1w (by simp -implicitDefEqProofs (maxSteps := 2000000) (disch := omega) only [go_sem, condB_t, condB_f, pf0, dec_t, dec_f, and_of, ↓reduceIte, Nat.reduceEqDiff, Nat.reduceMul, Nat.reduceAdd, Nat.reduceSub, Nat.reduceLT, Nat.reduceLeDiff, Int.reduceToNat, Nat.reducePow, Int.reducePow, Int.reduceLT, Int.reduceLE, Int.reduceNeg, Int.reduceAdd, Int.reduceSub, Int.reduceMul, decide_true, decide_false, reduceCtorEq] <;> (try rfl)) (by omega) (mapU _ _ _) (fun k0 b0 hk0 hb0 => by have hk1 : (k0 = _) = False := eq_false hk0; have hk2 := (hmen k0 b0 hb0).1; (simp -implicitDefEqProofs (maxSteps := 2000000) (disch := omega) only [go_sem, condB_t, condB_f, pf0, dec_t, dec_f, and_of, ↓reduceIte, Nat.reduceEqDiff, Nat.reduceMul, Nat.reduceAdd, Nat.reduceSub, Nat.reduceLT, Nat.reduceLeDiff, Int.reduceToNat, Nat.reducePow, Int.reducePow, Int.reduceLT, Int.reduceLE, Int.reduceNeg, Int.reduceAdd, Int.reduceSub, Int.reduceMul, decide_true, decide_false, reduceCtorEq, upd, mkH, hk1]) <;> (try (repeat rw [if_neg (by omega)])) <;> exact hb0) (by omega) hmen ?_; simp -implicitDefEqProofs (maxSteps := 2000000) (disch := omega) only [go_sem, condB_t, condB_f, pf0, dec_t, dec_f, and_of, ↓reduceIte, Nat.reduceEqDiff, Nat.reduceMul, Nat.reduceAdd, Nat.reduceSub, Nat.reduceLT, Nat.reduceLeDiff, Int.reduceToNat, Nat.reducePow, Int.reducePow, Int.reduceLT, Int.reduceLE, Int.reduceNeg, Int.reduceAdd, Int.reduceSub, Int.reduceMul, decide_true, decide_false, reduceCtorEq, AllP, AVle_same, AVle_int, AVle_nil, AVle_row, topU_int, topU_bool, topU_sl, topU_row, topU_ptr, topU_iptr, topU_fn, val, List.drop_length])
      · rintro j ⟨hj, hd⟩
        have ml := mid_len A T e j (M.drop (i + 1) ++ Z)
        simp only [List.length_append, List.length_drop] at ml
        have hend : (0 < j → (T.getD (j - 1) default).1 ≤ e.1) → mid A T e j (M.drop (i + 1) ++ Z) = A ++ isort (M.take (i + 1)) ++ (M.drop (i + 1) ++ Z) := fun hh => by rw [e2, mid_ins es (by omega) hh hd]
        rcases Nat.eq_zero_or_pos j with hz | hz
        · subst hz
          have hend := hend (fun h => by omega)
          simp -implicitDefEqProofs (maxSteps := 2000000) (disch := omega) only [go_sem, condB_t, condB_f, pf0, dec_t, dec_f, and_of, ↓reduceIte, Nat.reduceEqDiff, Nat.reduceMul, Nat.reduceAdd, Nat.reduceSub, Nat.reduceLT, Nat.reduceLeDiff, Int.reduceToNat, Nat.reducePow, Int.reducePow, Int.reduceLT, Int.reduceLE, Int.reduceNeg, Int.reduceAdd, Int.reduceSub, Int.reduceMul, decide_true, decide_false, reduceCtorEq]
          exact ⟨i + 1, ⟨by omega, by omega⟩, by omega, by (refine Weak.head1w (by simp -implicitDefEqProofs (maxSteps := 2000000) (disch := omega) only [go_sem, condB_t, condB_f, pf0, dec_t, dec_f, and_of, ↓reduceIte, Nat.reduceEqDiff, Nat.reduceMul, Nat.reduceAdd, Nat.reduceSub, Nat.reduceLT, Nat.reduceLeDiff, Int.reduceToNat, Nat.reducePow, Int.reducePow, Int.reduceLT, Int.reduceLE, Int.reduceNeg, Int.reduceAdd, Int.reduceSub, Int.reduceMul, decide_true, decide_false, reduceCtorEq, hend] <;> (try rfl)) (by omega) (mapU _ _ _) (fun k0 b0 hk0 hb0 => by have hk1 : (k0 = _) = False := eq_false hk0; have hk2 := (hmen k0 b0 hb0).1; (simp -implicitDefEqProofs (maxSteps := 2000000) (disch := omega) only [go_sem, condB_t, condB_f, pf0, dec_t, dec_f, and_of, ↓reduceIte, Nat.reduceEqDiff, Nat.reduceMul, Nat.reduceAdd, Nat.reduceSub, Nat.reduceLT, Nat.reduceLeDiff, Int.reduceToNat, Nat.reducePow, Int.reducePow, Int.reduceLT, Int.reduceLE, Int.reduceNeg, Int.reduceAdd, Int.reduceSub, Int.reduceMul, decide_true, decide_false, reduceCtorEq, upd, mkH, hk1]) <;> (try (repeat rw [if_neg (by omega)])) <;> exact hb0) (by omega) hmen ?_; simp -implicitDefEqProofs (maxSteps := 2000000) (disch := omega) only [go_sem, condB_t, condB_f, pf0, dec_t, dec_f, and_of, ↓reduceIte, Nat.reduceEqDiff, Nat.reduceMul, Nat.reduceAdd, Nat.reduceSub, Nat.reduceLT, Nat.reduceLeDiff, Int.reduceToNat, Nat.reducePow, Int.reducePow, Int.reduceLT, Int.reduceLE, Int.reduceNeg, Int.reduceAdd, Int.reduceSub, Int.reduceMul, decide_true, decide_false, reduceCtorEq, AllP, AVle_same, AVle_int, AVle_nil, AVle_row, topU_int, topU_bool, topU_sl, topU_row, topU_ptr, topU_iptr, topU_fn, val, List.drop_length, hend])⟩
        · obtain ⟨q, rfl⟩ : ∃ q, j = q + 1 := ⟨j - 1, by omega⟩
          have g1 := mid_get (A := A) (T := T) (e := e) (j := q + 1) (R := M.drop (i + 1) ++ Z) (by omega)
          have g2 := mid_get1 (A := A) (T := T) (e := e) (j := q) (R := M.drop (i + 1) ++ Z) (by omega)
          have g3 := mid_swap (A := A) (T := T) (e := e) (j := q) (R := M.drop (i + 1) ++ Z) (by omega)
          have c := sortedLt_spec e (T.getD q default)
          have d0 : A.length + (q + 1) - 1 = A.length + q := by omega
          unfold entC at c
          simp -implicitDefEqProofs (maxSteps := 2000000) (disch := omega) only [go_sem, condB_t, condB_f, pf0, dec_t, dec_f, and_of, ↓reduceIte, Nat.reduceEqDiff, Nat.reduceMul, Nat.reduceAdd, Nat.reduceSub, Nat.reduceLT, Nat.reduceLeDiff, Int.reduceToNat, Nat.reducePow, Int.reducePow, Int.reduceLT, Int.reduceLE, Int.reduceNeg, Int.reduceAdd, Int.reduceSub, Int.reduceMul, decide_true, decide_false, reduceCtorEq, g1, d0, g2]
          refine pcallK_pure c ?_
          unfold cmpI
          by_cases hlt : e.1 < (T.getD q default).1
          · rw [if_pos hlt]
            simp -implicitDefEqProofs (maxSteps := 2000000) (disch := omega) only [go_sem, condB_t, condB_f, pf0, dec_t, dec_f, and_of, ↓reduceIte, Nat.reduceEqDiff, Nat.reduceMul, Nat.reduceAdd, Nat.reduceSub, Nat.reduceLT, Nat.reduceLeDiff, Int.reduceToNat, Nat.reducePow, Int.reducePow, Int.reduceLT, Int.reduceLE, Int.reduceNeg, Int.reduceAdd, Int.reduceSub, Int.reduceMul, decide_true, decide_false, reduceCtorEq, g1, d0, g2]
            exact ⟨q, ⟨by omega, fun x hx => by
              have hq : q < T.length := by omega
              rw [List.drop_eq_getElem_cons hq] at hx
              rcases List.mem_cons.1 hx with rfl | hx
              · rw [List.getD_eq_getElem?_getD, List.getElem?_eq_getElem hq] at hlt; exact hlt
              · exact hd x hx⟩, by omega, by (refine Weak.head1w (by simp -implicitDefEqProofs (maxSteps := 2000000) (disch := omega) only [go_sem, condB_t, condB_f, pf0, dec_t, dec_f, and_of, ↓reduceIte, Nat.reduceEqDiff, Nat.reduceMul, Nat.reduceAdd, Nat.reduceSub, Nat.reduceLT, Nat.reduceLeDiff, Int.reduceToNat, Nat.reducePow, Int.reducePow, Int.reduceLT, Int.reduceLE, Int.reduceNeg, Int.reduceAdd, Int.reduceSub, Int.reduceMul, decide_true, decide_false, reduceCtorEq, g1, d0, g2, g3] <;> (try rfl)) (by omega) (mapU _ _ _) (fun k0 b0 hk0 hb0 => by have hk1 : (k0 = _) = False := eq_false hk0; have hk2 := (hmen k0 b0 hb0).1; (simp -implicitDefEqProofs (maxSteps := 2000000) (disch := omega) only [go_sem, condB_t, condB_f, pf0, dec_t, dec_f, and_of, ↓reduceIte, Nat.reduceEqDiff, Nat.reduceMul, Nat.reduceAdd, Nat.reduceSub, Nat.reduceLT, Nat.reduceLeDiff, Int.reduceToNat, Nat.reducePow, Int.reducePow, Int.reduceLT, Int.reduceLE, Int.reduceNeg, Int.reduceAdd, Int.reduceSub, Int.reduceMul, decide_true, decide_false, reduceCtorEq, upd, mkH, hk1]) <;> (try (repeat rw [if_neg (by omega)])) <;> exact hb0) (by omega) hmen ?_; simp -implicitDefEqProofs (maxSteps := 2000000) (disch := omega) only [go_sem, condB_t, condB_f, pf0, dec_t, dec_f, and_of, ↓reduceIte, Nat.reduceEqDiff, Nat.reduceMul, Nat.reduceAdd, Nat.reduceSub, Nat.reduceLT, Nat.reduceLeDiff, Int.reduceToNat, Nat.reducePow, Int.reducePow, Int.reduceLT, Int.reduceLE, Int.reduceNeg, Int.reduceAdd, Int.reduceSub, Int.reduceMul, decide_true, decide_false, reduceCtorEq, AllP, AVle_same, AVle_int, AVle_nil, AVle_row, topU_int, topU_bool, topU_sl, topU_row, topU_ptr, topU_iptr, topU_fn, val, List.drop_length, g1, d0, g2, g3])⟩
          · rw [if_neg hlt]
            have hend := hend (fun _ => by rw [Nat.add_sub_cancel]; omega)
            by_cases heq : e.1 = (T.getD q default).1
            · rw [if_pos heq]
              simp -implicitDefEqProofs (maxSteps := 2000000) (disch := omega) only [go_sem, condB_t, condB_f, pf0, dec_t, dec_f, and_of, ↓reduceIte, Nat.reduceEqDiff, Nat.reduceMul, Nat.reduceAdd, Nat.reduceSub, Nat.reduceLT, Nat.reduceLeDiff, Int.reduceToNat, Nat.reducePow, Int.reducePow, Int.reduceLT, Int.reduceLE, Int.reduceNeg, Int.reduceAdd, Int.reduceSub, Int.reduceMul, decide_true, decide_false, reduceCtorEq]
              exact ⟨i + 1, ⟨by omega, by omega⟩, by omega, by (refine Weak.head1w (by simp -implicitDefEqProofs (maxSteps := 2000000) (disch := omega) only [go_sem, condB_t, condB_f, pf0, dec_t, dec_f, and_of, ↓reduceIte, Nat.reduceEqDiff, Nat.reduceMul, Nat.reduceAdd, Nat.reduceSub, Nat.reduceLT, Nat.reduceLeDiff, Int.reduceToNat, Nat.reducePow, Int.reducePow, Int.reduceLT, Int.reduceLE, Int.reduceNeg, Int.reduceAdd, Int.reduceSub, Int.reduceMul, decide_true, decide_false, reduceCtorEq, hend] <;> (try rfl)) (by omega) (mapU _ _ _) (fun k0 b0 hk0 hb0 => by have hk1 : (k0 = _) = False := eq_false hk0; have hk2 := (hmen k0 b0 hb0).1; (simp -implicitDefEqProofs (maxSteps := 2000000) (disch := omega) only [go_sem, condB_t, condB_f, pf0, dec_t, dec_f, and_of, ↓reduceIte, Nat.reduceEqDiff, Nat.reduceMul, Nat.reduceAdd, Nat.reduceSub, Nat.reduceLT, Nat.reduceLeDiff, Int.reduceToNat, Nat.reducePow, Int.reducePow, Int.reduceLT, Int.reduceLE, Int.reduceNeg, Int.reduceAdd, Int.reduceSub, Int.reduceMul, decide_true, decide_false, reduceCtorEq, upd, mkH, hk1]) <;> (try (repeat rw [if_neg (by omega)])) <;> exact hb0) (by omega) hmen ?_; simp -implicitDefEqProofs (maxSteps := 2000000) (disch := omega) only [go_sem, condB_t, condB_f, pf0, dec_t, dec_f, and_of, ↓reduceIte, Nat.reduceEqDiff, Nat.reduceMul, Nat.reduceAdd, Nat.reduceSub, Nat.reduceLT, Nat.reduceLeDiff, Int.reduceToNat, Nat.reducePow, Int.reducePow, Int.reduceLT, Int.reduceLE, Int.reduceNeg, Int.reduceAdd, Int.reduceSub, Int.reduceMul, decide_true, decide_false, reduceCtorEq, AllP, AVle_same, AVle_int, AVle_nil, AVle_row, topU_int, topU_bool, topU_sl, topU_row, topU_ptr, topU_iptr, topU_fn, val, List.drop_length, hend])⟩
            · rw [if_neg heq]
              simp -implicitDefEqProofs (maxSteps := 2000000) (disch := omega) only [go_sem, condB_t, condB_f, pf0, dec_t, dec_f, and_of, ↓reduceIte, Nat.reduceEqDiff, Nat.reduceMul, Nat.reduceAdd, Nat.reduceSub, Nat.reduceLT, Nat.reduceLeDiff, Int.reduceToNat, Nat.reducePow, Int.reducePow, Int.reduceLT, Int.reduceLE, Int.reduceNeg, Int.reduceAdd, Int.reduceSub, Int.reduceMul, decide_true, decide_false, reduceCtorEq]
              exact ⟨i + 1, ⟨by omega, by omega⟩, by omega, by (refine Weak.head1w (by simp -implicitDefEqProofs (maxSteps := 2000000) (disch := omega) only [go_sem, condB_t, condB_f, pf0, dec_t, dec_f, and_of, ↓reduceIte, Nat.reduceEqDiff, Nat.reduceMul, Nat.reduceAdd, Nat.reduceSub, Nat.reduceLT, Nat.reduceLeDiff, Int.reduceToNat, Nat.reducePow, Int.reducePow, Int.reduceLT, Int.reduceLE, Int.reduceNeg, Int.reduceAdd, Int.reduceSub, Int.reduceMul, decide_true, decide_false, reduceCtorEq, hend] <;> (try rfl)) (by omega) (mapU _ _ _) (fun k0 b0 hk0 hb0 => by have hk1 : (k0 = _) = False := eq_false hk0; have hk2 := (hmen k0 b0 hb0).1; (simp -implicitDefEqProofs (maxSteps := 2000000) (disch := omega) only [go_sem, condB_t, condB_f, pf0, dec_t, dec_f, and_of, ↓reduceIte, Nat.reduceEqDiff, Nat.reduceMul, Nat.reduceAdd, Nat.reduceSub, Nat.reduceLT, Nat.reduceLeDiff, Int.reduceToNat, Nat.reducePow, Int.reducePow, Int.reduceLT, Int.reduceLE, Int.reduceNeg, Int.reduceAdd, Int.reduceSub, Int.reduceMul, decide_true, decide_false, reduceCtorEq, upd, mkH, hk1]) <;> (try (repeat rw [if_neg (by omega)])) <;> exact hb0) (by omega) hmen ?_; simp -implicitDefEqProofs (maxSteps := 2000000) (disch := omega) only [go_sem, condB_t, condB_f, pf0, dec_t, dec_f, and_of, ↓reduceIte, Nat.reduceEqDiff, Nat.reduceMul, Nat.reduceAdd, Nat.reduceSub, Nat.reduceLT, Nat.reduceLeDiff, Int.reduceToNat, Nat.reducePow, Int.reducePow, Int.reduceLT, Int.reduceLE, Int.reduceNeg, Int.reduceAdd, Int.reduceSub, Int.reduceMul, decide_true, decide_false, reduceCtorEq, AllP, AVle_same, AVle_int, AVle_nil, AVle_row, topU_int, topU_bool, topU_sl, topU_row, topU_ptr, topU_iptr, topU_fn, val, List.drop_length, hend])⟩
    · have e1 : A ++ isort (M.take i) ++ (M.drop i ++ Z) = A ++ isort M ++ Z := by
        rw [List.take_of_length_le (by omega), List.drop_eq_nil_of_le (by omega)]; rfl
      rw [e1]
      simp -implicitDefEqProofs (maxSteps := 2000000) (disch := omega) only [go_sem, condB_t, condB_f, pf0, dec_t, dec_f, and_of, ↓reduceIte, Nat.reduceEqDiff, Nat.reduceMul, Nat.reduceAdd, Nat.reduceSub, Nat.reduceLT, Nat.reduceLeDiff, Int.reduceToNat, Nat.reducePow, Int.reducePow, Int.reduceLT, Int.reduceLE, Int.reduceNeg, Int.reduceAdd, Int.reduceSub, Int.reduceMul, decide_true, decide_false, reduceCtorEq]
      exact ⟨fun _ _ => rfl, .tup rfl nofun⟩
end Go.Abs
/-! YtbSrt1: Stable sorting: two stretches exchanged; rotation. No condition. -/
set_option linter.unusedVariables false
set_option linter.unusedSimpArgs false
set_option maxRecDepth 100000
set_option maxHeartbeats 1000000
namespace Go.Abs
open Go.Proofs
@[go_sem] theorem R190 : Try.f190.results.toList = [] := rfl
@[go_sem] theorem R184 : Try.f184.results.toList = [] := rfl
theorem swapRange_spec (A U M V Z : List Ent) (n N : Nat) (hu : U.length = n) (hv : V.length = n) (hN : (A ++ U ++ M ++ V ++ Z).length = N) (hs : N ≤ 1099511627776) (h : Heap) (id m : Nat) (hid : h id = some ⟨4, (A ++ U ++ M ++ V ++ Z).map entC⟩) :
    ADet Try.prog 190 [.row id N 0 N, .int .i64 A.length, .int .i64 (A.length + n + M.length : Nat), .int .i64 n, .fn 102] h m (.tup []) (upd h id (some ⟨4, (A ++ V ++ M ++ U ++ Z).map entC⟩)) := by
  refine adet_of E0ok mixed Try.func190 (by kernel_rfl) rfl (by kernel_rfl) (Nat.le_of_ble_eq_true rfl) (none_put hid) fun N0 hn hmen _ => ⟨hmen.put hid (mapU _ _ _), ?_⟩
  have hidlt : id < N0 := (hmen id _ hid).1
  have e0 : swp A U M V Z 0 = A ++ U ++ M ++ V ++ Z := by simp [swp]
  have e1 : swp A U M V Z n = A ++ V ++ M ++ U ++ Z := by
    unfold swp; rw [List.take_of_length_le (by omega), List.take_of_length_le (by omega), List.drop_eq_nil_of_le (by omega), List.drop_eq_nil_of_le (by omega)]; simp
  simp only [List.length_append] at hN
  rw [← e0] at hid
  simp -implicitDefEqProofs (maxSteps := 2000000) (disch := omega) only [go_sem, condB_t, condB_f, pf0, dec_t, dec_f, and_of, ↓reduceIte, Nat.reduceEqDiff, Nat.reduceMul, Nat.reduceAdd, Nat.reduceSub, Nat.reduceLT, Nat.reduceLeDiff, Int.reduceToNat, Nat.reducePow, Int.reducePow, Int.reduceLT, Int.reduceLE, Int.reduceNeg, Int.reduceAdd, Int.reduceSub, Int.reduceMul, decide_true, decide_false, reduceCtorEq, hid]
  refine aw_loop (X := Nat) (fun i => ⟨mkS [(0, .row id N 0 N), (1, .int .i64 A.length), (2, .int .i64 (A.length + n + M.length : Nat)), (3, .int .i64 n), (10, .int .i64 i)], mkH h [(id, ⟨4, (swp A U M V Z i).map entC⟩)], N0⟩)
    (fun i => i ≤ n) (fun i => n - i) ⟨0, Nat.zero_le _, ?_⟩ ?_
  · refine Weak.head1w hid (by omega) (mapU _ _ _) (fun k0 b0 _ hb0 => hb0) (by omega) hmen ?_
    simp -implicitDefEqProofs (maxSteps := 2000000) (disch := omega) only [go_sem, condB_t, condB_f, pf0, dec_t, dec_f, and_of, ↓reduceIte, Nat.reduceEqDiff, Nat.reduceMul, Nat.reduceAdd, Nat.reduceSub, Nat.reduceLT, Nat.reduceLeDiff, Int.reduceToNat, Nat.reducePow, Int.reducePow, Int.reduceLT, Int.reduceLE, Int.reduceNeg, Int.reduceAdd, Int.reduceSub, Int.reduceMul, decide_true, decide_false, reduceCtorEq, AllP, AVle_same, AVle_int, AVle_nil, AVle_row, topU_int, topU_bool, topU_sl, topU_row, topU_ptr, topU_iptr, topU_fn, val, List.drop_length]
  · intro i hi
    have sl := swp_len (A := A) (M := M) (Z := Z) hu hv hi
    by_cases h0 : i < n
    · have g1 := swp_get1 (A := A) (M := M) (Z := Z) hu hv h0
      have g2 := swp_get2 (A := A) (M := M) (Z := Z) hu hv h0
      have g3 := swp_set (A := A) (M := M) (Z := Z) hu hv h0
      have g4 := g2
      have g5 := g3
      simp only [Nat.add_assoc] at g4 g5
      generalize U.getD i default = u at *
      generalize V.getD i default = v at *
      simp -implicitDefEqProofs (maxSteps := 2000000) (disch := omega) only [go_sem, condB_t, condB_f, pf0, dec_t, dec_f, and_of, ↓reduceIte, Nat.reduceEqDiff, Nat.reduceMul, Nat.reduceAdd, Nat.reduceSub, Nat.reduceLT, Nat.reduceLeDiff, Int.reduceToNat, Nat.reducePow, Int.reducePow, Int.reduceLT, Int.reduceLE, Int.reduceNeg, Int.reduceAdd, Int.reduceSub, Int.reduceMul, decide_true, decide_false, reduceCtorEq, g1, g2, g4]
      exact ⟨i + 1, h0, by omega, by (refine Weak.head1w (by simp -implicitDefEqProofs (maxSteps := 2000000) (disch := omega) only [go_sem, condB_t, condB_f, pf0, dec_t, dec_f, and_of, ↓reduceIte, Nat.reduceEqDiff, Nat.reduceMul, Nat.reduceAdd, Nat.reduceSub, Nat.reduceLT, Nat.reduceLeDiff, Int.reduceToNat, Nat.reducePow, Int.reducePow, Int.reduceLT, Int.reduceLE, Int.reduceNeg, Int.reduceAdd, Int.reduceSub, Int.reduceMul, decide_true, decide_false, reduceCtorEq, g1, g2, g4, g3, g5] <;> (try rfl)) (by omega) (mapU _ _ _) (fun k0 b0 hk0 hb0 => by have hk1 : (k0 = _) = False := eq_false hk0; have hk2 := (hmen k0 b0 hb0).1; (simp -implicitDefEqProofs (maxSteps := 2000000) (disch := omega) only [go_sem, condB_t, condB_f, pf0, dec_t, dec_f, and_of, ↓reduceIte, Nat.reduceEqDiff, Nat.reduceMul, Nat.reduceAdd, Nat.reduceSub, Nat.reduceLT, Nat.reduceLeDiff, Int.reduceToNat, Nat.reducePow, Int.reducePow, Int.reduceLT, Int.reduceLE, Int.reduceNeg, Int.reduceAdd, Int.reduceSub, Int.reduceMul, decide_true, decide_false, reduceCtorEq, upd, mkH, hk1]) <;> (try (repeat rw [if_neg (by omega)])) <;> exact hb0) (by omega) hmen ?_; simp -implicitDefEqProofs (maxSteps := 2000000) (disch := omega) only [go_sem, condB_t, condB_f, pf0, dec_t, dec_f, and_of, ↓reduceIte, Nat.reduceEqDiff, Nat.reduceMul, Nat.reduceAdd, Nat.reduceSub, Nat.reduceLT, Nat.reduceLeDiff, Int.reduceToNat, Nat.reducePow, Int.reducePow, Int.reduceLT, Int.reduceLE, Int.reduceNeg, Int.reduceAdd, Int.reduceSub, Int.reduceMul, decide_true, decide_false, reduceCtorEq, AllP, AVle_same, AVle_int, AVle_nil, AVle_row, topU_int, topU_bool, topU_sl, topU_row, topU_ptr, topU_iptr, topU_fn, val, List.drop_length, g1, g2, g4, g3, g5])⟩
    · obtain rfl : i = n := by omega
      rw [e1]
      simp -implicitDefEqProofs (maxSteps := 2000000) (disch := omega) only [go_sem, condB_t, condB_f, pf0, dec_t, dec_f, and_of, ↓reduceIte, Nat.reduceEqDiff, Nat.reduceMul, Nat.reduceAdd, Nat.reduceSub, Nat.reduceLT, Nat.reduceLeDiff, Int.reduceToNat, Nat.reducePow, Int.reducePow, Int.reduceLT, Int.reduceLE, Int.reduceNeg, Int.reduceAdd, Int.reduceSub, Int.reduceMul, decide_true, decide_false, reduceCtorEq]
      exact ⟨fun _ _ => rfl, .tup rfl nofun⟩
theorem rotate_spec (A U V Z : List Ent) (N : Nat) (hu : 0 < U.length) (hv : 0 < V.length) (hN : (A ++ U ++ V ++ Z).length = N) (hs : N ≤ 1099511627776) (h : Heap) (id m : Nat) (hid : h id = some ⟨4, (A ++ U ++ V ++ Z).map entC⟩) :
    ADet Try.prog 184 [.row id N 0 N, .int .i64 A.length, .int .i64 (A.length + U.length : Nat), .int .i64 (A.length + U.length + V.length : Nat), .fn 102] h m (.tup []) (upd h id (some ⟨4, (A ++ V ++ U ++ Z).map entC⟩)) := by
  refine adet_of E0ok mixed Try.func184 (by kernel_rfl) rfl (by kernel_rfl) (Nat.le_of_ble_eq_true rfl) (none_put hid) fun N0 hn hmen _ => ⟨hmen.put hid (mapU _ _ _), ?_⟩
  have hidlt : id < N0 := (hmen id _ hid).1
  have hN' : A.length + U.length + V.length + Z.length = N := by simp only [List.length_append] at hN; exact hN
  have d1 : A.length + U.length - A.length = U.length := by omega
  have d2 : A.length + U.length + V.length - (A.length + U.length) = V.length := by omega
  simp -implicitDefEqProofs (maxSteps := 2000000) (disch := omega) only [go_sem, condB_t, condB_f, pf0, dec_t, dec_f, and_of, ↓reduceIte, Nat.reduceEqDiff, Nat.reduceMul, Nat.reduceAdd, Nat.reduceSub, Nat.reduceLT, Nat.reduceLeDiff, Int.reduceToNat, Nat.reducePow, Int.reducePow, Int.reduceLT, Int.reduceLE, Int.reduceNeg, Int.reduceAdd, Int.reduceSub, Int.reduceMul, decide_true, decide_false, reduceCtorEq, hid, d1, d2]
  refine aw_loop (X := List Ent × List Ent × List Ent × List Ent) (fun x => ⟨mkS [(0, .row id N 0 N), (2, .int .i64 (A.length + U.length : Nat)), (4, .fn 102), (10, .int .i64 x.2.1.length), (11, .int .i64 x.2.2.1.length)], mkH h [(id, ⟨4, ((A ++ x.1) ++ x.2.1 ++ x.2.2.1 ++ (x.2.2.2 ++ Z)).map entC⟩)], N0⟩)
    (fun x => 0 < x.2.1.length ∧ 0 < x.2.2.1.length ∧ x.1.length + x.2.1.length = U.length ∧ x.2.2.1.length + x.2.2.2.length = V.length ∧ x.1 ++ x.2.2.1 ++ x.2.1 ++ x.2.2.2 = V ++ U) (fun x => x.2.1.length + x.2.2.1.length) ⟨([], U, V, []), ⟨hu, hv, by simp, by simp, by simp⟩, ?_⟩ ?_
  · refine Weak.head1w (by simpa using hid) (by omega) (mapU _ _ _) (fun k0 b0 _ hb0 => hb0) (by omega) hmen ?_
    simp -implicitDefEqProofs (maxSteps := 2000000) (disch := omega) only [go_sem, condB_t, condB_f, pf0, dec_t, dec_f, and_of, ↓reduceIte, Nat.reduceEqDiff, Nat.reduceMul, Nat.reduceAdd, Nat.reduceSub, Nat.reduceLT, Nat.reduceLeDiff, Int.reduceToNat, Nat.reducePow, Int.reducePow, Int.reduceLT, Int.reduceLE, Int.reduceNeg, Int.reduceAdd, Int.reduceSub, Int.reduceMul, decide_true, decide_false, reduceCtorEq, AllP, AVle_same, AVle_int, AVle_nil, AVle_row, topU_int, topU_bool, topU_sl, topU_row, topU_ptr, topU_iptr, topU_fn, val, List.drop_length]
  · rintro ⟨p, u, v, q⟩ ⟨h1, h2, h3, h4, h5⟩
    simp only at h1 h2 h3 h4 h5 ⊢
    rcases Nat.lt_trichotomy u.length v.length with g | g | g
    · obtain ⟨v1, v2, rfl, hv2⟩ : ∃ v1 v2, v = v1 ++ v2 ∧ v2.length = u.length := ⟨v.take (v.length - u.length), v.drop (v.length - u.length), (List.take_append_drop ..).symm, by rw [List.length_drop]; omega⟩
      rw [List.length_append] at g h4 h2
      have lv : (v1 ++ v2).length = v1.length + v2.length := List.length_append
      have e0 : (A ++ p) ++ u ++ (v1 ++ v2) ++ (q ++ Z) = (A ++ p) ++ u ++ v1 ++ v2 ++ (q ++ Z) := by simp
      rw [e0]
      have c := fun mm => swapRange_spec (A ++ p) u v1 v2 (q ++ Z) u.length N rfl hv2 (by simp only [List.length_append]; omega) hs (mkH h [(id, ⟨4, ((A ++ p) ++ u ++ v1 ++ v2 ++ (q ++ Z)).map entC⟩)]) id mm (by simp -implicitDefEqProofs (maxSteps := 2000000) (disch := omega) only [go_sem, condB_t, condB_f, pf0, dec_t, dec_f, and_of, ↓reduceIte, Nat.reduceEqDiff, Nat.reduceMul, Nat.reduceAdd, Nat.reduceSub, Nat.reduceLT, Nat.reduceLeDiff, Int.reduceToNat, Nat.reducePow, Int.reducePow, Int.reduceLT, Int.reduceLE, Int.reduceNeg, Int.reduceAdd, Int.reduceSub, Int.reduceMul, decide_true, decide_false, reduceCtorEq])
      simp only [List.length_append] at c
      have e1 : ((A.length + U.length : Nat) : Int) - (u.length : Int) = ((A.length + p.length : Nat) : Int) := by omega
      have e2 : ((A.length + (U.length + (v1.length + v2.length)) : Nat) : Int) - (u.length : Int) = ((A.length + p.length + u.length + v1.length : Nat) : Int) := by omega
      have e3 : ((v1.length + v2.length : Nat) : Int) - (u.length : Int) = (v1.length : Int) := by omega
      have e4 : A ++ p ++ v2 ++ v1 ++ u ++ (q ++ Z) = A ++ p ++ v2 ++ v1 ++ (u ++ q ++ Z) := by simp
      simp -implicitDefEqProofs (maxSteps := 2000000) (disch := omega) only [go_sem, condB_t, condB_f, pf0, dec_t, dec_f, and_of, ↓reduceIte, Nat.reduceEqDiff, Nat.reduceMul, Nat.reduceAdd, Nat.reduceSub, Nat.reduceLT, Nat.reduceLeDiff, Int.reduceToNat, Nat.reducePow, Int.reducePow, Int.reduceLT, Int.reduceLE, Int.reduceNeg, Int.reduceAdd, Int.reduceSub, Int.reduceMul, decide_true, decide_false, reduceCtorEq, lv, e1, e2]
      rw [show A.length + (p.length + (u.length + v1.length)) = A.length + p.length + u.length + v1.length by omega]
      refine callK_of (c _) ?_
      rw [e4]
      simp -implicitDefEqProofs (maxSteps := 2000000) (disch := omega) only [go_sem, condB_t, condB_f, pf0, dec_t, dec_f, and_of, ↓reduceIte, Nat.reduceEqDiff, Nat.reduceMul, Nat.reduceAdd, Nat.reduceSub, Nat.reduceLT, Nat.reduceLeDiff, Int.reduceToNat, Nat.reducePow, Int.reducePow, Int.reduceLT, Int.reduceLE, Int.reduceNeg, Int.reduceAdd, Int.reduceSub, Int.reduceMul, decide_true, decide_false, reduceCtorEq, e3]
      refine ⟨(p, v2, v1, u ++ q), ⟨by simp only; omega, by simp only; omega, by simp only; omega, by simp only [List.length_append]; omega, by rw [← h5]; simp⟩, by simp only; omega, ?_⟩
      simp only [hv2]
      (refine Weak.head1w (by simp -implicitDefEqProofs (maxSteps := 2000000) (disch := omega) only [go_sem, condB_t, condB_f, pf0, dec_t, dec_f, and_of, ↓reduceIte, Nat.reduceEqDiff, Nat.reduceMul, Nat.reduceAdd, Nat.reduceSub, Nat.reduceLT, Nat.reduceLeDiff, Int.reduceToNat, Nat.reducePow, Int.reducePow, Int.reduceLT, Int.reduceLE, Int.reduceNeg, Int.reduceAdd, Int.reduceSub, Int.reduceMul, decide_true, decide_false, reduceCtorEq] <;> (try rfl)) (by omega) (mapU _ _ _) (fun k0 b0 hk0 hb0 => by have hk1 : (k0 = _) = False := eq_false hk0; have hk2 := (hmen k0 b0 hb0).1; (simp -implicitDefEqProofs (maxSteps := 2000000) (disch := omega) only [go_sem, condB_t, condB_f, pf0, dec_t, dec_f, and_of, ↓reduceIte, Nat.reduceEqDiff, Nat.reduceMul, Nat.reduceAdd, Nat.reduceSub, Nat.reduceLT, Nat.reduceLeDiff, Int.reduceToNat, Nat.reducePow, Int.reducePow, Int.reduceLT, Int.reduceLE, Int.reduceNeg, Int.reduceAdd, Int.reduceSub, Int.reduceMul, decide_true, decide_false, reduceCtorEq, upd, mkH, hk1]) <;> (try (repeat rw [if_neg (by omega)])) <;> exact hb0) (by omega) hmen ?_; simp -implicitDefEqProofs (maxSteps := 2000000) (disch := omega) only [go_sem, condB_t, condB_f, pf0, dec_t, dec_f, and_of, ↓reduceIte, Nat.reduceEqDiff, Nat.reduceMul, Nat.reduceAdd, Nat.reduceSub, Nat.reduceLT, Nat.reduceLeDiff, Int.reduceToNat, Nat.reducePow, Int.reducePow, Int.reduceLT, Int.reduceLE, Int.reduceNeg, Int.reduceAdd, Int.reduceSub, Int.reduceMul, decide_true, decide_false, reduceCtorEq, AllP, AVle_same, AVle_int, AVle_nil, AVle_row, topU_int, topU_bool, topU_sl, topU_row, topU_ptr, topU_iptr, topU_fn, val, List.drop_length])
    · have c := fun mm => swapRange_spec (A ++ p) u [] v (q ++ Z) u.length N rfl g.symm (by simp only [List.length_append, List.length_nil]; omega) hs (mkH h [(id, ⟨4, ((A ++ p) ++ u ++ v ++ (q ++ Z)).map entC⟩)]) id mm (by rw [List.append_nil]; simp -implicitDefEqProofs (maxSteps := 2000000) (disch := omega) only [go_sem, condB_t, condB_f, pf0, dec_t, dec_f, and_of, ↓reduceIte, Nat.reduceEqDiff, Nat.reduceMul, Nat.reduceAdd, Nat.reduceSub, Nat.reduceLT, Nat.reduceLeDiff, Int.reduceToNat, Nat.reducePow, Int.reducePow, Int.reduceLT, Int.reduceLE, Int.reduceNeg, Int.reduceAdd, Int.reduceSub, Int.reduceMul, decide_true, decide_false, reduceCtorEq])
      simp only [List.length_append, List.length_nil, List.append_nil, Nat.add_zero] at c
      have e1 : ((A.length + U.length : Nat) : Int) - (u.length : Int) = ((A.length + p.length : Nat) : Int) := by omega
      have e2 : A.length + p.length + u.length = A.length + U.length := by omega
      have e4 : A ++ p ++ v ++ u ++ (q ++ Z) = A ++ V ++ U ++ Z := by
        have : p ++ (v ++ (u ++ (q ++ Z))) = (p ++ v ++ u ++ q) ++ Z := by simp
        simp only [List.append_assoc]
        rw [this, h5]; simp
      rw [e2, e4] at c
      rw [← g]
      simp -implicitDefEqProofs (maxSteps := 2000000) (disch := omega) only [go_sem, condB_t, condB_f, pf0, dec_t, dec_f, and_of, ↓reduceIte, Nat.reduceEqDiff, Nat.reduceMul, Nat.reduceAdd, Nat.reduceSub, Nat.reduceLT, Nat.reduceLeDiff, Int.reduceToNat, Nat.reducePow, Int.reducePow, Int.reduceLT, Int.reduceLE, Int.reduceNeg, Int.reduceAdd, Int.reduceSub, Int.reduceMul, decide_true, decide_false, reduceCtorEq, e1]
      refine callK_of (c _) ?_
      simp -implicitDefEqProofs (maxSteps := 2000000) (disch := omega) only [go_sem, condB_t, condB_f, pf0, dec_t, dec_f, and_of, ↓reduceIte, Nat.reduceEqDiff, Nat.reduceMul, Nat.reduceAdd, Nat.reduceSub, Nat.reduceLT, Nat.reduceLeDiff, Int.reduceToNat, Nat.reducePow, Int.reducePow, Int.reduceLT, Int.reduceLE, Int.reduceNeg, Int.reduceAdd, Int.reduceSub, Int.reduceMul, decide_true, decide_false, reduceCtorEq]
      exact .tup rfl nofun
    · obtain ⟨u1, u2, rfl, hu1⟩ : ∃ u1 u2, u = u1 ++ u2 ∧ u1.length = v.length := ⟨u.take v.length, u.drop v.length, (List.take_append_drop ..).symm, by rw [List.length_take]; omega⟩
      rw [List.length_append] at g h3 h1
      have lu : (u1 ++ u2).length = u1.length + u2.length := List.length_append
      have e0 : (A ++ p) ++ (u1 ++ u2) ++ v ++ (q ++ Z) = (A ++ p) ++ u1 ++ u2 ++ v ++ (q ++ Z) := by simp
      rw [e0]
      have c := fun mm => swapRange_spec (A ++ p) u1 u2 v (q ++ Z) v.length N hu1 rfl (by simp only [List.length_append]; omega) hs (mkH h [(id, ⟨4, ((A ++ p) ++ u1 ++ u2 ++ v ++ (q ++ Z)).map entC⟩)]) id mm (by simp -implicitDefEqProofs (maxSteps := 2000000) (disch := omega) only [go_sem, condB_t, condB_f, pf0, dec_t, dec_f, and_of, ↓reduceIte, Nat.reduceEqDiff, Nat.reduceMul, Nat.reduceAdd, Nat.reduceSub, Nat.reduceLT, Nat.reduceLeDiff, Int.reduceToNat, Nat.reducePow, Int.reducePow, Int.reduceLT, Int.reduceLE, Int.reduceNeg, Int.reduceAdd, Int.reduceSub, Int.reduceMul, decide_true, decide_false, reduceCtorEq])
      simp only [List.length_append] at c
      have e1 : ((A.length + U.length : Nat) : Int) - ((u1.length + u2.length : Nat) : Int) = ((A.length + p.length : Nat) : Int) := by omega
      have e2 : A.length + p.length + v.length + u2.length = A.length + U.length := by omega
      have e3 : ((u1.length + u2.length : Nat) : Int) - (v.length : Int) = (u2.length : Int) := by omega
      have e4 : A ++ p ++ v ++ u2 ++ u1 ++ (q ++ Z) = A ++ (p ++ v) ++ u2 ++ u1 ++ (q ++ Z) := by simp
      rw [e2] at c
      simp -implicitDefEqProofs (maxSteps := 2000000) (disch := omega) only [go_sem, condB_t, condB_f, pf0, dec_t, dec_f, and_of, ↓reduceIte, Nat.reduceEqDiff, Nat.reduceMul, Nat.reduceAdd, Nat.reduceSub, Nat.reduceLT, Nat.reduceLeDiff, Int.reduceToNat, Nat.reducePow, Int.reducePow, Int.reduceLT, Int.reduceLE, Int.reduceNeg, Int.reduceAdd, Int.reduceSub, Int.reduceMul, decide_true, decide_false, reduceCtorEq, lu, e1]
      refine callK_of (c _) ?_
      rw [e4]
      simp -implicitDefEqProofs (maxSteps := 2000000) (disch := omega) only [go_sem, condB_t, condB_f, pf0, dec_t, dec_f, and_of, ↓reduceIte, Nat.reduceEqDiff, Nat.reduceMul, Nat.reduceAdd, Nat.reduceSub, Nat.reduceLT, Nat.reduceLeDiff, Int.reduceToNat, Nat.reducePow, Int.reducePow, Int.reduceLT, Int.reduceLE, Int.reduceNeg, Int.reduceAdd, Int.reduceSub, Int.reduceMul, decide_true, decide_false, reduceCtorEq, e3]
      refine ⟨(p ++ v, u2, u1, q), ⟨by simp only; omega, by simp only; omega, by simp only [List.length_append]; omega, by simp only; omega, by rw [← h5]; simp⟩, by simp only; omega, ?_⟩
      simp only [hu1]
      (refine Weak.head1w (by simp -implicitDefEqProofs (maxSteps := 2000000) (disch := omega) only [go_sem, condB_t, condB_f, pf0, dec_t, dec_f, and_of, ↓reduceIte, Nat.reduceEqDiff, Nat.reduceMul, Nat.reduceAdd, Nat.reduceSub, Nat.reduceLT, Nat.reduceLeDiff, Int.reduceToNat, Nat.reducePow, Int.reducePow, Int.reduceLT, Int.reduceLE, Int.reduceNeg, Int.reduceAdd, Int.reduceSub, Int.reduceMul, decide_true, decide_false, reduceCtorEq] <;> (try rfl)) (by omega) (mapU _ _ _) (fun k0 b0 hk0 hb0 => by have hk1 : (k0 = _) = False := eq_false hk0; have hk2 := (hmen k0 b0 hb0).1; (simp -implicitDefEqProofs (maxSteps := 2000000) (disch := omega) only [go_sem, condB_t, condB_f, pf0, dec_t, dec_f, and_of, ↓reduceIte, Nat.reduceEqDiff, Nat.reduceMul, Nat.reduceAdd, Nat.reduceSub, Nat.reduceLT, Nat.reduceLeDiff, Int.reduceToNat, Nat.reducePow, Int.reducePow, Int.reduceLT, Int.reduceLE, Int.reduceNeg, Int.reduceAdd, Int.reduceSub, Int.reduceMul, decide_true, decide_false, reduceCtorEq, upd, mkH, hk1]) <;> (try (repeat rw [if_neg (by omega)])) <;> exact hb0) (by omega) hmen ?_; simp -implicitDefEqProofs (maxSteps := 2000000) (disch := omega) only [go_sem, condB_t, condB_f, pf0, dec_t, dec_f, and_of, ↓reduceIte, Nat.reduceEqDiff, Nat.reduceMul, Nat.reduceAdd, Nat.reduceSub, Nat.reduceLT, Nat.reduceLeDiff, Int.reduceToNat, Nat.reducePow, Int.reducePow, Int.reduceLT, Int.reduceLE, Int.reduceNeg, Int.reduceAdd, Int.reduceSub, Int.reduceMul, decide_true, decide_false, reduceCtorEq, AllP, AVle_same, AVle_int, AVle_nil, AVle_row, topU_int, topU_bool, topU_sl, topU_row, topU_ptr, topU_iptr, topU_fn, val, List.drop_length])
end Go.Abs
/-! YtbSrt2: Stable sorting: merging. No condition. -/
set_option linter.unusedVariables false
set_option linter.unusedSimpArgs false
set_option maxRecDepth 100000
set_option maxHeartbeats 1000000
namespace Go.Abs
open Go.Proofs
@[go_sem] theorem R164 : Try.f164.results.toList = [] := rfl
set_option maxHeartbeats 8000000
theorem symMerge_spec : ∀ (n : Nat) (A X Y Z : List Ent) (N : Nat), X.length + Y.length = n → 0 < X.length → 0 < Y.length → SortE X → SortE Y → (A ++ X ++ Y ++ Z).length = N → N ≤ 1099511627776 → ∀ (h : Heap) (id m : Nat), h id = some ⟨4, (A ++ X ++ Y ++ Z).map entC⟩ →
    ADet Try.prog 164 [.row id N 0 N, .int .i64 A.length, .int .i64 (A.length + X.length : Nat), .int .i64 (A.length + X.length + Y.length : Nat), .fn 102] h m (.tup []) (upd h id (some ⟨4, (A ++ isort (X ++ Y) ++ Z).map entC⟩)) := by
  intro n
  induction n using Nat.strongRecOn with
  | _ n ih =>
  intro A X Y Z N hXY hx0 hy0 hX hY hN hs h id m hid
  refine adet_of E0ok mixed Try.func164 (by kernel_rfl) rfl (by kernel_rfl) (Nat.le_of_ble_eq_true rfl) (none_put hid) fun N0 hn hmen _ => ⟨hmen.put hid (mapU _ _ _), ?_⟩
  have hidlt : id < N0 := (hmen id _ hid).1
  have hN' : A.length + X.length + Y.length + Z.length = N := by simp only [List.length_append] at hN; exact hN
  have d1 : ((A.length + X.length : Nat) : Int) - (A.length : Int) = (X.length : Int) := by omega
  have d2 : ((A.length + X.length + Y.length : Nat) : Int) - ((A.length + X.length : Nat) : Int) = (Y.length : Int) := by omega
  by_cases hc1 : X.length = 1
  · obtain ⟨x, rfl⟩ : ∃ x, X = [x] := List.length_eq_one_iff.1 hc1
    have e0 : A ++ [x] ++ Y ++ Z = mid A Y x 0 Z := by simp [mid]
    rw [e0] at hid
    simp only [List.length_cons, List.length_nil, Nat.zero_add] at d1 d2 hN' ⊢
    simp -implicitDefEqProofs (maxSteps := 2000000) (disch := omega) only [go_sem, condB_t, condB_f, pf0, dec_t, dec_f, and_of, ↓reduceIte, Nat.reduceEqDiff, Nat.reduceMul, Nat.reduceAdd, Nat.reduceSub, Nat.reduceLT, Nat.reduceLeDiff, Int.reduceToNat, Nat.reducePow, Int.reducePow, Int.reduceLT, Int.reduceLE, Int.reduceNeg, Int.reduceAdd, Int.reduceSub, Int.reduceMul, decide_true, decide_false, reduceCtorEq, hid, d1]
    refine aw_loop (X := Nat × Nat) (fun x' => ⟨mkS [(0, .row id N 0 N), (1, .int .i64 A.length), (4, .fn 102), (10, .int .i64 (A.length + 1 + x'.1 : Nat)), (11, .int .i64 (A.length + 1 + x'.2 : Nat))], mkH h [(id, ⟨4, (mid A Y x 0 Z).map entC⟩)], N0⟩)
      (fun x' => x'.1 ≤ x'.2 ∧ x'.2 ≤ Y.length ∧ (∀ y ∈ Y.take x'.1, y.1 < x.1) ∧ ∀ y ∈ Y.drop x'.2, x.1 ≤ y.1) (fun x' => x'.2 - x'.1) ⟨(0, Y.length), ⟨Nat.zero_le _, Nat.le_refl _, nofun, by rw [List.drop_length]; exact nofun⟩, ?_⟩ ?_
    · refine Weak.head1w hid (by omega) (mapU _ _ _) (fun k0 b0 _ hb0 => hb0) (by omega) hmen ?_
      simp -implicitDefEqProofs (maxSteps := 2000000) (disch := omega) only [go_sem, condB_t, condB_f, pf0, dec_t, dec_f, and_of, ↓reduceIte, Nat.reduceEqDiff, Nat.reduceMul, Nat.reduceAdd, Nat.reduceSub, Nat.reduceLT, Nat.reduceLeDiff, Int.reduceToNat, Nat.reducePow, Int.reducePow, Int.reduceLT, Int.reduceLE, Int.reduceNeg, Int.reduceAdd, Int.reduceSub, Int.reduceMul, decide_true, decide_false, reduceCtorEq, AllP, AVle_same, AVle_int, AVle_nil, AVle_row, topU_int, topU_bool, topU_sl, topU_row, topU_ptr, topU_iptr, topU_fn, val, List.drop_length]
    · rintro ⟨i, j⟩ ⟨h1, h2, h3, h4⟩
      simp only at h1 h2 h3 h4 ⊢
      by_cases hij : i < j
      · have ml := mid_len A Y x 0 Z
        obtain ⟨p, hp, hp1, hp2⟩ : ∃ p, (A.length + (1 + (i + (A.length + (1 + j))))) / 2 = A.length + (p + 1) ∧ i ≤ p ∧ p < j := ⟨(i + j) / 2, by omega, by omega, by omega⟩
        have g1 := mid_get0 (A := A) (T := Y) (e := x) (p := p) (R := Z) (by omega)
        have g2 := mid_get (A := A) (T := Y) (e := x) (j := 0) (R := Z) (by omega)
        rw [Nat.add_zero] at g2
        have c := sortedLt_spec (Y.getD p default) x
        unfold entC at c
        simp -implicitDefEqProofs (maxSteps := 2000000) (disch := omega) only [go_sem, condB_t, condB_f, pf0, dec_t, dec_f, and_of, ↓reduceIte, Nat.reduceEqDiff, Nat.reduceMul, Nat.reduceAdd, Nat.reduceSub, Nat.reduceLT, Nat.reduceLeDiff, Int.reduceToNat, Nat.reducePow, Int.reducePow, Int.reduceLT, Int.reduceLE, Int.reduceNeg, Int.reduceAdd, Int.reduceSub, Int.reduceMul, decide_true, decide_false, reduceCtorEq, hp, g1, g2]
        refine pcallK_pure c ?_
        unfold cmpI
        by_cases hlt : (Y.getD p default).1 < x.1
        · rw [if_pos hlt]
          simp -implicitDefEqProofs (maxSteps := 2000000) (disch := omega) only [go_sem, condB_t, condB_f, pf0, dec_t, dec_f, and_of, ↓reduceIte, Nat.reduceEqDiff, Nat.reduceMul, Nat.reduceAdd, Nat.reduceSub, Nat.reduceLT, Nat.reduceLeDiff, Int.reduceToNat, Nat.reducePow, Int.reducePow, Int.reduceLT, Int.reduceLE, Int.reduceNeg, Int.reduceAdd, Int.reduceSub, Int.reduceMul, decide_true, decide_false, reduceCtorEq]
          exact ⟨(p + 1, j), ⟨hp2, h2, take_lt_all hY (by omega) hlt, h4⟩, by simp only; omega, by (refine Weak.head1w (by simp -implicitDefEqProofs (maxSteps := 2000000) (disch := omega) only [go_sem, condB_t, condB_f, pf0, dec_t, dec_f, and_of, ↓reduceIte, Nat.reduceEqDiff, Nat.reduceMul, Nat.reduceAdd, Nat.reduceSub, Nat.reduceLT, Nat.reduceLeDiff, Int.reduceToNat, Nat.reducePow, Int.reducePow, Int.reduceLT, Int.reduceLE, Int.reduceNeg, Int.reduceAdd, Int.reduceSub, Int.reduceMul, decide_true, decide_false, reduceCtorEq] <;> (try rfl)) (by omega) (mapU _ _ _) (fun k0 b0 hk0 hb0 => by have hk1 : (k0 = _) = False := eq_false hk0; have hk2 := (hmen k0 b0 hb0).1; (simp -implicitDefEqProofs (maxSteps := 2000000) (disch := omega) only [go_sem, condB_t, condB_f, pf0, dec_t, dec_f, and_of, ↓reduceIte, Nat.reduceEqDiff, Nat.reduceMul, Nat.reduceAdd, Nat.reduceSub, Nat.reduceLT, Nat.reduceLeDiff, Int.reduceToNat, Nat.reducePow, Int.reducePow, Int.reduceLT, Int.reduceLE, Int.reduceNeg, Int.reduceAdd, Int.reduceSub, Int.reduceMul, decide_true, decide_false, reduceCtorEq, upd, mkH, hk1]) <;> (try (repeat rw [if_neg (by omega)])) <;> exact hb0) (by omega) hmen ?_; simp -implicitDefEqProofs (maxSteps := 2000000) (disch := omega) only [go_sem, condB_t, condB_f, pf0, dec_t, dec_f, and_of, ↓reduceIte, Nat.reduceEqDiff, Nat.reduceMul, Nat.reduceAdd, Nat.reduceSub, Nat.reduceLT, Nat.reduceLeDiff, Int.reduceToNat, Nat.reducePow, Int.reducePow, Int.reduceLT, Int.reduceLE, Int.reduceNeg, Int.reduceAdd, Int.reduceSub, Int.reduceMul, decide_true, decide_false, reduceCtorEq, AllP, AVle_same, AVle_int, AVle_nil, AVle_row, topU_int, topU_bool, topU_sl, topU_row, topU_ptr, topU_iptr, topU_fn, val, List.drop_length])⟩
        · rw [if_neg hlt]
          have h5 := drop_ge_all hY (p := p) (v := x.1) (by omega) (by omega)
          by_cases heq : (Y.getD p default).1 = x.1
          · rw [if_pos heq]
            simp -implicitDefEqProofs (maxSteps := 2000000) (disch := omega) only [go_sem, condB_t, condB_f, pf0, dec_t, dec_f, and_of, ↓reduceIte, Nat.reduceEqDiff, Nat.reduceMul, Nat.reduceAdd, Nat.reduceSub, Nat.reduceLT, Nat.reduceLeDiff, Int.reduceToNat, Nat.reducePow, Int.reducePow, Int.reduceLT, Int.reduceLE, Int.reduceNeg, Int.reduceAdd, Int.reduceSub, Int.reduceMul, decide_true, decide_false, reduceCtorEq]
            exact ⟨(i, p), ⟨hp1, by simp only; omega, h3, h5⟩, by simp only; omega, by (refine Weak.head1w (by simp -implicitDefEqProofs (maxSteps := 2000000) (disch := omega) only [go_sem, condB_t, condB_f, pf0, dec_t, dec_f, and_of, ↓reduceIte, Nat.reduceEqDiff, Nat.reduceMul, Nat.reduceAdd, Nat.reduceSub, Nat.reduceLT, Nat.reduceLeDiff, Int.reduceToNat, Nat.reducePow, Int.reducePow, Int.reduceLT, Int.reduceLE, Int.reduceNeg, Int.reduceAdd, Int.reduceSub, Int.reduceMul, decide_true, decide_false, reduceCtorEq] <;> (try rfl)) (by omega) (mapU _ _ _) (fun k0 b0 hk0 hb0 => by have hk1 : (k0 = _) = False := eq_false hk0; have hk2 := (hmen k0 b0 hb0).1; (simp -implicitDefEqProofs (maxSteps := 2000000) (disch := omega) only [go_sem, condB_t, condB_f, pf0, dec_t, dec_f, and_of, ↓reduceIte, Nat.reduceEqDiff, Nat.reduceMul, Nat.reduceAdd, Nat.reduceSub, Nat.reduceLT, Nat.reduceLeDiff, Int.reduceToNat, Nat.reducePow, Int.reducePow, Int.reduceLT, Int.reduceLE, Int.reduceNeg, Int.reduceAdd, Int.reduceSub, Int.reduceMul, decide_true, decide_false, reduceCtorEq, upd, mkH, hk1]) <;> (try (repeat rw [if_neg (by omega)])) <;> exact hb0) (by omega) hmen ?_; simp -implicitDefEqProofs (maxSteps := 2000000) (disch := omega) only [go_sem, condB_t, condB_f, pf0, dec_t, dec_f, and_of, ↓reduceIte, Nat.reduceEqDiff, Nat.reduceMul, Nat.reduceAdd, Nat.reduceSub, Nat.reduceLT, Nat.reduceLeDiff, Int.reduceToNat, Nat.reducePow, Int.reducePow, Int.reduceLT, Int.reduceLE, Int.reduceNeg, Int.reduceAdd, Int.reduceSub, Int.reduceMul, decide_true, decide_false, reduceCtorEq, AllP, AVle_same, AVle_int, AVle_nil, AVle_row, topU_int, topU_bool, topU_sl, topU_row, topU_ptr, topU_iptr, topU_fn, val, List.drop_length])⟩
          · rw [if_neg heq]
            simp -implicitDefEqProofs (maxSteps := 2000000) (disch := omega) only [go_sem, condB_t, condB_f, pf0, dec_t, dec_f, and_of, ↓reduceIte, Nat.reduceEqDiff, Nat.reduceMul, Nat.reduceAdd, Nat.reduceSub, Nat.reduceLT, Nat.reduceLeDiff, Int.reduceToNat, Nat.reducePow, Int.reducePow, Int.reduceLT, Int.reduceLE, Int.reduceNeg, Int.reduceAdd, Int.reduceSub, Int.reduceMul, decide_true, decide_false, reduceCtorEq]
            exact ⟨(i, p), ⟨hp1, by simp only; omega, h3, h5⟩, by simp only; omega, by (refine Weak.head1w (by simp -implicitDefEqProofs (maxSteps := 2000000) (disch := omega) only [go_sem, condB_t, condB_f, pf0, dec_t, dec_f, and_of, ↓reduceIte, Nat.reduceEqDiff, Nat.reduceMul, Nat.reduceAdd, Nat.reduceSub, Nat.reduceLT, Nat.reduceLeDiff, Int.reduceToNat, Nat.reducePow, Int.reducePow, Int.reduceLT, Int.reduceLE, Int.reduceNeg, Int.reduceAdd, Int.reduceSub, Int.reduceMul, decide_true, decide_false, reduceCtorEq] <;> (try rfl)) (by omega) (mapU _ _ _) (fun k0 b0 hk0 hb0 => by have hk1 : (k0 = _) = False := eq_false hk0; have hk2 := (hmen k0 b0 hb0).1; (simp -implicitDefEqProofs (maxSteps := 2000000) (disch := omega) only [go_sem, condB_t, condB_f, pf0, dec_t, dec_f, and_of, ↓reduceIte, Nat.reduceEqDiff, Nat.reduceMul, Nat.reduceAdd, Nat.reduceSub, Nat.reduceLT, Nat.reduceLeDiff, Int.reduceToNat, Nat.reducePow, Int.reducePow, Int.reduceLT, Int.reduceLE, Int.reduceNeg, Int.reduceAdd, Int.reduceSub, Int.reduceMul, decide_true, decide_false, reduceCtorEq, upd, mkH, hk1]) <;> (try (repeat rw [if_neg (by omega)])) <;> exact hb0) (by omega) hmen ?_; simp -implicitDefEqProofs (maxSteps := 2000000) (disch := omega) only [go_sem, condB_t, condB_f, pf0, dec_t, dec_f, and_of, ↓reduceIte, Nat.reduceEqDiff, Nat.reduceMul, Nat.reduceAdd, Nat.reduceSub, Nat.reduceLT, Nat.reduceLeDiff, Int.reduceToNat, Nat.reducePow, Int.reducePow, Int.reduceLT, Int.reduceLE, Int.reduceNeg, Int.reduceAdd, Int.reduceSub, Int.reduceMul, decide_true, decide_false, reduceCtorEq, AllP, AVle_same, AVle_int, AVle_nil, AVle_row, topU_int, topU_bool, topU_sl, topU_row, topU_ptr, topU_iptr, topU_fn, val, List.drop_length])⟩
      · obtain rfl : i = j := by omega
        have e9 := isort_left (x := x) hY h3 h4
        simp -implicitDefEqProofs (maxSteps := 2000000) (disch := omega) only [go_sem, condB_t, condB_f, pf0, dec_t, dec_f, and_of, ↓reduceIte, Nat.reduceEqDiff, Nat.reduceMul, Nat.reduceAdd, Nat.reduceSub, Nat.reduceLT, Nat.reduceLeDiff, Int.reduceToNat, Nat.reducePow, Int.reducePow, Int.reduceLT, Int.reduceLE, Int.reduceNeg, Int.reduceAdd, Int.reduceSub, Int.reduceMul, decide_true, decide_false, reduceCtorEq]
        refine aw_loop (X := Nat) (fun q => ⟨mkS [(0, .row id N 0 N), (10, .int .i64 (A.length + 1 + i : Nat)), (13, .int .i64 (A.length + q : Nat))], mkH h [(id, ⟨4, (mid A Y x q Z).map entC⟩)], N0⟩)
          (fun q => q ≤ i) (fun q => i - q) ⟨0, Nat.zero_le _, ?_⟩ ?_
        · (refine Weak.head1w (by simp -implicitDefEqProofs (maxSteps := 2000000) (disch := omega) only [go_sem, condB_t, condB_f, pf0, dec_t, dec_f, and_of, ↓reduceIte, Nat.reduceEqDiff, Nat.reduceMul, Nat.reduceAdd, Nat.reduceSub, Nat.reduceLT, Nat.reduceLeDiff, Int.reduceToNat, Nat.reducePow, Int.reducePow, Int.reduceLT, Int.reduceLE, Int.reduceNeg, Int.reduceAdd, Int.reduceSub, Int.reduceMul, decide_true, decide_false, reduceCtorEq] <;> (try rfl)) (by omega) (mapU _ _ _) (fun k0 b0 hk0 hb0 => by have hk1 : (k0 = _) = False := eq_false hk0; have hk2 := (hmen k0 b0 hb0).1; (simp -implicitDefEqProofs (maxSteps := 2000000) (disch := omega) only [go_sem, condB_t, condB_f, pf0, dec_t, dec_f, and_of, ↓reduceIte, Nat.reduceEqDiff, Nat.reduceMul, Nat.reduceAdd, Nat.reduceSub, Nat.reduceLT, Nat.reduceLeDiff, Int.reduceToNat, Nat.reducePow, Int.reducePow, Int.reduceLT, Int.reduceLE, Int.reduceNeg, Int.reduceAdd, Int.reduceSub, Int.reduceMul, decide_true, decide_false, reduceCtorEq, upd, mkH, hk1]) <;> (try (repeat rw [if_neg (by omega)])) <;> exact hb0) (by omega) hmen ?_; simp -implicitDefEqProofs (maxSteps := 2000000) (disch := omega) only [go_sem, condB_t, condB_f, pf0, dec_t, dec_f, and_of, ↓reduceIte, Nat.reduceEqDiff, Nat.reduceMul, Nat.reduceAdd, Nat.reduceSub, Nat.reduceLT, Nat.reduceLeDiff, Int.reduceToNat, Nat.reducePow, Int.reducePow, Int.reduceLT, Int.reduceLE, Int.reduceNeg, Int.reduceAdd, Int.reduceSub, Int.reduceMul, decide_true, decide_false, reduceCtorEq, AllP, AVle_same, AVle_int, AVle_nil, AVle_row, topU_int, topU_bool, topU_sl, topU_row, topU_ptr, topU_iptr, topU_fn, val, List.drop_length])
        · intro q hq
          have ml := mid_len A Y x q Z
          by_cases h0 : q < i
          · have g1 := mid_get (A := A) (T := Y) (e := x) (j := q) (R := Z) (by omega)
            have g2 := mid_getR (A := A) (T := Y) (e := x) (j := q) (R := Z) (by omega)
            have g3 := mid_swapR (A := A) (T := Y) (e := x) (j := q) (R := Z) (by omega)
            simp -implicitDefEqProofs (maxSteps := 2000000) (disch := omega) only [go_sem, condB_t, condB_f, pf0, dec_t, dec_f, and_of, ↓reduceIte, Nat.reduceEqDiff, Nat.reduceMul, Nat.reduceAdd, Nat.reduceSub, Nat.reduceLT, Nat.reduceLeDiff, Int.reduceToNat, Nat.reducePow, Int.reducePow, Int.reduceLT, Int.reduceLE, Int.reduceNeg, Int.reduceAdd, Int.reduceSub, Int.reduceMul, decide_true, decide_false, reduceCtorEq, g1, g2]
            exact ⟨q + 1, h0, by omega, by (refine Weak.head1w (by simp -implicitDefEqProofs (maxSteps := 2000000) (disch := omega) only [go_sem, condB_t, condB_f, pf0, dec_t, dec_f, and_of, ↓reduceIte, Nat.reduceEqDiff, Nat.reduceMul, Nat.reduceAdd, Nat.reduceSub, Nat.reduceLT, Nat.reduceLeDiff, Int.reduceToNat, Nat.reducePow, Int.reducePow, Int.reduceLT, Int.reduceLE, Int.reduceNeg, Int.reduceAdd, Int.reduceSub, Int.reduceMul, decide_true, decide_false, reduceCtorEq, g1, g2, g3] <;> (try rfl)) (by omega) (mapU _ _ _) (fun k0 b0 hk0 hb0 => by have hk1 : (k0 = _) = False := eq_false hk0; have hk2 := (hmen k0 b0 hb0).1; (simp -implicitDefEqProofs (maxSteps := 2000000) (disch := omega) only [go_sem, condB_t, condB_f, pf0, dec_t, dec_f, and_of, ↓reduceIte, Nat.reduceEqDiff, Nat.reduceMul, Nat.reduceAdd, Nat.reduceSub, Nat.reduceLT, Nat.reduceLeDiff, Int.reduceToNat, Nat.reducePow, Int.reducePow, Int.reduceLT, Int.reduceLE, Int.reduceNeg, Int.reduceAdd, Int.reduceSub, Int.reduceMul, decide_true, decide_false, reduceCtorEq, upd, mkH, hk1]) <;> (try (repeat rw [if_neg (by omega)])) <;> exact hb0) (by omega) hmen ?_; simp -implicitDefEqProofs (maxSteps := 2000000) (disch := omega) only [go_sem, condB_t, condB_f, pf0, dec_t, dec_f, and_of, ↓reduceIte, Nat.reduceEqDiff, Nat.reduceMul, Nat.reduceAdd, Nat.reduceSub, Nat.reduceLT, Nat.reduceLeDiff, Int.reduceToNat, Nat.reducePow, Int.reducePow, Int.reduceLT, Int.reduceLE, Int.reduceNeg, Int.reduceAdd, Int.reduceSub, Int.reduceMul, decide_true, decide_false, reduceCtorEq, AllP, AVle_same, AVle_int, AVle_nil, AVle_row, topU_int, topU_bool, topU_sl, topU_row, topU_ptr, topU_iptr, topU_fn, val, List.drop_length, g1, g2, g3])⟩
          · obtain rfl : q = i := by omega
            have e1 : mid A Y x q Z = A ++ isort ([x] ++ Y) ++ Z := by rw [e9]; rfl
            rw [e1]
            simp -implicitDefEqProofs (maxSteps := 2000000) (disch := omega) only [go_sem, condB_t, condB_f, pf0, dec_t, dec_f, and_of, ↓reduceIte, Nat.reduceEqDiff, Nat.reduceMul, Nat.reduceAdd, Nat.reduceSub, Nat.reduceLT, Nat.reduceLeDiff, Int.reduceToNat, Nat.reducePow, Int.reducePow, Int.reduceLT, Int.reduceLE, Int.reduceNeg, Int.reduceAdd, Int.reduceSub, Int.reduceMul, decide_true, decide_false, reduceCtorEq]
            exact ⟨fun _ _ => rfl, .tup rfl nofun⟩
  by_cases hc2 : Y.length = 1
  · obtain ⟨y, rfl⟩ : ∃ y, Y = [y] := List.length_eq_one_iff.1 hc2
    have e0 : A ++ X ++ [y] ++ Z = mid A X y X.length Z := by simp [mid]
    rw [e0] at hid
    simp only [List.length_cons, List.length_nil, Nat.zero_add] at d1 d2 hN' ⊢
    simp -implicitDefEqProofs (maxSteps := 2000000) (disch := omega) only [go_sem, condB_t, condB_f, pf0, dec_t, dec_f, and_of, ↓reduceIte, Nat.reduceEqDiff, Nat.reduceMul, Nat.reduceAdd, Nat.reduceSub, Nat.reduceLT, Nat.reduceLeDiff, Int.reduceToNat, Nat.reducePow, Int.reducePow, Int.reduceLT, Int.reduceLE, Int.reduceNeg, Int.reduceAdd, Int.reduceSub, Int.reduceMul, decide_true, decide_false, reduceCtorEq, hid, d1, d2]
    refine aw_loop (X := Nat × Nat) (fun x' => ⟨mkS [(0, .row id N 0 N), (2, .int .i64 (A.length + X.length : Nat)), (4, .fn 102), (14, .int .i64 (A.length + x'.1 : Nat)), (15, .int .i64 (A.length + x'.2 : Nat))], mkH h [(id, ⟨4, (mid A X y X.length Z).map entC⟩)], N0⟩)
      (fun x' => x'.1 ≤ x'.2 ∧ x'.2 ≤ X.length ∧ (∀ x ∈ X.take x'.1, x.1 ≤ y.1) ∧ ∀ x ∈ X.drop x'.2, y.1 < x.1) (fun x' => x'.2 - x'.1) ⟨(0, X.length), ⟨Nat.zero_le _, Nat.le_refl _, nofun, by rw [List.drop_length]; exact nofun⟩, ?_⟩ ?_
    · refine Weak.head1w hid (by omega) (mapU _ _ _) (fun k0 b0 _ hb0 => hb0) (by omega) hmen ?_
      simp -implicitDefEqProofs (maxSteps := 2000000) (disch := omega) only [go_sem, condB_t, condB_f, pf0, dec_t, dec_f, and_of, ↓reduceIte, Nat.reduceEqDiff, Nat.reduceMul, Nat.reduceAdd, Nat.reduceSub, Nat.reduceLT, Nat.reduceLeDiff, Int.reduceToNat, Nat.reducePow, Int.reducePow, Int.reduceLT, Int.reduceLE, Int.reduceNeg, Int.reduceAdd, Int.reduceSub, Int.reduceMul, decide_true, decide_false, reduceCtorEq, AllP, AVle_same, AVle_int, AVle_nil, AVle_row, topU_int, topU_bool, topU_sl, topU_row, topU_ptr, topU_iptr, topU_fn, val, List.drop_length]
    · rintro ⟨i, j⟩ ⟨h1, h2, h3, h4⟩
      simp only at h1 h2 h3 h4 ⊢
      by_cases hij : i < j
      · have ml := mid_len A X y X.length Z
        obtain ⟨p, hp, hp1, hp2⟩ : ∃ p, (A.length + (i + (A.length + j))) / 2 = A.length + p ∧ i ≤ p ∧ p < j := ⟨(i + j) / 2, by omega, by omega, by omega⟩
        have g1 := mid_getL (A := A) (T := X) (e := y) (j := X.length) (p := p) (R := Z) (by omega) (by omega)
        have g2 := mid_get (A := A) (T := X) (e := y) (j := X.length) (R := Z) (by omega)
        have c := sortedLt_spec y (X.getD p default)
        unfold entC at c
        simp -implicitDefEqProofs (maxSteps := 2000000) (disch := omega) only [go_sem, condB_t, condB_f, pf0, dec_t, dec_f, and_of, ↓reduceIte, Nat.reduceEqDiff, Nat.reduceMul, Nat.reduceAdd, Nat.reduceSub, Nat.reduceLT, Nat.reduceLeDiff, Int.reduceToNat, Nat.reducePow, Int.reducePow, Int.reduceLT, Int.reduceLE, Int.reduceNeg, Int.reduceAdd, Int.reduceSub, Int.reduceMul, decide_true, decide_false, reduceCtorEq, hp, g1, g2]
        refine pcallK_pure c ?_
        unfold cmpI
        by_cases hlt : y.1 < (X.getD p default).1
        · rw [if_pos hlt]
          simp -implicitDefEqProofs (maxSteps := 2000000) (disch := omega) only [go_sem, condB_t, condB_f, pf0, dec_t, dec_f, and_of, ↓reduceIte, Nat.reduceEqDiff, Nat.reduceMul, Nat.reduceAdd, Nat.reduceSub, Nat.reduceLT, Nat.reduceLeDiff, Int.reduceToNat, Nat.reducePow, Int.reducePow, Int.reduceLT, Int.reduceLE, Int.reduceNeg, Int.reduceAdd, Int.reduceSub, Int.reduceMul, decide_true, decide_false, reduceCtorEq]
          exact ⟨(i, p), ⟨hp1, by simp only; omega, h3, drop_gt_all hX (by omega) hlt⟩, by simp only; omega, by (refine Weak.head1w (by simp -implicitDefEqProofs (maxSteps := 2000000) (disch := omega) only [go_sem, condB_t, condB_f, pf0, dec_t, dec_f, and_of, ↓reduceIte, Nat.reduceEqDiff, Nat.reduceMul, Nat.reduceAdd, Nat.reduceSub, Nat.reduceLT, Nat.reduceLeDiff, Int.reduceToNat, Nat.reducePow, Int.reducePow, Int.reduceLT, Int.reduceLE, Int.reduceNeg, Int.reduceAdd, Int.reduceSub, Int.reduceMul, decide_true, decide_false, reduceCtorEq] <;> (try rfl)) (by omega) (mapU _ _ _) (fun k0 b0 hk0 hb0 => by have hk1 : (k0 = _) = False := eq_false hk0; have hk2 := (hmen k0 b0 hb0).1; (simp -implicitDefEqProofs (maxSteps := 2000000) (disch := omega) only [go_sem, condB_t, condB_f, pf0, dec_t, dec_f, and_of, ↓reduceIte, Nat.reduceEqDiff, Nat.reduceMul, Nat.reduceAdd, Nat.reduceSub, Nat.reduceLT, Nat.reduceLeDiff, Int.reduceToNat, Nat.reducePow, Int.reducePow, Int.reduceLT, Int.reduceLE, Int.reduceNeg, Int.reduceAdd, Int.reduceSub, Int.reduceMul, decide_true, decide_false, reduceCtorEq, upd, mkH, hk1]) <;> (try (repeat rw [if_neg (by omega)])) <;> exact hb0) (by omega) hmen ?_; simp -implicitDefEqProofs (maxSteps := 2000000) (disch := omega) only [go_sem, condB_t, condB_f, pf0, dec_t, dec_f, and_of, ↓reduceIte, Nat.reduceEqDiff, Nat.reduceMul, Nat.reduceAdd, Nat.reduceSub, Nat.reduceLT, Nat.reduceLeDiff, Int.reduceToNat, Nat.reducePow, Int.reducePow, Int.reduceLT, Int.reduceLE, Int.reduceNeg, Int.reduceAdd, Int.reduceSub, Int.reduceMul, decide_true, decide_false, reduceCtorEq, AllP, AVle_same, AVle_int, AVle_nil, AVle_row, topU_int, topU_bool, topU_sl, topU_row, topU_ptr, topU_iptr, topU_fn, val, List.drop_length])⟩
        · rw [if_neg hlt]
          have h5 := take_le_all hX (p := p) (v := y.1) (by omega) (by omega)
          by_cases heq : y.1 = (X.getD p default).1
          · rw [if_pos heq]
            simp -implicitDefEqProofs (maxSteps := 2000000) (disch := omega) only [go_sem, condB_t, condB_f, pf0, dec_t, dec_f, and_of, ↓reduceIte, Nat.reduceEqDiff, Nat.reduceMul, Nat.reduceAdd, Nat.reduceSub, Nat.reduceLT, Nat.reduceLeDiff, Int.reduceToNat, Nat.reducePow, Int.reducePow, Int.reduceLT, Int.reduceLE, Int.reduceNeg, Int.reduceAdd, Int.reduceSub, Int.reduceMul, decide_true, decide_false, reduceCtorEq]
            exact ⟨(p + 1, j), ⟨hp2, h2, h5, h4⟩, by simp only; omega, by (refine Weak.head1w (by simp -implicitDefEqProofs (maxSteps := 2000000) (disch := omega) only [go_sem, condB_t, condB_f, pf0, dec_t, dec_f, and_of, ↓reduceIte, Nat.reduceEqDiff, Nat.reduceMul, Nat.reduceAdd, Nat.reduceSub, Nat.reduceLT, Nat.reduceLeDiff, Int.reduceToNat, Nat.reducePow, Int.reducePow, Int.reduceLT, Int.reduceLE, Int.reduceNeg, Int.reduceAdd, Int.reduceSub, Int.reduceMul, decide_true, decide_false, reduceCtorEq] <;> (try rfl)) (by omega) (mapU _ _ _) (fun k0 b0 hk0 hb0 => by have hk1 : (k0 = _) = False := eq_false hk0; have hk2 := (hmen k0 b0 hb0).1; (simp -implicitDefEqProofs (maxSteps := 2000000) (disch := omega) only [go_sem, condB_t, condB_f, pf0, dec_t, dec_f, and_of, ↓reduceIte, Nat.reduceEqDiff, Nat.reduceMul, Nat.reduceAdd, Nat.reduceSub, Nat.reduceLT, Nat.reduceLeDiff, Int.reduceToNat, Nat.reducePow, Int.reducePow, Int.reduceLT, Int.reduceLE, Int.reduceNeg, Int.reduceAdd, Int.reduceSub, Int.reduceMul, decide_true, decide_false, reduceCtorEq, upd, mkH, hk1]) <;> (try (repeat rw [if_neg (by omega)])) <;> exact hb0) (by omega) hmen ?_; simp -implicitDefEqProofs (maxSteps := 2000000) (disch := omega) only [go_sem, condB_t, condB_f, pf0, dec_t, dec_f, and_of, ↓reduceIte, Nat.reduceEqDiff, Nat.reduceMul, Nat.reduceAdd, Nat.reduceSub, Nat.reduceLT, Nat.reduceLeDiff, Int.reduceToNat, Nat.reducePow, Int.reducePow, Int.reduceLT, Int.reduceLE, Int.reduceNeg, Int.reduceAdd, Int.reduceSub, Int.reduceMul, decide_true, decide_false, reduceCtorEq, AllP, AVle_same, AVle_int, AVle_nil, AVle_row, topU_int, topU_bool, topU_sl, topU_row, topU_ptr, topU_iptr, topU_fn, val, List.drop_length])⟩
          · rw [if_neg heq]
            simp -implicitDefEqProofs (maxSteps := 2000000) (disch := omega) only [go_sem, condB_t, condB_f, pf0, dec_t, dec_f, and_of, ↓reduceIte, Nat.reduceEqDiff, Nat.reduceMul, Nat.reduceAdd, Nat.reduceSub, Nat.reduceLT, Nat.reduceLeDiff, Int.reduceToNat, Nat.reducePow, Int.reducePow, Int.reduceLT, Int.reduceLE, Int.reduceNeg, Int.reduceAdd, Int.reduceSub, Int.reduceMul, decide_true, decide_false, reduceCtorEq]
            exact ⟨(p + 1, j), ⟨hp2, h2, h5, h4⟩, by simp only; omega, by (refine Weak.head1w (by simp -implicitDefEqProofs (maxSteps := 2000000) (disch := omega) only [go_sem, condB_t, condB_f, pf0, dec_t, dec_f, and_of, ↓reduceIte, Nat.reduceEqDiff, Nat.reduceMul, Nat.reduceAdd, Nat.reduceSub, Nat.reduceLT, Nat.reduceLeDiff, Int.reduceToNat, Nat.reducePow, Int.reducePow, Int.reduceLT, Int.reduceLE, Int.reduceNeg, Int.reduceAdd, Int.reduceSub, Int.reduceMul, decide_true, decide_false, reduceCtorEq] <;> (try rfl)) (by omega) (mapU _ _ _) (fun k0 b0 hk0 hb0 => by have hk1 : (k0 = _) = False := eq_false hk0; have hk2 := (hmen k0 b0 hb0).1; (simp -implicitDefEqProofs (maxSteps := 2000000) (disch := omega) only [go_sem, condB_t, condB_f, pf0, dec_t, dec_f, and_of, ↓reduceIte, Nat.reduceEqDiff, Nat.reduceMul, Nat.reduceAdd, Nat.reduceSub, Nat.reduceLT, Nat.reduceLeDiff, Int.reduceToNat, Nat.reducePow, Int.reducePow, Int.reduceLT, Int.reduceLE, Int.reduceNeg, Int.reduceAdd, Int.reduceSub, Int.reduceMul, decide_true, decide_false, reduceCtorEq, upd, mkH, hk1]) <;> (try (repeat rw [if_neg (by omega)])) <;> exact hb0) (by omega) hmen ?_; simp -implicitDefEqProofs (maxSteps := 2000000) (disch := omega) only [go_sem, condB_t, condB_f, pf0, dec_t, dec_f, and_of, ↓reduceIte, Nat.reduceEqDiff, Nat.reduceMul, Nat.reduceAdd, Nat.reduceSub, Nat.reduceLT, Nat.reduceLeDiff, Int.reduceToNat, Nat.reducePow, Int.reducePow, Int.reduceLT, Int.reduceLE, Int.reduceNeg, Int.reduceAdd, Int.reduceSub, Int.reduceMul, decide_true, decide_false, reduceCtorEq, AllP, AVle_same, AVle_int, AVle_nil, AVle_row, topU_int, topU_bool, topU_sl, topU_row, topU_ptr, topU_iptr, topU_fn, val, List.drop_length])⟩
      · obtain rfl : i = j := by omega
        have e9 := isort_right (y := y) hX
        simp -implicitDefEqProofs (maxSteps := 2000000) (disch := omega) only [go_sem, condB_t, condB_f, pf0, dec_t, dec_f, and_of, ↓reduceIte, Nat.reduceEqDiff, Nat.reduceMul, Nat.reduceAdd, Nat.reduceSub, Nat.reduceLT, Nat.reduceLeDiff, Int.reduceToNat, Nat.reducePow, Int.reducePow, Int.reduceLT, Int.reduceLE, Int.reduceNeg, Int.reduceAdd, Int.reduceSub, Int.reduceMul, decide_true, decide_false, reduceCtorEq]
        refine aw_loop (X := Nat) (fun q => ⟨mkS [(0, .row id N 0 N), (14, .int .i64 (A.length + i : Nat)), (17, .int .i64 (A.length + q : Nat))], mkH h [(id, ⟨4, (mid A X y q Z).map entC⟩)], N0⟩)
          (fun q => i ≤ q ∧ q ≤ X.length) (fun q => q) ⟨X.length, ⟨h2, Nat.le_refl _⟩, ?_⟩ ?_
        · (refine Weak.head1w (by simp -implicitDefEqProofs (maxSteps := 2000000) (disch := omega) only [go_sem, condB_t, condB_f, pf0, dec_t, dec_f, and_of, ↓reduceIte, Nat.reduceEqDiff, Nat.reduceMul, Nat.reduceAdd, Nat.reduceSub, Nat.reduceLT, Nat.reduceLeDiff, Int.reduceToNat, Nat.reducePow, Int.reducePow, Int.reduceLT, Int.reduceLE, Int.reduceNeg, Int.reduceAdd, Int.reduceSub, Int.reduceMul, decide_true, decide_false, reduceCtorEq] <;> (try rfl)) (by omega) (mapU _ _ _) (fun k0 b0 hk0 hb0 => by have hk1 : (k0 = _) = False := eq_false hk0; have hk2 := (hmen k0 b0 hb0).1; (simp -implicitDefEqProofs (maxSteps := 2000000) (disch := omega) only [go_sem, condB_t, condB_f, pf0, dec_t, dec_f, and_of, ↓reduceIte, Nat.reduceEqDiff, Nat.reduceMul, Nat.reduceAdd, Nat.reduceSub, Nat.reduceLT, Nat.reduceLeDiff, Int.reduceToNat, Nat.reducePow, Int.reducePow, Int.reduceLT, Int.reduceLE, Int.reduceNeg, Int.reduceAdd, Int.reduceSub, Int.reduceMul, decide_true, decide_false, reduceCtorEq, upd, mkH, hk1]) <;> (try (repeat rw [if_neg (by omega)])) <;> exact hb0) (by omega) hmen ?_; simp -implicitDefEqProofs (maxSteps := 2000000) (disch := omega) only [go_sem, condB_t, condB_f, pf0, dec_t, dec_f, and_of, ↓reduceIte, Nat.reduceEqDiff, Nat.reduceMul, Nat.reduceAdd, Nat.reduceSub, Nat.reduceLT, Nat.reduceLeDiff, Int.reduceToNat, Nat.reducePow, Int.reducePow, Int.reduceLT, Int.reduceLE, Int.reduceNeg, Int.reduceAdd, Int.reduceSub, Int.reduceMul, decide_true, decide_false, reduceCtorEq, AllP, AVle_same, AVle_int, AVle_nil, AVle_row, topU_int, topU_bool, topU_sl, topU_row, topU_ptr, topU_iptr, topU_fn, val, List.drop_length])
        · rintro q ⟨hq, hq2⟩
          have ml := mid_len A X y q Z
          by_cases h0 : i < q
          · obtain ⟨q, rfl⟩ : ∃ r, q = r + 1 := ⟨q - 1, by omega⟩
            have g1 := mid_get (A := A) (T := X) (e := y) (j := q + 1) (R := Z) (by omega)
            have g2 := mid_get1 (A := A) (T := X) (e := y) (j := q) (R := Z) (by omega)
            have g3 := mid_swap (A := A) (T := X) (e := y) (j := q) (R := Z) (by omega)
            have d0 : A.length + (q + 1) - 1 = A.length + q := by omega
            simp -implicitDefEqProofs (maxSteps := 2000000) (disch := omega) only [go_sem, condB_t, condB_f, pf0, dec_t, dec_f, and_of, ↓reduceIte, Nat.reduceEqDiff, Nat.reduceMul, Nat.reduceAdd, Nat.reduceSub, Nat.reduceLT, Nat.reduceLeDiff, Int.reduceToNat, Nat.reducePow, Int.reducePow, Int.reduceLT, Int.reduceLE, Int.reduceNeg, Int.reduceAdd, Int.reduceSub, Int.reduceMul, decide_true, decide_false, reduceCtorEq, g1, d0, g2]
            exact ⟨q, ⟨by omega, by omega⟩, by omega, by (refine Weak.head1w (by simp -implicitDefEqProofs (maxSteps := 2000000) (disch := omega) only [go_sem, condB_t, condB_f, pf0, dec_t, dec_f, and_of, ↓reduceIte, Nat.reduceEqDiff, Nat.reduceMul, Nat.reduceAdd, Nat.reduceSub, Nat.reduceLT, Nat.reduceLeDiff, Int.reduceToNat, Nat.reducePow, Int.reducePow, Int.reduceLT, Int.reduceLE, Int.reduceNeg, Int.reduceAdd, Int.reduceSub, Int.reduceMul, decide_true, decide_false, reduceCtorEq, g1, d0, g2, g3] <;> (try rfl)) (by omega) (mapU _ _ _) (fun k0 b0 hk0 hb0 => by have hk1 : (k0 = _) = False := eq_false hk0; have hk2 := (hmen k0 b0 hb0).1; (simp -implicitDefEqProofs (maxSteps := 2000000) (disch := omega) only [go_sem, condB_t, condB_f, pf0, dec_t, dec_f, and_of, ↓reduceIte, Nat.reduceEqDiff, Nat.reduceMul, Nat.reduceAdd, Nat.reduceSub, Nat.reduceLT, Nat.reduceLeDiff, Int.reduceToNat, Nat.reducePow, Int.reducePow, Int.reduceLT, Int.reduceLE, Int.reduceNeg, Int.reduceAdd, Int.reduceSub, Int.reduceMul, decide_true, decide_false, reduceCtorEq, upd, mkH, hk1]) <;> (try (repeat rw [if_neg (by omega)])) <;> exact hb0) (by omega) hmen ?_; simp -implicitDefEqProofs (maxSteps := 2000000) (disch := omega) only [go_sem, condB_t, condB_f, pf0, dec_t, dec_f, and_of, ↓reduceIte, Nat.reduceEqDiff, Nat.reduceMul, Nat.reduceAdd, Nat.reduceSub, Nat.reduceLT, Nat.reduceLeDiff, Int.reduceToNat, Nat.reducePow, Int.reducePow, Int.reduceLT, Int.reduceLE, Int.reduceNeg, Int.reduceAdd, Int.reduceSub, Int.reduceMul, decide_true, decide_false, reduceCtorEq, AllP, AVle_same, AVle_int, AVle_nil, AVle_row, topU_int, topU_bool, topU_sl, topU_row, topU_ptr, topU_iptr, topU_fn, val, List.drop_length, g1, d0, g2, g3])⟩
          · obtain rfl : q = i := by omega
            have e1 : mid A X y q Z = A ++ isort (X ++ [y]) ++ Z := by
              rw [e9]
              refine mid_ins hX h2 (fun h0 => ?_) h4
              refine h3 _ ?_
              rw [List.getD_eq_getElem?_getD, List.getElem?_eq_getElem (by omega)]
              exact List.mem_take_iff_getElem.2 ⟨q - 1, by omega, rfl⟩
            rw [e1]
            simp -implicitDefEqProofs (maxSteps := 2000000) (disch := omega) only [go_sem, condB_t, condB_f, pf0, dec_t, dec_f, and_of, ↓reduceIte, Nat.reduceEqDiff, Nat.reduceMul, Nat.reduceAdd, Nat.reduceSub, Nat.reduceLT, Nat.reduceLeDiff, Int.reduceToNat, Nat.reducePow, Int.reducePow, Int.reduceLT, Int.reduceLE, Int.reduceNeg, Int.reduceAdd, Int.reduceSub, Int.reduceMul, decide_true, decide_false, reduceCtorEq]
            exact ⟨fun _ _ => rfl, .tup rfl nofun⟩
  obtain ⟨c, hc⟩ : ∃ c, c = (X.length + Y.length) / 2 := ⟨_, rfl⟩
  have hM : (A.length + (A.length + (X.length + Y.length))) / 2 = A.length + c := by omega
  obtain ⟨s0, t0, q1, q2, q3, q4, q5, q6, q7, q8⟩ : ∃ s0 t0 : Nat, s0 ≤ t0 ∧ t0 ≤ X.length ∧ t0 ≤ c ∧ (s0 = 0 ∨ s0 + Y.length = c) ∧ c ≤ s0 + Y.length ∧ (t0 = X.length ∨ t0 = c) ∧ (c < X.length → s0 + Y.length = c ∧ t0 = c) ∧ (X.length ≤ c → s0 = 0 ∧ t0 = X.length) := ⟨c - Y.length, min X.length c, by omega, by omega, by omega, by omega, by omega, by omega, by omega, by omega⟩
  apply cutP
  · intro tail
    by_cases hg : c < X.length
    · have z1 : ((A.length + (c + (A.length + X.length)) : Nat) : Int) - ((A.length + (X.length + Y.length) : Nat) : Int) = ((A.length + s0 : Nat) : Int) := by omega
      have z2 : c = t0 := (q7 hg).2.symm
      simp -implicitDefEqProofs (maxSteps := 2000000) (disch := omega) only [go_sem, condB_t, condB_f, pf0, dec_t, dec_f, and_of, ↓reduceIte, Nat.reduceEqDiff, Nat.reduceMul, Nat.reduceAdd, Nat.reduceSub, Nat.reduceLT, Nat.reduceLeDiff, Int.reduceToNat, Nat.reducePow, Int.reducePow, Int.reduceLT, Int.reduceLE, Int.reduceNeg, Int.reduceAdd, Int.reduceSub, Int.reduceMul, decide_true, decide_false, reduceCtorEq, hid, d1, d2, hM, z1]
      refine aw_weak (Weak.head1w (l := [(0, .row id N 0 N), (1, .int .i64 A.length), (2, .int .i64 (A.length + X.length : Nat)), (3, .int .i64 (A.length + (X.length + Y.length) : Nat)), (4, .fn 102), (18, .int .i64 (A.length + c : Nat)), (19, .int .i64 (A.length + (c + (A.length + X.length)) : Nat)), (20, .int .i64 (A.length + s0 : Nat)), (21, .int .i64 (A.length + t0 : Nat)), (22, .int .i64 (A.length + (c + (A.length + X.length)) - 1 : Nat))]) hid (by omega) (mapU _ _ _) (fun k0 b0 _ hb0 => hb0) (by omega) hmen (by rw [← z2]; simp -implicitDefEqProofs (maxSteps := 2000000) (disch := omega) only [go_sem, condB_t, condB_f, pf0, dec_t, dec_f, and_of, ↓reduceIte, Nat.reduceEqDiff, Nat.reduceMul, Nat.reduceAdd, Nat.reduceSub, Nat.reduceLT, Nat.reduceLeDiff, Int.reduceToNat, Nat.reducePow, Int.reducePow, Int.reduceLT, Int.reduceLE, Int.reduceNeg, Int.reduceAdd, Int.reduceSub, Int.reduceMul, decide_true, decide_false, reduceCtorEq, AllP, AVle_same, AVle_int, AVle_nil, AVle_row, topU_int, topU_bool, topU_sl, topU_row, topU_ptr, topU_iptr, topU_fn, val, List.drop_length])) ?_
      exact tail.out
    · obtain ⟨z2, z3⟩ := q8 (by omega)
      simp -implicitDefEqProofs (maxSteps := 2000000) (disch := omega) only [go_sem, condB_t, condB_f, pf0, dec_t, dec_f, and_of, ↓reduceIte, Nat.reduceEqDiff, Nat.reduceMul, Nat.reduceAdd, Nat.reduceSub, Nat.reduceLT, Nat.reduceLeDiff, Int.reduceToNat, Nat.reducePow, Int.reducePow, Int.reduceLT, Int.reduceLE, Int.reduceNeg, Int.reduceAdd, Int.reduceSub, Int.reduceMul, decide_true, decide_false, reduceCtorEq, hid, d1, d2, hM]
      refine aw_weak (Weak.head1w (l := [(0, .row id N 0 N), (1, .int .i64 A.length), (2, .int .i64 (A.length + X.length : Nat)), (3, .int .i64 (A.length + (X.length + Y.length) : Nat)), (4, .fn 102), (18, .int .i64 (A.length + c : Nat)), (19, .int .i64 (A.length + (c + (A.length + X.length)) : Nat)), (20, .int .i64 (A.length + s0 : Nat)), (21, .int .i64 (A.length + t0 : Nat)), (22, .int .i64 (A.length + (c + (A.length + X.length)) - 1 : Nat))]) hid (by omega) (mapU _ _ _) (fun k0 b0 _ hb0 => hb0) (by omega) hmen (by rw [z2, z3]; simp -implicitDefEqProofs (maxSteps := 2000000) (disch := omega) only [go_sem, condB_t, condB_f, pf0, dec_t, dec_f, and_of, ↓reduceIte, Nat.reduceEqDiff, Nat.reduceMul, Nat.reduceAdd, Nat.reduceSub, Nat.reduceLT, Nat.reduceLeDiff, Int.reduceToNat, Nat.reducePow, Int.reducePow, Int.reduceLT, Int.reduceLE, Int.reduceNeg, Int.reduceAdd, Int.reduceSub, Int.reduceMul, decide_true, decide_false, reduceCtorEq, AllP, AVle_same, AVle_int, AVle_nil, AVle_row, topU_int, topU_bool, topU_sl, topU_row, topU_ptr, topU_iptr, topU_fn, val, List.drop_length])) ?_
      exact tail.out
  · have lD : (A ++ X ++ Y ++ Z).length = N := hN
    refine aw_loop (X := Nat × Nat) (fun x' => ⟨mkS [(0, .row id N 0 N), (1, .int .i64 A.length), (2, .int .i64 (A.length + X.length : Nat)), (3, .int .i64 (A.length + (X.length + Y.length) : Nat)), (4, .fn 102), (18, .int .i64 (A.length + c : Nat)), (19, .int .i64 (A.length + (c + (A.length + X.length)) : Nat)), (20, .int .i64 (A.length + x'.1 : Nat)), (21, .int .i64 (A.length + x'.2 : Nat)), (22, .int .i64 (A.length + (c + (A.length + X.length)) - 1 : Nat))], mkH h [(id, ⟨4, (A ++ X ++ Y ++ Z).map entC⟩)], N0⟩)
      (fun x' => s0 ≤ x'.1 ∧ x'.1 ≤ x'.2 ∧ x'.2 ≤ t0 ∧ (s0 < x'.1 → (X.getD (x'.1 - 1) default).1 ≤ (Y.getD (c - x'.1) default).1) ∧ (x'.2 < t0 → (Y.getD (c - 1 - x'.2) default).1 < (X.getD x'.2 default).1)) (fun x' => x'.2 - x'.1) ⟨(s0, t0), ⟨Nat.le_refl _, q1, Nat.le_refl _, fun h => by simp only at h; omega, fun h => by simp only at h; omega⟩, ?_⟩ ?_
    · (refine Weak.head1w (by simp -implicitDefEqProofs (maxSteps := 2000000) (disch := omega) only [go_sem, condB_t, condB_f, pf0, dec_t, dec_f, and_of, ↓reduceIte, Nat.reduceEqDiff, Nat.reduceMul, Nat.reduceAdd, Nat.reduceSub, Nat.reduceLT, Nat.reduceLeDiff, Int.reduceToNat, Nat.reducePow, Int.reducePow, Int.reduceLT, Int.reduceLE, Int.reduceNeg, Int.reduceAdd, Int.reduceSub, Int.reduceMul, decide_true, decide_false, reduceCtorEq] <;> (try rfl)) (by omega) (mapU _ _ _) (fun k0 b0 hk0 hb0 => by have hk1 : (k0 = _) = False := eq_false hk0; have hk2 := (hmen k0 b0 hb0).1; (simp -implicitDefEqProofs (maxSteps := 2000000) (disch := omega) only [go_sem, condB_t, condB_f, pf0, dec_t, dec_f, and_of, ↓reduceIte, Nat.reduceEqDiff, Nat.reduceMul, Nat.reduceAdd, Nat.reduceSub, Nat.reduceLT, Nat.reduceLeDiff, Int.reduceToNat, Nat.reducePow, Int.reducePow, Int.reduceLT, Int.reduceLE, Int.reduceNeg, Int.reduceAdd, Int.reduceSub, Int.reduceMul, decide_true, decide_false, reduceCtorEq, upd, mkH, hk1]) <;> (try (repeat rw [if_neg (by omega)])) <;> exact hb0) (by omega) hmen ?_; simp -implicitDefEqProofs (maxSteps := 2000000) (disch := omega) only [go_sem, condB_t, condB_f, pf0, dec_t, dec_f, and_of, ↓reduceIte, Nat.reduceEqDiff, Nat.reduceMul, Nat.reduceAdd, Nat.reduceSub, Nat.reduceLT, Nat.reduceLeDiff, Int.reduceToNat, Nat.reducePow, Int.reducePow, Int.reduceLT, Int.reduceLE, Int.reduceNeg, Int.reduceAdd, Int.reduceSub, Int.reduceMul, decide_true, decide_false, reduceCtorEq, AllP, AVle_same, AVle_int, AVle_nil, AVle_row, topU_int, topU_bool, topU_sl, topU_row, topU_ptr, topU_iptr, topU_fn, val, List.drop_length])
    · rintro ⟨s, t⟩ ⟨h1, h2, h3, h4, h5⟩
      simp only at h1 h2 h3 h4 h5 ⊢
      by_cases hst : s < t
      · obtain ⟨w, hw, hw1, hw2⟩ : ∃ w, (A.length + (s + (A.length + t))) / 2 = A.length + w ∧ s ≤ w ∧ w < t := ⟨(s + t) / 2, by omega, by omega, by omega⟩
        have z1 : ((A.length + (c + (A.length + X.length)) - 1 : Nat) : Int) - ((A.length + w : Nat) : Int) = ((A.length + (X.length + (c - 1 - w)) : Nat) : Int) := by omega
        have g1 := four_getX (A := A) (X := X) (Y := Y) (Z := Z) (k := w) (by omega)
        have g2 := four_getY (A := A) (X := X) (Y := Y) (Z := Z) (k := c - 1 - w) (by omega)
        have cm := sortedLt_spec (Y.getD (c - 1 - w) default) (X.getD w default)
        unfold entC at cm
        simp -implicitDefEqProofs (maxSteps := 2000000) (disch := omega) only [go_sem, condB_t, condB_f, pf0, dec_t, dec_f, and_of, ↓reduceIte, Nat.reduceEqDiff, Nat.reduceMul, Nat.reduceAdd, Nat.reduceSub, Nat.reduceLT, Nat.reduceLeDiff, Int.reduceToNat, Nat.reducePow, Int.reducePow, Int.reduceLT, Int.reduceLE, Int.reduceNeg, Int.reduceAdd, Int.reduceSub, Int.reduceMul, decide_true, decide_false, reduceCtorEq, hw, z1, g1, g2, lD]
        refine pcallK_pure cm ?_
        unfold cmpI
        by_cases hlt : (Y.getD (c - 1 - w) default).1 < (X.getD w default).1
        · rw [if_pos hlt]
          simp -implicitDefEqProofs (maxSteps := 2000000) (disch := omega) only [go_sem, condB_t, condB_f, pf0, dec_t, dec_f, and_of, ↓reduceIte, Nat.reduceEqDiff, Nat.reduceMul, Nat.reduceAdd, Nat.reduceSub, Nat.reduceLT, Nat.reduceLeDiff, Int.reduceToNat, Nat.reducePow, Int.reducePow, Int.reduceLT, Int.reduceLE, Int.reduceNeg, Int.reduceAdd, Int.reduceSub, Int.reduceMul, decide_true, decide_false, reduceCtorEq]
          exact ⟨(s, w), ⟨h1, hw1, by simp only; omega, h4, fun _ => hlt⟩, by simp only; omega, by (refine Weak.head1w (by simp -implicitDefEqProofs (maxSteps := 2000000) (disch := omega) only [go_sem, condB_t, condB_f, pf0, dec_t, dec_f, and_of, ↓reduceIte, Nat.reduceEqDiff, Nat.reduceMul, Nat.reduceAdd, Nat.reduceSub, Nat.reduceLT, Nat.reduceLeDiff, Int.reduceToNat, Nat.reducePow, Int.reducePow, Int.reduceLT, Int.reduceLE, Int.reduceNeg, Int.reduceAdd, Int.reduceSub, Int.reduceMul, decide_true, decide_false, reduceCtorEq] <;> (try rfl)) (by omega) (mapU _ _ _) (fun k0 b0 hk0 hb0 => by have hk1 : (k0 = _) = False := eq_false hk0; have hk2 := (hmen k0 b0 hb0).1; (simp -implicitDefEqProofs (maxSteps := 2000000) (disch := omega) only [go_sem, condB_t, condB_f, pf0, dec_t, dec_f, and_of, ↓reduceIte, Nat.reduceEqDiff, Nat.reduceMul, Nat.reduceAdd, Nat.reduceSub, Nat.reduceLT, Nat.reduceLeDiff, Int.reduceToNat, Nat.reducePow, Int.reducePow, Int.reduceLT, Int.reduceLE, Int.reduceNeg, Int.reduceAdd, Int.reduceSub, Int.reduceMul, decide_true, decide_false, reduceCtorEq, upd, mkH, hk1]) <;> (try (repeat rw [if_neg (by omega)])) <;> exact hb0) (by omega) hmen ?_; simp -implicitDefEqProofs (maxSteps := 2000000) (disch := omega) only [go_sem, condB_t, condB_f, pf0, dec_t, dec_f, and_of, ↓reduceIte, Nat.reduceEqDiff, Nat.reduceMul, Nat.reduceAdd, Nat.reduceSub, Nat.reduceLT, Nat.reduceLeDiff, Int.reduceToNat, Nat.reducePow, Int.reducePow, Int.reduceLT, Int.reduceLE, Int.reduceNeg, Int.reduceAdd, Int.reduceSub, Int.reduceMul, decide_true, decide_false, reduceCtorEq, AllP, AVle_same, AVle_int, AVle_nil, AVle_row, topU_int, topU_bool, topU_sl, topU_row, topU_ptr, topU_iptr, topU_fn, val, List.drop_length])⟩
        · have hge : w + 1 > s0 → (X.getD (w + 1 - 1) default).1 ≤ (Y.getD (c - (w + 1)) default).1 := fun _ => by rw [Nat.add_sub_cancel, show c - (w + 1) = c - 1 - w by omega]; omega
          rw [if_neg hlt]
          by_cases heq : (Y.getD (c - 1 - w) default).1 = (X.getD w default).1
          · rw [if_pos heq]
            simp -implicitDefEqProofs (maxSteps := 2000000) (disch := omega) only [go_sem, condB_t, condB_f, pf0, dec_t, dec_f, and_of, ↓reduceIte, Nat.reduceEqDiff, Nat.reduceMul, Nat.reduceAdd, Nat.reduceSub, Nat.reduceLT, Nat.reduceLeDiff, Int.reduceToNat, Nat.reducePow, Int.reducePow, Int.reduceLT, Int.reduceLE, Int.reduceNeg, Int.reduceAdd, Int.reduceSub, Int.reduceMul, decide_true, decide_false, reduceCtorEq]
            exact ⟨(w + 1, t), ⟨by simp only; omega, hw2, h3, hge, h5⟩, by simp only; omega, by (refine Weak.head1w (by simp -implicitDefEqProofs (maxSteps := 2000000) (disch := omega) only [go_sem, condB_t, condB_f, pf0, dec_t, dec_f, and_of, ↓reduceIte, Nat.reduceEqDiff, Nat.reduceMul, Nat.reduceAdd, Nat.reduceSub, Nat.reduceLT, Nat.reduceLeDiff, Int.reduceToNat, Nat.reducePow, Int.reducePow, Int.reduceLT, Int.reduceLE, Int.reduceNeg, Int.reduceAdd, Int.reduceSub, Int.reduceMul, decide_true, decide_false, reduceCtorEq] <;> (try rfl)) (by omega) (mapU _ _ _) (fun k0 b0 hk0 hb0 => by have hk1 : (k0 = _) = False := eq_false hk0; have hk2 := (hmen k0 b0 hb0).1; (simp -implicitDefEqProofs (maxSteps := 2000000) (disch := omega) only [go_sem, condB_t, condB_f, pf0, dec_t, dec_f, and_of, ↓reduceIte, Nat.reduceEqDiff, Nat.reduceMul, Nat.reduceAdd, Nat.reduceSub, Nat.reduceLT, Nat.reduceLeDiff, Int.reduceToNat, Nat.reducePow, Int.reducePow, Int.reduceLT, Int.reduceLE, Int.reduceNeg, Int.reduceAdd, Int.reduceSub, Int.reduceMul, decide_true, decide_false, reduceCtorEq, upd, mkH, hk1]) <;> (try (repeat rw [if_neg (by omega)])) <;> exact hb0) (by omega) hmen ?_; simp -implicitDefEqProofs (maxSteps := 2000000) (disch := omega) only [go_sem, condB_t, condB_f, pf0, dec_t, dec_f, and_of, ↓reduceIte, Nat.reduceEqDiff, Nat.reduceMul, Nat.reduceAdd, Nat.reduceSub, Nat.reduceLT, Nat.reduceLeDiff, Int.reduceToNat, Nat.reducePow, Int.reducePow, Int.reduceLT, Int.reduceLE, Int.reduceNeg, Int.reduceAdd, Int.reduceSub, Int.reduceMul, decide_true, decide_false, reduceCtorEq, AllP, AVle_same, AVle_int, AVle_nil, AVle_row, topU_int, topU_bool, topU_sl, topU_row, topU_ptr, topU_iptr, topU_fn, val, List.drop_length])⟩
          · rw [if_neg heq]
            simp -implicitDefEqProofs (maxSteps := 2000000) (disch := omega) only [go_sem, condB_t, condB_f, pf0, dec_t, dec_f, and_of, ↓reduceIte, Nat.reduceEqDiff, Nat.reduceMul, Nat.reduceAdd, Nat.reduceSub, Nat.reduceLT, Nat.reduceLeDiff, Int.reduceToNat, Nat.reducePow, Int.reducePow, Int.reduceLT, Int.reduceLE, Int.reduceNeg, Int.reduceAdd, Int.reduceSub, Int.reduceMul, decide_true, decide_false, reduceCtorEq]
            exact ⟨(w + 1, t), ⟨by simp only; omega, hw2, h3, hge, h5⟩, by simp only; omega, by (refine Weak.head1w (by simp -implicitDefEqProofs (maxSteps := 2000000) (disch := omega) only [go_sem, condB_t, condB_f, pf0, dec_t, dec_f, and_of, ↓reduceIte, Nat.reduceEqDiff, Nat.reduceMul, Nat.reduceAdd, Nat.reduceSub, Nat.reduceLT, Nat.reduceLeDiff, Int.reduceToNat, Nat.reducePow, Int.reducePow, Int.reduceLT, Int.reduceLE, Int.reduceNeg, Int.reduceAdd, Int.reduceSub, Int.reduceMul, decide_true, decide_false, reduceCtorEq] <;> (try rfl)) (by omega) (mapU _ _ _) (fun k0 b0 hk0 hb0 => by have hk1 : (k0 = _) = False := eq_false hk0; have hk2 := (hmen k0 b0 hb0).1; (simp -implicitDefEqProofs (maxSteps := 2000000) (disch := omega) only [go_sem, condB_t, condB_f, pf0, dec_t, dec_f, and_of, ↓reduceIte, Nat.reduceEqDiff, Nat.reduceMul, Nat.reduceAdd, Nat.reduceSub, Nat.reduceLT, Nat.reduceLeDiff, Int.reduceToNat, Nat.reducePow, Int.reducePow, Int.reduceLT, Int.reduceLE, Int.reduceNeg, Int.reduceAdd, Int.reduceSub, Int.reduceMul, decide_true, decide_false, reduceCtorEq, upd, mkH, hk1]) <;> (try (repeat rw [if_neg (by omega)])) <;> exact hb0) (by omega) hmen ?_; simp -implicitDefEqProofs (maxSteps := 2000000) (disch := omega) only [go_sem, condB_t, condB_f, pf0, dec_t, dec_f, and_of, ↓reduceIte, Nat.reduceEqDiff, Nat.reduceMul, Nat.reduceAdd, Nat.reduceSub, Nat.reduceLT, Nat.reduceLeDiff, Int.reduceToNat, Nat.reducePow, Int.reducePow, Int.reduceLT, Int.reduceLE, Int.reduceNeg, Int.reduceAdd, Int.reduceSub, Int.reduceMul, decide_true, decide_false, reduceCtorEq, AllP, AVle_same, AVle_int, AVle_nil, AVle_row, topU_int, topU_bool, topU_sl, topU_row, topU_ptr, topU_iptr, topU_fn, val, List.drop_length])⟩
      · obtain rfl : s = t := by omega
        have part := isort_part hX hY h1 h3 q2 q3 q4 q5 q6 h4 h5
        have lx1 : (X.take s).length = s := by rw [List.length_take]; omega
        have lx2 : (X.drop s).length = X.length - s := List.length_drop
        have ly1 : (Y.take (c - s)).length = c - s := by rw [List.length_take]; omega
        have ly2 : (Y.drop (c - s)).length = Y.length - (c - s) := List.length_drop
        have sx : SortE (X.take s ++ X.drop s) := by rw [List.take_append_drop]; exact hX
        have sy : SortE (Y.take (c - s) ++ Y.drop (c - s)) := by rw [List.take_append_drop]; exact hY
        have ex : X.take s ++ X.drop s = X := List.take_append_drop ..
        have ey : Y.take (c - s) ++ Y.drop (c - s) = Y := List.take_append_drop ..
        obtain ⟨sx1, sx2, _⟩ := sortE_app.1 sx
        obtain ⟨sy1, sy2, _⟩ := sortE_app.1 sy
        generalize X.take s = X1 at *
        generalize X.drop s = X2 at *
        generalize Y.take (c - s) = Y1 at *
        generalize Y.drop (c - s) = Y2 at *
        have lr1 : (isort (X1 ++ Y1)).length = c := by rw [isort_len, List.length_append]; omega
        obtain ⟨D0, hD0⟩ : ∃ D, D = A ++ X ++ Y ++ Z := ⟨_, rfl⟩
        obtain ⟨D1, hD1⟩ : ∃ D, D = A ++ X1 ++ Y1 ++ (X2 ++ Y2 ++ Z) := ⟨_, rfl⟩
        obtain ⟨D2, hD2⟩ : ∃ D, D = A ++ isort (X1 ++ Y1) ++ (X2 ++ Y2 ++ Z) := ⟨_, rfl⟩
        obtain ⟨D3, hD3⟩ : ∃ D, D = A ++ isort (X ++ Y) ++ Z := ⟨_, rfl⟩
        have rot : s < X.length → s < c → ∀ (hh : Heap) (mm : Nat), hh id = some ⟨4, D0.map entC⟩ → ADet Try.prog 184 [.row id N 0 N, .int .i64 (A.length + s : Nat), .int .i64 (A.length + X.length : Nat), .int .i64 (A.length + (X.length + (c - s)) : Nat), .fn 102] hh mm (.tup []) (upd hh id (some ⟨4, D1.map entC⟩)) := fun hp hq hh mm hi => by
          have e0 : (A ++ X1) ++ X2 ++ Y1 ++ (Y2 ++ Z) = D0 := by rw [hD0, ← ex, ← ey]; simp
          have e1 : (A ++ X1) ++ Y1 ++ X2 ++ (Y2 ++ Z) = D1 := by rw [hD1]; simp
          have := rotate_spec (A ++ X1) X2 Y1 (Y2 ++ Z) N (by omega) (by omega) (by rw [e0, hD0]; exact hN) hs hh id mm (by rw [e0]; exact hi)
          rw [e1, List.length_append, lx1, lx2, ly1, show A.length + s + (X.length - s) = A.length + X.length by omega, Nat.add_assoc A.length X.length] at this
          exact this
        have nrot : ¬ (s < X.length ∧ s < c) → D0 = D1 := fun hn => by
          rw [hD0, hD1, ← ex, ← ey]
          rcases Nat.lt_or_ge s X.length with g | g
          · rw [List.eq_nil_of_length_eq_zero (l := Y1) (by omega)]; simp
          · rw [List.eq_nil_of_length_eq_zero (l := X2) (by omega)]; simp
        have m1 : 0 < s → s < c → ∀ (hh : Heap) (mm : Nat), hh id = some ⟨4, D1.map entC⟩ → ADet Try.prog 164 [.row id N 0 N, .int .i64 A.length, .int .i64 (A.length + s : Nat), .int .i64 (A.length + c : Nat), .fn 102] hh mm (.tup []) (upd hh id (some ⟨4, D2.map entC⟩)) := fun hp hq hh mm hi => by
          have := ih (X1.length + Y1.length) (by omega) A X1 Y1 (X2 ++ Y2 ++ Z) N rfl (by omega) (by omega) sx1 sy1 (by simp only [List.length_append]; omega) hs hh id mm (by rw [← hD1]; exact hi)
          rw [← hD2, lx1, ly1, show A.length + s + (c - s) = A.length + c by omega] at this
          exact this
        have nm1 : ¬ (0 < s ∧ s < c) → D1 = D2 := fun hn => by
          rw [hD1, hD2]
          rcases Nat.eq_zero_or_pos s with g | g
          · rw [List.eq_nil_of_length_eq_zero (l := X1) (by omega), List.nil_append, isort_id sy1]; simp
          · rw [List.eq_nil_of_length_eq_zero (l := Y1) (by omega), List.append_nil X1, isort_id sx1]; simp
        have m2 : s < X.length → c - s < Y.length → ∀ (hh : Heap) (mm : Nat), hh id = some ⟨4, D2.map entC⟩ → ADet Try.prog 164 [.row id N 0 N, .int .i64 (A.length + c : Nat), .int .i64 (A.length + (X.length + (c - s)) : Nat), .int .i64 (A.length + (X.length + Y.length) : Nat), .fn 102] hh mm (.tup []) (upd hh id (some ⟨4, D3.map entC⟩)) := fun hp hq hh mm hi => by
          have e2 : (A ++ isort (X1 ++ Y1)) ++ X2 ++ Y2 ++ Z = D2 := by rw [hD2]; simp
          have e3 : (A ++ isort (X1 ++ Y1)) ++ isort (X2 ++ Y2) ++ Z = D3 := by rw [hD3, part]; simp
          have := ih (X2.length + Y2.length) (by omega) (A ++ isort (X1 ++ Y1)) X2 Y2 Z N rfl (by omega) (by omega) sx2 sy2 (by simp only [List.length_append, lr1]; omega) hs hh id mm (by rw [e2]; exact hi)
          rw [e3, List.length_append, lr1, lx2, ly2, show A.length + c + (X.length - s) = A.length + (X.length + (c - s)) by omega, show A.length + (X.length + (c - s)) + (Y.length - (c - s)) = A.length + (X.length + Y.length) by omega] at this
          exact this
        have nm2 : ¬ (s < X.length ∧ c - s < Y.length) → D2 = D3 := fun hn => by
          rw [hD2, hD3, part]
          rcases Nat.lt_or_ge s X.length with g | g
          · rw [List.eq_nil_of_length_eq_zero (l := Y2) (by omega), List.append_nil X2, isort_id sx2]; simp
          · rw [List.eq_nil_of_length_eq_zero (l := X2) (by omega), List.nil_append, isort_id sy2]; simp
        have z1 : ((A.length + (c + (A.length + X.length)) : Nat) : Int) - ((A.length + s : Nat) : Int) = ((A.length + (X.length + (c - s)) : Nat) : Int) := by omega
        rw [← hD0, ← hD3]
        clear ih part hD0 hD1 hD2 hD3 h4 h5 ex ey sx sy sx1 sx2 sy1 sy2 q4 q6 q7 q8 hX hY
        by_cases hP : s < X.length <;> by_cases hQ : s < c <;> by_cases hR : 0 < s <;> by_cases hT : c - s < Y.length
        all_goals try (exfalso; omega)
        all_goals try rw [nrot (by omega)]
        all_goals simp -implicitDefEqProofs (maxSteps := 2000000) (disch := omega) only [go_sem, condB_t, condB_f, pf0, dec_t, dec_f, and_of, ↓reduceIte, Nat.reduceEqDiff, Nat.reduceMul, Nat.reduceAdd, Nat.reduceSub, Nat.reduceLT, Nat.reduceLeDiff, Int.reduceToNat, Nat.reducePow, Int.reducePow, Int.reduceLT, Int.reduceLE, Int.reduceNeg, Int.reduceAdd, Int.reduceSub, Int.reduceMul, decide_true, decide_false, reduceCtorEq, z1]
        all_goals try (refine callK_of (rot (by omega) (by omega) _ _ (by simp -implicitDefEqProofs (maxSteps := 2000000) (disch := omega) only [go_sem, condB_t, condB_f, pf0, dec_t, dec_f, and_of, ↓reduceIte, Nat.reduceEqDiff, Nat.reduceMul, Nat.reduceAdd, Nat.reduceSub, Nat.reduceLT, Nat.reduceLeDiff, Int.reduceToNat, Nat.reducePow, Int.reducePow, Int.reduceLT, Int.reduceLE, Int.reduceNeg, Int.reduceAdd, Int.reduceSub, Int.reduceMul, decide_true, decide_false, reduceCtorEq])) ?_; simp -implicitDefEqProofs (maxSteps := 2000000) (disch := omega) only [go_sem, condB_t, condB_f, pf0, dec_t, dec_f, and_of, ↓reduceIte, Nat.reduceEqDiff, Nat.reduceMul, Nat.reduceAdd, Nat.reduceSub, Nat.reduceLT, Nat.reduceLeDiff, Int.reduceToNat, Nat.reducePow, Int.reducePow, Int.reduceLT, Int.reduceLE, Int.reduceNeg, Int.reduceAdd, Int.reduceSub, Int.reduceMul, decide_true, decide_false, reduceCtorEq, z1])
        all_goals try rw [nm1 (by omega)]
        all_goals try (refine callK_of (m1 (by omega) (by omega) _ _ (by simp -implicitDefEqProofs (maxSteps := 2000000) (disch := omega) only [go_sem, condB_t, condB_f, pf0, dec_t, dec_f, and_of, ↓reduceIte, Nat.reduceEqDiff, Nat.reduceMul, Nat.reduceAdd, Nat.reduceSub, Nat.reduceLT, Nat.reduceLeDiff, Int.reduceToNat, Nat.reducePow, Int.reducePow, Int.reduceLT, Int.reduceLE, Int.reduceNeg, Int.reduceAdd, Int.reduceSub, Int.reduceMul, decide_true, decide_false, reduceCtorEq])) ?_; simp -implicitDefEqProofs (maxSteps := 2000000) (disch := omega) only [go_sem, condB_t, condB_f, pf0, dec_t, dec_f, and_of, ↓reduceIte, Nat.reduceEqDiff, Nat.reduceMul, Nat.reduceAdd, Nat.reduceSub, Nat.reduceLT, Nat.reduceLeDiff, Int.reduceToNat, Nat.reducePow, Int.reducePow, Int.reduceLT, Int.reduceLE, Int.reduceNeg, Int.reduceAdd, Int.reduceSub, Int.reduceMul, decide_true, decide_false, reduceCtorEq, z1])
        all_goals try rw [nm2 (by omega)]
        all_goals try (refine callK_of (m2 (by omega) (by omega) _ _ (by simp -implicitDefEqProofs (maxSteps := 2000000) (disch := omega) only [go_sem, condB_t, condB_f, pf0, dec_t, dec_f, and_of, ↓reduceIte, Nat.reduceEqDiff, Nat.reduceMul, Nat.reduceAdd, Nat.reduceSub, Nat.reduceLT, Nat.reduceLeDiff, Int.reduceToNat, Nat.reducePow, Int.reducePow, Int.reduceLT, Int.reduceLE, Int.reduceNeg, Int.reduceAdd, Int.reduceSub, Int.reduceMul, decide_true, decide_false, reduceCtorEq])) ?_; simp -implicitDefEqProofs (maxSteps := 2000000) (disch := omega) only [go_sem, condB_t, condB_f, pf0, dec_t, dec_f, and_of, ↓reduceIte, Nat.reduceEqDiff, Nat.reduceMul, Nat.reduceAdd, Nat.reduceSub, Nat.reduceLT, Nat.reduceLeDiff, Int.reduceToNat, Nat.reducePow, Int.reducePow, Int.reduceLT, Int.reduceLE, Int.reduceNeg, Int.reduceAdd, Int.reduceSub, Int.reduceMul, decide_true, decide_false, reduceCtorEq, z1])
        all_goals first | exact .tup rfl nofun | exact ⟨fun _ _ => rfl, .tup rfl nofun⟩ | exact ⟨fun _ _ => by simp only [upd]; split <;> rfl, .tup rfl nofun⟩
end Go.Abs
