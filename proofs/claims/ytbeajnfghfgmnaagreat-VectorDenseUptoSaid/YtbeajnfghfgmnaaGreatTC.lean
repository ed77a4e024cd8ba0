/- Contracts and rules that the claim's text uses: YtzNat3; YtzNat4; YtzNat5; YtzNat6; YtzNat7; YtzNat8; YtzNat9; YtzNat10; YtzInt1; YtzRat1; YtzRef1; YtzRef2; YtzRef3; YtzRef4; YtzVec1; YtzVec2. No condition. -/
import Derived.Test.YtbeajnfghfgmnaaGreatTB
/-! YtzNat3: Natural numbers of the program: sums and differences. No condition. -/
set_option linter.unusedVariables false
set_option linter.unusedSimpArgs false
set_option maxRecDepth 100000
set_option maxHeartbeats 1000000
namespace Go.Abs
open Go.Proofs
@[go_sem] theorem R89 : Tryz.f89.results.toList = [.tmp 4] := rfl
@[go_sem] theorem R90 : Tryz.f90.results.toList = [.tmp 4, .tmp 5] := rfl
theorem add_spec (l m : List Nat) (hl : Lb l) (hm : Lb m) (sl : l.length ≤ 1099511627776) (sm : m.length ≤ 1099511627776) : PDet Tryz.prog 89 [nl l, nl m] (nl (lim (val l + val m))) := by
  refine pdet_of E0ok mixed Tryz.func89 (by kernel_rfl) rfl (by kernel_rfl) (Nat.le_of_ble_eq_true rfl) fun N0 h hn hmen => ?_
  have hl2 := lim_len_val hl
  have hm2 := lim_len_val hm
  unfold nl
  simp -implicitDefEqProofs (maxSteps := 2000000) (disch := omega) only [go_sem, simprocAttr, -List.reduceReplicate, condB_t, condB_f]
  refine callK_pure (view_spec l hl (by omega)) ?_
  unfold nl
  simp -implicitDefEqProofs (maxSteps := 2000000) (disch := omega) only [go_sem, simprocAttr, -List.reduceReplicate, condB_t, condB_f]
  refine callK_pure (view_spec m hm (by omega)) ?_
  unfold nl
  simp -implicitDefEqProofs (maxSteps := 2000000) (disch := omega) only [go_sem, simprocAttr, -List.reduceReplicate, condB_t, condB_f]
  have bl := lb_lim (val l)
  have vl := val_lim (val l)
  have bm := lb_lim (val m)
  have vm := val_lim (val m)
  generalize lim (val l) = a at *
  generalize lim (val m) = b at *
  rw [← vl, ← vm]
  by_cases hlt : a.length < b.length
  · simp -implicitDefEqProofs (maxSteps := 2000000) (disch := omega) only [go_sem, simprocAttr, -List.reduceReplicate, condB_t, condB_f]
    have hge : a.length ≤ b.length := by omega
    rw [Nat.add_comm]
    obtain ⟨id, hid⟩ : ∃ id, id = N0 + 152 := ⟨_, rfl⟩
    rw [← hid]
    clear hlt vl vm
    revert a b
    intro b hl2 bb a hm2 ba hge
    refine aw_loop (X := Nat × List Nat × Nat) (fun x => ⟨mkS [(0, .sl 1 (numL a)), (1, .sl 1 (numL b)), (5, .row id (a.length + 1) 0 (a.length + 1)), (6, .int .u64 x.2.2), (25, .sl 1 (numL a)), (26, .int .i64 a.length), (27, .int .i64 x.1)], mkH h [(id, ⟨1, numL x.2.1⟩)], id + 8⟩)
      (fun x => x.1 ≤ a.length ∧ x.2.1.length = a.length + 1 ∧ Lb x.2.1 ∧ x.2.2 ≤ 1 ∧ val (x.2.1.take x.1) + 4294967296 ^ x.1 * x.2.2 = val (a.take x.1) + val (b.take x.1)) (fun x => a.length - x.1)
      ⟨(0, List.replicate (a.length + 1) 0, 0), ⟨Nat.zero_le _, by simp, Lb.zeros _, Nat.zero_le _, by simp [val]⟩, ?_⟩ ?_
    · (refine Weak.head1 (by simp only [upd_same, mkH_cons, ↓reduceIte] <;> rfl) (by omega) (numL_leafU _ _) (fun q hq => by simp only [upd, mkH, if_neg hq]) (by omega) hmen ?_; simp -implicitDefEqProofs (maxSteps := 2000000) (disch := omega) only [go_sem, simprocAttr, -List.reduceReplicate, condB_t, condB_f, AllP, AVle_same, AVle_int, AVle_nil, AVle_row, topU_int, topU_bool, topU_sl, topU_row, topU_ptr, topU_iptr, topU_fn, val, List.drop_length])
    · rintro ⟨k, o, c⟩ ⟨hk, ho, lo, hc, hv⟩
      simp only at hk ho lo hc hv
      by_cases h0 : k < a.length
      · have hx := ba.get k
        have hy := bb.get k
        by_cases h1 : k < b.length
        · simp -implicitDefEqProofs (maxSteps := 2000000) (disch := omega) only [go_sem, simprocAttr, -List.reduceReplicate, condB_t, condB_f]
          refine ⟨(k + 1, o.set k ((a.getD k 0 + (c + b.getD k 0)) % 4294967296), (a.getD k 0 + (c + b.getD k 0)) / 4294967296), ⟨by omega, by simp [ho], lo.set (by omega), (by first | omega | (simp only; omega)), ?_⟩, (by first | omega | (simp only; omega)), ?_⟩
          · rw [val_set_take (by omega), val_take_succ h0, val_take_succ h1, Nat.pow_succ]
            exact add_step hv rfl
          · (refine Weak.head1 (by simp only [upd_same, mkH_cons, ↓reduceIte] <;> rfl) (by omega) (numL_leafU _ _) (fun q hq => by simp only [upd, mkH, if_neg hq]) (by omega) hmen ?_; simp -implicitDefEqProofs (maxSteps := 2000000) (disch := omega) only [go_sem, simprocAttr, -List.reduceReplicate, condB_t, condB_f, AllP, AVle_same, AVle_int, AVle_nil, AVle_row, topU_int, topU_bool, topU_sl, topU_row, topU_ptr, topU_iptr, topU_fn, val, List.drop_length])
        · simp -implicitDefEqProofs (maxSteps := 2000000) (disch := omega) only [go_sem, simprocAttr, -List.reduceReplicate, condB_t, condB_f]
          refine ⟨(k + 1, o.set k ((a.getD k 0 + c) % 4294967296), (a.getD k 0 + c) / 4294967296), ⟨by omega, by simp [ho], lo.set (by omega), (by first | omega | (simp only; omega)), ?_⟩, (by first | omega | (simp only; omega)), ?_⟩
          · rw [val_set_take (by omega), val_take_succ h0, val_take_le (by omega), Nat.pow_succ]
            exact add_step (y := 0) hv rfl
          · (refine Weak.head1 (by simp only [upd_same, mkH_cons, ↓reduceIte] <;> rfl) (by omega) (numL_leafU _ _) (fun q hq => by simp only [upd, mkH, if_neg hq]) (by omega) hmen ?_; simp -implicitDefEqProofs (maxSteps := 2000000) (disch := omega) only [go_sem, simprocAttr, -List.reduceReplicate, condB_t, condB_f, AllP, AVle_same, AVle_int, AVle_nil, AVle_row, topU_int, topU_bool, topU_sl, topU_row, topU_ptr, topU_iptr, topU_fn, val, List.drop_length])
      · obtain rfl : k = a.length := by omega
        simp -implicitDefEqProofs (maxSteps := 2000000) (disch := omega) only [go_sem, simprocAttr, -List.reduceReplicate, condB_t, condB_f]
        have hv2 : val (o.set a.length c) = val a + val b := by
          have h1 := val_set_take (o := o) (k := a.length) (x := c) (by omega)
          rw [List.take_of_length_le (by simp [ho])] at h1
          rw [List.take_of_length_le (Nat.le_refl a.length), List.take_of_length_le hge] at hv
          omega
        have hc2 := view_spec (o.set a.length c) (lo.set (by omega)) (by simp; omega)
        rw [hv2] at hc2
        refine callK_row hc2 (by simp only [upd_same]; rfl) (by simp [ho]) (by omega) (List.take_of_length_le (by simp [ho])) (numL_plain _) ?_
        simp -implicitDefEqProofs (maxSteps := 2000000) (disch := omega) only [go_sem, simprocAttr, -List.reduceReplicate, condB_t, condB_f]
        exact dn
  · simp -implicitDefEqProofs (maxSteps := 2000000) (disch := omega) only [go_sem, simprocAttr, -List.reduceReplicate, condB_t, condB_f]
    have hge : b.length ≤ a.length := by omega
    obtain ⟨id, hid⟩ : ∃ id, id = N0 + 120 := ⟨_, rfl⟩
    rw [← hid]
    clear hlt vl vm
    revert a b
    intro a hl2 ba b hm2 bb hge
    refine aw_loop (X := Nat × List Nat × Nat) (fun x => ⟨mkS [(0, .sl 1 (numL a)), (1, .sl 1 (numL b)), (5, .row id (a.length + 1) 0 (a.length + 1)), (6, .int .u64 x.2.2), (25, .sl 1 (numL a)), (26, .int .i64 a.length), (27, .int .i64 x.1)], mkH h [(id, ⟨1, numL x.2.1⟩)], id + 8⟩)
      (fun x => x.1 ≤ a.length ∧ x.2.1.length = a.length + 1 ∧ Lb x.2.1 ∧ x.2.2 ≤ 1 ∧ val (x.2.1.take x.1) + 4294967296 ^ x.1 * x.2.2 = val (a.take x.1) + val (b.take x.1)) (fun x => a.length - x.1)
      ⟨(0, List.replicate (a.length + 1) 0, 0), ⟨Nat.zero_le _, by simp, Lb.zeros _, Nat.zero_le _, by simp [val]⟩, ?_⟩ ?_
    · (refine Weak.head1 (by simp only [upd_same, mkH_cons, ↓reduceIte] <;> rfl) (by omega) (numL_leafU _ _) (fun q hq => by simp only [upd, mkH, if_neg hq]) (by omega) hmen ?_; simp -implicitDefEqProofs (maxSteps := 2000000) (disch := omega) only [go_sem, simprocAttr, -List.reduceReplicate, condB_t, condB_f, AllP, AVle_same, AVle_int, AVle_nil, AVle_row, topU_int, topU_bool, topU_sl, topU_row, topU_ptr, topU_iptr, topU_fn, val, List.drop_length])
    · rintro ⟨k, o, c⟩ ⟨hk, ho, lo, hc, hv⟩
      simp only at hk ho lo hc hv
      by_cases h0 : k < a.length
      · have hx := ba.get k
        have hy := bb.get k
        by_cases h1 : k < b.length
        · simp -implicitDefEqProofs (maxSteps := 2000000) (disch := omega) only [go_sem, simprocAttr, -List.reduceReplicate, condB_t, condB_f]
          refine ⟨(k + 1, o.set k ((a.getD k 0 + (c + b.getD k 0)) % 4294967296), (a.getD k 0 + (c + b.getD k 0)) / 4294967296), ⟨by omega, by simp [ho], lo.set (by omega), (by first | omega | (simp only; omega)), ?_⟩, (by first | omega | (simp only; omega)), ?_⟩
          · rw [val_set_take (by omega), val_take_succ h0, val_take_succ h1, Nat.pow_succ]
            exact add_step hv rfl
          · (refine Weak.head1 (by simp only [upd_same, mkH_cons, ↓reduceIte] <;> rfl) (by omega) (numL_leafU _ _) (fun q hq => by simp only [upd, mkH, if_neg hq]) (by omega) hmen ?_; simp -implicitDefEqProofs (maxSteps := 2000000) (disch := omega) only [go_sem, simprocAttr, -List.reduceReplicate, condB_t, condB_f, AllP, AVle_same, AVle_int, AVle_nil, AVle_row, topU_int, topU_bool, topU_sl, topU_row, topU_ptr, topU_iptr, topU_fn, val, List.drop_length])
        · simp -implicitDefEqProofs (maxSteps := 2000000) (disch := omega) only [go_sem, simprocAttr, -List.reduceReplicate, condB_t, condB_f]
          refine ⟨(k + 1, o.set k ((a.getD k 0 + c) % 4294967296), (a.getD k 0 + c) / 4294967296), ⟨by omega, by simp [ho], lo.set (by omega), (by first | omega | (simp only; omega)), ?_⟩, (by first | omega | (simp only; omega)), ?_⟩
          · rw [val_set_take (by omega), val_take_succ h0, val_take_le (by omega), Nat.pow_succ]
            exact add_step (y := 0) hv rfl
          · (refine Weak.head1 (by simp only [upd_same, mkH_cons, ↓reduceIte] <;> rfl) (by omega) (numL_leafU _ _) (fun q hq => by simp only [upd, mkH, if_neg hq]) (by omega) hmen ?_; simp -implicitDefEqProofs (maxSteps := 2000000) (disch := omega) only [go_sem, simprocAttr, -List.reduceReplicate, condB_t, condB_f, AllP, AVle_same, AVle_int, AVle_nil, AVle_row, topU_int, topU_bool, topU_sl, topU_row, topU_ptr, topU_iptr, topU_fn, val, List.drop_length])
      · obtain rfl : k = a.length := by omega
        simp -implicitDefEqProofs (maxSteps := 2000000) (disch := omega) only [go_sem, simprocAttr, -List.reduceReplicate, condB_t, condB_f]
        have hv2 : val (o.set a.length c) = val a + val b := by
          have h1 := val_set_take (o := o) (k := a.length) (x := c) (by omega)
          rw [List.take_of_length_le (by simp [ho])] at h1
          rw [List.take_of_length_le (Nat.le_refl a.length), List.take_of_length_le hge] at hv
          omega
        have hc2 := view_spec (o.set a.length c) (lo.set (by omega)) (by simp; omega)
        rw [hv2] at hc2
        refine callK_row hc2 (by simp only [upd_same]; rfl) (by simp [ho]) (by omega) (List.take_of_length_le (by simp [ho])) (numL_plain _) ?_
        simp -implicitDefEqProofs (maxSteps := 2000000) (disch := omega) only [go_sem, simprocAttr, -List.reduceReplicate, condB_t, condB_f]
        exact dn
theorem sub_no (l m : List Nat) (hl : Lb l) (hm : Lb m) (sl : l.length ≤ 1099511627776) (sm : m.length ≤ 1099511627776) (hlt : val l < val m) : PDet Tryz.prog 90 [nl l, nl m] (.tup [.sl 1 [], .bool false]) := by
  refine pdet_of E0ok mixed Tryz.func90 (by kernel_rfl) rfl (by kernel_rfl) (Nat.le_of_ble_eq_true rfl) fun N0 h hn hmen => ?_
  have hc := compare_spec l m hl hm sl sm
  rw [cmpN_lt hlt] at hc
  unfold nl at *
  simp -implicitDefEqProofs (maxSteps := 2000000) (disch := omega) only [go_sem, simprocAttr, -List.reduceReplicate, condB_t, condB_f]
  refine callK_pure hc ?_
  simp -implicitDefEqProofs (maxSteps := 2000000) (disch := omega) only [go_sem, simprocAttr, -List.reduceReplicate, condB_t, condB_f]
  exact .tup2 (.nil 1) (.refl _ rfl)
theorem sub_ok (l m : List Nat) (hl : Lb l) (hm : Lb m) (sl : l.length ≤ 1099511627776) (sm : m.length ≤ 1099511627776) (hge : val m ≤ val l) : PDet Tryz.prog 90 [nl l, nl m] (.tup [nl (lim (val l - val m)), .bool true]) := by
  refine pdet_of E0ok mixed Tryz.func90 (by kernel_rfl) rfl (by kernel_rfl) (Nat.le_of_ble_eq_true rfl) fun N0 h hn hmen => ?_
  have hc := compare_spec l m hl hm sl sm
  have hcn : 0 ≤ cmpN (val l) (val m) := by
    rcases Nat.lt_or_ge (val m) (val l) with h | h
    · rw [cmpN_gt h]; decide
    · rw [cmpN_eq (by omega)]; decide
  have hl2 := lim_len_val hl
  have hm2 := lim_len_val hm
  unfold nl at *
  simp -implicitDefEqProofs (maxSteps := 2000000) (disch := omega) only [go_sem, simprocAttr, -List.reduceReplicate, condB_t, condB_f]
  refine callK_pure hc ?_
  generalize cmpN (val l) (val m) = cc at hcn
  simp -implicitDefEqProofs (maxSteps := 2000000) (disch := omega) only [go_sem, simprocAttr, -List.reduceReplicate, condB_t, condB_f]
  refine callK_pure (view_spec l hl (by omega)) ?_
  unfold nl
  simp -implicitDefEqProofs (maxSteps := 2000000) (disch := omega) only [go_sem, simprocAttr, -List.reduceReplicate, condB_t, condB_f]
  refine callK_pure (view_spec m hm (by omega)) ?_
  unfold nl
  simp -implicitDefEqProofs (maxSteps := 2000000) (disch := omega) only [go_sem, simprocAttr, -List.reduceReplicate, condB_t, condB_f]
  have ba := lb_lim (val l)
  have va := val_lim (val l)
  have bb := lb_lim (val m)
  have vb := val_lim (val m)
  have hlen := lim_len_mono hge
  generalize lim (val l) = a at *
  generalize lim (val m) = b at *
  obtain ⟨id, hid⟩ : ∃ id, id = N0 + 112 := ⟨_, rfl⟩
  rw [← hid]
  refine aw_loop (X := Nat × List Nat × Nat) (fun x => ⟨mkS [(0, .sl 1 (numL a)), (1, .sl 1 (numL b)), (6, .row id a.length 0 a.length), (7, .int .u64 x.2.2), (22, .sl 1 (numL a)), (23, .int .i64 a.length), (24, .int .i64 x.1)], mkH h [(id, ⟨1, numL x.2.1⟩)], id + 8⟩)
    (fun x => x.1 ≤ a.length ∧ x.2.1.length = a.length ∧ Lb x.2.1 ∧ x.2.2 ≤ 1 ∧ val (x.2.1.take x.1) + val (b.take x.1) = val (a.take x.1) + 4294967296 ^ x.1 * x.2.2) (fun x => a.length - x.1)
    ⟨(0, List.replicate a.length 0, 0), ⟨Nat.zero_le _, by simp, Lb.zeros _, Nat.zero_le _, by simp [val]⟩, ?_⟩ ?_
  · (refine Weak.head1 (by simp only [upd_same, mkH_cons, ↓reduceIte] <;> rfl) (by omega) (numL_leafU _ _) (fun q hq => by simp only [upd, mkH, if_neg hq]) (by omega) hmen ?_; simp -implicitDefEqProofs (maxSteps := 2000000) (disch := omega) only [go_sem, simprocAttr, -List.reduceReplicate, condB_t, condB_f, AllP, AVle_same, AVle_int, AVle_nil, AVle_row, topU_int, topU_bool, topU_sl, topU_row, topU_ptr, topU_iptr, topU_fn, val, List.drop_length])
  · rintro ⟨k, o, c⟩ ⟨hk, ho, lo, hc1, hv⟩
    simp only at hk ho lo hc1 hv
    by_cases h0 : k < a.length
    · have hx := ba.get k
      have hy := bb.get k
      by_cases h1 : k < b.length
      · simp -implicitDefEqProofs (maxSteps := 2000000) (disch := omega) only [go_sem, simprocAttr, -List.reduceReplicate, condB_t, condB_f]
        obtain ⟨d, hd⟩ : ∃ d, d = ((a.getD k 0 + 18446744073709551616 - c) % 18446744073709551616 + 18446744073709551616 - b.getD k 0) % 18446744073709551616 := ⟨_, rfl⟩
        rw [← hd]
        refine ⟨(k + 1, o.set k (d % 4294967296), d / 9223372036854775808), ⟨by omega, by simp [ho], lo.set (by omega), (by first | omega | (simp only; omega)), ?_⟩, (by first | omega | (simp only; omega)), ?_⟩
        · rw [val_set_take (by omega), val_take_succ h0, val_take_succ h1, Nat.pow_succ]
          exact sub_step hv (by first | omega | (simp only; omega))
        · (refine Weak.head1 (by simp only [upd_same, mkH_cons, ↓reduceIte] <;> rfl) (by omega) (numL_leafU _ _) (fun q hq => by simp only [upd, mkH, if_neg hq]) (by omega) hmen ?_; simp -implicitDefEqProofs (maxSteps := 2000000) (disch := omega) only [go_sem, simprocAttr, -List.reduceReplicate, condB_t, condB_f, AllP, AVle_same, AVle_int, AVle_nil, AVle_row, topU_int, topU_bool, topU_sl, topU_row, topU_ptr, topU_iptr, topU_fn, val, List.drop_length])
      · simp -implicitDefEqProofs (maxSteps := 2000000) (disch := omega) only [go_sem, simprocAttr, -List.reduceReplicate, condB_t, condB_f]
        obtain ⟨d, hd⟩ : ∃ d, d = (a.getD k 0 + 18446744073709551616 - c) % 18446744073709551616 := ⟨_, rfl⟩
        rw [← hd]
        refine ⟨(k + 1, o.set k (d % 4294967296), d / 9223372036854775808), ⟨by omega, by simp [ho], lo.set (by omega), (by first | omega | (simp only; omega)), ?_⟩, (by first | omega | (simp only; omega)), ?_⟩
        · rw [val_set_take (by omega), val_take_succ h0, val_take_le (by omega), Nat.pow_succ]
          exact sub_step (y := 0) hv (by first | omega | (simp only; omega))
        · (refine Weak.head1 (by simp only [upd_same, mkH_cons, ↓reduceIte] <;> rfl) (by omega) (numL_leafU _ _) (fun q hq => by simp only [upd, mkH, if_neg hq]) (by omega) hmen ?_; simp -implicitDefEqProofs (maxSteps := 2000000) (disch := omega) only [go_sem, simprocAttr, -List.reduceReplicate, condB_t, condB_f, AllP, AVle_same, AVle_int, AVle_nil, AVle_row, topU_int, topU_bool, topU_sl, topU_row, topU_ptr, topU_iptr, topU_fn, val, List.drop_length])
    · obtain rfl : k = a.length := by omega
      rw [List.take_of_length_le (by omega), List.take_of_length_le hlen, List.take_of_length_le (Nat.le_refl _)] at hv
      have hlt := val_lt lo
      rw [ho] at hlt
      have hv2 : val o = val l - val m := by
        have : c = 0 := by
          rcases Nat.eq_zero_or_pos c with h | h
          · exact h
          · obtain rfl : c = 1 := by omega
            omega
        subst this
        omega
      simp -implicitDefEqProofs (maxSteps := 2000000) (disch := omega) only [go_sem, simprocAttr, -List.reduceReplicate, condB_t, condB_f]
      have hc2 := view_spec o lo (by omega)
      rw [hv2] at hc2
      refine callK_row hc2 (by simp only [upd_same, mkH_cons, ↓reduceIte] <;> rfl) (by simp [ho]) (by omega) (List.take_of_length_le (by simp [ho])) (numL_plain _) ?_
      simp -implicitDefEqProofs (maxSteps := 2000000) (disch := omega) only [go_sem, simprocAttr, -List.reduceReplicate, condB_t, condB_f]
      exact dn
end Go.Abs
/-! YtzNat4: Natural numbers of the program: products. No condition. -/
set_option linter.unusedVariables false
set_option linter.unusedSimpArgs false
set_option maxRecDepth 100000
set_option maxHeartbeats 1000000
namespace Go.Abs
open Go.Proofs
@[go_sem] theorem R66 : Tryz.f66.results.toList = [.tmp 4] := rfl
theorem mul_spec (l m : List Nat) (hl : Lb l) (hm : Lb m) (sl : l.length ≤ 1099511627776) (sm : m.length ≤ 1099511627776) : PDet Tryz.prog 66 [nl l, nl m] (nl (lim (val l * val m))) := by
  refine pdet_of E0ok mixed Tryz.func66 (by kernel_rfl) rfl (by kernel_rfl) (Nat.le_of_ble_eq_true rfl) fun N0 h hn hmen => ?_
  have hl2 := lim_len_val hl
  have hm2 := lim_len_val hm
  unfold nl
  simp -implicitDefEqProofs (maxSteps := 2000000) (disch := omega) only [go_sem, simprocAttr, -List.reduceReplicate, condB_t, condB_f]
  refine callK_pure (view_spec l hl (by omega)) ?_
  unfold nl
  simp -implicitDefEqProofs (maxSteps := 2000000) (disch := omega) only [go_sem, simprocAttr, -List.reduceReplicate, condB_t, condB_f]
  refine callK_pure (view_spec m hm (by omega)) ?_
  unfold nl
  have ba := lb_lim (val l)
  have va := val_lim (val l)
  have bb := lb_lim (val m)
  have vb := val_lim (val m)
  generalize lim (val l) = a at *
  generalize lim (val m) = b at *
  by_cases ha0 : a.length = 0
  · rw [List.length_eq_zero_iff] at ha0
    subst ha0
    rw [← va, val, Nat.zero_mul, lim_zero]
    simp -implicitDefEqProofs (maxSteps := 2000000) (disch := omega) only [go_sem, simprocAttr, -List.reduceReplicate, condB_t, condB_f]
    exact .val (.nil 1)
  by_cases hb0 : b.length = 0
  · rw [List.length_eq_zero_iff] at hb0
    subst hb0
    rw [← vb, val, Nat.mul_zero, lim_zero]
    simp -implicitDefEqProofs (maxSteps := 2000000) (disch := omega) only [go_sem, simprocAttr, -List.reduceReplicate, condB_t, condB_f]
    exact .val (.nil 1)
  simp -implicitDefEqProofs (maxSteps := 2000000) (disch := omega) only [go_sem, simprocAttr, -List.reduceReplicate, condB_t, condB_f]
  rw [← va, ← vb]
  obtain ⟨id, hid⟩ : ∃ id, id = N0 + 160 := ⟨_, rfl⟩
  rw [← hid]
  refine aw_loop (X := Nat × List Nat) (fun x => ⟨mkS [(0, .sl 1 (numL a)), (1, .sl 1 (numL b)), (5, .row id (a.length + b.length) 0 (a.length + b.length)), (30, .sl 1 (numL a)), (31, .int .i64 a.length), (32, .int .i64 x.1)], mkH h [(id, ⟨1, numL x.2⟩)], id + 8⟩)
    (fun x => x.1 ≤ a.length ∧ x.2.length = a.length + b.length ∧ Lb x.2 ∧ val (x.2.take (x.1 + b.length)) = val (a.take x.1) * val b) (fun x => a.length - x.1)
    ⟨(0, List.replicate (a.length + b.length) 0), ⟨Nat.zero_le _, by simp, Lb.zeros _, by simp [List.take_replicate, val_zeros, val]⟩, ?_⟩ ?_
  · (refine Weak.head1 (by simp only [upd_same, mkH_cons, ↓reduceIte] <;> rfl) (by omega) (numL_leafU _ _) (fun q hq => by simp only [upd, mkH, if_neg hq]) (by omega) hmen ?_; simp -implicitDefEqProofs (maxSteps := 2000000) (disch := omega) only [go_sem, simprocAttr, -List.reduceReplicate, condB_t, condB_f, AllP, AVle_same, AVle_int, AVle_nil, AVle_row, topU_int, topU_bool, topU_sl, topU_row, topU_ptr, topU_iptr, topU_fn, val, List.drop_length])
  · rintro ⟨i, o0⟩ ⟨hi, ho0, lo0, hv0⟩
    simp only at hi ho0 lo0 hv0
    by_cases h0 : i < a.length
    · have hx := ba.get i
      simp -implicitDefEqProofs (maxSteps := 2000000) (disch := omega) only [go_sem, simprocAttr, -List.reduceReplicate, condB_t, condB_f]
      refine aw_loop (X := Nat × List Nat × Nat) (fun x => ⟨mkS [(0, .sl 1 (numL a)), (1, .sl 1 (numL b)), (5, .row id (a.length + b.length) 0 (a.length + b.length)), (6, .int .i64 i), (7, .int .u32 (a.getD i 0 : Nat)), (8, .int .u64 x.2.2), (30, .sl 1 (numL a)), (31, .int .i64 a.length), (32, .int .i64 i), (37, .sl 1 (numL b)), (38, .int .i64 b.length), (39, .int .i64 x.1)], mkH h [(id, ⟨1, numL x.2.1⟩)], id + 8⟩)
        (fun x => x.1 ≤ b.length ∧ x.2.1.length = a.length + b.length ∧ Lb x.2.1 ∧ x.2.2 < 4294967296 ∧ x.2.1.drop (i + x.1) = o0.drop (i + x.1) ∧
          val (x.2.1.take (i + x.1)) + 4294967296 ^ i * 4294967296 ^ x.1 * x.2.2 = val (o0.take (i + x.1)) + 4294967296 ^ i * a.getD i 0 * val (b.take x.1)) (fun x => b.length - x.1)
        ⟨(0, o0, 0), ⟨Nat.zero_le _, ho0, lo0, (by first | omega | (simp only; omega)), rfl, by simp [val]⟩, ?_⟩ ?_
      · (refine Weak.head1 (by simp only [upd_same, mkH_cons, ↓reduceIte] <;> rfl) (by omega) (numL_leafU _ _) (fun q hq => by simp only [upd, mkH, if_neg hq]) (by omega) hmen ?_; simp -implicitDefEqProofs (maxSteps := 2000000) (disch := omega) only [go_sem, simprocAttr, -List.reduceReplicate, condB_t, condB_f, AllP, AVle_same, AVle_int, AVle_nil, AVle_row, topU_int, topU_bool, topU_sl, topU_row, topU_ptr, topU_iptr, topU_fn, val, List.drop_length])
      · rintro ⟨k, o, c⟩ ⟨hk, ho, lo, hc, hd, hv⟩
        simp only at hk ho lo hc hd hv
        by_cases h1 : k < b.length
        · have hy := bb.get k
          have hw := lo.get (i + k)
          have hxy : a.getD i 0 * b.getD k 0 ≤ 18446744065119617025 := Nat.mul_le_mul (show a.getD i 0 ≤ 4294967295 by omega) (show b.getD k 0 ≤ 4294967295 by omega)
          simp -implicitDefEqProofs (maxSteps := 2000000) (disch := omega) only [go_sem, simprocAttr, -List.reduceReplicate, condB_t, condB_f]
          refine ⟨(k + 1, o.set (i + k) ((a.getD i 0 * b.getD k 0 + (o.getD (i + k) 0 + c)) % 4294967296), (a.getD i 0 * b.getD k 0 + (o.getD (i + k) 0 + c)) / 4294967296), ⟨by omega, by simp [ho], lo.set (by omega), (by first | omega | (simp only; omega)), ?_, ?_⟩, (by first | omega | (simp only; omega)), ?_⟩
          · show (o.set (i + k) _).drop (i + k + 1) = o0.drop (i + k + 1)
            rw [drop_set_lt (by omega)]
            exact drop_succ_of hd
          · show val ((o.set (i + k) _).take (i + k + 1)) + _ * _ ^ (k + 1) * _ = val (o0.take (i + k + 1)) + _
            rw [val_set_take (by omega), val_take_succ (l := o0) (by omega), val_take_succ h1, Nat.pow_succ, Nat.pow_add, ← getD_of_drop hd (Nat.le_refl _), ← Nat.mul_assoc (4294967296 ^ i)]
            exact mul_step hv
          · (refine Weak.head1 (by simp only [upd_same, mkH_cons, ↓reduceIte] <;> rfl) (by omega) (numL_leafU _ _) (fun q hq => by simp only [upd, mkH, if_neg hq]) (by omega) hmen ?_; simp -implicitDefEqProofs (maxSteps := 2000000) (disch := omega) only [go_sem, simprocAttr, -List.reduceReplicate, condB_t, condB_f, AllP, AVle_same, AVle_int, AVle_nil, AVle_row, topU_int, topU_bool, topU_sl, topU_row, topU_ptr, topU_iptr, topU_fn, val, List.drop_length])
        · obtain rfl : k = b.length := by omega
          simp -implicitDefEqProofs (maxSteps := 2000000) (disch := omega) only [go_sem, simprocAttr, -List.reduceReplicate, condB_t, condB_f]
          refine ⟨(i + 1, o.set (i + b.length) c), ⟨by omega, by simp [ho], lo.set hc, ?_⟩, (by first | omega | (simp only; omega)), ?_⟩
          · show val ((o.set (i + b.length) c).take (i + 1 + b.length)) = _
            rw [show i + 1 + b.length = i + b.length + 1 by omega, val_set_take (by omega), Nat.pow_add, hv, hv0, List.take_of_length_le (Nat.le_refl _), val_take_succ h0, Nat.add_mul]
          · (refine Weak.head1 (by simp only [upd_same, mkH_cons, ↓reduceIte] <;> rfl) (by omega) (numL_leafU _ _) (fun q hq => by simp only [upd, mkH, if_neg hq]) (by omega) hmen ?_; simp -implicitDefEqProofs (maxSteps := 2000000) (disch := omega) only [go_sem, simprocAttr, -List.reduceReplicate, condB_t, condB_f, AllP, AVle_same, AVle_int, AVle_nil, AVle_row, topU_int, topU_bool, topU_sl, topU_row, topU_ptr, topU_iptr, topU_fn, val, List.drop_length])
    · obtain rfl : i = a.length := by omega
      rw [List.take_of_length_le (by omega), List.take_of_length_le (Nat.le_refl _)] at hv0
      simp -implicitDefEqProofs (maxSteps := 2000000) (disch := omega) only [go_sem, simprocAttr, -List.reduceReplicate, condB_t, condB_f]
      have hc2 := view_spec o0 lo0 (by omega)
      rw [hv0] at hc2
      refine callK_row hc2 (by simp only [upd_same, mkH_cons, ↓reduceIte] <;> rfl) (by simp [ho0]) (by omega) (List.take_of_length_le (by simp [ho0])) (numL_plain _) ?_
      simp -implicitDefEqProofs (maxSteps := 2000000) (disch := omega) only [go_sem, simprocAttr, -List.reduceReplicate, condB_t, condB_f]
      exact dn
end Go.Abs
/-! YtzNat5: Natural numbers of the program: binary digits; division by one limb. No condition. -/
set_option linter.unusedVariables false
set_option linter.unusedSimpArgs false
set_option maxRecDepth 100000
set_option maxHeartbeats 1000000
namespace Go.Abs
open Go.Proofs
@[go_sem] theorem R77 : Tryz.f77.results.toList = [.tmp 2] := rfl
@[go_sem] theorem R55 : Tryz.f55.results.toList = [.tmp 2] := rfl
@[go_sem] theorem R97 : Tryz.f97.results.toList = [.tmp 4, .tmp 5] := rfl
theorem len32_spec (x : Nat) (hx : x < 4294967296) : PDet Tryz.prog 77 [.int .u32 x] (.int .i64 (nbits x : Nat)) := by
  refine pdet_of E0ok mixed Tryz.func77 (by kernel_rfl) rfl (by kernel_rfl) (Nat.le_of_ble_eq_true rfl) fun N0 h hn hmen => ?_
  by_cases h1 : 65536 ≤ x
  · have e1 : nbits x = 16 + nbits (x / 65536) := nbits_shift (k := 16) h1
    by_cases h2 : 256 ≤ x / 65536
    · have e2 : nbits (x / 65536) = 8 + nbits (x / 65536 / 256) := nbits_shift (k := 8) h2
      simp -implicitDefEqProofs (maxSteps := 2000000) (disch := omega) only [go_sem, simprocAttr, -List.reduceReplicate, condB_t, condB_f]
      exact len_end (by kernel_rfl) (by kernel_rfl) (by omega) (by omega) (by omega)
    · simp -implicitDefEqProofs (maxSteps := 2000000) (disch := omega) only [go_sem, simprocAttr, -List.reduceReplicate, condB_t, condB_f]
      exact len_end (by kernel_rfl) (by kernel_rfl) (by omega) (by omega) (by omega)
  · by_cases h2 : 256 ≤ x
    · have e2 : nbits x = 8 + nbits (x / 256) := nbits_shift (k := 8) h2
      simp -implicitDefEqProofs (maxSteps := 2000000) (disch := omega) only [go_sem, simprocAttr, -List.reduceReplicate, condB_t, condB_f]
      exact len_end (by kernel_rfl) (by kernel_rfl) (by omega) (by omega) (by omega)
    · simp -implicitDefEqProofs (maxSteps := 2000000) (disch := omega) only [go_sem, simprocAttr, -List.reduceReplicate, condB_t, condB_f]
      exact len_end (by kernel_rfl) (by kernel_rfl) (by omega) (by omega) (by omega)
theorem bits_spec (l : List Nat) (hb : Lb l) (hl : l.length ≤ 1099511627776) : PDet Tryz.prog 55 [nl l] (.int .i64 (nbits (val l) : Nat)) := by
  refine pdet_of E0ok mixed Tryz.func55 (by kernel_rfl) rfl (by kernel_rfl) (Nat.le_of_ble_eq_true rfl) fun N0 h hn hmen => ?_
  have hlen := lim_len_val hb
  have hpos : lim (val l) = [] ∨ (lim (val l)).length ≠ 0 := by
    by_cases h0 : (lim (val l)).length = 0
    · exact .inl (List.length_eq_zero_iff.1 h0)
    · exact .inr h0
  unfold nl
  simp -implicitDefEqProofs (maxSteps := 2000000) (disch := omega) only [go_sem, simprocAttr, -List.reduceReplicate, condB_t, condB_f]
  refine callK_pure (view_spec l hb (by omega)) ?_
  unfold nl
  rcases hpos with h0 | h0
  · have hv := lim_nil.1 h0
    rw [h0, hv]
    simp -implicitDefEqProofs (maxSteps := 2000000) (disch := omega) only [go_sem, simprocAttr, -List.reduceReplicate, condB_t, condB_f]
    exact .refl rfl
  · have ha := lb_lim (val l)
    have hv := val_lim (val l)
    have hne : val l ≠ 0 := fun e => h0 (by rw [e, lim_zero]; rfl)
    have htop : (lim (val l)).getD ((lim (val l)).length - 1) 0 ≠ 0 := fun e => by
      have h1 := le_of_lim hne
      have h2 := val_take_succ (l := lim (val l)) (k := (lim (val l)).length - 1) (by omega)
      have h3 := val_lt (ha.take ((lim (val l)).length - 1))
      rw [List.length_take, Nat.min_eq_left (by omega)] at h3
      rw [e, Nat.mul_zero, show (lim (val l)).length - 1 + 1 = (lim (val l)).length by omega, List.take_of_length_le (Nat.le_refl _), hv] at h2
      omega
    generalize lim (val l) = a at *
    have hx := ha.get (a.length - 1)
    have hn : nbits (val l) = 32 * (a.length - 1) + nbits (a.getD (a.length - 1) 0) := by
      rw [← hv]
      have h2 := val_take_succ (l := a) (k := a.length - 1) (by omega)
      have h3 := val_lt (ha.take (a.length - 1))
      rw [List.length_take, Nat.min_eq_left (by omega)] at h3
      rw [show a.length - 1 + 1 = a.length by omega, List.take_of_length_le (Nat.le_refl _)] at h2
      rw [h2, show (4294967296 : Nat) ^ (a.length - 1) = 2 ^ (32 * (a.length - 1)) by rw [Nat.pow_mul]]
      rw [show (4294967296 : Nat) ^ (a.length - 1) = 2 ^ (32 * (a.length - 1)) by rw [Nat.pow_mul]] at h3
      exact nbits_top h3 htop
    simp -implicitDefEqProofs (maxSteps := 2000000) (disch := omega) only [go_sem, simprocAttr, -List.reduceReplicate, condB_t, condB_f]
    refine callK_pure (len32_spec _ hx) ?_
    have hle := nbits_le (n := a.getD (a.length - 1) 0) (k := 32) hx
    rw [hn]
    simp -implicitDefEqProofs (maxSteps := 2000000) (disch := omega) only [go_sem, simprocAttr, -List.reduceReplicate, condB_t, condB_f]
    exact .int (by omega)
theorem short_spec (l : List Nat) (d : Nat) (hb : Lb l) (hl : l.length ≤ 1099511627776) (hd : 0 < d) (hd2 : d < 4294967296) : PDet Tryz.prog 97 [nl l, .int .u32 d] (.tup [nl (lim (val l / d)), .int .u32 (val l % d : Nat)]) := by
  refine pdet_of E0ok mixed Tryz.func97 (by kernel_rfl) rfl (by kernel_rfl) (Nat.le_of_ble_eq_true rfl) fun N0 h hn hmen => ?_
  unfold nl
  simp -implicitDefEqProofs (maxSteps := 2000000) (disch := omega) only [go_sem, simprocAttr, -List.reduceReplicate, condB_t, condB_f]
  obtain ⟨id, hid⟩ : ∃ id, id = N0 + 32 := ⟨_, rfl⟩
  rw [← hid]
  refine aw_loop (X := Nat × List Nat × Nat) (fun x => ⟨mkS [(0, .sl 1 (numL l)), (1, .int .u32 d), (6, .row id l.length 0 l.length), (7, .int .u64 x.2.2), (8, .int .i64 ((x.1 : Int) - 1))], mkH h [(id, ⟨1, numL x.2.1⟩)], id + 8⟩)
    (fun x => x.1 ≤ l.length ∧ x.2.1.length = l.length ∧ Lb x.2.1 ∧ x.2.2 < d ∧ val (x.2.1.drop x.1) * d + x.2.2 = val (l.drop x.1)) (fun x => x.1)
    ⟨(l.length, List.replicate l.length 0, 0), ⟨Nat.le_refl _, by simp, Lb.zeros _, hd, by simp [val]⟩, ?_⟩ ?_
  · (refine Weak.head1 (by simp only [upd_same, mkH_cons, ↓reduceIte] <;> rfl) (by omega) (numL_leafU _ _) (fun q hq => by simp only [upd, mkH, if_neg hq]) (by omega) hmen ?_; simp -implicitDefEqProofs (maxSteps := 2000000) (disch := omega) only [go_sem, simprocAttr, -List.reduceReplicate, condB_t, condB_f, AllP, AVle_same, AVle_int, AVle_nil, AVle_row, topU_int, topU_bool, topU_sl, topU_row, topU_ptr, topU_iptr, topU_fn, val, List.drop_length])
  · rintro ⟨k, o, r⟩ ⟨hk, ho, lo, hr, hv⟩
    simp only at hk ho lo hr hv
    by_cases h0 : 0 < k
    · have hx := hb.get (k - 1)
      have hq := short_lt hr hx
      simp -implicitDefEqProofs (maxSteps := 2000000) (disch := omega) only [go_sem, simprocAttr, -List.reduceReplicate, condB_t, condB_f]
      refine ⟨(k - 1, o.set (k - 1) ((r * 4294967296 + l.getD (k - 1) 0) / d), (r * 4294967296 + l.getD (k - 1) 0) % d), ⟨by omega, by simp [ho], lo.set hq, Nat.mod_lt _ hd, ?_⟩, (by first | omega | (simp only; omega)), ?_⟩
      · show val ((o.set (k - 1) _).drop (k - 1)) * d + _ = val (l.drop (k - 1))
        rw [drop_set_self (by omega), val_drop (l := l) (by omega), val, show k - 1 + 1 = k by omega]
        exact short_step hv rfl
      · (refine Weak.head1 (by simp only [upd_same, mkH_cons, ↓reduceIte] <;> rfl) (by omega) (numL_leafU _ _) (fun q hq => by simp only [upd, mkH, if_neg hq]) (by omega) hmen ?_; simp -implicitDefEqProofs (maxSteps := 2000000) (disch := omega) only [go_sem, simprocAttr, -List.reduceReplicate, condB_t, condB_f, AllP, AVle_same, AVle_int, AVle_nil, AVle_row, topU_int, topU_bool, topU_sl, topU_row, topU_ptr, topU_iptr, topU_fn, val, List.drop_length])
    · obtain rfl : k = 0 := by omega
      have hv2 : val o * d + r = val l := hv
      obtain ⟨e1, e2⟩ := div_mod_of hv2 hr
      simp -implicitDefEqProofs (maxSteps := 2000000) (disch := omega) only [go_sem, simprocAttr, -List.reduceReplicate, condB_t, condB_f]
      have hc2 := view_spec o lo (by omega)
      rw [← e1] at hc2
      refine callK_row hc2 (by simp only [upd_same, mkH_cons, ↓reduceIte] <;> rfl) (by simp [ho]) (by omega) (List.take_of_length_le (by simp [ho])) (numL_plain _) ?_
      simp -implicitDefEqProofs (maxSteps := 2000000) (disch := omega) only [go_sem, simprocAttr, -List.reduceReplicate, condB_t, condB_f]
      rw [← e2]
      exact dn
end Go.Abs
/-! YtzNat6: Natural numbers of the program: shifts. No condition. -/
set_option linter.unusedVariables false
set_option linter.unusedSimpArgs false
set_option maxRecDepth 100000
set_option maxHeartbeats 1000000
namespace Go.Abs
open Go.Proofs
@[go_sem] theorem R111 : Tryz.f111.results.toList = [.tmp 4] := rfl
@[go_sem] theorem R107 : Tryz.f107.results.toList = [.tmp 4] := rfl
theorem left_spec (l : List Nat) (s : Nat) (hb : Lb l) (hs : s < 32) (hl : l.length ≤ 1099511627776) (h : Heap) (m : Nat) : ADet Tryz.prog 107 [nl l, .int .u64 s] h m (.row m (l.length + 1) 0 (l.length + 1)) (upd h m (some ⟨1, numL (limN (l.length + 1) (val l * 2 ^ s))⟩)) := by
  refine anew_of E0ok mixed Tryz.func107 (by kernel_rfl) rfl (by kernel_rfl) (Nat.le_of_ble_eq_true rfl) (fun _ h => h) (fun r hr => (numL_plain _ r hr).2) fun N0 hn hmen _ => ⟨hmen, ?_⟩
  unfold nl
  simp -implicitDefEqProofs (maxSteps := 2000000) (disch := omega) only [go_sem, simprocAttr, -List.reduceReplicate, condB_t, condB_f]
  obtain ⟨id, hid⟩ : ∃ id, id = N0 + 32 := ⟨_, rfl⟩
  rw [← hid]
  refine aw_loop (X := Nat × List Nat) (fun x => ⟨mkS [(0, .sl 1 (numL l)), (1, .int .u64 s), (5, .row id (l.length + 1) 0 (l.length + 1)), (13, .sl 1 (numL l)), (14, .int .i64 l.length), (15, .int .i64 x.1)], mkH h [(id, ⟨1, numL x.2⟩)], id + 8⟩)
    (fun x => x.1 ≤ l.length ∧ x.2.length = l.length + 1 ∧ Lb x.2 ∧ x.2.getD x.1 0 < 2 ^ s ∧ val (x.2.take (x.1 + 1)) = val (l.take x.1) * 2 ^ s) (fun x => l.length - x.1)
    ⟨(0, List.replicate (l.length + 1) 0), ⟨Nat.zero_le _, by simp, Lb.zeros _, by simp [Nat.two_pow_pos], by simp [val]⟩, ?_⟩ ?_
  · (refine Weak.head1 (by simp only [upd_same, mkH_cons, ↓reduceIte] <;> rfl) (by omega) (numL_leafU _ _) (fun q hq => by simp only [upd, mkH, if_neg hq]) (by omega) hmen ?_; simp -implicitDefEqProofs (maxSteps := 2000000) (disch := omega) only [go_sem, simprocAttr, -List.reduceReplicate, condB_t, condB_f, AllP, AVle_same, AVle_int, AVle_nil, AVle_row, topU_int, topU_bool, topU_sl, topU_row, topU_ptr, topU_iptr, topU_fn, val, List.drop_length])
  · rintro ⟨k, o⟩ ⟨hk, ho, lo, h2, hv⟩
    simp only at hk ho lo h2 hv
    have hs64 : 2 ^ s ≤ 2147483648 := by
      have : 2 ^ s ≤ 2 ^ 31 := Nat.pow_le_pow_right (by decide) (by omega)
      omega
    by_cases h0 : k < l.length
    · have hx := hb.get k
      have hxs : l.getD k 0 * 2 ^ s ≤ 4294967295 * 2147483648 := Nat.mul_le_mul (by omega) hs64
      obtain ⟨hor, hlt⟩ := shl_or (x := l.getD k 0) h2 (by omega)
      have hhi : l.getD k 0 * 2 ^ s / 4294967296 < 2 ^ s := by
        rw [Nat.div_lt_iff_lt_mul (by decide), Nat.mul_comm]
        exact Nat.mul_lt_mul_of_pos_left hx (Nat.two_pow_pos s)
      simp -implicitDefEqProofs (maxSteps := 2000000) (disch := omega) only [go_sem, simprocAttr, -List.reduceReplicate, condB_t, condB_f, hor]
      refine ⟨(k + 1, (o.set k (o.getD k 0 + l.getD k 0 * 2 ^ s % 4294967296)).set (k + 1) (l.getD k 0 * 2 ^ s / 4294967296)), ⟨by omega, by simp [ho], (lo.set hlt).set (by omega), ?_, ?_⟩, (by first | omega | (simp only; omega)), ?_⟩
      · show ((o.set k _).set (k + 1) _).getD (k + 1) 0 < _
        rw [getD_set_self (by simp; omega)]
        exact hhi
      · show val (((o.set k _).set (k + 1) _).take (k + 1 + 1)) = _
        rw [val_set_take (by simp; omega), val_set_take (by omega), val_take_succ h0, Nat.pow_succ]
        rw [val_take_succ (by omega)] at hv
        refine left_step hv ?_
        omega
      · (refine Weak.head1 (by simp only [upd_same, mkH_cons, ↓reduceIte] <;> rfl) (by omega) (numL_leafU _ _) (fun q hq => by simp only [upd, mkH, if_neg hq]) (by omega) hmen ?_; simp -implicitDefEqProofs (maxSteps := 2000000) (disch := omega) only [go_sem, simprocAttr, -List.reduceReplicate, condB_t, condB_f, AllP, AVle_same, AVle_int, AVle_nil, AVle_row, topU_int, topU_bool, topU_sl, topU_row, topU_ptr, topU_iptr, topU_fn, val, List.drop_length])
    · obtain rfl : k = l.length := by omega
      have e : o = limN (l.length + 1) (val l * 2 ^ s) := by
        rw [List.take_of_length_le (by omega), List.take_of_length_le (Nat.le_refl _)] at hv
        rw [← hv, ← ho]; exact limN_of o lo
      subst e
      simp -implicitDefEqProofs (maxSteps := 2000000) (disch := omega) only [go_sem, simprocAttr, -List.reduceReplicate, condB_t, condB_f]
      exact ⟨id, by omega, by rw [if_pos rfl], .val (.row _ _ _)⟩
theorem right_spec (l : List Nat) (s : Nat) (hb : Lb l) (hs : s < 32) (hl : l.length ≤ 1099511627776) : PDet Tryz.prog 111 [nl l, .int .u64 s] (nl (lim (val l / 2 ^ s))) := by
  refine pdet_of E0ok mixed Tryz.func111 (by kernel_rfl) rfl (by kernel_rfl) (Nat.le_of_ble_eq_true rfl) fun N0 h hn hmen => ?_
  unfold nl
  simp -implicitDefEqProofs (maxSteps := 2000000) (disch := omega) only [go_sem, simprocAttr, -List.reduceReplicate, condB_t, condB_f]
  obtain ⟨id, hid⟩ : ∃ id, id = N0 + 24 := ⟨_, rfl⟩
  rw [← hid]
  refine aw_loop (X := Nat × List Nat) (fun x => ⟨mkS [(0, .sl 1 (numL l)), (1, .int .u64 s), (5, .row id l.length 0 l.length), (12, .sl 1 (numL l)), (13, .int .i64 l.length), (14, .int .i64 x.1)], mkH h [(id, ⟨1, numL x.2⟩)], id + 8⟩)
    (fun x => x.1 ≤ l.length ∧ x.2.length = l.length ∧ x.2.take x.1 = (limN l.length (val l / 2 ^ s)).take x.1) (fun x => l.length - x.1)
    ⟨(0, List.replicate l.length 0), ⟨Nat.zero_le _, by simp, rfl⟩, ?_⟩ ?_
  · (refine Weak.head1 (by simp only [upd_same, mkH_cons, ↓reduceIte] <;> rfl) (by omega) (numL_leafU _ _) (fun q hq => by simp only [upd, mkH, if_neg hq]) (by omega) hmen ?_; simp -implicitDefEqProofs (maxSteps := 2000000) (disch := omega) only [go_sem, simprocAttr, -List.reduceReplicate, condB_t, condB_f, AllP, AVle_same, AVle_int, AVle_nil, AVle_row, topU_int, topU_bool, topU_sl, topU_row, topU_ptr, topU_iptr, topU_fn, val, List.drop_length])
  · rintro ⟨k, o⟩ ⟨hk, ho, hv⟩
    simp only at hk ho hv
    by_cases h0 : k < l.length
    · have hx := hb.get k
      have hy := hb.get (k + 1)
      have hdig : (limN l.length (val l / 2 ^ s)).getD k 0 = val (l.drop k) / 2 ^ s % 4294967296 := by
        rw [limN_getD h0, Nat.div_div_eq_div_mul, Nat.mul_comm, ← Nat.div_div_eq_div_mul, val_drop_div hb (by omega)]
      have step : ∀ d, (limN l.length (val l / 2 ^ s)).getD k 0 = d → (o.set k d).take (k + 1) = (limN l.length (val l / 2 ^ s)).take (k + 1) := fun d hd => by
        rw [take_set_succ (by omega), take_succ_getD (by rw [limN_len]; omega), hv, hd]
      by_cases h1 : k + 1 < l.length
      · have hd2 : (limN l.length (val l / 2 ^ s)).getD k 0 = (l.getD k 0 + l.getD (k + 1) 0 * 4294967296) / 2 ^ s % 4294967296 := by
          rw [hdig, val_drop h0, val_drop h1, ← shr_digit (u := l.getD k 0 + l.getD (k + 1) 0 * 4294967296) (R := val (l.drop (k + 1 + 1))) (by omega)]
          congr 2; omega
        simp -implicitDefEqProofs (maxSteps := 2000000) (disch := omega) only [go_sem, simprocAttr, -List.reduceReplicate, condB_t, condB_f]
        refine ⟨(k + 1, o.set k ((l.getD k 0 + l.getD (k + 1) 0 * 4294967296) / 2 ^ s % 4294967296)), ⟨by omega, by simp [ho], step _ hd2⟩, (by first | omega | (simp only; omega)), ?_⟩
        (refine Weak.head1 (by simp only [upd_same, mkH_cons, ↓reduceIte] <;> rfl) (by omega) (numL_leafU _ _) (fun q hq => by simp only [upd, mkH, if_neg hq]) (by omega) hmen ?_; simp -implicitDefEqProofs (maxSteps := 2000000) (disch := omega) only [go_sem, simprocAttr, -List.reduceReplicate, condB_t, condB_f, AllP, AVle_same, AVle_int, AVle_nil, AVle_row, topU_int, topU_bool, topU_sl, topU_row, topU_ptr, topU_iptr, topU_fn, val, List.drop_length])
      · have hd2 : (limN l.length (val l / 2 ^ s)).getD k 0 = l.getD k 0 / 2 ^ s % 4294967296 := by
          rw [hdig, val_drop h0, List.drop_of_length_le (by omega)]; rfl
        have hlt : l.getD k 0 / 2 ^ s < 4294967296 := Nat.lt_of_le_of_lt (Nat.div_le_self _ _) hx
        rw [Nat.mod_eq_of_lt hlt] at hd2
        simp -implicitDefEqProofs (maxSteps := 2000000) (disch := omega) only [go_sem, simprocAttr, -List.reduceReplicate, condB_t, condB_f]
        refine ⟨(k + 1, o.set k (l.getD k 0 / 2 ^ s)), ⟨by omega, by simp [ho], step _ hd2⟩, (by first | omega | (simp only; omega)), ?_⟩
        (refine Weak.head1 (by simp only [upd_same, mkH_cons, ↓reduceIte] <;> rfl) (by omega) (numL_leafU _ _) (fun q hq => by simp only [upd, mkH, if_neg hq]) (by omega) hmen ?_; simp -implicitDefEqProofs (maxSteps := 2000000) (disch := omega) only [go_sem, simprocAttr, -List.reduceReplicate, condB_t, condB_f, AllP, AVle_same, AVle_int, AVle_nil, AVle_row, topU_int, topU_bool, topU_sl, topU_row, topU_ptr, topU_iptr, topU_fn, val, List.drop_length])
    · obtain rfl : k = l.length := by omega
      rw [List.take_of_length_le (by omega), List.take_of_length_le (by rw [limN_len]; omega)] at hv
      subst hv
      have hlt : val l / 2 ^ s < 4294967296 ^ l.length := Nat.lt_of_le_of_lt (Nat.div_le_self _ _) (val_lt hb)
      simp -implicitDefEqProofs (maxSteps := 2000000) (disch := omega) only [go_sem, simprocAttr, -List.reduceReplicate, condB_t, condB_f]
      have hc2 := view_spec (limN l.length (val l / 2 ^ s)) (limN_lb _ _) (by rw [limN_len]; omega)
      rw [val_limN hlt] at hc2
      refine callK_row hc2 (by simp only [upd_same, mkH_cons, ↓reduceIte] <;> rfl) (by simp [limN_len]) (by omega) (List.take_of_length_le (by simp [limN_len])) (numL_plain _) ?_
      simp -implicitDefEqProofs (maxSteps := 2000000) (disch := omega) only [go_sem, simprocAttr, -List.reduceReplicate, condB_t, condB_f]
      exact dn
end Go.Abs
/-! YtzNat7: Natural numbers of the program: the parts of long division. No condition. -/
set_option linter.unusedVariables false
set_option linter.unusedSimpArgs false
set_option maxRecDepth 100000
set_option maxHeartbeats 1000000
namespace Go.Abs
open Go.Proofs
@[go_sem] theorem R110 : Tryz.f110.results.toList = [] := rfl
@[go_sem] theorem R109 : Tryz.f109.results.toList = [.tmp 6] := rfl
theorem putWin_of {U o : List Nat} {off n x : Nat} (hb : Lb o) (hl : off + n ≤ o.length) (h1 : o.take off = U.take off) (h2 : o.drop (off + n) = U.drop (off + n)) (hv : val ((o.drop off).take n) = x) : o = putWin U off n x := by
  have := window_of hb hl
  rw [h1, h2, hv] at this
  exact this
theorem restore_spec (U v : List Nat) (off : Nat) (h : Heap) (id m N : Nat) (hid : h id = some ⟨1, numL U⟩) (hU : Lb U) (hv : Lb v) (hN : U.length = N) (hw : off + (v.length + 1) ≤ N) (hs : N ≤ 2199023255552) :
    ADet Tryz.prog 110 [.row id N off (v.length + 1), nl v] h m (.tup []) (upd h id (some ⟨1, numL (putWin U off (v.length + 1) ((val ((U.drop off).take (v.length + 1)) + val v) % 4294967296 ^ (v.length + 1)))⟩)) := by
  refine adet_of E0ok mixed Tryz.func110 (by kernel_rfl) rfl (by kernel_rfl) (Nat.le_of_ble_eq_true rfl) (none_put hid) fun N0 hn hmen _ => ⟨hmen.put hid (numL_leafU _ _), ?_⟩
  unfold nl
  simp -implicitDefEqProofs (maxSteps := 2000000) (disch := omega) only [go_sem, simprocAttr, -List.reduceReplicate, condB_t, condB_f, hid]
  have hidlt : id < N0 := (hmen id _ hid).1
  refine aw_loop (X := Nat × List Nat × Nat) (fun x => ⟨mkS [(0, .row id N off (v.length + 1)), (1, .sl 1 (numL v)), (4, .int .u64 x.2.2), (8, .sl 1 (numL v)), (9, .int .i64 v.length), (10, .int .i64 x.1)], mkH h [(id, ⟨1, numL x.2.1⟩)], N0 + 8⟩)
    (fun x => x.1 ≤ v.length ∧ x.2.1.length = N ∧ Lb x.2.1 ∧ x.2.2 ≤ 1 ∧ x.2.1.take off = U.take off ∧ x.2.1.drop (off + x.1) = U.drop (off + x.1) ∧ val ((x.2.1.drop off).take x.1) + 4294967296 ^ x.1 * x.2.2 = val ((U.drop off).take x.1) + val (v.take x.1)) (fun x => v.length - x.1)
    ⟨(0, U, 0), ⟨Nat.zero_le _, hN, hU, Nat.zero_le _, rfl, rfl, by simp [val]⟩, ?_⟩ ?_
  · (refine Weak.head1 hid (by omega) (numL_leafU _ _) (fun q hq => rfl) (by omega) hmen ?_; simp -implicitDefEqProofs (maxSteps := 2000000) (disch := omega) only [go_sem, simprocAttr, -List.reduceReplicate, condB_t, condB_f, AllP, AVle_same, AVle_int, AVle_nil, AVle_row, topU_int, topU_bool, topU_sl, topU_row, topU_ptr, topU_iptr, topU_fn, val, List.drop_length])
  · rintro ⟨k, o, c⟩ ⟨hk, ho, lo, hc, ht, hd, hval⟩
    simp only at hk ho lo hc ht hd hval
    have hu := lo.get (off + k)
    have eu : U.getD (off + k) 0 = o.getD (off + k) 0 := (getD_of_drop hd (Nat.le_refl _)).symm
    by_cases h0 : k < v.length
    · have hx := hv.get k
      simp -implicitDefEqProofs (maxSteps := 2000000) (disch := omega) only [go_sem, simprocAttr, -List.reduceReplicate, condB_t, condB_f]
      refine ⟨(k + 1, o.set (off + k) ((o.getD (off + k) 0 + (v.getD k 0 + c)) % 4294967296), (o.getD (off + k) 0 + (v.getD k 0 + c)) / 4294967296), ⟨by omega, by simp [ho], lo.set (by omega), (by first | omega | (simp only; omega)), ?_, ?_, ?_⟩, (by first | omega | (simp only; omega)), ?_⟩
      · show (o.set (off + k) _).take off = _
        rw [List.take_set_of_le (by omega)]; exact ht
      · show (o.set (off + k) _).drop (off + k + 1) = U.drop (off + k + 1)
        rw [drop_set_lt (by omega)]; exact drop_succ_of hd
      · show val (((o.set (off + k) _).drop off).take (k + 1)) + _ = _
        rw [drop_take_set (by omega), drop_take_succ (by omega), val_take_succ h0, Nat.pow_succ, eu]
        exact add_step hval (by omega)
      · (refine Weak.head1 (by simp only [upd_same, mkH_cons, ↓reduceIte] <;> rfl) (by omega) (numL_leafU _ _) (fun q hq => by simp only [upd, mkH, if_neg hq]) (by omega) hmen ?_; simp -implicitDefEqProofs (maxSteps := 2000000) (disch := omega) only [go_sem, simprocAttr, -List.reduceReplicate, condB_t, condB_f, AllP, AVle_same, AVle_int, AVle_nil, AVle_row, topU_int, topU_bool, topU_sl, topU_row, topU_ptr, topU_iptr, topU_fn, val, List.drop_length])
    · obtain rfl : k = v.length := by omega
      simp -implicitDefEqProofs (maxSteps := 2000000) (disch := omega) only [go_sem, simprocAttr, -List.reduceReplicate, condB_t, condB_f]
      have e : o.set (off + v.length) ((o.getD (off + v.length) 0 + c) % 4294967296) = putWin U off (v.length + 1) ((val ((U.drop off).take (v.length + 1)) + val v) % 4294967296 ^ (v.length + 1)) := by
        refine putWin_of (lo.set (by omega)) (by simp; omega) (by rw [List.take_set_of_le (by omega)]; exact ht) (by rw [drop_set_lt (by omega)]; exact drop_succ_of hd) ?_
        have hW := val_lt ((lo.drop off).take v.length)
        rw [List.length_take, List.length_drop, Nat.min_eq_left (by omega)] at hW
        rw [drop_take_set (by omega), drop_take_succ (o := U) (by omega), eu, Nat.pow_succ, ← mod_top hW]
        rw [List.take_of_length_le (Nat.le_refl v.length)] at hval
        congr 1
        rw [Nat.mul_add]; omega
      rw [e]
      simp -implicitDefEqProofs (maxSteps := 2000000) (disch := omega) only [go_sem, simprocAttr, -List.reduceReplicate, condB_t, condB_f]
      exact .tup rfl nofun
theorem subtract_spec (U v : List Nat) (off g : Nat) (h : Heap) (id m N : Nat) (hid : h id = some ⟨1, numL U⟩) (hU : Lb U) (hv : Lb v) (hN : U.length = N) (hw : off + (v.length + 1) ≤ N) (hs : N ≤ 2199023255552) (hg : g ≤ 4294967296) (neg : Bool) (x : Nat)
    (hx : x + g * val v = val ((U.drop off).take (v.length + 1)) + 4294967296 ^ (v.length + 1) * (if neg then 1 else 0)) (hx2 : x < 4294967296 ^ (v.length + 1)) :
    ADet Tryz.prog 109 [.row id N off (v.length + 1), nl v, .int .u64 g] h m (.bool neg) (upd h id (some ⟨1, numL (putWin U off (v.length + 1) x)⟩)) := by
  refine adet_of E0ok mixed Tryz.func109 (by kernel_rfl) rfl (by kernel_rfl) (Nat.le_of_ble_eq_true rfl) (none_put hid) fun N0 hn hmen _ => ⟨hmen.put hid (numL_leafU _ _), ?_⟩
  unfold nl
  simp -implicitDefEqProofs (maxSteps := 2000000) (disch := omega) only [go_sem, simprocAttr, -List.reduceReplicate, condB_t, condB_f, hid]
  have hidlt : id < N0 := (hmen id _ hid).1
  refine aw_loop (X := Nat × List Nat × Nat × Nat) (fun x => ⟨mkS [(0, .row id N off (v.length + 1)), (1, .sl 1 (numL v)), (2, .int .u64 g), (7, .int .u64 x.2.2.1), (8, .int .u64 x.2.2.2), (15, .sl 1 (numL v)), (16, .int .i64 v.length), (17, .int .i64 x.1)], mkH h [(id, ⟨1, numL x.2.1⟩)], N0 + 8⟩)
    (fun x => x.1 ≤ v.length ∧ x.2.1.length = N ∧ Lb x.2.1 ∧ x.2.2.1 < 4294967296 ∧ x.2.2.2 ≤ 1 ∧ x.2.1.take off = U.take off ∧ x.2.1.drop (off + x.1) = U.drop (off + x.1) ∧ val ((x.2.1.drop off).take x.1) + g * val (v.take x.1) = val ((U.drop off).take x.1) + 4294967296 ^ x.1 * (x.2.2.1 + x.2.2.2)) (fun x => v.length - x.1)
    ⟨(0, U, 0, 0), ⟨Nat.zero_le _, hN, hU, by simp, Nat.zero_le _, rfl, rfl, by simp [val]⟩, ?_⟩ ?_
  · (refine Weak.head1 hid (by omega) (numL_leafU _ _) (fun q hq => rfl) (by omega) hmen ?_; simp -implicitDefEqProofs (maxSteps := 2000000) (disch := omega) only [go_sem, simprocAttr, -List.reduceReplicate, condB_t, condB_f, AllP, AVle_same, AVle_int, AVle_nil, AVle_row, topU_int, topU_bool, topU_sl, topU_row, topU_ptr, topU_iptr, topU_fn, val, List.drop_length])
  · rintro ⟨k, o, c, b⟩ ⟨hk, ho, lo, hc, hb, ht, hd, hval⟩
    simp only at hk ho lo hc hb ht hd hval
    have hu := lo.get (off + k)
    have eu : U.getD (off + k) 0 = o.getD (off + k) 0 := (getD_of_drop hd (Nat.le_refl _)).symm
    by_cases h0 : k < v.length
    · have hy := hv.get k
      have hgx : g * v.getD k 0 ≤ 4294967296 * 4294967295 := Nat.mul_le_mul hg (by omega)
      simp -implicitDefEqProofs (maxSteps := 2000000) (disch := omega) only [go_sem, simprocAttr, -List.reduceReplicate, condB_t, condB_f]
      obtain ⟨q, hq⟩ : ∃ q, q = g * v.getD k 0 + c := ⟨_, rfl⟩
      rw [← hq]
      obtain ⟨d, hdd⟩ : ∃ d, d = ((o.getD (off + k) 0 + 18446744073709551616 - q % 4294967296) % 18446744073709551616 + 18446744073709551616 - b) % 18446744073709551616 := ⟨_, rfl⟩
      rw [← hdd]
      refine ⟨(k + 1, o.set (off + k) (d % 4294967296), q / 4294967296, d / 9223372036854775808), ⟨by omega, by simp [ho], lo.set (by omega), (by first | omega | (simp only; omega)), (by first | omega | (simp only; omega)), ?_, ?_, ?_⟩, (by first | omega | (simp only; omega)), ?_⟩
      · show (o.set (off + k) _).take off = _
        rw [List.take_set_of_le (by omega)]; exact ht
      · show (o.set (off + k) _).drop (off + k + 1) = U.drop (off + k + 1)
        rw [drop_set_lt (by omega)]; exact drop_succ_of hd
      · show val (((o.set (off + k) _).drop off).take (k + 1)) + _ = _
        rw [drop_take_set (by omega), drop_take_succ (by omega), val_take_succ h0, Nat.pow_succ, eu]
        exact subt_step hval hq (by first | omega | (simp only; omega)) rfl
      · (refine Weak.head1 (by simp only [upd_same, mkH_cons, ↓reduceIte] <;> rfl) (by omega) (numL_leafU _ _) (fun q hq => by simp only [upd, mkH, if_neg hq]) (by omega) hmen ?_; simp -implicitDefEqProofs (maxSteps := 2000000) (disch := omega) only [go_sem, simprocAttr, -List.reduceReplicate, condB_t, condB_f, AllP, AVle_same, AVle_int, AVle_nil, AVle_row, topU_int, topU_bool, topU_sl, topU_row, topU_ptr, topU_iptr, topU_fn, val, List.drop_length])
    · obtain rfl : k = v.length := by omega
      simp -implicitDefEqProofs (maxSteps := 2000000) (disch := omega) only [go_sem, simprocAttr, -List.reduceReplicate, condB_t, condB_f]
      obtain ⟨d, hdd⟩ : ∃ d, d = ((o.getD (off + v.length) 0 + 18446744073709551616 - c) % 18446744073709551616 + 18446744073709551616 - b) % 18446744073709551616 := ⟨_, rfl⟩
      rw [← hdd]
      obtain ⟨nb, hnb⟩ : ∃ nb, nb = d / 9223372036854775808 := ⟨_, rfl⟩
      have hst : d % 4294967296 + (c + b) = o.getD (off + v.length) 0 + 4294967296 * nb := by omega
      have hnb1 : nb ≤ 1 := by omega
      have hl2 : Lb (o.set (off + v.length) (d % 4294967296)) := lo.set (by omega)
      have hy : val (((o.set (off + v.length) (d % 4294967296)).drop off).take (v.length + 1)) + g * val v = val ((U.drop off).take (v.length + 1)) + 4294967296 ^ (v.length + 1) * nb := by
        rw [drop_take_set (by omega), drop_take_succ (o := U) (by omega), eu, Nat.pow_succ]
        rw [List.take_of_length_le (Nat.le_refl v.length)] at hval
        exact subt_end hval hst
      have hylt := val_lt ((hl2.drop off).take (v.length + 1))
      rw [List.length_take, List.length_drop, List.length_set, Nat.min_eq_left (by omega)] at hylt
      have key : val (((o.set (off + v.length) (d % 4294967296)).drop off).take (v.length + 1)) = x ∧ nb = (if neg then 1 else 0) := subt_key neg hy hx hylt hx2 hnb1
      have e := putWin_of (U := U) hl2 (by simp; omega) (by rw [List.take_set_of_le (by omega)]; exact ht) (by rw [drop_set_lt (by omega)]; exact drop_succ_of hd) key.1
      rw [e, ← hnb]
      simp -implicitDefEqProofs (maxSteps := 2000000) (disch := omega) only [go_sem, simprocAttr, -List.reduceReplicate, condB_t, condB_f]
      · have e2 : (!decide ((nb : Int) = 0)) = neg := by
          rw [key.2]; cases neg <;> simp
        rw [e2]
        exact .refl rfl
end Go.Abs
/-! YtzNat8: Natural numbers of the program: the estimate of a digit. No condition. -/
set_option linter.unusedVariables false
set_option linter.unusedSimpArgs false
set_option maxRecDepth 100000
set_option maxHeartbeats 1000000
namespace Go.Abs
open Go.Proofs
@[go_sem] theorem R108 : Tryz.f108.results.toList = [.tmp 4] := rfl
theorem estimate_spec (u v : List Nat) (hu : Lb u) (hv : Lb v) (n top second num u2 : Nat) (hvl : v.length = n) (hl : u.length = n + 1) (h2 : 2 ≤ n) (hs : n ≤ 1099511627776) (etop : v.getD (n - 1) 0 = top) (esec : v.getD (n - 2) 0 = second)
    (enum : num = u.getD n 0 * 4294967296 + u.getD (n - 1) 0) (eu2 : u.getD (n - 2) 0 = u2) (htop : 2147483648 ≤ top) (hun : u.getD n 0 ≤ top) :
    PDet Tryz.prog 108 [nl u, nl v] (.int .u64 (estG top second u2 (num / top) (num / top) (num % top) : Nat)) := by
  refine pdet_of E0ok mixed Tryz.func108 (by kernel_rfl) rfl (by kernel_rfl) (Nat.le_of_ble_eq_true rfl) fun N0 h hn hmen => ?_
  have b1 := hu.get n
  have b2 := hu.get (n - 1)
  have b3 := hu.get (n - 2)
  have b4 := hv.get (n - 1)
  have b5 := hv.get (n - 2)
  rw [etop] at b4
  rw [esec] at b5
  rw [eu2] at b3
  have hnum : num / top ≤ 4294967297 := by
    have : num / top < 4294967298 := by
      rw [Nat.div_lt_iff_lt_mul (by omega)]; omega
    omega
  have hrest : num % top < top := Nat.mod_lt _ (by omega)
  unfold nl
  simp -implicitDefEqProofs (maxSteps := 2000000) (disch := omega) only [go_sem, simprocAttr, -List.reduceReplicate, condB_t, condB_f, etop, esec, ← enum, hvl, hl]
  have htt : top * 1 ≤ top * 1 := Nat.le_refl _
  generalize hG : estG top second u2 (num / top) (num / top) (num % top) = G
  refine aw_loop (X := Nat × Nat × Nat) (fun x => ⟨mkS [(0, .sl 1 (numL u)), (5, .int .i64 n), (6, .int .u64 top), (7, .int .u64 second), (9, .int .u64 x.2.1), (10, .int .u64 x.2.2)], h, N0⟩)
    (fun x => estG top second u2 x.1 x.2.1 x.2.2 = G ∧ x.2.1 ≤ x.1 ∧ x.2.2 < 4294967296 ∧ x.2.1 ≤ 4294967297) (fun x => x.1)
    ⟨(num / top, num / top, num % top), ⟨hG, Nat.le_refl _, by show num % top < 4294967296; omega, hnum⟩, ?_⟩ ?_
  · (refine Weak.slots (allP ?_) (fun k0 b0 hb0 => by first | exact hb0 | (have hk1 := (hmen k0 b0 hb0).1; simp only [upd, mkH]; (repeat rw [if_neg (by omega)]); exact hb0)) (by omega) hmen; simp -implicitDefEqProofs (maxSteps := 2000000) (disch := omega) only [go_sem, simprocAttr, -List.reduceReplicate, condB_t, condB_f, AllP, AVle_same, AVle_int, AVle_nil, AVle_row, topU_int, topU_bool, topU_sl, topU_row, topU_ptr, topU_iptr, topU_fn, val, List.drop_length])
  · rintro ⟨f, g, r⟩ ⟨hg, hf, hr, hb⟩
    simp only at hg hf hr hb
    by_cases t1 : 4294967296 ≤ g
    · obtain ⟨f, rfl⟩ : ∃ j, f = j + 1 := ⟨f - 1, by omega⟩
      unfold estG at hg
      rw [if_pos (.inl t1)] at hg
      by_cases t2 : 4294967296 ≤ r + top
      · rw [if_pos t2] at hg
        subst hg
        simp -implicitDefEqProofs (maxSteps := 2000000) (disch := omega) only [go_sem, simprocAttr, -List.reduceReplicate, condB_t, condB_f]
        exact .refl rfl
      · rw [if_neg t2] at hg
        simp -implicitDefEqProofs (maxSteps := 2000000) (disch := omega) only [go_sem, simprocAttr, -List.reduceReplicate, condB_t, condB_f]
        refine ⟨(f, g - 1, r + top), ⟨hg, (by first | omega | (simp only; omega)), (by first | omega | (simp only; omega)), (by first | omega | (simp only; omega))⟩, (by first | omega | (simp only; omega)), ?_⟩
        (refine Weak.slots (allP ?_) (fun k0 b0 hb0 => by first | exact hb0 | (have hk1 := (hmen k0 b0 hb0).1; simp only [upd, mkH]; (repeat rw [if_neg (by omega)]); exact hb0)) (by omega) hmen; simp -implicitDefEqProofs (maxSteps := 2000000) (disch := omega) only [go_sem, simprocAttr, -List.reduceReplicate, condB_t, condB_f, AllP, AVle_same, AVle_int, AVle_nil, AVle_row, topU_int, topU_bool, topU_sl, topU_row, topU_ptr, topU_iptr, topU_fn, val, List.drop_length])
    · have hgs : g * second ≤ 4294967295 * 4294967295 := Nat.mul_le_mul (by omega) (by omega)
      clear htt hnum hrest hun enum b1 b2
      have hgs' : g * second ≤ 18446744065119617025 := hgs
      clear hgs
      by_cases t3 : r * 4294967296 + u2 < g * second
      · have hg0 : 0 < g := by
          rcases Nat.eq_zero_or_pos g with h | h
          · subst h; omega
          · exact h
        have t3d : decide (((r * 4294967296 + u2 : Nat) : Int) < ((g * second : Nat) : Int)) = true := by rw [decide_eq_true_eq]; exact Int.ofNat_lt.2 t3
        obtain ⟨f, rfl⟩ : ∃ j, f = j + 1 := ⟨f - 1, by omega⟩
        unfold estG at hg
        rw [if_pos (.inr t3)] at hg
        clear t3
        by_cases t2 : 4294967296 ≤ r + top
        · rw [if_pos t2] at hg
          subst hg
          simp -implicitDefEqProofs (maxSteps := 2000000) (disch := omega) only [go_sem, simprocAttr, -List.reduceReplicate, condB_t, condB_f, eu2, t3d]
          exact .refl rfl
        · rw [if_neg t2] at hg
          simp -implicitDefEqProofs (maxSteps := 2000000) (disch := omega) only [go_sem, simprocAttr, -List.reduceReplicate, condB_t, condB_f, eu2, t3d]
          refine ⟨(f, g - 1, r + top), ⟨hg, (by first | omega | (simp only; omega)), (by first | omega | (simp only; omega)), (by first | omega | (simp only; omega))⟩, (by first | omega | (simp only; omega)), ?_⟩
          (refine Weak.slots (allP ?_) (fun k0 b0 hb0 => by first | exact hb0 | (have hk1 := (hmen k0 b0 hb0).1; simp only [upd, mkH]; (repeat rw [if_neg (by omega)]); exact hb0)) (by omega) hmen; simp -implicitDefEqProofs (maxSteps := 2000000) (disch := omega) only [go_sem, simprocAttr, -List.reduceReplicate, condB_t, condB_f, AllP, AVle_same, AVle_int, AVle_nil, AVle_row, topU_int, topU_bool, topU_sl, topU_row, topU_ptr, topU_iptr, topU_fn, val, List.drop_length])
      · have e : G = g := by
          cases f with
          | zero => rw [← hg]; rfl
          | succ f => unfold estG at hg; rw [if_neg (by omega)] at hg; exact hg.symm
        subst e
        simp -implicitDefEqProofs (maxSteps := 2000000) (disch := omega) only [go_sem, simprocAttr, -List.reduceReplicate, condB_t, condB_f, eu2]
        exact .refl rfl
end Go.Abs
/-! YtzNat9: Natural numbers of the program: long division. No condition. -/
set_option linter.unusedVariables false
set_option linter.unusedSimpArgs false
set_option maxRecDepth 100000
set_option maxHeartbeats 1000000
namespace Go.Abs
open Go.Proofs
@[go_sem] theorem R106 : Tryz.f106.results.toList = [.tmp 2] := rfl
@[go_sem] theorem R98 : Tryz.f98.results.toList = [.tmp 4, .tmp 5] := rfl
theorem lz32_spec (x : Nat) (hx : x < 4294967296) : PDet Tryz.prog 106 [.int .u32 x] (.int .i64 ((32 - nbits x : Nat) : Int)) := by
  refine pdet_of E0ok mixed Tryz.func106 (by kernel_rfl) rfl (by kernel_rfl) (Nat.le_of_ble_eq_true rfl) fun N0 h hn hmen => ?_
  have hle := nbits_le (n := x) (k := 32) hx
  simp -implicitDefEqProofs (maxSteps := 2000000) (disch := omega) only [go_sem, simprocAttr, -List.reduceReplicate, condB_t, condB_f]
  refine callK_pure (len32_spec _ hx) ?_
  simp -implicitDefEqProofs (maxSteps := 2000000) (disch := omega) only [go_sem, simprocAttr, -List.reduceReplicate, condB_t, condB_f]
  exact .int (by omega)
theorem long_spec (A B n s : Nat) (hBn : (lim B).length = n) (h2 : 2 ≤ n) (hA : (lim A).length ≤ 1099511627776) (hle : n ≤ (lim A).length) (hAB : B ≤ A) (hs : s = 32 - nbits ((lim B).getD (n - 1) 0)) :
    PDet Tryz.prog 98 [nl (lim A), nl (lim B)] (.tup [nl (lim (A / B)), nl (lim (A % B))]) := by
  refine pdet_ofA E0ok mixed Tryz.func98 (by kernel_rfl) rfl (by kernel_rfl) (Nat.le_of_ble_eq_true rfl) fun N0 h hn hmen => ?_
  have hbA := lb_lim A
  have hbB := lb_lim B
  obtain ⟨hs32, hVlt, hVge⟩ := norm_top hBn (by omega) hs
  have htl := hbB.get (n - 1)
  have evA := val_lim A
  have evB := val_lim B
  generalize hla : (lim A).length = la at *
  unfold nl
  refine aw_seq1 ?_
  simp -implicitDefEqProofs (maxSteps := 2000000) (disch := omega) only [go_sem, simprocAttr, -List.reduceReplicate, condB_t, condB_f]
  refine aw_seq1 ?_
  simp -implicitDefEqProofs (maxSteps := 2000000) (disch := omega) only [go_sem, simprocAttr, -List.reduceReplicate, condB_t, condB_f, hBn]
  refine aw_seq1 ?_
  simp -implicitDefEqProofs (maxSteps := 2000000) (disch := omega) only [go_sem, simprocAttr, -List.reduceReplicate, condB_t, condB_f, hBn]
  refine callK_pure (lz32_spec _ htl) ?_
  rw [← hs]
  simp -implicitDefEqProofs (maxSteps := 2000000) (disch := omega) only [go_sem, simprocAttr, -List.reduceReplicate, condB_t, condB_f]
  refine aw_seq1 ?_
  simp -implicitDefEqProofs (maxSteps := 2000000) (disch := omega) only [go_sem, simprocAttr, -List.reduceReplicate, condB_t, condB_f]
  refine callK_of (left_spec (lim B) s hbB hs32 (by omega) _ _) ?_
  rw [evB, hBn]
  simp -implicitDefEqProofs (maxSteps := 2000000) (disch := omega) only [go_sem, simprocAttr, -List.reduceReplicate, condB_t, condB_f]
  refine aw_seq1 ?_
  simp -implicitDefEqProofs (maxSteps := 2000000) (disch := omega) only [go_sem, simprocAttr, -List.reduceReplicate, condB_t, condB_f]
  refine callK_of (left_spec (lim A) s hbA hs32 (by omega) _ _) ?_
  rw [evA, hla]
  simp -implicitDefEqProofs (maxSteps := 2000000) (disch := omega) only [go_sem, simprocAttr, -List.reduceReplicate, condB_t, condB_f]
  obtain ⟨dg, hdg⟩ : ∃ dg, dg + n = la + 1 := ⟨la + 1 - n, by omega⟩
  have hdgi : (la : Int) - (n : Int) + 1 = (dg : Int) := by omega
  refine aw_seq1 ?_
  simp -implicitDefEqProofs (maxSteps := 2000000) (disch := omega) only [go_sem, simprocAttr, -List.reduceReplicate, condB_t, condB_f, hla, hdgi]
  refine aw_seq1 ?_
  simp -implicitDefEqProofs (maxSteps := 2000000) (disch := omega) only [go_sem, simprocAttr, -List.reduceReplicate, condB_t, condB_f]
  obtain ⟨V, hV⟩ : ∃ V, V = B * 2 ^ s := ⟨_, rfl⟩
  obtain ⟨T, hT⟩ : ∃ T, T = A * 2 ^ s := ⟨_, rfl⟩
  rw [← hV, ← hT]
  rw [← hV] at hVlt hVge
  have hTlt : T < 4294967296 ^ (la + 1) := by
    rw [hT, Nat.pow_succ]
    have h1 := val_lt hbA
    rw [evA, hla] at h1
    have h3 : 2 ^ s ≤ 2 ^ 32 := Nat.pow_le_pow_right (by decide) (by omega)
    exact Nat.lt_of_lt_of_le (Nat.mul_lt_mul_of_pos_right h1 (Nat.two_pow_pos s)) (Nat.mul_le_mul_left _ h3)
  have hT2 : T < V * 4294967296 ^ dg := by
    have h1 := val_lt hbA
    rw [evA, hla] at h1
    have h3 : 2 ^ s ≤ 2 ^ 31 := Nat.pow_le_pow_right (by decide) (by omega)
    have h4 : T < 4294967296 ^ la * 2 ^ 31 := by
      rw [hT]; exact Nat.lt_of_lt_of_le (Nat.mul_lt_mul_of_pos_right h1 (Nat.two_pow_pos s)) (Nat.mul_le_mul_left _ h3)
    have h5 : 2147483648 * 4294967296 ^ (n - 1) * 4294967296 ^ dg ≤ V * 4294967296 ^ dg := Nat.mul_le_mul_right _ hVge
    rw [Nat.mul_assoc, ← Nat.pow_add, show n - 1 + dg = la by omega, Nat.mul_comm] at h5
    exact Nat.lt_of_lt_of_le h4 h5
  obtain ⟨v, ev⟩ : ∃ v, v = (limN (n + 1) V).take n := ⟨_, rfl⟩
  have hvb : Lb v := by rw [ev]; exact (limN_lb _ _).take n
  have hvl : v.length = n := by rw [ev]; simp [limN_len]
  have hvv : val v = V := by
    have h1 := val_take_drop (limN (n + 1) V) n (by rw [limN_len]; omega)
    rw [← ev, val_limN (Nat.lt_trans hVlt (Nat.pow_lt_pow_right (by decide) (Nat.lt_succ_self n)))] at h1
    rcases Nat.eq_zero_or_pos (val ((limN (n + 1) V).drop n)) with h | h
    · rw [h, Nat.mul_zero] at h1; omega
    · have := Nat.le_mul_of_pos_right (4294967296 ^ n) h
      omega
  have htop : 2147483648 ≤ v.getD (n - 1) 0 := by
    have h1 := val_two hvl h2
    have h4 := val_take_succ (l := v) (k := n - 1) (by omega)
    rw [show n - 1 + 1 = n by omega, List.take_of_length_le (by omega), hvv] at h4
    have h3 := val_lt (hvb.take (n - 1))
    rw [List.length_take, Nat.min_eq_left (by omega)] at h3
    rcases Nat.lt_or_ge (v.getD (n - 1) 0) 2147483648 with h | h
    · exfalso
      have h5 : 4294967296 ^ (n - 1) * (v.getD (n - 1) 0 + 1) ≤ 4294967296 ^ (n - 1) * 2147483648 := Nat.mul_le_mul_left _ h
      rw [Nat.mul_add, Nat.mul_one] at h5
      rw [Nat.mul_comm] at hVge
      omega
    · exact h
  have hV0 : 0 < V := by
    have : 0 < 4294967296 ^ (n - 1) := Nat.pow_pos (by decide)
    omega
  refine aw_seq1 ?_
  simp -implicitDefEqProofs (maxSteps := 2000000) (disch := omega) only [go_sem, simprocAttr, -List.reduceReplicate, condB_t, condB_f]
  refine aw_loop (X := Nat × List Nat × List Nat) (fun x => ⟨mkS [(4, .row (N0 + 240) dg 0 dg), (6, .int .i64 n), (7, .int .u64 s), (8, .sl 1 (numL v)), (9, .row (N0 + 168) (la + 1) 0 (la + 1)), (10, .int .i64 dg), (38, .int .i64 dg), (39, .int .i64 x.1)], mkH h [(N0 + 168, ⟨1, numL x.2.1⟩), (N0 + 240, ⟨1, numL x.2.2⟩)], N0 + 272⟩)
    (fun x => x.1 ≤ dg ∧ x.2.1.length = la + 1 ∧ Lb x.2.1 ∧ x.2.2.length = dg ∧ Lb x.2.2 ∧ (∀ j, j < dg - x.1 → x.2.2.getD j 0 = 0) ∧ val x.2.1 < V * 4294967296 ^ (dg - x.1) ∧ val x.2.1 + V * val x.2.2 = T) (fun x => dg - x.1)
    ⟨(0, limN (la + 1) T, List.replicate dg 0), ⟨Nat.zero_le _, by simp [limN_len], limN_lb _ _, by simp, Lb.zeros _, fun j hj => by simp [List.getD_eq_getElem?_getD, List.getElem?_replicate]; split <;> rfl, by rw [val_limN hTlt]; exact hT2, by rw [val_limN hTlt, val_zeros]; simp⟩, ?_⟩ ?_
  · refine Weak.headT2 (by simp -implicitDefEqProofs (maxSteps := 2000000) (disch := omega) only [go_sem, simprocAttr, -List.reduceReplicate, condB_t, condB_f]) (by omega) (numL_leafU _ _) (by simp -implicitDefEqProofs (maxSteps := 2000000) (disch := omega) only [go_sem, simprocAttr, -List.reduceReplicate, condB_t, condB_f]) (by omega) (numL_leafU _ _) (fun k b h1 h2 h3 => ?_) (by omega) hmen ?_
    · have : k ≠ N0 + 120 := fun e => by have := (hmen k b h3).1; omega
      simp only [upd, if_neg h1, if_neg h2, if_neg this]; exact h3
    · have hth : ThawT (gone (upd (upd (upd h (N0 + 120) (some { sz := 1, rows := numL (limN (n + 1) V) })) (N0 + 168) (some { sz := 1, rows := numL (limN (la + 1) T) })) (N0 + 240) (some { sz := 1, rows := numL (List.replicate dg 0) })) (mkH h [(N0 + 168, ⟨1, numL (limN (la + 1) T)⟩), (N0 + 240, ⟨1, numL (List.replicate dg 0)⟩)])) (.row (N0 + 120) (n + 1) 0 n) (.sl 1 (numL v)) := by
        refine .val (.leaf (Thaw.plain (rows := numL (limN (n + 1) V)) ?_ (by rw [numL_len, limN_len]) (by omega) (by rw [ev, List.drop_zero, numL_take]) (numL_plain _)))
        have h0 := hn (N0 + 120) (by omega)
        simp [gone, upd, mkH, h0]
      simp only [AllT]
      refine ⟨.inl ?_, ?_, .inl ?_, ?_, .inl ?_, ?_, .inr hth, ?_, .inl ?_, ?_, .inl ?_, ?_, .inl ?_, ?_, .inl ?_, ?_, trivial⟩ <;> first | exact .inr (.inl rfl) | trivial | (simp -implicitDefEqProofs (maxSteps := 2000000) (disch := omega) only [go_sem, simprocAttr, -List.reduceReplicate, condB_t, condB_f, AVle_same, AVle_int, AVle_row, topU_int, topU_sl, topU_row])
  · rintro ⟨k, U, q⟩ ⟨hk, hUl, hUb, hql, hqb, hq0, hUlt, hinv⟩
    simp only at hk hUl hUb hql hqb hq0 hUlt hinv
    by_cases h0 : k < dg
    · obtain ⟨j, hj⟩ : ∃ j, j + k + 1 = dg := ⟨dg - 1 - k, by omega⟩
      have hji : ((dg - 1 : Nat) : Int) - (k : Int) = (j : Int) := by omega
      simp -implicitDefEqProofs (maxSteps := 2000000) (disch := omega) only [go_sem, simprocAttr, -List.reduceReplicate, condB_t, condB_f, hji]
      rw [show j + (n + 1) - j = n + 1 by omega]
      obtain ⟨w, hw⟩ : ∃ w, w = (U.drop j).take (n + 1) := ⟨_, rfl⟩
      have hwb : Lb w := by rw [hw]; exact (hUb.drop j).take _
      have hwl : w.length = n + 1 := by rw [hw]; simp; omega
      rw [show dg - k = j + 1 by omega] at hUlt hq0
      obtain ⟨d, hd⟩ : ∃ d, d = val w / V := ⟨_, rfl⟩
      obtain ⟨x0, hx0⟩ : ∃ d, d = val w % V := ⟨_, rfl⟩
      obtain ⟨r1, r2, r3, r4, r5⟩ := long_round hUb (by omega) hVlt hUlt hinv (hq0 j (by omega)) (by omega) (congrArg val hw) hd hx0
      obtain ⟨top, etop⟩ : ∃ x, v.getD (n - 1) 0 = x := ⟨_, rfl⟩
      obtain ⟨second, esec⟩ : ∃ x, v.getD (n - 2) 0 = x := ⟨_, rfl⟩
      obtain ⟨num, enum⟩ : ∃ x, x = w.getD n 0 * 4294967296 + w.getD (n - 1) 0 := ⟨_, rfl⟩
      obtain ⟨u2, eu2⟩ : ∃ x, w.getD (n - 2) 0 = x := ⟨_, rfl⟩
      rw [etop] at htop
      obtain ⟨g1, g2, g3, g4⟩ := est_ok hwb hvb hvl hwl h2 etop esec enum eu2 htop (by rw [hvv]; exact r1)
      have hest := estimate_spec w v hwb hvb n top second num u2 hvl hwl h2 (by omega) etop esec enum eu2 htop g1
      rw [hvv, ← hd] at g2 g3
      generalize estG top second u2 (num / top) (num / top) (num % top) = g at g2 g3 g4 hest
      refine callK_borrow hest rfl rfl (fun i hi => ?_) ?_
      · match i, hi with
        | 0, _ => exact .inr (.val (.leaf (Thaw.plain (rows := numL U) (by rw [mkH_cons, if_pos rfl]) (by rw [numL_len, hUl]) (by omega) (by rw [hw, numL_drop, numL_take]) (numL_plain _))))
        | 1, _ => exact .inl rfl
      have hWM : val w < 4294967296 ^ (n + 1) := by
        have := val_lt hwb
        rwa [hwl] at this
      obtain ⟨x, x1, x2, x3, x4⟩ := sub_back (W := val w) (g := g) hV0 (by omega) (by omega) (Nat.le_of_lt (Nat.lt_trans hVlt (Nat.pow_lt_pow_right (by decide) (Nat.lt_succ_self n)))) hWM
      simp -implicitDefEqProofs (maxSteps := 2000000) (disch := omega) only [go_sem, simprocAttr, -List.reduceReplicate, condB_t, condB_f, hji]
      rw [show j + (n + 1) - j = n + 1 by omega]
      have hsub := subtract_spec U v j g (mkH h [(N0 + 168, ⟨1, numL U⟩), (N0 + 240, ⟨1, numL q⟩)]) (N0 + 168) (N0 + 488) (la + 1) (by rw [mkH_cons, if_pos rfl]) hUb hvb hUl (by omega) (by omega) g4 (decide (val w < g * V)) x (by rw [hvl, hvv, ← hw]; exact x1) (by rw [hvl]; exact x2)
      rw [hvl] at hsub
      refine callK_of hsub ?_
      have hpl := putWin_len (U := U) (off := j) (n := n + 1) (x := x) (by omega)
      have fin : ∀ j', j' < j → (q.set j d).getD j' 0 = 0 := fun j' hj' => by
        have := hq0 j' (by omega)
        simp only [List.getD_eq_getElem?_getD] at this ⊢
        rw [List.getElem?_set_ne (by omega)]; exact this
      by_cases hneg : val w < g * V
      · obtain ⟨y1, y2⟩ := x3 hneg
        rw [← hd] at y1
        rw [← hx0] at y2
        have eg : g - 1 = d := by omega
        simp -implicitDefEqProofs (maxSteps := 2000000) (disch := omega) only [go_sem, simprocAttr, -List.reduceReplicate, condB_t, condB_f, eg]
        rw [show j + (n + 1) - j = n + 1 by omega]
        have hres := restore_spec (putWin U j (n + 1) x) v j (upd (mkH h [(N0 + 240, ⟨1, numL q⟩)]) (N0 + 168) (some ⟨1, numL (putWin U j (n + 1) x)⟩)) (N0 + 168) (N0 + 584) (la + 1) (upd_same ..) (putWin_lb hUb) hvb (by omega) (by omega) (by omega)
        rw [hvl, putWin_win (by omega) x2, putWin_put (by omega), hvv, y2] at hres
        refine callK_of hres ?_
        simp -implicitDefEqProofs (maxSteps := 2000000) (disch := omega) only [go_sem, simprocAttr, -List.reduceReplicate, condB_t, condB_f]
        refine ⟨(k + 1, putWin U j (n + 1) x0, q.set j d), ⟨by simp only; omega, by simp only; rw [putWin_len (by omega)]; exact hUl, putWin_lb hUb, by simp only; rw [List.length_set]; exact hql, hqb.set r3, by simp only; rw [show dg - (k + 1) = j by omega]; exact fin, by simp only; rw [show dg - (k + 1) = j by omega]; exact r4, r5⟩, (by first | omega | (simp only; omega)), ?_⟩
        refine Weak.head2 (by simp -implicitDefEqProofs (maxSteps := 2000000) (disch := omega) only [go_sem, simprocAttr, -List.reduceReplicate, condB_t, condB_f]) (by omega) (numL_leafU _ _) (by simp -implicitDefEqProofs (maxSteps := 2000000) (disch := omega) only [go_sem, simprocAttr, -List.reduceReplicate, condB_t, condB_f]) (by omega) (numL_leafU _ _) (fun p hp hq => by simp only [upd, mkH, if_neg hp, if_neg hq]) (by omega) hmen ?_
        simp -implicitDefEqProofs (maxSteps := 2000000) (disch := omega) only [go_sem, simprocAttr, -List.reduceReplicate, condB_t, condB_f, AllP, AVle_same, AVle_int, AVle_row, topU_int, topU_sl, topU_row]
      · obtain ⟨y1, y2⟩ := x4 hneg
        rw [← hd] at y1
        rw [← hx0] at y2
        subst y1 y2
        simp -implicitDefEqProofs (maxSteps := 2000000) (disch := omega) only [go_sem, simprocAttr, -List.reduceReplicate, condB_t, condB_f]
        refine ⟨(k + 1, putWin U j (n + 1) x, q.set j g), ⟨by simp only; omega, by simp only; rw [putWin_len (by omega)]; exact hUl, putWin_lb hUb, by simp only; rw [List.length_set]; exact hql, hqb.set r3, by simp only; rw [show dg - (k + 1) = j by omega]; exact fin, by simp only; rw [show dg - (k + 1) = j by omega]; exact r4, r5⟩, (by first | omega | (simp only; omega)), ?_⟩
        refine Weak.head2 (by simp -implicitDefEqProofs (maxSteps := 2000000) (disch := omega) only [go_sem, simprocAttr, -List.reduceReplicate, condB_t, condB_f]) (by omega) (numL_leafU _ _) (by simp -implicitDefEqProofs (maxSteps := 2000000) (disch := omega) only [go_sem, simprocAttr, -List.reduceReplicate, condB_t, condB_f]) (by omega) (numL_leafU _ _) (fun p hp hq => by simp only [upd, mkH, if_neg hp, if_neg hq]) (by omega) hmen ?_
        simp -implicitDefEqProofs (maxSteps := 2000000) (disch := omega) only [go_sem, simprocAttr, -List.reduceReplicate, condB_t, condB_f, AllP, AVle_same, AVle_int, AVle_row, topU_int, topU_sl, topU_row]
    · obtain rfl : k = dg := by omega
      rw [Nat.sub_self, Nat.pow_zero, Nat.mul_one] at hUlt
      obtain ⟨e1, e2⟩ := long_end (A := A) (B := B) (s := s) (u := val U) (q := val q) (by rw [← hV, ← hT]; exact hinv) (by rw [← hV]; exact hUlt)
      have hUt : val (U.take n) = val U := by
        have h1 := val_take_drop U n (by omega)
        rcases Nat.eq_zero_or_pos (val (U.drop n)) with h | h
        · rw [h, Nat.mul_zero] at h1; omega
        · have := Nat.le_mul_of_pos_right (4294967296 ^ n) h
          omega
      simp -implicitDefEqProofs (maxSteps := 2000000) (disch := omega) only [go_sem, simprocAttr, -List.reduceReplicate, condB_t, condB_f]
      have g0 := hn (N0 + 168) (by omega)
      have g1 := hn (N0 + 240) (by omega)
      refine aw_weak (Weak.headT0 (h0 := h) (nx' := N0 + 280) (l := [(4, .sl 1 (numL q)), (6, .int .i64 n), (7, .int .u64 s), (9, .sl 1 (numL U))]) (fun k b hb => ?_) (by omega) hmen ?_) (awF_aw _ _ _ ?_)
      · have h1 := (hmen k b hb).1
        simp only [mkH]
        rw [upd_ne _ _ (by omega), upd_ne _ _ (by omega)]; exact hb
      · have gn : ∀ b, gone (mkH h [(N0 + 168, ⟨1, numL U⟩), (N0 + 240, ⟨1, numL q⟩)]) h (N0 + 168) = some b ↔ b = ⟨1, numL U⟩ := fun b => by simp [gone, g0, mkH, upd, eq_comm]
        have gm : ∀ b, gone (mkH h [(N0 + 168, ⟨1, numL U⟩), (N0 + 240, ⟨1, numL q⟩)]) h (N0 + 240) = some b ↔ b = ⟨1, numL q⟩ := fun b => by simp [gone, g1, mkH, upd, eq_comm]
        simp only [AllT]
        refine ⟨.inr ?_, trivial, .inl ?_, trivial, .inl ?_, trivial, .inr ?_, trivial, trivial⟩
        · simp -implicitDefEqProofs (maxSteps := 2000000) (disch := omega) only [go_sem, simprocAttr, -List.reduceReplicate, condB_t, condB_f]
          exact .val (.leaf (Thaw.plain ((gm _).2 rfl) (by rw [numL_len, hql]) (by omega) (List.take_of_length_le (by simp only [List.drop_zero, numL_len]; omega)) (numL_plain _)))
        · exact .inr (.inl rfl)
        · exact .inr (.inl rfl)
        · simp -implicitDefEqProofs (maxSteps := 2000000) (disch := omega) only [go_sem, simprocAttr, -List.reduceReplicate, condB_t, condB_f]
          exact .val (.leaf (Thaw.plain ((gn _).2 rfl) (by rw [numL_len, hUl]) (by omega) (List.take_of_length_le (by simp only [List.drop_zero, numL_len]; omega)) (numL_plain _)))
      · simp -implicitDefEqProofs (maxSteps := 2000000) (disch := omega) only [go_sem, simprocAttr, -List.reduceReplicate, condB_t, condB_f]
        have hc1 := view_spec q hqb (by omega)
        have hc2 := view_spec (U.take n) (hUb.take n) (by simp; omega)
        have hc3 := right_spec (lim (val U)) s (lb_lim _) hs32 (by have := lim_len_val (hUb.take n); rw [hUt] at this; simp at this; omega)
        rw [e1] at hc1
        rw [hUt] at hc2
        rw [val_lim, e2] at hc3
        refine pcallK_pure hc1 ?_
        simp -implicitDefEqProofs (maxSteps := 2000000) (disch := omega) only [go_sem, simprocAttr, -List.reduceReplicate, condB_t, condB_f]
        refine pcallK_pure hc2 ?_
        simp -implicitDefEqProofs (maxSteps := 2000000) (disch := omega) only [go_sem, simprocAttr, -List.reduceReplicate, condB_t, condB_f]
        refine pcallK_pure hc3 ?_
        simp -implicitDefEqProofs (maxSteps := 2000000) (disch := omega) only [go_sem, simprocAttr, -List.reduceReplicate, condB_t, condB_f]
        exact .refl rfl
end Go.Abs
/-! YtzNat10: Natural numbers of the program: quotients, remainders, greatest common divisors. No condition. -/
set_option linter.unusedVariables false
set_option linter.unusedSimpArgs false
set_option maxRecDepth 100000
set_option maxHeartbeats 1000000
namespace Go.Abs
open Go.Proofs
@[go_sem] theorem R81 : Tryz.f81.results.toList = [.tmp 4, .tmp 5, .tmp 6] := rfl
@[go_sem] theorem R79 : Tryz.f79.results.toList = [.tmp 4] := rfl
theorem divMod_zero (a b : List Nat) (ha : Lb a) (hb : Lb b) (hla : a.length ≤ 1099511627776) (hlb : b.length ≤ 1099511627776) (h0 : val b = 0) :
    PDet Tryz.prog 81 [nl a, nl b] (.tup [nl [], nl [], .bool false]) := by
  refine pdet_of E0ok mixed Tryz.func81 (by kernel_rfl) rfl (by kernel_rfl) (Nat.le_of_ble_eq_true rfl) fun N0 h hn hmen => ?_
  unfold nl
  simp -implicitDefEqProofs (maxSteps := 2000000) (disch := omega) only [go_sem, simprocAttr, -List.reduceReplicate, condB_t, condB_f]
  refine callK_pure (view_spec a ha (by omega)) ?_
  simp -implicitDefEqProofs (maxSteps := 2000000) (disch := omega) only [go_sem, simprocAttr, -List.reduceReplicate, condB_t, condB_f]
  refine callK_pure (view_spec b hb (by omega)) ?_
  rw [h0, lim_zero]
  unfold nl
  simp -implicitDefEqProofs (maxSteps := 2000000) (disch := omega) only [go_sem, simprocAttr, -List.reduceReplicate, condB_t, condB_f]
  exact .tup3 (.nil _) (.nil _) (.refl _ rfl)
theorem divMod_spec (a b : List Nat) (ha : Lb a) (hb : Lb b) (hla : a.length ≤ 1099511627776) (hlb : b.length ≤ 1099511627776) (h0 : val b ≠ 0) :
    PDet Tryz.prog 81 [nl a, nl b] (.tup [nl (lim (val a / val b)), nl (lim (val a % val b)), .bool true]) := by
  refine pdet_of E0ok mixed Tryz.func81 (by kernel_rfl) rfl (by kernel_rfl) (Nat.le_of_ble_eq_true rfl) fun N0 h hn hmen => ?_
  have hlA := lim_len_val ha
  have hlB := lim_len_val hb
  unfold nl
  simp -implicitDefEqProofs (maxSteps := 2000000) (disch := omega) only [go_sem, simprocAttr, -List.reduceReplicate, condB_t, condB_f]
  refine callK_pure (view_spec a ha (by omega)) ?_
  simp -implicitDefEqProofs (maxSteps := 2000000) (disch := omega) only [go_sem, simprocAttr, -List.reduceReplicate, condB_t, condB_f]
  refine callK_pure (view_spec b hb (by omega)) ?_
  generalize val a = A at *
  generalize val b = B at *
  have hB0 : (lim B).length ≠ 0 := fun e => h0 (lim_nil.1 (List.length_eq_zero_iff.1 e))
  have hcmp := compare_spec (lim A) (lim B) (lb_lim A) (lb_lim B) (by omega) (by omega)
  rw [val_lim, val_lim] at hcmp
  unfold nl
  simp -implicitDefEqProofs (maxSteps := 2000000) (disch := omega) only [go_sem, simprocAttr, -List.reduceReplicate, condB_t, condB_f]
  refine callK_pure hcmp ?_
  by_cases h1 : A < B
  · rw [cmpN_lt h1]
    have ht := trim_spec (lim A) (lb_lim A) (by omega)
    rw [val_lim] at ht
    simp -implicitDefEqProofs (maxSteps := 2000000) (disch := omega) only [go_sem, simprocAttr, -List.reduceReplicate, condB_t, condB_f]
    refine callK_pure ht ?_
    simp -implicitDefEqProofs (maxSteps := 2000000) (disch := omega) only [go_sem, simprocAttr, -List.reduceReplicate, condB_t, condB_f]
    rw [Nat.div_eq_of_lt h1, lim_zero]
    exact .tup3 (.nil _) (.refl _ rfl) (.refl _ rfl)
  · have h2 : (decide (cmpN A B < 0)) = false := by
      rw [decide_eq_false_iff_not]
      rcases Nat.lt_or_ge B A with h3 | h3
      · rw [cmpN_gt h3]; decide
      · rw [cmpN_eq (by omega)]; decide
    by_cases h3 : (lim B).length = 1
    · have hB : lim B = [B] := by
        have h4 := lt_lim B
        rw [h3] at h4
        rw [lim_pos h0, show B / 4294967296 = 0 by omega, lim_zero, Nat.mod_eq_of_lt (by omega)]
      have hBlt : B < 4294967296 := by
        have h4 := lt_lim B
        rw [h3] at h4; omega
      have hs := short_spec (lim A) B (lb_lim A) (by omega) (by omega) hBlt
      rw [val_lim] at hs
      have hm : A % B < B := Nat.mod_lt _ (by omega)
      have hB1 : (lim B).getD 0 0 = B := by rw [hB]; rfl
      simp -implicitDefEqProofs (maxSteps := 2000000) (disch := omega) only [go_sem, simprocAttr, -List.reduceReplicate, condB_t, condB_f, h2, hB1, h3]
      refine callK_pure hs ?_
      simp -implicitDefEqProofs (maxSteps := 2000000) (disch := omega) only [go_sem, simprocAttr, -List.reduceReplicate, condB_t, condB_f]
      refine callK_pure (fromUint64_spec (A % B) (by omega)) ?_
      simp -implicitDefEqProofs (maxSteps := 2000000) (disch := omega) only [go_sem, simprocAttr, -List.reduceReplicate, condB_t, condB_f]
      exact .refl rfl
    · have hl := long_spec A B (lim B).length _ rfl (by omega) (by omega) (lim_len_mono (by omega)) (by omega) rfl
      simp -implicitDefEqProofs (maxSteps := 2000000) (disch := omega) only [go_sem, simprocAttr, -List.reduceReplicate, condB_t, condB_f, h2]
      refine callK_pure hl ?_
      unfold nl
      simp -implicitDefEqProofs (maxSteps := 2000000) (disch := omega) only [go_sem, simprocAttr, -List.reduceReplicate, condB_t, condB_f]
      exact .refl rfl
theorem gcd_spec (a b : List Nat) (ha : Lb a) (hb : Lb b) (hla : a.length ≤ 1099511627776) (hlb : b.length ≤ 1099511627776) :
    PDet Tryz.prog 79 [nl a, nl b] (nl (lim (Nat.gcd (val a) (val b)))) := by
  refine pdet_of E0ok mixed Tryz.func79 (by kernel_rfl) rfl (by kernel_rfl) (Nat.le_of_ble_eq_true rfl) fun N0 h hn hmen => ?_
  have hlA := lim_len_val ha
  have hlB := lim_len_val hb
  unfold nl
  simp -implicitDefEqProofs (maxSteps := 2000000) (disch := omega) only [go_sem, simprocAttr, -List.reduceReplicate, condB_t, condB_f]
  refine callK_pure (trim_spec a ha (by omega)) ?_
  simp -implicitDefEqProofs (maxSteps := 2000000) (disch := omega) only [go_sem, simprocAttr, -List.reduceReplicate, condB_t, condB_f]
  refine callK_pure (trim_spec b hb (by omega)) ?_
  generalize val a = A at *
  generalize val b = B at *
  unfold nl
  simp -implicitDefEqProofs (maxSteps := 2000000) (disch := omega) only [go_sem, simprocAttr, -List.reduceReplicate, condB_t, condB_f]
  refine aw_loop (X := Nat × Nat) (fun x => ⟨mkS [(0, .sl 1 (numL (lim x.1))), (1, .sl 1 (numL (lim x.2)))], h, N0⟩) (fun x => Nat.gcd x.1 x.2 = Nat.gcd A B ∧ (lim x.1).length ≤ 1099511627776 ∧ (lim x.2).length ≤ 1099511627776) (fun x => x.2)
    ⟨(A, B), ⟨rfl, by simp only; omega, by simp only; omega⟩, ?_⟩ ?_
  · (refine Weak.slots (allP ?_) (fun k0 b0 hb0 => by first | exact hb0 | (have hk1 := (hmen k0 b0 hb0).1; simp only [upd, mkH]; (repeat rw [if_neg (by omega)]); exact hb0)) (by omega) hmen; simp -implicitDefEqProofs (maxSteps := 2000000) (disch := omega) only [go_sem, simprocAttr, -List.reduceReplicate, condB_t, condB_f, AllP, AVle_same, AVle_int, AVle_nil, AVle_row, topU_int, topU_bool, topU_sl, topU_row, topU_ptr, topU_iptr, topU_fn, val, List.drop_length])
  · rintro ⟨x, y⟩ ⟨hg, hx, hy⟩
    simp only at hg hx hy
    have round : y ≠ 0 → Nat.gcd y (x % y) = Nat.gcd A B ∧ (lim y).length ≤ 1099511627776 ∧ (lim (x % y)).length ≤ 1099511627776 := fun h0 => by
      refine ⟨?_, hy, ?_⟩
      · rw [← hg, Nat.gcd_comm y, ← Nat.gcd_rec, Nat.gcd_comm]
      · have := lim_len_mono (Nat.le_of_lt (Nat.mod_lt x (Nat.pos_of_ne_zero h0))); omega
    have hdm := fun h0 => divMod_spec (lim x) (lim y) (lb_lim x) (lb_lim y) hx hy h0
    simp only [val_lim] at hdm
    have hy0 : y = 0 ↔ (lim y).length = 0 := by rw [List.length_eq_zero_iff, lim_nil]
    by_cases h1 : 2 < (lim y).length
    · have h0 : y ≠ 0 := by omega
      simp -implicitDefEqProofs (maxSteps := 2000000) (disch := omega) only [go_sem, simprocAttr, -List.reduceReplicate, condB_t, condB_f]
      refine callK_pure (hdm h0) ?_
      unfold nl
      simp -implicitDefEqProofs (maxSteps := 2000000) (disch := omega) only [go_sem, simprocAttr, -List.reduceReplicate, condB_t, condB_f]
      exact ⟨(y, x % y), round h0, Nat.mod_lt _ (Nat.pos_of_ne_zero h0), by (refine Weak.slots (allP ?_) (fun k0 b0 hb0 => by first | exact hb0 | (have hk1 := (hmen k0 b0 hb0).1; simp only [upd, mkH]; (repeat rw [if_neg (by omega)]); exact hb0)) (by omega) hmen; simp -implicitDefEqProofs (maxSteps := 2000000) (disch := omega) only [go_sem, simprocAttr, -List.reduceReplicate, condB_t, condB_f, AllP, AVle_same, AVle_int, AVle_nil, AVle_row, topU_int, topU_bool, topU_sl, topU_row, topU_ptr, topU_iptr, topU_fn, val, List.drop_length])⟩
    · by_cases h2 : 2 < (lim x).length
      · by_cases h3 : 0 < (lim y).length
        · have h0 : y ≠ 0 := by omega
          simp -implicitDefEqProofs (maxSteps := 2000000) (disch := omega) only [go_sem, simprocAttr, -List.reduceReplicate, condB_t, condB_f]
          refine callK_pure (hdm h0) ?_
          unfold nl
          simp -implicitDefEqProofs (maxSteps := 2000000) (disch := omega) only [go_sem, simprocAttr, -List.reduceReplicate, condB_t, condB_f]
          exact ⟨(y, x % y), round h0, Nat.mod_lt _ (Nat.pos_of_ne_zero h0), by (refine Weak.slots (allP ?_) (fun k0 b0 hb0 => by first | exact hb0 | (have hk1 := (hmen k0 b0 hb0).1; simp only [upd, mkH]; (repeat rw [if_neg (by omega)]); exact hb0)) (by omega) hmen; simp -implicitDefEqProofs (maxSteps := 2000000) (disch := omega) only [go_sem, simprocAttr, -List.reduceReplicate, condB_t, condB_f, AllP, AVle_same, AVle_int, AVle_nil, AVle_row, topU_int, topU_bool, topU_sl, topU_row, topU_ptr, topU_iptr, topU_fn, val, List.drop_length])⟩
        · have h4 : (lim y).length = 0 := by omega
          obtain rfl := hy0.2 h4
          rw [Nat.gcd_zero_right] at hg
          simp -implicitDefEqProofs (maxSteps := 2000000) (disch := omega) only [go_sem, simprocAttr, -List.reduceReplicate, condB_t, condB_f]
          rw [hg]
          exact .refl rfl
      · by_cases h3 : 0 < (lim y).length
        · have hx1 : x < 18446744073709551616 := lim_len.1 (show (lim x).length ≤ 2 by omega)
          have hy1 : y < 18446744073709551616 := lim_len.1 (show (lim y).length ≤ 2 by omega)
          have hx2 := uint64_ok (lim x) (lb_lim x) hx (by rw [val_lim]; exact hx1)
          have hy2 := uint64_ok (lim y) (lb_lim y) hy (by rw [val_lim]; exact hy1)
          rw [val_lim] at hx2 hy2
          simp -implicitDefEqProofs (maxSteps := 2000000) (disch := omega) only [go_sem, simprocAttr, -List.reduceReplicate, condB_t, condB_f]
          refine callK_pure hx2 ?_
          simp -implicitDefEqProofs (maxSteps := 2000000) (disch := omega) only [go_sem, simprocAttr, -List.reduceReplicate, condB_t, condB_f]
          refine callK_pure hy2 ?_
          simp -implicitDefEqProofs (maxSteps := 2000000) (disch := omega) only [go_sem, simprocAttr, -List.reduceReplicate, condB_t, condB_f]
          refine aw_loop (X := Nat × Nat) (fun z => ⟨mkS [(8, .int .u64 z.1), (10, .int .u64 z.2)], h, N0⟩) (fun z => Nat.gcd z.1 z.2 = Nat.gcd A B ∧ z.1 < 18446744073709551616 ∧ z.2 < 18446744073709551616) (fun z => z.2)
            ⟨(x, y), ⟨hg, hx1, hy1⟩, ?_⟩ ?_
          · (refine Weak.slots (allP ?_) (fun k0 b0 hb0 => by first | exact hb0 | (have hk1 := (hmen k0 b0 hb0).1; simp only [upd, mkH]; (repeat rw [if_neg (by omega)]); exact hb0)) (by omega) hmen; simp -implicitDefEqProofs (maxSteps := 2000000) (disch := omega) only [go_sem, simprocAttr, -List.reduceReplicate, condB_t, condB_f, AllP, AVle_same, AVle_int, AVle_nil, AVle_row, topU_int, topU_bool, topU_sl, topU_row, topU_ptr, topU_iptr, topU_fn, val, List.drop_length])
          · rintro ⟨c, d⟩ ⟨hg2, hc, hd⟩
            simp only at hg2 hc hd
            by_cases h0 : 0 < d
            · simp -implicitDefEqProofs (maxSteps := 2000000) (disch := omega) only [go_sem, simprocAttr, -List.reduceReplicate, condB_t, condB_f]
              have hm := Nat.mod_lt c h0
              exact ⟨(d, c % d), ⟨by rw [← hg2, Nat.gcd_comm d, ← Nat.gcd_rec, Nat.gcd_comm], hd, by simp only; omega⟩, hm, by (refine Weak.slots (allP ?_) (fun k0 b0 hb0 => by first | exact hb0 | (have hk1 := (hmen k0 b0 hb0).1; simp only [upd, mkH]; (repeat rw [if_neg (by omega)]); exact hb0)) (by omega) hmen; simp -implicitDefEqProofs (maxSteps := 2000000) (disch := omega) only [go_sem, simprocAttr, -List.reduceReplicate, condB_t, condB_f, AllP, AVle_same, AVle_int, AVle_nil, AVle_row, topU_int, topU_bool, topU_sl, topU_row, topU_ptr, topU_iptr, topU_fn, val, List.drop_length])⟩
            · obtain rfl : d = 0 := by omega
              rw [Nat.gcd_zero_right] at hg2
              simp -implicitDefEqProofs (maxSteps := 2000000) (disch := omega) only [go_sem, simprocAttr, -List.reduceReplicate, condB_t, condB_f]
              refine callK_pure (fromUint64_spec c hc) ?_
              rw [hg2]
              simp -implicitDefEqProofs (maxSteps := 2000000) (disch := omega) only [go_sem, simprocAttr, -List.reduceReplicate, condB_t, condB_f]
              exact .refl rfl
        · have h4 : (lim y).length = 0 := by omega
          obtain rfl := hy0.2 h4
          rw [Nat.gcd_zero_right] at hg
          simp -implicitDefEqProofs (maxSteps := 2000000) (disch := omega) only [go_sem, simprocAttr, -List.reduceReplicate, condB_t, condB_f]
          rw [hg]
          exact .refl rfl
end Go.Abs
/-! YtzInt1: Integers of the program. No condition. -/
set_option linter.unusedVariables false
set_option linter.unusedSimpArgs false
set_option maxRecDepth 100000
set_option maxHeartbeats 1000000
namespace Go.Abs
open Go.Proofs
@[go_sem] theorem R74 : Tryz.f74.results.toList = [.cell 4 40] := rfl
@[go_sem] theorem R78 : Tryz.f78.results.toList = [.cell 2 40] := rfl
@[go_sem] theorem R53 : Tryz.f53.results.toList = [.cell 2 40] := rfl
@[go_sem] theorem R86 : Tryz.f86.results.toList = [.tmp 2] := rfl
@[go_sem] theorem R59 : Tryz.f59.results.toList = [.tmp 2] := rfl
@[go_sem] theorem R64 : Tryz.f64.results.toList = [.cell 4 40] := rfl
@[go_sem] theorem R65 : Tryz.f65.results.toList = [.cell 4 40] := rfl
theorem with_spec (s : Bool) (m : List Nat) : PDet Tryz.prog 74 [.bool s, nl m] (.agg [.bool (s && decide (0 < m.length)), nl m]) := by
  refine pdet_of E0ok mixed Tryz.func74 (by kernel_rfl) rfl (by kernel_rfl) (Nat.le_of_ble_eq_true rfl) fun N0 h hn hmen => ?_
  unfold nl
  by_cases h0 : 0 < m.length
  · rw [decide_eq_true h0]
    cases s <;> simp -implicitDefEqProofs (maxSteps := 2000000) (disch := omega) only [go_sem, simprocAttr, -List.reduceReplicate, condB_t, condB_f] <;> exact dn
  · rw [decide_eq_false h0]
    cases s <;> simp -implicitDefEqProofs (maxSteps := 2000000) (disch := omega) only [go_sem, simprocAttr, -List.reduceReplicate, condB_t, condB_f] <;> exact dn
theorem lim_pos_len (n : Nat) : (0 < (lim n).length) ↔ 0 < n := by
  have h : (lim n).length = 0 ↔ n = 0 := by rw [List.length_eq_zero_iff, lim_nil]
  omega
theorem with_lim (s : Bool) (n : Nat) : PDet Tryz.prog 74 [.bool s, nl (lim n)] (.agg (iC (ival s n))) := by
  have h := with_spec s (lim n)
  simp only [lim_pos_len] at h
  rw [iC_ival]; exact h
theorem inorm_spec (s : Bool) (m : List Nat) (hm : Lb m) (hl : m.length ≤ 1099511627776) : PDet Tryz.prog 78 [.agg [.bool s, nl m]] (.agg (iC (ival s (val m)))) := by
  refine pdet_of E0ok mixed Tryz.func78 (by kernel_rfl) rfl (by kernel_rfl) (Nat.le_of_ble_eq_true rfl) fun N0 h hn hmen => ?_
  unfold nl
  simp -implicitDefEqProofs (maxSteps := 2000000) (disch := omega) only [go_sem, simprocAttr, -List.reduceReplicate, condB_t, condB_f]
  refine pcallK_pure (trim_spec m hm hl) ?_
  simp -implicitDefEqProofs (maxSteps := 2000000) (disch := omega) only [go_sem, simprocAttr, -List.reduceReplicate, condB_t, condB_f]
  refine pcallK_pure (with_lim s (val m)) ?_
  unfold iC nl
  simp -implicitDefEqProofs (maxSteps := 2000000) (disch := omega) only [go_sem, simprocAttr, -List.reduceReplicate, condB_t, condB_f]
  exact dn
theorem ifromInt_spec (v : Int) (h1 : -9223372036854775808 ≤ v) (h2 : v ≤ 9223372036854775807) : PDet Tryz.prog 53 [.int .i64 v] (.agg (iC v)) := by
  refine pdet_of E0ok mixed Tryz.func53 (by kernel_rfl) rfl (by kernel_rfl) (Nat.le_of_ble_eq_true rfl) fun N0 h hn hmen => ?_
  by_cases hv : v < 0
  · obtain ⟨n, rfl⟩ : ∃ n : Nat, v = -((n : Int) + 1) := ⟨(-v - 1).toNat, by omega⟩
    have e1 : (IntKind.u64.wrap (IntKind.u64.wrap (IntKind.i64.wrap (0 - IntKind.i64.wrap (-((n : Int) + 1) + 1))) + 1)) = ((n + 1 : Nat) : Int) := by
      rw [wrap_i64 (n := -((n : Int) + 1) + 1) (by omega), wrap_i64 (by omega), wrap_u64, wrap_u64]; omega
    have e2 : ival true (n + 1) = -((n : Int) + 1) := by simp [ival]
    have hw := with_lim true (n + 1)
    rw [e2] at hw
    simp -implicitDefEqProofs (maxSteps := 2000000) (disch := omega) only [go_sem, simprocAttr, -List.reduceReplicate, condB_t, condB_f]
    rw [show (-(-((n + 1 : Nat) : Int) + 1) % 18446744073709551616 + 1) % 18446744073709551616 = ((n + 1 : Nat) : Int) by omega]
    refine callK_pure (fromUint64_spec (n + 1) (by omega)) ?_
    simp -implicitDefEqProofs (maxSteps := 2000000) (disch := omega) only [go_sem, simprocAttr, -List.reduceReplicate, condB_t, condB_f]
    refine callK_pure hw ?_
    unfold iC nl
    simp -implicitDefEqProofs (maxSteps := 2000000) (disch := omega) only [go_sem, simprocAttr, -List.reduceReplicate, condB_t, condB_f]
    exact dn
  · obtain ⟨n, rfl⟩ : ∃ n : Nat, v = (n : Int) := ⟨v.toNat, by omega⟩
    have hw := with_lim false n
    rw [ival_f] at hw
    simp -implicitDefEqProofs (maxSteps := 2000000) (disch := omega) only [go_sem, simprocAttr, -List.reduceReplicate, condB_t, condB_f]
    refine callK_pure (fromUint64_spec n (by omega)) ?_
    simp -implicitDefEqProofs (maxSteps := 2000000) (disch := omega) only [go_sem, simprocAttr, -List.reduceReplicate, condB_t, condB_f]
    refine callK_pure hw ?_
    unfold iC nl
    simp -implicitDefEqProofs (maxSteps := 2000000) (disch := omega) only [go_sem, simprocAttr, -List.reduceReplicate, condB_t, condB_f]
    exact dn
theorem isign_spec (s : Bool) (m : List Nat) (hm : Lb m) (hl : m.length ≤ 1099511627776) : PDet Tryz.prog 59 [.agg [.bool s, nl m]] (.int .i64 (ival s (val m)).sign) := by
  have hz : PDet Tryz.prog 86 [.agg [.bool s, nl m]] (.bool (decide (val m = 0))) := by
    refine pdet_of E0ok mixed Tryz.func86 (by kernel_rfl) rfl (by kernel_rfl) (Nat.le_of_ble_eq_true rfl) fun N0 h hn hmen => ?_
    unfold nl
    simp -implicitDefEqProofs (maxSteps := 2000000) (disch := omega) only [go_sem, simprocAttr, -List.reduceReplicate, condB_t, condB_f]
    refine callK_pure (bits_spec m hm hl) ?_
    have hle := nbits_len hm
    by_cases h0 : val m = 0
    · have h1 : nbits (val m) = 0 := nbits_zero.2 h0
      rw [h1, decide_eq_true h0]
      simp -implicitDefEqProofs (maxSteps := 2000000) (disch := omega) only [go_sem, simprocAttr, -List.reduceReplicate, condB_t, condB_f]
      exact dn
    · have h1 : nbits (val m) ≠ 0 := fun e => h0 (nbits_zero.1 e)
      rw [decide_eq_false h0]
      simp -implicitDefEqProofs (maxSteps := 2000000) (disch := omega) only [go_sem, simprocAttr, -List.reduceReplicate, condB_t, condB_f]
      exact dn
  refine pdet_of E0ok mixed Tryz.func59 (by kernel_rfl) rfl (by kernel_rfl) (Nat.le_of_ble_eq_true rfl) fun N0 h hn hmen => ?_
  unfold nl at hz ⊢
  rw [sign_ival]
  simp -implicitDefEqProofs (maxSteps := 2000000) (disch := omega) only [go_sem, simprocAttr, -List.reduceReplicate, condB_t, condB_f]
  refine callK_pure hz ?_
  by_cases h0 : val m = 0
  · rw [decide_eq_true h0, if_pos h0]
    simp -implicitDefEqProofs (maxSteps := 2000000) (disch := omega) only [go_sem, simprocAttr, -List.reduceReplicate, condB_t, condB_f]
    exact dn
  · rw [decide_eq_false h0, if_neg h0]
    cases s <;> simp -implicitDefEqProofs (maxSteps := 2000000) (disch := omega) only [go_sem, simprocAttr, -List.reduceReplicate, condB_t, condB_f] <;> exact dn
theorem iadd_spec (s t : Bool) (m n : List Nat) (hm : Lb m) (hn' : Lb n) (sm : m.length ≤ 1099511627776) (sn : n.length ≤ 1099511627776) : PDet Tryz.prog 64 [.agg [.bool s, nl m], .agg [.bool t, nl n]] (.agg (iC (ival s (val m) + ival t (val n)))) := by
  refine pdet_of E0ok mixed Tryz.func64 (by kernel_rfl) rfl (by kernel_rfl) (Nat.le_of_ble_eq_true rfl) fun N0 h hn hmen => ?_
  have c1 := add_spec m n hm hn' sm sn
  have c2 := fun h => sub_ok m n hm hn' sm sn h
  have c3 := fun h => sub_no m n hm hn' sm sn h
  have c4 := fun h => sub_ok n m hn' hm sn sm h
  generalize val m = a at *
  generalize val n = b at *
  have w := fun s k => with_lim s k
  simp only [iC_ival] at w
  unfold nl at *
  by_cases e : (s == t) = true
  · have e2 : ival s a + ival t b = ival s (a + b) := by
      have := eq_of_beq e
      subst this
      cases s <;> simp [ival] <;> omega
    rw [e2, iC_ival]
    unfold nl
    simp -implicitDefEqProofs (maxSteps := 2000000) (disch := omega) only [go_sem, simprocAttr, -List.reduceReplicate, condB_t, condB_f, e]
    refine pcallK_pure c1 ?_
    simp -implicitDefEqProofs (maxSteps := 2000000) (disch := omega) only [go_sem, simprocAttr, -List.reduceReplicate, condB_t, condB_f]
    refine pcallK_pure (w s (a + b)) ?_
    simp -implicitDefEqProofs (maxSteps := 2000000) (disch := omega) only [go_sem, simprocAttr, -List.reduceReplicate, condB_t, condB_f]
    exact dn
  · have e' : (s == t) = false := by simpa using e
    by_cases hle : b ≤ a
    · have e2 : ival s a + ival t b = ival s (a - b) := by
        cases s <;> cases t <;> simp at e <;> simp [ival] <;> omega
      rw [e2, iC_ival]
      unfold nl
      simp -implicitDefEqProofs (maxSteps := 2000000) (disch := omega) only [go_sem, simprocAttr, -List.reduceReplicate, condB_t, condB_f, e']
      refine callK_pure (c2 hle) ?_
      simp -implicitDefEqProofs (maxSteps := 2000000) (disch := omega) only [go_sem, simprocAttr, -List.reduceReplicate, condB_t, condB_f]
      refine callK_pure (w s (a - b)) ?_
      simp -implicitDefEqProofs (maxSteps := 2000000) (disch := omega) only [go_sem, simprocAttr, -List.reduceReplicate, condB_t, condB_f]
      exact dn
    · have e2 : ival s a + ival t b = ival t (b - a) := by
        cases s <;> cases t <;> simp at e <;> simp [ival] <;> omega
      rw [e2, iC_ival]
      unfold nl
      simp -implicitDefEqProofs (maxSteps := 2000000) (disch := omega) only [go_sem, simprocAttr, -List.reduceReplicate, condB_t, condB_f, e']
      refine callK_pure (c3 (by omega)) ?_
      simp -implicitDefEqProofs (maxSteps := 2000000) (disch := omega) only [go_sem, simprocAttr, -List.reduceReplicate, condB_t, condB_f]
      refine callK_pure (c4 (by omega)) ?_
      simp -implicitDefEqProofs (maxSteps := 2000000) (disch := omega) only [go_sem, simprocAttr, -List.reduceReplicate, condB_t, condB_f]
      refine callK_pure (w t (b - a)) ?_
      simp -implicitDefEqProofs (maxSteps := 2000000) (disch := omega) only [go_sem, simprocAttr, -List.reduceReplicate, condB_t, condB_f]
      exact dn
theorem imul_spec (s t : Bool) (m n : List Nat) (hm : Lb m) (hn' : Lb n) (sm : m.length ≤ 1099511627776) (sn : n.length ≤ 1099511627776) : PDet Tryz.prog 65 [.agg [.bool s, nl m], .agg [.bool t, nl n]] (.agg (iC (ival s (val m) * ival t (val n)))) := by
  refine pdet_of E0ok mixed Tryz.func65 (by kernel_rfl) rfl (by kernel_rfl) (Nat.le_of_ble_eq_true rfl) fun N0 h hn hmen => ?_
  have c1 := mul_spec m n hm hn' sm sn
  generalize val m = a at *
  generalize val n = b at *
  have w := fun s k => with_lim s k
  simp only [iC_ival] at w
  have e2 : ival s a * ival t b = ival (!(s == t)) (a * b) := by
    cases s <;> cases t <;> simp [ival, Int.natCast_mul, Int.neg_mul, Int.mul_neg]
  rw [e2, iC_ival]
  unfold nl at *
  simp -implicitDefEqProofs (maxSteps := 2000000) (disch := omega) only [go_sem, simprocAttr, -List.reduceReplicate, condB_t, condB_f]
  refine pcallK_pure c1 ?_
  simp -implicitDefEqProofs (maxSteps := 2000000) (disch := omega) only [go_sem, simprocAttr, -List.reduceReplicate, condB_t, condB_f]
  refine pcallK_pure (w _ (a * b)) ?_
  simp -implicitDefEqProofs (maxSteps := 2000000) (disch := omega) only [go_sem, simprocAttr, -List.reduceReplicate, condB_t, condB_f]
  exact dn
end Go.Abs
/-! YtzRat1: Rational numbers of the program. No condition. -/
set_option linter.unusedVariables false
set_option linter.unusedSimpArgs false
set_option maxRecDepth 100000
set_option maxHeartbeats 1000000
namespace Go.Abs
open Go.Proofs
@[go_sem] theorem R54 : Tryz.f54.results.toList = [.tmp 0] := rfl
@[go_sem] theorem R80 : Tryz.f80.results.toList = [.tmp 2] := rfl
@[go_sem] theorem R56 : Tryz.f56.results.toList = [.cell 4 42] := rfl
@[go_sem] theorem R34 : Tryz.f34.results.toList = [.cell 2 42] := rfl
@[go_sem] theorem R35 : Tryz.f35.results.toList = [.cell 2 42] := rfl
@[go_sem] theorem R37 : Tryz.f37.results.toList = [.tmp 2] := rfl
@[go_sem] theorem R45 : Tryz.f45.results.toList = [.cell 4 42] := rfl
@[go_sem] theorem R50 : Tryz.f50.results.toList = [.cell 4 42] := rfl
@[go_sem] theorem R62 : Tryz.f62.results.toList = [.cell 2 40, .cell 3 40] := rfl
def ED62 : Env := { tt := E0.tt, pf := E0.pf, dyn := fun id => lookD id [(3, [(3, 5)])] }
theorem ED62ok : EnvOk Tryz.prog ED62 := ⟨E0ok.tt⟩
@[go_sem] theorem ED62tt (t : Nat) : ED62.tt t = E0.tt t := rfl
@[go_sem] theorem ED62dyn (id : Nat) : ED62.dyn id = lookD id [(3, [(3, 5)])] := rfl
@[go_sem] theorem ED62pf (f : Nat) : ED62.pf f = E0.pf f := rfl
theorem one_spec : PDet Tryz.prog 54 [] (nl (lim 1)) := by
  refine pdet_of E0ok mixed Tryz.func54 (by kernel_rfl) rfl (by kernel_rfl) (Nat.le_of_ble_eq_true rfl) fun N0 h hn hmen => ?_
  unfold nl
  have h1 := fromUint64_spec 1 (by decide)
  unfold nl at h1
  simp -implicitDefEqProofs (maxSteps := 2000000) (disch := omega) only [go_sem, simprocAttr, -List.reduceReplicate, condB_t, condB_f]
  refine callK_pure h1 ?_
  simp -implicitDefEqProofs (maxSteps := 2000000) (disch := omega) only [go_sem, simprocAttr, -List.reduceReplicate, condB_t, condB_f]
  exact dn
theorem isOne_spec (l : List Nat) (hb : Lb l) (hl : l.length ≤ 1099511627776) : PDet Tryz.prog 80 [nl l] (.bool (decide (val l = 1))) := by
  refine pdet_of E0ok mixed Tryz.func80 (by kernel_rfl) rfl (by kernel_rfl) (Nat.le_of_ble_eq_true rfl) fun N0 h hn hmen => ?_
  have hle := nbits_len hb
  have c := bits_spec l hb hl
  unfold nl at *
  simp -implicitDefEqProofs (maxSteps := 2000000) (disch := omega) only [go_sem, simprocAttr, -List.reduceReplicate, condB_t, condB_f]
  refine callK_pure c ?_
  by_cases h0 : val l = 1
  · have h1 : nbits (val l) = 1 := nbits_one.2 h0
    rw [decide_eq_true h0, h1]
    simp -implicitDefEqProofs (maxSteps := 2000000) (disch := omega) only [go_sem, simprocAttr, -List.reduceReplicate, condB_t, condB_f]
    exact dn
  · have h1 : nbits (val l) ≠ 1 := fun e => h0 (nbits_one.1 e)
    rw [decide_eq_false h0]
    simp -implicitDefEqProofs (maxSteps := 2000000) (disch := omega) only [go_sem, simprocAttr, -List.reduceReplicate, condB_t, condB_f]
    exact dn
theorem reduced_spec (s : Bool) (m d : List Nat) (hm : Lb m) (hd : Lb d) (sm : m.length ≤ 1099511627776) (sd : d.length ≤ 1099511627776) (h0 : val d ≠ 0) : PDet Tryz.prog 56 [.agg [.bool s, nl m], nl d] (.agg (rC (mkRat (ival s (val m)) (val d)))) := by
  refine pdet_of E0ok mixed Tryz.func56 (by kernel_rfl) rfl (by kernel_rfl) (Nat.le_of_ble_eq_true rfl) fun N0 h hn hmen => ?_
  have hlm := lim_len_val hm
  have c1 := inorm_spec s m hm sm
  have c2 := gcd_spec (lim (val m)) d (lb_lim _) hd (by omega) sd
  have c3 := trim_spec d hd sd
  have c4 := one_spec
  rw [val_lim] at c2
  rw [iC_ival] at c1
  rw [rC_mk h0]
  have gd : Nat.gcd (val m) (val d) ≠ 0 := fun e => h0 (Nat.gcd_eq_zero_iff.1 e).2
  have hgl : (lim (Nat.gcd (val m) (val d))).length ≤ 1099511627776 := by
    have := lim_len_mono (Nat.gcd_le_right (val m) (Nat.pos_of_ne_zero h0))
    have := lim_len_val hd
    omega
  have c5 := isOne_spec (lim (Nat.gcd (val m) (val d))) (lb_lim _) hgl
  have c6 := divMod_spec (lim (val m)) (lim (Nat.gcd (val m) (val d))) (lb_lim _) (lb_lim _) (by omega) hgl (by rw [val_lim]; exact gd)
  have c7 := divMod_spec d (lim (Nat.gcd (val m) (val d))) hd (lb_lim _) sd hgl (by rw [val_lim]; exact gd)
  have hlq : (lim (val d / Nat.gcd (val m) (val d))).length ≤ 1099511627776 := by
    have := lim_len_mono (Nat.div_le_self (val d) (Nat.gcd (val m) (val d)))
    have := lim_len_val hd
    omega
  have c8 := trim_spec (lim (val d / Nat.gcd (val m) (val d))) (lb_lim _) hlq
  simp only [val_lim] at c5 c6 c7 c8
  unfold nl at *
  simp -implicitDefEqProofs (maxSteps := 2000000) (disch := omega) only [go_sem, simprocAttr, -List.reduceReplicate, condB_t, condB_f]
  refine callK_pure c1 ?_
  by_cases e : val m = 0
  · simp only [e, lim_zero, Nat.gcd_zero_left, Nat.zero_div, Nat.div_self (Nat.pos_of_ne_zero h0)]
    simp -implicitDefEqProofs (maxSteps := 2000000) (disch := omega) only [go_sem, simprocAttr, -List.reduceReplicate, condB_t, condB_f]
    refine pcallK_pure c4 ?_
    simp -implicitDefEqProofs (maxSteps := 2000000) (disch := omega) only [go_sem, simprocAttr, -List.reduceReplicate, condB_t, condB_f]
    exact dn
  · have hp : 0 < (lim (val m)).length := by
      have h : (lim (val m)).length = 0 ↔ val m = 0 := by rw [List.length_eq_zero_iff, lim_nil]
      omega
    simp -implicitDefEqProofs (maxSteps := 2000000) (disch := omega) only [go_sem, simprocAttr, -List.reduceReplicate, condB_t, condB_f]
    refine callK_pure c2 ?_
    simp -implicitDefEqProofs (maxSteps := 2000000) (disch := omega) only [go_sem, simprocAttr, -List.reduceReplicate, condB_t, condB_f]
    refine callK_pure c5 ?_
    by_cases g : Nat.gcd (val m) (val d) = 1
    · rw [decide_eq_true g]
      simp only [g, Nat.div_one]
      simp -implicitDefEqProofs (maxSteps := 2000000) (disch := omega) only [go_sem, simprocAttr, -List.reduceReplicate, condB_t, condB_f]
      refine pcallK_pure c3 ?_
      simp -implicitDefEqProofs (maxSteps := 2000000) (disch := omega) only [go_sem, simprocAttr, -List.reduceReplicate, condB_t, condB_f]
      exact dn
    · rw [decide_eq_false g]
      simp -implicitDefEqProofs (maxSteps := 2000000) (disch := omega) only [go_sem, simprocAttr, -List.reduceReplicate, condB_t, condB_f]
      refine callK_pure c6 ?_
      simp -implicitDefEqProofs (maxSteps := 2000000) (disch := omega) only [go_sem, simprocAttr, -List.reduceReplicate, condB_t, condB_f]
      refine callK_pure c7 ?_
      simp -implicitDefEqProofs (maxSteps := 2000000) (disch := omega) only [go_sem, simprocAttr, -List.reduceReplicate, condB_t, condB_f]
      refine pcallK_pure c8 ?_
      simp -implicitDefEqProofs (maxSteps := 2000000) (disch := omega) only [go_sem, simprocAttr, -List.reduceReplicate, condB_t, condB_f]
      exact dn
theorem rfromInt_spec (v : Int) (h1 : -9223372036854775808 ≤ v) (h2 : v ≤ 9223372036854775807) : PDet Tryz.prog 34 [.int .i64 v] (.agg (rC (v : Rat))) := by
  refine pdet_of E0ok mixed Tryz.func34 (by kernel_rfl) rfl (by kernel_rfl) (Nat.le_of_ble_eq_true rfl) fun N0 h hn hmen => ?_
  have c1 := ifromInt_spec v h1 h2
  have c2 := one_spec
  rw [rC_int]
  unfold iC nl at *
  simp -implicitDefEqProofs (maxSteps := 2000000) (disch := omega) only [go_sem, simprocAttr, -List.reduceReplicate, condB_t, condB_f]
  refine callK_pure c1 ?_
  simp -implicitDefEqProofs (maxSteps := 2000000) (disch := omega) only [go_sem, simprocAttr, -List.reduceReplicate, condB_t, condB_f]
  refine callK_pure c2 ?_
  simp -implicitDefEqProofs (maxSteps := 2000000) (disch := omega) only [go_sem, simprocAttr, -List.reduceReplicate, condB_t, condB_f]
  exact dn
theorem rnorm_spec (x : Raw) (k : Nat) (hx : x.Ok k) (hk : k ≤ 1099511627776) : PDet Tryz.prog 35 [.agg x.cells] (.agg (rC x.val)) := by
  refine pdet_of E0ok mixed Tryz.func35 (by kernel_rfl) rfl (by kernel_rfl) (Nat.le_of_ble_eq_true rfl) fun N0 h hn hmen => ?_
  obtain ⟨s, m, d⟩ := x
  obtain ⟨lm, ld, sm, sd⟩ := hx
  simp only at lm ld sm sd
  have c1 := bits_spec d ld (by omega)
  have c2 := rfromInt_spec 0 (by decide) (by decide)
  have c3 := fun h0 => reduced_spec s m d lm ld (by omega) (by omega) h0
  have hle := nbits_len ld
  unfold Raw.cells Raw.val Raw.num rC Raw.cells nl at *
  simp -implicitDefEqProofs (maxSteps := 2000000) (disch := omega) only [go_sem, simprocAttr, -List.reduceReplicate, condB_t, condB_f]
  refine callK_pure c1 ?_
  by_cases h0 : val d = 0
  · have h1 : nbits (val d) = 0 := nbits_zero.2 h0
    rw [h1, h0, Rat.mkRat_zero]
    simp -implicitDefEqProofs (maxSteps := 2000000) (disch := omega) only [go_sem, simprocAttr, -List.reduceReplicate, condB_t, condB_f]
    refine callK_pure c2 ?_
    simp -implicitDefEqProofs (maxSteps := 2000000) (disch := omega) only [go_sem, simprocAttr, -List.reduceReplicate, condB_t, condB_f]
    exact dn
  · have h1 : nbits (val d) ≠ 0 := fun e => h0 (nbits_zero.1 e)
    simp -implicitDefEqProofs (maxSteps := 2000000) (disch := omega) only [go_sem, simprocAttr, -List.reduceReplicate, condB_t, condB_f]
    refine callK_pure (c3 h0) ?_
    simp -implicitDefEqProofs (maxSteps := 2000000) (disch := omega) only [go_sem, simprocAttr, -List.reduceReplicate, condB_t, condB_f]
    exact dn
theorem rsign_spec (x : Raw) (k : Nat) (hx : x.Ok k) (hk : k ≤ 1099511627776) : PDet Tryz.prog 37 [.agg x.cells] (.int .i64 (sgnR x.val)) := by
  refine pdet_of E0ok mixed Tryz.func37 (by kernel_rfl) rfl (by kernel_rfl) (Nat.le_of_ble_eq_true rfl) fun N0 h hn hmen => ?_
  obtain ⟨s, m, d⟩ := x
  obtain ⟨lm, ld, sm, sd⟩ := hx
  simp only at lm ld sm sd
  have c1 := bits_spec d ld (by omega)
  have c2 := isign_spec s m lm (by omega)
  have hle := nbits_len ld
  unfold Raw.cells Raw.val Raw.num nl at *
  simp only
  simp -implicitDefEqProofs (maxSteps := 2000000) (disch := omega) only [go_sem, simprocAttr, -List.reduceReplicate, condB_t, condB_f]
  refine callK_pure c1 ?_
  by_cases h0 : val d = 0
  · have h1 : nbits (val d) = 0 := nbits_zero.2 h0
    rw [h1, h0, Rat.mkRat_zero]
    simp -implicitDefEqProofs (maxSteps := 2000000) (disch := omega) only [go_sem, simprocAttr, -List.reduceReplicate, condB_t, condB_f]
    exact dn
  · have h1 : nbits (val d) ≠ 0 := fun e => h0 (nbits_zero.1 e)
    rw [sgnR_mk h0]
    simp -implicitDefEqProofs (maxSteps := 2000000) (disch := omega) only [go_sem, simprocAttr, -List.reduceReplicate, condB_t, condB_f]
    refine callK_pure c2 ?_
    simp -implicitDefEqProofs (maxSteps := 2000000) (disch := omega) only [go_sem, simprocAttr, -List.reduceReplicate, condB_t, condB_f]
    exact dn
theorem parts_spec (x : Raw) (k : Nat) (hx : x.Ok k) (hk : k ≤ 1099511627776) : PDet Tryz.prog 62 [.agg x.cells] (.tup [.agg [.bool x.fix.s, nl x.fix.m], .agg [.bool false, nl x.fix.d]]) := by
  refine pdet_of ED62ok mixed Tryz.func62 (by kernel_rfl) rfl (by kernel_rfl) (Nat.le_of_ble_eq_true rfl) fun N0 h hn hmen => ?_
  obtain ⟨s, m, d⟩ := x
  obtain ⟨lm, ld, sm, sd⟩ := hx
  simp only at lm ld sm sd
  have c1 := bits_spec d ld (by omega)
  have c2 := ifromInt_spec 1 (by decide) (by decide)
  have hle := nbits_len ld
  unfold Raw.cells Raw.fix iC nl at *
  simp only
  simp -implicitDefEqProofs (maxSteps := 2000000) (disch := omega) only [go_sem, simprocAttr, -List.reduceReplicate, condB_t, condB_f]
  refine callK_pure c1 ?_
  by_cases h0 : val d = 0
  · have h1 : nbits (val d) = 0 := nbits_zero.2 h0
    rw [h1, if_pos h0]
    simp -implicitDefEqProofs (maxSteps := 2000000) (disch := omega) only [go_sem, simprocAttr, -List.reduceReplicate, condB_t, condB_f]
    refine callK_pure c2 ?_
    simp -implicitDefEqProofs (maxSteps := 2000000) (disch := omega) only [go_sem, simprocAttr, -List.reduceReplicate, condB_t, condB_f]
    exact dn
  · have h1 : nbits (val d) ≠ 0 := fun e => h0 (nbits_zero.1 e)
    rw [if_neg h0]
    simp -implicitDefEqProofs (maxSteps := 2000000) (disch := omega) only [go_sem, simprocAttr, -List.reduceReplicate, condB_t, condB_f]
    exact dn
theorem radd_spec (x y : Raw) (j k : Nat) (hx : x.Ok j) (hy : y.Ok k) (hj : 1 ≤ j) (hk : 1 ≤ k) (hjk : j + k + 1 ≤ 1099511627776) : PDet Tryz.prog 45 [.agg x.cells, .agg y.cells] (.agg (rC (x.val + y.val))) := by
  refine pdet_of E0ok mixed Tryz.func45 (by kernel_rfl) rfl (by kernel_rfl) (Nat.le_of_ble_eq_true rfl) fun N0 h hn hmen => ?_
  have c1 := parts_spec x j hx (by omega)
  have c2 := parts_spec y k hy (by omega)
  have fx := hx.fix hj
  have fy := hy.fix hk
  have dx := x.fix_den
  have dy := y.fix_den
  rw [← x.fix_val, ← y.fix_val]
  unfold Raw.cells at c1 c2 ⊢
  generalize x.fix = p at *
  generalize y.fix = q at *
  obtain ⟨s, m, d⟩ := p
  obtain ⟨t, n, e⟩ := q
  simp only at c1 c2 dx dy
  have c0 := compare_spec d e fx.ld fy.ld (Nat.le_trans fx.sd (by omega)) (Nat.le_trans fy.sd (by omega))
  have c3 := imul_spec s false m e fx.lm fy.ld (Nat.le_trans fx.sm (by omega)) (Nat.le_trans fy.sd (by omega))
  have c4 := imul_spec t false n d fy.lm fx.ld (Nat.le_trans fy.sm (by omega)) (Nat.le_trans fx.sd (by omega))
  have c6 := mul_spec d e fx.ld fy.ld (Nat.le_trans fx.sd (by omega)) (Nat.le_trans fy.sd (by omega))
  have c7 := iadd_spec s t m n fx.lm fy.lm (Nat.le_trans fx.sm (by omega)) (Nat.le_trans fy.sm (by omega))
  obtain ⟨s1, n1, e1, e2, e3⟩ := ival_iC (ival s (val m) * ival false (val e))
  obtain ⟨s2, n2, e4, e5, e6⟩ := ival_iC (ival t (val n) * ival false (val d))
  obtain ⟨s3, n3, e7, e8, e9⟩ := ival_iC (ival s (val m) + ival t (val n))
  have f1 : Fit n1 (j + k) := by
    rw [← e3, Int.natAbs_mul, natAbs_ival, natAbs_ival]
    exact (Fit.list fx.lm fx.sm).mul (Fit.list fy.ld fy.sd)
  have f2 : Fit n2 (j + k) := by
    rw [← e6, Int.natAbs_mul, natAbs_ival, natAbs_ival]
    exact ((Fit.list fy.lm fy.sm).mul (Fit.list fx.ld fx.sd)).mono (by omega)
  have f3 : Fit n3 (j + k + 1) := by
    rw [← e9]
    refine Fit.le ?_ (Int.natAbs_add_le _ _)
    rw [natAbs_ival, natAbs_ival]
    exact ((Fit.list fx.lm fx.sm).mono (Nat.le_add_right j k)).add ((Fit.list fy.lm fy.sm).mono (Nat.le_add_left k j))
  have fd : Fit (val d * val e) (j + k) := (Fit.list fx.ld fx.sd).mul (Fit.list fy.ld fy.sd)
  have l1 := f1.len
  have l2 := f2.len
  have l3 := f3.len
  have l4 := fd.len
  have c5 := iadd_spec s1 s2 (lim n1) (lim n2) (lb_lim _) (lb_lim _) (by omega) (by omega)
  rw [val_lim, val_lim, ← e4, ← e1] at c5
  obtain ⟨s4, n4, e10, e11, e12⟩ := ival_iC (ival s (val m) * ival false (val e) + ival t (val n) * ival false (val d))
  have f4 : Fit n4 (j + k + 1) := by
    rw [← e12]
    refine Fit.le ?_ (Int.natAbs_add_le _ _)
    rw [e3, e6]
    exact f1.add f2
  have l5 := f4.len
  have c8 := reduced_spec s4 (lim n4) (lim (val d * val e)) (lb_lim _) (lb_lim _) (by omega) (by omega) (by rw [val_lim]; exact Nat.mul_ne_zero dx dy)
  have c9 := reduced_spec s3 (lim n3) d (lb_lim _) fx.ld (by omega) (Nat.le_trans fx.sd (by omega)) dx
  rw [val_lim, val_lim, ← e10] at c8
  rw [val_lim, ← e7] at c9
  rw [e2] at c3
  rw [e5] at c4
  rw [e11] at c5
  rw [e8] at c7
  have hv : Raw.val ⟨s, m, d⟩ + Raw.val ⟨t, n, e⟩ = mkRat (ival s (val m) * ival false (val e) + ival t (val n) * ival false (val d)) (val d * val e) := Rat.mkRat_add_mkRat _ _ dx dy
  unfold rC Raw.cells at c8 c9 ⊢
  unfold nl at *
  simp -implicitDefEqProofs (maxSteps := 2000000) (disch := decide) only [go_sem, simprocAttr, -List.reduceReplicate, condB_t, condB_f]
  refine callK_pure c1 ?_
  simp -implicitDefEqProofs (maxSteps := 2000000) (disch := decide) only [go_sem, simprocAttr, -List.reduceReplicate, condB_t, condB_f]
  refine callK_pure c2 ?_
  simp -implicitDefEqProofs (maxSteps := 2000000) (disch := decide) only [go_sem, simprocAttr, -List.reduceReplicate, condB_t, condB_f]
  refine callK_pure c0 ?_
  rcases Nat.lt_trichotomy (val d) (val e) with h1 | h1 | h1
  · rw [cmpN_lt h1, hv]
    simp -implicitDefEqProofs (maxSteps := 2000000) (disch := decide) only [go_sem, simprocAttr, -List.reduceReplicate, condB_t, condB_f]
    refine pcallK_pure c3 ?_
    simp -implicitDefEqProofs (maxSteps := 2000000) (disch := decide) only [go_sem, simprocAttr, -List.reduceReplicate, condB_t, condB_f]
    refine pcallK_pure c4 ?_
    simp -implicitDefEqProofs (maxSteps := 2000000) (disch := decide) only [go_sem, simprocAttr, -List.reduceReplicate, condB_t, condB_f]
    refine pcallK_pure c5 ?_
    simp -implicitDefEqProofs (maxSteps := 2000000) (disch := decide) only [go_sem, simprocAttr, -List.reduceReplicate, condB_t, condB_f]
    refine pcallK_pure c6 ?_
    simp -implicitDefEqProofs (maxSteps := 2000000) (disch := decide) only [go_sem, simprocAttr, -List.reduceReplicate, condB_t, condB_f]
    refine pcallK_pure c8 ?_
    simp -implicitDefEqProofs (maxSteps := 2000000) (disch := decide) only [go_sem, simprocAttr, -List.reduceReplicate, condB_t, condB_f]
    exact dn
  · have hv2 : Raw.val ⟨s, m, d⟩ + Raw.val ⟨t, n, e⟩ = mkRat (ival s (val m) + ival t (val n)) (val d) := by
      unfold Raw.val Raw.num
      simp only
      rw [← h1]; exact mkRat_add_same _ _ dx
    rw [cmpN_eq h1, hv2]
    simp -implicitDefEqProofs (maxSteps := 2000000) (disch := decide) only [go_sem, simprocAttr, -List.reduceReplicate, condB_t, condB_f]
    refine pcallK_pure c7 ?_
    simp -implicitDefEqProofs (maxSteps := 2000000) (disch := decide) only [go_sem, simprocAttr, -List.reduceReplicate, condB_t, condB_f]
    refine pcallK_pure c9 ?_
    simp -implicitDefEqProofs (maxSteps := 2000000) (disch := decide) only [go_sem, simprocAttr, -List.reduceReplicate, condB_t, condB_f]
    exact dn
  · rw [cmpN_gt h1, hv]
    simp -implicitDefEqProofs (maxSteps := 2000000) (disch := decide) only [go_sem, simprocAttr, -List.reduceReplicate, condB_t, condB_f]
    refine pcallK_pure c3 ?_
    simp -implicitDefEqProofs (maxSteps := 2000000) (disch := decide) only [go_sem, simprocAttr, -List.reduceReplicate, condB_t, condB_f]
    refine pcallK_pure c4 ?_
    simp -implicitDefEqProofs (maxSteps := 2000000) (disch := decide) only [go_sem, simprocAttr, -List.reduceReplicate, condB_t, condB_f]
    refine pcallK_pure c5 ?_
    simp -implicitDefEqProofs (maxSteps := 2000000) (disch := decide) only [go_sem, simprocAttr, -List.reduceReplicate, condB_t, condB_f]
    refine pcallK_pure c6 ?_
    simp -implicitDefEqProofs (maxSteps := 2000000) (disch := decide) only [go_sem, simprocAttr, -List.reduceReplicate, condB_t, condB_f]
    refine pcallK_pure c8 ?_
    simp -implicitDefEqProofs (maxSteps := 2000000) (disch := decide) only [go_sem, simprocAttr, -List.reduceReplicate, condB_t, condB_f]
    exact dn
theorem rmul_spec (x y : Raw) (j k : Nat) (hx : x.Ok j) (hy : y.Ok k) (hj : 1 ≤ j) (hk : 1 ≤ k) (hjk : j + k + 1 ≤ 1099511627776) : PDet Tryz.prog 50 [.agg x.cells, .agg y.cells] (.agg (rC (x.val * y.val))) := by
  refine pdet_of E0ok mixed Tryz.func50 (by kernel_rfl) rfl (by kernel_rfl) (Nat.le_of_ble_eq_true rfl) fun N0 h hn hmen => ?_
  have c1 := parts_spec x j hx (by omega)
  have c2 := parts_spec y k hy (by omega)
  have fx := hx.fix hj
  have fy := hy.fix hk
  have dx := x.fix_den
  have dy := y.fix_den
  rw [← x.fix_val, ← y.fix_val]
  unfold Raw.cells at c1 c2 ⊢
  generalize x.fix = p at *
  generalize y.fix = q at *
  obtain ⟨s, m, d⟩ := p
  obtain ⟨t, n, e⟩ := q
  simp only at c1 c2 dx dy
  have c3 := imul_spec s t m n fx.lm fy.lm (Nat.le_trans fx.sm (by omega)) (Nat.le_trans fy.sm (by omega))
  have c6 := mul_spec d e fx.ld fy.ld (Nat.le_trans fx.sd (by omega)) (Nat.le_trans fy.sd (by omega))
  obtain ⟨s1, n1, e1, e2, e3⟩ := ival_iC (ival s (val m) * ival t (val n))
  have f1 : Fit n1 (j + k) := by
    rw [← e3, Int.natAbs_mul, natAbs_ival, natAbs_ival]
    exact (Fit.list fx.lm fx.sm).mul (Fit.list fy.lm fy.sm)
  have fd : Fit (val d * val e) (j + k) := (Fit.list fx.ld fx.sd).mul (Fit.list fy.ld fy.sd)
  have l1 := f1.len
  have l4 := fd.len
  have c8 := reduced_spec s1 (lim n1) (lim (val d * val e)) (lb_lim _) (lb_lim _) (by omega) (by omega) (by rw [val_lim]; exact Nat.mul_ne_zero dx dy)
  rw [val_lim, val_lim, ← e1] at c8
  rw [e2] at c3
  have hv : Raw.val ⟨s, m, d⟩ * Raw.val ⟨t, n, e⟩ = mkRat (ival s (val m) * ival t (val n)) (val d * val e) := Rat.mkRat_mul_mkRat ..
  rw [hv]
  unfold rC Raw.cells at c8 ⊢
  unfold nl at *
  simp -implicitDefEqProofs (maxSteps := 2000000) (disch := decide) only [go_sem, simprocAttr, -List.reduceReplicate, condB_t, condB_f]
  refine callK_pure c1 ?_
  simp -implicitDefEqProofs (maxSteps := 2000000) (disch := decide) only [go_sem, simprocAttr, -List.reduceReplicate, condB_t, condB_f]
  refine callK_pure c2 ?_
  simp -implicitDefEqProofs (maxSteps := 2000000) (disch := decide) only [go_sem, simprocAttr, -List.reduceReplicate, condB_t, condB_f]
  refine pcallK_pure c3 ?_
  simp -implicitDefEqProofs (maxSteps := 2000000) (disch := decide) only [go_sem, simprocAttr, -List.reduceReplicate, condB_t, condB_f]
  refine pcallK_pure c6 ?_
  simp -implicitDefEqProofs (maxSteps := 2000000) (disch := decide) only [go_sem, simprocAttr, -List.reduceReplicate, condB_t, condB_f]
  refine pcallK_pure c8 ?_
  simp -implicitDefEqProofs (maxSteps := 2000000) (disch := decide) only [go_sem, simprocAttr, -List.reduceReplicate, condB_t, condB_f]
  exact dn
end Go.Abs
/-! YtzRef1: The reference of the first layer: its functions compute the same numbers. No condition. -/
set_option linter.unusedVariables false
set_option linter.unusedSimpArgs false
set_option maxRecDepth 100000
set_option maxHeartbeats 1000000
namespace Go.Abs
open Go.Proofs
@[go_sem] theorem R95 : Tryz.f95.results.toList = [.tmp 2] := rfl
@[go_sem] theorem R49 : Tryz.f49.results.toList = [.tmp 4] := rfl
@[go_sem] theorem R73 : Tryz.f73.results.toList = [.tmp 2] := rfl
@[go_sem] theorem R103 : Tryz.f103.results.toList = [.tmp 2, .tmp 3] := rfl
@[go_sem] theorem R112 : Tryz.f112.results.toList = [.tmp 4] := rfl
@[go_sem] theorem R99 : Tryz.f99.results.toList = [.tmp 4] := rfl
@[go_sem] theorem R100 : Tryz.f100.results.toList = [.tmp 4, .tmp 5] := rfl
theorem r1trim_spec (l : List Nat) (hb : Lb l) (hl : l.length ≤ 4398046511104) : PDet Tryz.prog 95 [nl l] (nl (lim (val l))) := by
  refine pdet_of E0ok mixed Tryz.func95 (by kernel_rfl) rfl (by kernel_rfl) (Nat.le_of_ble_eq_true rfl) fun N0 h hn hmen => ?_
  have hlen := lim_len_val hb
  unfold nl
  simp -implicitDefEqProofs (maxSteps := 2000000) (disch := omega) only [go_sem, simprocAttr, -List.reduceReplicate, condB_t, condB_f]
  refine aw_loop (X := Nat) (fun k => ⟨mkS [(0, .sl 1 (numL l)), (3, .int .i64 k)], h, N0⟩) (fun k => k ≤ l.length ∧ ∀ j, k ≤ j → j < l.length → l.getD j 0 = 0) (fun k => k) ⟨l.length, ⟨Nat.le_refl _, fun j h1 h2 => by omega⟩, ?_⟩ ?_
  · (refine Weak.slots (allP ?_) (fun k0 b0 hb0 => by first | exact hb0 | (have hk1 := (hmen k0 b0 hb0).1; simp only [upd, mkH]; (repeat rw [if_neg (by omega)]); exact hb0)) (by omega) hmen; simp -implicitDefEqProofs (maxSteps := 2000000) (disch := omega) only [go_sem, simprocAttr, -List.reduceReplicate, condB_t, condB_f, AllP, AVle_same, AVle_int, AVle_nil, AVle_row, topU_int, topU_bool, topU_sl, topU_row, topU_ptr, topU_iptr, topU_fn, val, List.drop_length])
  · rintro k ⟨hk, hz⟩
    have fin : (0 < k → l.getD (k - 1) 0 ≠ 0) → ∀ (P : List Nat → Prop), P (lim (val l)) → (lim (val l)).length = k → P (l.take k) := fun h1 P hP hl => by
      rw [take_lim hb hk hz h1]; exact hP
    by_cases h0 : 0 < k
    · by_cases h1 : l.getD (k - 1) 0 = 0
      · simp -implicitDefEqProofs (maxSteps := 2000000) (disch := omega) only [go_sem, simprocAttr, -List.reduceReplicate, condB_t, condB_f]
        refine ⟨k - 1, ⟨by omega, fun j h2 h3 => ?_⟩, by omega, ?_⟩
        · by_cases e : j = k - 1
          · rw [e, h1]
          · exact hz j (by omega) h3
        · (refine Weak.slots (allP ?_) (fun k0 b0 hb0 => by first | exact hb0 | (have hk1 := (hmen k0 b0 hb0).1; simp only [upd, mkH]; (repeat rw [if_neg (by omega)]); exact hb0)) (by omega) hmen; simp -implicitDefEqProofs (maxSteps := 2000000) (disch := omega) only [go_sem, simprocAttr, -List.reduceReplicate, condB_t, condB_f, AllP, AVle_same, AVle_int, AVle_nil, AVle_row, topU_int, topU_bool, topU_sl, topU_row, topU_ptr, topU_iptr, topU_fn, val, List.drop_length])
      · have e := take_lim hb hk hz (fun _ => h1)
        simp -implicitDefEqProofs (maxSteps := 2000000) (disch := omega) only [go_sem, simprocAttr, -List.reduceReplicate, condB_t, condB_f, e]
        have hlk : (lim (val l)).length = k := by rw [← e]; simp; omega
        exact .val (.leaf (Thaw.plain (rows := numL (lim (val l))) (by simp [locH, upd]) (by simp [numL, hlk]) (by omega) (List.take_of_length_le (by simp [numL, hlk])) (numL_plain _)))
    · have e := take_lim hb hk hz (fun h => absurd h h0)
      simp -implicitDefEqProofs (maxSteps := 2000000) (disch := omega) only [go_sem, simprocAttr, -List.reduceReplicate, condB_t, condB_f, e]
      have hlk : (lim (val l)).length = k := by rw [← e]; simp; omega
      exact .val (.leaf (Thaw.plain (rows := numL (lim (val l))) (by simp [locH, upd]) (by simp [numL, hlk]) (by omega) (List.take_of_length_le (by simp [numL, hlk])) (numL_plain _)))
theorem r1equal_spec (l m : List Nat) (sl : l.length ≤ 1099511627776) (sm : m.length ≤ 1099511627776) : PDet Tryz.prog 49 [nl l, nl m] (.bool (decide (l = m))) := by
  refine pdet_of E0ok mixed Tryz.func49 (by kernel_rfl) rfl (by kernel_rfl) (Nat.le_of_ble_eq_true rfl) fun N0 h hn hmen => ?_
  unfold nl
  by_cases hlen : l.length = m.length
  · simp -implicitDefEqProofs (maxSteps := 2000000) (disch := omega) only [go_sem, simprocAttr, -List.reduceReplicate, condB_t, condB_f]
    refine aw_loop (X := Nat) (fun k => ⟨mkS [(0, .sl 1 (numL l)), (1, .sl 1 (numL m)), (5, .int .i64 k)], h, N0⟩) (fun k => k ≤ l.length ∧ l.take k = m.take k) (fun k => l.length - k) ⟨0, ⟨Nat.zero_le _, rfl⟩, ?_⟩ ?_
    · (refine Weak.slots (allP ?_) (fun k0 b0 hb0 => by first | exact hb0 | (have hk1 := (hmen k0 b0 hb0).1; simp only [upd, mkH]; (repeat rw [if_neg (by omega)]); exact hb0)) (by omega) hmen; simp -implicitDefEqProofs (maxSteps := 2000000) (disch := omega) only [go_sem, simprocAttr, -List.reduceReplicate, condB_t, condB_f, AllP, AVle_same, AVle_int, AVle_nil, AVle_row, topU_int, topU_bool, topU_sl, topU_row, topU_ptr, topU_iptr, topU_fn, val, List.drop_length])
    · rintro k ⟨hk, ht⟩
      by_cases h0 : k < l.length
      · by_cases h1 : l.getD k 0 = m.getD k 0
        · simp -implicitDefEqProofs (maxSteps := 2000000) (disch := omega) only [go_sem, simprocAttr, -List.reduceReplicate, condB_t, condB_f]
          refine ⟨k + 1, ⟨h0, ?_⟩, by omega, ?_⟩
          · rw [take_succ_getD h0, take_succ_getD (by omega), ht, h1]
          · (refine Weak.slots (allP ?_) (fun k0 b0 hb0 => by first | exact hb0 | (have hk1 := (hmen k0 b0 hb0).1; simp only [upd, mkH]; (repeat rw [if_neg (by omega)]); exact hb0)) (by omega) hmen; simp -implicitDefEqProofs (maxSteps := 2000000) (disch := omega) only [go_sem, simprocAttr, -List.reduceReplicate, condB_t, condB_f, AllP, AVle_same, AVle_int, AVle_nil, AVle_row, topU_int, topU_bool, topU_sl, topU_row, topU_ptr, topU_iptr, topU_fn, val, List.drop_length])
        · have hne : l ≠ m := fun e => h1 (by rw [e])
          rw [decide_eq_false hne]
          simp -implicitDefEqProofs (maxSteps := 2000000) (disch := omega) only [go_sem, simprocAttr, -List.reduceReplicate, condB_t, condB_f]
          exact dn
      · obtain rfl : k = l.length := by omega
        rw [List.take_of_length_le (Nat.le_refl _), List.take_of_length_le (by omega)] at ht
        rw [decide_eq_true ht]
        simp -implicitDefEqProofs (maxSteps := 2000000) (disch := omega) only [go_sem, simprocAttr, -List.reduceReplicate, condB_t, condB_f]
        exact dn
  · have hne : l ≠ m := fun e => hlen (by rw [e])
    rw [decide_eq_false hne]
    simp -implicitDefEqProofs (maxSteps := 2000000) (disch := omega) only [go_sem, simprocAttr, -List.reduceReplicate, condB_t, condB_f]
    exact dn
theorem r1fromUint64_spec (v : Nat) (hv : v < 18446744073709551616) : PDet Tryz.prog 73 [.int .u64 v] (nl (lim v)) := by
  refine pdet_of E0ok mixed Tryz.func73 (by kernel_rfl) rfl (by kernel_rfl) (Nat.le_of_ble_eq_true rfl) fun N0 h hn hmen => ?_
  simp -implicitDefEqProofs (maxSteps := 2000000) (disch := omega) only [go_sem, simprocAttr, -List.reduceReplicate, condB_t, condB_f]
  have hb : Lb [v % 4294967296, v / 4294967296] := by
    intro x hx
    simp only [List.mem_cons, List.not_mem_nil, or_false] at hx
    rcases hx with rfl | rfl <;> omega
  have hv2 : val [v % 4294967296, v / 4294967296] = v := by simp only [val]; omega
  have hc := r1trim_spec _ hb (by simp)
  rw [hv2] at hc
  refine callK_row hc (by simp only [upd_same]; rfl) rfl (by simp) (show _ = numL [v % 4294967296, v / 4294967296] from rfl) (numL_plain _) ?_
  simp -implicitDefEqProofs (maxSteps := 2000000) (disch := omega) only [go_sem, simprocAttr, -List.reduceReplicate, condB_t, condB_f]
  exact dn
theorem r1uint64_ok (l : List Nat) (hb : Lb l) (hl : l.length ≤ 1099511627776) (hv : val l < 18446744073709551616) : PDet Tryz.prog 103 [nl l] (.tup [.int .u64 (val l : Nat), .bool true]) := by
  refine pdet_of E0ok mixed Tryz.func103 (by kernel_rfl) rfl (by kernel_rfl) (Nat.le_of_ble_eq_true rfl) fun N0 h hn hmen => ?_
  have hlen : (lim (val l)).length ≤ 2 := lim_len.2 hv
  unfold nl
  simp -implicitDefEqProofs (maxSteps := 2000000) (disch := omega) only [go_sem, simprocAttr, -List.reduceReplicate, condB_t, condB_f]
  refine callK_pure (r1trim_spec l hb (by omega)) ?_
  unfold nl
  simp -implicitDefEqProofs (maxSteps := 2000000) (disch := omega) only [go_sem, simprocAttr, -List.reduceReplicate, condB_t, condB_f]
  have hbb := lb_lim (val l)
  have hvv := val_lim (val l)
  generalize lim (val l) = a at hlen hbb hvv
  refine aw_loop (X := Nat) (fun k => ⟨mkS [(0, .sl 1 (numL a)), (4, .int .u64 (val (a.drop k) : Nat)), (5, .int .i64 ((k : Int) - 1))], h, N0⟩) (fun k => k ≤ a.length) (fun k => k) ⟨a.length, Nat.le_refl _, ?_⟩ ?_
  · (refine Weak.slots (allP ?_) (fun k0 b0 hb0 => by first | exact hb0 | (have hk1 := (hmen k0 b0 hb0).1; simp only [upd, mkH]; (repeat rw [if_neg (by omega)]); exact hb0)) (by omega) hmen; simp -implicitDefEqProofs (maxSteps := 2000000) (disch := omega) only [go_sem, simprocAttr, -List.reduceReplicate, condB_t, condB_f, AllP, AVle_same, AVle_int, AVle_nil, AVle_row, topU_int, topU_bool, topU_sl, topU_row, topU_ptr, topU_iptr, topU_fn, val, List.drop_length])
  · intro k hk
    by_cases h0 : 0 < k
    · have h1 := val_drop (l := a) (i := k - 1) (by omega)
      rw [show k - 1 + 1 = k by omega] at h1
      have h2 := val_drop_le a (k - 1) (by omega)
      have h3 := hbb.get (k - 1)
      simp -implicitDefEqProofs (maxSteps := 2000000) (disch := omega) only [go_sem, simprocAttr, -List.reduceReplicate, condB_t, condB_f]
      refine ⟨k - 1, by omega, by omega, ?_⟩
      rw [h1]
      (refine Weak.slots (allP ?_) (fun k0 b0 hb0 => by first | exact hb0 | (have hk1 := (hmen k0 b0 hb0).1; simp only [upd, mkH]; (repeat rw [if_neg (by omega)]); exact hb0)) (by omega) hmen; simp -implicitDefEqProofs (maxSteps := 2000000) (disch := omega) only [go_sem, simprocAttr, -List.reduceReplicate, condB_t, condB_f, AllP, AVle_same, AVle_int, AVle_nil, AVle_row, topU_int, topU_bool, topU_sl, topU_row, topU_ptr, topU_iptr, topU_fn, val, List.drop_length])
    · obtain rfl : k = 0 := by omega
      simp -implicitDefEqProofs (maxSteps := 2000000) (disch := omega) only [go_sem, simprocAttr, -List.reduceReplicate, condB_t, condB_f]
      rw [hvv]
      exact dn
theorem r1uint64_no (l : List Nat) (hb : Lb l) (hl : l.length ≤ 1099511627776) (hv : ¬ val l < 18446744073709551616) : PDet Tryz.prog 103 [nl l] (.tup [.int .u64 0, .bool false]) := by
  refine pdet_of E0ok mixed Tryz.func103 (by kernel_rfl) rfl (by kernel_rfl) (Nat.le_of_ble_eq_true rfl) fun N0 h hn hmen => ?_
  have hlen : ¬ (lim (val l)).length ≤ 2 := fun h => hv (lim_len.1 h)
  unfold nl
  simp -implicitDefEqProofs (maxSteps := 2000000) (disch := omega) only [go_sem, simprocAttr, -List.reduceReplicate, condB_t, condB_f]
  refine callK_pure (r1trim_spec l hb (by omega)) ?_
  unfold nl
  simp -implicitDefEqProofs (maxSteps := 2000000) (disch := omega) only [go_sem, simprocAttr, -List.reduceReplicate, condB_t, condB_f]
  exact dn
theorem r1compare_spec (l m : List Nat) (hl : Lb l) (hm : Lb m) (sl : l.length ≤ 1099511627776) (sm : m.length ≤ 1099511627776) : PDet Tryz.prog 112 [nl l, nl m] (.int .i64 (cmpN (val l) (val m))) := by
  refine pdet_of E0ok mixed Tryz.func112 (by kernel_rfl) rfl (by kernel_rfl) (Nat.le_of_ble_eq_true rfl) fun N0 h hn hmen => ?_
  have hl2 := lim_len_val hl
  have hm2 := lim_len_val hm
  unfold nl
  simp -implicitDefEqProofs (maxSteps := 2000000) (disch := omega) only [go_sem, simprocAttr, -List.reduceReplicate, condB_t, condB_f]
  refine callK_pure (r1trim_spec l hl (by omega)) ?_
  unfold nl
  simp -implicitDefEqProofs (maxSteps := 2000000) (disch := omega) only [go_sem, simprocAttr, -List.reduceReplicate, condB_t, condB_f]
  refine callK_pure (r1trim_spec m hm (by omega)) ?_
  unfold nl
  simp -implicitDefEqProofs (maxSteps := 2000000) (disch := omega) only [go_sem, simprocAttr, -List.reduceReplicate, condB_t, condB_f]
  rcases Nat.lt_trichotomy (lim (val l)).length (lim (val m)).length with hlt | heq | hgt
  · rw [cmpN_lt (lt_of_lim_len hlt)]
    simp -implicitDefEqProofs (maxSteps := 2000000) (disch := omega) only [go_sem, simprocAttr, -List.reduceReplicate, condB_t, condB_f]
    exact dn
  · have bl := lb_lim (val l)
    have vl := val_lim (val l)
    have bm := lb_lim (val m)
    have vm := val_lim (val m)
    generalize lim (val l) = a at *
    generalize lim (val m) = b at *
    rw [← vl, ← vm]
    simp -implicitDefEqProofs (maxSteps := 2000000) (disch := omega) only [go_sem, simprocAttr, -List.reduceReplicate, condB_t, condB_f]
    refine aw_loop (X := Nat) (fun k => ⟨mkS [(0, .sl 1 (numL a)), (1, .sl 1 (numL b)), (5, .int .i64 ((k : Int) - 1))], h, N0⟩) (fun k => k ≤ a.length ∧ a.drop k = b.drop k) (fun k => k) ⟨a.length, ⟨Nat.le_refl _, by rw [List.drop_of_length_le (Nat.le_refl _), List.drop_of_length_le (by omega)]⟩, ?_⟩ ?_
    · (refine Weak.slots (allP ?_) (fun k0 b0 hb0 => by first | exact hb0 | (have hk1 := (hmen k0 b0 hb0).1; simp only [upd, mkH]; (repeat rw [if_neg (by omega)]); exact hb0)) (by omega) hmen; simp -implicitDefEqProofs (maxSteps := 2000000) (disch := omega) only [go_sem, simprocAttr, -List.reduceReplicate, condB_t, condB_f, AllP, AVle_same, AVle_int, AVle_nil, AVle_row, topU_int, topU_bool, topU_sl, topU_row, topU_ptr, topU_iptr, topU_fn, val, List.drop_length])
    · rintro k ⟨hk, hd⟩
      by_cases h0 : 0 < k
      · have hd2 : a.drop (k - 1 + 1) = b.drop (k - 1 + 1) := by rw [show k - 1 + 1 = k by omega]; exact hd
        rcases Nat.lt_trichotomy (a.getD (k - 1) 0) (b.getD (k - 1) 0) with h1 | h1 | h1
        · rw [cmpN_lt (val_top_lt bl bm (by omega) (by omega) hd2 h1)]
          simp -implicitDefEqProofs (maxSteps := 2000000) (disch := omega) only [go_sem, simprocAttr, -List.reduceReplicate, condB_t, condB_f]
          exact dn
        · simp -implicitDefEqProofs (maxSteps := 2000000) (disch := omega) only [go_sem, simprocAttr, -List.reduceReplicate, condB_t, condB_f]
          refine ⟨k - 1, ⟨by omega, ?_⟩, by omega, ?_⟩
          · rw [drop_cons (show k - 1 < a.length by omega), drop_cons (show k - 1 < b.length by omega), h1, hd2]
          · (refine Weak.slots (allP ?_) (fun k0 b0 hb0 => by first | exact hb0 | (have hk1 := (hmen k0 b0 hb0).1; simp only [upd, mkH]; (repeat rw [if_neg (by omega)]); exact hb0)) (by omega) hmen; simp -implicitDefEqProofs (maxSteps := 2000000) (disch := omega) only [go_sem, simprocAttr, -List.reduceReplicate, condB_t, condB_f, AllP, AVle_same, AVle_int, AVle_nil, AVle_row, topU_int, topU_bool, topU_sl, topU_row, topU_ptr, topU_iptr, topU_fn, val, List.drop_length])
        · rw [cmpN_gt (val_top_lt bm bl (by omega) (by omega) hd2.symm h1)]
          simp -implicitDefEqProofs (maxSteps := 2000000) (disch := omega) only [go_sem, simprocAttr, -List.reduceReplicate, condB_t, condB_f]
          exact dn
      · obtain rfl : k = 0 := by omega
        have : a = b := hd
        rw [cmpN_eq (by rw [this])]
        simp -implicitDefEqProofs (maxSteps := 2000000) (disch := omega) only [go_sem, simprocAttr, -List.reduceReplicate, condB_t, condB_f]
        exact dn
  · rw [cmpN_gt (lt_of_lim_len hgt)]
    simp -implicitDefEqProofs (maxSteps := 2000000) (disch := omega) only [go_sem, simprocAttr, -List.reduceReplicate, condB_t, condB_f]
    exact dn
theorem r1add_spec (a b : List Nat) (ba : Lb a) (bb : Lb b) (sl : a.length ≤ 1099511627776) (sm : b.length ≤ 1099511627776) : PDet Tryz.prog 99 [nl a, nl b] (nl (lim (val a + val b))) := by
  refine pdet_of E0ok mixed Tryz.func99 (by kernel_rfl) rfl (by kernel_rfl) (Nat.le_of_ble_eq_true rfl) fun N0 h hn hmen => ?_
  unfold nl
  obtain ⟨n, hn1, hn2, hn3⟩ : ∃ n, a.length ≤ n ∧ b.length ≤ n ∧ (if (a.length : Int) < b.length then (b.length : Int) else a.length) = (n : Int) := ⟨max a.length b.length, by omega, by omega, by split <;> omega⟩
  have hn4 : n ≤ 1099511627776 := by split at hn3 <;> omega
  simp -implicitDefEqProofs (maxSteps := 2000000) (disch := omega) only [go_sem, simprocAttr, -List.reduceReplicate, condB_t, condB_f, hn3]
  obtain ⟨id, hid⟩ : ∃ id, id = N0 + 56 := ⟨_, rfl⟩
  rw [← hid]
  refine aw_loop (X := Nat × List Nat × Nat) (fun x => ⟨mkS [(0, .sl 1 (numL a)), (1, .sl 1 (numL b)), (5, .row id (n + 1) 0 (n + 1)), (6, .int .u64 x.2.2), (7, .int .i64 x.1)], mkH h [(id, ⟨1, numL x.2.1⟩)], id + 32⟩)
    (fun x => x.1 ≤ n + 1 ∧ x.2.1.length = n + 1 ∧ Lb x.2.1 ∧ x.2.2 ≤ 1 ∧ val (x.2.1.take x.1) + 4294967296 ^ x.1 * x.2.2 = val (a.take x.1) + val (b.take x.1)) (fun x => n + 1 - x.1)
    ⟨(0, List.replicate (n + 1) 0, 0), ⟨Nat.zero_le _, by simp, Lb.zeros _, Nat.zero_le _, by simp [val]⟩, ?_⟩ ?_
  · (refine Weak.head1 (by simp only [upd_same, mkH_cons, ↓reduceIte] <;> rfl) (by omega) (numL_leafU _ _) (fun q hq => by simp only [upd, mkH, if_neg hq]) (by omega) hmen ?_; simp -implicitDefEqProofs (maxSteps := 2000000) (disch := omega) only [go_sem, simprocAttr, -List.reduceReplicate, condB_t, condB_f, AllP, AVle_same, AVle_int, AVle_nil, AVle_row, topU_int, topU_bool, topU_sl, topU_row, topU_ptr, topU_iptr, topU_fn, val, List.drop_length])
  · rintro ⟨k, o, c⟩ ⟨hk, ho, lo, hc, hv⟩
    simp only at hk ho lo hc hv
    by_cases h0 : k < n + 1
    · have hx := ba.get k
      have hy := bb.get k
      have step := fun s hs => add_round (s := s) ba bb ho lo h0 hc hv hs
      by_cases h1 : k < a.length <;> by_cases h2 : k < b.length
      · obtain ⟨g1, g2, g3, g4⟩ := step (c + (a.getD k 0 + b.getD k 0)) (by omega)
        simp -implicitDefEqProofs (maxSteps := 2000000) (disch := omega) only [go_sem, simprocAttr, -List.reduceReplicate, condB_t, condB_f]
        exact ⟨(k + 1, o.set k ((c + (a.getD k 0 + b.getD k 0)) % 4294967296), (c + (a.getD k 0 + b.getD k 0)) / 4294967296), ⟨h0, g1, g2, g3, g4⟩, (by first | omega | (simp only; omega)), by (refine Weak.head1 (by simp only [upd_same, mkH_cons, ↓reduceIte] <;> rfl) (by omega) (numL_leafU _ _) (fun q hq => by simp only [upd, mkH, if_neg hq]) (by omega) hmen ?_; simp -implicitDefEqProofs (maxSteps := 2000000) (disch := omega) only [go_sem, simprocAttr, -List.reduceReplicate, condB_t, condB_f, AllP, AVle_same, AVle_int, AVle_nil, AVle_row, topU_int, topU_bool, topU_sl, topU_row, topU_ptr, topU_iptr, topU_fn, val, List.drop_length])⟩
      · have eb : b.getD k 0 = 0 := getD_out (by omega)
        obtain ⟨g1, g2, g3, g4⟩ := step (c + a.getD k 0) (by omega)
        simp -implicitDefEqProofs (maxSteps := 2000000) (disch := omega) only [go_sem, simprocAttr, -List.reduceReplicate, condB_t, condB_f]
        exact ⟨(k + 1, o.set k ((c + a.getD k 0) % 4294967296), (c + a.getD k 0) / 4294967296), ⟨h0, g1, g2, g3, g4⟩, (by first | omega | (simp only; omega)), by (refine Weak.head1 (by simp only [upd_same, mkH_cons, ↓reduceIte] <;> rfl) (by omega) (numL_leafU _ _) (fun q hq => by simp only [upd, mkH, if_neg hq]) (by omega) hmen ?_; simp -implicitDefEqProofs (maxSteps := 2000000) (disch := omega) only [go_sem, simprocAttr, -List.reduceReplicate, condB_t, condB_f, AllP, AVle_same, AVle_int, AVle_nil, AVle_row, topU_int, topU_bool, topU_sl, topU_row, topU_ptr, topU_iptr, topU_fn, val, List.drop_length])⟩
      · have ea : a.getD k 0 = 0 := getD_out (by omega)
        obtain ⟨g1, g2, g3, g4⟩ := step (c + b.getD k 0) (by omega)
        simp -implicitDefEqProofs (maxSteps := 2000000) (disch := omega) only [go_sem, simprocAttr, -List.reduceReplicate, condB_t, condB_f]
        exact ⟨(k + 1, o.set k ((c + b.getD k 0) % 4294967296), (c + b.getD k 0) / 4294967296), ⟨h0, g1, g2, g3, g4⟩, (by first | omega | (simp only; omega)), by (refine Weak.head1 (by simp only [upd_same, mkH_cons, ↓reduceIte] <;> rfl) (by omega) (numL_leafU _ _) (fun q hq => by simp only [upd, mkH, if_neg hq]) (by omega) hmen ?_; simp -implicitDefEqProofs (maxSteps := 2000000) (disch := omega) only [go_sem, simprocAttr, -List.reduceReplicate, condB_t, condB_f, AllP, AVle_same, AVle_int, AVle_nil, AVle_row, topU_int, topU_bool, topU_sl, topU_row, topU_ptr, topU_iptr, topU_fn, val, List.drop_length])⟩
      · have ea : a.getD k 0 = 0 := getD_out (by omega)
        have eb : b.getD k 0 = 0 := getD_out (by omega)
        obtain ⟨g1, g2, g3, g4⟩ := step c (by omega)
        rw [Nat.mod_eq_of_lt (Nat.lt_of_le_of_lt hc (by decide))] at g1 g2 g4
        simp -implicitDefEqProofs (maxSteps := 2000000) (disch := omega) only [go_sem, simprocAttr, -List.reduceReplicate, condB_t, condB_f]
        exact ⟨(k + 1, o.set k c, c / 4294967296), ⟨h0, g1, g2, g3, g4⟩, (by first | omega | (simp only; omega)), by (refine Weak.head1 (by simp only [upd_same, mkH_cons, ↓reduceIte] <;> rfl) (by omega) (numL_leafU _ _) (fun q hq => by simp only [upd, mkH, if_neg hq]) (by omega) hmen ?_; simp -implicitDefEqProofs (maxSteps := 2000000) (disch := omega) only [go_sem, simprocAttr, -List.reduceReplicate, condB_t, condB_f, AllP, AVle_same, AVle_int, AVle_nil, AVle_row, topU_int, topU_bool, topU_sl, topU_row, topU_ptr, topU_iptr, topU_fn, val, List.drop_length])⟩
    · obtain rfl : k = n + 1 := by omega
      have hv2 := add_end ba bb hn1 hn2 ho hv
      have hc2 := r1trim_spec o lo (by omega)
      rw [hv2] at hc2
      simp -implicitDefEqProofs (maxSteps := 2000000) (disch := omega) only [go_sem, simprocAttr, -List.reduceReplicate, condB_t, condB_f]
      refine callK_row hc2 (by simp only [upd_same, mkH_cons, ↓reduceIte] <;> rfl) (by simp [ho]) (by omega) (List.take_of_length_le (by simp [ho])) (numL_plain _) ?_
      simp -implicitDefEqProofs (maxSteps := 2000000) (disch := omega) only [go_sem, simprocAttr, -List.reduceReplicate, condB_t, condB_f]
      exact dn
theorem r1sub_no (l m : List Nat) (hl : Lb l) (hm : Lb m) (sl : l.length ≤ 1099511627776) (sm : m.length ≤ 1099511627776) (hlt : val l < val m) : PDet Tryz.prog 100 [nl l, nl m] (.tup [.sl 1 [], .bool false]) := by
  refine pdet_of E0ok mixed Tryz.func100 (by kernel_rfl) rfl (by kernel_rfl) (Nat.le_of_ble_eq_true rfl) fun N0 h hn hmen => ?_
  have hc := r1compare_spec l m hl hm sl sm
  rw [cmpN_lt hlt] at hc
  unfold nl at *
  simp -implicitDefEqProofs (maxSteps := 2000000) (disch := omega) only [go_sem, simprocAttr, -List.reduceReplicate, condB_t, condB_f]
  refine callK_pure hc ?_
  simp -implicitDefEqProofs (maxSteps := 2000000) (disch := omega) only [go_sem, simprocAttr, -List.reduceReplicate, condB_t, condB_f]
  exact dn
theorem r1sub_ok (l m : List Nat) (hl : Lb l) (hm : Lb m) (sl : l.length ≤ 1099511627776) (sm : m.length ≤ 1099511627776) (hge : val m ≤ val l) : PDet Tryz.prog 100 [nl l, nl m] (.tup [nl (lim (val l - val m)), .bool true]) := by
  refine pdet_of E0ok mixed Tryz.func100 (by kernel_rfl) rfl (by kernel_rfl) (Nat.le_of_ble_eq_true rfl) fun N0 h hn hmen => ?_
  have hc := r1compare_spec l m hl hm sl sm
  have hcn : 0 ≤ cmpN (val l) (val m) := by
    rcases Nat.lt_or_ge (val m) (val l) with h | h
    · rw [cmpN_gt h]; decide
    · rw [cmpN_eq (by omega)]; decide
  have hl2 := lim_len_val hl
  have hm2 := lim_len_val hm
  unfold nl at *
  simp -implicitDefEqProofs (maxSteps := 2000000) (disch := omega) only [go_sem, simprocAttr, -List.reduceReplicate, condB_t, condB_f]
  refine callK_pure hc ?_
  generalize cmpN (val l) (val m) = cc at hcn
  simp -implicitDefEqProofs (maxSteps := 2000000) (disch := omega) only [go_sem, simprocAttr, -List.reduceReplicate, condB_t, condB_f]
  refine callK_pure (r1trim_spec l hl (by omega)) ?_
  unfold nl
  simp -implicitDefEqProofs (maxSteps := 2000000) (disch := omega) only [go_sem, simprocAttr, -List.reduceReplicate, condB_t, condB_f]
  refine callK_pure (r1trim_spec m hm (by omega)) ?_
  unfold nl
  simp -implicitDefEqProofs (maxSteps := 2000000) (disch := omega) only [go_sem, simprocAttr, -List.reduceReplicate, condB_t, condB_f]
  have ba := lb_lim (val l)
  have va := val_lim (val l)
  have bb := lb_lim (val m)
  have vb := val_lim (val m)
  have hlen := lim_len_mono hge
  generalize lim (val l) = a at *
  generalize lim (val m) = b at *
  obtain ⟨id, hid⟩ : ∃ id, id = N0 + 112 := ⟨_, rfl⟩
  rw [← hid]
  refine aw_loop (X := Nat × List Nat × Nat) (fun x => ⟨mkS [(0, .sl 1 (numL a)), (1, .sl 1 (numL b)), (6, .row id a.length 0 a.length), (7, .int .u64 x.2.2), (8, .int .i64 x.1)], mkH h [(id, ⟨1, numL x.2.1⟩)], id + 32⟩)
    (fun x => x.1 ≤ a.length ∧ x.2.1.length = a.length ∧ Lb x.2.1 ∧ x.2.2 ≤ 1 ∧ val (x.2.1.take x.1) + val (b.take x.1) = val (a.take x.1) + 4294967296 ^ x.1 * x.2.2) (fun x => a.length - x.1)
    ⟨(0, List.replicate a.length 0, 0), ⟨Nat.zero_le _, by simp, Lb.zeros _, Nat.zero_le _, by simp [val]⟩, ?_⟩ ?_
  · (refine Weak.head1 (by simp only [upd_same, mkH_cons, ↓reduceIte] <;> rfl) (by omega) (numL_leafU _ _) (fun q hq => by simp only [upd, mkH, if_neg hq]) (by omega) hmen ?_; simp -implicitDefEqProofs (maxSteps := 2000000) (disch := omega) only [go_sem, simprocAttr, -List.reduceReplicate, condB_t, condB_f, AllP, AVle_same, AVle_int, AVle_nil, AVle_row, topU_int, topU_bool, topU_sl, topU_row, topU_ptr, topU_iptr, topU_fn, val, List.drop_length])
  · rintro ⟨k, o, c⟩ ⟨hk, ho, lo, hc1, hv⟩
    simp only at hk ho lo hc1 hv
    by_cases h0 : k < a.length
    · have hx := ba.get k
      have hy := bb.get k
      have step := fun t d hs => sub_round (t := t) (d := d) (b := b) ho lo h0 hv hs
      have e1 : ((a.getD k 0 : Nat) : Int) + 4294967296 = ((a.getD k 0 + 4294967296 : Nat) : Int) := by omega
      by_cases h1 : k < b.length
      · by_cases h2 : a.getD k 0 < c + b.getD k 0
        · simp -implicitDefEqProofs (maxSteps := 2000000) (disch := omega) only [go_sem, simprocAttr, -List.reduceReplicate, condB_t, condB_f, e1]
          rw [borrow_lit (y := c + b.getD k 0) h2 (by omega)]
          obtain ⟨g1, g2, g3⟩ := step (a.getD k 0 + 4294967296 - (c + b.getD k 0)) 1 (by omega) (by omega)
          exact ⟨(k + 1, o.set k (a.getD k 0 + 4294967296 - (c + b.getD k 0)), 1), ⟨h0, g1, g2, Nat.le_refl _, g3⟩, (by first | omega | (simp only; omega)), by (refine Weak.head1 (by simp only [upd_same, mkH_cons, ↓reduceIte] <;> rfl) (by omega) (numL_leafU _ _) (fun q hq => by simp only [upd, mkH, if_neg hq]) (by omega) hmen ?_; simp -implicitDefEqProofs (maxSteps := 2000000) (disch := omega) only [go_sem, simprocAttr, -List.reduceReplicate, condB_t, condB_f, AllP, AVle_same, AVle_int, AVle_nil, AVle_row, topU_int, topU_bool, topU_sl, topU_row, topU_ptr, topU_iptr, topU_fn, val, List.drop_length])⟩
        · simp -implicitDefEqProofs (maxSteps := 2000000) (disch := omega) only [go_sem, simprocAttr, -List.reduceReplicate, condB_t, condB_f]
          rw [noborrow_val (y := c + b.getD k 0) (by omega) (by omega)]
          obtain ⟨g1, g2, g3⟩ := step (a.getD k 0 - (c + b.getD k 0)) 0 (by omega) (by omega)
          exact ⟨(k + 1, o.set k (a.getD k 0 - (c + b.getD k 0)), 0), ⟨h0, g1, g2, Nat.zero_le _, g3⟩, (by first | omega | (simp only; omega)), by (refine Weak.head1 (by simp only [upd_same, mkH_cons, ↓reduceIte] <;> rfl) (by omega) (numL_leafU _ _) (fun q hq => by simp only [upd, mkH, if_neg hq]) (by omega) hmen ?_; simp -implicitDefEqProofs (maxSteps := 2000000) (disch := omega) only [go_sem, simprocAttr, -List.reduceReplicate, condB_t, condB_f, AllP, AVle_same, AVle_int, AVle_nil, AVle_row, topU_int, topU_bool, topU_sl, topU_row, topU_ptr, topU_iptr, topU_fn, val, List.drop_length])⟩
      · have eb : b.getD k 0 = 0 := getD_out (by omega)
        by_cases h2 : a.getD k 0 < c
        · simp -implicitDefEqProofs (maxSteps := 2000000) (disch := omega) only [go_sem, simprocAttr, -List.reduceReplicate, condB_t, condB_f, e1]
          rw [borrow_lit (y := c) h2 (by omega)]
          obtain ⟨g1, g2, g3⟩ := step (a.getD k 0 + 4294967296 - (c)) 1 (by omega) (by omega)
          exact ⟨(k + 1, o.set k (a.getD k 0 + 4294967296 - (c)), 1), ⟨h0, g1, g2, Nat.le_refl _, g3⟩, (by first | omega | (simp only; omega)), by (refine Weak.head1 (by simp only [upd_same, mkH_cons, ↓reduceIte] <;> rfl) (by omega) (numL_leafU _ _) (fun q hq => by simp only [upd, mkH, if_neg hq]) (by omega) hmen ?_; simp -implicitDefEqProofs (maxSteps := 2000000) (disch := omega) only [go_sem, simprocAttr, -List.reduceReplicate, condB_t, condB_f, AllP, AVle_same, AVle_int, AVle_nil, AVle_row, topU_int, topU_bool, topU_sl, topU_row, topU_ptr, topU_iptr, topU_fn, val, List.drop_length])⟩
        · simp -implicitDefEqProofs (maxSteps := 2000000) (disch := omega) only [go_sem, simprocAttr, -List.reduceReplicate, condB_t, condB_f]
          rw [noborrow_val (y := c) (by omega) (by omega)]
          obtain ⟨g1, g2, g3⟩ := step (a.getD k 0 - (c)) 0 (by omega) (by omega)
          exact ⟨(k + 1, o.set k (a.getD k 0 - (c)), 0), ⟨h0, g1, g2, Nat.zero_le _, g3⟩, (by first | omega | (simp only; omega)), by (refine Weak.head1 (by simp only [upd_same, mkH_cons, ↓reduceIte] <;> rfl) (by omega) (numL_leafU _ _) (fun q hq => by simp only [upd, mkH, if_neg hq]) (by omega) hmen ?_; simp -implicitDefEqProofs (maxSteps := 2000000) (disch := omega) only [go_sem, simprocAttr, -List.reduceReplicate, condB_t, condB_f, AllP, AVle_same, AVle_int, AVle_nil, AVle_row, topU_int, topU_bool, topU_sl, topU_row, topU_ptr, topU_iptr, topU_fn, val, List.drop_length])⟩
    · obtain rfl : k = a.length := by omega
      have hv2 := sub_end lo ho hlen (by omega) hv
      rw [va, vb] at hv2
      have hc2 := r1trim_spec o lo (by omega)
      rw [hv2] at hc2
      simp -implicitDefEqProofs (maxSteps := 2000000) (disch := omega) only [go_sem, simprocAttr, -List.reduceReplicate, condB_t, condB_f]
      refine callK_row hc2 (by simp only [upd_same, mkH_cons, ↓reduceIte] <;> rfl) (by simp [ho]) (by omega) (List.take_of_length_le (by simp [ho])) (numL_plain _) ?_
      simp -implicitDefEqProofs (maxSteps := 2000000) (disch := omega) only [go_sem, simprocAttr, -List.reduceReplicate, condB_t, condB_f]
      exact dn
end Go.Abs
/-! YtzRef2: The reference of the first layer: products, binary digits, binary division. No condition. -/
set_option linter.unusedVariables false
set_option linter.unusedSimpArgs false
set_option maxRecDepth 100000
set_option maxHeartbeats 1000000
namespace Go.Abs
open Go.Proofs
@[go_sem] theorem R101 : Tryz.f101.results.toList = [.tmp 4] := rfl
@[go_sem] theorem R104 : Tryz.f104.results.toList = [.tmp 2] := rfl
@[go_sem] theorem R105 : Tryz.f105.results.toList = [.tmp 4] := rfl
@[go_sem] theorem R92 : Tryz.f92.results.toList = [.tmp 4, .tmp 5, .tmp 6] := rfl
@[go_sem] theorem R91 : Tryz.f91.results.toList = [.tmp 4] := rfl
theorem r1mul_spec (a b : List Nat) (ba : Lb a) (bb : Lb b) (sl : a.length ≤ 1099511627776) (sm : b.length ≤ 1099511627776) : PDet Tryz.prog 101 [nl a, nl b] (nl (lim (val a * val b))) := by
  refine pdet_of E0ok mixed Tryz.func101 (by kernel_rfl) rfl (by kernel_rfl) (Nat.le_of_ble_eq_true rfl) fun N0 h hn hmen => ?_
  unfold nl
  simp -implicitDefEqProofs (maxSteps := 2000000) (disch := omega) only [go_sem, simprocAttr, -List.reduceReplicate, condB_t, condB_f]
  obtain ⟨id, hid⟩ : ∃ id, id = N0 + 48 := ⟨_, rfl⟩
  rw [← hid]
  obtain ⟨N, hN⟩ : ∃ N, N = a.length + b.length := ⟨_, rfl⟩
  rw [← hN]
  refine aw_loop (X := Nat × List Nat) (fun x => ⟨mkS [(0, .sl 1 (numL a)), (1, .sl 1 (numL b)), (5, .row id N 0 N), (6, .int .i64 x.1)], mkH h [(id, ⟨1, numL x.2⟩)], id + 24⟩)
    (fun x => x.1 ≤ a.length ∧ x.2.length = N ∧ Lb x.2 ∧ val (x.2.take (x.1 + b.length)) = val (a.take x.1) * val b) (fun x => a.length - x.1)
    ⟨(0, List.replicate N 0), ⟨Nat.zero_le _, by simp, Lb.zeros _, by simp [List.take_replicate, val_zeros, val]⟩, ?_⟩ ?_
  · (refine Weak.head1 (by simp only [upd_same, mkH_cons, ↓reduceIte] <;> rfl) (by omega) (numL_leafU _ _) (fun q hq => by simp only [upd, mkH, if_neg hq]) (by omega) hmen ?_; simp -implicitDefEqProofs (maxSteps := 2000000) (disch := omega) only [go_sem, simprocAttr, -List.reduceReplicate, condB_t, condB_f, AllP, AVle_same, AVle_int, AVle_nil, AVle_row, topU_int, topU_bool, topU_sl, topU_row, topU_ptr, topU_iptr, topU_fn, val, List.drop_length])
  · rintro ⟨i, o0⟩ ⟨hi, ho0, lo0, hv0⟩
    simp only at hi ho0 lo0 hv0
    by_cases h0 : i < a.length
    · have hx := ba.get i
      simp -implicitDefEqProofs (maxSteps := 2000000) (disch := omega) only [go_sem, simprocAttr, -List.reduceReplicate, condB_t, condB_f]
      refine aw_loop (X := Nat × List Nat × Nat) (fun x => ⟨mkS [(0, .sl 1 (numL a)), (1, .sl 1 (numL b)), (5, .row id N 0 N), (6, .int .i64 i), (7, .int .u64 x.2.2), (8, .int .i64 x.1)], mkH h [(id, ⟨1, numL x.2.1⟩)], id + 24⟩)
        (fun x => x.1 ≤ b.length ∧ x.2.1.length = N ∧ Lb x.2.1 ∧ x.2.2 < 4294967296 ∧ x.2.1.drop (i + x.1) = o0.drop (i + x.1) ∧
          val (x.2.1.take (i + x.1)) + 4294967296 ^ i * 4294967296 ^ x.1 * x.2.2 = val (o0.take (i + x.1)) + 4294967296 ^ i * a.getD i 0 * val (b.take x.1)) (fun x => b.length - x.1)
        ⟨(0, o0, 0), ⟨Nat.zero_le _, ho0, lo0, (by first | omega | (simp only; omega)), rfl, by simp [val]⟩, ?_⟩ ?_
      · (refine Weak.head1 (by simp only [upd_same, mkH_cons, ↓reduceIte] <;> rfl) (by omega) (numL_leafU _ _) (fun q hq => by simp only [upd, mkH, if_neg hq]) (by omega) hmen ?_; simp -implicitDefEqProofs (maxSteps := 2000000) (disch := omega) only [go_sem, simprocAttr, -List.reduceReplicate, condB_t, condB_f, AllP, AVle_same, AVle_int, AVle_nil, AVle_row, topU_int, topU_bool, topU_sl, topU_row, topU_ptr, topU_iptr, topU_fn, val, List.drop_length])
      · rintro ⟨k, o, c⟩ ⟨hk, ho, lo, hc, hd, hv⟩
        simp only at hk ho lo hc hd hv
        by_cases h1 : k < b.length
        · have hy := bb.get k
          have hw := lo.get (i + k)
          obtain ⟨hb1, hb2⟩ := mul_bound hx hy hw hc
          obtain ⟨g1, g2, g3, g4, g5⟩ := mul_round ho ho0 lo bb h1 (by omega) hx hc hd hv rfl
          simp -implicitDefEqProofs (maxSteps := 2000000) (disch := omega) only [go_sem, simprocAttr, -List.reduceReplicate, condB_t, condB_f]
          exact ⟨(k + 1, o.set (i + k) ((c + (o.getD (i + k) 0 + a.getD i 0 * b.getD k 0)) % 4294967296), (c + (o.getD (i + k) 0 + a.getD i 0 * b.getD k 0)) / 4294967296), ⟨h1, g1, g2, g3, g4, g5⟩, (by first | omega | (simp only; omega)), by (refine Weak.head1 (by simp only [upd_same, mkH_cons, ↓reduceIte] <;> rfl) (by omega) (numL_leafU _ _) (fun q hq => by simp only [upd, mkH, if_neg hq]) (by omega) hmen ?_; simp -implicitDefEqProofs (maxSteps := 2000000) (disch := omega) only [go_sem, simprocAttr, -List.reduceReplicate, condB_t, condB_f, AllP, AVle_same, AVle_int, AVle_nil, AVle_row, topU_int, topU_bool, topU_sl, topU_row, topU_ptr, topU_iptr, topU_fn, val, List.drop_length])⟩
        · obtain rfl : k = b.length := by omega
          simp -implicitDefEqProofs (maxSteps := 2000000) (disch := omega) only [go_sem, simprocAttr, -List.reduceReplicate, condB_t, condB_f]
          exact ⟨(i + 1, o.set (i + b.length) c), ⟨by omega, by simp [ho], lo.set hc, mul_row_end ho hN h0 hv0 hv⟩, (by first | omega | (simp only; omega)), by (refine Weak.head1 (by simp only [upd_same, mkH_cons, ↓reduceIte] <;> rfl) (by omega) (numL_leafU _ _) (fun q hq => by simp only [upd, mkH, if_neg hq]) (by omega) hmen ?_; simp -implicitDefEqProofs (maxSteps := 2000000) (disch := omega) only [go_sem, simprocAttr, -List.reduceReplicate, condB_t, condB_f, AllP, AVle_same, AVle_int, AVle_nil, AVle_row, topU_int, topU_bool, topU_sl, topU_row, topU_ptr, topU_iptr, topU_fn, val, List.drop_length])⟩
    · obtain rfl : i = a.length := by omega
      rw [List.take_of_length_le (by omega), List.take_of_length_le (Nat.le_refl _)] at hv0
      simp -implicitDefEqProofs (maxSteps := 2000000) (disch := omega) only [go_sem, simprocAttr, -List.reduceReplicate, condB_t, condB_f]
      have hc2 := r1trim_spec o0 lo0 (by omega)
      rw [hv0] at hc2
      refine callK_row hc2 (by simp only [upd_same, mkH_cons, ↓reduceIte] <;> rfl) (by simp [ho0]) (by omega) (List.take_of_length_le (by simp [ho0])) (numL_plain _) ?_
      simp -implicitDefEqProofs (maxSteps := 2000000) (disch := omega) only [go_sem, simprocAttr, -List.reduceReplicate, condB_t, condB_f]
      exact dn
theorem r1bits_spec (l : List Nat) (hb : Lb l) (hl : l.length ≤ 1099511627776) : PDet Tryz.prog 104 [nl l] (.int .i64 (nbits (val l) : Nat)) := by
  refine pdet_of E0ok mixed Tryz.func104 (by kernel_rfl) rfl (by kernel_rfl) (Nat.le_of_ble_eq_true rfl) fun N0 h hn hmen => ?_
  have hlen := lim_len_val hb
  unfold nl
  simp -implicitDefEqProofs (maxSteps := 2000000) (disch := omega) only [go_sem, simprocAttr, -List.reduceReplicate, condB_t, condB_f]
  refine callK_pure (r1trim_spec l hb (by omega)) ?_
  unfold nl
  by_cases h0 : (lim (val l)).length = 0
  · have hv : val l = 0 := lim_nil.1 (List.length_eq_zero_iff.1 h0)
    have hn0 : nbits (val l) = 0 := nbits_zero.2 hv
    rw [hn0]
    simp -implicitDefEqProofs (maxSteps := 2000000) (disch := omega) only [go_sem, simprocAttr, -List.reduceReplicate, condB_t, condB_f]
    exact dn
  · have ha := lb_lim (val l)
    have hv := val_lim (val l)
    have hne : val l ≠ 0 := fun e => h0 (by rw [e, lim_zero]; rfl)
    have htop : (lim (val l)).getD ((lim (val l)).length - 1) 0 ≠ 0 := fun e => by
      have h1 := le_of_lim hne
      have h2 := val_take_succ (l := lim (val l)) (k := (lim (val l)).length - 1) (by omega)
      have h3 := val_lt (ha.take ((lim (val l)).length - 1))
      rw [List.length_take, Nat.min_eq_left (by omega)] at h3
      rw [e, Nat.mul_zero, show (lim (val l)).length - 1 + 1 = (lim (val l)).length by omega, List.take_of_length_le (Nat.le_refl _), hv] at h2
      omega
    generalize lim (val l) = a at *
    have hx := ha.get (a.length - 1)
    have hn : nbits (val l) = 32 * (a.length - 1) + nbits (a.getD (a.length - 1) 0) := by
      rw [← hv]
      have h2 := val_take_succ (l := a) (k := a.length - 1) (by omega)
      have h3 := val_lt (ha.take (a.length - 1))
      rw [List.length_take, Nat.min_eq_left (by omega)] at h3
      rw [show a.length - 1 + 1 = a.length by omega, List.take_of_length_le (Nat.le_refl _)] at h2
      rw [h2, show (4294967296 : Nat) ^ (a.length - 1) = 2 ^ (32 * (a.length - 1)) by rw [Nat.pow_mul]]
      rw [show (4294967296 : Nat) ^ (a.length - 1) = 2 ^ (32 * (a.length - 1)) by rw [Nat.pow_mul]] at h3
      exact nbits_top h3 htop
    have hle := nbits_le (n := a.getD (a.length - 1) 0) (k := 32) hx
    have e0 : (32 : Int) * ((a.length - 1 : Nat) : Int) = ((32 * (a.length - 1) : Nat) : Int) := by omega
    simp -implicitDefEqProofs (maxSteps := 2000000) (disch := omega) only [go_sem, simprocAttr, -List.reduceReplicate, condB_t, condB_f, e0]
    rw [hn]
    refine aw_loop (X := Nat × Nat) (fun x => ⟨mkS [(3, .int .i64 x.1), (4, .int .u32 x.2)], h, N0⟩) (fun x => x.1 + nbits x.2 = 32 * (a.length - 1) + nbits (a.getD (a.length - 1) 0) ∧ x.2 < 4294967296) (fun x => x.2)
      ⟨(32 * (a.length - 1), a.getD (a.length - 1) 0), ⟨rfl, hx⟩, ?_⟩ ?_
    · (refine Weak.slots (allP ?_) (fun k0 b0 hb0 => by first | exact hb0 | (have hk1 := (hmen k0 b0 hb0).1; simp only [upd, mkH]; (repeat rw [if_neg (by omega)]); exact hb0)) (by omega) hmen; simp -implicitDefEqProofs (maxSteps := 2000000) (disch := omega) only [go_sem, simprocAttr, -List.reduceReplicate, condB_t, condB_f, AllP, AVle_same, AVle_int, AVle_nil, AVle_row, topU_int, topU_bool, topU_sl, topU_row, topU_ptr, topU_iptr, topU_fn, val, List.drop_length])
    · rintro ⟨n, v⟩ ⟨h1, h2⟩
      simp only at h1 h2
      by_cases h3 : 0 < v
      · have h4 := nbits_half h3
        simp -implicitDefEqProofs (maxSteps := 2000000) (disch := omega) only [go_sem, simprocAttr, -List.reduceReplicate, condB_t, condB_f]
        exact ⟨(n + 1, v / 2), ⟨by simp only; omega, by simp only; omega⟩, by simp only; omega, by (refine Weak.slots (allP ?_) (fun k0 b0 hb0 => by first | exact hb0 | (have hk1 := (hmen k0 b0 hb0).1; simp only [upd, mkH]; (repeat rw [if_neg (by omega)]); exact hb0)) (by omega) hmen; simp -implicitDefEqProofs (maxSteps := 2000000) (disch := omega) only [go_sem, simprocAttr, -List.reduceReplicate, condB_t, condB_f, AllP, AVle_same, AVle_int, AVle_nil, AVle_row, topU_int, topU_bool, topU_sl, topU_row, topU_ptr, topU_iptr, topU_fn, val, List.drop_length])⟩
      · obtain rfl : v = 0 := by omega
        have h4 : nbits 0 = 0 := rfl
        rw [h4] at h1
        simp -implicitDefEqProofs (maxSteps := 2000000) (disch := omega) only [go_sem, simprocAttr, -List.reduceReplicate, condB_t, condB_f]
        exact .int (by omega)
theorem r1bit_spec (l : List Nat) (i : Nat) (hb : Lb l) (hl : l.length ≤ 1099511627776) (hi : i < 70368744177664) : PDet Tryz.prog 105 [nl l, .int .i64 i] (.int .u32 (val l / 2 ^ i % 2 : Nat)) := by
  refine pdet_of E0ok mixed Tryz.func105 (by kernel_rfl) rfl (by kernel_rfl) (Nat.le_of_ble_eq_true rfl) fun N0 h hn hmen => ?_
  unfold nl
  by_cases h0 : i / 32 < l.length
  · have hx := hb.get (i / 32)
    have hm : i % 32 < 32 := Nat.mod_lt _ (by decide)
    have hlt : l.getD (i / 32) 0 / 2 ^ (i % 32) < 4294967296 := Nat.lt_of_le_of_lt (Nat.div_le_self _ _) hx
    rw [← bit_digit hb h0]
    simp -implicitDefEqProofs (maxSteps := 2000000) (disch := omega) only [go_sem, simprocAttr, -List.reduceReplicate, condB_t, condB_f]
    exact dn
  · rw [bit_high hb h0]
    simp -implicitDefEqProofs (maxSteps := 2000000) (disch := omega) only [go_sem, simprocAttr, -List.reduceReplicate, condB_t, condB_f]
    exact dn
theorem r1divMod_zero (a b : List Nat) (ha : Lb a) (hb : Lb b) (hla : a.length ≤ 549755813888) (hlb : b.length ≤ 549755813888) (h0 : val b = 0) :
    PDet Tryz.prog 92 [nl a, nl b] (.tup [nl [], nl [], .bool false]) := by
  refine pdet_of E0ok mixed Tryz.func92 (by kernel_rfl) rfl (by kernel_rfl) (Nat.le_of_ble_eq_true rfl) fun N0 h hn hmen => ?_
  unfold nl
  simp -implicitDefEqProofs (maxSteps := 2000000) (disch := omega) only [go_sem, simprocAttr, -List.reduceReplicate, condB_t, condB_f]
  refine callK_pure (r1trim_spec b hb (by omega)) ?_
  rw [h0, lim_zero]
  unfold nl
  simp -implicitDefEqProofs (maxSteps := 2000000) (disch := omega) only [go_sem, simprocAttr, -List.reduceReplicate, condB_t, condB_f]
  exact dn
theorem r1divMod_spec (a b : List Nat) (ha : Lb a) (hb : Lb b) (hla : a.length ≤ 549755813888) (hlb : b.length ≤ 549755813888) (h0 : val b ≠ 0) :
    PDet Tryz.prog 92 [nl a, nl b] (.tup [nl (lim (val a / val b)), nl (lim (val a % val b)), .bool true]) := by
  refine pdet_of E0ok mixed Tryz.func92 (by kernel_rfl) rfl (by kernel_rfl) (Nat.le_of_ble_eq_true rfl) fun N0 h hn hmen => ?_
  have hlB := lim_len_val hb
  have cA1 := fun h => r1uint64_ok a ha (by omega) h
  have cA2 := fun h => r1uint64_no a ha (by omega) h
  have cB1 := fun h => r1uint64_ok (lim (val b)) (lb_lim _) (by omega) h
  have cB2 := fun h => r1uint64_no (lim (val b)) (lb_lim _) (by omega) h
  have cbits := r1bits_spec a ha (by omega)
  have cbit := fun i hi => r1bit_spec a i ha (by omega) hi
  have hnb := nbits_len ha
  simp only [val_lim] at cB1 cB2
  have hAlt := val_lt ha
  unfold nl
  simp -implicitDefEqProofs (maxSteps := 2000000) (disch := omega) only [go_sem, simprocAttr, -List.reduceReplicate, condB_t, condB_f]
  refine callK_pure (r1trim_spec b hb (by omega)) ?_
  generalize hAv : val a = A at *
  generalize val b = B at *
  obtain ⟨Q0, hQ0⟩ : ∃ x, x = A / B := ⟨_, rfl⟩
  obtain ⟨R0, hR0⟩ : ∃ x, x = A % B := ⟨_, rfl⟩
  rw [← hQ0, ← hR0]
  have hB0 : (lim B).length ≠ 0 := fun e => h0 (lim_nil.1 (List.length_eq_zero_iff.1 e))
  unfold nl at *
  simp -implicitDefEqProofs (maxSteps := 2000000) (disch := omega) only [go_sem, simprocAttr, -List.reduceReplicate, condB_t, condB_f]
  have hBp : 0 < B := Nat.pos_of_ne_zero h0
  have hA0 : A / 2 ^ nbits A = 0 := Nat.div_eq_of_lt (by
    by_cases e : A = 0
    · rw [e]; exact Nat.two_pow_pos _
    · exact (nbits_spec e).2)
  by_cases hA : A < 18446744073709551616
  · refine callK_pure (cA1 hA) ?_
    simp -implicitDefEqProofs (maxSteps := 2000000) (disch := omega) only [go_sem, simprocAttr, -List.reduceReplicate, condB_t, condB_f]
    by_cases hB : B < 18446744073709551616
    · refine callK_pure (cB1 hB) ?_
      have d1 := r1fromUint64_spec (A / B) (Nat.lt_of_le_of_lt (Nat.div_le_self _ _) hA)
      have d2 := r1fromUint64_spec (A % B) (Nat.lt_of_le_of_lt (Nat.mod_le _ _) hA)
      have hq := Nat.lt_of_le_of_lt (Nat.div_le_self A B) hA
      unfold nl at *
      simp -implicitDefEqProofs (maxSteps := 2000000) (disch := omega) only [go_sem, simprocAttr, -List.reduceReplicate, condB_t, condB_f]
      refine pcallK_pure d1 ?_
      simp -implicitDefEqProofs (maxSteps := 2000000) (disch := omega) only [go_sem, simprocAttr, -List.reduceReplicate, condB_t, condB_f]
      refine pcallK_pure d2 ?_
      rw [hQ0, hR0]
      simp -implicitDefEqProofs (maxSteps := 2000000) (disch := omega) only [go_sem, simprocAttr, -List.reduceReplicate, condB_t, condB_f]
      exact dn
    · refine callK_pure (cB2 hB) ?_
      simp -implicitDefEqProofs (maxSteps := 2000000) (disch := omega) only [go_sem, simprocAttr, -List.reduceReplicate, condB_t, condB_f]
      refine callK_pure cbits ?_
      simp -implicitDefEqProofs (maxSteps := 2000000) (disch := omega) only [go_sem, simprocAttr, -List.reduceReplicate, condB_t, condB_f]
      obtain ⟨id, hid⟩ : ∃ id, id = N0 + 232 := ⟨_, rfl⟩
      rw [← hid]
      refine aw_loop (X := Nat × List Nat) (fun x => ⟨mkS [(0, .sl 1 (numL a)), (1, .sl 1 (numL (lim B))), (4, .row id a.length 0 a.length), (5, .sl 1 (numL (lim (A / 2 ^ x.1 % B)))), (11, .int .i64 ((x.1 : Int) - 1))], mkH h [(id, ⟨1, numL x.2⟩)], id + 48⟩)
        (fun x => x.1 ≤ nbits A ∧ x.2.length = a.length ∧ Lb x.2 ∧ val x.2 = 2 ^ x.1 * (A / 2 ^ x.1 / B)) (fun x => x.1)
        ⟨(nbits A, List.replicate a.length 0), ⟨Nat.le_refl _, by simp, Lb.zeros _, by rw [val_zeros, hA0, Nat.zero_div, Nat.mul_zero]⟩, ?_⟩ ?_
      · (refine Weak.head1 (by simp only [upd_same, mkH_cons, ↓reduceIte] <;> rfl) (by omega) (numL_leafU _ _) (fun q hq => by simp only [upd, mkH, if_neg hq]) (by omega) hmen ?_; simp -implicitDefEqProofs (maxSteps := 2000000) (disch := omega) only [go_sem, simprocAttr, -List.reduceReplicate, condB_t, condB_f, AllP, AVle_same, AVle_int, AVle_nil, AVle_row, topU_int, topU_bool, topU_sl, topU_row, topU_ptr, topU_iptr, topU_fn, val, List.drop_length, hA0, Nat.zero_mod, lim_zero, numL_nil])
      · rintro ⟨j, q⟩ ⟨hj, hql, hqb, hqv⟩
        simp only at hj hql hqb hqv
        by_cases h1 : 0 < j
        · obtain ⟨i, rfl⟩ : ∃ i, j = i + 1 := ⟨j - 1, by omega⟩
          obtain ⟨bt, hbt⟩ : ∃ x, x = A / 2 ^ i % 2 := ⟨_, rfl⟩
          have hbt2 : bt < 2 := by rw [hbt]; exact Nat.mod_lt _ (by decide)
          have hbs := bin_step (A := A) (i := i) hBp
          rw [← hbt] at hbs
          have hbd := bin_div hBp hbt2 hbs
          have hi32 : i / 32 < a.length := by omega
          have hqi : i / 32 < q.length := by omega
          have hm32 : i % 32 < 32 := Nat.mod_lt _ (by decide)
          have hlm := limb_mod hqb hqi hqv
          have hlt := hqb.get (i / 32)
          obtain ⟨or1, or2⟩ := or_bit hm32 hlt hlm
          have hsb := set_bit hqb hqi hqv
          have hp32 : 2 ^ (i % 32) < 4294967296 := by omega
          obtain ⟨R, hR⟩ : ∃ R, R = A / 2 ^ (i + 1) % B := ⟨_, rfl⟩
          rw [← hR] at hbd
          have hRB : R < B := by rw [hR]; exact Nat.mod_lt _ hBp
          have lR := lim_len_mono (Nat.le_of_lt hRB)
          have a1 := r1add_spec (lim R) (lim R) (lb_lim _) (lb_lim _) (by omega) (by omega)
          have l2R := lim_len_add R R
          have a2 := r1add_spec (lim (R + R)) [1] (lb_lim _) (by intro x hx; rw [List.mem_singleton.1 hx]; decide) (by omega) (by simp)
          have cb := cbit i (by omega)
          rw [← hbt] at cb
          have l2R1 := lim_len_add (R + R) 1
          have l1 : (lim 1).length = 1 := by rw [lim_one]; rfl
          have s1 := fun c (hc : (lim c).length ≤ 1099511627776) (h : B ≤ c) => r1sub_ok (lim c) (lim B) (lb_lim _) (lb_lim _) hc (by omega) (by rw [val_lim, val_lim]; exact h)
          have s2 := fun c (hc : (lim c).length ≤ 1099511627776) (h : c < B) => r1sub_no (lim c) (lim B) (lb_lim _) (lb_lim _) hc (by omega) (by rw [val_lim, val_lim]; exact h)
          simp only [val_lim] at a1 a2 s1 s2
          have e1 : val [1] = 1 := rfl
          rw [e1] at a2
          unfold nl at *
          clear hbt hA0
          have hcase : bt = 0 ∨ bt = 1 := by omega
          rcases hcase with rfl | rfl
          · have t0 : R + R = 2 * R := by omega
            rw [t0] at a1 l2R
            simp only [Nat.add_zero] at hbd
            by_cases h2 : 2 * R < B
            · rw [if_pos h2] at hbd
              obtain ⟨d1, d2⟩ := hbd
              simp -implicitDefEqProofs (maxSteps := 2000000) (disch := omega) only [go_sem, simprocAttr, -List.reduceReplicate, condB_t, condB_f, ← hR]
              refine callK_pure a1 ?_
              simp -implicitDefEqProofs (maxSteps := 2000000) (disch := omega) only [go_sem, simprocAttr, -List.reduceReplicate, condB_t, condB_f]
              refine callK_pure cb ?_
              simp -implicitDefEqProofs (maxSteps := 2000000) (disch := omega) only [go_sem, simprocAttr, -List.reduceReplicate, condB_t, condB_f]
              refine callK_pure (s2 _ (by omega) h2) ?_
              simp -implicitDefEqProofs (maxSteps := 2000000) (disch := omega) only [go_sem, simprocAttr, -List.reduceReplicate, condB_t, condB_f]
              refine ⟨(i, q), ⟨by simp only; omega, hql, hqb, ?_⟩, by simp only; omega, by (refine Weak.head1 (by simp only [upd_same, mkH_cons, ↓reduceIte] <;> rfl) (by omega) (numL_leafU _ _) (fun q hq => by simp only [upd, mkH, if_neg hq]) (by omega) hmen ?_; simp -implicitDefEqProofs (maxSteps := 2000000) (disch := omega) only [go_sem, simprocAttr, -List.reduceReplicate, condB_t, condB_f, AllP, AVle_same, AVle_int, AVle_nil, AVle_row, topU_int, topU_bool, topU_sl, topU_row, topU_ptr, topU_iptr, topU_fn, val, List.drop_length, d2])⟩
              simp only
              rw [d1, ← Nat.mul_assoc, ← Nat.pow_succ]; exact hqv
            · rw [if_neg h2] at hbd
              obtain ⟨d1, d2⟩ := hbd
              simp -implicitDefEqProofs (maxSteps := 2000000) (disch := omega) only [go_sem, simprocAttr, -List.reduceReplicate, condB_t, condB_f, ← hR]
              refine callK_pure a1 ?_
              simp -implicitDefEqProofs (maxSteps := 2000000) (disch := omega) only [go_sem, simprocAttr, -List.reduceReplicate, condB_t, condB_f]
              refine callK_pure cb ?_
              simp -implicitDefEqProofs (maxSteps := 2000000) (disch := omega) only [go_sem, simprocAttr, -List.reduceReplicate, condB_t, condB_f]
              refine callK_pure (s1 _ (by omega) (by omega)) ?_
              simp -implicitDefEqProofs (maxSteps := 2000000) (disch := omega) only [go_sem, simprocAttr, -List.reduceReplicate, condB_t, condB_f, or1]
              refine ⟨(i, q.set (i / 32) (q.getD (i / 32) 0 + 2 ^ (i % 32))), ⟨by simp only; omega, by simp only; rw [List.length_set]; exact hql, hqb.set or2, ?_⟩, by simp only; omega, by (refine Weak.head1 (by simp only [upd_same, mkH_cons, ↓reduceIte] <;> rfl) (by omega) (numL_leafU _ _) (fun q hq => by simp only [upd, mkH, if_neg hq]) (by omega) hmen ?_; simp -implicitDefEqProofs (maxSteps := 2000000) (disch := omega) only [go_sem, simprocAttr, -List.reduceReplicate, condB_t, condB_f, AllP, AVle_same, AVle_int, AVle_nil, AVle_row, topU_int, topU_bool, topU_sl, topU_row, topU_ptr, topU_iptr, topU_fn, val, List.drop_length, d2])⟩
              simp only
              rw [d1]; exact hsb
          · have t0 : R + R = 2 * R := by omega
            rw [t0] at a1 a2 l2R l2R1
            by_cases h2 : 2 * R + 1 < B
            · rw [if_pos h2] at hbd
              obtain ⟨d1, d2⟩ := hbd
              simp -implicitDefEqProofs (maxSteps := 2000000) (disch := omega) only [go_sem, simprocAttr, -List.reduceReplicate, condB_t, condB_f, ← hR]
              refine callK_pure a1 ?_
              simp -implicitDefEqProofs (maxSteps := 2000000) (disch := omega) only [go_sem, simprocAttr, -List.reduceReplicate, condB_t, condB_f]
              refine callK_pure cb ?_
              simp -implicitDefEqProofs (maxSteps := 2000000) (disch := omega) only [go_sem, simprocAttr, -List.reduceReplicate, condB_t, condB_f]
              refine callK_row2 a2 (by simp only [upd_same] <;> rfl) rfl (by simp) rfl (numL_plain _) ?_
              simp -implicitDefEqProofs (maxSteps := 2000000) (disch := omega) only [go_sem, simprocAttr, -List.reduceReplicate, condB_t, condB_f]
              refine callK_pure (s2 _ (by omega) h2) ?_
              simp -implicitDefEqProofs (maxSteps := 2000000) (disch := omega) only [go_sem, simprocAttr, -List.reduceReplicate, condB_t, condB_f]
              refine ⟨(i, q), ⟨by simp only; omega, hql, hqb, ?_⟩, by simp only; omega, by (refine Weak.head1 (by simp -implicitDefEqProofs (maxSteps := 2000000) (disch := omega) only [go_sem, simprocAttr, -List.reduceReplicate, condB_t, condB_f]) (by omega) (numL_leafU _ _) (fun k0 hk0 => by have hk1 : (k0 = id) = False := eq_false hk0; by_cases e : k0 = id + 136 <;> (simp -implicitDefEqProofs (maxSteps := 2000000) (disch := omega) only [go_sem, simprocAttr, -List.reduceReplicate, condB_t, condB_f, upd, mkH, hk1, e]) <;> first | done | exact (hn _ (by omega)).symm) (by omega) hmen ?_; simp -implicitDefEqProofs (maxSteps := 2000000) (disch := omega) only [go_sem, simprocAttr, -List.reduceReplicate, condB_t, condB_f, AllP, AVle_same, AVle_int, AVle_nil, AVle_row, topU_int, topU_bool, topU_sl, topU_row, topU_ptr, topU_iptr, topU_fn, val, List.drop_length, d2])⟩
              simp only
              rw [d1, ← Nat.mul_assoc, ← Nat.pow_succ]; exact hqv
            · rw [if_neg h2] at hbd
              obtain ⟨d1, d2⟩ := hbd
              simp -implicitDefEqProofs (maxSteps := 2000000) (disch := omega) only [go_sem, simprocAttr, -List.reduceReplicate, condB_t, condB_f, ← hR]
              refine callK_pure a1 ?_
              simp -implicitDefEqProofs (maxSteps := 2000000) (disch := omega) only [go_sem, simprocAttr, -List.reduceReplicate, condB_t, condB_f]
              refine callK_pure cb ?_
              simp -implicitDefEqProofs (maxSteps := 2000000) (disch := omega) only [go_sem, simprocAttr, -List.reduceReplicate, condB_t, condB_f]
              refine callK_row2 a2 (by simp only [upd_same] <;> rfl) rfl (by simp) rfl (numL_plain _) ?_
              simp -implicitDefEqProofs (maxSteps := 2000000) (disch := omega) only [go_sem, simprocAttr, -List.reduceReplicate, condB_t, condB_f]
              refine callK_pure (s1 _ (by omega) (by omega)) ?_
              simp -implicitDefEqProofs (maxSteps := 2000000) (disch := omega) only [go_sem, simprocAttr, -List.reduceReplicate, condB_t, condB_f, or1]
              refine ⟨(i, q.set (i / 32) (q.getD (i / 32) 0 + 2 ^ (i % 32))), ⟨by simp only; omega, by simp only; rw [List.length_set]; exact hql, hqb.set or2, ?_⟩, by simp only; omega, by (refine Weak.head1 (by simp -implicitDefEqProofs (maxSteps := 2000000) (disch := omega) only [go_sem, simprocAttr, -List.reduceReplicate, condB_t, condB_f]) (by omega) (numL_leafU _ _) (fun k0 hk0 => by have hk1 : (k0 = id) = False := eq_false hk0; by_cases e : k0 = id + 136 <;> (simp -implicitDefEqProofs (maxSteps := 2000000) (disch := omega) only [go_sem, simprocAttr, -List.reduceReplicate, condB_t, condB_f, upd, mkH, hk1, e]) <;> first | done | exact (hn _ (by omega)).symm) (by omega) hmen ?_; simp -implicitDefEqProofs (maxSteps := 2000000) (disch := omega) only [go_sem, simprocAttr, -List.reduceReplicate, condB_t, condB_f, AllP, AVle_same, AVle_int, AVle_nil, AVle_row, topU_int, topU_bool, topU_sl, topU_row, topU_ptr, topU_iptr, topU_fn, val, List.drop_length, d2])⟩
              simp only
              rw [d1]; exact hsb
        · obtain rfl : j = 0 := by omega
          rw [Nat.pow_zero, Nat.div_one, Nat.one_mul] at hqv
          have c1 := r1trim_spec q hqb (by omega)
          rw [← hQ0] at hqv
          have e0 : A / 1 % B = R0 := by rw [Nat.div_one, hR0]
          have hRB : R0 < B := by rw [hR0]; exact Nat.mod_lt _ hBp
          have lR := lim_len_mono (Nat.le_of_lt hRB)
          have c2 := r1trim_spec (lim R0) (lb_lim _) (by omega)
          clear hR0 hQ0
          rw [hqv] at c1
          rw [val_lim] at c2
          unfold nl at *
          simp -implicitDefEqProofs (maxSteps := 2000000) (disch := omega) only [go_sem, simprocAttr, -List.reduceReplicate, condB_t, condB_f, e0]
          refine callK_row c1 (by simp only [upd_same, mkH_cons, ↓reduceIte] <;> rfl) (by simp [hql]) (by omega) (List.take_of_length_le (by simp [hql])) (numL_plain _) ?_
          simp -implicitDefEqProofs (maxSteps := 2000000) (disch := omega) only [go_sem, simprocAttr, -List.reduceReplicate, condB_t, condB_f]
          refine callK_pure c2 ?_
          simp -implicitDefEqProofs (maxSteps := 2000000) (disch := omega) only [go_sem, simprocAttr, -List.reduceReplicate, condB_t, condB_f]
          exact dn
  · refine callK_pure (cA2 hA) ?_
    simp -implicitDefEqProofs (maxSteps := 2000000) (disch := omega) only [go_sem, simprocAttr, -List.reduceReplicate, condB_t, condB_f]
    by_cases hB : B < 18446744073709551616
    · refine callK_pure (cB1 hB) ?_
      simp -implicitDefEqProofs (maxSteps := 2000000) (disch := omega) only [go_sem, simprocAttr, -List.reduceReplicate, condB_t, condB_f]
      refine callK_pure cbits ?_
      simp -implicitDefEqProofs (maxSteps := 2000000) (disch := omega) only [go_sem, simprocAttr, -List.reduceReplicate, condB_t, condB_f]
      obtain ⟨id, hid⟩ : ∃ id, id = N0 + 232 := ⟨_, rfl⟩
      rw [← hid]
      refine aw_loop (X := Nat × List Nat) (fun x => ⟨mkS [(0, .sl 1 (numL a)), (1, .sl 1 (numL (lim B))), (4, .row id a.length 0 a.length), (5, .sl 1 (numL (lim (A / 2 ^ x.1 % B)))), (11, .int .i64 ((x.1 : Int) - 1))], mkH h [(id, ⟨1, numL x.2⟩)], id + 48⟩)
        (fun x => x.1 ≤ nbits A ∧ x.2.length = a.length ∧ Lb x.2 ∧ val x.2 = 2 ^ x.1 * (A / 2 ^ x.1 / B)) (fun x => x.1)
        ⟨(nbits A, List.replicate a.length 0), ⟨Nat.le_refl _, by simp, Lb.zeros _, by rw [val_zeros, hA0, Nat.zero_div, Nat.mul_zero]⟩, ?_⟩ ?_
      · (refine Weak.head1 (by simp only [upd_same, mkH_cons, ↓reduceIte] <;> rfl) (by omega) (numL_leafU _ _) (fun q hq => by simp only [upd, mkH, if_neg hq]) (by omega) hmen ?_; simp -implicitDefEqProofs (maxSteps := 2000000) (disch := omega) only [go_sem, simprocAttr, -List.reduceReplicate, condB_t, condB_f, AllP, AVle_same, AVle_int, AVle_nil, AVle_row, topU_int, topU_bool, topU_sl, topU_row, topU_ptr, topU_iptr, topU_fn, val, List.drop_length, hA0, Nat.zero_mod, lim_zero, numL_nil])
      · rintro ⟨j, q⟩ ⟨hj, hql, hqb, hqv⟩
        simp only at hj hql hqb hqv
        by_cases h1 : 0 < j
        · obtain ⟨i, rfl⟩ : ∃ i, j = i + 1 := ⟨j - 1, by omega⟩
          obtain ⟨bt, hbt⟩ : ∃ x, x = A / 2 ^ i % 2 := ⟨_, rfl⟩
          have hbt2 : bt < 2 := by rw [hbt]; exact Nat.mod_lt _ (by decide)
          have hbs := bin_step (A := A) (i := i) hBp
          rw [← hbt] at hbs
          have hbd := bin_div hBp hbt2 hbs
          have hi32 : i / 32 < a.length := by omega
          have hqi : i / 32 < q.length := by omega
          have hm32 : i % 32 < 32 := Nat.mod_lt _ (by decide)
          have hlm := limb_mod hqb hqi hqv
          have hlt := hqb.get (i / 32)
          obtain ⟨or1, or2⟩ := or_bit hm32 hlt hlm
          have hsb := set_bit hqb hqi hqv
          have hp32 : 2 ^ (i % 32) < 4294967296 := by omega
          obtain ⟨R, hR⟩ : ∃ R, R = A / 2 ^ (i + 1) % B := ⟨_, rfl⟩
          rw [← hR] at hbd
          have hRB : R < B := by rw [hR]; exact Nat.mod_lt _ hBp
          have lR := lim_len_mono (Nat.le_of_lt hRB)
          have a1 := r1add_spec (lim R) (lim R) (lb_lim _) (lb_lim _) (by omega) (by omega)
          have l2R := lim_len_add R R
          have a2 := r1add_spec (lim (R + R)) [1] (lb_lim _) (by intro x hx; rw [List.mem_singleton.1 hx]; decide) (by omega) (by simp)
          have cb := cbit i (by omega)
          rw [← hbt] at cb
          have l2R1 := lim_len_add (R + R) 1
          have l1 : (lim 1).length = 1 := by rw [lim_one]; rfl
          have s1 := fun c (hc : (lim c).length ≤ 1099511627776) (h : B ≤ c) => r1sub_ok (lim c) (lim B) (lb_lim _) (lb_lim _) hc (by omega) (by rw [val_lim, val_lim]; exact h)
          have s2 := fun c (hc : (lim c).length ≤ 1099511627776) (h : c < B) => r1sub_no (lim c) (lim B) (lb_lim _) (lb_lim _) hc (by omega) (by rw [val_lim, val_lim]; exact h)
          simp only [val_lim] at a1 a2 s1 s2
          have e1 : val [1] = 1 := rfl
          rw [e1] at a2
          unfold nl at *
          clear hbt hA0
          have hcase : bt = 0 ∨ bt = 1 := by omega
          rcases hcase with rfl | rfl
          · have t0 : R + R = 2 * R := by omega
            rw [t0] at a1 l2R
            simp only [Nat.add_zero] at hbd
            by_cases h2 : 2 * R < B
            · rw [if_pos h2] at hbd
              obtain ⟨d1, d2⟩ := hbd
              simp -implicitDefEqProofs (maxSteps := 2000000) (disch := omega) only [go_sem, simprocAttr, -List.reduceReplicate, condB_t, condB_f, ← hR]
              refine callK_pure a1 ?_
              simp -implicitDefEqProofs (maxSteps := 2000000) (disch := omega) only [go_sem, simprocAttr, -List.reduceReplicate, condB_t, condB_f]
              refine callK_pure cb ?_
              simp -implicitDefEqProofs (maxSteps := 2000000) (disch := omega) only [go_sem, simprocAttr, -List.reduceReplicate, condB_t, condB_f]
              refine callK_pure (s2 _ (by omega) h2) ?_
              simp -implicitDefEqProofs (maxSteps := 2000000) (disch := omega) only [go_sem, simprocAttr, -List.reduceReplicate, condB_t, condB_f]
              refine ⟨(i, q), ⟨by simp only; omega, hql, hqb, ?_⟩, by simp only; omega, by (refine Weak.head1 (by simp only [upd_same, mkH_cons, ↓reduceIte] <;> rfl) (by omega) (numL_leafU _ _) (fun q hq => by simp only [upd, mkH, if_neg hq]) (by omega) hmen ?_; simp -implicitDefEqProofs (maxSteps := 2000000) (disch := omega) only [go_sem, simprocAttr, -List.reduceReplicate, condB_t, condB_f, AllP, AVle_same, AVle_int, AVle_nil, AVle_row, topU_int, topU_bool, topU_sl, topU_row, topU_ptr, topU_iptr, topU_fn, val, List.drop_length, d2])⟩
              simp only
              rw [d1, ← Nat.mul_assoc, ← Nat.pow_succ]; exact hqv
            · rw [if_neg h2] at hbd
              obtain ⟨d1, d2⟩ := hbd
              simp -implicitDefEqProofs (maxSteps := 2000000) (disch := omega) only [go_sem, simprocAttr, -List.reduceReplicate, condB_t, condB_f, ← hR]
              refine callK_pure a1 ?_
              simp -implicitDefEqProofs (maxSteps := 2000000) (disch := omega) only [go_sem, simprocAttr, -List.reduceReplicate, condB_t, condB_f]
              refine callK_pure cb ?_
              simp -implicitDefEqProofs (maxSteps := 2000000) (disch := omega) only [go_sem, simprocAttr, -List.reduceReplicate, condB_t, condB_f]
              refine callK_pure (s1 _ (by omega) (by omega)) ?_
              simp -implicitDefEqProofs (maxSteps := 2000000) (disch := omega) only [go_sem, simprocAttr, -List.reduceReplicate, condB_t, condB_f, or1]
              refine ⟨(i, q.set (i / 32) (q.getD (i / 32) 0 + 2 ^ (i % 32))), ⟨by simp only; omega, by simp only; rw [List.length_set]; exact hql, hqb.set or2, ?_⟩, by simp only; omega, by (refine Weak.head1 (by simp only [upd_same, mkH_cons, ↓reduceIte] <;> rfl) (by omega) (numL_leafU _ _) (fun q hq => by simp only [upd, mkH, if_neg hq]) (by omega) hmen ?_; simp -implicitDefEqProofs (maxSteps := 2000000) (disch := omega) only [go_sem, simprocAttr, -List.reduceReplicate, condB_t, condB_f, AllP, AVle_same, AVle_int, AVle_nil, AVle_row, topU_int, topU_bool, topU_sl, topU_row, topU_ptr, topU_iptr, topU_fn, val, List.drop_length, d2])⟩
              simp only
              rw [d1]; exact hsb
          · have t0 : R + R = 2 * R := by omega
            rw [t0] at a1 a2 l2R l2R1
            by_cases h2 : 2 * R + 1 < B
            · rw [if_pos h2] at hbd
              obtain ⟨d1, d2⟩ := hbd
              simp -implicitDefEqProofs (maxSteps := 2000000) (disch := omega) only [go_sem, simprocAttr, -List.reduceReplicate, condB_t, condB_f, ← hR]
              refine callK_pure a1 ?_
              simp -implicitDefEqProofs (maxSteps := 2000000) (disch := omega) only [go_sem, simprocAttr, -List.reduceReplicate, condB_t, condB_f]
              refine callK_pure cb ?_
              simp -implicitDefEqProofs (maxSteps := 2000000) (disch := omega) only [go_sem, simprocAttr, -List.reduceReplicate, condB_t, condB_f]
              refine callK_row2 a2 (by simp only [upd_same] <;> rfl) rfl (by simp) rfl (numL_plain _) ?_
              simp -implicitDefEqProofs (maxSteps := 2000000) (disch := omega) only [go_sem, simprocAttr, -List.reduceReplicate, condB_t, condB_f]
              refine callK_pure (s2 _ (by omega) h2) ?_
              simp -implicitDefEqProofs (maxSteps := 2000000) (disch := omega) only [go_sem, simprocAttr, -List.reduceReplicate, condB_t, condB_f]
              refine ⟨(i, q), ⟨by simp only; omega, hql, hqb, ?_⟩, by simp only; omega, by (refine Weak.head1 (by simp -implicitDefEqProofs (maxSteps := 2000000) (disch := omega) only [go_sem, simprocAttr, -List.reduceReplicate, condB_t, condB_f]) (by omega) (numL_leafU _ _) (fun k0 hk0 => by have hk1 : (k0 = id) = False := eq_false hk0; by_cases e : k0 = id + 136 <;> (simp -implicitDefEqProofs (maxSteps := 2000000) (disch := omega) only [go_sem, simprocAttr, -List.reduceReplicate, condB_t, condB_f, upd, mkH, hk1, e]) <;> first | done | exact (hn _ (by omega)).symm) (by omega) hmen ?_; simp -implicitDefEqProofs (maxSteps := 2000000) (disch := omega) only [go_sem, simprocAttr, -List.reduceReplicate, condB_t, condB_f, AllP, AVle_same, AVle_int, AVle_nil, AVle_row, topU_int, topU_bool, topU_sl, topU_row, topU_ptr, topU_iptr, topU_fn, val, List.drop_length, d2])⟩
              simp only
              rw [d1, ← Nat.mul_assoc, ← Nat.pow_succ]; exact hqv
            · rw [if_neg h2] at hbd
              obtain ⟨d1, d2⟩ := hbd
              simp -implicitDefEqProofs (maxSteps := 2000000) (disch := omega) only [go_sem, simprocAttr, -List.reduceReplicate, condB_t, condB_f, ← hR]
              refine callK_pure a1 ?_
              simp -implicitDefEqProofs (maxSteps := 2000000) (disch := omega) only [go_sem, simprocAttr, -List.reduceReplicate, condB_t, condB_f]
              refine callK_pure cb ?_
              simp -implicitDefEqProofs (maxSteps := 2000000) (disch := omega) only [go_sem, simprocAttr, -List.reduceReplicate, condB_t, condB_f]
              refine callK_row2 a2 (by simp only [upd_same] <;> rfl) rfl (by simp) rfl (numL_plain _) ?_
              simp -implicitDefEqProofs (maxSteps := 2000000) (disch := omega) only [go_sem, simprocAttr, -List.reduceReplicate, condB_t, condB_f]
              refine callK_pure (s1 _ (by omega) (by omega)) ?_
              simp -implicitDefEqProofs (maxSteps := 2000000) (disch := omega) only [go_sem, simprocAttr, -List.reduceReplicate, condB_t, condB_f, or1]
              refine ⟨(i, q.set (i / 32) (q.getD (i / 32) 0 + 2 ^ (i % 32))), ⟨by simp only; omega, by simp only; rw [List.length_set]; exact hql, hqb.set or2, ?_⟩, by simp only; omega, by (refine Weak.head1 (by simp -implicitDefEqProofs (maxSteps := 2000000) (disch := omega) only [go_sem, simprocAttr, -List.reduceReplicate, condB_t, condB_f]) (by omega) (numL_leafU _ _) (fun k0 hk0 => by have hk1 : (k0 = id) = False := eq_false hk0; by_cases e : k0 = id + 136 <;> (simp -implicitDefEqProofs (maxSteps := 2000000) (disch := omega) only [go_sem, simprocAttr, -List.reduceReplicate, condB_t, condB_f, upd, mkH, hk1, e]) <;> first | done | exact (hn _ (by omega)).symm) (by omega) hmen ?_; simp -implicitDefEqProofs (maxSteps := 2000000) (disch := omega) only [go_sem, simprocAttr, -List.reduceReplicate, condB_t, condB_f, AllP, AVle_same, AVle_int, AVle_nil, AVle_row, topU_int, topU_bool, topU_sl, topU_row, topU_ptr, topU_iptr, topU_fn, val, List.drop_length, d2])⟩
              simp only
              rw [d1]; exact hsb
        · obtain rfl : j = 0 := by omega
          rw [Nat.pow_zero, Nat.div_one, Nat.one_mul] at hqv
          have c1 := r1trim_spec q hqb (by omega)
          rw [← hQ0] at hqv
          have e0 : A / 1 % B = R0 := by rw [Nat.div_one, hR0]
          have hRB : R0 < B := by rw [hR0]; exact Nat.mod_lt _ hBp
          have lR := lim_len_mono (Nat.le_of_lt hRB)
          have c2 := r1trim_spec (lim R0) (lb_lim _) (by omega)
          clear hR0 hQ0
          rw [hqv] at c1
          rw [val_lim] at c2
          unfold nl at *
          simp -implicitDefEqProofs (maxSteps := 2000000) (disch := omega) only [go_sem, simprocAttr, -List.reduceReplicate, condB_t, condB_f, e0]
          refine callK_row c1 (by simp only [upd_same, mkH_cons, ↓reduceIte] <;> rfl) (by simp [hql]) (by omega) (List.take_of_length_le (by simp [hql])) (numL_plain _) ?_
          simp -implicitDefEqProofs (maxSteps := 2000000) (disch := omega) only [go_sem, simprocAttr, -List.reduceReplicate, condB_t, condB_f]
          refine callK_pure c2 ?_
          simp -implicitDefEqProofs (maxSteps := 2000000) (disch := omega) only [go_sem, simprocAttr, -List.reduceReplicate, condB_t, condB_f]
          exact dn
    · refine callK_pure (cB2 hB) ?_
      simp -implicitDefEqProofs (maxSteps := 2000000) (disch := omega) only [go_sem, simprocAttr, -List.reduceReplicate, condB_t, condB_f]
      refine callK_pure cbits ?_
      simp -implicitDefEqProofs (maxSteps := 2000000) (disch := omega) only [go_sem, simprocAttr, -List.reduceReplicate, condB_t, condB_f]
      obtain ⟨id, hid⟩ : ∃ id, id = N0 + 232 := ⟨_, rfl⟩
      rw [← hid]
      refine aw_loop (X := Nat × List Nat) (fun x => ⟨mkS [(0, .sl 1 (numL a)), (1, .sl 1 (numL (lim B))), (4, .row id a.length 0 a.length), (5, .sl 1 (numL (lim (A / 2 ^ x.1 % B)))), (11, .int .i64 ((x.1 : Int) - 1))], mkH h [(id, ⟨1, numL x.2⟩)], id + 48⟩)
        (fun x => x.1 ≤ nbits A ∧ x.2.length = a.length ∧ Lb x.2 ∧ val x.2 = 2 ^ x.1 * (A / 2 ^ x.1 / B)) (fun x => x.1)
        ⟨(nbits A, List.replicate a.length 0), ⟨Nat.le_refl _, by simp, Lb.zeros _, by rw [val_zeros, hA0, Nat.zero_div, Nat.mul_zero]⟩, ?_⟩ ?_
      · (refine Weak.head1 (by simp only [upd_same, mkH_cons, ↓reduceIte] <;> rfl) (by omega) (numL_leafU _ _) (fun q hq => by simp only [upd, mkH, if_neg hq]) (by omega) hmen ?_; simp -implicitDefEqProofs (maxSteps := 2000000) (disch := omega) only [go_sem, simprocAttr, -List.reduceReplicate, condB_t, condB_f, AllP, AVle_same, AVle_int, AVle_nil, AVle_row, topU_int, topU_bool, topU_sl, topU_row, topU_ptr, topU_iptr, topU_fn, val, List.drop_length, hA0, Nat.zero_mod, lim_zero, numL_nil])
      · rintro ⟨j, q⟩ ⟨hj, hql, hqb, hqv⟩
        simp only at hj hql hqb hqv
        by_cases h1 : 0 < j
        · obtain ⟨i, rfl⟩ : ∃ i, j = i + 1 := ⟨j - 1, by omega⟩
          obtain ⟨bt, hbt⟩ : ∃ x, x = A / 2 ^ i % 2 := ⟨_, rfl⟩
          have hbt2 : bt < 2 := by rw [hbt]; exact Nat.mod_lt _ (by decide)
          have hbs := bin_step (A := A) (i := i) hBp
          rw [← hbt] at hbs
          have hbd := bin_div hBp hbt2 hbs
          have hi32 : i / 32 < a.length := by omega
          have hqi : i / 32 < q.length := by omega
          have hm32 : i % 32 < 32 := Nat.mod_lt _ (by decide)
          have hlm := limb_mod hqb hqi hqv
          have hlt := hqb.get (i / 32)
          obtain ⟨or1, or2⟩ := or_bit hm32 hlt hlm
          have hsb := set_bit hqb hqi hqv
          have hp32 : 2 ^ (i % 32) < 4294967296 := by omega
          obtain ⟨R, hR⟩ : ∃ R, R = A / 2 ^ (i + 1) % B := ⟨_, rfl⟩
          rw [← hR] at hbd
          have hRB : R < B := by rw [hR]; exact Nat.mod_lt _ hBp
          have lR := lim_len_mono (Nat.le_of_lt hRB)
          have a1 := r1add_spec (lim R) (lim R) (lb_lim _) (lb_lim _) (by omega) (by omega)
          have l2R := lim_len_add R R
          have a2 := r1add_spec (lim (R + R)) [1] (lb_lim _) (by intro x hx; rw [List.mem_singleton.1 hx]; decide) (by omega) (by simp)
          have cb := cbit i (by omega)
          rw [← hbt] at cb
          have l2R1 := lim_len_add (R + R) 1
          have l1 : (lim 1).length = 1 := by rw [lim_one]; rfl
          have s1 := fun c (hc : (lim c).length ≤ 1099511627776) (h : B ≤ c) => r1sub_ok (lim c) (lim B) (lb_lim _) (lb_lim _) hc (by omega) (by rw [val_lim, val_lim]; exact h)
          have s2 := fun c (hc : (lim c).length ≤ 1099511627776) (h : c < B) => r1sub_no (lim c) (lim B) (lb_lim _) (lb_lim _) hc (by omega) (by rw [val_lim, val_lim]; exact h)
          simp only [val_lim] at a1 a2 s1 s2
          have e1 : val [1] = 1 := rfl
          rw [e1] at a2
          unfold nl at *
          clear hbt hA0
          have hcase : bt = 0 ∨ bt = 1 := by omega
          rcases hcase with rfl | rfl
          · have t0 : R + R = 2 * R := by omega
            rw [t0] at a1 l2R
            simp only [Nat.add_zero] at hbd
            by_cases h2 : 2 * R < B
            · rw [if_pos h2] at hbd
              obtain ⟨d1, d2⟩ := hbd
              simp -implicitDefEqProofs (maxSteps := 2000000) (disch := omega) only [go_sem, simprocAttr, -List.reduceReplicate, condB_t, condB_f, ← hR]
              refine callK_pure a1 ?_
              simp -implicitDefEqProofs (maxSteps := 2000000) (disch := omega) only [go_sem, simprocAttr, -List.reduceReplicate, condB_t, condB_f]
              refine callK_pure cb ?_
              simp -implicitDefEqProofs (maxSteps := 2000000) (disch := omega) only [go_sem, simprocAttr, -List.reduceReplicate, condB_t, condB_f]
              refine callK_pure (s2 _ (by omega) h2) ?_
              simp -implicitDefEqProofs (maxSteps := 2000000) (disch := omega) only [go_sem, simprocAttr, -List.reduceReplicate, condB_t, condB_f]
              refine ⟨(i, q), ⟨by simp only; omega, hql, hqb, ?_⟩, by simp only; omega, by (refine Weak.head1 (by simp only [upd_same, mkH_cons, ↓reduceIte] <;> rfl) (by omega) (numL_leafU _ _) (fun q hq => by simp only [upd, mkH, if_neg hq]) (by omega) hmen ?_; simp -implicitDefEqProofs (maxSteps := 2000000) (disch := omega) only [go_sem, simprocAttr, -List.reduceReplicate, condB_t, condB_f, AllP, AVle_same, AVle_int, AVle_nil, AVle_row, topU_int, topU_bool, topU_sl, topU_row, topU_ptr, topU_iptr, topU_fn, val, List.drop_length, d2])⟩
              simp only
              rw [d1, ← Nat.mul_assoc, ← Nat.pow_succ]; exact hqv
            · rw [if_neg h2] at hbd
              obtain ⟨d1, d2⟩ := hbd
              simp -implicitDefEqProofs (maxSteps := 2000000) (disch := omega) only [go_sem, simprocAttr, -List.reduceReplicate, condB_t, condB_f, ← hR]
              refine callK_pure a1 ?_
              simp -implicitDefEqProofs (maxSteps := 2000000) (disch := omega) only [go_sem, simprocAttr, -List.reduceReplicate, condB_t, condB_f]
              refine callK_pure cb ?_
              simp -implicitDefEqProofs (maxSteps := 2000000) (disch := omega) only [go_sem, simprocAttr, -List.reduceReplicate, condB_t, condB_f]
              refine callK_pure (s1 _ (by omega) (by omega)) ?_
              simp -implicitDefEqProofs (maxSteps := 2000000) (disch := omega) only [go_sem, simprocAttr, -List.reduceReplicate, condB_t, condB_f, or1]
              refine ⟨(i, q.set (i / 32) (q.getD (i / 32) 0 + 2 ^ (i % 32))), ⟨by simp only; omega, by simp only; rw [List.length_set]; exact hql, hqb.set or2, ?_⟩, by simp only; omega, by (refine Weak.head1 (by simp only [upd_same, mkH_cons, ↓reduceIte] <;> rfl) (by omega) (numL_leafU _ _) (fun q hq => by simp only [upd, mkH, if_neg hq]) (by omega) hmen ?_; simp -implicitDefEqProofs (maxSteps := 2000000) (disch := omega) only [go_sem, simprocAttr, -List.reduceReplicate, condB_t, condB_f, AllP, AVle_same, AVle_int, AVle_nil, AVle_row, topU_int, topU_bool, topU_sl, topU_row, topU_ptr, topU_iptr, topU_fn, val, List.drop_length, d2])⟩
              simp only
              rw [d1]; exact hsb
          · have t0 : R + R = 2 * R := by omega
            rw [t0] at a1 a2 l2R l2R1
            by_cases h2 : 2 * R + 1 < B
            · rw [if_pos h2] at hbd
              obtain ⟨d1, d2⟩ := hbd
              simp -implicitDefEqProofs (maxSteps := 2000000) (disch := omega) only [go_sem, simprocAttr, -List.reduceReplicate, condB_t, condB_f, ← hR]
              refine callK_pure a1 ?_
              simp -implicitDefEqProofs (maxSteps := 2000000) (disch := omega) only [go_sem, simprocAttr, -List.reduceReplicate, condB_t, condB_f]
              refine callK_pure cb ?_
              simp -implicitDefEqProofs (maxSteps := 2000000) (disch := omega) only [go_sem, simprocAttr, -List.reduceReplicate, condB_t, condB_f]
              refine callK_row2 a2 (by simp only [upd_same] <;> rfl) rfl (by simp) rfl (numL_plain _) ?_
              simp -implicitDefEqProofs (maxSteps := 2000000) (disch := omega) only [go_sem, simprocAttr, -List.reduceReplicate, condB_t, condB_f]
              refine callK_pure (s2 _ (by omega) h2) ?_
              simp -implicitDefEqProofs (maxSteps := 2000000) (disch := omega) only [go_sem, simprocAttr, -List.reduceReplicate, condB_t, condB_f]
              refine ⟨(i, q), ⟨by simp only; omega, hql, hqb, ?_⟩, by simp only; omega, by (refine Weak.head1 (by simp -implicitDefEqProofs (maxSteps := 2000000) (disch := omega) only [go_sem, simprocAttr, -List.reduceReplicate, condB_t, condB_f]) (by omega) (numL_leafU _ _) (fun k0 hk0 => by have hk1 : (k0 = id) = False := eq_false hk0; by_cases e : k0 = id + 136 <;> (simp -implicitDefEqProofs (maxSteps := 2000000) (disch := omega) only [go_sem, simprocAttr, -List.reduceReplicate, condB_t, condB_f, upd, mkH, hk1, e]) <;> first | done | exact (hn _ (by omega)).symm) (by omega) hmen ?_; simp -implicitDefEqProofs (maxSteps := 2000000) (disch := omega) only [go_sem, simprocAttr, -List.reduceReplicate, condB_t, condB_f, AllP, AVle_same, AVle_int, AVle_nil, AVle_row, topU_int, topU_bool, topU_sl, topU_row, topU_ptr, topU_iptr, topU_fn, val, List.drop_length, d2])⟩
              simp only
              rw [d1, ← Nat.mul_assoc, ← Nat.pow_succ]; exact hqv
            · rw [if_neg h2] at hbd
              obtain ⟨d1, d2⟩ := hbd
              simp -implicitDefEqProofs (maxSteps := 2000000) (disch := omega) only [go_sem, simprocAttr, -List.reduceReplicate, condB_t, condB_f, ← hR]
              refine callK_pure a1 ?_
              simp -implicitDefEqProofs (maxSteps := 2000000) (disch := omega) only [go_sem, simprocAttr, -List.reduceReplicate, condB_t, condB_f]
              refine callK_pure cb ?_
              simp -implicitDefEqProofs (maxSteps := 2000000) (disch := omega) only [go_sem, simprocAttr, -List.reduceReplicate, condB_t, condB_f]
              refine callK_row2 a2 (by simp only [upd_same] <;> rfl) rfl (by simp) rfl (numL_plain _) ?_
              simp -implicitDefEqProofs (maxSteps := 2000000) (disch := omega) only [go_sem, simprocAttr, -List.reduceReplicate, condB_t, condB_f]
              refine callK_pure (s1 _ (by omega) (by omega)) ?_
              simp -implicitDefEqProofs (maxSteps := 2000000) (disch := omega) only [go_sem, simprocAttr, -List.reduceReplicate, condB_t, condB_f, or1]
              refine ⟨(i, q.set (i / 32) (q.getD (i / 32) 0 + 2 ^ (i % 32))), ⟨by simp only; omega, by simp only; rw [List.length_set]; exact hql, hqb.set or2, ?_⟩, by simp only; omega, by (refine Weak.head1 (by simp -implicitDefEqProofs (maxSteps := 2000000) (disch := omega) only [go_sem, simprocAttr, -List.reduceReplicate, condB_t, condB_f]) (by omega) (numL_leafU _ _) (fun k0 hk0 => by have hk1 : (k0 = id) = False := eq_false hk0; by_cases e : k0 = id + 136 <;> (simp -implicitDefEqProofs (maxSteps := 2000000) (disch := omega) only [go_sem, simprocAttr, -List.reduceReplicate, condB_t, condB_f, upd, mkH, hk1, e]) <;> first | done | exact (hn _ (by omega)).symm) (by omega) hmen ?_; simp -implicitDefEqProofs (maxSteps := 2000000) (disch := omega) only [go_sem, simprocAttr, -List.reduceReplicate, condB_t, condB_f, AllP, AVle_same, AVle_int, AVle_nil, AVle_row, topU_int, topU_bool, topU_sl, topU_row, topU_ptr, topU_iptr, topU_fn, val, List.drop_length, d2])⟩
              simp only
              rw [d1]; exact hsb
        · obtain rfl : j = 0 := by omega
          rw [Nat.pow_zero, Nat.div_one, Nat.one_mul] at hqv
          have c1 := r1trim_spec q hqb (by omega)
          rw [← hQ0] at hqv
          have e0 : A / 1 % B = R0 := by rw [Nat.div_one, hR0]
          have hRB : R0 < B := by rw [hR0]; exact Nat.mod_lt _ hBp
          have lR := lim_len_mono (Nat.le_of_lt hRB)
          have c2 := r1trim_spec (lim R0) (lb_lim _) (by omega)
          clear hR0 hQ0
          rw [hqv] at c1
          rw [val_lim] at c2
          unfold nl at *
          simp -implicitDefEqProofs (maxSteps := 2000000) (disch := omega) only [go_sem, simprocAttr, -List.reduceReplicate, condB_t, condB_f, e0]
          refine callK_row c1 (by simp only [upd_same, mkH_cons, ↓reduceIte] <;> rfl) (by simp [hql]) (by omega) (List.take_of_length_le (by simp [hql])) (numL_plain _) ?_
          simp -implicitDefEqProofs (maxSteps := 2000000) (disch := omega) only [go_sem, simprocAttr, -List.reduceReplicate, condB_t, condB_f]
          refine callK_pure c2 ?_
          simp -implicitDefEqProofs (maxSteps := 2000000) (disch := omega) only [go_sem, simprocAttr, -List.reduceReplicate, condB_t, condB_f]
          exact dn
theorem r1gcd_spec (a b : List Nat) (ha : Lb a) (hb : Lb b) (hla : a.length ≤ 549755813888) (hlb : b.length ≤ 549755813888) :
    PDet Tryz.prog 91 [nl a, nl b] (nl (lim (Nat.gcd (val a) (val b)))) := by
  refine pdet_of E0ok mixed Tryz.func91 (by kernel_rfl) rfl (by kernel_rfl) (Nat.le_of_ble_eq_true rfl) fun N0 h hn hmen => ?_
  have hlA := lim_len_val ha
  have hlB := lim_len_val hb
  have c1 := r1trim_spec a ha (by omega)
  have c2 := r1trim_spec b hb (by omega)
  generalize val a = A at *
  generalize val b = B at *
  unfold nl at *
  simp -implicitDefEqProofs (maxSteps := 2000000) (disch := omega) only [go_sem, simprocAttr, -List.reduceReplicate, condB_t, condB_f]
  refine callK_pure c1 ?_
  simp -implicitDefEqProofs (maxSteps := 2000000) (disch := omega) only [go_sem, simprocAttr, -List.reduceReplicate, condB_t, condB_f]
  refine callK_pure c2 ?_
  simp -implicitDefEqProofs (maxSteps := 2000000) (disch := omega) only [go_sem, simprocAttr, -List.reduceReplicate, condB_t, condB_f]
  refine aw_loop (X := Nat × Nat) (fun x => ⟨mkS [(0, .sl 1 (numL (lim x.1))), (1, .sl 1 (numL (lim x.2)))], h, N0⟩) (fun x => Nat.gcd x.1 x.2 = Nat.gcd A B ∧ (lim x.1).length ≤ 549755813888 ∧ (lim x.2).length ≤ 549755813888) (fun x => x.2)
    ⟨(A, B), ⟨rfl, by simp only; omega, by simp only; omega⟩, ?_⟩ ?_
  · (refine Weak.slots (allP ?_) (fun k0 b0 hb0 => by first | exact hb0 | (have hk1 := (hmen k0 b0 hb0).1; simp only [upd, mkH]; (repeat rw [if_neg (by omega)]); exact hb0)) (by omega) hmen; simp -implicitDefEqProofs (maxSteps := 2000000) (disch := omega) only [go_sem, simprocAttr, -List.reduceReplicate, condB_t, condB_f, AllP, AVle_same, AVle_int, AVle_nil, AVle_row, topU_int, topU_bool, topU_sl, topU_row, topU_ptr, topU_iptr, topU_fn, val, List.drop_length])
  · rintro ⟨x, y⟩ ⟨hg, hx, hy⟩
    simp only at hg hx hy
    have hdm := fun h0 => r1divMod_spec (lim x) (lim y) (lb_lim x) (lb_lim y) hx hy h0
    simp only [val_lim] at hdm
    have hy0 : y = 0 ↔ (lim y).length = 0 := by rw [List.length_eq_zero_iff, lim_nil]
    unfold nl at *
    by_cases h1 : 0 < (lim y).length
    · have h0 : y ≠ 0 := by omega
      have hlm := lim_len_mono (Nat.le_of_lt (Nat.mod_lt x (Nat.pos_of_ne_zero h0)))
      simp -implicitDefEqProofs (maxSteps := 2000000) (disch := omega) only [go_sem, simprocAttr, -List.reduceReplicate, condB_t, condB_f]
      refine callK_pure (hdm h0) ?_
      simp -implicitDefEqProofs (maxSteps := 2000000) (disch := omega) only [go_sem, simprocAttr, -List.reduceReplicate, condB_t, condB_f]
      exact ⟨(y, x % y), ⟨by simp only; rw [← hg, Nat.gcd_comm y, ← Nat.gcd_rec, Nat.gcd_comm], hy, by simp only; omega⟩, Nat.mod_lt _ (Nat.pos_of_ne_zero h0), by (refine Weak.slots (allP ?_) (fun k0 b0 hb0 => by first | exact hb0 | (have hk1 := (hmen k0 b0 hb0).1; simp only [upd, mkH]; (repeat rw [if_neg (by omega)]); exact hb0)) (by omega) hmen; simp -implicitDefEqProofs (maxSteps := 2000000) (disch := omega) only [go_sem, simprocAttr, -List.reduceReplicate, condB_t, condB_f, AllP, AVle_same, AVle_int, AVle_nil, AVle_row, topU_int, topU_bool, topU_sl, topU_row, topU_ptr, topU_iptr, topU_fn, val, List.drop_length])⟩
    · obtain rfl := hy0.2 (by omega)
      rw [Nat.gcd_zero_right] at hg
      simp -implicitDefEqProofs (maxSteps := 2000000) (disch := omega) only [go_sem, simprocAttr, -List.reduceReplicate, condB_t, condB_f]
      rw [hg]
      exact dn
end Go.Abs
/-! YtzRef3: The references of the second and the third layer: integers and rational numbers. No condition. -/
set_option linter.unusedVariables false
set_option linter.unusedSimpArgs false
set_option maxRecDepth 100000
set_option maxHeartbeats 1000000
namespace Go.Abs
open Go.Proofs
@[go_sem] theorem R72 : Tryz.f72.results.toList = [.cell 4 40] := rfl
@[go_sem] theorem R68 : Tryz.f68.results.toList = [.cell 2 40] := rfl
@[go_sem] theorem R71 : Tryz.f71.results.toList = [.cell 2 40] := rfl
@[go_sem] theorem R93 : Tryz.f93.results.toList = [.cell 2 40] := rfl
@[go_sem] theorem R48 : Tryz.f48.results.toList = [.tmp 4] := rfl
@[go_sem] theorem R52 : Tryz.f52.results.toList = [.cell 2 40] := rfl
@[go_sem] theorem R67 : Tryz.f67.results.toList = [.tmp 2] := rfl
@[go_sem] theorem R83 : Tryz.f83.results.toList = [.cell 4 40] := rfl
@[go_sem] theorem R94 : Tryz.f94.results.toList = [.cell 4 40] := rfl
@[go_sem] theorem R84 : Tryz.f84.results.toList = [.cell 4 40] := rfl
@[go_sem] theorem R69 : Tryz.f69.results.toList = [.cell 4 40] := rfl
@[go_sem] theorem R70 : Tryz.f70.results.toList = [.cell 4 40, .cell 5 40, .tmp 6] := rfl
def ED70 : Env := { tt := E0.tt, pf := E0.pf, dyn := fun id => lookD id [(10, [(1, 2)])] }
theorem ED70ok : EnvOk Tryz.prog ED70 := ⟨E0ok.tt⟩
@[go_sem] theorem ED70tt (t : Nat) : ED70.tt t = E0.tt t := rfl
@[go_sem] theorem ED70dyn (id : Nat) : ED70.dyn id = lookD id [(10, [(1, 2)])] := rfl
@[go_sem] theorem ED70pf (f : Nat) : ED70.pf f = E0.pf f := rfl
theorem r2make_spec (s : Bool) (m : List Nat) (hm : Lb m) (sm : m.length ≤ 4398046511104) : PDet Tryz.prog 72 [.bool s, nl m] (.agg (iC (ival s (val m)))) := by
  refine pdet_of E0ok mixed Tryz.func72 (by kernel_rfl) rfl (by kernel_rfl) (Nat.le_of_ble_eq_true rfl) fun N0 h hn hmen => ?_
  have c1 := r1trim_spec m hm sm
  have hl := lim_pos_len (val m)
  have hlen := lim_len_val hm
  rw [iC_ival]
  unfold nl at *
  simp -implicitDefEqProofs (maxSteps := 2000000) (disch := omega) only [go_sem, simprocAttr, -List.reduceReplicate, condB_t, condB_f]
  refine callK_pure c1 ?_
  by_cases h0 : 0 < val m
  · rw [decide_eq_true h0]
    have h1 := hl.2 h0
    cases s <;> simp -implicitDefEqProofs (maxSteps := 2000000) (disch := omega) only [go_sem, simprocAttr, -List.reduceReplicate, condB_t, condB_f] <;> exact dn
  · rw [decide_eq_false h0]
    have h1 : ¬ 0 < (lim (val m)).length := fun h => h0 (hl.1 h)
    cases s <;> simp -implicitDefEqProofs (maxSteps := 2000000) (disch := omega) only [go_sem, simprocAttr, -List.reduceReplicate, condB_t, condB_f] <;> exact dn
theorem r2norm_spec (s : Bool) (m : List Nat) (hm : Lb m) (sm : m.length ≤ 1099511627776) : PDet Tryz.prog 68 [.agg [.bool s, nl m]] (.agg (iC (ival s (val m)))) := by
  refine pdet_of E0ok mixed Tryz.func68 (by kernel_rfl) rfl (by kernel_rfl) (Nat.le_of_ble_eq_true rfl) fun N0 h hn hmen => ?_
  have c := r2make_spec s m hm (by omega)
  unfold iC nl at *
  simp -implicitDefEqProofs (maxSteps := 2000000) (disch := decide) only [go_sem, simprocAttr, -List.reduceReplicate, condB_t, condB_f]
  refine callK_pure c ?_
  simp -implicitDefEqProofs (maxSteps := 2000000) (disch := decide) only [go_sem, simprocAttr, -List.reduceReplicate, condB_t, condB_f]
  exact dn
theorem r2neg_spec (s : Bool) (m : List Nat) (hm : Lb m) (sm : m.length ≤ 1099511627776) : PDet Tryz.prog 71 [.agg [.bool s, nl m]] (.agg (iC (-ival s (val m)))) := by
  refine pdet_of E0ok mixed Tryz.func71 (by kernel_rfl) rfl (by kernel_rfl) (Nat.le_of_ble_eq_true rfl) fun N0 h hn hmen => ?_
  have c := r2make_spec (!s) m hm (by omega)
  rw [ival_not] at c
  unfold iC nl at *
  simp -implicitDefEqProofs (maxSteps := 2000000) (disch := decide) only [go_sem, simprocAttr, -List.reduceReplicate, condB_t, condB_f]
  refine callK_pure c ?_
  simp -implicitDefEqProofs (maxSteps := 2000000) (disch := decide) only [go_sem, simprocAttr, -List.reduceReplicate, condB_t, condB_f]
  exact dn
theorem r2abs_spec (s : Bool) (m : List Nat) (hm : Lb m) (sm : m.length ≤ 1099511627776) : PDet Tryz.prog 93 [.agg [.bool s, nl m]] (.agg (iC (val m : Int))) := by
  refine pdet_of E0ok mixed Tryz.func93 (by kernel_rfl) rfl (by kernel_rfl) (Nat.le_of_ble_eq_true rfl) fun N0 h hn hmen => ?_
  have c := r2make_spec false m hm (by omega)
  rw [ival_f] at c
  unfold iC nl at *
  simp -implicitDefEqProofs (maxSteps := 2000000) (disch := decide) only [go_sem, simprocAttr, -List.reduceReplicate, condB_t, condB_f]
  refine callK_pure c ?_
  simp -implicitDefEqProofs (maxSteps := 2000000) (disch := decide) only [go_sem, simprocAttr, -List.reduceReplicate, condB_t, condB_f]
  exact dn
theorem r2equal_spec (s t : Bool) (m n : List Nat) (sm : m.length ≤ 1099511627776) (sn : n.length ≤ 1099511627776) : PDet Tryz.prog 48 [.agg [.bool s, nl m], .agg [.bool t, nl n]] (.bool (decide (s = t ∧ m = n))) := by
  refine pdet_of E0ok mixed Tryz.func48 (by kernel_rfl) rfl (by kernel_rfl) (Nat.le_of_ble_eq_true rfl) fun N0 h hn hmen => ?_
  have c := r1equal_spec m n sm sn
  unfold nl at *
  by_cases e : s = t
  · subst e
    have e1 : (s == s) = true := by simp
    have e2 : decide (s = s ∧ m = n) = decide (m = n) := by simp
    rw [e2]
    simp -implicitDefEqProofs (maxSteps := 2000000) (disch := decide) only [go_sem, simprocAttr, -List.reduceReplicate, condB_t, condB_f, e1]
    refine callK_pure c ?_
    simp -implicitDefEqProofs (maxSteps := 2000000) (disch := decide) only [go_sem, simprocAttr, -List.reduceReplicate, condB_t, condB_f]
    exact dn
  · have e1 : (s == t) = false := by simpa using e
    have e2 : decide (s = t ∧ m = n) = false := decide_eq_false fun h => e h.1
    rw [e2]
    simp -implicitDefEqProofs (maxSteps := 2000000) (disch := decide) only [go_sem, simprocAttr, -List.reduceReplicate, condB_t, condB_f, e1]
    exact dn
theorem r2fromInt_spec (v : Int) (h1 : -9223372036854775808 ≤ v) (h2 : v ≤ 9223372036854775807) : PDet Tryz.prog 52 [.int .i64 v] (.agg (iC v)) := by
  refine pdet_of E0ok mixed Tryz.func52 (by kernel_rfl) rfl (by kernel_rfl) (Nat.le_of_ble_eq_true rfl) fun N0 h hn hmen => ?_
  by_cases hv : v < 0
  · obtain ⟨n, rfl⟩ : ∃ n : Nat, v = -((n : Int) + 1) := ⟨(-v - 1).toNat, by omega⟩
    have e2 : ival true (n + 1) = -((n : Int) + 1) := by simp [ival]
    have hl2 : (lim (n + 1)).length ≤ 2 := lim_len.2 (show n + 1 < 18446744073709551616 by omega)
    have hw := r2make_spec true (lim (n + 1)) (lb_lim _) (by omega)
    rw [val_lim, e2] at hw
    simp -implicitDefEqProofs (maxSteps := 2000000) (disch := omega) only [go_sem, simprocAttr, -List.reduceReplicate, condB_t, condB_f]
    rw [show (-(-((n + 1 : Nat) : Int) + 1) % 18446744073709551616 + 1) % 18446744073709551616 = ((n + 1 : Nat) : Int) by omega]
    refine callK_pure (r1fromUint64_spec (n + 1) (by omega)) ?_
    simp -implicitDefEqProofs (maxSteps := 2000000) (disch := omega) only [go_sem, simprocAttr, -List.reduceReplicate, condB_t, condB_f]
    refine callK_pure hw ?_
    unfold iC nl
    simp -implicitDefEqProofs (maxSteps := 2000000) (disch := omega) only [go_sem, simprocAttr, -List.reduceReplicate, condB_t, condB_f]
    exact dn
  · obtain ⟨n, rfl⟩ : ∃ n : Nat, v = (n : Int) := ⟨v.toNat, by omega⟩
    have hl2 : (lim n).length ≤ 2 := lim_len.2 (show n < 18446744073709551616 by omega)
    have hw := r2make_spec false (lim n) (lb_lim _) (by omega)
    rw [val_lim, ival_f] at hw
    simp -implicitDefEqProofs (maxSteps := 2000000) (disch := omega) only [go_sem, simprocAttr, -List.reduceReplicate, condB_t, condB_f]
    refine callK_pure (r1fromUint64_spec n (by omega)) ?_
    simp -implicitDefEqProofs (maxSteps := 2000000) (disch := omega) only [go_sem, simprocAttr, -List.reduceReplicate, condB_t, condB_f]
    refine callK_pure hw ?_
    unfold iC nl
    simp -implicitDefEqProofs (maxSteps := 2000000) (disch := omega) only [go_sem, simprocAttr, -List.reduceReplicate, condB_t, condB_f]
    exact dn
theorem r2sign_spec (s : Bool) (m : List Nat) (hm : Lb m) (sm : m.length ≤ 1099511627776) : PDet Tryz.prog 67 [.agg [.bool s, nl m]] (.int .i64 (ival s (val m)).sign) := by
  refine pdet_of E0ok mixed Tryz.func67 (by kernel_rfl) rfl (by kernel_rfl) (Nat.le_of_ble_eq_true rfl) fun N0 h hn hmen => ?_
  have c := r2norm_spec s m hm sm
  have hl := lim_pos_len (val m)
  have hlen := lim_len_val hm
  rw [iC_ival] at c
  rw [sign_ival]
  unfold nl at *
  simp -implicitDefEqProofs (maxSteps := 2000000) (disch := omega) only [go_sem, simprocAttr, -List.reduceReplicate, condB_t, condB_f]
  refine callK_pure c ?_
  by_cases h0 : val m = 0
  · rw [if_pos h0, h0, decide_eq_false (Nat.lt_irrefl 0), Bool.and_false, lim_zero]
    simp -implicitDefEqProofs (maxSteps := 2000000) (disch := omega) only [go_sem, simprocAttr, -List.reduceReplicate, condB_t, condB_f]
    exact dn
  · rw [if_neg h0, decide_eq_true (Nat.pos_of_ne_zero h0), Bool.and_true]
    have h1 := hl.2 (Nat.pos_of_ne_zero h0)
    cases s <;> simp -implicitDefEqProofs (maxSteps := 2000000) (disch := omega) only [go_sem, simprocAttr, -List.reduceReplicate, condB_t, condB_f] <;> exact dn
theorem r2add_spec (s t : Bool) (m n : List Nat) (hm : Lb m) (hn' : Lb n) (sm : m.length ≤ 1099511627776) (sn : n.length ≤ 1099511627776) : PDet Tryz.prog 83 [.agg [.bool s, nl m], .agg [.bool t, nl n]] (.agg (iC (ival s (val m) + ival t (val n)))) := by
  refine pdet_of E0ok mixed Tryz.func83 (by kernel_rfl) rfl (by kernel_rfl) (Nat.le_of_ble_eq_true rfl) fun N0 h hn hmen => ?_
  have c1 := r1add_spec m n hm hn' sm sn
  have c2 := fun h => r1sub_ok m n hm hn' sm sn h
  have c3 := fun h => r1sub_no m n hm hn' sm sn h
  have c4 := fun h => r1sub_ok n m hn' hm sn sm h
  have l1 := lim_len_add (val m) (val n)
  have l2 := lim_len_mono (Nat.sub_le (val m) (val n))
  have l3 := lim_len_mono (Nat.sub_le (val n) (val m))
  have l4 := lim_len_val hm
  have l5 := lim_len_val hn'
  generalize val m = a at *
  generalize val n = b at *
  have w := fun s k (h : (lim k).length ≤ 4398046511104) => r2make_spec s (lim k) (lb_lim k) h
  simp only [iC_ival, val_lim] at w
  have w1 := w s (a + b) (by omega)
  have w2 := w s (a - b) (by omega)
  have w3 := w t (b - a) (by omega)
  unfold nl at *
  clear l1 l2 l3 l4 l5 w
  by_cases e : (s == t) = true
  · have e2 : ival s a + ival t b = ival s (a + b) := by
      have := eq_of_beq e
      subst this
      cases s <;> simp [ival] <;> omega
    rw [e2, iC_ival]
    unfold nl
    simp -implicitDefEqProofs (maxSteps := 2000000) (disch := decide) only [go_sem, simprocAttr, -List.reduceReplicate, condB_t, condB_f, e]
    refine pcallK_pure c1 ?_
    simp -implicitDefEqProofs (maxSteps := 2000000) (disch := decide) only [go_sem, simprocAttr, -List.reduceReplicate, condB_t, condB_f]
    refine pcallK_pure w1 ?_
    simp -implicitDefEqProofs (maxSteps := 2000000) (disch := decide) only [go_sem, simprocAttr, -List.reduceReplicate, condB_t, condB_f]
    exact dn
  · have e' : (s == t) = false := by simpa using e
    by_cases hle : b ≤ a
    · have e2 : ival s a + ival t b = ival s (a - b) := by
        cases s <;> cases t <;> simp at e <;> simp [ival] <;> omega
      rw [e2, iC_ival]
      unfold nl
      simp -implicitDefEqProofs (maxSteps := 2000000) (disch := decide) only [go_sem, simprocAttr, -List.reduceReplicate, condB_t, condB_f, e']
      refine callK_pure (c2 hle) ?_
      simp -implicitDefEqProofs (maxSteps := 2000000) (disch := decide) only [go_sem, simprocAttr, -List.reduceReplicate, condB_t, condB_f]
      refine callK_pure w2 ?_
      simp -implicitDefEqProofs (maxSteps := 2000000) (disch := decide) only [go_sem, simprocAttr, -List.reduceReplicate, condB_t, condB_f]
      exact dn
    · have e2 : ival s a + ival t b = ival t (b - a) := by
        cases s <;> cases t <;> simp at e <;> simp [ival] <;> omega
      rw [e2, iC_ival]
      unfold nl
      simp -implicitDefEqProofs (maxSteps := 2000000) (disch := decide) only [go_sem, simprocAttr, -List.reduceReplicate, condB_t, condB_f, e']
      refine callK_pure (c3 (by omega)) ?_
      simp -implicitDefEqProofs (maxSteps := 2000000) (disch := decide) only [go_sem, simprocAttr, -List.reduceReplicate, condB_t, condB_f]
      refine callK_pure (c4 (by omega)) ?_
      simp -implicitDefEqProofs (maxSteps := 2000000) (disch := decide) only [go_sem, simprocAttr, -List.reduceReplicate, condB_t, condB_f]
      refine callK_pure w3 ?_
      simp -implicitDefEqProofs (maxSteps := 2000000) (disch := decide) only [go_sem, simprocAttr, -List.reduceReplicate, condB_t, condB_f]
      exact dn
theorem r2sub_spec (s t : Bool) (m n : List Nat) (hm : Lb m) (hn' : Lb n) (sm : m.length ≤ 1099511627776) (sn : n.length ≤ 1099511627776) : PDet Tryz.prog 94 [.agg [.bool s, nl m], .agg [.bool t, nl n]] (.agg (iC (ival s (val m) - ival t (val n)))) := by
  refine pdet_of E0ok mixed Tryz.func94 (by kernel_rfl) rfl (by kernel_rfl) (Nat.le_of_ble_eq_true rfl) fun N0 h hn hmen => ?_
  have c1 := r2neg_spec t n hn' sn
  rw [← ival_not, iC_ival] at c1
  have l5 := lim_len_val hn'
  have c2 := r2add_spec s (!t && decide (0 < val n)) m (lim (val n)) hm (lb_lim _) sm (by omega)
  have e : ival (!t && decide (0 < val n)) (val n) = -ival t (val n) := by
    by_cases h : 0 < val n
    · rw [decide_eq_true h, Bool.and_true, ival_not]
    · obtain h0 : val n = 0 := by omega
      rw [h0]; cases t <;> simp [ival]
  rw [val_lim, e] at c2
  rw [Int.sub_eq_add_neg]
  unfold iC nl at *
  simp -implicitDefEqProofs (maxSteps := 2000000) (disch := decide) only [go_sem, simprocAttr, -List.reduceReplicate, condB_t, condB_f]
  refine pcallK_pure c1 ?_
  simp -implicitDefEqProofs (maxSteps := 2000000) (disch := decide) only [go_sem, simprocAttr, -List.reduceReplicate, condB_t, condB_f]
  refine pcallK_pure c2 ?_
  simp -implicitDefEqProofs (maxSteps := 2000000) (disch := decide) only [go_sem, simprocAttr, -List.reduceReplicate, condB_t, condB_f]
  exact dn
theorem r2mul_spec (s t : Bool) (m n : List Nat) (hm : Lb m) (hn' : Lb n) (sm : m.length ≤ 1099511627776) (sn : n.length ≤ 1099511627776) : PDet Tryz.prog 84 [.agg [.bool s, nl m], .agg [.bool t, nl n]] (.agg (iC (ival s (val m) * ival t (val n)))) := by
  refine pdet_of E0ok mixed Tryz.func84 (by kernel_rfl) rfl (by kernel_rfl) (Nat.le_of_ble_eq_true rfl) fun N0 h hn hmen => ?_
  have c1 := r1mul_spec m n hm hn' sm sn
  have l1 := lim_len_mul (val m) (val n)
  have l4 := lim_len_val hm
  have l5 := lim_len_val hn'
  generalize val m = a at *
  generalize val n = b at *
  have w := fun s => r2make_spec s (lim (a * b)) (lb_lim _) (by omega)
  simp only [iC_ival, val_lim] at w
  have e2 : ival s a * ival t b = ival (!(s == t)) (a * b) := by
    cases s <;> cases t <;> simp [ival, Int.natCast_mul, Int.neg_mul, Int.mul_neg]
  rw [e2, iC_ival]
  unfold nl at *
  clear l1 l4 l5
  simp -implicitDefEqProofs (maxSteps := 2000000) (disch := decide) only [go_sem, simprocAttr, -List.reduceReplicate, condB_t, condB_f]
  refine pcallK_pure c1 ?_
  simp -implicitDefEqProofs (maxSteps := 2000000) (disch := decide) only [go_sem, simprocAttr, -List.reduceReplicate, condB_t, condB_f]
  refine pcallK_pure (w _) ?_
  simp -implicitDefEqProofs (maxSteps := 2000000) (disch := decide) only [go_sem, simprocAttr, -List.reduceReplicate, condB_t, condB_f]
  exact dn
theorem r2gcd_spec (s t : Bool) (m n : List Nat) (hm : Lb m) (hn' : Lb n) (sm : m.length ≤ 549755813888) (sn : n.length ≤ 549755813888) : PDet Tryz.prog 69 [.agg [.bool s, nl m], .agg [.bool t, nl n]] (.agg (iC (Nat.gcd (val m) (val n) : Int))) := by
  refine pdet_of E0ok mixed Tryz.func69 (by kernel_rfl) rfl (by kernel_rfl) (Nat.le_of_ble_eq_true rfl) fun N0 h hn hmen => ?_
  have c1 := r1gcd_spec m n hm hn' sm sn
  have l4 := lim_len_val hm
  have l5 := lim_len_val hn'
  have l6 : (lim (Nat.gcd (val m) (val n))).length ≤ 4398046511104 := by
    rcases Nat.eq_zero_or_pos (val m) with h | h
    · rw [h, Nat.gcd_zero_left]; omega
    · have := lim_len_mono (Nat.gcd_le_left (val n) h); omega
  have w := r2make_spec false (lim (Nat.gcd (val m) (val n))) (lb_lim _) l6
  rw [val_lim, ival_f] at w
  unfold iC nl at *
  simp -implicitDefEqProofs (maxSteps := 2000000) (disch := decide) only [go_sem, simprocAttr, -List.reduceReplicate, condB_t, condB_f]
  refine callK_pure c1 ?_
  simp -implicitDefEqProofs (maxSteps := 2000000) (disch := decide) only [go_sem, simprocAttr, -List.reduceReplicate, condB_t, condB_f]
  refine callK_pure w ?_
  simp -implicitDefEqProofs (maxSteps := 2000000) (disch := decide) only [go_sem, simprocAttr, -List.reduceReplicate, condB_t, condB_f]
  exact dn
/-- Exact division. -/
theorem r2divMod_exact (s : Bool) (m n : List Nat) (hm : Lb m) (hn' : Lb n) (sm : m.length ≤ 549755813888) (sn : n.length ≤ 549755813888) (h0 : val n ≠ 0) (hd : val n ∣ val m) : PDet Tryz.prog 70 [.agg [.bool s, nl m], .agg [.bool false, nl n]] (.tup [.agg (iC (ival s (val m / val n))), .agg (iC 0), .bool true]) := by
  refine pdet_of ED70ok mixed Tryz.func70 (by kernel_rfl) rfl (by kernel_rfl) (Nat.le_of_ble_eq_true rfl) fun N0 h hn hmen => ?_
  have c1 := r1divMod_spec m n hm hn' sm sn h0
  rw [Nat.mod_eq_zero_of_dvd hd] at c1
  have l4 := lim_len_val hm
  have l5 := lim_len_mono (Nat.div_le_self (val m) (val n))
  have w1 := r2make_spec s (lim (val m / val n)) (lb_lim _) (by omega)
  have w2 := r2make_spec s (lim 0) (lb_lim _) (by rw [lim_zero]; simp)
  rw [val_lim] at w1 w2
  have z : ival s 0 = 0 := by cases s <;> rfl
  rw [z] at w2
  have e : (!(s == false)) = s := by cases s <;> rfl
  unfold iC nl at *
  clear l4 l5
  simp -implicitDefEqProofs (maxSteps := 2000000) (disch := decide) only [go_sem, simprocAttr, -List.reduceReplicate, condB_t, condB_f]
  refine callK_pure c1 ?_
  simp -implicitDefEqProofs (maxSteps := 2000000) (disch := decide) only [go_sem, simprocAttr, -List.reduceReplicate, condB_t, condB_f, e]
  refine pcallK_pure w1 ?_
  simp -implicitDefEqProofs (maxSteps := 2000000) (disch := decide) only [go_sem, simprocAttr, -List.reduceReplicate, condB_t, condB_f]
  refine pcallK_pure w2 ?_
  simp -implicitDefEqProofs (maxSteps := 2000000) (disch := decide) only [go_sem, simprocAttr, -List.reduceReplicate, condB_t, condB_f, Int.lt_irrefl]
  exact dn
end Go.Abs
/-! YtzRef4: The reference of the third layer: rational numbers. No condition. -/
set_option linter.unusedVariables false
set_option linter.unusedSimpArgs false
set_option maxRecDepth 100000
set_option maxHeartbeats 1000000
namespace Go.Abs
open Go.Proofs
@[go_sem] theorem R57 : Tryz.f57.results.toList = [.cell 0 42] := rfl
@[go_sem] theorem R51 : Tryz.f51.results.toList = [.cell 4 42] := rfl
@[go_sem] theorem R38 : Tryz.f38.results.toList = [.cell 2 42] := rfl
@[go_sem] theorem R30 : Tryz.f30.results.toList = [.tmp 4] := rfl
@[go_sem] theorem R29 : Tryz.f29.results.toList = [.tmp 2] := rfl
@[go_sem] theorem R85 : Tryz.f85.results.toList = [.cell 2 40] := rfl
@[go_sem] theorem R33 : Tryz.f33.results.toList = [.cell 2 42] := rfl
@[go_sem] theorem R47 : Tryz.f47.results.toList = [.tmp 2] := rfl
@[go_sem] theorem R58 : Tryz.f58.results.toList = [.cell 4 42] := rfl
def ED58 : Env := { tt := E0.tt, pf := E0.pf, dyn := fun id => lookD id [(1, [(0, 4), (2, 4), (0, 5), (2, 5)])] }
theorem ED58ok : EnvOk Tryz.prog ED58 := ⟨E0ok.tt⟩
@[go_sem] theorem ED58tt (t : Nat) : ED58.tt t = E0.tt t := rfl
@[go_sem] theorem ED58dyn (id : Nat) : ED58.dyn id = lookD id [(1, [(0, 4), (2, 4), (0, 5), (2, 5)])] := rfl
@[go_sem] theorem ED58pf (f : Nat) : ED58.pf f = E0.pf f := rfl
theorem r3zero_spec : PDet Tryz.prog 57 [] (.agg (rC 0)) := by
  refine pdet_of E0ok mixed Tryz.func57 (by kernel_rfl) rfl (by kernel_rfl) (Nat.le_of_ble_eq_true rfl) fun N0 h hn hmen => ?_
  have e : rC 0 = [.bool false, .sl 1 (numL []), .sl 1 (numL [1])] := by
    have := rC_int 0
    simp [lim_zero, lim_one] at this
    exact this
  rw [e]
  simp -implicitDefEqProofs (maxSteps := 2000000) (disch := omega) only [go_sem, simprocAttr, -List.reduceReplicate, condB_t, condB_f]
  refine .val (.agg3 (.same rfl) (Thaw.plain (id := N0 + 8) (rows := numL []) (by simp [locH, upd]; rfl) rfl (by simp) rfl (numL_plain [])) (Thaw.plain (id := N0 + 24) (rows := numL [1]) ?_ rfl (by simp) rfl (numL_plain [1])))
  simp [locH, upd]
  rfl
theorem r3make_zero (s t : Bool) (m n : List Nat) (hm : Lb m) (hn' : Lb n) (sm : m.length ≤ 549755813888) (sn : n.length ≤ 549755813888) (h0 : val n = 0) : PDet Tryz.prog 51 [.agg [.bool s, nl m], .agg [.bool t, nl n]] (.agg (rC (quot (ival s (val m)) (ival t (val n))))) := by
  refine pdet_of E0ok mixed Tryz.func51 (by kernel_rfl) rfl (by kernel_rfl) (Nat.le_of_ble_eq_true rfl) fun N0 h hn hmen => ?_
  have c1 := r2sign_spec t n hn' (by omega)
  have c2 := r3zero_spec
  have e : quot (ival s (val m)) (ival t (val n)) = 0 := by
    unfold quot
    rw [natAbs_ival, h0, Rat.mkRat_zero]
  rw [sign_ival, if_pos h0] at c1
  rw [e]
  unfold rC Raw.cells nl at *
  simp -implicitDefEqProofs (maxSteps := 2000000) (disch := decide) only [go_sem, simprocAttr, -List.reduceReplicate, condB_t, condB_f]
  refine callK_pure c1 ?_
  simp -implicitDefEqProofs (maxSteps := 2000000) (disch := decide) only [go_sem, simprocAttr, -List.reduceReplicate, condB_t, condB_f]
  refine callK_pure c2 ?_
  simp -implicitDefEqProofs (maxSteps := 2000000) (disch := decide) only [go_sem, simprocAttr, -List.reduceReplicate, condB_t, condB_f]
  exact dn
theorem quot_ival {s t : Bool} {m n : Nat} (h : n ≠ 0) : rC (quot (ival s m) (ival t n)) = [.bool ((!(s == t)) && decide (0 < m)), nl (lim (m / Nat.gcd m n)), nl (lim (n / Nat.gcd m n))] := by
  have e : quot (ival s m) (ival t n) = mkRat (ival (!(s == t)) m) n := by
    unfold quot
    rw [natAbs_ival, sign_ival, if_neg h]
    cases s <;> cases t <;> simp [ival]
  rw [e, rC_mk h]
theorem r3make_spec (s t : Bool) (m n : List Nat) (hm : Lb m) (hn' : Lb n) (sm : m.length ≤ 549755813888) (sn : n.length ≤ 549755813888) : PDet Tryz.prog 51 [.agg [.bool s, nl m], .agg [.bool t, nl n]] (.agg (rC (quot (ival s (val m)) (ival t (val n))))) := by
  by_cases h0 : val n = 0
  · exact r3make_zero s t m n hm hn' sm sn h0
  refine pdet_of E0ok mixed Tryz.func51 (by kernel_rfl) rfl (by kernel_rfl) (Nat.le_of_ble_eq_true rfl) fun N0 h hn hmen => ?_
  have c1 := r2sign_spec t n hn' (by omega)
  rw [sign_ival, if_neg h0] at c1
  have c2 := r2norm_spec t n hn' (by omega)
  rw [iC_ival, decide_eq_true (Nat.pos_of_ne_zero h0), Bool.and_true] at c2
  have c3 := r2norm_spec s m hm (by omega)
  have l1 := lim_len_val hn'
  have c4 := r1equal_spec (lim (val n)) [1] (by omega) (by simp)
  have c5 := r2gcd_spec s t m n hm hn' sm sn
  have g0 : Nat.gcd (val m) (val n) ≠ 0 := fun e => h0 (Nat.gcd_eq_zero_iff.1 e).2
  have lg : (lim (Nat.gcd (val m) (val n))).length ≤ 549755813888 := by
    have := lim_len_mono (Nat.gcd_le_right (val m) (Nat.pos_of_ne_zero h0)); omega
  rw [← ival_f, iC_ival, decide_eq_true (Nat.pos_of_ne_zero g0), Bool.and_true] at c5
  have c6 := r2divMod_exact s m (lim (Nat.gcd (val m) (val n))) hm (lb_lim _) sm lg (by rw [val_lim]; exact g0) (by rw [val_lim]; exact Nat.gcd_dvd_left _ _)
  have c7 := r2divMod_exact t n (lim (Nat.gcd (val m) (val n))) hn' (lb_lim _) sn lg (by rw [val_lim]; exact g0) (by rw [val_lim]; exact Nat.gcd_dvd_right _ _)
  have l2 := lim_len_mono (Nat.div_le_self (val m) (Nat.gcd (val m) (val n)))
  have l3 := lim_len_mono (Nat.div_le_self (val n) (Nat.gcd (val m) (val n)))
  have l4 := lim_len_val hm
  rw [val_lim] at c6 c7
  have hdp : 0 < val n / Nat.gcd (val m) (val n) := Nat.div_pos (Nat.gcd_le_right _ (Nat.pos_of_ne_zero h0)) (Nat.pos_of_ne_zero g0)
  have hmp : (0 < val m / Nat.gcd (val m) (val n)) ↔ 0 < val m := by
    rw [Nat.div_pos_iff]
    exact ⟨fun h => Nat.lt_of_lt_of_le h.1 h.2, fun h => ⟨Nat.pos_of_ne_zero g0, Nat.gcd_le_left _ h⟩⟩
  rw [iC_ival] at c3 c6 c7
  rw [decide_eq_true hdp, Bool.and_true] at c7
  have c8 := r2neg_spec (s && decide (0 < val m / Nat.gcd (val m) (val n))) (lim (val m / Nat.gcd (val m) (val n))) (lb_lim _) (by omega)
  have c9 := r2neg_spec true (lim (val n / Nat.gcd (val m) (val n))) (lb_lim _) (by omega)
  rw [← ival_not, iC_ival] at c8 c9
  rw [val_lim] at c8 c9
  rw [quot_ival h0]
  clear l1 lg l2 l3 l4
  by_cases ht : t = true
  · subst ht
    simp only [hmp] at c6 c8
    have e1 : (!(s && decide (0 < val m)) && decide (0 < val m)) = (!(s == true) && decide (0 < val m)) := by cases s <;> by_cases h : 0 < val m <;> simp [h]
    rw [e1] at c8
    unfold iC nl at *
    simp -implicitDefEqProofs (maxSteps := 2000000) (disch := decide) only [go_sem, simprocAttr, -List.reduceReplicate, condB_t, condB_f]
    refine callK_pure c1 ?_
    simp -implicitDefEqProofs (maxSteps := 2000000) (disch := decide) only [go_sem, simprocAttr, -List.reduceReplicate, condB_t, condB_f]
    refine callK_pure c2 ?_
    simp -implicitDefEqProofs (maxSteps := 2000000) (disch := decide) only [go_sem, simprocAttr, -List.reduceReplicate, condB_t, condB_f]
    refine callK_pure c5 ?_
    simp -implicitDefEqProofs (maxSteps := 2000000) (disch := decide) only [go_sem, simprocAttr, -List.reduceReplicate, condB_t, condB_f]
    refine callK_pure c6 ?_
    simp -implicitDefEqProofs (maxSteps := 2000000) (disch := decide) only [go_sem, simprocAttr, -List.reduceReplicate, condB_t, condB_f]
    refine callK_pure c7 ?_
    simp -implicitDefEqProofs (maxSteps := 2000000) (disch := decide) only [go_sem, simprocAttr, -List.reduceReplicate, condB_t, condB_f]
    refine pcallK_pure c8 ?_
    simp -implicitDefEqProofs (maxSteps := 2000000) (disch := decide) only [go_sem, simprocAttr, -List.reduceReplicate, condB_t, condB_f]
    refine pcallK_pure c9 ?_
    simp -implicitDefEqProofs (maxSteps := 2000000) (disch := decide) only [go_sem, simprocAttr, -List.reduceReplicate, condB_t, condB_f]
    exact dn
  · obtain rfl : t = false := by simpa using ht
    have e1 : (!(s == false)) = s := by cases s <;> rfl
    rw [e1]
    simp only [hmp] at c6
    have fin : ∀ (r : AV), True := fun _ => trivial
    by_cases h1 : val n = 1
    · have e2 : lim (val n) = [1] := by rw [h1, lim_one]
      rw [decide_eq_true e2] at c4
      simp only [h1, Nat.gcd_one_right, Nat.div_one]
      unfold iC nl at *
      simp -implicitDefEqProofs (maxSteps := 2000000) (disch := decide) only [go_sem, simprocAttr, -List.reduceReplicate, condB_t, condB_f]
      refine callK_pure c1 ?_
      simp -implicitDefEqProofs (maxSteps := 2000000) (disch := decide) only [go_sem, simprocAttr, -List.reduceReplicate, condB_t, condB_f]
      refine callK_pure c2 ?_
      simp -implicitDefEqProofs (maxSteps := 2000000) (disch := decide) only [go_sem, simprocAttr, -List.reduceReplicate, condB_t, condB_f]
      refine callK_row2 c4 (by simp only [upd_same] <;> rfl) rfl (by simp) rfl (numL_plain [1]) ?_
      simp -implicitDefEqProofs (maxSteps := 2000000) (disch := decide) only [go_sem, simprocAttr, -List.reduceReplicate, condB_t, condB_f]
      refine pcallK_pure c3 ?_
      simp -implicitDefEqProofs (maxSteps := 2000000) (disch := decide) only [go_sem, simprocAttr, -List.reduceReplicate, condB_t, condB_f]
      have e3 : lim (val n) = lim 1 := by rw [h1]
      rw [e3]
      exact dn
    · have e2 : lim (val n) ≠ [1] := fun e => h1 (by rw [← val_lim (val n), e]; rfl)
      rw [decide_eq_false e2] at c4
      unfold iC nl at *
      simp -implicitDefEqProofs (maxSteps := 2000000) (disch := decide) only [go_sem, simprocAttr, -List.reduceReplicate, condB_t, condB_f]
      refine callK_pure c1 ?_
      simp -implicitDefEqProofs (maxSteps := 2000000) (disch := decide) only [go_sem, simprocAttr, -List.reduceReplicate, condB_t, condB_f]
      refine callK_pure c2 ?_
      simp -implicitDefEqProofs (maxSteps := 2000000) (disch := decide) only [go_sem, simprocAttr, -List.reduceReplicate, condB_t, condB_f]
      refine callK_row2 c4 (by simp only [upd_same] <;> rfl) rfl (by simp) rfl (numL_plain [1]) ?_
      simp -implicitDefEqProofs (maxSteps := 2000000) (disch := decide) only [go_sem, simprocAttr, -List.reduceReplicate, condB_t, condB_f]
      refine callK_pure c5 ?_
      simp -implicitDefEqProofs (maxSteps := 2000000) (disch := decide) only [go_sem, simprocAttr, -List.reduceReplicate, condB_t, condB_f]
      refine callK_pure c6 ?_
      simp -implicitDefEqProofs (maxSteps := 2000000) (disch := decide) only [go_sem, simprocAttr, -List.reduceReplicate, condB_t, condB_f]
      refine callK_pure c7 ?_
      simp -implicitDefEqProofs (maxSteps := 2000000) (disch := decide) only [go_sem, simprocAttr, -List.reduceReplicate, condB_t, condB_f]
      exact dn
theorem r3norm_spec (x : Raw) (k : Nat) (hx : x.Ok k) (hk : k ≤ 549755813888) : PDet Tryz.prog 38 [.agg x.cells] (.agg (rC x.val)) := by
  refine pdet_of E0ok mixed Tryz.func38 (by kernel_rfl) rfl (by kernel_rfl) (Nat.le_of_ble_eq_true rfl) fun N0 h hn hmen => ?_
  obtain ⟨s, m, d⟩ := x
  obtain ⟨lm, ld, sm, sd⟩ := hx
  simp only at lm ld sm sd
  have c := r3make_spec s false m d lm ld (by omega) (by omega)
  rw [ival_f, quot_nat] at c
  unfold Raw.val Raw.num rC Raw.cells nl at *
  simp -implicitDefEqProofs (maxSteps := 2000000) (disch := decide) only [go_sem, simprocAttr, -List.reduceReplicate, condB_t, condB_f]
  refine callK_pure c ?_
  simp -implicitDefEqProofs (maxSteps := 2000000) (disch := decide) only [go_sem, simprocAttr, -List.reduceReplicate, condB_t, condB_f]
  exact dn
theorem r3equal_spec (x y : Raw) (j k : Nat) (hx : x.Ok j) (hy : y.Ok k) (hj : j ≤ 549755813888) (hk : k ≤ 549755813888) : PDet Tryz.prog 30 [.agg x.cells, .agg y.cells] (.bool (decide (x = y))) := by
  refine pdet_of E0ok mixed Tryz.func30 (by kernel_rfl) rfl (by kernel_rfl) (Nat.le_of_ble_eq_true rfl) fun N0 h hn hmen => ?_
  obtain ⟨s, m, d⟩ := x
  obtain ⟨t, n, e⟩ := y
  have c1 := r2equal_spec s t m n (Nat.le_trans hx.sm (by omega)) (Nat.le_trans hy.sm (by omega))
  have c2 := r1equal_spec d e (Nat.le_trans hx.sd (by omega)) (Nat.le_trans hy.sd (by omega))
  unfold Raw.cells nl at *
  by_cases h : s = t ∧ m = n
  · rw [decide_eq_true h] at c1
    obtain ⟨rfl, rfl⟩ := h
    have e2 : decide (Raw.mk s m d = Raw.mk s m e) = decide (d = e) := by simp
    rw [e2]
    simp -implicitDefEqProofs (maxSteps := 2000000) (disch := decide) only [go_sem, simprocAttr, -List.reduceReplicate, condB_t, condB_f]
    refine callK_pure c1 ?_
    simp -implicitDefEqProofs (maxSteps := 2000000) (disch := decide) only [go_sem, simprocAttr, -List.reduceReplicate, condB_t, condB_f]
    refine callK_pure c2 ?_
    simp -implicitDefEqProofs (maxSteps := 2000000) (disch := decide) only [go_sem, simprocAttr, -List.reduceReplicate, condB_t, condB_f]
    exact dn
  · rw [decide_eq_false h] at c1
    have e2 : decide (Raw.mk s m d = Raw.mk t n e) = false := decide_eq_false fun hh => h (by injection hh with h1 h2; exact ⟨h1, h2⟩)
    rw [e2]
    simp -implicitDefEqProofs (maxSteps := 2000000) (disch := decide) only [go_sem, simprocAttr, -List.reduceReplicate, condB_t, condB_f]
    refine callK_pure c1 ?_
    simp -implicitDefEqProofs (maxSteps := 2000000) (disch := decide) only [go_sem, simprocAttr, -List.reduceReplicate, condB_t, condB_f]
    exact dn
theorem r3equal_canon (p q : Rat) (j k : Nat) (hp : Sz p j) (hq : Sz q k) (hj : j ≤ 549755813888) (hk : k ≤ 549755813888) : PDet Tryz.prog 30 [.agg (rC p), .agg (rC q)] (.bool (decide (p = q))) := by
  have h := r3equal_spec (canon p) (canon q) j k (canon_ok hp) (canon_ok hq) hj hk
  have e : decide (canon p = canon q) = decide (p = q) := by
    by_cases e : p = q
    · rw [e]; simp
    · rw [decide_eq_false e, decide_eq_false (fun h => e (canon_inj h))]
  rw [e] at h
  exact h
theorem r3canonical_spec (x : Raw) (k : Nat) (hx : x.Ok k) (hk : k ≤ 549755813888) : PDet Tryz.prog 29 [.agg x.cells] (.bool (decide (x = canon x.val))) := by
  refine pdet_of E0ok mixed Tryz.func29 (by kernel_rfl) rfl (by kernel_rfl) (Nat.le_of_ble_eq_true rfl) fun N0 h hn hmen => ?_
  have c1 := r3norm_spec x k hx hk
  have hs : Sz x.val (max k 1) := (hx.mono (Nat.le_max_left k 1)).sz (Nat.le_max_right k 1)
  have c2 := r3equal_spec x (canon x.val) k (max k 1) hx (canon_ok hs) hk (by omega)
  unfold rC at c1
  unfold Raw.cells nl at *
  simp -implicitDefEqProofs (maxSteps := 2000000) (disch := decide) only [go_sem, simprocAttr, -List.reduceReplicate, condB_t, condB_f]
  refine pcallK_pure c1 ?_
  simp -implicitDefEqProofs (maxSteps := 2000000) (disch := decide) only [go_sem, simprocAttr, -List.reduceReplicate, condB_t, condB_f]
  refine pcallK_pure c2 ?_
  simp -implicitDefEqProofs (maxSteps := 2000000) (disch := decide) only [go_sem, simprocAttr, -List.reduceReplicate, condB_t, condB_f]
  exact dn
theorem r3canonical_canon (q : Rat) (k : Nat) (hq : Sz q k) (hk : k ≤ 549755813888) : PDet Tryz.prog 29 [.agg (rC q)] (.bool true) := by
  have h := r3canonical_spec (canon q) k (canon_ok hq) hk
  rw [canon_val, decide_eq_true rfl] at h
  exact h
theorem r3den_spec (x : Raw) (k : Nat) (hx : x.Ok k) (hk : k ≤ 549755813888) : PDet Tryz.prog 85 [.agg x.cells] (.agg [.bool false, nl (lim x.val.den)]) := by
  refine pdet_of E0ok mixed Tryz.func85 (by kernel_rfl) rfl (by kernel_rfl) (Nat.le_of_ble_eq_true rfl) fun N0 h hn hmen => ?_
  have c1 := r3norm_spec x k hx hk
  unfold rC Raw.cells canon nl at *
  simp -implicitDefEqProofs (maxSteps := 2000000) (disch := decide) only [go_sem, simprocAttr, -List.reduceReplicate, condB_t, condB_f]
  refine callK_pure c1 ?_
  simp -implicitDefEqProofs (maxSteps := 2000000) (disch := decide) only [go_sem, simprocAttr, -List.reduceReplicate, condB_t, condB_f]
  exact dn
theorem r3fromInt_spec (v : Int) (h1 : -9223372036854775808 ≤ v) (h2 : v ≤ 9223372036854775807) : PDet Tryz.prog 33 [.int .i64 v] (.agg (rC (v : Rat))) := by
  refine pdet_of E0ok mixed Tryz.func33 (by kernel_rfl) rfl (by kernel_rfl) (Nat.le_of_ble_eq_true rfl) fun N0 h hn hmen => ?_
  have c1 := r2fromInt_spec v h1 h2
  have c2 := r2fromInt_spec 1 (by decide) (by decide)
  obtain ⟨s, n, e1, e2, e3⟩ := ival_iC v
  obtain ⟨t, o, e4, e5, e6⟩ := ival_iC 1
  have ln : (lim n).length ≤ 2 := lim_len.2 (show n < 18446744073709551616 by omega)
  have lo : (lim o).length ≤ 2 := lim_len.2 (show o < 18446744073709551616 by omega)
  have c3 := r3make_spec s t (lim n) (lim o) (lb_lim _) (lb_lim _) (by omega) (by omega)
  rw [val_lim, val_lim, ← e1, ← e4] at c3
  have e7 : quot v 1 = (v : Rat) := by
    have := quot_nat v 1
    rw [Int.natCast_one] at this
    rw [this, Rat.mkRat_one]
  rw [e7] at c3
  rw [e2] at c1
  rw [e5] at c2
  unfold rC Raw.cells nl at *
  clear ln lo
  simp -implicitDefEqProofs (maxSteps := 2000000) (disch := decide) only [go_sem, simprocAttr, -List.reduceReplicate, condB_t, condB_f]
  refine callK_pure c1 ?_
  simp -implicitDefEqProofs (maxSteps := 2000000) (disch := decide) only [go_sem, simprocAttr, -List.reduceReplicate, condB_t, condB_f]
  refine callK_pure c2 ?_
  simp -implicitDefEqProofs (maxSteps := 2000000) (disch := decide) only [go_sem, simprocAttr, -List.reduceReplicate, condB_t, condB_f]
  refine callK_pure c3 ?_
  simp -implicitDefEqProofs (maxSteps := 2000000) (disch := decide) only [go_sem, simprocAttr, -List.reduceReplicate, condB_t, condB_f]
  exact dn
theorem r3sign_spec (x : Raw) (k : Nat) (hx : x.Ok k) (hk : k ≤ 549755813888) : PDet Tryz.prog 47 [.agg x.cells] (.int .i64 (sgnR x.val)) := by
  refine pdet_of E0ok mixed Tryz.func47 (by kernel_rfl) rfl (by kernel_rfl) (Nat.le_of_ble_eq_true rfl) fun N0 h hn hmen => ?_
  have c1 := r3norm_spec x k hx hk
  have hs := canon_ok ((hx.mono (Nat.le_max_left k 1)).sz (Nat.le_max_right k 1))
  have c2 := r2sign_spec (canon x.val).s (canon x.val).m hs.lm (Nat.le_trans hs.sm (by omega))
  rw [canon_num] at c2
  unfold sgnR rC Raw.cells nl at *
  simp -implicitDefEqProofs (maxSteps := 2000000) (disch := decide) only [go_sem, simprocAttr, -List.reduceReplicate, condB_t, condB_f]
  refine callK_pure c1 ?_
  simp -implicitDefEqProofs (maxSteps := 2000000) (disch := decide) only [go_sem, simprocAttr, -List.reduceReplicate, condB_t, condB_f]
  refine callK_pure c2 ?_
  simp -implicitDefEqProofs (maxSteps := 2000000) (disch := decide) only [go_sem, simprocAttr, -List.reduceReplicate, condB_t, condB_f]
  exact dn
theorem r3add_spec (x y : Raw) (j k : Nat) (hx : x.Ok j) (hy : y.Ok k) (hj : 1 ≤ j) (hk : 1 ≤ k) (hjk : j + k + 1 ≤ 549755813888) : PDet Tryz.prog 58 [.agg x.cells, .agg y.cells] (.agg (rC (x.val + y.val))) := by
  refine pdet_of ED58ok mixed Tryz.func58 (by kernel_rfl) rfl (by kernel_rfl) (Nat.le_of_ble_eq_true rfl) fun N0 h hn hmen => ?_
  have c1 := r3norm_spec x j hx (by omega)
  have c2 := r3norm_spec y k hy (by omega)
  have d1 := r3den_spec x j hx (by omega)
  have d2 := r3den_spec y k hy (by omega)
  have sx := hx.sz hj
  have sy := hy.sz hk
  have ox := canon_ok sx
  have oy := canon_ok sy
  unfold rC at c1 c2
  have f1 := sx.1.mul sy.2
  have f2 := (sy.1.mul sx.2).mono (show k + j ≤ j + k by omega)
  have f3 := sx.2.mul sy.2
  have m1 := r2mul_spec (canon x.val).s false (canon x.val).m (lim y.val.den) ox.lm (lb_lim _) (Nat.le_trans ox.sm (by omega)) (Nat.le_trans sy.2.len (by omega))
  have m2 := r2mul_spec (canon y.val).s false (canon y.val).m (lim x.val.den) oy.lm (lb_lim _) (Nat.le_trans oy.sm (by omega)) (Nat.le_trans sx.2.len (by omega))
  have m3 := r2mul_spec false false (lim x.val.den) (lim y.val.den) (lb_lim _) (lb_lim _) (Nat.le_trans sx.2.len (by omega)) (Nat.le_trans sy.2.len (by omega))
  rw [canon_num, val_lim, ival_f] at m1 m2
  rw [val_lim, val_lim, ival_f, ival_f] at m3
  obtain ⟨s1, n1, e1, e2, e3⟩ := ival_iC (x.val.num * (y.val.den : Int))
  obtain ⟨s2, n2, e4, e5, e6⟩ := ival_iC (y.val.num * (x.val.den : Int))
  obtain ⟨s3, n3, e7, e8, e9⟩ := ival_iC ((x.val.den : Int) * (y.val.den : Int))
  rw [Int.natAbs_mul, Int.natAbs_natCast] at e3 e6 e9
  rw [e3] at f1
  rw [e6] at f2
  rw [Int.natAbs_natCast] at e9
  rw [e9] at f3
  have l1 := f1.len
  have l2 := f2.len
  have l3 := f3.len
  have a1 := r2add_spec s1 s2 (lim n1) (lim n2) (lb_lim _) (lb_lim _) (by omega) (by omega)
  rw [val_lim, val_lim, ← e1, ← e4] at a1
  obtain ⟨s4, n4, e10, e11, e12⟩ := ival_iC (x.val.num * (y.val.den : Int) + y.val.num * (x.val.den : Int))
  have f4 : Fit n4 (j + k + 1) := by
    rw [← e12]
    refine Fit.le ?_ (Int.natAbs_add_le _ _)
    rw [Int.natAbs_mul, Int.natAbs_natCast, Int.natAbs_mul, Int.natAbs_natCast, e3, e6]
    exact f1.add f2
  have l4 := f4.len
  have k1 := r3make_spec s4 s3 (lim n4) (lim n3) (lb_lim _) (lb_lim _) (by omega) (by omega)
  rw [val_lim, val_lim, ← e10, ← e7, quot_add] at k1
  rw [e2] at m1
  rw [e5] at m2
  rw [e8] at m3
  rw [e11] at a1
  clear l1 l2 l3 l4 f1 f2 f3 f4 e1 e2 e3 e4 e5 e6 e7 e8 e9 e10 e11 e12
  unfold rC at k1 ⊢
  unfold Raw.cells nl at *
  simp -implicitDefEqProofs (maxSteps := 2000000) (disch := decide) only [go_sem, simprocAttr, -List.reduceReplicate, condB_t, condB_f]
  refine pcallK_pure c1 ?_
  simp -implicitDefEqProofs (maxSteps := 2000000) (disch := decide) only [go_sem, simprocAttr, -List.reduceReplicate, condB_t, condB_f]
  refine pcallK_pure c2 ?_
  simp -implicitDefEqProofs (maxSteps := 2000000) (disch := decide) only [go_sem, simprocAttr, -List.reduceReplicate, condB_t, condB_f]
  refine pcallK_pure d2 ?_
  simp -implicitDefEqProofs (maxSteps := 2000000) (disch := decide) only [go_sem, simprocAttr, -List.reduceReplicate, condB_t, condB_f]
  refine pcallK_pure m1 ?_
  simp -implicitDefEqProofs (maxSteps := 2000000) (disch := decide) only [go_sem, simprocAttr, -List.reduceReplicate, condB_t, condB_f]
  refine pcallK_pure d1 ?_
  simp -implicitDefEqProofs (maxSteps := 2000000) (disch := decide) only [go_sem, simprocAttr, -List.reduceReplicate, condB_t, condB_f]
  refine pcallK_pure m2 ?_
  simp -implicitDefEqProofs (maxSteps := 2000000) (disch := decide) only [go_sem, simprocAttr, -List.reduceReplicate, condB_t, condB_f]
  refine pcallK_pure a1 ?_
  simp -implicitDefEqProofs (maxSteps := 2000000) (disch := decide) only [go_sem, simprocAttr, -List.reduceReplicate, condB_t, condB_f]
  refine pcallK_pure d1 ?_
  simp -implicitDefEqProofs (maxSteps := 2000000) (disch := decide) only [go_sem, simprocAttr, -List.reduceReplicate, condB_t, condB_f]
  refine pcallK_pure d2 ?_
  simp -implicitDefEqProofs (maxSteps := 2000000) (disch := decide) only [go_sem, simprocAttr, -List.reduceReplicate, condB_t, condB_f]
  refine pcallK_pure m3 ?_
  simp -implicitDefEqProofs (maxSteps := 2000000) (disch := decide) only [go_sem, simprocAttr, -List.reduceReplicate, condB_t, condB_f]
  refine pcallK_pure k1 ?_
  simp -implicitDefEqProofs (maxSteps := 2000000) (disch := decide) only [go_sem, simprocAttr, -List.reduceReplicate, condB_t, condB_f]
  exact dn
end Go.Abs
/-! YtzVec1: Sparse vectors of the program: order, canonical values. No condition. -/
set_option linter.unusedVariables false
set_option linter.unusedSimpArgs false
set_option maxRecDepth 100000
set_option maxHeartbeats 1000000
namespace Go.Abs
open Go.Proofs
@[go_sem] theorem R61 : Tryz.f61.results.toList = [.tmp 2] := rfl
@[go_sem] theorem R44 : Tryz.f44.results.toList = [.tmp 4] := rfl
@[go_sem] theorem R43 : Tryz.f43.results.toList = [.tmp 4] := rfl
@[go_sem] theorem R40 : Tryz.f40.results.toList = [.tmp 2] := rfl
@[go_sem] theorem R39 : Tryz.f39.results.toList = [.tmp 2] := rfl
theorem cmpInt_spec (a b : Int) : PDet Tryz.prog 44 [.int .i64 a, .int .i64 b] (.int .i64 (cmpI a b)) := by
  have hn : ∀ x : Int, PDet Tryz.prog 61 [.int .i64 x] (.bool false) := fun x => by
    refine pdet_of E0ok mixed Tryz.func61 (by kernel_rfl) rfl (by kernel_rfl) (Nat.le_of_ble_eq_true rfl) fun N0 h hn hmen => ?_
    simp -implicitDefEqProofs (maxSteps := 2000000) (disch := omega) only [go_sem, simprocAttr, -List.reduceReplicate, condB_t, condB_f]
    exact dn
  refine pdet_of E0ok mixed Tryz.func44 (by kernel_rfl) rfl (by kernel_rfl) (Nat.le_of_ble_eq_true rfl) fun N0 h hn hmen => ?_
  unfold cmpI
  simp -implicitDefEqProofs (maxSteps := 2000000) (disch := omega) only [go_sem, simprocAttr, -List.reduceReplicate, condB_t, condB_f]
  refine callK_pure (‹∀ x : Int, PDet Tryz.prog 61 [.int .i64 x] (.bool false)› a) ?_
  simp -implicitDefEqProofs (maxSteps := 2000000) (disch := omega) only [go_sem, simprocAttr, -List.reduceReplicate, condB_t, condB_f]
  refine callK_pure (‹∀ x : Int, PDet Tryz.prog 61 [.int .i64 x] (.bool false)› b) ?_
  by_cases h1 : a < b
  · rw [if_pos h1]
    simp -implicitDefEqProofs (maxSteps := 2000000) (disch := omega) only [go_sem, simprocAttr, -List.reduceReplicate, condB_t, condB_f]
    exact dn
  · rw [if_neg h1]
    by_cases h2 : a = b
    · rw [if_pos h2]
      simp -implicitDefEqProofs (maxSteps := 2000000) (disch := omega) only [go_sem, simprocAttr, -List.reduceReplicate, condB_t, condB_f]
      exact dn
    · rw [if_neg h2]
      simp -implicitDefEqProofs (maxSteps := 2000000) (disch := omega) only [go_sem, simprocAttr, -List.reduceReplicate, condB_t, condB_f]
      exact dn
theorem sortedLt_spec (e f : Ent) : PDet Tryz.prog 43 [.agg (entC e), .agg (entC f)] (.int .i64 (cmpI e.1 f.1)) := by
  refine pdet_of E0ok mixed Tryz.func43 (by kernel_rfl) rfl (by kernel_rfl) (Nat.le_of_ble_eq_true rfl) fun N0 h hn hmen => ?_
  have c := cmpInt_spec e.1 f.1
  unfold entC at *
  simp -implicitDefEqProofs (maxSteps := 2000000) (disch := decide) only [go_sem, simprocAttr, -List.reduceReplicate, condB_t, condB_f]
  refine callK_pure c ?_
  simp -implicitDefEqProofs (maxSteps := 2000000) (disch := decide) only [go_sem, simprocAttr, -List.reduceReplicate, condB_t, condB_f]
  exact dn
theorem ascending_spec (l : List Ent) (k : Nat) (hk : OkL l k) (hkb : k ≤ 1099511627776) (hl : l.length ≤ 1099511627776) : PDet Tryz.prog 40 [EL l] (.bool (decide (Can (eV l)))) := by
  refine pdet_of E0ok mixed Tryz.func40 (by kernel_rfl) rfl (by kernel_rfl) (Nat.le_of_ble_eq_true rfl) fun N0 h hn hmen => ?_
  unfold EL
  simp -implicitDefEqProofs (maxSteps := 2000000) (disch := omega) only [go_sem, simprocAttr, -List.reduceReplicate, condB_t, condB_f]
  refine aw_loop (X := Nat) (fun i => ⟨mkS [(0, .sl 4 (l.map entC)), (5, .sl 4 (l.map entC)), (6, .int .i64 l.length), (7, .int .i64 i)], h, N0⟩) (fun i => i ≤ l.length ∧ Can (eV (l.take i))) (fun i => l.length - i) ⟨0, ⟨Nat.zero_le _, by simp [eV]; exact ⟨.nil, nofun⟩⟩, ?_⟩ ?_
  · (refine Weak.slots (allP ?_) (fun k0 b0 hb0 => by first | exact hb0 | (have hk1 := (hmen k0 b0 hb0).1; simp only [upd, mkH]; (repeat rw [if_neg (by omega)]); exact hb0)) (by omega) hmen; simp -implicitDefEqProofs (maxSteps := 2000000) (disch := omega) only [go_sem, simprocAttr, -List.reduceReplicate, condB_t, condB_f, AllP, AVle_same, AVle_int, AVle_nil, AVle_row, topU_int, topU_bool, topU_sl, topU_row, topU_ptr, topU_iptr, topU_fn, val, List.drop_length])
  · rintro i ⟨hi, hc⟩
    by_cases h0 : i < l.length
    · have hx := hk.get h0
      have cs := rsign_spec _ k hx hkb
      unfold Raw.cells nl at cs
      have step := can_take_succ h0 hc
      by_cases h1 : 0 < i → (l.getD (i - 1) default).1 < (l.getD i default).1
      · by_cases h2 : sgnR (l.getD i default).2.val = 0
        · have hno : ¬ Can (eV l) := fun h => (step.1 (can_take h (i + 1))).2 (sgnR_zero.1 h2)
          rw [decide_eq_false hno]
          rw [h2] at cs
          by_cases h3 : 0 < i
          · have h4 := h1 h3
            simp -implicitDefEqProofs (maxSteps := 2000000) (disch := omega) only [go_sem, simprocAttr, -List.reduceReplicate, condB_t, condB_f]
            refine pcallK_pure cs ?_
            simp -implicitDefEqProofs (maxSteps := 2000000) (disch := omega) only [go_sem, simprocAttr, -List.reduceReplicate, condB_t, condB_f]
            exact dn
          · simp -implicitDefEqProofs (maxSteps := 2000000) (disch := omega) only [go_sem, simprocAttr, -List.reduceReplicate, condB_t, condB_f]
            refine pcallK_pure cs ?_
            simp -implicitDefEqProofs (maxSteps := 2000000) (disch := omega) only [go_sem, simprocAttr, -List.reduceReplicate, condB_t, condB_f]
            exact dn
        · have hyes := step.2 ⟨h1, fun e => h2 (sgnR_zero.2 e)⟩
          by_cases h3 : 0 < i
          · have h4 := h1 h3
            simp -implicitDefEqProofs (maxSteps := 2000000) (disch := omega) only [go_sem, simprocAttr, -List.reduceReplicate, condB_t, condB_f]
            refine pcallK_pure cs ?_
            simp -implicitDefEqProofs (maxSteps := 2000000) (disch := omega) only [go_sem, simprocAttr, -List.reduceReplicate, condB_t, condB_f]
            exact ⟨i + 1, ⟨h0, hyes⟩, by omega, by (refine Weak.slots (allP ?_) (fun k0 b0 hb0 => by first | exact hb0 | (have hk1 := (hmen k0 b0 hb0).1; simp only [upd, mkH]; (repeat rw [if_neg (by omega)]); exact hb0)) (by omega) hmen; simp -implicitDefEqProofs (maxSteps := 2000000) (disch := omega) only [go_sem, simprocAttr, -List.reduceReplicate, condB_t, condB_f, AllP, AVle_same, AVle_int, AVle_nil, AVle_row, topU_int, topU_bool, topU_sl, topU_row, topU_ptr, topU_iptr, topU_fn, val, List.drop_length])⟩
          · simp -implicitDefEqProofs (maxSteps := 2000000) (disch := omega) only [go_sem, simprocAttr, -List.reduceReplicate, condB_t, condB_f]
            refine pcallK_pure cs ?_
            simp -implicitDefEqProofs (maxSteps := 2000000) (disch := omega) only [go_sem, simprocAttr, -List.reduceReplicate, condB_t, condB_f]
            exact ⟨i + 1, ⟨h0, hyes⟩, by omega, by (refine Weak.slots (allP ?_) (fun k0 b0 hb0 => by first | exact hb0 | (have hk1 := (hmen k0 b0 hb0).1; simp only [upd, mkH]; (repeat rw [if_neg (by omega)]); exact hb0)) (by omega) hmen; simp -implicitDefEqProofs (maxSteps := 2000000) (disch := omega) only [go_sem, simprocAttr, -List.reduceReplicate, condB_t, condB_f, AllP, AVle_same, AVle_int, AVle_nil, AVle_row, topU_int, topU_bool, topU_sl, topU_row, topU_ptr, topU_iptr, topU_fn, val, List.drop_length])⟩
      · have hno : ¬ Can (eV l) := fun h => h1 (step.1 (can_take h (i + 1))).1
        rw [decide_eq_false hno]
        have h3 : 0 < i := by
          rcases Nat.eq_zero_or_pos i with e | e
          · exact absurd (fun h => by omega) h1
          · exact e
        have h4 : ¬ (l.getD (i - 1) default).1 < (l.getD i default).1 := fun h => h1 fun _ => h
        simp -implicitDefEqProofs (maxSteps := 2000000) (disch := omega) only [go_sem, simprocAttr, -List.reduceReplicate, condB_t, condB_f]
        exact dn
    · obtain rfl : i = l.length := by omega
      rw [List.take_of_length_le (Nat.le_refl _)] at hc
      rw [decide_eq_true hc]
      simp -implicitDefEqProofs (maxSteps := 2000000) (disch := omega) only [go_sem, simprocAttr, -List.reduceReplicate, condB_t, condB_f]
      exact dn
theorem own_new (l : List Ent) (k : Nat) (hk : OkL l k) (hkb : k ≤ 1099511627776) (hl : l.length ≤ 1099511627776) (h : Heap) (m : Nat) :
    ADet Tryz.prog 39 [EL l] h m (.row m l.length 0 l.length) (upd h m (some ⟨4, (cE (eV l)).map entC⟩)) := by
  refine anew_of E0ok mixed Tryz.func39 (by kernel_rfl) rfl (by kernel_rfl) (Nat.le_of_ble_eq_true rfl) (fun _ h => h) (fun r hr => (mapP _ r hr).2) fun N0 hn hmen _ => ⟨hmen, ?_⟩
  unfold EL
  simp -implicitDefEqProofs (maxSteps := 2000000) (disch := omega) only [go_sem, simprocAttr, -List.reduceReplicate, condB_t, condB_f]
  refine aw_weak (Weak.nilRow (t := 3) (sz := 4) (id := N0 + 48) (by omega) (by omega) (by simp -implicitDefEqProofs (maxSteps := 2000000) (disch := omega) only [go_sem, simprocAttr, -List.reduceReplicate, condB_t, condB_f])) ?_
  obtain ⟨id, hid⟩ : ∃ id, id = N0 + 48 := ⟨_, rfl⟩
  rw [← hid]
  refine aw_loop (X := Nat) (fun i => ⟨mkS [(3, .row id i 0 i), (6, .sl 4 (l.map entC)), (7, .int .i64 l.length), (8, .int .i64 i)], mkH h [(id, ⟨4, (cE (eV (l.take i))).map entC⟩)], id + 8⟩) (fun i => i ≤ l.length) (fun i => l.length - i) ⟨0, Nat.zero_le _, ?_⟩ ?_
  · (refine Weak.head1w (by simp -implicitDefEqProofs (maxSteps := 2000000) (disch := omega) only [go_sem, simprocAttr, -List.reduceReplicate, condB_t, condB_f] <;> (try rfl)) (by omega) (mapU _ _ _) (fun k0 b0 hk0 hb0 => by have hk1 : (k0 = _) = False := eq_false hk0; have hk2 := (hmen k0 b0 hb0).1; (simp -implicitDefEqProofs (maxSteps := 2000000) (disch := omega) only [go_sem, simprocAttr, -List.reduceReplicate, condB_t, condB_f, upd, mkH, hk1]) <;> (try (repeat rw [if_neg (by omega)])) <;> exact hb0) (by omega) hmen ?_; simp -implicitDefEqProofs (maxSteps := 2000000) (disch := omega) only [go_sem, simprocAttr, -List.reduceReplicate, condB_t, condB_f, AllP, AVle_same, AVle_int, AVle_nil, AVle_row, topU_int, topU_bool, topU_sl, topU_row, topU_ptr, topU_iptr, topU_fn, val, List.drop_length])
  · intro i hi
    by_cases h0 : i < l.length
    · have hx := hk.get h0
      have cs := rnorm_spec _ k hx hkb
      have e := cE_take_succ h0
      have hel : (cE (eV (l.take i))).length = i := by rw [cE_len, eV_len, List.length_take]; omega
      unfold rC Raw.cells nl at cs
      simp -implicitDefEqProofs (maxSteps := 2000000) (disch := omega) only [go_sem, simprocAttr, -List.reduceReplicate, condB_t, condB_f]
      refine pcallK_pure cs ?_
      simp -implicitDefEqProofs (maxSteps := 2000000) (disch := omega) only [go_sem, simprocAttr, -List.reduceReplicate, condB_t, condB_f, hel]
      exact ⟨i + 1, h0, by omega, by (refine Weak.head1w (by simp -implicitDefEqProofs (maxSteps := 2000000) (disch := omega) only [go_sem, simprocAttr, -List.reduceReplicate, condB_t, condB_f, e] <;> (try rfl)) (by omega) (mapU _ _ _) (fun k0 b0 hk0 hb0 => by have hk1 : (k0 = _) = False := eq_false hk0; have hk2 := (hmen k0 b0 hb0).1; (simp -implicitDefEqProofs (maxSteps := 2000000) (disch := omega) only [go_sem, simprocAttr, -List.reduceReplicate, condB_t, condB_f, upd, mkH, hk1]) <;> (try (repeat rw [if_neg (by omega)])) <;> exact hb0) (by omega) hmen ?_; simp -implicitDefEqProofs (maxSteps := 2000000) (disch := omega) only [go_sem, simprocAttr, -List.reduceReplicate, condB_t, condB_f, AllP, AVle_same, AVle_int, AVle_nil, AVle_row, topU_int, topU_bool, topU_sl, topU_row, topU_ptr, topU_iptr, topU_fn, val, List.drop_length, e])⟩
    · obtain rfl : i = l.length := by omega
      simp -implicitDefEqProofs (maxSteps := 2000000) (disch := omega) only [go_sem, simprocAttr, -List.reduceReplicate, condB_t, condB_f]
      exact ⟨id, by omega, by simp -implicitDefEqProofs (maxSteps := 2000000) (disch := omega) only [go_sem, simprocAttr, -List.reduceReplicate, condB_t, condB_f]; rw [List.take_of_length_le (Nat.le_refl _)], .val (.row _ _ _)⟩
end Go.Abs
/-! YtzVec2: Sparse vectors: the stable sort of short lists. No condition. -/
set_option linter.unusedVariables false
set_option linter.unusedSimpArgs false
set_option maxRecDepth 100000
set_option maxHeartbeats 1000000
namespace Go.Abs
open Go.Proofs
@[go_sem] theorem R87 : Tryz.f87.results.toList = [] := rfl
@[go_sem] theorem valCall0 (P : Program) (g : FuncId) (args : List AV) (h : Heap) (m : Nat) (K : AV → Heap → Prop) : valCall P E0 g args h m K = pcallK P g args h K := valCall_t g args K rfl
@[go_sem] theorem map_entC_get2 (l : List Ent) (i j : Nat) (e : Ent) (h : i < l.length) : ((l.set j e).map entC).getD i [] = [.int .i64 ((l.set j e).getD i default).1, .bool ((l.set j e).getD i default).2.s, .sl 1 (numL ((l.set j e).getD i default).2.m), .sl 1 (numL ((l.set j e).getD i default).2.d)] := map_entC_get _ _ (by rw [List.length_set]; exact h)
@[go_sem] theorem ent_eta (e : Ent) : ((e.1, Raw.mk e.2.s e.2.m e.2.d) : Ent) = e := rfl
theorem insertion_spec (A M Z : List Ent) (N : Nat) (hN : (A ++ M ++ Z).length = N) (hs : N ≤ 1099511627776) (h : Heap) (id m : Nat) (hid : h id = some ⟨4, (A ++ M ++ Z).map entC⟩) :
    ADet Tryz.prog 87 [.row id N 0 N, .int .i64 A.length, .int .i64 (A.length + M.length : Nat), .fn 43] h m (.tup []) (upd h id (some ⟨4, (A ++ isort M ++ Z).map entC⟩)) := by
  refine adet_of E0ok mixed Tryz.func87 (by kernel_rfl) rfl (by kernel_rfl) (Nat.le_of_ble_eq_true rfl) (none_put hid) fun N0 hn hmen _ => ⟨hmen.put hid (mapU _ _ _), ?_⟩
  have hidlt : id < N0 := (hmen id _ hid).1
  simp only [List.length_append] at hN
  simp -implicitDefEqProofs (maxSteps := 2000000) (disch := omega) only [go_sem, simprocAttr, -List.reduceReplicate, condB_t, condB_f, hid]
  refine aw_loop (X := Nat) (fun i => ⟨mkS [(0, .row id N 0 N), (1, .int .i64 A.length), (2, .int .i64 (A.length + M.length : Nat)), (3, .fn 43), (8, .int .i64 (A.length + i : Nat))], mkH h [(id, ⟨4, (A ++ isort (M.take i) ++ (M.drop i ++ Z)).map entC⟩)], N0⟩)
    (fun i => 1 ≤ i ∧ (i ≤ M.length ∨ i = 1)) (fun i => M.length - i) ⟨1, ⟨Nat.le_refl _, .inr rfl⟩, ?_⟩ ?_
  · have e0 : A ++ isort (M.take 1) ++ (M.drop 1 ++ Z) = A ++ M ++ Z := by
      cases M with
      | nil => rfl
      | cons x M => simp [isort, insE]
    refine Weak.head1w (by rw [e0]; exact hid) (by omega) (mapU _ _ _) (fun k0 b0 _ hb0 => hb0) (by omega) hmen ?_
    simp -implicitDefEqProofs (maxSteps := 2000000) (disch := omega) only [go_sem, simprocAttr, -List.reduceReplicate, condB_t, condB_f, AllP, AVle_same, AVle_int, AVle_nil, AVle_row, topU_int, topU_bool, topU_sl, topU_row, topU_ptr, topU_iptr, topU_fn, val, List.drop_length]
  · rintro i ⟨h1, h2⟩
    by_cases h0 : i < M.length
    · have el : (isort (M.take i)).length = i := by rw [isort_len, List.length_take]; omega
      have es := isort_sort (M.take i)
      have e1 : A ++ isort (M.take i) ++ (M.drop i ++ Z) = mid A (isort (M.take i)) (M.getD i default) i (M.drop (i + 1) ++ Z) := by
        rw [List.drop_eq_getElem_cons h0, List.getD_eq_getElem?_getD, List.getElem?_eq_getElem h0]
        have := mid_end (A := A) (T := isort (M.take i)) (e := M[i]) (R := M.drop (i + 1) ++ Z)
        rw [el] at this
        exact this.symm
      have e2 : isort (M.take (i + 1)) = insE (M.getD i default) (isort (M.take i)) := by
        rw [← isort_snoc, List.take_add_one, List.getElem?_eq_getElem h0, List.getD_eq_getElem?_getD, List.getElem?_eq_getElem h0]; rfl
      rw [e1]
      generalize isort (M.take i) = T at *
      generalize M.getD i default = e at *
      simp -implicitDefEqProofs (maxSteps := 2000000) (disch := omega) only [go_sem, simprocAttr, -List.reduceReplicate, condB_t, condB_f]
      refine aw_loop (X := Nat) (fun j => ⟨mkS [(0, .row id N 0 N), (1, .int .i64 A.length), (2, .int .i64 (A.length + M.length : Nat)), (3, .fn 43), (8, .int .i64 (A.length + i : Nat)), (9, .int .i64 (A.length + j : Nat))], mkH h [(id, ⟨4, (mid A T e j (M.drop (i + 1) ++ Z)).map entC⟩)], N0⟩)
        (fun j => j ≤ i ∧ ∀ x ∈ T.drop j, e.1 < x.1) (fun j => j) ⟨i, ⟨Nat.le_refl _, by rw [← el, List.drop_length]; exact nofun⟩, ?_⟩ ?_
      · (refine Weak.head1w (by simp -implicitDefEqProofs (maxSteps := 2000000) (disch := omega) only [go_sem, simprocAttr, -List.reduceReplicate, condB_t, condB_f] <;> (try rfl)) (by omega) (mapU _ _ _) (fun k0 b0 hk0 hb0 => by have hk1 : (k0 = _) = False := eq_false hk0; have hk2 := (hmen k0 b0 hb0).1; (simp -implicitDefEqProofs (maxSteps := 2000000) (disch := omega) only [go_sem, simprocAttr, -List.reduceReplicate, condB_t, condB_f, upd, mkH, hk1]) <;> (try (repeat rw [if_neg (by omega)])) <;> exact hb0) (by omega) hmen ?_; simp -implicitDefEqProofs (maxSteps := 2000000) (disch := omega) only [go_sem, simprocAttr, -List.reduceReplicate, condB_t, condB_f, AllP, AVle_same, AVle_int, AVle_nil, AVle_row, topU_int, topU_bool, topU_sl, topU_row, topU_ptr, topU_iptr, topU_fn, val, List.drop_length])
      · rintro j ⟨hj, hd⟩
        have ml := mid_len A T e j (M.drop (i + 1) ++ Z)
        simp only [List.length_append, List.length_drop] at ml
        have hend : (0 < j → (T.getD (j - 1) default).1 ≤ e.1) → mid A T e j (M.drop (i + 1) ++ Z) = A ++ isort (M.take (i + 1)) ++ (M.drop (i + 1) ++ Z) := fun hh => by rw [e2, mid_ins es (by omega) hh hd]
        rcases Nat.eq_zero_or_pos j with hz | hz
        · subst hz
          have hend := hend (fun h => by omega)
          simp -implicitDefEqProofs (maxSteps := 2000000) (disch := omega) only [go_sem, simprocAttr, -List.reduceReplicate, condB_t, condB_f]
          exact ⟨i + 1, ⟨by omega, by omega⟩, by omega, by (refine Weak.head1w (by simp -implicitDefEqProofs (maxSteps := 2000000) (disch := omega) only [go_sem, simprocAttr, -List.reduceReplicate, condB_t, condB_f, hend] <;> (try rfl)) (by omega) (mapU _ _ _) (fun k0 b0 hk0 hb0 => by have hk1 : (k0 = _) = False := eq_false hk0; have hk2 := (hmen k0 b0 hb0).1; (simp -implicitDefEqProofs (maxSteps := 2000000) (disch := omega) only [go_sem, simprocAttr, -List.reduceReplicate, condB_t, condB_f, upd, mkH, hk1]) <;> (try (repeat rw [if_neg (by omega)])) <;> exact hb0) (by omega) hmen ?_; simp -implicitDefEqProofs (maxSteps := 2000000) (disch := omega) only [go_sem, simprocAttr, -List.reduceReplicate, condB_t, condB_f, AllP, AVle_same, AVle_int, AVle_nil, AVle_row, topU_int, topU_bool, topU_sl, topU_row, topU_ptr, topU_iptr, topU_fn, val, List.drop_length, hend])⟩
        · obtain ⟨q, rfl⟩ : ∃ q, j = q + 1 := ⟨j - 1, by omega⟩
          have g1 := mid_get (A := A) (T := T) (e := e) (j := q + 1) (R := M.drop (i + 1) ++ Z) (by omega)
          have g2 := mid_get1 (A := A) (T := T) (e := e) (j := q) (R := M.drop (i + 1) ++ Z) (by omega)
          have g3 := mid_swap (A := A) (T := T) (e := e) (j := q) (R := M.drop (i + 1) ++ Z) (by omega)
          have c := sortedLt_spec e (T.getD q default)
          have d0 : A.length + (q + 1) - 1 = A.length + q := by omega
          unfold entC at c
          simp -implicitDefEqProofs (maxSteps := 2000000) (disch := omega) only [go_sem, simprocAttr, -List.reduceReplicate, condB_t, condB_f, g1, d0, g2]
          refine pcallK_pure c ?_
          unfold cmpI
          by_cases hlt : e.1 < (T.getD q default).1
          · rw [if_pos hlt]
            simp -implicitDefEqProofs (maxSteps := 2000000) (disch := omega) only [go_sem, simprocAttr, -List.reduceReplicate, condB_t, condB_f, g1, d0, g2]
            exact ⟨q, ⟨by omega, fun x hx => by
              have hq : q < T.length := by omega
              rw [List.drop_eq_getElem_cons hq] at hx
              rcases List.mem_cons.1 hx with rfl | hx
              · rw [List.getD_eq_getElem?_getD, List.getElem?_eq_getElem hq] at hlt; exact hlt
              · exact hd x hx⟩, by omega, by (refine Weak.head1w (by simp -implicitDefEqProofs (maxSteps := 2000000) (disch := omega) only [go_sem, simprocAttr, -List.reduceReplicate, condB_t, condB_f, g1, d0, g2, g3] <;> (try rfl)) (by omega) (mapU _ _ _) (fun k0 b0 hk0 hb0 => by have hk1 : (k0 = _) = False := eq_false hk0; have hk2 := (hmen k0 b0 hb0).1; (simp -implicitDefEqProofs (maxSteps := 2000000) (disch := omega) only [go_sem, simprocAttr, -List.reduceReplicate, condB_t, condB_f, upd, mkH, hk1]) <;> (try (repeat rw [if_neg (by omega)])) <;> exact hb0) (by omega) hmen ?_; simp -implicitDefEqProofs (maxSteps := 2000000) (disch := omega) only [go_sem, simprocAttr, -List.reduceReplicate, condB_t, condB_f, AllP, AVle_same, AVle_int, AVle_nil, AVle_row, topU_int, topU_bool, topU_sl, topU_row, topU_ptr, topU_iptr, topU_fn, val, List.drop_length, g1, d0, g2, g3])⟩
          · rw [if_neg hlt]
            have hend := hend (fun _ => by rw [Nat.add_sub_cancel]; omega)
            by_cases heq : e.1 = (T.getD q default).1
            · rw [if_pos heq]
              simp -implicitDefEqProofs (maxSteps := 2000000) (disch := omega) only [go_sem, simprocAttr, -List.reduceReplicate, condB_t, condB_f]
              exact ⟨i + 1, ⟨by omega, by omega⟩, by omega, by (refine Weak.head1w (by simp -implicitDefEqProofs (maxSteps := 2000000) (disch := omega) only [go_sem, simprocAttr, -List.reduceReplicate, condB_t, condB_f, hend] <;> (try rfl)) (by omega) (mapU _ _ _) (fun k0 b0 hk0 hb0 => by have hk1 : (k0 = _) = False := eq_false hk0; have hk2 := (hmen k0 b0 hb0).1; (simp -implicitDefEqProofs (maxSteps := 2000000) (disch := omega) only [go_sem, simprocAttr, -List.reduceReplicate, condB_t, condB_f, upd, mkH, hk1]) <;> (try (repeat rw [if_neg (by omega)])) <;> exact hb0) (by omega) hmen ?_; simp -implicitDefEqProofs (maxSteps := 2000000) (disch := omega) only [go_sem, simprocAttr, -List.reduceReplicate, condB_t, condB_f, AllP, AVle_same, AVle_int, AVle_nil, AVle_row, topU_int, topU_bool, topU_sl, topU_row, topU_ptr, topU_iptr, topU_fn, val, List.drop_length, hend])⟩
            · rw [if_neg heq]
              simp -implicitDefEqProofs (maxSteps := 2000000) (disch := omega) only [go_sem, simprocAttr, -List.reduceReplicate, condB_t, condB_f]
              exact ⟨i + 1, ⟨by omega, by omega⟩, by omega, by (refine Weak.head1w (by simp -implicitDefEqProofs (maxSteps := 2000000) (disch := omega) only [go_sem, simprocAttr, -List.reduceReplicate, condB_t, condB_f, hend] <;> (try rfl)) (by omega) (mapU _ _ _) (fun k0 b0 hk0 hb0 => by have hk1 : (k0 = _) = False := eq_false hk0; have hk2 := (hmen k0 b0 hb0).1; (simp -implicitDefEqProofs (maxSteps := 2000000) (disch := omega) only [go_sem, simprocAttr, -List.reduceReplicate, condB_t, condB_f, upd, mkH, hk1]) <;> (try (repeat rw [if_neg (by omega)])) <;> exact hb0) (by omega) hmen ?_; simp -implicitDefEqProofs (maxSteps := 2000000) (disch := omega) only [go_sem, simprocAttr, -List.reduceReplicate, condB_t, condB_f, AllP, AVle_same, AVle_int, AVle_nil, AVle_row, topU_int, topU_bool, topU_sl, topU_row, topU_ptr, topU_iptr, topU_fn, val, List.drop_length, hend])⟩
    · have e1 : A ++ isort (M.take i) ++ (M.drop i ++ Z) = A ++ isort M ++ Z := by
        rw [List.take_of_length_le (by omega), List.drop_eq_nil_of_le (by omega)]; rfl
      rw [e1]
      simp -implicitDefEqProofs (maxSteps := 2000000) (disch := omega) only [go_sem, simprocAttr, -List.reduceReplicate, condB_t, condB_f]
      exact ⟨fun _ _ => rfl, .tup rfl nofun⟩
end Go.Abs
