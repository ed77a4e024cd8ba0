/- Contracts and rules that the claim's text uses: YtzDen2; YtzLaw10; YtzFin1. No condition. -/
import Derived.Test.YtbeajnfghfgmnaaGreatTD
import Derived.Test.YtbeajnfghfgmnaaGreatRows
/-! YtzDen2: The reference's dense lists; sameness of canonical lists. No condition. -/
set_option linter.unusedVariables false
set_option linter.unusedSimpArgs false
set_option maxRecDepth 100000
set_option maxHeartbeats 1000000
namespace Go.Abs
open Go.Proofs
@[go_sem] theorem R16 : Tryz.f16.results.toList = [.tmp 4, .tmp 5] := rfl
@[go_sem] theorem R19 : Tryz.f19.results.toList = [.tmp 2] := rfl
@[go_sem] theorem R17 : Tryz.f17.results.toList = [.tmp 4] := rfl
@[go_sem] theorem R20 : Tryz.f20.results.toList = [.tmp 2] := rfl
@[go_sem] theorem R14 : Tryz.f14.results.toList = [.tmp 4] := rfl
theorem rdense_spec (v : List Ent) (n : Int) (k : Nat) (hk : OkL v k) (hk1 : 1 ≤ k) (hkb : k ≤ 1100000) (hl : v.length ≤ 40) :
    PDet Tryz.prog 16 [EL v, .int .i64 n] (.tup [QL (denO n (vcan (eV v))), .bool (decide (DOk n (vcan (eV v))))]) := by
  refine pdet_of E0ok mixed Tryz.func16 (by kernel_rfl) rfl (by kernel_rfl) (Nat.le_of_ble_eq_true rfl) fun N0 h hn hmen => ?_
  have hm : v.length * (k + 1) ≤ 40 * (k + 1) := Nat.mul_le_mul_right _ hl
  have c1 := rvnorm_spec v k hk hk1 (by omega) (by omega)
  have hz := vcan_sz (eV_sz hk hk1) (n := 40) (by rw [eV_len]; exact hl)
  have hwl : (vcan (eV v)).length ≤ 40 := Nat.le_trans (vcan_len _) (by rw [eV_len]; exact hl)
  have hcan := vcan_can (eV v)
  have cg := fun j => get_spec v j k hk hk1 (by omega) (by omega)
  have hg := fun i => vcan_get (eV v) i
  generalize vcan (eV v) = w at *
  simp only [← hg] at cg
  have c3 := rvalid_spec w n _ hcan hz (by omega) (by omega)
  have no : ¬ DOk n w → denO n w = [] := fun h => by unfold denO; rw [if_neg h]
  have yes : DOk n w → denO n w = denL w n.toNat := fun h => by unfold denO; rw [if_pos h]
  clear hg
  unfold EL QL rC Raw.cells nl at *
  by_cases h1 : n < 0
  · have hno : ¬ DOk n w := fun h => by have := h.1; omega
    rw [decide_eq_false hno, no hno]
    simp -implicitDefEqProofs (maxSteps := 2000000) (disch := omega) only [go_sem, simprocAttr, -List.reduceReplicate, condB_t, condB_f]
    exact dn
  by_cases h2 : 16384 < n
  · have hno : ¬ DOk n w := fun h => by have := h.2.1; omega
    rw [decide_eq_false hno, no hno]
    simp -implicitDefEqProofs (maxSteps := 2000000) (disch := omega) only [go_sem, simprocAttr, -List.reduceReplicate, condB_t, condB_f]
    exact dn
  obtain ⟨m, rfl⟩ : ∃ m : Nat, n = m := ⟨n.toNat, by omega⟩
  rw [Int.toNat_natCast] at yes
  by_cases h3 : InR w m
  · have hyes : DOk m w := ⟨by omega, by omega, h3⟩
    rw [decide_eq_true hyes, yes hyes]
    rw [decide_eq_true h3] at c3
    simp -implicitDefEqProofs (maxSteps := 2000000) (disch := omega) only [go_sem, simprocAttr, -List.reduceReplicate, condB_t, condB_f]
    refine callK_pure c1 ?_
    simp -implicitDefEqProofs (maxSteps := 2000000) (disch := omega) only [go_sem, simprocAttr, -List.reduceReplicate, condB_t, condB_f]
    refine callK_pure c3 ?_
    simp -implicitDefEqProofs (maxSteps := 2000000) (disch := omega) only [go_sem, simprocAttr, -List.reduceReplicate, condB_t, condB_f]
    obtain ⟨id, hid⟩ : ∃ id, id = N0 + 128 := ⟨_, rfl⟩
    rw [← hid, ← dR_zero w]
    refine aw_loop (X := Nat) (fun i => ⟨mkS [(0, .sl 4 (v.map entC)), (1, .int .i64 m), (6, .row id m 0 m), (7, .int .i64 i)], mkH h [(id, ⟨3, dR w m i⟩)], id + 8⟩) (fun i => i ≤ m) (fun i => m - i) ⟨0, Nat.zero_le _, ?_⟩ ?_
    · refine Weak.head1w (by rw [upd_same]) (by omega) dR_leaf (fun k0 b0 hk0 hb0 => by simp only [upd, if_neg hk0]; exact hb0) (by omega) hmen ?_
      simp -implicitDefEqProofs (maxSteps := 2000000) (disch := omega) only [go_sem, simprocAttr, -List.reduceReplicate, condB_t, condB_f, AllP, AVle_same, AVle_int, AVle_nil, AVle_row, topU_int, topU_bool, topU_sl, topU_row, topU_ptr, topU_iptr, topU_fn, val, List.drop_length]
    · intro i hi
      have g1 := dR_len (w := w) hi
      by_cases h0 : i < m
      · have g2 := dR_get (w := w) h0
        have g3 := dR_set (w := w) h0
        simp -implicitDefEqProofs (maxSteps := 2000000) (disch := omega) only [go_sem, simprocAttr, -List.reduceReplicate, condB_t, condB_f, g1]
        refine callK_pure (cg i) ?_
        simp -implicitDefEqProofs (maxSteps := 2000000) (disch := omega) only [go_sem, simprocAttr, -List.reduceReplicate, condB_t, condB_f, g1, g2, g3]
        refine ⟨i + 1, h0, by omega, ?_⟩
        refine Weak.head1w (by simp -implicitDefEqProofs (maxSteps := 2000000) (disch := omega) only [go_sem, simprocAttr, -List.reduceReplicate, condB_t, condB_f, g1, g2, g3] <;> rfl) (by omega) dR_leaf (fun k0 b0 hk0 hb0 => by simp only [upd, mkH, if_neg hk0]; exact hb0) (by omega) hmen ?_
        simp -implicitDefEqProofs (maxSteps := 2000000) (disch := omega) only [go_sem, simprocAttr, -List.reduceReplicate, condB_t, condB_f, AllP, AVle_same, AVle_int, AVle_nil, AVle_row, topU_int, topU_bool, topU_sl, topU_row, topU_ptr, topU_iptr, topU_fn, val, List.drop_length]
      · obtain rfl : m = i := by omega
        rw [dR_all]
        have dl := denL_len w m
        simp -implicitDefEqProofs (maxSteps := 2000000) (disch := omega) only [go_sem, simprocAttr, -List.reduceReplicate, condB_t, condB_f]
        refine .tup2 (.leaf (Thaw.plain (rows := (denL w m).map ratC) (by simp [locH, upd, mkH]; omega) (by simp [dl]) (by omega) (List.take_of_length_le (by simp [dl])) (mapP _))) (.refl _ rfl)
  · have hno : ¬ DOk m w := fun h => h3 h.2.2
    rw [decide_eq_false hno, no hno]
    rw [decide_eq_false h3] at c3
    simp -implicitDefEqProofs (maxSteps := 2000000) (disch := omega) only [go_sem, simprocAttr, -List.reduceReplicate, condB_t, condB_f]
    refine callK_pure c1 ?_
    simp -implicitDefEqProofs (maxSteps := 2000000) (disch := omega) only [go_sem, simprocAttr, -List.reduceReplicate, condB_t, condB_f]
    refine callK_pure c3 ?_
    simp -implicitDefEqProofs (maxSteps := 2000000) (disch := omega) only [go_sem, simprocAttr, -List.reduceReplicate, condB_t, condB_f]
    exact dn
/-- The list as a vector of entries. -/
def zE (l : List Raw) (i : Nat) : List Ent := (List.range i).map fun (j : Nat) => ((j : Int), l.getD j default)
theorem zE_len (l : List Raw) (i : Nat) : (zE l i).length = i := by simp [zE]
theorem zE_succ (l : List Raw) (i : Nat) : zE l (i + 1) = zE l i ++ [((i : Int), Raw.mk (l.getD i default).s (l.getD i default).m (l.getD i default).d)] := by unfold zE; rw [List.range_succ, List.map_append]; rfl
theorem fD_dV (l : List Raw) : ∀ i, i ≤ l.length → fD (l.take i) = cE (dV (fun j => (l.getD j default).val) i)
  | 0, _ => rfl
  | i + 1, h => by
    rw [fD_take_succ h, fD_dV l i (by omega), dV_succ]
    by_cases hz : (l.getD i default).val = 0
    · simp only [hz, ↓reduceIte, List.append_nil]
    · simp only [hz, ↓reduceIte, cE, List.map_append]; rfl
theorem zE_vcan (l : List Raw) (n : Nat) : vcan (eV (zE l n)) = dV (fun j => (l.getD j default).val) n := by
  refine (vcan_eq (dV_can _ _) fun j => ?_).symm
  induction n with
  | zero => rfl
  | succ n ih =>
    rw [dV_succ, zE_succ, eV_append, vget_append, vget_append, ih]
    by_cases hz : (l.getD n default).val = 0
    · have hz' : (Raw.mk (l.getD n default).s (l.getD n default).m (l.getD n default).d).val = 0 := hz
      simp only [hz, ↓reduceIte, eV, List.map_cons, List.map_nil, vget, hz']
      by_cases e : (n : Int) = j <;> simp only [e, ↓reduceIte] <;> grind
    · have hz' : (Raw.mk (l.getD n default).s (l.getD n default).m (l.getD n default).d).val = (l.getD n default).val := rfl
      simp only [hz, ↓reduceIte, eV, List.map_cons, List.map_nil, vget, hz']
theorem rfromDense_spec (l : List Raw) (k : Nat) (hk : ∀ i, i < l.length → (l.getD i default).Ok k) (hk1 : 1 ≤ k) (hkb : k ≤ 1100000) (hl : l.length ≤ 1000) : PDet Tryz.prog 19 [QL l] (EL (fD l)) := by
  refine pdet_of E0ok mixed Tryz.func19 (by kernel_rfl) rfl (by kernel_rfl) (Nat.le_of_ble_eq_true rfl) fun N0 h hn hmen => ?_
  have hz : OkL (zE l l.length) k := fun e he => by
    obtain ⟨j, hj, rfl⟩ := List.mem_map.1 he
    exact hk j (List.mem_range.1 hj)
  have hm : l.length * (k + 1) ≤ 1000 * (k + 1) := Nat.mul_le_mul_right _ hl
  have zl := zE_len l l.length
  have c := rvnorm_spec (zE l l.length) k hz hk1 (by omega) (by rw [zl]; omega)
  have e0 := fD_dV l l.length (Nat.le_refl _)
  rw [List.take_of_length_le (Nat.le_refl _)] at e0
  rw [zE_vcan, ← e0] at c
  unfold QL EL at *
  simp -implicitDefEqProofs (maxSteps := 2000000) (disch := omega) only [go_sem, simprocAttr, -List.reduceReplicate, condB_t, condB_f]
  refine aw_weak (Weak.nilRow (t := 3) (sz := 4) (id := N0 + 24) (by omega) (by omega) (by simp -implicitDefEqProofs (maxSteps := 2000000) (disch := omega) only [go_sem, simprocAttr, -List.reduceReplicate, condB_t, condB_f])) ?_
  obtain ⟨id, hid⟩ : ∃ id, id = N0 + 24 := ⟨_, rfl⟩
  rw [← hid]
  refine aw_loop (X := Nat) (fun i => ⟨mkS [(0, .sl 3 (l.map ratC)), (3, .row id i 0 i), (4, .int .i64 i)], mkH h [(id, ⟨4, (zE l i).map entC⟩)], id + 8⟩) (fun i => i ≤ l.length) (fun i => l.length - i) ⟨0, Nat.zero_le _, ?_⟩ ?_
  · simp only [show zE l 0 = [] from rfl]
    (refine Weak.head1w (by simp -implicitDefEqProofs (maxSteps := 2000000) (disch := omega) only [go_sem, simprocAttr, -List.reduceReplicate, condB_t, condB_f] <;> (try rfl)) (by omega) (mapU _ _ _) (fun k0 b0 hk0 hb0 => by have hk1 : (k0 = _) = False := eq_false hk0; have hk2 := (hmen k0 b0 hb0).1; (simp -implicitDefEqProofs (maxSteps := 2000000) (disch := omega) only [go_sem, simprocAttr, -List.reduceReplicate, condB_t, condB_f, upd, mkH, hk1]) <;> (try (repeat rw [if_neg (by omega)])) <;> exact hb0) (by omega) hmen ?_; simp -implicitDefEqProofs (maxSteps := 2000000) (disch := omega) only [go_sem, simprocAttr, -List.reduceReplicate, condB_t, condB_f, AllP, AVle_same, AVle_int, AVle_nil, AVle_row, topU_int, topU_bool, topU_sl, topU_row, topU_ptr, topU_iptr, topU_fn, val, List.drop_length])
  · intro i hi
    have hel := zE_len l i
    by_cases h0 : i < l.length
    · have e := zE_succ l i
      simp -implicitDefEqProofs (maxSteps := 2000000) (disch := omega) only [go_sem, simprocAttr, -List.reduceReplicate, condB_t, condB_f, hel]
      exact ⟨i + 1, h0, by omega, by (refine Weak.head1w (by simp -implicitDefEqProofs (maxSteps := 2000000) (disch := omega) only [go_sem, simprocAttr, -List.reduceReplicate, condB_t, condB_f, hel, e] <;> (try rfl)) (by omega) (mapU _ _ _) (fun k0 b0 hk0 hb0 => by have hk1 : (k0 = _) = False := eq_false hk0; have hk2 := (hmen k0 b0 hb0).1; (simp -implicitDefEqProofs (maxSteps := 2000000) (disch := omega) only [go_sem, simprocAttr, -List.reduceReplicate, condB_t, condB_f, upd, mkH, hk1]) <;> (try (repeat rw [if_neg (by omega)])) <;> exact hb0) (by omega) hmen ?_; simp -implicitDefEqProofs (maxSteps := 2000000) (disch := omega) only [go_sem, simprocAttr, -List.reduceReplicate, condB_t, condB_f, AllP, AVle_same, AVle_int, AVle_nil, AVle_row, topU_int, topU_bool, topU_sl, topU_row, topU_ptr, topU_iptr, topU_fn, val, List.drop_length, hel, e])⟩
    · obtain rfl : i = l.length := by omega
      simp -implicitDefEqProofs (maxSteps := 2000000) (disch := omega) only [go_sem, simprocAttr, -List.reduceReplicate, condB_t, condB_f]
      refine callK_row c (by simp -implicitDefEqProofs (maxSteps := 2000000) (disch := omega) only [go_sem, simprocAttr, -List.reduceReplicate, condB_t, condB_f] <;> rfl) (by simp [zl]) (by omega) (List.take_of_length_le (by simp [zl])) (mapP _) ?_
      simp -implicitDefEqProofs (maxSteps := 2000000) (disch := omega) only [go_sem, simprocAttr, -List.reduceReplicate, condB_t, condB_f]
      exact dn
theorem same_spec (x : List Raw) (k : Nat) (hx : ∀ i, i < x.length → ∃ q, x.getD i default = canon q ∧ Sz q k) (hk : k ≤ 549755813888) (hl : x.length ≤ 1099511627776) : PDet Tryz.prog 17 [QL x, QL x] (.bool true) := by
  refine pdet_of E0ok mixed Tryz.func17 (by kernel_rfl) rfl (by kernel_rfl) (Nat.le_of_ble_eq_true rfl) fun N0 h hn hmen => ?_
  unfold QL
  simp -implicitDefEqProofs (maxSteps := 2000000) (disch := omega) only [go_sem, simprocAttr, -List.reduceReplicate, condB_t, condB_f]
  refine aw_loop (X := Nat) (fun i => ⟨mkS [(0, .sl 3 (x.map ratC)), (1, .sl 3 (x.map ratC)), (5, .int .i64 i)], h, N0⟩) (fun i => i ≤ x.length) (fun i => x.length - i) ⟨0, Nat.zero_le _, ?_⟩ ?_
  · (refine Weak.slots (allP ?_) (fun k0 b0 hb0 => by first | exact hb0 | (have hk1 := (hmen k0 b0 hb0).1; simp only [upd, mkH]; (repeat rw [if_neg (by omega)]); exact hb0)) (by omega) hmen; simp -implicitDefEqProofs (maxSteps := 2000000) (disch := omega) only [go_sem, simprocAttr, -List.reduceReplicate, condB_t, condB_f, AllP, AVle_same, AVle_int, AVle_nil, AVle_row, topU_int, topU_bool, topU_sl, topU_row, topU_ptr, topU_iptr, topU_fn, val, List.drop_length])
  · intro i hi
    by_cases h0 : i < x.length
    · obtain ⟨q, hq, zq⟩ := hx i h0
      have cc := r3canonical_canon q k zq hk
      have ce := r3equal_canon q q k k zq zq hk hk
      rw [decide_eq_true rfl] at ce
      unfold rC Raw.cells nl at cc ce
      simp -implicitDefEqProofs (maxSteps := 2000000) (disch := omega) only [go_sem, simprocAttr, -List.reduceReplicate, condB_t, condB_f, hq]
      refine pcallK_pure cc ?_
      simp -implicitDefEqProofs (maxSteps := 2000000) (disch := omega) only [go_sem, simprocAttr, -List.reduceReplicate, condB_t, condB_f, hq]
      refine pcallK_pure cc ?_
      simp -implicitDefEqProofs (maxSteps := 2000000) (disch := omega) only [go_sem, simprocAttr, -List.reduceReplicate, condB_t, condB_f, hq]
      refine pcallK_pure ce ?_
      simp -implicitDefEqProofs (maxSteps := 2000000) (disch := omega) only [go_sem, simprocAttr, -List.reduceReplicate, condB_t, condB_f]
      exact ⟨i + 1, h0, by omega, by (refine Weak.slots (allP ?_) (fun k0 b0 hb0 => by first | exact hb0 | (have hk1 := (hmen k0 b0 hb0).1; simp only [upd, mkH]; (repeat rw [if_neg (by omega)]); exact hb0)) (by omega) hmen; simp -implicitDefEqProofs (maxSteps := 2000000) (disch := omega) only [go_sem, simprocAttr, -List.reduceReplicate, condB_t, condB_f, AllP, AVle_same, AVle_int, AVle_nil, AVle_row, topU_int, topU_bool, topU_sl, topU_row, topU_ptr, topU_iptr, topU_fn, val, List.drop_length])⟩
    · obtain rfl : i = x.length := by omega
      simp -implicitDefEqProofs (maxSteps := 2000000) (disch := omega) only [go_sem, simprocAttr, -List.reduceReplicate, condB_t, condB_f]
      exact dn
def cnL (l : List Raw) : List Raw := l.map fun x => canon x.val
theorem cnL_succ {l : List Raw} {i : Nat} (h : i < l.length) : cnL (l.take (i + 1)) = cnL (l.take i) ++ [Raw.mk (canon (l.getD i default).val).s (canon (l.getD i default).val).m (canon (l.getD i default).val).d] := by
  rw [take_succ_getR h]; unfold cnL; rw [List.map_append]; rfl
theorem canonL_spec (l : List Raw) (k : Nat) (hk : ∀ i, i < l.length → (l.getD i default).Ok k) (hkb : k ≤ 549755813888) (hl : l.length ≤ 1099511627776) : PDet Tryz.prog 20 [QL l] (QL (cnL l)) := by
  refine pdet_of E0ok mixed Tryz.func20 (by kernel_rfl) rfl (by kernel_rfl) (Nat.le_of_ble_eq_true rfl) fun N0 h hn hmen => ?_
  unfold QL
  simp -implicitDefEqProofs (maxSteps := 2000000) (disch := omega) only [go_sem, simprocAttr, -List.reduceReplicate, condB_t, condB_f]
  refine aw_weak (Weak.nilRow (t := 3) (sz := 3) (id := N0 + 24) (by omega) (by omega) (by simp -implicitDefEqProofs (maxSteps := 2000000) (disch := omega) only [go_sem, simprocAttr, -List.reduceReplicate, condB_t, condB_f])) ?_
  obtain ⟨id, hid⟩ : ∃ id, id = N0 + 24 := ⟨_, rfl⟩
  rw [← hid]
  refine aw_loop (X := Nat) (fun i => ⟨mkS [(0, .sl 3 (l.map ratC)), (3, .row id i 0 i), (4, .int .i64 i)], mkH h [(id, ⟨3, (cnL (l.take i)).map ratC⟩)], id + 8⟩) (fun i => i ≤ l.length) (fun i => l.length - i) ⟨0, Nat.zero_le _, ?_⟩ ?_
  · simp only [show cnL (l.take 0) = [] from rfl]
    (refine Weak.head1w (by simp -implicitDefEqProofs (maxSteps := 2000000) (disch := omega) only [go_sem, simprocAttr, -List.reduceReplicate, condB_t, condB_f] <;> (try rfl)) (by omega) (mapU _ _ _) (fun k0 b0 hk0 hb0 => by have hk1 : (k0 = _) = False := eq_false hk0; have hk2 := (hmen k0 b0 hb0).1; (simp -implicitDefEqProofs (maxSteps := 2000000) (disch := omega) only [go_sem, simprocAttr, -List.reduceReplicate, condB_t, condB_f, upd, mkH, hk1]) <;> (try (repeat rw [if_neg (by omega)])) <;> exact hb0) (by omega) hmen ?_; simp -implicitDefEqProofs (maxSteps := 2000000) (disch := omega) only [go_sem, simprocAttr, -List.reduceReplicate, condB_t, condB_f, AllP, AVle_same, AVle_int, AVle_nil, AVle_row, topU_int, topU_bool, topU_sl, topU_row, topU_ptr, topU_iptr, topU_fn, val, List.drop_length])
  · intro i hi
    have hel : (cnL (l.take i)).length = i := by unfold cnL; rw [List.length_map, List.length_take]; omega
    by_cases h0 : i < l.length
    · have e := cnL_succ h0
      have cn := r3norm_spec _ k (hk i h0) hkb
      unfold rC Raw.cells nl at cn
      simp -implicitDefEqProofs (maxSteps := 2000000) (disch := omega) only [go_sem, simprocAttr, -List.reduceReplicate, condB_t, condB_f, hel]
      refine callK_pure cn ?_
      simp -implicitDefEqProofs (maxSteps := 2000000) (disch := omega) only [go_sem, simprocAttr, -List.reduceReplicate, condB_t, condB_f, hel]
      exact ⟨i + 1, h0, by omega, by (refine Weak.head1w (by simp -implicitDefEqProofs (maxSteps := 2000000) (disch := omega) only [go_sem, simprocAttr, -List.reduceReplicate, condB_t, condB_f, hel, e] <;> (try rfl)) (by omega) (mapU _ _ _) (fun k0 b0 hk0 hb0 => by have hk1 : (k0 = _) = False := eq_false hk0; have hk2 := (hmen k0 b0 hb0).1; (simp -implicitDefEqProofs (maxSteps := 2000000) (disch := omega) only [go_sem, simprocAttr, -List.reduceReplicate, condB_t, condB_f, upd, mkH, hk1]) <;> (try (repeat rw [if_neg (by omega)])) <;> exact hb0) (by omega) hmen ?_; simp -implicitDefEqProofs (maxSteps := 2000000) (disch := omega) only [go_sem, simprocAttr, -List.reduceReplicate, condB_t, condB_f, AllP, AVle_same, AVle_int, AVle_nil, AVle_row, topU_int, topU_bool, topU_sl, topU_row, topU_ptr, topU_iptr, topU_fn, val, List.drop_length, hel, e])⟩
    · obtain rfl : i = l.length := by omega
      rw [List.take_of_length_le (Nat.le_refl _)] at hel ⊢
      simp -implicitDefEqProofs (maxSteps := 2000000) (disch := omega) only [go_sem, simprocAttr, -List.reduceReplicate, condB_t, condB_f]
      refine .val (.leaf (Thaw.plain (rows := (cnL l).map ratC) (by simp [locH, upd, mkH]; omega) (by simp [hel]) (by omega) (List.take_of_length_le (by simp [hel])) (mapP _)))
theorem firstR_spec (l : List Raw) (n : Nat) (hl : l.length ≤ 1099511627776) (hn' : n ≤ 1099511627776) : PDet Tryz.prog 14 [QL l, .int .i64 n] (QL (l.take n)) := by
  refine pdet_of E0ok mixed Tryz.func14 (by kernel_rfl) rfl (by kernel_rfl) (Nat.le_of_ble_eq_true rfl) fun N0 h hn hmen => ?_
  unfold QL
  by_cases h0 : n < l.length
  · simp -implicitDefEqProofs (maxSteps := 2000000) (disch := omega) only [go_sem, simprocAttr, -List.reduceReplicate, condB_t, condB_f]
    exact dn
  · rw [List.take_of_length_le (by omega)]
    simp -implicitDefEqProofs (maxSteps := 2000000) (disch := omega) only [go_sem, simprocAttr, -List.reduceReplicate, condB_t, condB_f]
    exact dn
end Go.Abs
/-! YtzLaw10: VectorDense returns true for numbers of at most 1048576 limbs. -/
set_option linter.unusedVariables false
set_option linter.unusedSimpArgs false
set_option maxRecDepth 100000
set_option maxHeartbeats 1000000
namespace Go.Abs
open Go.Proofs
@[go_sem] theorem R4 : Tryz.f4.results.toList = [.tmp 8] := rfl
@[go_sem] theorem tmod_12 (v : Nat) : Int.tmod (v : Int) 12 = ((v % 12 : Nat) : Int) := tmod_nat v 12
theorem denL_dV (l : List Raw) : denL (dV (fun j => (l.getD j default).val) l.length) l.length = cnL l := by
  refine List.ext_getElem? fun j => ?_
  by_cases hj : j < l.length
  · rw [denL_get _ hj, dV_get _ _ _ hj]
    unfold cnL
    rw [List.getElem?_map, List.getD_eq_getElem?_getD, List.getElem?_eq_getElem hj]; rfl
  · rw [List.getElem?_eq_none (by rw [denL_len]; omega), List.getElem?_eq_none (by unfold cnL; rw [List.length_map]; omega)]
theorem vdlaw_spec (l : List Raw) (v : List Ent) (n : Int) (few k : Nat) (hl : ∀ x ∈ l, x.Ok k) (hv : OkL v k) (hk1 : 1 ≤ k) (hk : k ≤ 1048576) (hll : l.length ≤ 1099511627776) (hlv : v.length ≤ 1099511627776) (hn1 : -9223372036854775808 ≤ n) (hn2 : n ≤ 9223372036854775807) (hf : few ≤ 255) :
    PDet Tryz.prog 4 [QL l, EL v, .int .i64 n, .int .u8 few] (.bool true) := by
  refine pdet_of E0ok mixed Tryz.func4 (by kernel_rfl) rfl (by kernel_rfl) (Nat.le_of_ble_eq_true rfl) fun N0 h hn hmen => ?_
  have s1 := lshort_spec v hlv
  have f1 := firstR_spec l 60 hll (by omega)
  have aw0 := awake_spec
  have ov := shL_ok hv
  have lv := shL_le v
  generalize shL v = V at *
  have m1 : V.length * (k + 1) ≤ 40 * (k + 1) := Nat.mul_le_mul_right _ lv
  have hz := vcan_sz (eV_sz ov hk1) (n := 40) (by rw [eV_len]; exact lv)
  have hwl : (vcan (eV V)).length ≤ 40 := Nat.le_trans (vcan_len _) (by rw [eV_len]; exact lv)
  have sS := srt_len V
  have cd := fun q => vdense_spec V (srt V) q (k + V.length * (k + 1)) (sorted_spec V k ov hk1 lv (by omega)) (srt_can V) (srt_ok hk1 ov) (by omega) (by omega)
  have cr := fun q => rdense_spec V q k ov hk1 (by omega) lv
  rw [srt_val] at cd
  have hgz : ∀ j, Sz (vget (vcan (eV V)) j) (1 + 40 * (1 + 40 * (k + 1) + 1)) := fun j => (vget_sz hz j).mono (Nat.add_le_add_left (Nat.mul_le_mul_right _ hwl) _)
  generalize vcan (eV V) = w at *
  have csm := fun q => same_spec (denO q w) (1 + 40 * (1 + 40 * (k + 1) + 1)) (fun i hi => by
    unfold denO at hi ⊢
    by_cases hd : DOk q w
    · rw [if_pos hd] at hi ⊢
      rw [denL_len] at hi
      exact ⟨vget w i, by rw [List.getD_eq_getElem?_getD, denL_get _ hi]; rfl, hgz i⟩
    · rw [if_neg hd] at hi; simp at hi) (by omega) (by
    unfold denO
    split
    · rename_i hd; rw [denL_len]; have := hd.2.1; omega
    · simp)
  have oL : ∀ x ∈ l.take 60, x.Ok k := fun x hx => hl x (List.mem_of_mem_take hx)
  have lL : (l.take 60).length ≤ 60 := by rw [List.length_take]; omega
  generalize l.take 60 = L at *
  have oi : ∀ i, i < L.length → (L.getD i default).Ok k := fun i hi => oL _ (by rw [List.getD_eq_getElem?_getD, List.getElem?_eq_getElem hi]; exact List.getElem_mem _)
  have e0 := fD_dV L L.length (Nat.le_refl _)
  rw [List.take_of_length_le (Nat.le_refl _)] at e0
  have g1 := fromDense_spec L k oi (by omega) (by omega)
  have g2 := rfromDense_spec L k oi hk1 (by omega) (by omega)
  have zd : ∀ e ∈ dV (fun j => (L.getD j default).val) L.length, Sz e.2 k := fun e he => by
    obtain ⟨i, hi, _, rfl⟩ := dV_mem he
    exact (oi i hi).sz hk1
  have g3 := identical_spec _ _ k k zd zd (by omega) (by omega) (by have := dV_len (fun j => (L.getD j default).val) L.length; omega) (by have := dV_len (fun j => (L.getD j default).val) L.length; omega)
  rw [decide_eq_true rfl, ← e0] at g3
  have oF : OkL (fD L) k := by rw [e0]; exact cE_ok zd
  have eF : eV (fD L) = dV (fun j => (L.getD j default).val) L.length := by rw [e0, eV_cE]
  have cF : Can (eV (fD L)) := by rw [eF]; exact dV_can _ _
  have lF := fD_len L
  have g4 := vdense_spec (fD L) (fD L) L.length k (sorted_asc_spec (fD L) k oF hk1 (by omega) (by omega) cF) cF oF (by omega) (by omega)
  have dF : DOk L.length (dV (fun j => (L.getD j default).val) L.length) := ⟨by omega, by omega, fun e he => by
    obtain ⟨i, hi, _, rfl⟩ := dV_mem he
    simp only; omega⟩
  have g5 := canonL_spec L k oi (by omega) (by omega)
  rw [eF, decide_eq_true dF] at g4
  unfold denO at g4
  rw [if_pos dF, Int.toNat_natCast, denL_dV] at g4
  have cl : (cnL L).length = L.length := by unfold cnL; rw [List.length_map]
  have g6 := same_spec (cnL L) k (fun i hi => ⟨(L.getD i default).val, by
    unfold cnL
    rw [List.getD_eq_getElem?_getD, List.getElem?_map, List.getD_eq_getElem?_getD, List.getElem?_eq_getElem (by omega)]; rfl, (oi i (by omega)).sz hk1⟩) (by omega) (by omega)
  clear e0 zd oF eF cF dF oL oi hz hgz hl ov hv
  generalize fD L = F at *
  unfold QL EL at *
  simp -implicitDefEqProofs (maxSteps := 2000000) (disch := omega) only [go_sem, simprocAttr, -List.reduceReplicate, condB_t, condB_f]
  refine callK_pure f1 ?_
  simp -implicitDefEqProofs (maxSteps := 2000000) (disch := omega) only [go_sem, simprocAttr, -List.reduceReplicate, condB_t, condB_f]
  refine callK_pure s1 ?_
  simp -implicitDefEqProofs (maxSteps := 2000000) (disch := omega) only [go_sem, simprocAttr, -List.reduceReplicate, condB_t, condB_f]
  obtain ⟨I, hI⟩ : ∃ I : List Int, I = [n, ((few % 12 : Nat) : Int)] := ⟨_, rfl⟩
  have hR : [[AV.int .i64 n], [AV.int .i64 ((few % 12 : Nat) : Int)]] = I.map intC := by rw [hI]; rfl
  have hIl : I.length = 2 := by rw [hI]; rfl
  have hIr : ∀ i, i < 2 → -9223372036854775808 ≤ I.getD i 0 ∧ I.getD i 0 ≤ 9223372036854775807 := fun i hi => by
    rw [hI]
    match i, hi with
    | 0, _ => exact ⟨hn1, hn2⟩
    | 1, _ => simp only [List.getD_cons_succ, List.getD_cons_zero]; omega
  rw [hR]
  clear hR hI s1 f1
  obtain ⟨id, hid⟩ : ∃ id, id = N0 + 88 := ⟨_, rfl⟩
  rw [← hid]
  refine aw_loop (X := Nat) (fun i => ⟨mkS [(0, .sl 3 (L.map ratC)), (1, .sl 4 (V.map entC)), (25, .row id 2 0 2), (26, .int .i64 2), (27, .int .i64 i)], mkH h [(id, ⟨1, I.map intC⟩)], id + 8⟩) (fun i => i ≤ 2) (fun i => 2 - i) ⟨0, Nat.zero_le _, ?_⟩ ?_
  · (refine Weak.head1w (by simp -implicitDefEqProofs (maxSteps := 2000000) (disch := omega) only [go_sem, simprocAttr, -List.reduceReplicate, condB_t, condB_f] <;> (try rfl)) (by omega) (mapU _ _ _) (fun k0 b0 hk0 hb0 => by have hk1 : (k0 = _) = False := eq_false hk0; have hk2 := (hmen k0 b0 hb0).1; (simp -implicitDefEqProofs (maxSteps := 2000000) (disch := omega) only [go_sem, simprocAttr, -List.reduceReplicate, condB_t, condB_f, upd, mkH, hk1]) <;> (try (repeat rw [if_neg (by omega)])) <;> exact hb0) (by omega) hmen ?_; simp -implicitDefEqProofs (maxSteps := 2000000) (disch := omega) only [go_sem, simprocAttr, -List.reduceReplicate, condB_t, condB_f, AllP, AVle_same, AVle_int, AVle_nil, AVle_row, topU_int, topU_bool, topU_sl, topU_row, topU_ptr, topU_iptr, topU_fn, val, List.drop_length])
  · intro i hi
    by_cases h0 : i < 2
    · have hr := hIr i h0
      obtain ⟨q, hq⟩ : ∃ q, I.getD i 0 = q := ⟨_, rfl⟩
      rw [hq] at hr
      have cd := cd q
      have cr := cr q
      have csm := csm q
      generalize decide (DOk q w) = b at *
      generalize denO q w = D at *
      by_cases h1 : 1000 < q
      · by_cases h2 : q ≤ 16384
        · simp -implicitDefEqProofs (maxSteps := 2000000) (disch := omega) only [go_sem, simprocAttr, -List.reduceReplicate, condB_t, condB_f, hq, hIl]
          exact ⟨i + 1, h0, by omega, by (refine Weak.head1w (by simp -implicitDefEqProofs (maxSteps := 2000000) (disch := omega) only [go_sem, simprocAttr, -List.reduceReplicate, condB_t, condB_f, hq, hIl] <;> (try rfl)) (by omega) (mapU _ _ _) (fun k0 b0 hk0 hb0 => by have hk1 : (k0 = _) = False := eq_false hk0; have hk2 := (hmen k0 b0 hb0).1; (simp -implicitDefEqProofs (maxSteps := 2000000) (disch := omega) only [go_sem, simprocAttr, -List.reduceReplicate, condB_t, condB_f, upd, mkH, hk1]) <;> (try (repeat rw [if_neg (by omega)])) <;> exact hb0) (by omega) hmen ?_; simp -implicitDefEqProofs (maxSteps := 2000000) (disch := omega) only [go_sem, simprocAttr, -List.reduceReplicate, condB_t, condB_f, AllP, AVle_same, AVle_int, AVle_nil, AVle_row, topU_int, topU_bool, topU_sl, topU_row, topU_ptr, topU_iptr, topU_fn, val, List.drop_length, hq, hIl])⟩
        · simp -implicitDefEqProofs (maxSteps := 2000000) (disch := omega) only [go_sem, simprocAttr, -List.reduceReplicate, condB_t, condB_f, hq, hIl]
          refine callK_pure cd ?_
          simp -implicitDefEqProofs (maxSteps := 2000000) (disch := omega) only [go_sem, simprocAttr, -List.reduceReplicate, condB_t, condB_f]
          refine callK_pure cr ?_
          cases b
          · simp -implicitDefEqProofs (maxSteps := 2000000) (disch := omega) only [go_sem, simprocAttr, -List.reduceReplicate, condB_t, condB_f]
            refine callK_pure csm ?_
            simp -implicitDefEqProofs (maxSteps := 2000000) (disch := omega) only [go_sem, simprocAttr, -List.reduceReplicate, condB_t, condB_f]
            exact ⟨i + 1, h0, by omega, by (refine Weak.head1w (by simp -implicitDefEqProofs (maxSteps := 2000000) (disch := omega) only [go_sem, simprocAttr, -List.reduceReplicate, condB_t, condB_f, hq, hIl] <;> (try rfl)) (by omega) (mapU _ _ _) (fun k0 b0 hk0 hb0 => by have hk1 : (k0 = _) = False := eq_false hk0; have hk2 := (hmen k0 b0 hb0).1; (simp -implicitDefEqProofs (maxSteps := 2000000) (disch := omega) only [go_sem, simprocAttr, -List.reduceReplicate, condB_t, condB_f, upd, mkH, hk1]) <;> (try (repeat rw [if_neg (by omega)])) <;> exact hb0) (by omega) hmen ?_; simp -implicitDefEqProofs (maxSteps := 2000000) (disch := omega) only [go_sem, simprocAttr, -List.reduceReplicate, condB_t, condB_f, AllP, AVle_same, AVle_int, AVle_nil, AVle_row, topU_int, topU_bool, topU_sl, topU_row, topU_ptr, topU_iptr, topU_fn, val, List.drop_length, hq, hIl])⟩
          · simp -implicitDefEqProofs (maxSteps := 2000000) (disch := omega) only [go_sem, simprocAttr, -List.reduceReplicate, condB_t, condB_f]
            refine callK_pure csm ?_
            simp -implicitDefEqProofs (maxSteps := 2000000) (disch := omega) only [go_sem, simprocAttr, -List.reduceReplicate, condB_t, condB_f]
            exact ⟨i + 1, h0, by omega, by (refine Weak.head1w (by simp -implicitDefEqProofs (maxSteps := 2000000) (disch := omega) only [go_sem, simprocAttr, -List.reduceReplicate, condB_t, condB_f, hq, hIl] <;> (try rfl)) (by omega) (mapU _ _ _) (fun k0 b0 hk0 hb0 => by have hk1 : (k0 = _) = False := eq_false hk0; have hk2 := (hmen k0 b0 hb0).1; (simp -implicitDefEqProofs (maxSteps := 2000000) (disch := omega) only [go_sem, simprocAttr, -List.reduceReplicate, condB_t, condB_f, upd, mkH, hk1]) <;> (try (repeat rw [if_neg (by omega)])) <;> exact hb0) (by omega) hmen ?_; simp -implicitDefEqProofs (maxSteps := 2000000) (disch := omega) only [go_sem, simprocAttr, -List.reduceReplicate, condB_t, condB_f, AllP, AVle_same, AVle_int, AVle_nil, AVle_row, topU_int, topU_bool, topU_sl, topU_row, topU_ptr, topU_iptr, topU_fn, val, List.drop_length, hq, hIl])⟩
      · simp -implicitDefEqProofs (maxSteps := 2000000) (disch := omega) only [go_sem, simprocAttr, -List.reduceReplicate, condB_t, condB_f, hq, hIl]
        refine callK_pure cd ?_
        simp -implicitDefEqProofs (maxSteps := 2000000) (disch := omega) only [go_sem, simprocAttr, -List.reduceReplicate, condB_t, condB_f]
        refine callK_pure cr ?_
        cases b
        · simp -implicitDefEqProofs (maxSteps := 2000000) (disch := omega) only [go_sem, simprocAttr, -List.reduceReplicate, condB_t, condB_f]
          refine callK_pure csm ?_
          simp -implicitDefEqProofs (maxSteps := 2000000) (disch := omega) only [go_sem, simprocAttr, -List.reduceReplicate, condB_t, condB_f]
          exact ⟨i + 1, h0, by omega, by (refine Weak.head1w (by simp -implicitDefEqProofs (maxSteps := 2000000) (disch := omega) only [go_sem, simprocAttr, -List.reduceReplicate, condB_t, condB_f, hq, hIl] <;> (try rfl)) (by omega) (mapU _ _ _) (fun k0 b0 hk0 hb0 => by have hk1 : (k0 = _) = False := eq_false hk0; have hk2 := (hmen k0 b0 hb0).1; (simp -implicitDefEqProofs (maxSteps := 2000000) (disch := omega) only [go_sem, simprocAttr, -List.reduceReplicate, condB_t, condB_f, upd, mkH, hk1]) <;> (try (repeat rw [if_neg (by omega)])) <;> exact hb0) (by omega) hmen ?_; simp -implicitDefEqProofs (maxSteps := 2000000) (disch := omega) only [go_sem, simprocAttr, -List.reduceReplicate, condB_t, condB_f, AllP, AVle_same, AVle_int, AVle_nil, AVle_row, topU_int, topU_bool, topU_sl, topU_row, topU_ptr, topU_iptr, topU_fn, val, List.drop_length, hq, hIl])⟩
        · simp -implicitDefEqProofs (maxSteps := 2000000) (disch := omega) only [go_sem, simprocAttr, -List.reduceReplicate, condB_t, condB_f]
          refine callK_pure csm ?_
          simp -implicitDefEqProofs (maxSteps := 2000000) (disch := omega) only [go_sem, simprocAttr, -List.reduceReplicate, condB_t, condB_f]
          exact ⟨i + 1, h0, by omega, by (refine Weak.head1w (by simp -implicitDefEqProofs (maxSteps := 2000000) (disch := omega) only [go_sem, simprocAttr, -List.reduceReplicate, condB_t, condB_f, hq, hIl] <;> (try rfl)) (by omega) (mapU _ _ _) (fun k0 b0 hk0 hb0 => by have hk1 : (k0 = _) = False := eq_false hk0; have hk2 := (hmen k0 b0 hb0).1; (simp -implicitDefEqProofs (maxSteps := 2000000) (disch := omega) only [go_sem, simprocAttr, -List.reduceReplicate, condB_t, condB_f, upd, mkH, hk1]) <;> (try (repeat rw [if_neg (by omega)])) <;> exact hb0) (by omega) hmen ?_; simp -implicitDefEqProofs (maxSteps := 2000000) (disch := omega) only [go_sem, simprocAttr, -List.reduceReplicate, condB_t, condB_f, AllP, AVle_same, AVle_int, AVle_nil, AVle_row, topU_int, topU_bool, topU_sl, topU_row, topU_ptr, topU_iptr, topU_fn, val, List.drop_length, hq, hIl])⟩
    · obtain rfl : i = 2 := by omega
      simp -implicitDefEqProofs (maxSteps := 2000000) (disch := omega) only [go_sem, simprocAttr, -List.reduceReplicate, condB_t, condB_f]
      refine callK_pure g1 ?_
      simp -implicitDefEqProofs (maxSteps := 2000000) (disch := omega) only [go_sem, simprocAttr, -List.reduceReplicate, condB_t, condB_f]
      refine callK_pure g4 ?_
      simp -implicitDefEqProofs (maxSteps := 2000000) (disch := omega) only [go_sem, simprocAttr, -List.reduceReplicate, condB_t, condB_f]
      refine callK_pure aw0 ?_
      simp -implicitDefEqProofs (maxSteps := 2000000) (disch := omega) only [go_sem, simprocAttr, -List.reduceReplicate, condB_t, condB_f]
      refine callK_pure g1 ?_
      simp -implicitDefEqProofs (maxSteps := 2000000) (disch := omega) only [go_sem, simprocAttr, -List.reduceReplicate, condB_t, condB_f]
      refine callK_pure g2 ?_
      simp -implicitDefEqProofs (maxSteps := 2000000) (disch := omega) only [go_sem, simprocAttr, -List.reduceReplicate, condB_t, condB_f]
      refine callK_pure g3 ?_
      simp -implicitDefEqProofs (maxSteps := 2000000) (disch := omega) only [go_sem, simprocAttr, -List.reduceReplicate, condB_t, condB_f]
      refine callK_pure g5 ?_
      simp -implicitDefEqProofs (maxSteps := 2000000) (disch := omega) only [go_sem, simprocAttr, -List.reduceReplicate, condB_t, condB_f]
      refine callK_pure g6 ?_
      simp -implicitDefEqProofs (maxSteps := 2000000) (disch := omega) only [go_sem, simprocAttr, -List.reduceReplicate, condB_t, condB_f]
      exact dn
end Go.Abs
/-! YtzFin1: How the laws' arguments read; the bulk. No condition. -/
set_option linter.unusedVariables false
set_option linter.unusedSimpArgs false
set_option maxRecDepth 100000
set_option maxHeartbeats 1000000
namespace Go.Abs
open Go.Proofs
open Go.Proofs.YtbeajnfghfgmnaaGreat Go.RowKit Go.ChangeShapes Go.WideShapes
theorem bulkAll {H : Type} (l : List (DataW H)) : Rows.uptoBulkAll l = (l.map Rows.uptoBulk).sum := by
  induction l with
  | nil => rw [Rows.uptoBulkAll]; rfl
  | cons d l ih => rw [Rows.uptoBulkAll, ih]; rfl
theorem measB : Meas (@Rows.uptoBulk) where
  pos := fun d => by cases d <;> (try rename_i x; cases x) <;> unfold Rows.uptoBulk <;> omega
  slice := fun e s => by rw [Rows.uptoBulk, ← bulkAll]; omega
  agg := fun p => by rw [Rows.uptoBulk, ← bulkAll]; omega
theorem u3 : Tryz.prog.underlying 3 = some (.int .i64) := by kernel_rfl
theorem u4 : Tryz.prog.underlying 4 = some .bool := by kernel_rfl
theorem u22 : Tryz.prog.underlying 23 = some (.slice 3) := by kernel_rfl
theorem u45 : Tryz.prog.underlying 22 = some (.slice 51) := by kernel_rfl
def fieldsOf (P : Program) (t : TypeId) : Option (List (TypeId × Nat)) :=
  match P.underlying t with
  | some (.struct fs) => some (fs.toList.map fun f => (f.type, f.offset))
  | _ => none
theorem fieldsOf_two {P : Program} {t a b o p : Nat} (h : fieldsOf P t = some [(a, o), (b, p)]) : ∃ f0 f1 : Field, P.underlying t = some (.struct #[f0, f1]) ∧ f0.type = a ∧ f0.offset = o ∧ f1.type = b ∧ f1.offset = p := by
  unfold fieldsOf at h
  split at h
  · rename_i fs hu
    obtain ⟨l⟩ := fs
    injection h with h
    match l, h with
    | [f0, f1], h =>
      simp only [List.map_cons, List.map_nil, List.cons.injEq, Prod.mk.injEq, and_true] at h
      exact ⟨f0, f1, hu, h.1.1, h.1.2, h.2.1, h.2.2⟩
  · cases h
theorem rd_two {P : Program} {t a b : Nat} {A B : Type} {c0 : A → List AV} {c1 : B → List AV} {s0 : A → Nat} {s1 : B → Nat} {ok0 : A → Prop} {ok1 : B → Prop} {μ : ∀ {H : Type}, DataW H → Nat} (hμ : Meas μ) (hf : fieldsOf P t = some [(a, 0), (b, P.cellsOf a)]) (hsz : P.cellsOf t = P.cellsOf a + P.cellsOf b)
    (h0 : Rd μ P a c0 s0 ok0) (h1 : Rd μ P b c1 s1 ok1) : Rd μ P t (A := A × B) (fun x => c0 x.1 ++ c1 x.2) (fun x => s0 x.1 + s1 x.2 + 1) (fun x => ok0 x.1 ∧ ok1 x.2) := by
  obtain ⟨f0, f1, hu, rfl, o0, rfl, o1⟩ := fieldsOf_two hf
  exact Rd.struct2 hμ hu h0 h1 o0 o1 hsz
theorem f54 : fieldsOf Tryz.prog 40 = some [(4, 0), (38, Tryz.prog.cellsOf 4)] := by kernel_rfl
theorem f56 : fieldsOf Tryz.prog 42 = some [(40, 0), (38, Tryz.prog.cellsOf 40)] := by kernel_rfl
theorem f78 : fieldsOf Tryz.prog 51 = some [(3, 0), (42, Tryz.prog.cellsOf 3)] := by kernel_rfl
theorem s54 : Tryz.prog.cellsOf 40 = Tryz.prog.cellsOf 4 + Tryz.prog.cellsOf 38 := by kernel_rfl
theorem s56 : Tryz.prog.cellsOf 42 = Tryz.prog.cellsOf 40 + Tryz.prog.cellsOf 38 := by kernel_rfl
theorem s78 : Tryz.prog.cellsOf 51 = Tryz.prog.cellsOf 3 + Tryz.prog.cellsOf 42 := by kernel_rfl
theorem z78 : Tryz.prog.cellsOf 51 = 4 := by kernel_rfl
theorem u52 : Tryz.prog.underlying 38 = some (.slice 89) := by kernel_rfl
theorem u127 : Tryz.prog.underlying 89 = some (.int .u32) := by kernel_rfl
theorem z127 : Tryz.prog.cellsOf 89 = 1 := by kernel_rfl
theorem z3 : Tryz.prog.cellsOf 3 = 1 := by kernel_rfl
abbrev REnt := Int × ((Bool × List Nat) × List Nat)
def toE (x : REnt) : Ent := (x.1, ⟨x.2.1.1, x.2.1.2, x.2.2⟩)
def okN (l : List Nat) : Prop := (∀ n ∈ l, (n : Int) ≤ IntKind.u32.max) ∧ l.length ≤ maxLen
theorem rd52 : Rd (@Rows.uptoBulk) Tryz.prog 38 (A := List Nat) (fun l => [.sl 1 (l.map fun (n : Nat) => [AV.int .u32 (n : Int)])]) (fun l => (l.map fun _ => 1).sum + 1) okN := Rd.slice measB u52 (Rd.nat measB u127 rfl) z127 (by decide)
theorem rd78 : Rd (@Rows.uptoBulk) Tryz.prog 51 (A := REnt) (fun x => [AV.int .i64 x.1] ++ ([AV.bool x.2.1.1] ++ [AV.sl 1 (x.2.1.2.map fun (n : Nat) => [AV.int .u32 (n : Int)])] ++ [AV.sl 1 (x.2.2.map fun (n : Nat) => [AV.int .u32 (n : Int)])]))
    (fun x => 1 + ((1 + ((x.2.1.2.map fun _ => 1).sum + 1) + 1) + ((x.2.2.map fun _ => 1).sum + 1) + 1) + 1) (fun x => (IntKind.i64.min ≤ x.1 ∧ x.1 ≤ IntKind.i64.max) ∧ (True ∧ okN x.2.1.2) ∧ okN x.2.2) :=
  rd_two measB f78 s78 (Rd.int measB u3) (rd_two measB f56 s56 (rd_two measB f54 s54 (Rd.bool measB u4) rd52) rd52)
theorem rd56 : Rd (@Rows.uptoBulk) Tryz.prog 42 (A := (Bool × List Nat) × List Nat) (fun x => [AV.bool x.1.1] ++ [AV.sl 1 (x.1.2.map fun (n : Nat) => [AV.int .u32 (n : Int)])] ++ [AV.sl 1 (x.2.map fun (n : Nat) => [AV.int .u32 (n : Int)])])
    (fun x => (1 + ((x.1.2.map fun _ => 1).sum + 1) + 1) + ((x.2.map fun _ => 1).sum + 1) + 1) (fun x => (True ∧ okN x.1.2) ∧ okN x.2) := rd_two measB f56 s56 (rd_two measB f54 s54 (Rd.bool measB u4) rd52) rd52
theorem rd45 : Rd (@Rows.uptoBulk) Tryz.prog 22 (A := List REnt) (fun l => [.sl 4 (l.map fun x => [AV.int .i64 x.1] ++ ([AV.bool x.2.1.1] ++ [AV.sl 1 (x.2.1.2.map fun (n : Nat) => [AV.int .u32 (n : Int)])] ++ [AV.sl 1 (x.2.2.map fun (n : Nat) => [AV.int .u32 (n : Int)])]))])
    (fun l => (l.map fun x => 1 + ((1 + ((x.2.1.2.map fun _ => 1).sum + 1) + 1) + ((x.2.2.map fun _ => 1).sum + 1) + 1) + 1).sum + 1) (fun l => (∀ x ∈ l, (IntKind.i64.min ≤ x.1 ∧ x.1 ≤ IntKind.i64.max) ∧ (True ∧ okN x.2.1.2) ∧ okN x.2.2) ∧ l.length ≤ maxLen) := Rd.slice measB u45 rd78 z78 (by decide)
theorem rd22 : Rd (@Rows.uptoBulk) Tryz.prog 23 (A := List Int) (fun l => [.sl 1 (l.map fun n => [AV.int .i64 n])]) (fun l => (l.map fun _ => 1).sum + 1) (fun l => (∀ n ∈ l, IntKind.i64.min ≤ n ∧ n ≤ IntKind.i64.max) ∧ l.length ≤ maxLen) := Rd.slice measB u22 (Rd.int measB u3) z3 (by decide)
theorem own0 : ownKnob Tryz.prog.godebug = none := by kernel_rfl
theorem laidOut0 : laidOutB Tryz.prog = true := by kernel_rfl
theorem read45 : Tryz.prog.readableRec 22 = true ∧ 22 < Tryz.prog.types.size := ⟨by kernel_rfl, of_decide_eq_true (by kernel_rfl)⟩
theorem read22 : Tryz.prog.readableRec 23 = true ∧ 23 < Tryz.prog.types.size := ⟨by kernel_rfl, of_decide_eq_true (by kernel_rfl)⟩
theorem bulk_cons {H : Type} {d : DataW H} {l : List (DataW H)} : Rows.uptoBulkAll (d :: l) = Rows.uptoBulk d + Rows.uptoBulkAll l := by rw [Rows.uptoBulkAll]
theorem bulk_app {H : Type} (l r : List (DataW H)) : Rows.uptoBulkAll (l ++ r) = Rows.uptoBulkAll l + Rows.uptoBulkAll r := by
  rw [bulkAll, bulkAll, bulkAll, List.map_append, List.sum_append]
theorem le_sum {α : Type} (f : α → Nat) {l : List α} {a : α} (h : a ∈ l) : f a ≤ (l.map f).sum := by
  induction l with
  | nil => cases h
  | cons x l ih =>
    rw [List.map_cons, List.sum_cons]
    rcases List.mem_cons.1 h with rfl | h
    · omega
    · have := ih h; omega
theorem len_le_sum {α : Type} (f : α → Nat) (hf : ∀ a, 1 ≤ f a) (l : List α) : l.length ≤ (l.map f).sum := by
  induction l with
  | nil => exact Nat.zero_le _
  | cons x l ih => have := hf x; rw [List.map_cons, List.sum_cons, List.length_cons]; omega
theorem ones_sum {α : Type} (l : List α) : (l.map fun _ => 1).sum = l.length := by
  induction l with
  | nil => rfl
  | cons x l ih => rw [List.map_cons, List.sum_cons, List.length_cons, ih]; omega
/-- A list of entries, out of what is read. -/
theorem arg45 {H : Type} {enc : TypeId × Value → H} {W : World} {base : Nat} {v : Value} {d : DataW H} {p : List MemPlace} (h : DataW.Trod enc Tryz.prog W 0 (fun _ => true) true 22 v d p) (hv : Value.okWide Tryz.prog W .any base 22 v) :
    ∃ l : List Ent, RTop (cfg0 W) v (EL l) ∧ topU (fun _ => False) (EL l) ∧ OkL l (Rows.uptoBulk d) ∧ l.length ≤ Rows.uptoBulk d := by
  obtain ⟨l, _, h2, h3, h4, h5⟩ := arg_one rd45 u45 rfl h hv
  refine ⟨l.map toE, ?_, ?_, fun e he => ?_, ?_⟩
  · have e : EL (l.map toE) = .sl 4 (l.map fun x => [AV.int .i64 x.1] ++ ([AV.bool x.2.1.1] ++ [AV.sl 1 (x.2.1.2.map fun (n : Nat) => [AV.int .u32 (n : Int)])] ++ [AV.sl 1 (x.2.2.map fun (n : Nat) => [AV.int .u32 (n : Int)])])) := by
      unfold EL; rw [List.map_map]; rfl
    rw [e]; exact h2
  · trivial
  · obtain ⟨x, hx, rfl⟩ := List.mem_map.1 he
    obtain ⟨k1, ⟨⟨_, k2, k3⟩, k4, k5⟩⟩ := h5.1 x hx
    have hs := Nat.le_trans (le_sum (fun x : REnt => 1 + ((1 + ((x.2.1.2.map fun _ => 1).sum + 1) + 1) + ((x.2.2.map fun _ => 1).sum + 1) + 1) + 1) hx) (Nat.le_of_succ_le h4)
    simp only [ones_sum] at hs
    have e32 : IntKind.u32.max = 4294967295 := rfl
    exact ⟨fun n hn => by have := k2 n hn; omega, fun n hn => by have := k4 n hn; omega, by show x.2.1.2.length ≤ _; omega, by show x.2.2.length ≤ _; omega⟩
  · rw [List.length_map]
    exact Nat.le_trans (len_le_sum (fun x : REnt => 1 + ((1 + ((x.2.1.2.map fun _ => 1).sum + 1) + 1) + ((x.2.2.map fun _ => 1).sum + 1) + 1) + 1) (fun a => by omega) l) (by omega)
theorem arg22 {H : Type} {enc : TypeId × Value → H} {W : World} {base : Nat} {v : Value} {d : DataW H} {p : List MemPlace} (h : DataW.Trod enc Tryz.prog W 0 (fun _ => true) true 23 v d p) (hv : Value.okWide Tryz.prog W .any base 23 v) :
    ∃ l : List Int, RTop (cfg0 W) v (IL l) ∧ topU (fun _ => False) (IL l) ∧ (∀ n ∈ l, -9223372036854775808 ≤ n ∧ n ≤ 9223372036854775807) ∧ l.length ≤ Rows.uptoBulk d := by
  obtain ⟨l, _, h2, h3, h4, h5⟩ := arg_one rd22 u22 rfl h hv
  refine ⟨l, h2, trivial, fun n hn => ?_, ?_⟩
  · exact h5.1 n hn
  · simp only [ones_sum] at h4; omega
theorem u56 : ∃ fs, Tryz.prog.underlying 42 = some (.struct fs) := let ⟨_, _, h, _⟩ := fieldsOf_two f56; ⟨_, h⟩
theorem read56 : Tryz.prog.readableRec 42 = true ∧ 42 < Tryz.prog.types.size := ⟨by kernel_rfl, of_decide_eq_true (by kernel_rfl)⟩
theorem arg56 {H : Type} {enc : TypeId × Value → H} {W : World} {base : Nat} {v : Value} {d : DataW H} {p : List MemPlace} (h : DataW.Trod enc Tryz.prog W 0 (fun _ => true) true 42 v d p) (hv : Value.okWide Tryz.prog W .any base 42 v) :
    ∃ x : Raw, RTop (cfg0 W) v (.agg x.cells) ∧ topU (fun _ => False) (.agg x.cells) ∧ x.Ok (Rows.uptoBulk d) := by
  obtain ⟨fs, hu⟩ := u56
  obtain ⟨x, h2, h3, h4, ⟨⟨_, k2, k3⟩, k4, k5⟩⟩ := arg_agg rd56 hu rfl h hv
  simp only [ones_sum] at h4
  have e32 : IntKind.u32.max = 4294967295 := rfl
  exact ⟨⟨x.1.1, x.1.2, x.2⟩, h2, h3, fun n hn => by have := k2 n hn; omega, fun n hn => by have := k4 n hn; omega, by show x.1.2.length ≤ _; omega, by show x.2.length ≤ _; omega⟩
theorem u57 : Tryz.prog.underlying 36 = some (.slice 42) := by kernel_rfl
theorem z56 : Tryz.prog.cellsOf 42 = 3 := by kernel_rfl
theorem read57 : Tryz.prog.readableRec 36 = true ∧ 36 < Tryz.prog.types.size := ⟨by kernel_rfl, of_decide_eq_true (by kernel_rfl)⟩
abbrev RRat := (Bool × List Nat) × List Nat
def toR (x : RRat) : Raw := ⟨x.1.1, x.1.2, x.2⟩
theorem rd57 : Rd (@Rows.uptoBulk) Tryz.prog 36 (A := List RRat) (fun l => [.sl 3 (l.map fun x => [AV.bool x.1.1] ++ [AV.sl 1 (x.1.2.map fun (n : Nat) => [AV.int .u32 (n : Int)])] ++ [AV.sl 1 (x.2.map fun (n : Nat) => [AV.int .u32 (n : Int)])])])
    (fun l => (l.map fun x => (1 + ((x.1.2.map fun _ => 1).sum + 1) + 1) + ((x.2.map fun _ => 1).sum + 1) + 1).sum + 1) (fun l => (∀ x ∈ l, (True ∧ okN x.1.2) ∧ okN x.2) ∧ l.length ≤ maxLen) := Rd.slice measB u57 rd56 z56 (by decide)
theorem arg57 {H : Type} {enc : TypeId × Value → H} {W : World} {base : Nat} {v : Value} {d : DataW H} {p : List MemPlace} (h : DataW.Trod enc Tryz.prog W 0 (fun _ => true) true 36 v d p) (hv : Value.okWide Tryz.prog W .any base 36 v) :
    ∃ l : List Raw, RTop (cfg0 W) v (QL l) ∧ topU (fun _ => False) (QL l) ∧ (∀ x ∈ l, x.Ok (Rows.uptoBulk d)) ∧ l.length ≤ Rows.uptoBulk d := by
  obtain ⟨l, _, h2, h3, h4, h5⟩ := arg_one rd57 u57 rfl h hv
  refine ⟨l.map toR, ?_, trivial, fun e he => ?_, ?_⟩
  · have e : QL (l.map toR) = .sl 3 (l.map fun x => [AV.bool x.1.1] ++ [AV.sl 1 (x.1.2.map fun (n : Nat) => [AV.int .u32 (n : Int)])] ++ [AV.sl 1 (x.2.map fun (n : Nat) => [AV.int .u32 (n : Int)])]) := by
      unfold QL; rw [List.map_map]; rfl
    rw [e]; exact h2
  · obtain ⟨x, hx, rfl⟩ := List.mem_map.1 he
    obtain ⟨⟨_, k2, k3⟩, k4, k5⟩ := h5.1 x hx
    have hs := Nat.le_trans (le_sum (fun x : RRat => (1 + ((x.1.2.map fun _ => 1).sum + 1) + 1) + ((x.2.map fun _ => 1).sum + 1) + 1) hx) (Nat.le_of_succ_le h4)
    simp only [ones_sum] at hs
    have e32 : IntKind.u32.max = 4294967295 := rfl
    exact ⟨fun n hn => by have := k2 n hn; omega, fun n hn => by have := k4 n hn; omega, by show x.1.2.length ≤ _; omega, by show x.2.length ≤ _; omega⟩
  · rw [List.length_map]
    exact Nat.le_trans (len_le_sum (fun x : RRat => (1 + ((x.1.2.map fun _ => 1).sum + 1) + 1) + ((x.2.map fun _ => 1).sum + 1) + 1) (fun a => by omega) l) (by omega)
theorem read3 : Tryz.prog.readableRec 3 = true ∧ 3 < Tryz.prog.types.size := ⟨by kernel_rfl, of_decide_eq_true (by kernel_rfl)⟩
theorem arg3 {H : Type} {enc : TypeId × Value → H} {W : World} {base : Nat} {v : Value} {d : DataW H} {p : List MemPlace} (h : DataW.Trod enc Tryz.prog W 0 (fun _ => true) true 3 v d p) (hv : Value.okWide Tryz.prog W .any base 3 v) :
    ∃ n : Int, RTop (cfg0 W) v (.int .i64 n) ∧ topU (fun _ => False) (.int .i64 n) ∧ (-9223372036854775808 ≤ n ∧ n ≤ 9223372036854775807) := by
  obtain ⟨n, _, h2, h3, h4, h5⟩ := arg_one (Rd.int measB u3) u3 rfl h hv
  exact ⟨n, h2, trivial, h5⟩
theorem u12 : Tryz.prog.underlying 5 = some (.int .u8) := by kernel_rfl
theorem read12 : Tryz.prog.readableRec 5 = true ∧ 5 < Tryz.prog.types.size := ⟨by kernel_rfl, of_decide_eq_true (by kernel_rfl)⟩
theorem arg12 {H : Type} {enc : TypeId × Value → H} {W : World} {base : Nat} {v : Value} {d : DataW H} {p : List MemPlace} (h : DataW.Trod enc Tryz.prog W 0 (fun _ => true) true 5 v d p) (hv : Value.okWide Tryz.prog W .any base 5 v) :
    ∃ n : Nat, RTop (cfg0 W) v (.int .u8 n) ∧ topU (fun _ => False) (.int .u8 n) ∧ n ≤ 255 := by
  obtain ⟨n, _, h2, h3, h4, h5⟩ := arg_one (Rd.nat measB u12 rfl) u12 rfl h hv
  have e8 : IntKind.u8.max = 255 := rfl
  exact ⟨n, h2, trivial, by omega⟩
end Go.Abs
