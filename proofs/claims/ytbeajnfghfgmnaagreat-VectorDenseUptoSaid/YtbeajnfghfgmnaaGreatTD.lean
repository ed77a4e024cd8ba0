/- Contracts and rules that the claim's text uses: YtzSrt1; YtzSrt2; YtzVec2b; YtzVec3; YtzVec4; YtzVec5; YtzVec6; YtzTape1; YtzLaw1; YtzLaw2; YtzLaw4; YtzLaw5; YtzLaw7; YtzIx1; YtzIx2; YtzIx3; YtzLaw9; YtzDen1. No condition. -/
import Derived.Test.YtbeajnfghfgmnaaGreatTC
/-! YtzSrt1: Stable sorting: two stretches exchanged; rotation. No condition. -/
set_option linter.unusedVariables false
set_option linter.unusedSimpArgs false
set_option maxRecDepth 100000
set_option maxHeartbeats 1000000
namespace Go.Abs
open Go.Proofs
@[go_sem] theorem R113 : Tryz.f113.results.toList = [] := rfl
@[go_sem] theorem R102 : Tryz.f102.results.toList = [] := rfl
theorem swapRange_spec (A U M V Z : List Ent) (n N : Nat) (hu : U.length = n) (hv : V.length = n) (hN : (A ++ U ++ M ++ V ++ Z).length = N) (hs : N ≤ 1099511627776) (h : Heap) (id m : Nat) (hid : h id = some ⟨4, (A ++ U ++ M ++ V ++ Z).map entC⟩) :
    ADet Tryz.prog 113 [.row id N 0 N, .int .i64 A.length, .int .i64 (A.length + n + M.length : Nat), .int .i64 n, .fn 43] h m (.tup []) (upd h id (some ⟨4, (A ++ V ++ M ++ U ++ Z).map entC⟩)) := by
  refine adet_of E0ok mixed Tryz.func113 (by kernel_rfl) rfl (by kernel_rfl) (Nat.le_of_ble_eq_true rfl) (none_put hid) fun N0 hn hmen _ => ⟨hmen.put hid (mapU _ _ _), ?_⟩
  have hidlt : id < N0 := (hmen id _ hid).1
  have e0 : swp A U M V Z 0 = A ++ U ++ M ++ V ++ Z := by simp [swp]
  have e1 : swp A U M V Z n = A ++ V ++ M ++ U ++ Z := by
    unfold swp; rw [List.take_of_length_le (by omega), List.take_of_length_le (by omega), List.drop_eq_nil_of_le (by omega), List.drop_eq_nil_of_le (by omega)]; simp
  simp only [List.length_append] at hN
  rw [← e0] at hid
  simp -implicitDefEqProofs (maxSteps := 2000000) (disch := omega) only [go_sem, simprocAttr, -List.reduceReplicate, condB_t, condB_f, hid]
  refine aw_loop (X := Nat) (fun i => ⟨mkS [(0, .row id N 0 N), (1, .int .i64 A.length), (2, .int .i64 (A.length + n + M.length : Nat)), (3, .int .i64 n), (10, .int .i64 i)], mkH h [(id, ⟨4, (swp A U M V Z i).map entC⟩)], N0⟩)
    (fun i => i ≤ n) (fun i => n - i) ⟨0, Nat.zero_le _, ?_⟩ ?_
  · refine Weak.head1w hid (by omega) (mapU _ _ _) (fun k0 b0 _ hb0 => hb0) (by omega) hmen ?_
    simp -implicitDefEqProofs (maxSteps := 2000000) (disch := omega) only [go_sem, simprocAttr, -List.reduceReplicate, condB_t, condB_f, AllP, AVle_same, AVle_int, AVle_nil, AVle_row, topU_int, topU_bool, topU_sl, topU_row, topU_ptr, topU_iptr, topU_fn, val, List.drop_length]
  · intro i hi
    have sl := swp_len (A := A) (M := M) (Z := Z) hu hv hi
    by_cases h0 : i < n
    · have g1 := swp_get1 (A := A) (M := M) (Z := Z) hu hv h0
      have g2 := swp_get2 (A := A) (M := M) (Z := Z) hu hv h0
      have g3 := swp_set (A := A) (M := M) (Z := Z) hu hv h0
      have g4 := g2
      have g5 := g3
      simp only [Nat.add_assoc] at g4 g5
      generalize U.getD i default = u at *
      generalize V.getD i default = v at *
      simp -implicitDefEqProofs (maxSteps := 2000000) (disch := omega) only [go_sem, simprocAttr, -List.reduceReplicate, condB_t, condB_f, g1, g2, g4]
      exact ⟨i + 1, h0, by omega, by (refine Weak.head1w (by simp -implicitDefEqProofs (maxSteps := 2000000) (disch := omega) only [go_sem, simprocAttr, -List.reduceReplicate, condB_t, condB_f, g1, g2, g4, g3, g5] <;> (try rfl)) (by omega) (mapU _ _ _) (fun k0 b0 hk0 hb0 => by have hk1 : (k0 = _) = False := eq_false hk0; have hk2 := (hmen k0 b0 hb0).1; (simp -implicitDefEqProofs (maxSteps := 2000000) (disch := omega) only [go_sem, simprocAttr, -List.reduceReplicate, condB_t, condB_f, upd, mkH, hk1]) <;> (try (repeat rw [if_neg (by omega)])) <;> exact hb0) (by omega) hmen ?_; simp -implicitDefEqProofs (maxSteps := 2000000) (disch := omega) only [go_sem, simprocAttr, -List.reduceReplicate, condB_t, condB_f, AllP, AVle_same, AVle_int, AVle_nil, AVle_row, topU_int, topU_bool, topU_sl, topU_row, topU_ptr, topU_iptr, topU_fn, val, List.drop_length, g1, g2, g4, g3, g5])⟩
    · obtain rfl : i = n := by omega
      rw [e1]
      simp -implicitDefEqProofs (maxSteps := 2000000) (disch := omega) only [go_sem, simprocAttr, -List.reduceReplicate, condB_t, condB_f]
      exact ⟨fun _ _ => rfl, .tup rfl nofun⟩
theorem rotate_spec (A U V Z : List Ent) (N : Nat) (hu : 0 < U.length) (hv : 0 < V.length) (hN : (A ++ U ++ V ++ Z).length = N) (hs : N ≤ 1099511627776) (h : Heap) (id m : Nat) (hid : h id = some ⟨4, (A ++ U ++ V ++ Z).map entC⟩) :
    ADet Tryz.prog 102 [.row id N 0 N, .int .i64 A.length, .int .i64 (A.length + U.length : Nat), .int .i64 (A.length + U.length + V.length : Nat), .fn 43] h m (.tup []) (upd h id (some ⟨4, (A ++ V ++ U ++ Z).map entC⟩)) := by
  refine adet_of E0ok mixed Tryz.func102 (by kernel_rfl) rfl (by kernel_rfl) (Nat.le_of_ble_eq_true rfl) (none_put hid) fun N0 hn hmen _ => ⟨hmen.put hid (mapU _ _ _), ?_⟩
  have hidlt : id < N0 := (hmen id _ hid).1
  have hN' : A.length + U.length + V.length + Z.length = N := by simp only [List.length_append] at hN; exact hN
  have d1 : A.length + U.length - A.length = U.length := by omega
  have d2 : A.length + U.length + V.length - (A.length + U.length) = V.length := by omega
  simp -implicitDefEqProofs (maxSteps := 2000000) (disch := omega) only [go_sem, simprocAttr, -List.reduceReplicate, condB_t, condB_f, hid, d1, d2]
  refine aw_loop (X := List Ent × List Ent × List Ent × List Ent) (fun x => ⟨mkS [(0, .row id N 0 N), (2, .int .i64 (A.length + U.length : Nat)), (4, .fn 43), (10, .int .i64 x.2.1.length), (11, .int .i64 x.2.2.1.length)], mkH h [(id, ⟨4, ((A ++ x.1) ++ x.2.1 ++ x.2.2.1 ++ (x.2.2.2 ++ Z)).map entC⟩)], N0⟩)
    (fun x => 0 < x.2.1.length ∧ 0 < x.2.2.1.length ∧ x.1.length + x.2.1.length = U.length ∧ x.2.2.1.length + x.2.2.2.length = V.length ∧ x.1 ++ x.2.2.1 ++ x.2.1 ++ x.2.2.2 = V ++ U) (fun x => x.2.1.length + x.2.2.1.length) ⟨([], U, V, []), ⟨hu, hv, by simp, by simp, by simp⟩, ?_⟩ ?_
  · refine Weak.head1w (by simpa using hid) (by omega) (mapU _ _ _) (fun k0 b0 _ hb0 => hb0) (by omega) hmen ?_
    simp -implicitDefEqProofs (maxSteps := 2000000) (disch := omega) only [go_sem, simprocAttr, -List.reduceReplicate, condB_t, condB_f, AllP, AVle_same, AVle_int, AVle_nil, AVle_row, topU_int, topU_bool, topU_sl, topU_row, topU_ptr, topU_iptr, topU_fn, val, List.drop_length]
  · rintro ⟨p, u, v, q⟩ ⟨h1, h2, h3, h4, h5⟩
    simp only at h1 h2 h3 h4 h5 ⊢
    rcases Nat.lt_trichotomy u.length v.length with g | g | g
    · obtain ⟨v1, v2, rfl, hv2⟩ : ∃ v1 v2, v = v1 ++ v2 ∧ v2.length = u.length := ⟨v.take (v.length - u.length), v.drop (v.length - u.length), (List.take_append_drop ..).symm, by rw [List.length_drop]; omega⟩
      rw [List.length_append] at g h4 h2
      have lv : (v1 ++ v2).length = v1.length + v2.length := List.length_append
      have e0 : (A ++ p) ++ u ++ (v1 ++ v2) ++ (q ++ Z) = (A ++ p) ++ u ++ v1 ++ v2 ++ (q ++ Z) := by simp
      rw [e0]
      have c := fun mm => swapRange_spec (A ++ p) u v1 v2 (q ++ Z) u.length N rfl hv2 (by simp only [List.length_append]; omega) hs (mkH h [(id, ⟨4, ((A ++ p) ++ u ++ v1 ++ v2 ++ (q ++ Z)).map entC⟩)]) id mm (by simp -implicitDefEqProofs (maxSteps := 2000000) (disch := omega) only [go_sem, simprocAttr, -List.reduceReplicate, condB_t, condB_f])
      simp only [List.length_append] at c
      have e1 : ((A.length + U.length : Nat) : Int) - (u.length : Int) = ((A.length + p.length : Nat) : Int) := by omega
      have e2 : ((A.length + (U.length + (v1.length + v2.length)) : Nat) : Int) - (u.length : Int) = ((A.length + p.length + u.length + v1.length : Nat) : Int) := by omega
      have e3 : ((v1.length + v2.length : Nat) : Int) - (u.length : Int) = (v1.length : Int) := by omega
      have e4 : A ++ p ++ v2 ++ v1 ++ u ++ (q ++ Z) = A ++ p ++ v2 ++ v1 ++ (u ++ q ++ Z) := by simp
      simp -implicitDefEqProofs (maxSteps := 2000000) (disch := omega) only [go_sem, simprocAttr, -List.reduceReplicate, condB_t, condB_f, lv, e1, e2]
      rw [show A.length + (p.length + (u.length + v1.length)) = A.length + p.length + u.length + v1.length by omega]
      refine callK_of (c _) ?_
      rw [e4]
      simp -implicitDefEqProofs (maxSteps := 2000000) (disch := omega) only [go_sem, simprocAttr, -List.reduceReplicate, condB_t, condB_f, e3]
      refine ⟨(p, v2, v1, u ++ q), ⟨by simp only; omega, by simp only; omega, by simp only; omega, by simp only [List.length_append]; omega, by rw [← h5]; simp⟩, by simp only; omega, ?_⟩
      simp only [hv2]
      (refine Weak.head1w (by simp -implicitDefEqProofs (maxSteps := 2000000) (disch := omega) only [go_sem, simprocAttr, -List.reduceReplicate, condB_t, condB_f] <;> (try rfl)) (by omega) (mapU _ _ _) (fun k0 b0 hk0 hb0 => by have hk1 : (k0 = _) = False := eq_false hk0; have hk2 := (hmen k0 b0 hb0).1; (simp -implicitDefEqProofs (maxSteps := 2000000) (disch := omega) only [go_sem, simprocAttr, -List.reduceReplicate, condB_t, condB_f, upd, mkH, hk1]) <;> (try (repeat rw [if_neg (by omega)])) <;> exact hb0) (by omega) hmen ?_; simp -implicitDefEqProofs (maxSteps := 2000000) (disch := omega) only [go_sem, simprocAttr, -List.reduceReplicate, condB_t, condB_f, AllP, AVle_same, AVle_int, AVle_nil, AVle_row, topU_int, topU_bool, topU_sl, topU_row, topU_ptr, topU_iptr, topU_fn, val, List.drop_length])
    · have c := fun mm => swapRange_spec (A ++ p) u [] v (q ++ Z) u.length N rfl g.symm (by simp only [List.length_append, List.length_nil]; omega) hs (mkH h [(id, ⟨4, ((A ++ p) ++ u ++ v ++ (q ++ Z)).map entC⟩)]) id mm (by rw [List.append_nil]; simp -implicitDefEqProofs (maxSteps := 2000000) (disch := omega) only [go_sem, simprocAttr, -List.reduceReplicate, condB_t, condB_f])
      simp only [List.length_append, List.length_nil, List.append_nil, Nat.add_zero] at c
      have e1 : ((A.length + U.length : Nat) : Int) - (u.length : Int) = ((A.length + p.length : Nat) : Int) := by omega
      have e2 : A.length + p.length + u.length = A.length + U.length := by omega
      have e4 : A ++ p ++ v ++ u ++ (q ++ Z) = A ++ V ++ U ++ Z := by
        have : p ++ (v ++ (u ++ (q ++ Z))) = (p ++ v ++ u ++ q) ++ Z := by simp
        simp only [List.append_assoc]
        rw [this, h5]; simp
      rw [e2, e4] at c
      rw [← g]
      simp -implicitDefEqProofs (maxSteps := 2000000) (disch := omega) only [go_sem, simprocAttr, -List.reduceReplicate, condB_t, condB_f, e1]
      refine callK_of (c _) ?_
      simp -implicitDefEqProofs (maxSteps := 2000000) (disch := omega) only [go_sem, simprocAttr, -List.reduceReplicate, condB_t, condB_f]
      exact .tup rfl nofun
    · obtain ⟨u1, u2, rfl, hu1⟩ : ∃ u1 u2, u = u1 ++ u2 ∧ u1.length = v.length := ⟨u.take v.length, u.drop v.length, (List.take_append_drop ..).symm, by rw [List.length_take]; omega⟩
      rw [List.length_append] at g h3 h1
      have lu : (u1 ++ u2).length = u1.length + u2.length := List.length_append
      have e0 : (A ++ p) ++ (u1 ++ u2) ++ v ++ (q ++ Z) = (A ++ p) ++ u1 ++ u2 ++ v ++ (q ++ Z) := by simp
      rw [e0]
      have c := fun mm => swapRange_spec (A ++ p) u1 u2 v (q ++ Z) v.length N hu1 rfl (by simp only [List.length_append]; omega) hs (mkH h [(id, ⟨4, ((A ++ p) ++ u1 ++ u2 ++ v ++ (q ++ Z)).map entC⟩)]) id mm (by simp -implicitDefEqProofs (maxSteps := 2000000) (disch := omega) only [go_sem, simprocAttr, -List.reduceReplicate, condB_t, condB_f])
      simp only [List.length_append] at c
      have e1 : ((A.length + U.length : Nat) : Int) - ((u1.length + u2.length : Nat) : Int) = ((A.length + p.length : Nat) : Int) := by omega
      have e2 : A.length + p.length + v.length + u2.length = A.length + U.length := by omega
      have e3 : ((u1.length + u2.length : Nat) : Int) - (v.length : Int) = (u2.length : Int) := by omega
      have e4 : A ++ p ++ v ++ u2 ++ u1 ++ (q ++ Z) = A ++ (p ++ v) ++ u2 ++ u1 ++ (q ++ Z) := by simp
      rw [e2] at c
      simp -implicitDefEqProofs (maxSteps := 2000000) (disch := omega) only [go_sem, simprocAttr, -List.reduceReplicate, condB_t, condB_f, lu, e1]
      refine callK_of (c _) ?_
      rw [e4]
      simp -implicitDefEqProofs (maxSteps := 2000000) (disch := omega) only [go_sem, simprocAttr, -List.reduceReplicate, condB_t, condB_f, e3]
      refine ⟨(p ++ v, u2, u1, q), ⟨by simp only; omega, by simp only; omega, by simp only [List.length_append]; omega, by simp only; omega, by rw [← h5]; simp⟩, by simp only; omega, ?_⟩
      simp only [hu1]
      (refine Weak.head1w (by simp -implicitDefEqProofs (maxSteps := 2000000) (disch := omega) only [go_sem, simprocAttr, -List.reduceReplicate, condB_t, condB_f] <;> (try rfl)) (by omega) (mapU _ _ _) (fun k0 b0 hk0 hb0 => by have hk1 : (k0 = _) = False := eq_false hk0; have hk2 := (hmen k0 b0 hb0).1; (simp -implicitDefEqProofs (maxSteps := 2000000) (disch := omega) only [go_sem, simprocAttr, -List.reduceReplicate, condB_t, condB_f, upd, mkH, hk1]) <;> (try (repeat rw [if_neg (by omega)])) <;> exact hb0) (by omega) hmen ?_; simp -implicitDefEqProofs (maxSteps := 2000000) (disch := omega) only [go_sem, simprocAttr, -List.reduceReplicate, condB_t, condB_f, AllP, AVle_same, AVle_int, AVle_nil, AVle_row, topU_int, topU_bool, topU_sl, topU_row, topU_ptr, topU_iptr, topU_fn, val, List.drop_length])
end Go.Abs
/-! YtzSrt2: Stable sorting: merging. No condition. -/
set_option linter.unusedVariables false
set_option linter.unusedSimpArgs false
set_option maxRecDepth 100000
set_option maxHeartbeats 1000000
namespace Go.Abs
open Go.Proofs
@[go_sem] theorem R88 : Tryz.f88.results.toList = [] := rfl
set_option maxHeartbeats 8000000
theorem symMerge_spec : ∀ (n : Nat) (A X Y Z : List Ent) (N : Nat), X.length + Y.length = n → 0 < X.length → 0 < Y.length → SortE X → SortE Y → (A ++ X ++ Y ++ Z).length = N → N ≤ 1099511627776 → ∀ (h : Heap) (id m : Nat), h id = some ⟨4, (A ++ X ++ Y ++ Z).map entC⟩ →
    ADet Tryz.prog 88 [.row id N 0 N, .int .i64 A.length, .int .i64 (A.length + X.length : Nat), .int .i64 (A.length + X.length + Y.length : Nat), .fn 43] h m (.tup []) (upd h id (some ⟨4, (A ++ isort (X ++ Y) ++ Z).map entC⟩)) := by
  intro n
  induction n using Nat.strongRecOn with
  | _ n ih =>
  intro A X Y Z N hXY hx0 hy0 hX hY hN hs h id m hid
  refine adet_of E0ok mixed Tryz.func88 (by kernel_rfl) rfl (by kernel_rfl) (Nat.le_of_ble_eq_true rfl) (none_put hid) fun N0 hn hmen _ => ⟨hmen.put hid (mapU _ _ _), ?_⟩
  have hidlt : id < N0 := (hmen id _ hid).1
  have hN' : A.length + X.length + Y.length + Z.length = N := by simp only [List.length_append] at hN; exact hN
  have d1 : ((A.length + X.length : Nat) : Int) - (A.length : Int) = (X.length : Int) := by omega
  have d2 : ((A.length + X.length + Y.length : Nat) : Int) - ((A.length + X.length : Nat) : Int) = (Y.length : Int) := by omega
  by_cases hc1 : X.length = 1
  · obtain ⟨x, rfl⟩ : ∃ x, X = [x] := List.length_eq_one_iff.1 hc1
    have e0 : A ++ [x] ++ Y ++ Z = mid A Y x 0 Z := by simp [mid]
    rw [e0] at hid
    simp only [List.length_cons, List.length_nil, Nat.zero_add] at d1 d2 hN' ⊢
    simp -implicitDefEqProofs (maxSteps := 2000000) (disch := omega) only [go_sem, simprocAttr, -List.reduceReplicate, condB_t, condB_f, hid, d1]
    refine aw_loop (X := Nat × Nat) (fun x' => ⟨mkS [(0, .row id N 0 N), (1, .int .i64 A.length), (4, .fn 43), (10, .int .i64 (A.length + 1 + x'.1 : Nat)), (11, .int .i64 (A.length + 1 + x'.2 : Nat))], mkH h [(id, ⟨4, (mid A Y x 0 Z).map entC⟩)], N0⟩)
      (fun x' => x'.1 ≤ x'.2 ∧ x'.2 ≤ Y.length ∧ (∀ y ∈ Y.take x'.1, y.1 < x.1) ∧ ∀ y ∈ Y.drop x'.2, x.1 ≤ y.1) (fun x' => x'.2 - x'.1) ⟨(0, Y.length), ⟨Nat.zero_le _, Nat.le_refl _, nofun, by rw [List.drop_length]; exact nofun⟩, ?_⟩ ?_
    · refine Weak.head1w hid (by omega) (mapU _ _ _) (fun k0 b0 _ hb0 => hb0) (by omega) hmen ?_
      simp -implicitDefEqProofs (maxSteps := 2000000) (disch := omega) only [go_sem, simprocAttr, -List.reduceReplicate, condB_t, condB_f, AllP, AVle_same, AVle_int, AVle_nil, AVle_row, topU_int, topU_bool, topU_sl, topU_row, topU_ptr, topU_iptr, topU_fn, val, List.drop_length]
    · rintro ⟨i, j⟩ ⟨h1, h2, h3, h4⟩
      simp only at h1 h2 h3 h4 ⊢
      by_cases hij : i < j
      · have ml := mid_len A Y x 0 Z
        obtain ⟨p, hp, hp1, hp2⟩ : ∃ p, (A.length + (1 + (i + (A.length + (1 + j))))) / 2 = A.length + (p + 1) ∧ i ≤ p ∧ p < j := ⟨(i + j) / 2, by omega, by omega, by omega⟩
        have g1 := mid_get0 (A := A) (T := Y) (e := x) (p := p) (R := Z) (by omega)
        have g2 := mid_get (A := A) (T := Y) (e := x) (j := 0) (R := Z) (by omega)
        rw [Nat.add_zero] at g2
        have c := sortedLt_spec (Y.getD p default) x
        unfold entC at c
        simp -implicitDefEqProofs (maxSteps := 2000000) (disch := omega) only [go_sem, simprocAttr, -List.reduceReplicate, condB_t, condB_f, hp, g1, g2]
        refine pcallK_pure c ?_
        unfold cmpI
        by_cases hlt : (Y.getD p default).1 < x.1
        · rw [if_pos hlt]
          simp -implicitDefEqProofs (maxSteps := 2000000) (disch := omega) only [go_sem, simprocAttr, -List.reduceReplicate, condB_t, condB_f]
          exact ⟨(p + 1, j), ⟨hp2, h2, take_lt_all hY (by omega) hlt, h4⟩, by simp only; omega, by (refine Weak.head1w (by simp -implicitDefEqProofs (maxSteps := 2000000) (disch := omega) only [go_sem, simprocAttr, -List.reduceReplicate, condB_t, condB_f] <;> (try rfl)) (by omega) (mapU _ _ _) (fun k0 b0 hk0 hb0 => by have hk1 : (k0 = _) = False := eq_false hk0; have hk2 := (hmen k0 b0 hb0).1; (simp -implicitDefEqProofs (maxSteps := 2000000) (disch := omega) only [go_sem, simprocAttr, -List.reduceReplicate, condB_t, condB_f, upd, mkH, hk1]) <;> (try (repeat rw [if_neg (by omega)])) <;> exact hb0) (by omega) hmen ?_; simp -implicitDefEqProofs (maxSteps := 2000000) (disch := omega) only [go_sem, simprocAttr, -List.reduceReplicate, condB_t, condB_f, AllP, AVle_same, AVle_int, AVle_nil, AVle_row, topU_int, topU_bool, topU_sl, topU_row, topU_ptr, topU_iptr, topU_fn, val, List.drop_length])⟩
        · rw [if_neg hlt]
          have h5 := drop_ge_all hY (p := p) (v := x.1) (by omega) (by omega)
          by_cases heq : (Y.getD p default).1 = x.1
          · rw [if_pos heq]
            simp -implicitDefEqProofs (maxSteps := 2000000) (disch := omega) only [go_sem, simprocAttr, -List.reduceReplicate, condB_t, condB_f]
            exact ⟨(i, p), ⟨hp1, by simp only; omega, h3, h5⟩, by simp only; omega, by (refine Weak.head1w (by simp -implicitDefEqProofs (maxSteps := 2000000) (disch := omega) only [go_sem, simprocAttr, -List.reduceReplicate, condB_t, condB_f] <;> (try rfl)) (by omega) (mapU _ _ _) (fun k0 b0 hk0 hb0 => by have hk1 : (k0 = _) = False := eq_false hk0; have hk2 := (hmen k0 b0 hb0).1; (simp -implicitDefEqProofs (maxSteps := 2000000) (disch := omega) only [go_sem, simprocAttr, -List.reduceReplicate, condB_t, condB_f, upd, mkH, hk1]) <;> (try (repeat rw [if_neg (by omega)])) <;> exact hb0) (by omega) hmen ?_; simp -implicitDefEqProofs (maxSteps := 2000000) (disch := omega) only [go_sem, simprocAttr, -List.reduceReplicate, condB_t, condB_f, AllP, AVle_same, AVle_int, AVle_nil, AVle_row, topU_int, topU_bool, topU_sl, topU_row, topU_ptr, topU_iptr, topU_fn, val, List.drop_length])⟩
          · rw [if_neg heq]
            simp -implicitDefEqProofs (maxSteps := 2000000) (disch := omega) only [go_sem, simprocAttr, -List.reduceReplicate, condB_t, condB_f]
            exact ⟨(i, p), ⟨hp1, by simp only; omega, h3, h5⟩, by simp only; omega, by (refine Weak.head1w (by simp -implicitDefEqProofs (maxSteps := 2000000) (disch := omega) only [go_sem, simprocAttr, -List.reduceReplicate, condB_t, condB_f] <;> (try rfl)) (by omega) (mapU _ _ _) (fun k0 b0 hk0 hb0 => by have hk1 : (k0 = _) = False := eq_false hk0; have hk2 := (hmen k0 b0 hb0).1; (simp -implicitDefEqProofs (maxSteps := 2000000) (disch := omega) only [go_sem, simprocAttr, -List.reduceReplicate, condB_t, condB_f, upd, mkH, hk1]) <;> (try (repeat rw [if_neg (by omega)])) <;> exact hb0) (by omega) hmen ?_; simp -implicitDefEqProofs (maxSteps := 2000000) (disch := omega) only [go_sem, simprocAttr, -List.reduceReplicate, condB_t, condB_f, AllP, AVle_same, AVle_int, AVle_nil, AVle_row, topU_int, topU_bool, topU_sl, topU_row, topU_ptr, topU_iptr, topU_fn, val, List.drop_length])⟩
      · obtain rfl : i = j := by omega
        have e9 := isort_left (x := x) hY h3 h4
        simp -implicitDefEqProofs (maxSteps := 2000000) (disch := omega) only [go_sem, simprocAttr, -List.reduceReplicate, condB_t, condB_f]
        refine aw_loop (X := Nat) (fun q => ⟨mkS [(0, .row id N 0 N), (10, .int .i64 (A.length + 1 + i : Nat)), (13, .int .i64 (A.length + q : Nat))], mkH h [(id, ⟨4, (mid A Y x q Z).map entC⟩)], N0⟩)
          (fun q => q ≤ i) (fun q => i - q) ⟨0, Nat.zero_le _, ?_⟩ ?_
        · (refine Weak.head1w (by simp -implicitDefEqProofs (maxSteps := 2000000) (disch := omega) only [go_sem, simprocAttr, -List.reduceReplicate, condB_t, condB_f] <;> (try rfl)) (by omega) (mapU _ _ _) (fun k0 b0 hk0 hb0 => by have hk1 : (k0 = _) = False := eq_false hk0; have hk2 := (hmen k0 b0 hb0).1; (simp -implicitDefEqProofs (maxSteps := 2000000) (disch := omega) only [go_sem, simprocAttr, -List.reduceReplicate, condB_t, condB_f, upd, mkH, hk1]) <;> (try (repeat rw [if_neg (by omega)])) <;> exact hb0) (by omega) hmen ?_; simp -implicitDefEqProofs (maxSteps := 2000000) (disch := omega) only [go_sem, simprocAttr, -List.reduceReplicate, condB_t, condB_f, AllP, AVle_same, AVle_int, AVle_nil, AVle_row, topU_int, topU_bool, topU_sl, topU_row, topU_ptr, topU_iptr, topU_fn, val, List.drop_length])
        · intro q hq
          have ml := mid_len A Y x q Z
          by_cases h0 : q < i
          · have g1 := mid_get (A := A) (T := Y) (e := x) (j := q) (R := Z) (by omega)
            have g2 := mid_getR (A := A) (T := Y) (e := x) (j := q) (R := Z) (by omega)
            have g3 := mid_swapR (A := A) (T := Y) (e := x) (j := q) (R := Z) (by omega)
            simp -implicitDefEqProofs (maxSteps := 2000000) (disch := omega) only [go_sem, simprocAttr, -List.reduceReplicate, condB_t, condB_f, g1, g2]
            exact ⟨q + 1, h0, by omega, by (refine Weak.head1w (by simp -implicitDefEqProofs (maxSteps := 2000000) (disch := omega) only [go_sem, simprocAttr, -List.reduceReplicate, condB_t, condB_f, g1, g2, g3] <;> (try rfl)) (by omega) (mapU _ _ _) (fun k0 b0 hk0 hb0 => by have hk1 : (k0 = _) = False := eq_false hk0; have hk2 := (hmen k0 b0 hb0).1; (simp -implicitDefEqProofs (maxSteps := 2000000) (disch := omega) only [go_sem, simprocAttr, -List.reduceReplicate, condB_t, condB_f, upd, mkH, hk1]) <;> (try (repeat rw [if_neg (by omega)])) <;> exact hb0) (by omega) hmen ?_; simp -implicitDefEqProofs (maxSteps := 2000000) (disch := omega) only [go_sem, simprocAttr, -List.reduceReplicate, condB_t, condB_f, AllP, AVle_same, AVle_int, AVle_nil, AVle_row, topU_int, topU_bool, topU_sl, topU_row, topU_ptr, topU_iptr, topU_fn, val, List.drop_length, g1, g2, g3])⟩
          · obtain rfl : q = i := by omega
            have e1 : mid A Y x q Z = A ++ isort ([x] ++ Y) ++ Z := by rw [e9]; rfl
            rw [e1]
            simp -implicitDefEqProofs (maxSteps := 2000000) (disch := omega) only [go_sem, simprocAttr, -List.reduceReplicate, condB_t, condB_f]
            exact ⟨fun _ _ => rfl, .tup rfl nofun⟩
  by_cases hc2 : Y.length = 1
  · obtain ⟨y, rfl⟩ : ∃ y, Y = [y] := List.length_eq_one_iff.1 hc2
    have e0 : A ++ X ++ [y] ++ Z = mid A X y X.length Z := by simp [mid]
    rw [e0] at hid
    simp only [List.length_cons, List.length_nil, Nat.zero_add] at d1 d2 hN' ⊢
    simp -implicitDefEqProofs (maxSteps := 2000000) (disch := omega) only [go_sem, simprocAttr, -List.reduceReplicate, condB_t, condB_f, hid, d1, d2]
    refine aw_loop (X := Nat × Nat) (fun x' => ⟨mkS [(0, .row id N 0 N), (2, .int .i64 (A.length + X.length : Nat)), (4, .fn 43), (14, .int .i64 (A.length + x'.1 : Nat)), (15, .int .i64 (A.length + x'.2 : Nat))], mkH h [(id, ⟨4, (mid A X y X.length Z).map entC⟩)], N0⟩)
      (fun x' => x'.1 ≤ x'.2 ∧ x'.2 ≤ X.length ∧ (∀ x ∈ X.take x'.1, x.1 ≤ y.1) ∧ ∀ x ∈ X.drop x'.2, y.1 < x.1) (fun x' => x'.2 - x'.1) ⟨(0, X.length), ⟨Nat.zero_le _, Nat.le_refl _, nofun, by rw [List.drop_length]; exact nofun⟩, ?_⟩ ?_
    · refine Weak.head1w hid (by omega) (mapU _ _ _) (fun k0 b0 _ hb0 => hb0) (by omega) hmen ?_
      simp -implicitDefEqProofs (maxSteps := 2000000) (disch := omega) only [go_sem, simprocAttr, -List.reduceReplicate, condB_t, condB_f, AllP, AVle_same, AVle_int, AVle_nil, AVle_row, topU_int, topU_bool, topU_sl, topU_row, topU_ptr, topU_iptr, topU_fn, val, List.drop_length]
    · rintro ⟨i, j⟩ ⟨h1, h2, h3, h4⟩
      simp only at h1 h2 h3 h4 ⊢
      by_cases hij : i < j
      · have ml := mid_len A X y X.length Z
        obtain ⟨p, hp, hp1, hp2⟩ : ∃ p, (A.length + (i + (A.length + j))) / 2 = A.length + p ∧ i ≤ p ∧ p < j := ⟨(i + j) / 2, by omega, by omega, by omega⟩
        have g1 := mid_getL (A := A) (T := X) (e := y) (j := X.length) (p := p) (R := Z) (by omega) (by omega)
        have g2 := mid_get (A := A) (T := X) (e := y) (j := X.length) (R := Z) (by omega)
        have c := sortedLt_spec y (X.getD p default)
        unfold entC at c
        simp -implicitDefEqProofs (maxSteps := 2000000) (disch := omega) only [go_sem, simprocAttr, -List.reduceReplicate, condB_t, condB_f, hp, g1, g2]
        refine pcallK_pure c ?_
        unfold cmpI
        by_cases hlt : y.1 < (X.getD p default).1
        · rw [if_pos hlt]
          simp -implicitDefEqProofs (maxSteps := 2000000) (disch := omega) only [go_sem, simprocAttr, -List.reduceReplicate, condB_t, condB_f]
          exact ⟨(i, p), ⟨hp1, by simp only; omega, h3, drop_gt_all hX (by omega) hlt⟩, by simp only; omega, by (refine Weak.head1w (by simp -implicitDefEqProofs (maxSteps := 2000000) (disch := omega) only [go_sem, simprocAttr, -List.reduceReplicate, condB_t, condB_f] <;> (try rfl)) (by omega) (mapU _ _ _) (fun k0 b0 hk0 hb0 => by have hk1 : (k0 = _) = False := eq_false hk0; have hk2 := (hmen k0 b0 hb0).1; (simp -implicitDefEqProofs (maxSteps := 2000000) (disch := omega) only [go_sem, simprocAttr, -List.reduceReplicate, condB_t, condB_f, upd, mkH, hk1]) <;> (try (repeat rw [if_neg (by omega)])) <;> exact hb0) (by omega) hmen ?_; simp -implicitDefEqProofs (maxSteps := 2000000) (disch := omega) only [go_sem, simprocAttr, -List.reduceReplicate, condB_t, condB_f, AllP, AVle_same, AVle_int, AVle_nil, AVle_row, topU_int, topU_bool, topU_sl, topU_row, topU_ptr, topU_iptr, topU_fn, val, List.drop_length])⟩
        · rw [if_neg hlt]
          have h5 := take_le_all hX (p := p) (v := y.1) (by omega) (by omega)
          by_cases heq : y.1 = (X.getD p default).1
          · rw [if_pos heq]
            simp -implicitDefEqProofs (maxSteps := 2000000) (disch := omega) only [go_sem, simprocAttr, -List.reduceReplicate, condB_t, condB_f]
            exact ⟨(p + 1, j), ⟨hp2, h2, h5, h4⟩, by simp only; omega, by (refine Weak.head1w (by simp -implicitDefEqProofs (maxSteps := 2000000) (disch := omega) only [go_sem, simprocAttr, -List.reduceReplicate, condB_t, condB_f] <;> (try rfl)) (by omega) (mapU _ _ _) (fun k0 b0 hk0 hb0 => by have hk1 : (k0 = _) = False := eq_false hk0; have hk2 := (hmen k0 b0 hb0).1; (simp -implicitDefEqProofs (maxSteps := 2000000) (disch := omega) only [go_sem, simprocAttr, -List.reduceReplicate, condB_t, condB_f, upd, mkH, hk1]) <;> (try (repeat rw [if_neg (by omega)])) <;> exact hb0) (by omega) hmen ?_; simp -implicitDefEqProofs (maxSteps := 2000000) (disch := omega) only [go_sem, simprocAttr, -List.reduceReplicate, condB_t, condB_f, AllP, AVle_same, AVle_int, AVle_nil, AVle_row, topU_int, topU_bool, topU_sl, topU_row, topU_ptr, topU_iptr, topU_fn, val, List.drop_length])⟩
          · rw [if_neg heq]
            simp -implicitDefEqProofs (maxSteps := 2000000) (disch := omega) only [go_sem, simprocAttr, -List.reduceReplicate, condB_t, condB_f]
            exact ⟨(p + 1, j), ⟨hp2, h2, h5, h4⟩, by simp only; omega, by (refine Weak.head1w (by simp -implicitDefEqProofs (maxSteps := 2000000) (disch := omega) only [go_sem, simprocAttr, -List.reduceReplicate, condB_t, condB_f] <;> (try rfl)) (by omega) (mapU _ _ _) (fun k0 b0 hk0 hb0 => by have hk1 : (k0 = _) = False := eq_false hk0; have hk2 := (hmen k0 b0 hb0).1; (simp -implicitDefEqProofs (maxSteps := 2000000) (disch := omega) only [go_sem, simprocAttr, -List.reduceReplicate, condB_t, condB_f, upd, mkH, hk1]) <;> (try (repeat rw [if_neg (by omega)])) <;> exact hb0) (by omega) hmen ?_; simp -implicitDefEqProofs (maxSteps := 2000000) (disch := omega) only [go_sem, simprocAttr, -List.reduceReplicate, condB_t, condB_f, AllP, AVle_same, AVle_int, AVle_nil, AVle_row, topU_int, topU_bool, topU_sl, topU_row, topU_ptr, topU_iptr, topU_fn, val, List.drop_length])⟩
      · obtain rfl : i = j := by omega
        have e9 := isort_right (y := y) hX
        simp -implicitDefEqProofs (maxSteps := 2000000) (disch := omega) only [go_sem, simprocAttr, -List.reduceReplicate, condB_t, condB_f]
        refine aw_loop (X := Nat) (fun q => ⟨mkS [(0, .row id N 0 N), (14, .int .i64 (A.length + i : Nat)), (17, .int .i64 (A.length + q : Nat))], mkH h [(id, ⟨4, (mid A X y q Z).map entC⟩)], N0⟩)
          (fun q => i ≤ q ∧ q ≤ X.length) (fun q => q) ⟨X.length, ⟨h2, Nat.le_refl _⟩, ?_⟩ ?_
        · (refine Weak.head1w (by simp -implicitDefEqProofs (maxSteps := 2000000) (disch := omega) only [go_sem, simprocAttr, -List.reduceReplicate, condB_t, condB_f] <;> (try rfl)) (by omega) (mapU _ _ _) (fun k0 b0 hk0 hb0 => by have hk1 : (k0 = _) = False := eq_false hk0; have hk2 := (hmen k0 b0 hb0).1; (simp -implicitDefEqProofs (maxSteps := 2000000) (disch := omega) only [go_sem, simprocAttr, -List.reduceReplicate, condB_t, condB_f, upd, mkH, hk1]) <;> (try (repeat rw [if_neg (by omega)])) <;> exact hb0) (by omega) hmen ?_; simp -implicitDefEqProofs (maxSteps := 2000000) (disch := omega) only [go_sem, simprocAttr, -List.reduceReplicate, condB_t, condB_f, AllP, AVle_same, AVle_int, AVle_nil, AVle_row, topU_int, topU_bool, topU_sl, topU_row, topU_ptr, topU_iptr, topU_fn, val, List.drop_length])
        · rintro q ⟨hq, hq2⟩
          have ml := mid_len A X y q Z
          by_cases h0 : i < q
          · obtain ⟨q, rfl⟩ : ∃ r, q = r + 1 := ⟨q - 1, by omega⟩
            have g1 := mid_get (A := A) (T := X) (e := y) (j := q + 1) (R := Z) (by omega)
            have g2 := mid_get1 (A := A) (T := X) (e := y) (j := q) (R := Z) (by omega)
            have g3 := mid_swap (A := A) (T := X) (e := y) (j := q) (R := Z) (by omega)
            have d0 : A.length + (q + 1) - 1 = A.length + q := by omega
            simp -implicitDefEqProofs (maxSteps := 2000000) (disch := omega) only [go_sem, simprocAttr, -List.reduceReplicate, condB_t, condB_f, g1, d0, g2]
            exact ⟨q, ⟨by omega, by omega⟩, by omega, by (refine Weak.head1w (by simp -implicitDefEqProofs (maxSteps := 2000000) (disch := omega) only [go_sem, simprocAttr, -List.reduceReplicate, condB_t, condB_f, g1, d0, g2, g3] <;> (try rfl)) (by omega) (mapU _ _ _) (fun k0 b0 hk0 hb0 => by have hk1 : (k0 = _) = False := eq_false hk0; have hk2 := (hmen k0 b0 hb0).1; (simp -implicitDefEqProofs (maxSteps := 2000000) (disch := omega) only [go_sem, simprocAttr, -List.reduceReplicate, condB_t, condB_f, upd, mkH, hk1]) <;> (try (repeat rw [if_neg (by omega)])) <;> exact hb0) (by omega) hmen ?_; simp -implicitDefEqProofs (maxSteps := 2000000) (disch := omega) only [go_sem, simprocAttr, -List.reduceReplicate, condB_t, condB_f, AllP, AVle_same, AVle_int, AVle_nil, AVle_row, topU_int, topU_bool, topU_sl, topU_row, topU_ptr, topU_iptr, topU_fn, val, List.drop_length, g1, d0, g2, g3])⟩
          · obtain rfl : q = i := by omega
            have e1 : mid A X y q Z = A ++ isort (X ++ [y]) ++ Z := by
              rw [e9]
              refine mid_ins hX h2 (fun h0 => ?_) h4
              refine h3 _ ?_
              rw [List.getD_eq_getElem?_getD, List.getElem?_eq_getElem (by omega)]
              exact List.mem_take_iff_getElem.2 ⟨q - 1, by omega, rfl⟩
            rw [e1]
            simp -implicitDefEqProofs (maxSteps := 2000000) (disch := omega) only [go_sem, simprocAttr, -List.reduceReplicate, condB_t, condB_f]
            exact ⟨fun _ _ => rfl, .tup rfl nofun⟩
  obtain ⟨c, hc⟩ : ∃ c, c = (X.length + Y.length) / 2 := ⟨_, rfl⟩
  have hM : (A.length + (A.length + (X.length + Y.length))) / 2 = A.length + c := by omega
  obtain ⟨s0, t0, q1, q2, q3, q4, q5, q6, q7, q8⟩ : ∃ s0 t0 : Nat, s0 ≤ t0 ∧ t0 ≤ X.length ∧ t0 ≤ c ∧ (s0 = 0 ∨ s0 + Y.length = c) ∧ c ≤ s0 + Y.length ∧ (t0 = X.length ∨ t0 = c) ∧ (c < X.length → s0 + Y.length = c ∧ t0 = c) ∧ (X.length ≤ c → s0 = 0 ∧ t0 = X.length) := ⟨c - Y.length, min X.length c, by omega, by omega, by omega, by omega, by omega, by omega, by omega, by omega⟩
  apply cutP
  · intro tail
    by_cases hg : c < X.length
    · have z1 : ((A.length + (c + (A.length + X.length)) : Nat) : Int) - ((A.length + (X.length + Y.length) : Nat) : Int) = ((A.length + s0 : Nat) : Int) := by omega
      have z2 : c = t0 := (q7 hg).2.symm
      simp -implicitDefEqProofs (maxSteps := 2000000) (disch := omega) only [go_sem, simprocAttr, -List.reduceReplicate, condB_t, condB_f, hid, d1, d2, hM, z1]
      refine aw_weak (Weak.head1w (l := [(0, .row id N 0 N), (1, .int .i64 A.length), (2, .int .i64 (A.length + X.length : Nat)), (3, .int .i64 (A.length + (X.length + Y.length) : Nat)), (4, .fn 43), (18, .int .i64 (A.length + c : Nat)), (19, .int .i64 (A.length + (c + (A.length + X.length)) : Nat)), (20, .int .i64 (A.length + s0 : Nat)), (21, .int .i64 (A.length + t0 : Nat)), (22, .int .i64 (A.length + (c + (A.length + X.length)) - 1 : Nat))]) hid (by omega) (mapU _ _ _) (fun k0 b0 _ hb0 => hb0) (by omega) hmen (by rw [← z2]; simp -implicitDefEqProofs (maxSteps := 2000000) (disch := omega) only [go_sem, simprocAttr, -List.reduceReplicate, condB_t, condB_f, AllP, AVle_same, AVle_int, AVle_nil, AVle_row, topU_int, topU_bool, topU_sl, topU_row, topU_ptr, topU_iptr, topU_fn, val, List.drop_length])) ?_
      exact tail.out
    · obtain ⟨z2, z3⟩ := q8 (by omega)
      simp -implicitDefEqProofs (maxSteps := 2000000) (disch := omega) only [go_sem, simprocAttr, -List.reduceReplicate, condB_t, condB_f, hid, d1, d2, hM]
      refine aw_weak (Weak.head1w (l := [(0, .row id N 0 N), (1, .int .i64 A.length), (2, .int .i64 (A.length + X.length : Nat)), (3, .int .i64 (A.length + (X.length + Y.length) : Nat)), (4, .fn 43), (18, .int .i64 (A.length + c : Nat)), (19, .int .i64 (A.length + (c + (A.length + X.length)) : Nat)), (20, .int .i64 (A.length + s0 : Nat)), (21, .int .i64 (A.length + t0 : Nat)), (22, .int .i64 (A.length + (c + (A.length + X.length)) - 1 : Nat))]) hid (by omega) (mapU _ _ _) (fun k0 b0 _ hb0 => hb0) (by omega) hmen (by rw [z2, z3]; simp -implicitDefEqProofs (maxSteps := 2000000) (disch := omega) only [go_sem, simprocAttr, -List.reduceReplicate, condB_t, condB_f, AllP, AVle_same, AVle_int, AVle_nil, AVle_row, topU_int, topU_bool, topU_sl, topU_row, topU_ptr, topU_iptr, topU_fn, val, List.drop_length])) ?_
      exact tail.out
  · have lD : (A ++ X ++ Y ++ Z).length = N := hN
    refine aw_loop (X := Nat × Nat) (fun x' => ⟨mkS [(0, .row id N 0 N), (1, .int .i64 A.length), (2, .int .i64 (A.length + X.length : Nat)), (3, .int .i64 (A.length + (X.length + Y.length) : Nat)), (4, .fn 43), (18, .int .i64 (A.length + c : Nat)), (19, .int .i64 (A.length + (c + (A.length + X.length)) : Nat)), (20, .int .i64 (A.length + x'.1 : Nat)), (21, .int .i64 (A.length + x'.2 : Nat)), (22, .int .i64 (A.length + (c + (A.length + X.length)) - 1 : Nat))], mkH h [(id, ⟨4, (A ++ X ++ Y ++ Z).map entC⟩)], N0⟩)
      (fun x' => s0 ≤ x'.1 ∧ x'.1 ≤ x'.2 ∧ x'.2 ≤ t0 ∧ (s0 < x'.1 → (X.getD (x'.1 - 1) default).1 ≤ (Y.getD (c - x'.1) default).1) ∧ (x'.2 < t0 → (Y.getD (c - 1 - x'.2) default).1 < (X.getD x'.2 default).1)) (fun x' => x'.2 - x'.1) ⟨(s0, t0), ⟨Nat.le_refl _, q1, Nat.le_refl _, fun h => by simp only at h; omega, fun h => by simp only at h; omega⟩, ?_⟩ ?_
    · (refine Weak.head1w (by simp -implicitDefEqProofs (maxSteps := 2000000) (disch := omega) only [go_sem, simprocAttr, -List.reduceReplicate, condB_t, condB_f] <;> (try rfl)) (by omega) (mapU _ _ _) (fun k0 b0 hk0 hb0 => by have hk1 : (k0 = _) = False := eq_false hk0; have hk2 := (hmen k0 b0 hb0).1; (simp -implicitDefEqProofs (maxSteps := 2000000) (disch := omega) only [go_sem, simprocAttr, -List.reduceReplicate, condB_t, condB_f, upd, mkH, hk1]) <;> (try (repeat rw [if_neg (by omega)])) <;> exact hb0) (by omega) hmen ?_; simp -implicitDefEqProofs (maxSteps := 2000000) (disch := omega) only [go_sem, simprocAttr, -List.reduceReplicate, condB_t, condB_f, AllP, AVle_same, AVle_int, AVle_nil, AVle_row, topU_int, topU_bool, topU_sl, topU_row, topU_ptr, topU_iptr, topU_fn, val, List.drop_length])
    · rintro ⟨s, t⟩ ⟨h1, h2, h3, h4, h5⟩
      simp only at h1 h2 h3 h4 h5 ⊢
      by_cases hst : s < t
      · obtain ⟨w, hw, hw1, hw2⟩ : ∃ w, (A.length + (s + (A.length + t))) / 2 = A.length + w ∧ s ≤ w ∧ w < t := ⟨(s + t) / 2, by omega, by omega, by omega⟩
        have z1 : ((A.length + (c + (A.length + X.length)) - 1 : Nat) : Int) - ((A.length + w : Nat) : Int) = ((A.length + (X.length + (c - 1 - w)) : Nat) : Int) := by omega
        have g1 := four_getX (A := A) (X := X) (Y := Y) (Z := Z) (k := w) (by omega)
        have g2 := four_getY (A := A) (X := X) (Y := Y) (Z := Z) (k := c - 1 - w) (by omega)
        have cm := sortedLt_spec (Y.getD (c - 1 - w) default) (X.getD w default)
        unfold entC at cm
        simp -implicitDefEqProofs (maxSteps := 2000000) (disch := omega) only [go_sem, simprocAttr, -List.reduceReplicate, condB_t, condB_f, hw, z1, g1, g2, lD]
        refine pcallK_pure cm ?_
        unfold cmpI
        by_cases hlt : (Y.getD (c - 1 - w) default).1 < (X.getD w default).1
        · rw [if_pos hlt]
          simp -implicitDefEqProofs (maxSteps := 2000000) (disch := omega) only [go_sem, simprocAttr, -List.reduceReplicate, condB_t, condB_f]
          exact ⟨(s, w), ⟨h1, hw1, by simp only; omega, h4, fun _ => hlt⟩, by simp only; omega, by (refine Weak.head1w (by simp -implicitDefEqProofs (maxSteps := 2000000) (disch := omega) only [go_sem, simprocAttr, -List.reduceReplicate, condB_t, condB_f] <;> (try rfl)) (by omega) (mapU _ _ _) (fun k0 b0 hk0 hb0 => by have hk1 : (k0 = _) = False := eq_false hk0; have hk2 := (hmen k0 b0 hb0).1; (simp -implicitDefEqProofs (maxSteps := 2000000) (disch := omega) only [go_sem, simprocAttr, -List.reduceReplicate, condB_t, condB_f, upd, mkH, hk1]) <;> (try (repeat rw [if_neg (by omega)])) <;> exact hb0) (by omega) hmen ?_; simp -implicitDefEqProofs (maxSteps := 2000000) (disch := omega) only [go_sem, simprocAttr, -List.reduceReplicate, condB_t, condB_f, AllP, AVle_same, AVle_int, AVle_nil, AVle_row, topU_int, topU_bool, topU_sl, topU_row, topU_ptr, topU_iptr, topU_fn, val, List.drop_length])⟩
        · have hge : w + 1 > s0 → (X.getD (w + 1 - 1) default).1 ≤ (Y.getD (c - (w + 1)) default).1 := fun _ => by rw [Nat.add_sub_cancel, show c - (w + 1) = c - 1 - w by omega]; omega
          rw [if_neg hlt]
          by_cases heq : (Y.getD (c - 1 - w) default).1 = (X.getD w default).1
          · rw [if_pos heq]
            simp -implicitDefEqProofs (maxSteps := 2000000) (disch := omega) only [go_sem, simprocAttr, -List.reduceReplicate, condB_t, condB_f]
            exact ⟨(w + 1, t), ⟨by simp only; omega, hw2, h3, hge, h5⟩, by simp only; omega, by (refine Weak.head1w (by simp -implicitDefEqProofs (maxSteps := 2000000) (disch := omega) only [go_sem, simprocAttr, -List.reduceReplicate, condB_t, condB_f] <;> (try rfl)) (by omega) (mapU _ _ _) (fun k0 b0 hk0 hb0 => by have hk1 : (k0 = _) = False := eq_false hk0; have hk2 := (hmen k0 b0 hb0).1; (simp -implicitDefEqProofs (maxSteps := 2000000) (disch := omega) only [go_sem, simprocAttr, -List.reduceReplicate, condB_t, condB_f, upd, mkH, hk1]) <;> (try (repeat rw [if_neg (by omega)])) <;> exact hb0) (by omega) hmen ?_; simp -implicitDefEqProofs (maxSteps := 2000000) (disch := omega) only [go_sem, simprocAttr, -List.reduceReplicate, condB_t, condB_f, AllP, AVle_same, AVle_int, AVle_nil, AVle_row, topU_int, topU_bool, topU_sl, topU_row, topU_ptr, topU_iptr, topU_fn, val, List.drop_length])⟩
          · rw [if_neg heq]
            simp -implicitDefEqProofs (maxSteps := 2000000) (disch := omega) only [go_sem, simprocAttr, -List.reduceReplicate, condB_t, condB_f]
            exact ⟨(w + 1, t), ⟨by simp only; omega, hw2, h3, hge, h5⟩, by simp only; omega, by (refine Weak.head1w (by simp -implicitDefEqProofs (maxSteps := 2000000) (disch := omega) only [go_sem, simprocAttr, -List.reduceReplicate, condB_t, condB_f] <;> (try rfl)) (by omega) (mapU _ _ _) (fun k0 b0 hk0 hb0 => by have hk1 : (k0 = _) = False := eq_false hk0; have hk2 := (hmen k0 b0 hb0).1; (simp -implicitDefEqProofs (maxSteps := 2000000) (disch := omega) only [go_sem, simprocAttr, -List.reduceReplicate, condB_t, condB_f, upd, mkH, hk1]) <;> (try (repeat rw [if_neg (by omega)])) <;> exact hb0) (by omega) hmen ?_; simp -implicitDefEqProofs (maxSteps := 2000000) (disch := omega) only [go_sem, simprocAttr, -List.reduceReplicate, condB_t, condB_f, AllP, AVle_same, AVle_int, AVle_nil, AVle_row, topU_int, topU_bool, topU_sl, topU_row, topU_ptr, topU_iptr, topU_fn, val, List.drop_length])⟩
      · obtain rfl : s = t := by omega
        have part := isort_part hX hY h1 h3 q2 q3 q4 q5 q6 h4 h5
        have lx1 : (X.take s).length = s := by rw [List.length_take]; omega
        have lx2 : (X.drop s).length = X.length - s := List.length_drop
        have ly1 : (Y.take (c - s)).length = c - s := by rw [List.length_take]; omega
        have ly2 : (Y.drop (c - s)).length = Y.length - (c - s) := List.length_drop
        have sx : SortE (X.take s ++ X.drop s) := by rw [List.take_append_drop]; exact hX
        have sy : SortE (Y.take (c - s) ++ Y.drop (c - s)) := by rw [List.take_append_drop]; exact hY
        have ex : X.take s ++ X.drop s = X := List.take_append_drop ..
        have ey : Y.take (c - s) ++ Y.drop (c - s) = Y := List.take_append_drop ..
        obtain ⟨sx1, sx2, _⟩ := sortE_app.1 sx
        obtain ⟨sy1, sy2, _⟩ := sortE_app.1 sy
        generalize X.take s = X1 at *
        generalize X.drop s = X2 at *
        generalize Y.take (c - s) = Y1 at *
        generalize Y.drop (c - s) = Y2 at *
        have lr1 : (isort (X1 ++ Y1)).length = c := by rw [isort_len, List.length_append]; omega
        obtain ⟨D0, hD0⟩ : ∃ D, D = A ++ X ++ Y ++ Z := ⟨_, rfl⟩
        obtain ⟨D1, hD1⟩ : ∃ D, D = A ++ X1 ++ Y1 ++ (X2 ++ Y2 ++ Z) := ⟨_, rfl⟩
        obtain ⟨D2, hD2⟩ : ∃ D, D = A ++ isort (X1 ++ Y1) ++ (X2 ++ Y2 ++ Z) := ⟨_, rfl⟩
        obtain ⟨D3, hD3⟩ : ∃ D, D = A ++ isort (X ++ Y) ++ Z := ⟨_, rfl⟩
        have rot : s < X.length → s < c → ∀ (hh : Heap) (mm : Nat), hh id = some ⟨4, D0.map entC⟩ → ADet Tryz.prog 102 [.row id N 0 N, .int .i64 (A.length + s : Nat), .int .i64 (A.length + X.length : Nat), .int .i64 (A.length + (X.length + (c - s)) : Nat), .fn 43] hh mm (.tup []) (upd hh id (some ⟨4, D1.map entC⟩)) := fun hp hq hh mm hi => by
          have e0 : (A ++ X1) ++ X2 ++ Y1 ++ (Y2 ++ Z) = D0 := by rw [hD0, ← ex, ← ey]; simp
          have e1 : (A ++ X1) ++ Y1 ++ X2 ++ (Y2 ++ Z) = D1 := by rw [hD1]; simp
          have := rotate_spec (A ++ X1) X2 Y1 (Y2 ++ Z) N (by omega) (by omega) (by rw [e0, hD0]; exact hN) hs hh id mm (by rw [e0]; exact hi)
          rw [e1, List.length_append, lx1, lx2, ly1, show A.length + s + (X.length - s) = A.length + X.length by omega, Nat.add_assoc A.length X.length] at this
          exact this
        have nrot : ¬ (s < X.length ∧ s < c) → D0 = D1 := fun hn => by
          rw [hD0, hD1, ← ex, ← ey]
          rcases Nat.lt_or_ge s X.length with g | g
          · rw [List.eq_nil_of_length_eq_zero (l := Y1) (by omega)]; simp
          · rw [List.eq_nil_of_length_eq_zero (l := X2) (by omega)]; simp
        have m1 : 0 < s → s < c → ∀ (hh : Heap) (mm : Nat), hh id = some ⟨4, D1.map entC⟩ → ADet Tryz.prog 88 [.row id N 0 N, .int .i64 A.length, .int .i64 (A.length + s : Nat), .int .i64 (A.length + c : Nat), .fn 43] hh mm (.tup []) (upd hh id (some ⟨4, D2.map entC⟩)) := fun hp hq hh mm hi => by
          have := ih (X1.length + Y1.length) (by omega) A X1 Y1 (X2 ++ Y2 ++ Z) N rfl (by omega) (by omega) sx1 sy1 (by simp only [List.length_append]; omega) hs hh id mm (by rw [← hD1]; exact hi)
          rw [← hD2, lx1, ly1, show A.length + s + (c - s) = A.length + c by omega] at this
          exact this
        have nm1 : ¬ (0 < s ∧ s < c) → D1 = D2 := fun hn => by
          rw [hD1, hD2]
          rcases Nat.eq_zero_or_pos s with g | g
          · rw [List.eq_nil_of_length_eq_zero (l := X1) (by omega), List.nil_append, isort_id sy1]; simp
          · rw [List.eq_nil_of_length_eq_zero (l := Y1) (by omega), List.append_nil X1, isort_id sx1]; simp
        have m2 : s < X.length → c - s < Y.length → ∀ (hh : Heap) (mm : Nat), hh id = some ⟨4, D2.map entC⟩ → ADet Tryz.prog 88 [.row id N 0 N, .int .i64 (A.length + c : Nat), .int .i64 (A.length + (X.length + (c - s)) : Nat), .int .i64 (A.length + (X.length + Y.length) : Nat), .fn 43] hh mm (.tup []) (upd hh id (some ⟨4, D3.map entC⟩)) := fun hp hq hh mm hi => by
          have e2 : (A ++ isort (X1 ++ Y1)) ++ X2 ++ Y2 ++ Z = D2 := by rw [hD2]; simp
          have e3 : (A ++ isort (X1 ++ Y1)) ++ isort (X2 ++ Y2) ++ Z = D3 := by rw [hD3, part]; simp
          have := ih (X2.length + Y2.length) (by omega) (A ++ isort (X1 ++ Y1)) X2 Y2 Z N rfl (by omega) (by omega) sx2 sy2 (by simp only [List.length_append, lr1]; omega) hs hh id mm (by rw [e2]; exact hi)
          rw [e3, List.length_append, lr1, lx2, ly2, show A.length + c + (X.length - s) = A.length + (X.length + (c - s)) by omega, show A.length + (X.length + (c - s)) + (Y.length - (c - s)) = A.length + (X.length + Y.length) by omega] at this
          exact this
        have nm2 : ¬ (s < X.length ∧ c - s < Y.length) → D2 = D3 := fun hn => by
          rw [hD2, hD3, part]
          rcases Nat.lt_or_ge s X.length with g | g
          · rw [List.eq_nil_of_length_eq_zero (l := Y2) (by omega), List.append_nil X2, isort_id sx2]; simp
          · rw [List.eq_nil_of_length_eq_zero (l := X2) (by omega), List.nil_append, isort_id sy2]; simp
        have z1 : ((A.length + (c + (A.length + X.length)) : Nat) : Int) - ((A.length + s : Nat) : Int) = ((A.length + (X.length + (c - s)) : Nat) : Int) := by omega
        rw [← hD0, ← hD3]
        clear ih part hD0 hD1 hD2 hD3 h4 h5 ex ey sx sy sx1 sx2 sy1 sy2 q4 q6 q7 q8 hX hY
        by_cases hP : s < X.length <;> by_cases hQ : s < c <;> by_cases hR : 0 < s <;> by_cases hT : c - s < Y.length
        all_goals try (exfalso; omega)
        all_goals try rw [nrot (by omega)]
        all_goals simp -implicitDefEqProofs (maxSteps := 2000000) (disch := omega) only [go_sem, simprocAttr, -List.reduceReplicate, condB_t, condB_f, z1]
        all_goals try (refine callK_of (rot (by omega) (by omega) _ _ (by simp -implicitDefEqProofs (maxSteps := 2000000) (disch := omega) only [go_sem, simprocAttr, -List.reduceReplicate, condB_t, condB_f])) ?_; simp -implicitDefEqProofs (maxSteps := 2000000) (disch := omega) only [go_sem, simprocAttr, -List.reduceReplicate, condB_t, condB_f, z1])
        all_goals try rw [nm1 (by omega)]
        all_goals try (refine callK_of (m1 (by omega) (by omega) _ _ (by simp -implicitDefEqProofs (maxSteps := 2000000) (disch := omega) only [go_sem, simprocAttr, -List.reduceReplicate, condB_t, condB_f])) ?_; simp -implicitDefEqProofs (maxSteps := 2000000) (disch := omega) only [go_sem, simprocAttr, -List.reduceReplicate, condB_t, condB_f, z1])
        all_goals try rw [nm2 (by omega)]
        all_goals try (refine callK_of (m2 (by omega) (by omega) _ _ (by simp -implicitDefEqProofs (maxSteps := 2000000) (disch := omega) only [go_sem, simprocAttr, -List.reduceReplicate, condB_t, condB_f])) ?_; simp -implicitDefEqProofs (maxSteps := 2000000) (disch := omega) only [go_sem, simprocAttr, -List.reduceReplicate, condB_t, condB_f, z1])
        all_goals first | exact .tup rfl nofun | exact ⟨fun _ _ => rfl, .tup rfl nofun⟩ | exact ⟨fun _ _ => by simp only [upd]; split <;> rfl, .tup rfl nofun⟩
end Go.Abs
/-! YtzVec2b: Sparse vectors: the stable sort of lists of at most 40 entries; a vector sorted. No condition. -/
set_option linter.unusedVariables false
set_option linter.unusedSimpArgs false
set_option maxRecDepth 100000
set_option maxHeartbeats 1000000
namespace Go.Abs
open Go.Proofs
@[go_sem] theorem R25 : Tryz.f25.results.toList = [.tmp 2] := rfl
@[go_sem] theorem R60 : Tryz.f60.results.toList = [] := rfl
@[go_sem] theorem R42 : Tryz.f42.results.toList = [] := rfl
@[go_sem] theorem R41 : Tryz.f41.results.toList = [.tmp 2] := rfl
set_option maxHeartbeats 4000000
theorem stable_spec20 (l : List Ent) (hs : l.length < 20) (h : Heap) (id m : Nat) (hid : h id = some ⟨4, l.map entC⟩) :
    ADet Tryz.prog 60 [.row id l.length 0 l.length, .int .i64 l.length, .fn 43] h m (.tup []) (upd h id (some ⟨4, (isort l).map entC⟩)) := by
  refine adet_of E0ok mixed Tryz.func60 (by kernel_rfl) rfl (by kernel_rfl) (Nat.le_of_ble_eq_true rfl) (none_put hid) fun N0 hn hmen _ => ⟨hmen.put hid (mapU _ _ _), ?_⟩
  have hidlt : id < N0 := (hmen id _ hid).1
  simp -implicitDefEqProofs (maxSteps := 2000000) (disch := omega) only [go_sem, simprocAttr, -List.reduceReplicate, condB_t, condB_f, hid]
  refine aw_loop (X := Unit) (fun _ => ⟨mkS [(0, .row id l.length 0 l.length), (1, .int .i64 l.length), (2, .fn 43), (6, .int .i64 20), (7, .int .i64 0), (8, .int .i64 20)], mkH h [(id, ⟨4, l.map entC⟩)], N0⟩)
    (fun _ => True) (fun _ => 0) ⟨(), trivial, ?_⟩ ?_
  · refine Weak.head1w hid (by omega) (mapU _ _ _) (fun k0 b0 _ hb0 => hb0) (by omega) hmen ?_
    simp -implicitDefEqProofs (maxSteps := 2000000) (disch := omega) only [go_sem, simprocAttr, -List.reduceReplicate, condB_t, condB_f, AllP, AVle_same, AVle_int, AVle_nil, AVle_row, topU_int, topU_bool, topU_sl, topU_row, topU_ptr, topU_iptr, topU_fn, val, List.drop_length]
  · rintro ⟨⟩ _
    simp -implicitDefEqProofs (maxSteps := 2000000) (disch := omega) only [go_sem, simprocAttr, -List.reduceReplicate, condB_t, condB_f]
    have c := fun mm => insertion_spec [] l [] l.length (by simp) (by omega) (mkH h [(id, ⟨4, l.map entC⟩)]) id mm (by simp -implicitDefEqProofs (maxSteps := 2000000) (disch := omega) only [go_sem, simprocAttr, -List.reduceReplicate, condB_t, condB_f])
    simp only [List.nil_append, List.append_nil, List.length_nil, Nat.zero_add] at c
    refine callK_of (c _) ?_
    simp -implicitDefEqProofs (maxSteps := 2000000) (disch := omega) only [go_sem, simprocAttr, -List.reduceReplicate, condB_t, condB_f]
    refine aw_loop (X := Unit) (fun _ => ⟨mkS [(0, .row id l.length 0 l.length), (1, .int .i64 l.length), (2, .fn 43), (6, .int .i64 20)], mkH h [(id, ⟨4, (isort l).map entC⟩)], N0⟩)
      (fun _ => True) (fun _ => 0) ⟨(), trivial, ?_⟩ ?_
    · (refine Weak.head1w (by simp -implicitDefEqProofs (maxSteps := 2000000) (disch := omega) only [go_sem, simprocAttr, -List.reduceReplicate, condB_t, condB_f] <;> (try rfl)) (by omega) (mapU _ _ _) (fun k0 b0 hk0 hb0 => by have hk1 : (k0 = _) = False := eq_false hk0; have hk2 := (hmen k0 b0 hb0).1; (simp -implicitDefEqProofs (maxSteps := 2000000) (disch := omega) only [go_sem, simprocAttr, -List.reduceReplicate, condB_t, condB_f, upd, mkH, hk1]) <;> (try (repeat rw [if_neg (by omega)])) <;> exact hb0) (by omega) hmen ?_; simp -implicitDefEqProofs (maxSteps := 2000000) (disch := omega) only [go_sem, simprocAttr, -List.reduceReplicate, condB_t, condB_f, AllP, AVle_same, AVle_int, AVle_nil, AVle_row, topU_int, topU_bool, topU_sl, topU_row, topU_ptr, topU_iptr, topU_fn, val, List.drop_length])
    · rintro ⟨⟩ _
      simp -implicitDefEqProofs (maxSteps := 2000000) (disch := omega) only [go_sem, simprocAttr, -List.reduceReplicate, condB_t, condB_f]
      exact ⟨fun _ _ => rfl, .tup rfl nofun⟩
theorem stable_spec (l : List Ent) (hs : l.length ≤ 40) (h : Heap) (id m : Nat) (hid : h id = some ⟨4, l.map entC⟩) :
    ADet Tryz.prog 60 [.row id l.length 0 l.length, .int .i64 l.length, .fn 43] h m (.tup []) (upd h id (some ⟨4, (isort l).map entC⟩)) := by
  rcases Nat.lt_or_ge l.length 20 with g20 | g20
  · exact stable_spec20 l g20 h id m hid
  obtain ⟨n, hn'⟩ : ∃ n, n = l.length := ⟨_, rfl⟩
  obtain ⟨L1, L2, e12, l1, l2⟩ : ∃ L1 L2, l = L1 ++ L2 ∧ L1.length = 20 ∧ L2.length = n - 20 := ⟨l.take 20, l.drop 20, (List.take_append_drop ..).symm, by rw [List.length_take]; omega, by rw [List.length_drop, hn']⟩
  have eD : isort (isort L1 ++ isort L2) = isort l := by rw [isort_app_left, e12]
  have k1 := isort_len L1
  have k2 := isort_len L2
  rw [← hn'] at hs g20 ⊢
  have s1 := isort_sort L1
  have s2 := isort_sort L2
  have i1 : ∀ (hh : Heap) (mm : Nat), hh id = some ⟨4, l.map entC⟩ → ADet Tryz.prog 87 [.row id n 0 n, .int .i64 0, .int .i64 20, .fn 43] hh mm (.tup []) (upd hh id (some ⟨4, (isort L1 ++ L2).map entC⟩)) := fun hh mm hi => by
    have := insertion_spec [] L1 L2 n (by rw [List.nil_append, ← e12, hn']) (by omega) hh id mm (by rw [List.nil_append, ← e12]; exact hi)
    simpa [l1] using this
  have i2 : ∀ (hh : Heap) (mm : Nat), hh id = some ⟨4, (isort L1 ++ L2).map entC⟩ → ADet Tryz.prog 87 [.row id n 0 n, .int .i64 20, .int .i64 n, .fn 43] hh mm (.tup []) (upd hh id (some ⟨4, (isort L1 ++ isort L2).map entC⟩)) := fun hh mm hi => by
    have := insertion_spec (isort L1) L2 [] n (by simp only [List.length_append, List.length_nil]; omega) (by omega) hh id mm (by rw [List.append_nil]; exact hi)
    rw [k1, l1, List.append_nil, show 20 + L2.length = n by omega] at this
    exact this
  have i3 : n = 40 → ∀ (hh : Heap) (mm : Nat), hh id = some ⟨4, (isort L1 ++ isort L2).map entC⟩ → ADet Tryz.prog 87 [.row id n 0 n, .int .i64 40, .int .i64 n, .fn 43] hh mm (.tup []) (upd hh id (some ⟨4, (isort L1 ++ isort L2).map entC⟩)) := fun h40 hh mm hi => by
    have := insertion_spec (isort L1 ++ isort L2) [] [] n (by simp only [List.length_append, List.length_nil]; omega) (by omega) hh id mm (by rw [List.append_nil, List.append_nil]; exact hi)
    rw [List.length_append, k1, k2, l1, l2, h40] at this
    rw [h40]
    simpa [isort] using this
  have m1 : 20 < n → ∀ (hh : Heap) (mm : Nat), hh id = some ⟨4, (isort L1 ++ isort L2).map entC⟩ → ADet Tryz.prog 88 [.row id n 0 n, .int .i64 0, .int .i64 20, .int .i64 n, .fn 43] hh mm (.tup []) (upd hh id (some ⟨4, (isort l).map entC⟩)) := fun hgt hh mm hi => by
    have := symMerge_spec _ [] (isort L1) (isort L2) [] n rfl (by omega) (by omega) s1 s2 (by simp only [List.length_append, List.length_nil]; omega) (by omega) hh id mm (by rw [List.append_nil]; exact hi)
    rw [eD, List.append_nil, List.nil_append, List.length_nil, Nat.zero_add, k1, k2, l1, l2, show 20 + (n - 20) = n by omega] at this
    exact this
  have eE : n = 20 → isort L1 ++ isort L2 = isort l := fun h => by
    rw [← eD, List.eq_nil_of_length_eq_zero (l := L2) (by omega)]
    simp only [isort, List.foldl_nil, List.append_nil]
    exact (isort_id s1).symm
  have hln : l.length = n := hn'.symm
  clear hn' e12 l1 l2 k1 k2 s1 s2 eD
  generalize isort l = D3 at *
  generalize isort L1 ++ isort L2 = D2 at *
  generalize isort L1 ++ L2 = D1 at *
  have key := hid
  refine adet_of E0ok mixed Tryz.func60 (by kernel_rfl) rfl (by kernel_rfl) (Nat.le_of_ble_eq_true rfl) (none_put hid) fun N0 hn hmen _ => ⟨hmen.put hid (mapU _ _ _), ?_⟩
  have hidlt : id < N0 := (hmen id _ hid).1
  simp -implicitDefEqProofs (maxSteps := 2000000) (disch := omega) only [go_sem, simprocAttr, -List.reduceReplicate, condB_t, condB_f, hid]
  refine aw_loop (X := Nat) (fun j => ⟨mkS [(0, .row id n 0 n), (1, .int .i64 n), (2, .fn 43), (6, .int .i64 20), (7, .int .i64 (20 * j : Nat)), (8, .int .i64 (20 * j + 20 : Nat))], mkH h [(id, ⟨4, (if j = 0 then l else if j = 1 then D1 else D2).map entC⟩)], N0⟩)
    (fun j => j = 0 ∨ j = 1 ∨ (j = 2 ∧ n = 40)) (fun j => 2 - j) ⟨0, .inl rfl, ?_⟩ ?_
  · refine Weak.head1w (by rw [if_pos rfl]; exact hid) (by omega) (mapU _ _ _) (fun k0 b0 _ hb0 => hb0) (by omega) hmen ?_
    simp -implicitDefEqProofs (maxSteps := 2000000) (disch := omega) only [go_sem, simprocAttr, -List.reduceReplicate, condB_t, condB_f, AllP, AVle_same, AVle_int, AVle_nil, AVle_row, topU_int, topU_bool, topU_sl, topU_row, topU_ptr, topU_iptr, topU_fn, val, List.drop_length]
  · apply cutP
    intro tail j hj
    rcases hj with rfl | rfl | ⟨rfl, h40⟩
    · simp only [↓reduceIte, Nat.mul_zero, Nat.zero_add]
      simp -implicitDefEqProofs (maxSteps := 2000000) (disch := omega) only [go_sem, simprocAttr, -List.reduceReplicate, condB_t, condB_f]
      refine callK_of (i1 _ _ (by simp -implicitDefEqProofs (maxSteps := 2000000) (disch := omega) only [go_sem, simprocAttr, -List.reduceReplicate, condB_t, condB_f])) ?_
      simp -implicitDefEqProofs (maxSteps := 2000000) (disch := omega) only [go_sem, simprocAttr, -List.reduceReplicate, condB_t, condB_f]
      refine ⟨1, .inr (.inl rfl), by omega, ?_⟩
      (refine Weak.head1w (by simp -implicitDefEqProofs (maxSteps := 2000000) (disch := omega) only [go_sem, simprocAttr, -List.reduceReplicate, condB_t, condB_f] <;> (try rfl)) (by omega) (mapU _ _ _) (fun k0 b0 hk0 hb0 => by have hk1 : (k0 = _) = False := eq_false hk0; have hk2 := (hmen k0 b0 hb0).1; (simp -implicitDefEqProofs (maxSteps := 2000000) (disch := omega) only [go_sem, simprocAttr, -List.reduceReplicate, condB_t, condB_f, upd, mkH, hk1]) <;> (try (repeat rw [if_neg (by omega)])) <;> exact hb0) (by omega) hmen ?_; simp -implicitDefEqProofs (maxSteps := 2000000) (disch := omega) only [go_sem, simprocAttr, -List.reduceReplicate, condB_t, condB_f, AllP, AVle_same, AVle_int, AVle_nil, AVle_row, topU_int, topU_bool, topU_sl, topU_row, topU_ptr, topU_iptr, topU_fn, val, List.drop_length])
    · by_cases h40 : n = 40
      · simp only [↓reduceIte, Nat.mul_one, Nat.reduceAdd, Nat.reduceEqDiff]
        simp -implicitDefEqProofs (maxSteps := 2000000) (disch := omega) only [go_sem, simprocAttr, -List.reduceReplicate, condB_t, condB_f]
        have i2 := i2
        rw [h40] at i2 ⊢
        refine callK_of (i2 _ _ (by simp -implicitDefEqProofs (maxSteps := 2000000) (disch := omega) only [go_sem, simprocAttr, -List.reduceReplicate, condB_t, condB_f])) ?_
        simp -implicitDefEqProofs (maxSteps := 2000000) (disch := omega) only [go_sem, simprocAttr, -List.reduceReplicate, condB_t, condB_f]
        refine ⟨2, by omega, by omega, ?_⟩
        (refine Weak.head1w (by simp -implicitDefEqProofs (maxSteps := 2000000) (disch := omega) only [go_sem, simprocAttr, -List.reduceReplicate, condB_t, condB_f] <;> (try rfl)) (by omega) (mapU _ _ _) (fun k0 b0 hk0 hb0 => by have hk1 : (k0 = _) = False := eq_false hk0; have hk2 := (hmen k0 b0 hb0).1; (simp -implicitDefEqProofs (maxSteps := 2000000) (disch := omega) only [go_sem, simprocAttr, -List.reduceReplicate, condB_t, condB_f, upd, mkH, hk1]) <;> (try (repeat rw [if_neg (by omega)])) <;> exact hb0) (by omega) hmen ?_; simp -implicitDefEqProofs (maxSteps := 2000000) (disch := omega) only [go_sem, simprocAttr, -List.reduceReplicate, condB_t, condB_f, AllP, AVle_same, AVle_int, AVle_nil, AVle_row, topU_int, topU_bool, topU_sl, topU_row, topU_ptr, topU_iptr, topU_fn, val, List.drop_length])
      · simp only [↓reduceIte, Nat.mul_one, Nat.reduceAdd, Nat.reduceEqDiff]
        simp -implicitDefEqProofs (maxSteps := 2000000) (disch := omega) only [go_sem, simprocAttr, -List.reduceReplicate, condB_t, condB_f]
        refine callK_of (i2 _ _ (by simp -implicitDefEqProofs (maxSteps := 2000000) (disch := omega) only [go_sem, simprocAttr, -List.reduceReplicate, condB_t, condB_f])) ?_
        simp -implicitDefEqProofs (maxSteps := 2000000) (disch := omega) only [go_sem, simprocAttr, -List.reduceReplicate, condB_t, condB_f]
        refine aw_weak (Weak.head1w (id := id) (h0 := h) (blk := ⟨4, D2.map entC⟩) (l := [(0, .row id n 0 n), (1, .int .i64 n), (2, .fn 43), (6, .int .i64 20)]) (by simp -implicitDefEqProofs (maxSteps := 2000000) (disch := omega) only [go_sem, simprocAttr, -List.reduceReplicate, condB_t, condB_f]) (by omega) (mapU entC D2 _) (fun k0 b0 hk0 hb0 => by simp only [upd, mkH, if_neg hk0]; exact hb0) (Nat.le_add_right N0 48) hmen (by simp -implicitDefEqProofs (maxSteps := 2000000) (disch := omega) only [go_sem, simprocAttr, -List.reduceReplicate, condB_t, condB_f, AllP, AVle_same, AVle_int, AVle_nil, AVle_row, topU_int, topU_bool, topU_sl, topU_row, topU_ptr, topU_iptr, topU_fn, val, List.drop_length])) ?_
        exact tail.out
    · simp only [↓reduceIte, Nat.reduceMul, Nat.reduceAdd, Nat.reduceEqDiff]
      simp -implicitDefEqProofs (maxSteps := 2000000) (disch := omega) only [go_sem, simprocAttr, -List.reduceReplicate, condB_t, condB_f]
      refine callK_of (i3 h40 _ _ (by simp -implicitDefEqProofs (maxSteps := 2000000) (disch := omega) only [go_sem, simprocAttr, -List.reduceReplicate, condB_t, condB_f])) ?_
      simp -implicitDefEqProofs (maxSteps := 2000000) (disch := omega) only [go_sem, simprocAttr, -List.reduceReplicate, condB_t, condB_f]
      refine aw_weak (Weak.head1w (id := id) (h0 := h) (blk := ⟨4, D2.map entC⟩) (l := [(0, .row id n 0 n), (1, .int .i64 n), (2, .fn 43), (6, .int .i64 20)]) (by simp -implicitDefEqProofs (maxSteps := 2000000) (disch := omega) only [go_sem, simprocAttr, -List.reduceReplicate, condB_t, condB_f]) (by omega) (mapU entC D2 _) (fun k0 b0 hk0 hb0 => by simp only [upd, mkH, if_neg hk0]; exact hb0) (Nat.le_add_right N0 48) hmen (by simp -implicitDefEqProofs (maxSteps := 2000000) (disch := omega) only [go_sem, simprocAttr, -List.reduceReplicate, condB_t, condB_f, AllP, AVle_same, AVle_int, AVle_nil, AVle_row, topU_int, topU_bool, topU_sl, topU_row, topU_ptr, topU_iptr, topU_fn, val, List.drop_length])) ?_
      exact tail.out
    · refine aw_loop (X := Nat) (fun j => ⟨mkS [(0, .row id n 0 n), (1, .int .i64 n), (2, .fn 43), (6, .int .i64 (20 * j + 20 : Nat))], mkH h [(id, ⟨4, (if j = 0 then D2 else D3).map entC⟩)], N0 + 48⟩)
        (fun j => j = 0 ∨ j = 1) (fun j => 1 - j) ⟨0, .inl rfl, ?_⟩ ?_
      · refine Weak.head1w (by simp only [mkH, upd_same, ↓reduceIte]) (by omega) (mapU _ _ _) (fun k0 b0 hk0 hb0 => by simp only [upd, mkH, if_neg hk0]; exact hb0) (by omega) hmen ?_
        simp -implicitDefEqProofs (maxSteps := 2000000) (disch := omega) only [go_sem, simprocAttr, -List.reduceReplicate, condB_t, condB_f, AllP, AVle_same, AVle_int, AVle_nil, AVle_row, topU_int, topU_bool, topU_sl, topU_row, topU_ptr, topU_iptr, topU_fn, val, List.drop_length]
      · intro j hj
        rcases hj with rfl | rfl
        · simp only [↓reduceIte, Nat.mul_zero, Nat.zero_add]
          by_cases hgt : 20 < n
          · simp -implicitDefEqProofs (maxSteps := 2000000) (disch := omega) only [go_sem, simprocAttr, -List.reduceReplicate, condB_t, condB_f]
            refine aw_loop (X := Nat) (fun j => ⟨mkS [(0, .row id n 0 n), (1, .int .i64 n), (2, .fn 43), (6, .int .i64 20), (7, .int .i64 (40 * j : Nat)), (8, .int .i64 (40 * j + 40 : Nat))], mkH h [(id, ⟨4, (if j = 0 then D2 else D3).map entC⟩)], N0 + 48⟩)
              (fun j => j = 0 ∨ (j = 1 ∧ n = 40)) (fun j => 1 - j) ⟨0, .inl rfl, ?_⟩ ?_
            · (refine Weak.head1w (by simp -implicitDefEqProofs (maxSteps := 2000000) (disch := omega) only [go_sem, simprocAttr, -List.reduceReplicate, condB_t, condB_f] <;> (try rfl)) (by omega) (mapU _ _ _) (fun k0 b0 hk0 hb0 => by have hk1 : (k0 = _) = False := eq_false hk0; have hk2 := (hmen k0 b0 hb0).1; (simp -implicitDefEqProofs (maxSteps := 2000000) (disch := omega) only [go_sem, simprocAttr, -List.reduceReplicate, condB_t, condB_f, upd, mkH, hk1]) <;> (try (repeat rw [if_neg (by omega)])) <;> exact hb0) (by omega) hmen ?_; simp -implicitDefEqProofs (maxSteps := 2000000) (disch := omega) only [go_sem, simprocAttr, -List.reduceReplicate, condB_t, condB_f, AllP, AVle_same, AVle_int, AVle_nil, AVle_row, topU_int, topU_bool, topU_sl, topU_row, topU_ptr, topU_iptr, topU_fn, val, List.drop_length])
            · intro j hj
              rcases hj with rfl | ⟨rfl, h40⟩
              · simp only [↓reduceIte, Nat.mul_zero, Nat.zero_add]
                by_cases h40 : n = 40
                · simp -implicitDefEqProofs (maxSteps := 2000000) (disch := omega) only [go_sem, simprocAttr, -List.reduceReplicate, condB_t, condB_f]
                  have m1 := m1 hgt
                  rw [h40] at m1 ⊢
                  refine callK_of (m1 _ _ (by simp -implicitDefEqProofs (maxSteps := 2000000) (disch := omega) only [go_sem, simprocAttr, -List.reduceReplicate, condB_t, condB_f])) ?_
                  simp -implicitDefEqProofs (maxSteps := 2000000) (disch := omega) only [go_sem, simprocAttr, -List.reduceReplicate, condB_t, condB_f]
                  refine ⟨1, by omega, by omega, ?_⟩
                  (refine Weak.head1w (by simp -implicitDefEqProofs (maxSteps := 2000000) (disch := omega) only [go_sem, simprocAttr, -List.reduceReplicate, condB_t, condB_f] <;> (try rfl)) (by omega) (mapU _ _ _) (fun k0 b0 hk0 hb0 => by have hk1 : (k0 = _) = False := eq_false hk0; have hk2 := (hmen k0 b0 hb0).1; (simp -implicitDefEqProofs (maxSteps := 2000000) (disch := omega) only [go_sem, simprocAttr, -List.reduceReplicate, condB_t, condB_f, upd, mkH, hk1]) <;> (try (repeat rw [if_neg (by omega)])) <;> exact hb0) (by omega) hmen ?_; simp -implicitDefEqProofs (maxSteps := 2000000) (disch := omega) only [go_sem, simprocAttr, -List.reduceReplicate, condB_t, condB_f, AllP, AVle_same, AVle_int, AVle_nil, AVle_row, topU_int, topU_bool, topU_sl, topU_row, topU_ptr, topU_iptr, topU_fn, val, List.drop_length])
                · simp -implicitDefEqProofs (maxSteps := 2000000) (disch := omega) only [go_sem, simprocAttr, -List.reduceReplicate, condB_t, condB_f]
                  refine callK_of (m1 hgt _ _ (by simp -implicitDefEqProofs (maxSteps := 2000000) (disch := omega) only [go_sem, simprocAttr, -List.reduceReplicate, condB_t, condB_f])) ?_
                  simp -implicitDefEqProofs (maxSteps := 2000000) (disch := omega) only [go_sem, simprocAttr, -List.reduceReplicate, condB_t, condB_f]
                  refine ⟨1, .inr rfl, by omega, ?_⟩
                  (refine Weak.head1w (by simp -implicitDefEqProofs (maxSteps := 2000000) (disch := omega) only [go_sem, simprocAttr, -List.reduceReplicate, condB_t, condB_f] <;> (try rfl)) (by omega) (mapU _ _ _) (fun k0 b0 hk0 hb0 => by have hk1 : (k0 = _) = False := eq_false hk0; have hk2 := (hmen k0 b0 hb0).1; (simp -implicitDefEqProofs (maxSteps := 2000000) (disch := omega) only [go_sem, simprocAttr, -List.reduceReplicate, condB_t, condB_f, upd, mkH, hk1]) <;> (try (repeat rw [if_neg (by omega)])) <;> exact hb0) (by omega) hmen ?_; simp -implicitDefEqProofs (maxSteps := 2000000) (disch := omega) only [go_sem, simprocAttr, -List.reduceReplicate, condB_t, condB_f, AllP, AVle_same, AVle_int, AVle_nil, AVle_row, topU_int, topU_bool, topU_sl, topU_row, topU_ptr, topU_iptr, topU_fn, val, List.drop_length])
              · simp only [↓reduceIte, Nat.reduceMul, Nat.reduceAdd, Nat.reduceEqDiff, Nat.succ_ne_self]
                simp -implicitDefEqProofs (maxSteps := 2000000) (disch := omega) only [go_sem, simprocAttr, -List.reduceReplicate, condB_t, condB_f]
                refine ⟨1, .inr rfl, by omega, ?_⟩
                (refine Weak.head1w (by simp -implicitDefEqProofs (maxSteps := 2000000) (disch := omega) only [go_sem, simprocAttr, -List.reduceReplicate, condB_t, condB_f] <;> (try rfl)) (by omega) (mapU _ _ _) (fun k0 b0 hk0 hb0 => by have hk1 : (k0 = _) = False := eq_false hk0; have hk2 := (hmen k0 b0 hb0).1; (simp -implicitDefEqProofs (maxSteps := 2000000) (disch := omega) only [go_sem, simprocAttr, -List.reduceReplicate, condB_t, condB_f, upd, mkH, hk1]) <;> (try (repeat rw [if_neg (by omega)])) <;> exact hb0) (by omega) hmen ?_; simp -implicitDefEqProofs (maxSteps := 2000000) (disch := omega) only [go_sem, simprocAttr, -List.reduceReplicate, condB_t, condB_f, AllP, AVle_same, AVle_int, AVle_nil, AVle_row, topU_int, topU_bool, topU_sl, topU_row, topU_ptr, topU_iptr, topU_fn, val, List.drop_length])
          · obtain rfl : n = 20 := by omega
            rw [eE rfl]
            simp -implicitDefEqProofs (maxSteps := 2000000) (disch := omega) only [go_sem, simprocAttr, -List.reduceReplicate, condB_t, condB_f]
            exact ⟨fun _ _ => rfl, .tup rfl nofun⟩
        · simp only [↓reduceIte, Nat.reduceMul, Nat.reduceAdd, Nat.reduceEqDiff, Nat.succ_ne_self]
          simp -implicitDefEqProofs (maxSteps := 2000000) (disch := omega) only [go_sem, simprocAttr, -List.reduceReplicate, condB_t, condB_f]
          exact ⟨fun _ _ => rfl, .tup rfl nofun⟩
theorem sortStable_spec (l : List Ent) (hs : l.length ≤ 40) (h : Heap) (id m : Nat) (hid : h id = some ⟨4, l.map entC⟩) :
    ADet Tryz.prog 42 [.row id l.length 0 l.length, .fn 43] h m (.tup []) (upd h id (some ⟨4, (isort l).map entC⟩)) := by
  refine adet_of E0ok mixed Tryz.func42 (by kernel_rfl) rfl (by kernel_rfl) (Nat.le_of_ble_eq_true rfl) (none_put hid) fun N0 hn hmen _ => ⟨hmen.put hid (mapU _ _ _), ?_⟩
  have hidlt : id < N0 := (hmen id _ hid).1
  simp -implicitDefEqProofs (maxSteps := 2000000) (disch := omega) only [go_sem, simprocAttr, -List.reduceReplicate, condB_t, condB_f, hid]
  refine callK_of (stable_spec l hs h id _ hid) ?_
  simp -implicitDefEqProofs (maxSteps := 2000000) (disch := omega) only [go_sem, simprocAttr, -List.reduceReplicate, condB_t, condB_f]
  exact dn
theorem clone_new (l : List Ent) (h0 : 0 < l.length) (hl : l.length ≤ 1099511627776) (h : Heap) (m : Nat) :
    ADet Tryz.prog 41 [EL l] h m (.row m l.length 0 l.length) (upd h m (some ⟨4, l.map entC⟩)) := by
  refine anew_of E0ok mixed Tryz.func41 (by kernel_rfl) rfl (by kernel_rfl) (Nat.le_of_ble_eq_true rfl) (fun _ h => h) (fun r hr => (mapP _ r hr).2) fun N0 hn hmen _ => ⟨hmen, ?_⟩
  unfold EL
  simp -implicitDefEqProofs (maxSteps := 2000000) (disch := omega) only [go_sem, simprocAttr, -List.reduceReplicate, condB_t, condB_f]
  exact ⟨N0 + 24, by omega, by simp -implicitDefEqProofs (maxSteps := 2000000) (disch := omega) only [go_sem, simprocAttr, -List.reduceReplicate, condB_t, condB_f], .val (.row _ _ _)⟩
theorem sorted_spec (v : List Ent) (k : Nat) (hk : OkL v k) (hk1 : 1 ≤ k) (hlen : v.length ≤ 40) (hb : k + v.length * (k + 1) ≤ 1000000000000) : PDet Tryz.prog 25 [EL v] (EL (srt v)) := by
  refine pdet_of E0ok mixed Tryz.func25 (by kernel_rfl) rfl (by kernel_rfl) (Nat.le_of_ble_eq_true rfl) fun N0 h hn hmen => ?_
  have hkm : k ≤ k + v.length * (k + 1) := Nat.le_add_right _ _
  have ca := ascending_spec v k hk (by omega) (by omega)
  unfold EL at *
  simp -implicitDefEqProofs (maxSteps := 2000000) (disch := omega) only [go_sem, simprocAttr, -List.reduceReplicate, condB_t, condB_f]
  refine callK_pure ca ?_
  by_cases hc : Can (eV v)
  · rw [decide_eq_true hc]
    have e : srt v = v := by unfold srt; rw [if_pos hc]
    rw [e]
    simp -implicitDefEqProofs (maxSteps := 2000000) (disch := omega) only [go_sem, simprocAttr, -List.reduceReplicate, condB_t, condB_f]
    exact dn
  · rw [decide_eq_false hc]
    have e : srt v = grpL (isort v) := by unfold srt; rw [if_neg hc]
    rw [e]
    have hv : 0 < v.length := by
      cases v with
      | nil => exact absurd ⟨.nil, nofun⟩ hc
      | cons x v => simp
    simp -implicitDefEqProofs (maxSteps := 2000000) (disch := omega) only [go_sem, simprocAttr, -List.reduceReplicate, condB_t, condB_f]
    have cl := fun mm hh => clone_new v hv (by omega) hh mm
    unfold EL at cl
    refine callK_of (cl _ _) ?_
    simp -implicitDefEqProofs (maxSteps := 2000000) (disch := omega) only [go_sem, simprocAttr, -List.reduceReplicate, condB_t, condB_f]
    refine callK_of (sortStable_spec v hlen _ _ _ (by simp -implicitDefEqProofs (maxSteps := 2000000) (disch := omega) only [go_sem, simprocAttr, -List.reduceReplicate, condB_t, condB_f])) ?_
    have hS := hk.perm (isort_perm v)
    have lS := isort_len v
    have hlS : (isort v).length ≤ 40 := by omega
    have hbS : k + (isort v).length * (k + 1) ≤ 1000000000000 := by rw [lS]; exact hb
    rw [← lS]
    clear hk hb hlen hkm hv ca
    generalize isort v = S at hS hlS hbS ⊢
    simp -implicitDefEqProofs (maxSteps := 2000000) (disch := omega) only [go_sem, simprocAttr, -List.reduceReplicate, condB_t, condB_f]
    refine aw_weak (Weak.nilRow (t := 4) (sz := 4) (id := N0 + 80) (by omega) (by omega) (by simp -implicitDefEqProofs (maxSteps := 2000000) (disch := omega) only [go_sem, simprocAttr, -List.reduceReplicate, condB_t, condB_f])) ?_
    obtain ⟨idS, hidS⟩ : ∃ idS, idS = N0 + 32 := ⟨_, rfl⟩
    obtain ⟨idR, hidR⟩ : ∃ idR, idR = N0 + 80 := ⟨_, rfl⟩
    rw [← hidS, ← hidR]
    have n1 : (idS = idR) = False := eq_false (by omega)
    have n2 : (idR = idS) = False := eq_false (by omega)
    refine aw_loop (X := Nat × List Ent) (fun x => ⟨mkS [(3, .row idS S.length 0 S.length), (4, .row idR x.2.length 0 x.2.length), (5, .int .i64 x.1)], mkH h [(idS, ⟨4, S.map entC⟩), (idR, ⟨4, x.2.map entC⟩)], idR + 8⟩)
      (fun x => x.1 ≤ S.length ∧ x.2 ++ grpL (S.drop x.1) = grpL S ∧ x.2.length ≤ x.1) (fun x => S.length - x.1) ⟨(0, []), ⟨Nat.zero_le _, rfl, Nat.le_refl _⟩, ?_⟩ ?_
    · simp only
      (refine Weak.head2w (by simp -implicitDefEqProofs (maxSteps := 2000000) (disch := omega) only [go_sem, simprocAttr, -List.reduceReplicate, condB_t, condB_f, n1, n2] <;> (try rfl)) (by omega) (by first | exact mapU _ _ _ | (intro r hr; exact absurd hr List.not_mem_nil) | exact mapU entC [_] _ | exact mapU ratC [_] _ | (intro r hr a ha; simp only [List.mem_cons, List.not_mem_nil, or_false] at hr; subst hr; simp only [List.mem_cons, List.not_mem_nil, or_false] at ha; rcases ha with rfl | rfl | rfl <;> trivial)) (by simp -implicitDefEqProofs (maxSteps := 2000000) (disch := omega) only [go_sem, simprocAttr, -List.reduceReplicate, condB_t, condB_f, n1, n2] <;> (try rfl)) (by omega) (by first | exact mapU _ _ _ | (intro r hr; exact absurd hr List.not_mem_nil) | exact mapU entC [_] _ | exact mapU ratC [_] _ | (intro r hr a ha; simp only [List.mem_cons, List.not_mem_nil, or_false] at hr; subst hr; simp only [List.mem_cons, List.not_mem_nil, or_false] at ha; rcases ha with rfl | rfl | rfl <;> trivial)) (fun k0 b0 hk00 hk01 hb0 => by have hk10 : (k0 = _) = False := eq_false hk00; have hk11 : (k0 = _) = False := eq_false hk01; have hk2 := (hmen k0 b0 hb0).1; (simp -implicitDefEqProofs (maxSteps := 2000000) (disch := omega) only [go_sem, simprocAttr, -List.reduceReplicate, condB_t, condB_f, upd, mkH, hk10, hk11]) <;> (try (repeat rw [if_neg (by omega)])) <;> exact hb0) (by omega) hmen ?_; simp -implicitDefEqProofs (maxSteps := 2000000) (disch := omega) only [go_sem, simprocAttr, -List.reduceReplicate, condB_t, condB_f, AllP, AVle_same, AVle_int, AVle_nil, AVle_row, topU_int, topU_bool, topU_sl, topU_row, topU_ptr, topU_iptr, topU_fn, val, List.drop_length])
    · rintro ⟨i, res⟩ ⟨hi, hr, hrl⟩
      simp only at hi hr hrl
      by_cases h0 : i < S.length
      · have eg := grpL_drop h0
        have he := hS.get h0
        simp -implicitDefEqProofs (maxSteps := 2000000) (disch := omega) only [go_sem, simprocAttr, -List.reduceReplicate, condB_t, condB_f]
        generalize S.getD i default = e0 at *
        obtain ⟨id6, hid6⟩ : ∃ id6, id6 = idR + 72 := ⟨_, rfl⟩
        rw [← hid6]
        have n3 : (idS = id6) = False := eq_false (by omega)
        have n4 : (id6 = idS) = False := eq_false (by omega)
        have n5 : (idR = id6) = False := eq_false (by omega)
        have n6 : (id6 = idR) = False := eq_false (by omega)
        have n7 : (idR = id6 + 168) = False := eq_false (by omega)
        have n8 : (idS = id6 + 168) = False := eq_false (by omega)
        refine aw_loop (X := Nat × Ent) (fun x => ⟨mkS [(3, .row idS S.length 0 S.length), (4, .row idR res.length 0 res.length), (5, .int .i64 (i + 1 + x.1 : Nat)), (6, .ptr id6 1 0 0)], mkH h [(idS, ⟨4, S.map entC⟩), (idR, ⟨4, res.map entC⟩), (id6, ⟨4, [[.int .i64 x.2.1, .bool x.2.2.s, .sl 1 (numL x.2.2.m), .sl 1 (numL x.2.2.d)]]⟩)], id6 + 8⟩)
          (fun x => i + 1 + x.1 ≤ S.length ∧ grp x.2 (S.drop (i + 1 + x.1)) = grpL (S.drop i) ∧ x.2.2.Ok (k + x.1 * (k + 1))) (fun x => S.length - x.1) ⟨(0, e0), ⟨h0, eg.symm, by simpa using he⟩, ?_⟩ ?_
        · (refine Weak.head3w (by simp -implicitDefEqProofs (maxSteps := 2000000) (disch := omega) only [go_sem, simprocAttr, -List.reduceReplicate, condB_t, condB_f, n1, n2, n3, n4, n5, n6, n7, n8] <;> (try rfl)) (by omega) (by first | exact mapU _ _ _ | (intro r hr; exact absurd hr List.not_mem_nil) | exact mapU entC [_] _ | exact mapU ratC [_] _ | (intro r hr a ha; simp only [List.mem_cons, List.not_mem_nil, or_false] at hr; subst hr; simp only [List.mem_cons, List.not_mem_nil, or_false] at ha; rcases ha with rfl | rfl | rfl <;> trivial)) (by simp -implicitDefEqProofs (maxSteps := 2000000) (disch := omega) only [go_sem, simprocAttr, -List.reduceReplicate, condB_t, condB_f, n1, n2, n3, n4, n5, n6, n7, n8] <;> (try rfl)) (by omega) (by first | exact mapU _ _ _ | (intro r hr; exact absurd hr List.not_mem_nil) | exact mapU entC [_] _ | exact mapU ratC [_] _ | (intro r hr a ha; simp only [List.mem_cons, List.not_mem_nil, or_false] at hr; subst hr; simp only [List.mem_cons, List.not_mem_nil, or_false] at ha; rcases ha with rfl | rfl | rfl <;> trivial)) (by simp -implicitDefEqProofs (maxSteps := 2000000) (disch := omega) only [go_sem, simprocAttr, -List.reduceReplicate, condB_t, condB_f, n1, n2, n3, n4, n5, n6, n7, n8] <;> (try rfl)) (by omega) (by first | exact mapU _ _ _ | (intro r hr; exact absurd hr List.not_mem_nil) | exact mapU entC [_] _ | exact mapU ratC [_] _ | (intro r hr a ha; simp only [List.mem_cons, List.not_mem_nil, or_false] at hr; subst hr; simp only [List.mem_cons, List.not_mem_nil, or_false] at ha; rcases ha with rfl | rfl | rfl <;> trivial)) (fun k0 b0 hk00 hk01 hk02 hb0 => by have hk10 : (k0 = _) = False := eq_false hk00; have hk11 : (k0 = _) = False := eq_false hk01; have hk12 : (k0 = _) = False := eq_false hk02; have hk2 := (hmen k0 b0 hb0).1; (simp -implicitDefEqProofs (maxSteps := 2000000) (disch := omega) only [go_sem, simprocAttr, -List.reduceReplicate, condB_t, condB_f, upd, mkH, hk10, hk11, hk12]) <;> (try (repeat rw [if_neg (by omega)])) <;> exact hb0) (by omega) hmen ?_; simp -implicitDefEqProofs (maxSteps := 2000000) (disch := omega) only [go_sem, simprocAttr, -List.reduceReplicate, condB_t, condB_f, AllP, AVle_same, AVle_int, AVle_nil, AVle_row, topU_int, topU_bool, topU_sl, topU_row, topU_ptr, topU_iptr, topU_fn, val, List.drop_length])
        · rintro ⟨c, e⟩ ⟨hc, hg, heo⟩
          simp only at hc hg heo ⊢
          obtain ⟨j, hj⟩ : ∃ j, j = i + 1 + c := ⟨_, rfl⟩
          rw [← hj] at hc hg ⊢
          have hcm : c * (k + 1) + (k + 1) ≤ S.length * (k + 1) := by rw [← Nat.succ_mul]; exact Nat.mul_le_mul_right _ (by omega)
          have cs := rsign_spec e.2 _ heo (by omega)
          unfold Raw.cells nl at cs
          by_cases h1 : j < S.length
          · have hgd := grp_drop (e := e) h1
            by_cases h2 : (S.getD j default).1 = e.1
            · rw [if_pos h2] at hgd
              have hy := hS.get h1
              have ca := radd_spec e.2 _ _ k heo hy (by omega) hk1 (by omega)
              have hok := heo.add hy (by omega) hk1
              unfold rC Raw.cells nl at ca
              simp -implicitDefEqProofs (maxSteps := 2000000) (disch := omega) only [go_sem, simprocAttr, -List.reduceReplicate, condB_t, condB_f, n1, n2, n3, n4, n5, n6, n7, n8]
              refine pcallK_pure ca ?_
              simp -implicitDefEqProofs (maxSteps := 2000000) (disch := omega) only [go_sem, simprocAttr, -List.reduceReplicate, condB_t, condB_f, n1, n2, n3, n4, n5, n6, n7, n8]
              exact ⟨(c + 1, (e.1, canon (e.2.val + (S.getD j default).2.val))), ⟨by simp only; omega, by rw [← hg, hgd]; simp only; rw [show i + (1 + (c + 1)) = j + 1 by omega], by simp only; rw [Nat.succ_mul]; have := hok; rwa [show k + c * (k + 1) + k + 1 = k + (c * (k + 1) + (k + 1)) by omega] at this⟩, (by first | omega | (simp only; omega)), by (refine Weak.head3w (by simp -implicitDefEqProofs (maxSteps := 2000000) (disch := omega) only [go_sem, simprocAttr, -List.reduceReplicate, condB_t, condB_f, n1, n2, n3, n4, n5, n6, n7, n8] <;> (try rfl)) (by omega) (by first | exact mapU _ _ _ | (intro r hr; exact absurd hr List.not_mem_nil) | exact mapU entC [_] _ | exact mapU ratC [_] _ | (intro r hr a ha; simp only [List.mem_cons, List.not_mem_nil, or_false] at hr; subst hr; simp only [List.mem_cons, List.not_mem_nil, or_false] at ha; rcases ha with rfl | rfl | rfl <;> trivial)) (by simp -implicitDefEqProofs (maxSteps := 2000000) (disch := omega) only [go_sem, simprocAttr, -List.reduceReplicate, condB_t, condB_f, n1, n2, n3, n4, n5, n6, n7, n8] <;> (try rfl)) (by omega) (by first | exact mapU _ _ _ | (intro r hr; exact absurd hr List.not_mem_nil) | exact mapU entC [_] _ | exact mapU ratC [_] _ | (intro r hr a ha; simp only [List.mem_cons, List.not_mem_nil, or_false] at hr; subst hr; simp only [List.mem_cons, List.not_mem_nil, or_false] at ha; rcases ha with rfl | rfl | rfl <;> trivial)) (by simp -implicitDefEqProofs (maxSteps := 2000000) (disch := omega) only [go_sem, simprocAttr, -List.reduceReplicate, condB_t, condB_f, n1, n2, n3, n4, n5, n6, n7, n8] <;> (try rfl)) (by omega) (by first | exact mapU _ _ _ | (intro r hr; exact absurd hr List.not_mem_nil) | exact mapU entC [_] _ | exact mapU ratC [_] _ | (intro r hr a ha; simp only [List.mem_cons, List.not_mem_nil, or_false] at hr; subst hr; simp only [List.mem_cons, List.not_mem_nil, or_false] at ha; rcases ha with rfl | rfl | rfl <;> trivial)) (fun k0 b0 hk00 hk01 hk02 hb0 => by have hk10 : (k0 = _) = False := eq_false hk00; have hk11 : (k0 = _) = False := eq_false hk01; have hk12 : (k0 = _) = False := eq_false hk02; have hk2 := (hmen k0 b0 hb0).1; (simp -implicitDefEqProofs (maxSteps := 2000000) (disch := omega) only [go_sem, simprocAttr, -List.reduceReplicate, condB_t, condB_f, upd, mkH, hk10, hk11, hk12]) <;> (try (repeat rw [if_neg (by omega)])) <;> exact hb0) (by omega) hmen ?_; simp -implicitDefEqProofs (maxSteps := 2000000) (disch := omega) only [go_sem, simprocAttr, -List.reduceReplicate, condB_t, condB_f, AllP, AVle_same, AVle_int, AVle_nil, AVle_row, topU_int, topU_bool, topU_sl, topU_row, topU_ptr, topU_iptr, topU_fn, val, List.drop_length])⟩
            · rw [if_neg h2] at hgd
              have F := hgd
              rw [F] at hg
              simp -implicitDefEqProofs (maxSteps := 2000000) (disch := omega) only [go_sem, simprocAttr, -List.reduceReplicate, condB_t, condB_f, n1, n2, n3, n4, n5, n6, n7, n8]
              refine callK_pure cs ?_
              by_cases hz : sgnR e.2.val = 0
              · rw [hz]
                simp -implicitDefEqProofs (maxSteps := 2000000) (disch := omega) only [go_sem, simprocAttr, -List.reduceReplicate, condB_t, condB_f, n1, n2, n3, n4, n5, n6, n7, n8]
                exact ⟨(j, res), ⟨hc, by rw [← hr, ← hg]; unfold fin1; rw [if_pos (sgnR_zero.1 hz)]; rfl, by simp only; omega⟩, (by first | omega | (simp only; omega)), by (refine Weak.head2w (by simp -implicitDefEqProofs (maxSteps := 2000000) (disch := omega) only [go_sem, simprocAttr, -List.reduceReplicate, condB_t, condB_f, n1, n2, n3, n4, n5, n6, n7, n8] <;> (try rfl)) (by omega) (by first | exact mapU _ _ _ | (intro r hr; exact absurd hr List.not_mem_nil) | exact mapU entC [_] _ | exact mapU ratC [_] _ | (intro r hr a ha; simp only [List.mem_cons, List.not_mem_nil, or_false] at hr; subst hr; simp only [List.mem_cons, List.not_mem_nil, or_false] at ha; rcases ha with rfl | rfl | rfl <;> trivial)) (by simp -implicitDefEqProofs (maxSteps := 2000000) (disch := omega) only [go_sem, simprocAttr, -List.reduceReplicate, condB_t, condB_f, n1, n2, n3, n4, n5, n6, n7, n8] <;> (try rfl)) (by omega) (by first | exact mapU _ _ _ | (intro r hr; exact absurd hr List.not_mem_nil) | exact mapU entC [_] _ | exact mapU ratC [_] _ | (intro r hr a ha; simp only [List.mem_cons, List.not_mem_nil, or_false] at hr; subst hr; simp only [List.mem_cons, List.not_mem_nil, or_false] at ha; rcases ha with rfl | rfl | rfl <;> trivial)) (fun k0 b0 hk00 hk01 hb0 => by have hk10 : (k0 = _) = False := eq_false hk00; have hk11 : (k0 = _) = False := eq_false hk01; have hk2 := (hmen k0 b0 hb0).1; (simp -implicitDefEqProofs (maxSteps := 2000000) (disch := omega) only [go_sem, simprocAttr, -List.reduceReplicate, condB_t, condB_f, upd, mkH, hk10, hk11]) <;> (try (repeat rw [if_neg (by omega)])) <;> exact hb0) (by omega) hmen ?_; simp -implicitDefEqProofs (maxSteps := 2000000) (disch := omega) only [go_sem, simprocAttr, -List.reduceReplicate, condB_t, condB_f, AllP, AVle_same, AVle_int, AVle_nil, AVle_row, topU_int, topU_bool, topU_sl, topU_row, topU_ptr, topU_iptr, topU_fn, val, List.drop_length])⟩
              · simp -implicitDefEqProofs (maxSteps := 2000000) (disch := omega) only [go_sem, simprocAttr, -List.reduceReplicate, condB_t, condB_f, n1, n2, n3, n4, n5, n6, n7, n8]
                have hsn : (res ++ [e]).length = res.length + 1 := by simp
                exact ⟨(j, res ++ [e]), ⟨hc, by rw [← hr, ← hg]; unfold fin1; rw [if_neg (fun h => hz (sgnR_zero.2 h))]; simp, by simp only [List.length_append, List.length_cons, List.length_nil]; omega⟩, (by first | omega | (simp only; omega)), by (refine Weak.head2w (by simp -implicitDefEqProofs (maxSteps := 2000000) (disch := omega) only [go_sem, simprocAttr, -List.reduceReplicate, condB_t, condB_f, n1, n2, n3, n4, n5, n6, n7, n8] <;> (try rfl)) (by omega) (by first | exact mapU _ _ _ | (intro r hr; exact absurd hr List.not_mem_nil) | exact mapU entC [_] _ | exact mapU ratC [_] _ | (intro r hr a ha; simp only [List.mem_cons, List.not_mem_nil, or_false] at hr; subst hr; simp only [List.mem_cons, List.not_mem_nil, or_false] at ha; rcases ha with rfl | rfl | rfl <;> trivial)) (by simp -implicitDefEqProofs (maxSteps := 2000000) (disch := omega) only [go_sem, simprocAttr, -List.reduceReplicate, condB_t, condB_f, n1, n2, n3, n4, n5, n6, n7, n8] <;> (try rfl)) (by omega) (by first | exact mapU _ _ _ | (intro r hr; exact absurd hr List.not_mem_nil) | exact mapU entC [_] _ | exact mapU ratC [_] _ | (intro r hr a ha; simp only [List.mem_cons, List.not_mem_nil, or_false] at hr; subst hr; simp only [List.mem_cons, List.not_mem_nil, or_false] at ha; rcases ha with rfl | rfl | rfl <;> trivial)) (fun k0 b0 hk00 hk01 hb0 => by have hk10 : (k0 = _) = False := eq_false hk00; have hk11 : (k0 = _) = False := eq_false hk01; have hk2 := (hmen k0 b0 hb0).1; (simp -implicitDefEqProofs (maxSteps := 2000000) (disch := omega) only [go_sem, simprocAttr, -List.reduceReplicate, condB_t, condB_f, upd, mkH, hk10, hk11]) <;> (try (repeat rw [if_neg (by omega)])) <;> exact hb0) (by omega) hmen ?_; simp -implicitDefEqProofs (maxSteps := 2000000) (disch := omega) only [go_sem, simprocAttr, -List.reduceReplicate, condB_t, condB_f, AllP, AVle_same, AVle_int, AVle_nil, AVle_row, topU_int, topU_bool, topU_sl, topU_row, topU_ptr, topU_iptr, topU_fn, val, List.drop_length])⟩
          · have F : grp e (S.drop j) = fin1 e ++ grpL (S.drop j) := by
              rw [List.drop_eq_nil_of_le (by omega)]; unfold grp grpL; simp
            rw [F] at hg
            simp -implicitDefEqProofs (maxSteps := 2000000) (disch := omega) only [go_sem, simprocAttr, -List.reduceReplicate, condB_t, condB_f, n1, n2, n3, n4, n5, n6, n7, n8]
            refine callK_pure cs ?_
            by_cases hz : sgnR e.2.val = 0
            · rw [hz]
              simp -implicitDefEqProofs (maxSteps := 2000000) (disch := omega) only [go_sem, simprocAttr, -List.reduceReplicate, condB_t, condB_f, n1, n2, n3, n4, n5, n6, n7, n8]
              exact ⟨(j, res), ⟨hc, by rw [← hr, ← hg]; unfold fin1; rw [if_pos (sgnR_zero.1 hz)]; rfl, by simp only; omega⟩, (by first | omega | (simp only; omega)), by (refine Weak.head2w (by simp -implicitDefEqProofs (maxSteps := 2000000) (disch := omega) only [go_sem, simprocAttr, -List.reduceReplicate, condB_t, condB_f, n1, n2, n3, n4, n5, n6, n7, n8] <;> (try rfl)) (by omega) (by first | exact mapU _ _ _ | (intro r hr; exact absurd hr List.not_mem_nil) | exact mapU entC [_] _ | exact mapU ratC [_] _ | (intro r hr a ha; simp only [List.mem_cons, List.not_mem_nil, or_false] at hr; subst hr; simp only [List.mem_cons, List.not_mem_nil, or_false] at ha; rcases ha with rfl | rfl | rfl <;> trivial)) (by simp -implicitDefEqProofs (maxSteps := 2000000) (disch := omega) only [go_sem, simprocAttr, -List.reduceReplicate, condB_t, condB_f, n1, n2, n3, n4, n5, n6, n7, n8] <;> (try rfl)) (by omega) (by first | exact mapU _ _ _ | (intro r hr; exact absurd hr List.not_mem_nil) | exact mapU entC [_] _ | exact mapU ratC [_] _ | (intro r hr a ha; simp only [List.mem_cons, List.not_mem_nil, or_false] at hr; subst hr; simp only [List.mem_cons, List.not_mem_nil, or_false] at ha; rcases ha with rfl | rfl | rfl <;> trivial)) (fun k0 b0 hk00 hk01 hb0 => by have hk10 : (k0 = _) = False := eq_false hk00; have hk11 : (k0 = _) = False := eq_false hk01; have hk2 := (hmen k0 b0 hb0).1; (simp -implicitDefEqProofs (maxSteps := 2000000) (disch := omega) only [go_sem, simprocAttr, -List.reduceReplicate, condB_t, condB_f, upd, mkH, hk10, hk11]) <;> (try (repeat rw [if_neg (by omega)])) <;> exact hb0) (by omega) hmen ?_; simp -implicitDefEqProofs (maxSteps := 2000000) (disch := omega) only [go_sem, simprocAttr, -List.reduceReplicate, condB_t, condB_f, AllP, AVle_same, AVle_int, AVle_nil, AVle_row, topU_int, topU_bool, topU_sl, topU_row, topU_ptr, topU_iptr, topU_fn, val, List.drop_length])⟩
            · simp -implicitDefEqProofs (maxSteps := 2000000) (disch := omega) only [go_sem, simprocAttr, -List.reduceReplicate, condB_t, condB_f, n1, n2, n3, n4, n5, n6, n7, n8]
              have hsn : (res ++ [e]).length = res.length + 1 := by simp
              exact ⟨(j, res ++ [e]), ⟨hc, by rw [← hr, ← hg]; unfold fin1; rw [if_neg (fun h => hz (sgnR_zero.2 h))]; simp, by simp only [List.length_append, List.length_cons, List.length_nil]; omega⟩, (by first | omega | (simp only; omega)), by (refine Weak.head2w (by simp -implicitDefEqProofs (maxSteps := 2000000) (disch := omega) only [go_sem, simprocAttr, -List.reduceReplicate, condB_t, condB_f, n1, n2, n3, n4, n5, n6, n7, n8] <;> (try rfl)) (by omega) (by first | exact mapU _ _ _ | (intro r hr; exact absurd hr List.not_mem_nil) | exact mapU entC [_] _ | exact mapU ratC [_] _ | (intro r hr a ha; simp only [List.mem_cons, List.not_mem_nil, or_false] at hr; subst hr; simp only [List.mem_cons, List.not_mem_nil, or_false] at ha; rcases ha with rfl | rfl | rfl <;> trivial)) (by simp -implicitDefEqProofs (maxSteps := 2000000) (disch := omega) only [go_sem, simprocAttr, -List.reduceReplicate, condB_t, condB_f, n1, n2, n3, n4, n5, n6, n7, n8] <;> (try rfl)) (by omega) (by first | exact mapU _ _ _ | (intro r hr; exact absurd hr List.not_mem_nil) | exact mapU entC [_] _ | exact mapU ratC [_] _ | (intro r hr a ha; simp only [List.mem_cons, List.not_mem_nil, or_false] at hr; subst hr; simp only [List.mem_cons, List.not_mem_nil, or_false] at ha; rcases ha with rfl | rfl | rfl <;> trivial)) (fun k0 b0 hk00 hk01 hb0 => by have hk10 : (k0 = _) = False := eq_false hk00; have hk11 : (k0 = _) = False := eq_false hk01; have hk2 := (hmen k0 b0 hb0).1; (simp -implicitDefEqProofs (maxSteps := 2000000) (disch := omega) only [go_sem, simprocAttr, -List.reduceReplicate, condB_t, condB_f, upd, mkH, hk10, hk11]) <;> (try (repeat rw [if_neg (by omega)])) <;> exact hb0) (by omega) hmen ?_; simp -implicitDefEqProofs (maxSteps := 2000000) (disch := omega) only [go_sem, simprocAttr, -List.reduceReplicate, condB_t, condB_f, AllP, AVle_same, AVle_int, AVle_nil, AVle_row, topU_int, topU_bool, topU_sl, topU_row, topU_ptr, topU_iptr, topU_fn, val, List.drop_length])⟩
      · have e1 : res = grpL S := by
          rw [List.drop_eq_nil_of_le (by omega)] at hr
          have : grpL ([] : List Ent) = [] := rfl
          rw [this, List.append_nil] at hr; exact hr
        subst e1
        simp -implicitDefEqProofs (maxSteps := 2000000) (disch := omega) only [go_sem, simprocAttr, -List.reduceReplicate, condB_t, condB_f]
        refine .val (.leaf (Thaw.plain (rows := (grpL S).map entC) (by simp [locH, upd, mkH]; omega) (by simp) (by omega) (List.take_of_length_le (by simp)) (mapP _)))
theorem sorted_asc_spec (v : List Ent) (k : Nat) (hk : OkL v k) (hk1 : 1 ≤ k) (hlen : v.length ≤ 1099511627776) (hb : k ≤ 1000000000000) (hc : Can (eV v)) : PDet Tryz.prog 25 [EL v] (EL v) := by
  refine pdet_of E0ok mixed Tryz.func25 (by kernel_rfl) rfl (by kernel_rfl) (Nat.le_of_ble_eq_true rfl) fun N0 h hn hmen => ?_
  have ca := ascending_spec v k hk (by omega) (by omega)
  unfold EL at *
  simp -implicitDefEqProofs (maxSteps := 2000000) (disch := omega) only [go_sem, simprocAttr, -List.reduceReplicate, condB_t, condB_f]
  refine callK_pure ca ?_
  rw [decide_eq_true hc]
  simp -implicitDefEqProofs (maxSteps := 2000000) (disch := omega) only [go_sem, simprocAttr, -List.reduceReplicate, condB_t, condB_f]
  exact dn
end Go.Abs
/-! YtzVec3: Sparse vectors: canonical form, from dense, reading an entry. No condition. -/
set_option linter.unusedVariables false
set_option linter.unusedSimpArgs false
set_option maxRecDepth 100000
set_option maxHeartbeats 1000000
namespace Go.Abs
open Go.Proofs
@[go_sem] theorem R18 : Tryz.f18.results.toList = [.tmp 2] := rfl
@[go_sem] theorem R36 : Tryz.f36.results.toList = [.cell 4 42] := rfl
@[go_sem] theorem R23 : Tryz.f23.results.toList = [.tmp 2] := rfl
theorem norm_new (v : List Ent) (k : Nat) (hk : OkL v k) (hk1 : 1 ≤ k) (hlen : v.length ≤ 40) (hb : k + v.length * (k + 1) ≤ 1000000000000) (h : Heap) (m : Nat) :
    ADet Tryz.prog 23 [EL v] h m (.row m (cE (vcan (eV v))).length 0 (cE (vcan (eV v))).length) (upd h m (some ⟨4, (cE (vcan (eV v))).map entC⟩)) := by
  refine anew_of E0ok mixed Tryz.func23 (by kernel_rfl) rfl (by kernel_rfl) (Nat.le_of_ble_eq_true rfl) (fun _ h => h) (fun r hr => (mapP _ r hr).2) fun N0 hn hmen _ => ⟨hmen, ?_⟩
  have c1 := sorted_spec v k hk hk1 hlen hb
  have c2 := own_new (srt v) _ (srt_ok hk1 hk) (by omega) (by have := srt_len v; omega)
  rw [srt_val] at c2
  have hl : (cE (vcan (eV v))).length = (srt v).length := by rw [← srt_val, cE_len, eV_len]
  rw [← hl] at c2
  unfold EL at *
  simp -implicitDefEqProofs (maxSteps := 2000000) (disch := omega) only [go_sem, simprocAttr, -List.reduceReplicate, condB_t, condB_f]
  refine callK_pure c1 ?_
  simp -implicitDefEqProofs (maxSteps := 2000000) (disch := omega) only [go_sem, simprocAttr, -List.reduceReplicate, condB_t, condB_f]
  refine callK_of (c2 _ _) ?_
  simp -implicitDefEqProofs (maxSteps := 2000000) (disch := omega) only [go_sem, simprocAttr, -List.reduceReplicate, condB_t, condB_f]
  exact ⟨N0 + 24, by omega, by simp -implicitDefEqProofs (maxSteps := 2000000) (disch := omega) only [go_sem, simprocAttr, -List.reduceReplicate, condB_t, condB_f], .val (.row _ _ _)⟩
theorem norm_spec (v : List Ent) (k : Nat) (hk : OkL v k) (hk1 : 1 ≤ k) (hlen : v.length ≤ 40) (hb : k + v.length * (k + 1) ≤ 1000000000000) : PDet Tryz.prog 23 [EL v] (EL (cE (vcan (eV v)))) :=
  pdet_of_new (mapP _) fun h m => by
    have c := norm_new v k hk hk1 hlen hb h m
    rwa [← List.length_map (f := entC)] at c
theorem fD_nil : fD [] = [] := rfl
theorem fromDense_spec (l : List Raw) (k : Nat) (hk : ∀ i, i < l.length → (l.getD i default).Ok k) (hkb : k ≤ 1099511627776) (hl : l.length ≤ 1099511627776) : PDet Tryz.prog 18 [QL l] (EL (fD l)) := by
  refine pdet_of E0ok mixed Tryz.func18 (by kernel_rfl) rfl (by kernel_rfl) (Nat.le_of_ble_eq_true rfl) fun N0 h hn hmen => ?_
  unfold QL EL
  simp -implicitDefEqProofs (maxSteps := 2000000) (disch := omega) only [go_sem, simprocAttr, -List.reduceReplicate, condB_t, condB_f]
  refine aw_weak (Weak.nilRow (t := 3) (sz := 4) (id := N0 + 64) (by omega) (by omega) (by simp -implicitDefEqProofs (maxSteps := 2000000) (disch := omega) only [go_sem, simprocAttr, -List.reduceReplicate, condB_t, condB_f])) ?_
  obtain ⟨id, hid⟩ : ∃ id, id = N0 + 64 := ⟨_, rfl⟩
  rw [← hid]
  refine aw_loop (X := Nat) (fun i => ⟨mkS [(3, .row id (fD (l.take i)).length 0 (fD (l.take i)).length), (6, .sl 3 (l.map ratC)), (7, .int .i64 l.length), (8, .int .i64 i)], mkH h [(id, ⟨4, (fD (l.take i)).map entC⟩)], id + 8⟩) (fun i => i ≤ l.length) (fun i => l.length - i) ⟨0, Nat.zero_le _, ?_⟩ ?_
  · (refine Weak.head1w (by simp -implicitDefEqProofs (maxSteps := 2000000) (disch := omega) only [go_sem, simprocAttr, -List.reduceReplicate, condB_t, condB_f, fD_nil, List.length_nil] <;> (try rfl)) (by omega) (mapU _ _ _) (fun k0 b0 hk0 hb0 => by have hk1 : (k0 = _) = False := eq_false hk0; have hk2 := (hmen k0 b0 hb0).1; (simp -implicitDefEqProofs (maxSteps := 2000000) (disch := omega) only [go_sem, simprocAttr, -List.reduceReplicate, condB_t, condB_f, upd, mkH, hk1]) <;> (try (repeat rw [if_neg (by omega)])) <;> exact hb0) (by omega) hmen ?_; simp -implicitDefEqProofs (maxSteps := 2000000) (disch := omega) only [go_sem, simprocAttr, -List.reduceReplicate, condB_t, condB_f, AllP, AVle_same, AVle_int, AVle_nil, AVle_row, topU_int, topU_bool, topU_sl, topU_row, topU_ptr, topU_iptr, topU_fn, val, List.drop_length, fD_nil, List.length_nil])
  · intro i hi
    by_cases h0 : i < l.length
    · have hx := hk i h0
      have cs := rsign_spec _ k hx hkb
      have cn := rnorm_spec _ k hx hkb
      have e := fD_take_succ h0
      have fl := fD_len (l.take i)
      rw [List.length_take] at fl
      unfold rC Raw.cells nl at cn
      unfold Raw.cells nl at cs
      simp -implicitDefEqProofs (maxSteps := 2000000) (disch := omega) only [go_sem, simprocAttr, -List.reduceReplicate, condB_t, condB_f]
      generalize l.getD i default = x at *
      refine callK_pure cs ?_
      by_cases hz : sgnR x.val = 0
      · rw [if_pos (sgnR_zero.1 hz), List.append_nil] at e
        rw [hz]
        simp -implicitDefEqProofs (maxSteps := 2000000) (disch := omega) only [go_sem, simprocAttr, -List.reduceReplicate, condB_t, condB_f]
        exact ⟨i + 1, h0, by omega, by (refine Weak.head1w (by simp -implicitDefEqProofs (maxSteps := 2000000) (disch := omega) only [go_sem, simprocAttr, -List.reduceReplicate, condB_t, condB_f, e] <;> (try rfl)) (by omega) (mapU _ _ _) (fun k0 b0 hk0 hb0 => by have hk1 : (k0 = _) = False := eq_false hk0; have hk2 := (hmen k0 b0 hb0).1; (simp -implicitDefEqProofs (maxSteps := 2000000) (disch := omega) only [go_sem, simprocAttr, -List.reduceReplicate, condB_t, condB_f, upd, mkH, hk1]) <;> (try (repeat rw [if_neg (by omega)])) <;> exact hb0) (by omega) hmen ?_; simp -implicitDefEqProofs (maxSteps := 2000000) (disch := omega) only [go_sem, simprocAttr, -List.reduceReplicate, condB_t, condB_f, AllP, AVle_same, AVle_int, AVle_nil, AVle_row, topU_int, topU_bool, topU_sl, topU_row, topU_ptr, topU_iptr, topU_fn, val, List.drop_length, e])⟩
      · rw [if_neg (fun h => hz (sgnR_zero.2 h))] at e
        have el : (fD (l.take i) ++ [((i : Int), canon x.val)]).length = (fD (l.take i)).length + 1 := by simp
        simp -implicitDefEqProofs (maxSteps := 2000000) (disch := omega) only [go_sem, simprocAttr, -List.reduceReplicate, condB_t, condB_f]
        refine callK_pure cn ?_
        simp -implicitDefEqProofs (maxSteps := 2000000) (disch := omega) only [go_sem, simprocAttr, -List.reduceReplicate, condB_t, condB_f]
        exact ⟨i + 1, h0, by omega, by (refine Weak.head1w (by simp -implicitDefEqProofs (maxSteps := 2000000) (disch := omega) only [go_sem, simprocAttr, -List.reduceReplicate, condB_t, condB_f, e, el] <;> (try rfl)) (by omega) (mapU _ _ _) (fun k0 b0 hk0 hb0 => by have hk1 : (k0 = _) = False := eq_false hk0; have hk2 := (hmen k0 b0 hb0).1; (simp -implicitDefEqProofs (maxSteps := 2000000) (disch := omega) only [go_sem, simprocAttr, -List.reduceReplicate, condB_t, condB_f, upd, mkH, hk1]) <;> (try (repeat rw [if_neg (by omega)])) <;> exact hb0) (by omega) hmen ?_; simp -implicitDefEqProofs (maxSteps := 2000000) (disch := omega) only [go_sem, simprocAttr, -List.reduceReplicate, condB_t, condB_f, AllP, AVle_same, AVle_int, AVle_nil, AVle_row, topU_int, topU_bool, topU_sl, topU_row, topU_ptr, topU_iptr, topU_fn, val, List.drop_length, e, el])⟩
    · obtain rfl : i = l.length := by omega
      simp -implicitDefEqProofs (maxSteps := 2000000) (disch := omega) only [go_sem, simprocAttr, -List.reduceReplicate, condB_t, condB_f]
      rw [List.take_of_length_le (Nat.le_refl _)]
      refine .val (.leaf (Thaw.plain (rows := (fD l).map entC) (by simp [locH, upd, mkH]; omega) (by simp) (by omega) (List.take_of_length_le (by simp)) (mapP _)))
theorem get_spec (l : List Ent) (j : Int) (k : Nat) (hk : OkL l k) (hk1 : 1 ≤ k) (hl : l.length ≤ 1099511627776) (hkb : l.length * (k + 1) + (k + k + 1) ≤ 549755813888) : PDet Tryz.prog 36 [EL l, .int .i64 j] (.agg (rC (vget (eV l) j))) := by
  refine pdet_of E0ok mixed Tryz.func36 (by kernel_rfl) rfl (by kernel_rfl) (Nat.le_of_ble_eq_true rfl) fun N0 h hn hmen => ?_
  have cz := r3zero_spec
  unfold EL
  unfold rC Raw.cells nl at *
  simp -implicitDefEqProofs (maxSteps := 2000000) (disch := omega) only [go_sem, simprocAttr, -List.reduceReplicate, condB_t, condB_f]
  refine callK_pure cz ?_
  simp -implicitDefEqProofs (maxSteps := 2000000) (disch := omega) only [go_sem, simprocAttr, -List.reduceReplicate, condB_t, condB_f]
  obtain ⟨ia, hia⟩ : ∃ ia, ia = N0 + 16 := ⟨_, rfl⟩
  have n1 : (N0 = ia) = False := eq_false (by omega)
  have n2 : (ia = N0) = False := eq_false (by omega)
  rw [← hia]
  refine aw_loop (X := Nat) (fun i => ⟨mkS [(0, .sl 4 (l.map entC)), (1, .int .i64 j), (4, .ptr N0 1 0 0), (5, .ptr ia 1 0 0), (6, .int .i64 i)], mkH h [(N0, ⟨3, [[.bool false, .nil, .nil]]⟩), (ia, ⟨3, [[.bool (canon (vget (eV (l.take i)) j)).s, .sl 1 (numL (canon (vget (eV (l.take i)) j)).m), .sl 1 (numL (canon (vget (eV (l.take i)) j)).d)]]⟩)], ia + 8⟩) (fun i => i ≤ l.length ∧ Sz (vget (eV (l.take i)) j) (k + i * (k + 1))) (fun i => l.length - i) ⟨0, ⟨Nat.zero_le _, ?_⟩, ?_⟩ ?_
  · rw [show vget (eV (l.take 0)) j = 0 from rfl]
    exact sz_zero (by omega)
  · rw [show vget (eV (l.take 0)) j = 0 from rfl]
    (refine Weak.head2w (by simp -implicitDefEqProofs (maxSteps := 2000000) (disch := omega) only [go_sem, simprocAttr, -List.reduceReplicate, condB_t, condB_f, n1, n2] <;> (try rfl)) (by omega) (by first | exact mapU _ _ _ | (intro r hr; exact absurd hr List.not_mem_nil) | exact mapU entC [_] _ | exact mapU ratC [_] _ | (intro r hr a ha; simp only [List.mem_cons, List.not_mem_nil, or_false] at hr; subst hr; simp only [List.mem_cons, List.not_mem_nil, or_false] at ha; rcases ha with rfl | rfl | rfl <;> trivial)) (by simp -implicitDefEqProofs (maxSteps := 2000000) (disch := omega) only [go_sem, simprocAttr, -List.reduceReplicate, condB_t, condB_f, n1, n2] <;> (try rfl)) (by omega) (by first | exact mapU _ _ _ | (intro r hr; exact absurd hr List.not_mem_nil) | exact mapU entC [_] _ | exact mapU ratC [_] _ | (intro r hr a ha; simp only [List.mem_cons, List.not_mem_nil, or_false] at hr; subst hr; simp only [List.mem_cons, List.not_mem_nil, or_false] at ha; rcases ha with rfl | rfl | rfl <;> trivial)) (fun k0 b0 hk00 hk01 hb0 => by have hk10 : (k0 = _) = False := eq_false hk00; have hk11 : (k0 = _) = False := eq_false hk01; have hk2 := (hmen k0 b0 hb0).1; (simp -implicitDefEqProofs (maxSteps := 2000000) (disch := omega) only [go_sem, simprocAttr, -List.reduceReplicate, condB_t, condB_f, upd, mkH, hk10, hk11]) <;> (try (repeat rw [if_neg (by omega)])) <;> exact hb0) (by omega) hmen ?_; simp -implicitDefEqProofs (maxSteps := 2000000) (disch := omega) only [go_sem, simprocAttr, -List.reduceReplicate, condB_t, condB_f, AllP, AVle_same, AVle_int, AVle_nil, AVle_row, topU_int, topU_bool, topU_sl, topU_row, topU_ptr, topU_iptr, topU_fn, val, List.drop_length])
  · rintro i ⟨hi, hz⟩
    by_cases h0 : i < l.length
    · have hx := hk.get h0
      have e := vget_take_succ h0 j
      have hm : i * (k + 1) ≤ l.length * (k + 1) := Nat.mul_le_mul_right _ (by omega)
      have ca := r3add_spec _ _ _ k (canon_ok hz) hx (by omega) hk1 (by omega)
      have hs := hz.add (hx.sz hk1)
      rw [canon_val] at ca
      unfold rC Raw.cells nl at ca
      by_cases hj : (l.getD i default).1 = j
      · rw [if_pos hj] at e
        simp -implicitDefEqProofs (maxSteps := 2000000) (disch := omega) only [go_sem, simprocAttr, -List.reduceReplicate, condB_t, condB_f, n1, n2]
        refine pcallK_pure ca ?_
        simp -implicitDefEqProofs (maxSteps := 2000000) (disch := omega) only [go_sem, simprocAttr, -List.reduceReplicate, condB_t, condB_f, n1, n2]
        exact ⟨i + 1, ⟨h0, by rw [e, Nat.succ_mul]; exact hs.mono (by omega)⟩, by omega, by (refine Weak.head2w (by simp -implicitDefEqProofs (maxSteps := 2000000) (disch := omega) only [go_sem, simprocAttr, -List.reduceReplicate, condB_t, condB_f, n1, n2, e] <;> (try rfl)) (by omega) (by first | exact mapU _ _ _ | (intro r hr; exact absurd hr List.not_mem_nil) | exact mapU entC [_] _ | exact mapU ratC [_] _ | (intro r hr a ha; simp only [List.mem_cons, List.not_mem_nil, or_false] at hr; subst hr; simp only [List.mem_cons, List.not_mem_nil, or_false] at ha; rcases ha with rfl | rfl | rfl <;> trivial)) (by simp -implicitDefEqProofs (maxSteps := 2000000) (disch := omega) only [go_sem, simprocAttr, -List.reduceReplicate, condB_t, condB_f, n1, n2, e] <;> (try rfl)) (by omega) (by first | exact mapU _ _ _ | (intro r hr; exact absurd hr List.not_mem_nil) | exact mapU entC [_] _ | exact mapU ratC [_] _ | (intro r hr a ha; simp only [List.mem_cons, List.not_mem_nil, or_false] at hr; subst hr; simp only [List.mem_cons, List.not_mem_nil, or_false] at ha; rcases ha with rfl | rfl | rfl <;> trivial)) (fun k0 b0 hk00 hk01 hb0 => by have hk10 : (k0 = _) = False := eq_false hk00; have hk11 : (k0 = _) = False := eq_false hk01; have hk2 := (hmen k0 b0 hb0).1; (simp -implicitDefEqProofs (maxSteps := 2000000) (disch := omega) only [go_sem, simprocAttr, -List.reduceReplicate, condB_t, condB_f, upd, mkH, hk10, hk11]) <;> (try (repeat rw [if_neg (by omega)])) <;> exact hb0) (by omega) hmen ?_; simp -implicitDefEqProofs (maxSteps := 2000000) (disch := omega) only [go_sem, simprocAttr, -List.reduceReplicate, condB_t, condB_f, AllP, AVle_same, AVle_int, AVle_nil, AVle_row, topU_int, topU_bool, topU_sl, topU_row, topU_ptr, topU_iptr, topU_fn, val, List.drop_length])⟩
      · rw [if_neg hj] at e
        have e' : vget (eV (l.take (i + 1))) j = vget (eV (l.take i)) j := by rw [e]; grind
        simp -implicitDefEqProofs (maxSteps := 2000000) (disch := omega) only [go_sem, simprocAttr, -List.reduceReplicate, condB_t, condB_f, n1, n2]
        exact ⟨i + 1, ⟨h0, by rw [e', Nat.succ_mul]; exact hz.mono (by omega)⟩, by omega, by (refine Weak.head2w (by simp -implicitDefEqProofs (maxSteps := 2000000) (disch := omega) only [go_sem, simprocAttr, -List.reduceReplicate, condB_t, condB_f, n1, n2, e'] <;> (try rfl)) (by omega) (by first | exact mapU _ _ _ | (intro r hr; exact absurd hr List.not_mem_nil) | exact mapU entC [_] _ | exact mapU ratC [_] _ | (intro r hr a ha; simp only [List.mem_cons, List.not_mem_nil, or_false] at hr; subst hr; simp only [List.mem_cons, List.not_mem_nil, or_false] at ha; rcases ha with rfl | rfl | rfl <;> trivial)) (by simp -implicitDefEqProofs (maxSteps := 2000000) (disch := omega) only [go_sem, simprocAttr, -List.reduceReplicate, condB_t, condB_f, n1, n2, e'] <;> (try rfl)) (by omega) (by first | exact mapU _ _ _ | (intro r hr; exact absurd hr List.not_mem_nil) | exact mapU entC [_] _ | exact mapU ratC [_] _ | (intro r hr a ha; simp only [List.mem_cons, List.not_mem_nil, or_false] at hr; subst hr; simp only [List.mem_cons, List.not_mem_nil, or_false] at ha; rcases ha with rfl | rfl | rfl <;> trivial)) (fun k0 b0 hk00 hk01 hb0 => by have hk10 : (k0 = _) = False := eq_false hk00; have hk11 : (k0 = _) = False := eq_false hk01; have hk2 := (hmen k0 b0 hb0).1; (simp -implicitDefEqProofs (maxSteps := 2000000) (disch := omega) only [go_sem, simprocAttr, -List.reduceReplicate, condB_t, condB_f, upd, mkH, hk10, hk11]) <;> (try (repeat rw [if_neg (by omega)])) <;> exact hb0) (by omega) hmen ?_; simp -implicitDefEqProofs (maxSteps := 2000000) (disch := omega) only [go_sem, simprocAttr, -List.reduceReplicate, condB_t, condB_f, AllP, AVle_same, AVle_int, AVle_nil, AVle_row, topU_int, topU_bool, topU_sl, topU_row, topU_ptr, topU_iptr, topU_fn, val, List.drop_length])⟩
    · obtain rfl : i = l.length := by omega
      simp -implicitDefEqProofs (maxSteps := 2000000) (disch := omega) only [go_sem, simprocAttr, -List.reduceReplicate, condB_t, condB_f, n1, n2]
      rw [List.take_of_length_le (Nat.le_refl _)]
      exact dn
end Go.Abs
/-! YtzVec4: Sparse vectors: sameness, permutations. No condition. -/
set_option linter.unusedVariables false
set_option linter.unusedSimpArgs false
set_option maxRecDepth 100000
set_option maxHeartbeats 1000000
namespace Go.Abs
open Go.Proofs
@[go_sem] theorem R12 : Tryz.f12.results.toList = [.tmp 4] := rfl
@[go_sem] theorem R24 : Tryz.f24.results.toList = [.tmp 2] := rfl
theorem identical_spec (x y : Vec) (j k : Nat) (hx : ∀ e ∈ x, Sz e.2 j) (hy : ∀ e ∈ y, Sz e.2 k) (hj : j ≤ 549755813888) (hk : k ≤ 549755813888) (lx : x.length ≤ 1099511627776) (ly : y.length ≤ 1099511627776) :
    PDet Tryz.prog 12 [EL (cE x), EL (cE y)] (.bool (decide (x = y))) := by
  refine pdet_of E0ok mixed Tryz.func12 (by kernel_rfl) rfl (by kernel_rfl) (Nat.le_of_ble_eq_true rfl) fun N0 h hn hmen => ?_
  have cl := cE_len x
  have cl2 := cE_len y
  unfold EL
  by_cases hl : x.length = y.length
  · simp -implicitDefEqProofs (maxSteps := 2000000) (disch := omega) only [go_sem, simprocAttr, -List.reduceReplicate, condB_t, condB_f]
    refine aw_loop (X := Nat) (fun i => ⟨mkS [(0, .sl 4 ((cE x).map entC)), (1, .sl 4 ((cE y).map entC)), (5, .int .i64 i)], h, N0⟩) (fun i => i ≤ x.length ∧ x.take i = y.take i) (fun i => x.length - i) ⟨0, ⟨Nat.zero_le _, rfl⟩, ?_⟩ ?_
    · (refine Weak.slots (allP ?_) (fun k0 b0 hb0 => by first | exact hb0 | (have hk1 := (hmen k0 b0 hb0).1; simp only [upd, mkH]; (repeat rw [if_neg (by omega)]); exact hb0)) (by omega) hmen; simp -implicitDefEqProofs (maxSteps := 2000000) (disch := omega) only [go_sem, simprocAttr, -List.reduceReplicate, condB_t, condB_f, AllP, AVle_same, AVle_int, AVle_nil, AVle_row, topU_int, topU_bool, topU_sl, topU_row, topU_ptr, topU_iptr, topU_fn, val, List.drop_length])
    · rintro i ⟨hi, ht⟩
      by_cases h0 : i < x.length
      · have hst := take_eq_step h0 hl ht
        have g1 := cE_get h0
        have g2 := cE_get (hl ▸ h0)
        have mx : x.getD i default ∈ x := by rw [List.getD_eq_getElem?_getD, List.getElem?_eq_getElem h0]; exact List.getElem_mem _
        have my : y.getD i default ∈ y := by rw [List.getD_eq_getElem?_getD, List.getElem?_eq_getElem (hl ▸ h0)]; exact List.getElem_mem _
        have cc := r3canonical_canon _ j (hx _ mx) hj
        have ce := r3equal_canon _ _ j k (hx _ mx) (hy _ my) hj hk
        unfold rC Raw.cells nl at cc ce
        have hno : x.getD i default ≠ y.getD i default → x ≠ y := fun hn e => hn (by rw [e])
        by_cases h1 : (x.getD i default).1 = (y.getD i default).1
        · by_cases h2 : (x.getD i default).2 = (y.getD i default).2
          · have hyes := hst.2 (Prod.ext h1 h2)
            rw [decide_eq_true h2] at ce
            simp -implicitDefEqProofs (maxSteps := 2000000) (disch := omega) only [go_sem, simprocAttr, -List.reduceReplicate, condB_t, condB_f, g1, g2]
            refine pcallK_pure cc ?_
            simp -implicitDefEqProofs (maxSteps := 2000000) (disch := omega) only [go_sem, simprocAttr, -List.reduceReplicate, condB_t, condB_f, g1, g2]
            refine pcallK_pure ce ?_
            simp -implicitDefEqProofs (maxSteps := 2000000) (disch := omega) only [go_sem, simprocAttr, -List.reduceReplicate, condB_t, condB_f]
            exact ⟨i + 1, ⟨h0, hyes⟩, by omega, by (refine Weak.slots (allP ?_) (fun k0 b0 hb0 => by first | exact hb0 | (have hk1 := (hmen k0 b0 hb0).1; simp only [upd, mkH]; (repeat rw [if_neg (by omega)]); exact hb0)) (by omega) hmen; simp -implicitDefEqProofs (maxSteps := 2000000) (disch := omega) only [go_sem, simprocAttr, -List.reduceReplicate, condB_t, condB_f, AllP, AVle_same, AVle_int, AVle_nil, AVle_row, topU_int, topU_bool, topU_sl, topU_row, topU_ptr, topU_iptr, topU_fn, val, List.drop_length])⟩
          · have hne := hno (fun e => h2 (by rw [e]))
            rw [decide_eq_false h2] at ce
            rw [decide_eq_false hne]
            simp -implicitDefEqProofs (maxSteps := 2000000) (disch := omega) only [go_sem, simprocAttr, -List.reduceReplicate, condB_t, condB_f, g1, g2]
            refine pcallK_pure cc ?_
            simp -implicitDefEqProofs (maxSteps := 2000000) (disch := omega) only [go_sem, simprocAttr, -List.reduceReplicate, condB_t, condB_f, g1, g2]
            refine pcallK_pure ce ?_
            simp -implicitDefEqProofs (maxSteps := 2000000) (disch := omega) only [go_sem, simprocAttr, -List.reduceReplicate, condB_t, condB_f]
            exact dn
        · have hne := hno (fun e => h1 (by rw [e]))
          rw [decide_eq_false hne]
          simp -implicitDefEqProofs (maxSteps := 2000000) (disch := omega) only [go_sem, simprocAttr, -List.reduceReplicate, condB_t, condB_f, g1, g2]
          exact dn
      · obtain rfl : i = x.length := by omega
        rw [List.take_of_length_le (Nat.le_refl _), List.take_of_length_le (by omega)] at ht
        rw [decide_eq_true ht]
        simp -implicitDefEqProofs (maxSteps := 2000000) (disch := omega) only [go_sem, simprocAttr, -List.reduceReplicate, condB_t, condB_f]
        exact dn
  · rw [decide_eq_false (fun e => hl (by rw [e]))]
    simp -implicitDefEqProofs (maxSteps := 2000000) (disch := omega) only [go_sem, simprocAttr, -List.reduceReplicate, condB_t, condB_f]
    exact dn
/-- A list of all numbers below its length. -/
def PermL (p : List Int) : Prop := (∀ x ∈ p, 0 ≤ x ∧ x < p.length) ∧ p.Nodup
instance (p : List Int) : Decidable (PermL p) := by unfold PermL; infer_instance
def seenL (n : Nat) (p : List Int) : List Bool := (List.range n).map fun (j : Nat) => decide ((j : Int) ∈ p)
theorem seenL_len (n : Nat) (p : List Int) : (seenL n p).length = n := by simp [seenL]
theorem seenL_get {n : Nat} {p : List Int} {x : Int} (h0 : 0 ≤ x) (h1 : x < n) : (seenL n p).getD x.toNat false = decide (x ∈ p) := by
  unfold seenL
  rw [List.getD_eq_getElem?_getD, List.getElem?_map, List.getElem?_range (by omega)]
  simp only [Option.map_some, Option.getD_some]
  rw [Int.toNat_of_nonneg h0]
theorem seenL_set {n : Nat} {p : List Int} {x : Int} (h0 : 0 ≤ x) (h1 : x < n) : (seenL n p).set x.toNat true = seenL n (p ++ [x]) := by
  refine List.ext_getElem? fun j => ?_
  rw [List.getElem?_set, seenL_len]
  unfold seenL
  rw [List.getElem?_map, List.getElem?_map]
  by_cases hj : j < n
  · rw [List.getElem?_range hj]
    by_cases e : x.toNat = j
    · subst e
      simp only [↓reduceIte, hj, Option.map_some, List.mem_append, List.mem_singleton]
      rw [Int.toNat_of_nonneg h0]; simp
    · rw [if_neg e]
      simp only [Option.map_some, List.mem_append, List.mem_singleton]
      have : ¬ (j : Int) = x := by omega
      simp [this]
  · have hn : ¬ x.toNat = j := by omega
    rw [if_neg hn, List.getElem?_eq_none (by simp; omega)]; rfl
theorem permutation_spec (p : List Int) (hl : p.length ≤ 1099511627776) : PDet Tryz.prog 24 [IL p] (.bool (decide (PermL p))) := by
  refine pdet_of E0ok mixed Tryz.func24 (by kernel_rfl) rfl (by kernel_rfl) (Nat.le_of_ble_eq_true rfl) fun N0 h hn hmen => ?_
  unfold IL
  simp -implicitDefEqProofs (maxSteps := 2000000) (disch := omega) only [go_sem, simprocAttr, -List.reduceReplicate, condB_t, condB_f]
  obtain ⟨id, hid⟩ : ∃ id, id = N0 + 24 := ⟨_, rfl⟩
  rw [← hid]
  have e0 : List.replicate p.length false = seenL p.length (p.take 0) := by
    refine List.ext_getElem (by rw [seenL_len, List.length_replicate]) fun i h1 h2 => ?_
    unfold seenL; simp
  rw [e0]
  refine aw_loop (X := Nat) (fun i => ⟨mkS [(0, .sl 1 (p.map intC)), (3, .row id p.length 0 p.length), (9, .sl 1 (p.map intC)), (10, .int .i64 p.length), (11, .int .i64 i)], mkH h [(id, ⟨1, (seenL p.length (p.take i)).map boolC⟩)], id + 8⟩) (fun i => i ≤ p.length ∧ (∀ x ∈ p.take i, 0 ≤ x ∧ x < p.length) ∧ (p.take i).Nodup) (fun i => p.length - i) ⟨0, ⟨Nat.zero_le _, nofun, .nil⟩, ?_⟩ ?_
  · (refine Weak.head1w (by simp -implicitDefEqProofs (maxSteps := 2000000) (disch := omega) only [go_sem, simprocAttr, -List.reduceReplicate, condB_t, condB_f] <;> (try rfl)) (by omega) (mapU _ _ _) (fun k0 b0 hk0 hb0 => by have hk1 : (k0 = _) = False := eq_false hk0; have hk2 := (hmen k0 b0 hb0).1; (simp -implicitDefEqProofs (maxSteps := 2000000) (disch := omega) only [go_sem, simprocAttr, -List.reduceReplicate, condB_t, condB_f, upd, mkH, hk1]) <;> (try (repeat rw [if_neg (by omega)])) <;> exact hb0) (by omega) hmen ?_; simp -implicitDefEqProofs (maxSteps := 2000000) (disch := omega) only [go_sem, simprocAttr, -List.reduceReplicate, condB_t, condB_f, AllP, AVle_same, AVle_int, AVle_nil, AVle_row, topU_int, topU_bool, topU_sl, topU_row, topU_ptr, topU_iptr, topU_fn, val, List.drop_length])
  · rintro i ⟨hi, hr, hd⟩
    by_cases h0 : i < p.length
    · have ht : p.take (i + 1) = p.take i ++ [p.getD i 0] := by rw [List.take_add_one, List.getElem?_eq_getElem h0, List.getD_eq_getElem?_getD, List.getElem?_eq_getElem h0]; rfl
      have hm : p.getD i 0 ∈ p := by rw [List.getD_eq_getElem?_getD, List.getElem?_eq_getElem h0]; exact List.getElem_mem _
      have hsub : (p.take i ++ [p.getD i 0]).Sublist p := by rw [← ht]; exact List.take_sublist _ _
      have sl := seenL_len p.length (p.take i)
      obtain ⟨x, hxx⟩ : ∃ x, p.getD i 0 = x := ⟨_, rfl⟩
      rw [hxx] at ht hm hsub
      by_cases h1 : x < 0
      · rw [decide_eq_false (fun hp : PermL p => by have := (hp.1 x hm).1; omega)]
        simp -implicitDefEqProofs (maxSteps := 2000000) (disch := omega) only [go_sem, simprocAttr, -List.reduceReplicate, condB_t, condB_f, hxx]
        exact dn
      · by_cases h2 : p.length ≤ x
        · rw [decide_eq_false (fun hp : PermL p => by have := (hp.1 x hm).2; omega)]
          simp -implicitDefEqProofs (maxSteps := 2000000) (disch := omega) only [go_sem, simprocAttr, -List.reduceReplicate, condB_t, condB_f, hxx]
          exact dn
        · have hg := seenL_get (n := p.length) (p := p.take i) (x := x) (by omega) (by omega)
          have hs := seenL_set (n := p.length) (p := p.take i) (x := x) (by omega) (by omega)
          rw [← ht] at hs
          by_cases h3 : x ∈ p.take i
          · rw [decide_eq_true h3] at hg
            rw [decide_eq_false (fun hp : PermL p => by
              have := hp.2.sublist hsub
              rw [List.nodup_append] at this
              exact this.2.2 x h3 x (by simp) rfl)]
            simp -implicitDefEqProofs (maxSteps := 2000000) (disch := omega) only [go_sem, simprocAttr, -List.reduceReplicate, condB_t, condB_f, hxx, hg]
            exact dn
          · rw [decide_eq_false h3] at hg
            simp -implicitDefEqProofs (maxSteps := 2000000) (disch := omega) only [go_sem, simprocAttr, -List.reduceReplicate, condB_t, condB_f, hxx, hg]
            exact ⟨i + 1, ⟨h0, by rw [ht]; intro y hy; rcases List.mem_append.1 hy with hy | hy; exact hr y hy; rw [List.mem_singleton.1 hy]; omega, by
              rw [ht, List.nodup_append]; exact ⟨hd, by simp, fun a ha b hb => by rw [List.mem_singleton.1 hb]; exact fun e => h3 (e ▸ ha)⟩⟩, by omega, by (refine Weak.head1w (by simp -implicitDefEqProofs (maxSteps := 2000000) (disch := omega) only [go_sem, simprocAttr, -List.reduceReplicate, condB_t, condB_f, hxx, hs] <;> (try rfl)) (by omega) (mapU _ _ _) (fun k0 b0 hk0 hb0 => by have hk1 : (k0 = _) = False := eq_false hk0; have hk2 := (hmen k0 b0 hb0).1; (simp -implicitDefEqProofs (maxSteps := 2000000) (disch := omega) only [go_sem, simprocAttr, -List.reduceReplicate, condB_t, condB_f, upd, mkH, hk1]) <;> (try (repeat rw [if_neg (by omega)])) <;> exact hb0) (by omega) hmen ?_; simp -implicitDefEqProofs (maxSteps := 2000000) (disch := omega) only [go_sem, simprocAttr, -List.reduceReplicate, condB_t, condB_f, AllP, AVle_same, AVle_int, AVle_nil, AVle_row, topU_int, topU_bool, topU_sl, topU_row, topU_ptr, topU_iptr, topU_fn, val, List.drop_length, hxx, hs])⟩
    · obtain rfl : i = p.length := by omega
      rw [List.take_of_length_le (Nat.le_refl _)] at hr hd
      rw [decide_eq_true (show PermL p from ⟨hr, hd⟩)]
      simp -implicitDefEqProofs (maxSteps := 2000000) (disch := omega) only [go_sem, simprocAttr, -List.reduceReplicate, condB_t, condB_f]
      exact dn
end Go.Abs
/-! YtzVec5: Sparse vectors: permuting. No condition. -/
set_option linter.unusedVariables false
set_option linter.unusedSimpArgs false
set_option maxRecDepth 100000
set_option maxHeartbeats 1000000
namespace Go.Abs
open Go.Proofs
@[go_sem] theorem R10 : Tryz.f10.results.toList = [.tmp 4, .tmp 5] := rfl
/-- The first i entries' indices sent through p. -/
def pmv (p : List Int) (e : Ent) : Ent := (p.getD e.1.toNat 0, e.2)
def pmL (p : List Int) (l : List Ent) (i : Nat) : List Ent := (l.take i).map (pmv p) ++ l.drop i
theorem pmL_len (p : List Int) (l : List Ent) (i : Nat) : (pmL p l i).length = l.length := by
  unfold pmL; simp only [List.length_append, List.length_map, List.length_take, List.length_drop]; omega
theorem pmL_get {p : List Int} {l : List Ent} {i : Nat} (h : i < l.length) : (pmL p l i).getD i default = l.getD i default := by
  unfold pmL
  have hl : ((l.take i).map (pmv p)).length = i := by rw [List.length_map, List.length_take]; omega
  rw [List.getD_eq_getElem?_getD, List.getElem?_append_right (by omega), hl, Nat.sub_self, List.getElem?_drop, Nat.add_zero, ← List.getD_eq_getElem?_getD]
theorem pmL_set {p : List Int} {l : List Ent} {i : Nat} (h : i < l.length) : (pmL p l i).set i (p.getD (l.getD i default).1.toNat 0, (l.getD i default).2) = pmL p l (i + 1) := by
  have hl : ((l.take i).map (pmv p)).length = i := by rw [List.length_map, List.length_take]; omega
  have hd : l.drop i = l.getD i default :: l.drop (i + 1) := by rw [List.drop_eq_getElem_cons h, List.getD_eq_getElem?_getD, List.getElem?_eq_getElem h]; rfl
  unfold pmL
  rw [List.set_append_right _ _ (by omega), hl, Nat.sub_self, hd, take_succ_getE h, List.map_append, List.append_assoc]
  rfl
/-- Whether the vector fits the permutation, and what it becomes. -/
def PmOk (p : List Int) (v : Vec) : Prop := PermL p ∧ ∀ e ∈ v, 0 ≤ e.1 ∧ e.1 < p.length
instance (p : List Int) (v : Vec) : Decidable (PmOk p v) := by unfold PmOk; infer_instance
def pmOut (p : List Int) (v : Vec) : List Ent := if PmOk p v then srt ((cE v).map (pmv p)) else []
theorem asc_first {v : Vec} (h : Can v) : ∀ e ∈ v, (v.getD 0 default).1 ≤ e.1 := fun e he => by
  cases v with
  | nil => cases he
  | cons x v =>
    have := List.pairwise_cons.1 h.asc
    rcases List.mem_cons.1 he with rfl | he
    · exact Int.le_refl _
    · exact Int.le_of_lt (this.1 e he)
theorem asc_last {v : Vec} (h : Can v) : ∀ e ∈ v, e.1 ≤ (v.getD (v.length - 1) default).1 := fun e he => by
  obtain ⟨i, hi, rfl⟩ := List.mem_iff_getElem.1 he
  rw [List.getD_eq_getElem?_getD, List.getElem?_eq_getElem (by omega)]
  rcases Nat.lt_or_ge i (v.length - 1) with g | g
  · exact Int.le_of_lt (List.pairwise_iff_getElem.1 h.asc i (v.length - 1) hi (by omega) g)
  · obtain rfl : i = v.length - 1 := by omega
    exact Int.le_refl _
@[go_sem] theorem raw_eta (x : Raw) : Raw.mk x.s x.m x.d = x := rfl
theorem permute_spec (v : List Ent) (p : List Int) (k : Nat) (hk : OkL v k) (hk1 : 1 ≤ k) (hlen : v.length ≤ 40) (hb : k + v.length * (k + 1) ≤ 20000000000) (hp : p.length ≤ 1099511627776) :
    PDet Tryz.prog 10 [EL v, IL p] (.tup [EL (pmOut p (vcan (eV v))), .bool (decide (PmOk p (vcan (eV v))))]) := by
  refine pdet_of E0ok mixed Tryz.func10 (by kernel_rfl) rfl (by kernel_rfl) (Nat.le_of_ble_eq_true rfl) fun N0 h hn hmen => ?_
  have hok := eV_sz (srt_ok hk1 hk) (by omega)
  rw [srt_val] at hok
  have hcl : (vcan (eV v)).length ≤ v.length := by rw [← srt_val, eV_len]; exact srt_len v
  have c1 := fun h m => norm_new v k hk hk1 hlen (by omega) h m
  have hcan := vcan_can (eV v)
  generalize vcan (eV v) = w at *
  have c2 := permutation_spec p hp
  have cl := cE_len w
  unfold EL IL at *
  simp -implicitDefEqProofs (maxSteps := 2000000) (disch := omega) only [go_sem, simprocAttr, -List.reduceReplicate, condB_t, condB_f]
  refine callK_of (c1 _ _) ?_
  simp -implicitDefEqProofs (maxSteps := 2000000) (disch := omega) only [go_sem, simprocAttr, -List.reduceReplicate, condB_t, condB_f]
  refine callK_pure c2 ?_
  by_cases h1 : PermL p
  · rw [decide_eq_true h1]
    rw [cl]
    obtain ⟨id, hid⟩ : ∃ id, id = N0 + 24 := ⟨_, rfl⟩
    rw [← hid]
    have cs : PmOk p w → PDet Tryz.prog 25 [.sl 4 (((cE w).map (pmv p)).map entC)] (EL (pmOut p w)) := fun hy => by
      unfold pmOut; rw [if_pos hy]
      have hK : OkL ((cE w).map (pmv p)) (k + v.length * (k + 1)) := fun e he => by
        obtain ⟨x, hx, rfl⟩ := List.mem_map.1 he
        exact cE_ok hok x hx
      have hm : w.length * ((k + v.length * (k + 1)) + 1) ≤ 40 * ((k + v.length * (k + 1)) + 1) := Nat.mul_le_mul_right _ (by omega)
      exact sorted_spec _ _ hK (by omega) (by simp [cl]; omega) (by rw [List.length_map, cl]; omega)
    unfold EL at cs
    rcases Nat.eq_zero_or_pos w.length with hw | hw
    · have hyes : PmOk p w := ⟨h1, by rw [List.eq_nil_of_length_eq_zero hw]; exact nofun⟩
      have cs := cs hyes
      rw [decide_eq_true hyes]
      simp -implicitDefEqProofs (maxSteps := 2000000) (disch := omega) only [go_sem, simprocAttr, -List.reduceReplicate, condB_t, condB_f]
      refine aw_loop (X := Nat) (fun i => ⟨mkS [(1, .sl 1 (p.map intC)), (6, .row id w.length 0 w.length), (38, .int .i64 w.length), (39, .int .i64 i)], mkH h [(id, ⟨4, (pmL p (cE w) i).map entC⟩)], id + 8⟩) (fun i => i ≤ w.length) (fun i => w.length - i) ⟨0, Nat.zero_le _, ?_⟩ ?_
      · rw [show pmL p (cE w) 0 = cE w from rfl]
        (refine Weak.head1w (by simp -implicitDefEqProofs (maxSteps := 2000000) (disch := omega) only [go_sem, simprocAttr, -List.reduceReplicate, condB_t, condB_f] <;> (try rfl)) (by omega) (mapU _ _ _) (fun k0 b0 hk0 hb0 => by have hk1 : (k0 = _) = False := eq_false hk0; have hk2 := (hmen k0 b0 hb0).1; (simp -implicitDefEqProofs (maxSteps := 2000000) (disch := omega) only [go_sem, simprocAttr, -List.reduceReplicate, condB_t, condB_f, upd, mkH, hk1]) <;> (try (repeat rw [if_neg (by omega)])) <;> exact hb0) (by omega) hmen ?_; simp -implicitDefEqProofs (maxSteps := 2000000) (disch := omega) only [go_sem, simprocAttr, -List.reduceReplicate, condB_t, condB_f, AllP, AVle_same, AVle_int, AVle_nil, AVle_row, topU_int, topU_bool, topU_sl, topU_row, topU_ptr, topU_iptr, topU_fn, val, List.drop_length])
      · intro i hi
        have pl := pmL_len p (cE w) i
        by_cases h0 : i < w.length
        · omega
        · obtain rfl : i = w.length := by omega
          have e1 : pmL p (cE w) w.length = (cE w).map (pmv p) := by
            unfold pmL
            rw [← cl, List.take_of_length_le (Nat.le_refl _), List.drop_eq_nil_of_le (Nat.le_refl _), List.append_nil]
          rw [e1]
          simp -implicitDefEqProofs (maxSteps := 2000000) (disch := omega) only [go_sem, simprocAttr, -List.reduceReplicate, condB_t, condB_f]
          refine callK_row cs (by simp only [upd_same, mkH_cons, ↓reduceIte] <;> rfl) (by simp [cl]) (by omega) (List.take_of_length_le (by simp [cl])) (mapP _) ?_
          simp -implicitDefEqProofs (maxSteps := 2000000) (disch := omega) only [go_sem, simprocAttr, -List.reduceReplicate, condB_t, condB_f]
          exact dn
    · have gf := cE_get hw
      have gl := cE_get (v := w) (i := w.length - 1) (by omega)
      have hf := asc_first hcan
      have hla := asc_last hcan
      have m0 : w.getD 0 default ∈ w := by rw [List.getD_eq_getElem?_getD, List.getElem?_eq_getElem hw]; exact List.getElem_mem _
      have m1 : w.getD (w.length - 1) default ∈ w := by rw [List.getD_eq_getElem?_getD, List.getElem?_eq_getElem (by omega)]; exact List.getElem_mem _
      by_cases h2 : (w.getD 0 default).1 < 0
      · have hno : ¬ PmOk p w := fun h => by have := (h.2 _ m0).1; omega
        have e : pmOut p w = [] := by unfold pmOut; rw [if_neg hno]
        rw [decide_eq_false hno, e]
        simp -implicitDefEqProofs (maxSteps := 2000000) (disch := omega) only [go_sem, simprocAttr, -List.reduceReplicate, condB_t, condB_f, gf]
        exact dn
      · by_cases h3 : (p.length : Int) ≤ (w.getD (w.length - 1) default).1
        · have hno : ¬ PmOk p w := fun h => by have := (h.2 _ m1).2; omega
          have e : pmOut p w = [] := by unfold pmOut; rw [if_neg hno]
          rw [decide_eq_false hno, e]
          simp -implicitDefEqProofs (maxSteps := 2000000) (disch := omega) only [go_sem, simprocAttr, -List.reduceReplicate, condB_t, condB_f, gf, gl]
          exact dn
        · have hyes : PmOk p w := ⟨h1, fun e he => by have := hf e he; have := hla e he; omega⟩
          have cs := cs hyes
          rw [decide_eq_true hyes]
          simp -implicitDefEqProofs (maxSteps := 2000000) (disch := omega) only [go_sem, simprocAttr, -List.reduceReplicate, condB_t, condB_f, gf, gl]
          refine aw_loop (X := Nat) (fun i => ⟨mkS [(1, .sl 1 (p.map intC)), (6, .row id w.length 0 w.length), (38, .int .i64 w.length), (39, .int .i64 i)], mkH h [(id, ⟨4, (pmL p (cE w) i).map entC⟩)], id + 8⟩) (fun i => i ≤ w.length) (fun i => w.length - i) ⟨0, Nat.zero_le _, ?_⟩ ?_
          · rw [show pmL p (cE w) 0 = cE w from rfl]
            (refine Weak.head1w (by simp -implicitDefEqProofs (maxSteps := 2000000) (disch := omega) only [go_sem, simprocAttr, -List.reduceReplicate, condB_t, condB_f] <;> (try rfl)) (by omega) (mapU _ _ _) (fun k0 b0 hk0 hb0 => by have hk1 : (k0 = _) = False := eq_false hk0; have hk2 := (hmen k0 b0 hb0).1; (simp -implicitDefEqProofs (maxSteps := 2000000) (disch := omega) only [go_sem, simprocAttr, -List.reduceReplicate, condB_t, condB_f, upd, mkH, hk1]) <;> (try (repeat rw [if_neg (by omega)])) <;> exact hb0) (by omega) hmen ?_; simp -implicitDefEqProofs (maxSteps := 2000000) (disch := omega) only [go_sem, simprocAttr, -List.reduceReplicate, condB_t, condB_f, AllP, AVle_same, AVle_int, AVle_nil, AVle_row, topU_int, topU_bool, topU_sl, topU_row, topU_ptr, topU_iptr, topU_fn, val, List.drop_length])
          · intro i hi
            have pl := pmL_len p (cE w) i
            by_cases h0 : i < w.length
            · have g1 := pmL_get (p := p) (l := cE w) (i := i) (by omega)
              have s1 := pmL_set (p := p) (l := cE w) (i := i) (by omega)
              have g2 := cE_get h0
              rw [g2] at g1 s1
              have mx : w.getD i default ∈ w := by rw [List.getD_eq_getElem?_getD, List.getElem?_eq_getElem h0]; exact List.getElem_mem _
              have hin := hyes.2 _ mx
              generalize w.getD i default = e at *
              simp only at s1
              simp -implicitDefEqProofs (maxSteps := 2000000) (disch := omega) only [go_sem, simprocAttr, -List.reduceReplicate, condB_t, condB_f, g1]
              exact ⟨i + 1, h0, by omega, by (refine Weak.head1w (by simp -implicitDefEqProofs (maxSteps := 2000000) (disch := omega) only [go_sem, simprocAttr, -List.reduceReplicate, condB_t, condB_f, g1, s1] <;> (try rfl)) (by omega) (mapU _ _ _) (fun k0 b0 hk0 hb0 => by have hk1 : (k0 = _) = False := eq_false hk0; have hk2 := (hmen k0 b0 hb0).1; (simp -implicitDefEqProofs (maxSteps := 2000000) (disch := omega) only [go_sem, simprocAttr, -List.reduceReplicate, condB_t, condB_f, upd, mkH, hk1]) <;> (try (repeat rw [if_neg (by omega)])) <;> exact hb0) (by omega) hmen ?_; simp -implicitDefEqProofs (maxSteps := 2000000) (disch := omega) only [go_sem, simprocAttr, -List.reduceReplicate, condB_t, condB_f, AllP, AVle_same, AVle_int, AVle_nil, AVle_row, topU_int, topU_bool, topU_sl, topU_row, topU_ptr, topU_iptr, topU_fn, val, List.drop_length, g1, s1])⟩
            · obtain rfl : i = w.length := by omega
              have e1 : pmL p (cE w) w.length = (cE w).map (pmv p) := by
                unfold pmL
                rw [← cl, List.take_of_length_le (Nat.le_refl _), List.drop_eq_nil_of_le (Nat.le_refl _), List.append_nil]
              rw [e1]
              simp -implicitDefEqProofs (maxSteps := 2000000) (disch := omega) only [go_sem, simprocAttr, -List.reduceReplicate, condB_t, condB_f]
              refine callK_row cs (by simp only [upd_same, mkH_cons, ↓reduceIte] <;> rfl) (by simp [cl]) (by omega) (List.take_of_length_le (by simp [cl])) (mapP _) ?_
              simp -implicitDefEqProofs (maxSteps := 2000000) (disch := omega) only [go_sem, simprocAttr, -List.reduceReplicate, condB_t, condB_f]
              exact dn
  · have hno : ¬ PmOk p w := fun h => h1 h.1
    have e : pmOut p w = [] := by unfold pmOut; rw [if_neg hno]
    rw [decide_eq_false h1, decide_eq_false hno, e]
    simp -implicitDefEqProofs (maxSteps := 2000000) (disch := omega) only [go_sem, simprocAttr, -List.reduceReplicate, condB_t, condB_f]
    exact dn
end Go.Abs
/-! YtzVec6: Sparse vectors: inner product. No condition. -/
set_option linter.unusedVariables false
set_option linter.unusedSimpArgs false
set_option maxRecDepth 100000
set_option maxHeartbeats 1000000
namespace Go.Abs
open Go.Proofs
@[go_sem] theorem R32 : Tryz.f32.results.toList = [.cell 4 42] := rfl
/-- The inner product of two canonical vectors, as it is summed up. -/
def dotM : Vec → Vec → Rat
  | [], _ => 0
  | _ :: _, [] => 0
  | a :: x, b :: y => if a.1 < b.1 then dotM x (b :: y) else if b.1 < a.1 then dotM (a :: x) y else a.2 * b.2 + dotM x y
termination_by x y => x.length + y.length
theorem dotM_nil (x : Vec) : dotM x [] = 0 := by cases x <;> rw [dotM]
theorem dotM_drop {S T : List Ent} {i j : Nat} (hi : i < S.length) (hj : j < T.length) : dotM (eV (S.drop i)) (eV (T.drop j)) =
    if (S.getD i default).1 < (T.getD j default).1 then dotM (eV (S.drop (i + 1))) (eV (T.drop j)) else if (T.getD j default).1 < (S.getD i default).1 then dotM (eV (S.drop i)) (eV (T.drop (j + 1)))
    else (S.getD i default).2.val * (T.getD j default).2.val + dotM (eV (S.drop (i + 1))) (eV (T.drop (j + 1))) := by
  have h1 : S.drop i = S.getD i default :: S.drop (i + 1) := by rw [List.drop_eq_getElem_cons hi, List.getD_eq_getElem?_getD, List.getElem?_eq_getElem hi]; rfl
  have h2 : T.drop j = T.getD j default :: T.drop (j + 1) := by rw [List.drop_eq_getElem_cons hj, List.getD_eq_getElem?_getD, List.getElem?_eq_getElem hj]; rfl
  rw [h1, h2]
  simp only [eV, List.map_cons]
  rw [dotM]
theorem dot_spec (x y : List Ent) (k K : Nat) (hx : OkL x k) (hy : OkL y k) (hk1 : 1 ≤ k) (lx : x.length ≤ 40) (ly : y.length ≤ 40) (bx : k + x.length * (k + 1) ≤ K) (bY : k + y.length * (k + 1) ≤ K) (hK : K ≤ 10000000000) :
    PDet Tryz.prog 32 [EL x, EL y] (.agg (rC (dotM (vcan (eV x)) (vcan (eV y))))) := by
  refine pdet_of E0ok mixed Tryz.func32 (by kernel_rfl) rfl (by kernel_rfl) (Nat.le_of_ble_eq_true rfl) fun N0 h hn hmen => ?_
  have c1 := sorted_spec x k hx hk1 lx (by omega)
  have c2 := sorted_spec y k hy hk1 ly (by omega)
  have hS : OkL (srt x) K := (srt_ok hk1 hx).mono bx
  have hT : OkL (srt y) K := (srt_ok hk1 hy).mono bY
  have lS := srt_len x
  have lT := srt_len y
  have cz := rfromInt_spec 0 (by decide) (by decide)
  rw [← srt_val, ← srt_val]
  generalize srt x = S at *
  generalize srt y = T at *
  unfold EL rC Raw.cells nl at *
  simp -implicitDefEqProofs (maxSteps := 2000000) (disch := omega) only [go_sem, simprocAttr, -List.reduceReplicate, condB_t, condB_f]
  refine callK_pure c1 ?_
  simp -implicitDefEqProofs (maxSteps := 2000000) (disch := omega) only [go_sem, simprocAttr, -List.reduceReplicate, condB_t, condB_f]
  refine callK_pure c2 ?_
  simp -implicitDefEqProofs (maxSteps := 2000000) (disch := omega) only [go_sem, simprocAttr, -List.reduceReplicate, condB_t, condB_f]
  refine callK_pure cz ?_
  simp -implicitDefEqProofs (maxSteps := 2000000) (disch := omega) only [go_sem, simprocAttr, -List.reduceReplicate, condB_t, condB_f]
  obtain ⟨ia, hia⟩ : ∃ ia, ia = N0 + 64 := ⟨_, rfl⟩
  have n1 : (N0 = ia) = False := eq_false (by omega)
  have n2 : (ia = N0) = False := eq_false (by omega)
  rw [← hia]
  refine aw_loop (X := Nat × Nat × Rat) (fun x => ⟨mkS [(4, .ptr N0 1 0 0), (5, .sl 4 (S.map entC)), (6, .sl 4 (T.map entC)), (7, .ptr ia 1 0 0), (8, .int .i64 x.1), (9, .int .i64 x.2.1)], mkH h [(N0, ⟨3, [[.bool false, .nil, .nil]]⟩), (ia, ⟨3, [[.bool (canon x.2.2).s, .sl 1 (numL (canon x.2.2).m), .sl 1 (numL (canon x.2.2).d)]]⟩)], ia + 8⟩)
    (fun x => x.1 ≤ S.length ∧ x.2.1 ≤ T.length ∧ Sz x.2.2 (1 + x.1 * (K + K + 1)) ∧ x.2.2 + dotM (eV (S.drop x.1)) (eV (T.drop x.2.1)) = dotM (eV S) (eV T)) (fun x => (S.length - x.1) + (T.length - x.2.1)) ⟨(0, 0, 0), ⟨Nat.zero_le _, Nat.zero_le _, sz_zero (by omega), by simp only [List.drop_zero]; grind⟩, ?_⟩ ?_
  · have e : (((0 : Int) : Rat)) = 0 := rfl
    rw [e]
    (refine Weak.head2w (by simp -implicitDefEqProofs (maxSteps := 2000000) (disch := omega) only [go_sem, simprocAttr, -List.reduceReplicate, condB_t, condB_f, n1, n2] <;> (try rfl)) (by omega) (by first | exact mapU _ _ _ | (intro r hr; exact absurd hr List.not_mem_nil) | exact mapU entC [_] _ | exact mapU ratC [_] _ | (intro r hr a ha; simp only [List.mem_cons, List.not_mem_nil, or_false] at hr; subst hr; simp only [List.mem_cons, List.not_mem_nil, or_false] at ha; rcases ha with rfl | rfl | rfl <;> trivial)) (by simp -implicitDefEqProofs (maxSteps := 2000000) (disch := omega) only [go_sem, simprocAttr, -List.reduceReplicate, condB_t, condB_f, n1, n2] <;> (try rfl)) (by omega) (by first | exact mapU _ _ _ | (intro r hr; exact absurd hr List.not_mem_nil) | exact mapU entC [_] _ | exact mapU ratC [_] _ | (intro r hr a ha; simp only [List.mem_cons, List.not_mem_nil, or_false] at hr; subst hr; simp only [List.mem_cons, List.not_mem_nil, or_false] at ha; rcases ha with rfl | rfl | rfl <;> trivial)) (fun k0 b0 hk00 hk01 hb0 => by have hk10 : (k0 = _) = False := eq_false hk00; have hk11 : (k0 = _) = False := eq_false hk01; have hk2 := (hmen k0 b0 hb0).1; (simp -implicitDefEqProofs (maxSteps := 2000000) (disch := omega) only [go_sem, simprocAttr, -List.reduceReplicate, condB_t, condB_f, upd, mkH, hk10, hk11]) <;> (try (repeat rw [if_neg (by omega)])) <;> exact hb0) (by omega) hmen ?_; simp -implicitDefEqProofs (maxSteps := 2000000) (disch := omega) only [go_sem, simprocAttr, -List.reduceReplicate, condB_t, condB_f, AllP, AVle_same, AVle_int, AVle_nil, AVle_row, topU_int, topU_bool, topU_sl, topU_row, topU_ptr, topU_iptr, topU_fn, val, List.drop_length])
  · rintro ⟨i, j, q⟩ ⟨hi, hj, hz, hq⟩
    simp only at hi hj hz hq
    by_cases h0 : i < S.length
    · by_cases h1 : j < T.length
      · have sx := hS.get h0
        have sy := hT.get h1
        have hd := dotM_drop h0 h1
        have hm : i * (K + K + 1) ≤ 40 * (10000000000 + 10000000000 + 1) := Nat.mul_le_mul (by omega) (by omega)
        have K1 : 1 ≤ K := by omega
        have cm := rmul_spec _ _ K K sx sy K1 K1 (by omega)
        have sm := (sx.sz K1).mul (sy.sz K1)
        have ca := radd_spec _ _ _ _ (canon_ok hz) (canon_ok sm) (by omega) (by omega) (by omega)
        have ss := hz.add sm
        rw [canon_val, canon_val] at ca
        unfold rC Raw.cells nl at cm ca
        obtain ⟨e, he⟩ : ∃ e, S.getD i default = e := ⟨_, rfl⟩
        obtain ⟨f, hf⟩ : ∃ f, T.getD j default = f := ⟨_, rfl⟩
        rw [he, hf] at hd ca
        rw [he, hf] at cm ss
        by_cases h2 : e.1 < f.1
        · rw [if_pos h2] at hd
          simp -implicitDefEqProofs (maxSteps := 2000000) (disch := omega) only [go_sem, simprocAttr, -List.reduceReplicate, condB_t, condB_f, n1, n2, he, hf]
          exact ⟨(i + 1, j, q), ⟨h0, hj, hz.mono (Nat.add_le_add_left (Nat.mul_le_mul_right _ (Nat.le_succ i)) 1), by rw [← hq, hd]⟩, by simp only; omega, by (refine Weak.head2w (by simp -implicitDefEqProofs (maxSteps := 2000000) (disch := omega) only [go_sem, simprocAttr, -List.reduceReplicate, condB_t, condB_f, n1, n2, he, hf] <;> (try rfl)) (by omega) (by first | exact mapU _ _ _ | (intro r hr; exact absurd hr List.not_mem_nil) | exact mapU entC [_] _ | exact mapU ratC [_] _ | (intro r hr a ha; simp only [List.mem_cons, List.not_mem_nil, or_false] at hr; subst hr; simp only [List.mem_cons, List.not_mem_nil, or_false] at ha; rcases ha with rfl | rfl | rfl <;> trivial)) (by simp -implicitDefEqProofs (maxSteps := 2000000) (disch := omega) only [go_sem, simprocAttr, -List.reduceReplicate, condB_t, condB_f, n1, n2, he, hf] <;> (try rfl)) (by omega) (by first | exact mapU _ _ _ | (intro r hr; exact absurd hr List.not_mem_nil) | exact mapU entC [_] _ | exact mapU ratC [_] _ | (intro r hr a ha; simp only [List.mem_cons, List.not_mem_nil, or_false] at hr; subst hr; simp only [List.mem_cons, List.not_mem_nil, or_false] at ha; rcases ha with rfl | rfl | rfl <;> trivial)) (fun k0 b0 hk00 hk01 hb0 => by have hk10 : (k0 = _) = False := eq_false hk00; have hk11 : (k0 = _) = False := eq_false hk01; have hk2 := (hmen k0 b0 hb0).1; (simp -implicitDefEqProofs (maxSteps := 2000000) (disch := omega) only [go_sem, simprocAttr, -List.reduceReplicate, condB_t, condB_f, upd, mkH, hk10, hk11]) <;> (try (repeat rw [if_neg (by omega)])) <;> exact hb0) (by omega) hmen ?_; simp -implicitDefEqProofs (maxSteps := 2000000) (disch := omega) only [go_sem, simprocAttr, -List.reduceReplicate, condB_t, condB_f, AllP, AVle_same, AVle_int, AVle_nil, AVle_row, topU_int, topU_bool, topU_sl, topU_row, topU_ptr, topU_iptr, topU_fn, val, List.drop_length])⟩
        · rw [if_neg h2] at hd
          by_cases h3 : f.1 < e.1
          · rw [if_pos h3] at hd
            simp -implicitDefEqProofs (maxSteps := 2000000) (disch := omega) only [go_sem, simprocAttr, -List.reduceReplicate, condB_t, condB_f, n1, n2, he, hf]
            exact ⟨(i, j + 1, q), ⟨hi, h1, hz, by rw [← hq, hd]⟩, by simp only; omega, by (refine Weak.head2w (by simp -implicitDefEqProofs (maxSteps := 2000000) (disch := omega) only [go_sem, simprocAttr, -List.reduceReplicate, condB_t, condB_f, n1, n2, he, hf] <;> (try rfl)) (by omega) (by first | exact mapU _ _ _ | (intro r hr; exact absurd hr List.not_mem_nil) | exact mapU entC [_] _ | exact mapU ratC [_] _ | (intro r hr a ha; simp only [List.mem_cons, List.not_mem_nil, or_false] at hr; subst hr; simp only [List.mem_cons, List.not_mem_nil, or_false] at ha; rcases ha with rfl | rfl | rfl <;> trivial)) (by simp -implicitDefEqProofs (maxSteps := 2000000) (disch := omega) only [go_sem, simprocAttr, -List.reduceReplicate, condB_t, condB_f, n1, n2, he, hf] <;> (try rfl)) (by omega) (by first | exact mapU _ _ _ | (intro r hr; exact absurd hr List.not_mem_nil) | exact mapU entC [_] _ | exact mapU ratC [_] _ | (intro r hr a ha; simp only [List.mem_cons, List.not_mem_nil, or_false] at hr; subst hr; simp only [List.mem_cons, List.not_mem_nil, or_false] at ha; rcases ha with rfl | rfl | rfl <;> trivial)) (fun k0 b0 hk00 hk01 hb0 => by have hk10 : (k0 = _) = False := eq_false hk00; have hk11 : (k0 = _) = False := eq_false hk01; have hk2 := (hmen k0 b0 hb0).1; (simp -implicitDefEqProofs (maxSteps := 2000000) (disch := omega) only [go_sem, simprocAttr, -List.reduceReplicate, condB_t, condB_f, upd, mkH, hk10, hk11]) <;> (try (repeat rw [if_neg (by omega)])) <;> exact hb0) (by omega) hmen ?_; simp -implicitDefEqProofs (maxSteps := 2000000) (disch := omega) only [go_sem, simprocAttr, -List.reduceReplicate, condB_t, condB_f, AllP, AVle_same, AVle_int, AVle_nil, AVle_row, topU_int, topU_bool, topU_sl, topU_row, topU_ptr, topU_iptr, topU_fn, val, List.drop_length])⟩
          · rw [if_neg h3] at hd
            simp -implicitDefEqProofs (maxSteps := 2000000) (disch := omega) only [go_sem, simprocAttr, -List.reduceReplicate, condB_t, condB_f, n1, n2, he, hf]
            refine pcallK_pure cm ?_
            simp -implicitDefEqProofs (maxSteps := 2000000) (disch := omega) only [go_sem, simprocAttr, -List.reduceReplicate, condB_t, condB_f, n1, n2, he, hf]
            refine pcallK_pure ca ?_
            simp -implicitDefEqProofs (maxSteps := 2000000) (disch := omega) only [go_sem, simprocAttr, -List.reduceReplicate, condB_t, condB_f, n1, n2, he, hf]
            exact ⟨(i + 1, j + 1, q + e.2.val * f.2.val), ⟨h0, h1, ss.mono (by have h9 : (i + 1) * (K + K + 1) = i * (K + K + 1) + (K + K + 1) := Nat.succ_mul _ _; show _ ≤ 1 + (i + 1) * (K + K + 1); omega), by rw [← hq, hd]; simp only; grind⟩, by simp only; omega, by (refine Weak.head2w (by simp -implicitDefEqProofs (maxSteps := 2000000) (disch := omega) only [go_sem, simprocAttr, -List.reduceReplicate, condB_t, condB_f, n1, n2, he, hf] <;> (try rfl)) (by omega) (by first | exact mapU _ _ _ | (intro r hr; exact absurd hr List.not_mem_nil) | exact mapU entC [_] _ | exact mapU ratC [_] _ | (intro r hr a ha; simp only [List.mem_cons, List.not_mem_nil, or_false] at hr; subst hr; simp only [List.mem_cons, List.not_mem_nil, or_false] at ha; rcases ha with rfl | rfl | rfl <;> trivial)) (by simp -implicitDefEqProofs (maxSteps := 2000000) (disch := omega) only [go_sem, simprocAttr, -List.reduceReplicate, condB_t, condB_f, n1, n2, he, hf] <;> (try rfl)) (by omega) (by first | exact mapU _ _ _ | (intro r hr; exact absurd hr List.not_mem_nil) | exact mapU entC [_] _ | exact mapU ratC [_] _ | (intro r hr a ha; simp only [List.mem_cons, List.not_mem_nil, or_false] at hr; subst hr; simp only [List.mem_cons, List.not_mem_nil, or_false] at ha; rcases ha with rfl | rfl | rfl <;> trivial)) (fun k0 b0 hk00 hk01 hb0 => by have hk10 : (k0 = _) = False := eq_false hk00; have hk11 : (k0 = _) = False := eq_false hk01; have hk2 := (hmen k0 b0 hb0).1; (simp -implicitDefEqProofs (maxSteps := 2000000) (disch := omega) only [go_sem, simprocAttr, -List.reduceReplicate, condB_t, condB_f, upd, mkH, hk10, hk11]) <;> (try (repeat rw [if_neg (by omega)])) <;> exact hb0) (by omega) hmen ?_; simp -implicitDefEqProofs (maxSteps := 2000000) (disch := omega) only [go_sem, simprocAttr, -List.reduceReplicate, condB_t, condB_f, AllP, AVle_same, AVle_int, AVle_nil, AVle_row, topU_int, topU_bool, topU_sl, topU_row, topU_ptr, topU_iptr, topU_fn, val, List.drop_length])⟩
      · have hd : dotM (eV (S.drop i)) (eV (T.drop j)) = 0 := by rw [show T.drop j = [] from List.drop_eq_nil_of_le (by omega)]; exact dotM_nil _
        rw [← hq, hd, show q + 0 = q by grind]
        simp -implicitDefEqProofs (maxSteps := 2000000) (disch := omega) only [go_sem, simprocAttr, -List.reduceReplicate, condB_t, condB_f, n1, n2]
        exact dn
    · have hd : dotM (eV (S.drop i)) (eV (T.drop j)) = 0 := by rw [show S.drop i = [] from List.drop_eq_nil_of_le (by omega)]; unfold eV; rw [List.map_nil, dotM]
      rw [← hq, hd, show q + 0 = q by grind]
      simp -implicitDefEqProofs (maxSteps := 2000000) (disch := omega) only [go_sem, simprocAttr, -List.reduceReplicate, condB_t, condB_f, n1, n2]
      exact dn
end Go.Abs
/-! YtzTape1: The makers of inputs: the tape. No condition. -/
set_option linter.unusedVariables false
set_option linter.unusedSimpArgs false
set_option maxRecDepth 100000
set_option maxHeartbeats 1000000
namespace Go.Abs
open Go.Proofs
@[go_sem] theorem R22 : Tryz.f22.results.toList = [.tmp 4] := rfl
@[go_sem] theorem R7 : Tryz.f7.results.toList = [.tmp 2] := rfl
@[go_sem] theorem R9 : Tryz.f9.results.toList = [.tmp 4] := rfl
@[go_sem] theorem R8 : Tryz.f8.results.toList = [.tmp 4] := rfl
theorem mod_spec (x : Int) (n : Nat) (h0 : 0 < n) (hn' : n ≤ 1099511627776) : PDet Tryz.prog 22 [.int .i64 x, .int .i64 n] (.int .i64 ((x % 18446744073709551616).toNat % n : Nat)) := by
  refine pdet_of E0ok mixed Tryz.func22 (by kernel_rfl) rfl (by kernel_rfl) (Nat.le_of_ble_eq_true rfl) fun N0 h hn hmen => ?_
  have e : (x % 18446744073709551616).tmod n = (((x % 18446744073709551616).toNat % n : Nat) : Int) := by
    rw [Int.tmod_eq_emod_of_nonneg (by omega), Int.natCast_emod, Int.toNat_of_nonneg (by omega)]
  have hlt := Nat.mod_lt (x % 18446744073709551616).toNat h0
  generalize (x % 18446744073709551616).toNat % n = q at *
  simp -implicitDefEqProofs (maxSteps := 2000000) (disch := omega) only [go_sem, simprocAttr, -List.reduceReplicate, condB_t, condB_f, e]
  exact dn
theorem tapeNew_new (l : List Int) (h : Heap) (m : Nat) : ADet Tryz.prog 7 [IL l] h m (.ptr m 1 0 0) (upd h m (some ⟨2, [[IL l, .int .i64 0]]⟩)) := by
  unfold IL
  refine anew_of E0ok mixed Tryz.func7 (by kernel_rfl) rfl (by kernel_rfl) (Nat.le_of_ble_eq_true rfl) (fun _ h => h) (by intro r hr a ha; simp only [List.mem_cons, List.not_mem_nil, or_false] at hr; subst hr; simp only [List.mem_cons, List.not_mem_nil, or_false] at ha; rcases ha with rfl | rfl <;> rfl) fun N0 hn hmen _ => ⟨hmen, ?_⟩
  simp -implicitDefEqProofs (maxSteps := 2000000) (disch := omega) only [go_sem, simprocAttr, -List.reduceReplicate, condB_t, condB_f]
  exact ⟨N0 + 24, by omega, by simp -implicitDefEqProofs (maxSteps := 2000000) (disch := omega) only [go_sem, simprocAttr, -List.reduceReplicate, condB_t, condB_f], .val (.ptr _ _ _)⟩
/-- The number at the tape's head. -/
def tapeN (l : List Int) (i n : Nat) : Nat := if i < l.length then (l.getD i 0 % 18446744073709551616).toNat % n else 0
theorem tapeNext_spec (l : List Int) (i n : Nat) (hi : i ≤ l.length) (hl : l.length ≤ 1099511627776) (h0 : 0 < n) (hn' : n ≤ 1099511627776) (h : Heap) (id m : Nat) (hid : h id = some ⟨2, [[IL l, .int .i64 i]]⟩) :
    ADet Tryz.prog 9 [.ptr id 1 0 0, .int .i64 n] h m (.int .i64 (tapeN l i n)) (upd h id (some ⟨2, [[IL l, .int .i64 (if i < l.length then i + 1 else i : Nat)]]⟩)) := by
  unfold IL at *
  refine adet_of E0ok mixed Tryz.func9 (by kernel_rfl) rfl (by kernel_rfl) (Nat.le_of_ble_eq_true rfl) (none_put hid) fun N0 hn hmen _ => ⟨hmen.put hid (by intro r hr a ha; simp only [List.mem_cons, List.not_mem_nil, or_false] at hr; subst hr; simp only [List.mem_cons, List.not_mem_nil, or_false] at ha; rcases ha with rfl | rfl <;> trivial), ?_⟩
  have hidlt : id < N0 := (hmen id _ hid).1
  have cm := mod_spec (l.getD i 0) n h0 hn'
  unfold tapeN
  by_cases h1 : i < l.length
  · rw [if_pos h1, if_pos h1]
    simp -implicitDefEqProofs (maxSteps := 2000000) (disch := omega) only [go_sem, simprocAttr, -List.reduceReplicate, condB_t, condB_f, hid]
    refine pcallK_pure cm ?_
    simp -implicitDefEqProofs (maxSteps := 2000000) (disch := omega) only [go_sem, simprocAttr, -List.reduceReplicate, condB_t, condB_f]
    exact dn
  · rw [if_neg h1, if_neg h1]
    simp -implicitDefEqProofs (maxSteps := 2000000) (disch := omega) only [go_sem, simprocAttr, -List.reduceReplicate, condB_t, condB_f, hid]
    have e : upd h id (some ⟨2, [[.sl 1 (l.map intC), .int .i64 (i : Nat)]]⟩) = h := by
      funext q; unfold upd; split
      · rename_i hq; rw [hq, hid]
      · rfl
    rw [e]
    exact ⟨fun _ _ => rfl, ThawT.refl rfl⟩
/-- The order that the tape deals, i cards in. -/
def permT (l : List Int) (i0 : Nat) : Nat → List Int
  | 0 => []
  | i + 1 => ((permT l i0 i).take (tapeN l (i0 + i) (i + 1)) ++ [(i : Int)]) ++ (permT l i0 i).drop (tapeN l (i0 + i) (i + 1))
theorem tapeN_lt (l : List Int) (i n : Nat) (h : 0 < n) : tapeN l i n < n := by
  unfold tapeN; split
  · exact Nat.mod_lt _ h
  · exact h
theorem permT_len (l : List Int) (i0 i : Nat) : (permT l i0 i).length = i := by
  induction i with
  | zero => rfl
  | succ i ih =>
    have := tapeN_lt l (i0 + i) (i + 1) (Nat.succ_pos _)
    unfold permT
    simp only [List.length_append, List.length_take, List.length_drop, List.length_cons, List.length_nil, ih]; omega
theorem permT_perm (l : List Int) (i0 i : Nat) : (permT l i0 i).Perm ((List.range i).map fun (j : Nat) => (j : Int)) := by
  induction i with
  | zero => exact .refl _
  | succ i ih =>
    rw [List.range_succ, List.map_append]
    unfold permT
    refine List.Perm.trans ?_ (List.Perm.append_right _ ih)
    rw [List.append_assoc]
    refine List.Perm.trans List.perm_append_comm ?_
    rw [List.append_assoc]
    refine List.Perm.trans List.perm_append_comm ?_
    refine List.Perm.append_right _ ?_
    refine List.Perm.trans List.perm_append_comm ?_
    rw [List.take_append_drop]
theorem tape_min (l : List Int) (i n : Nat) : tapeN l (min i l.length) n = tapeN l i n := by
  unfold tapeN
  by_cases h : i < l.length
  · rw [Nat.min_eq_left (by omega)]
  · rw [Nat.min_eq_right (by omega), if_neg (by omega), if_neg h]
theorem tapePerm_spec (l : List Int) (i0 n : Nat) (hi0 : i0 ≤ l.length) (hl : l.length ≤ 1099511627776) (hn' : n ≤ 1000000) (h : Heap) (id m : Nat) (hid : h id = some ⟨2, [[IL l, .int .i64 i0]]⟩) :
    ADet Tryz.prog 8 [.ptr id 1 0 0, .int .i64 n] h m (IL (permT l i0 n)) (upd h id (some ⟨2, [[IL l, .int .i64 (min (i0 + n) l.length : Nat)]]⟩)) := by
  have hnx := fun i (hi : i ≤ l.length) => tapeNext_spec l i
  unfold IL at *
  refine adet_of E0ok mixed Tryz.func8 (by kernel_rfl) rfl (by kernel_rfl) (Nat.le_of_ble_eq_true rfl) (none_put hid) fun N0 hn hmen _ => ⟨hmen.put hid (by intro r hr a ha; simp only [List.mem_cons, List.not_mem_nil, or_false] at hr; subst hr; simp only [List.mem_cons, List.not_mem_nil, or_false] at ha; rcases ha with rfl | rfl <;> trivial), ?_⟩
  have hidlt : id < N0 := (hmen id _ hid).1
  simp -implicitDefEqProofs (maxSteps := 2000000) (disch := omega) only [go_sem, simprocAttr, -List.reduceReplicate, condB_t, condB_f, hid]
  refine aw_weak (Weak.nilRow (t := 5) (sz := 1) (id := N0 + 24) (by omega) (by omega) (by simp -implicitDefEqProofs (maxSteps := 2000000) (disch := omega) only [go_sem, simprocAttr, -List.reduceReplicate, condB_t, condB_f])) ?_
  refine aw_loop (X := Nat × Nat) (fun x => ⟨mkS [(0, .ptr id 1 0 0), (1, .int .i64 n), (5, .row x.2 x.1 0 x.1), (6, .int .i64 x.1)], mkH h [(id, ⟨2, [[.sl 1 (l.map intC), .int .i64 (min (i0 + x.1) l.length : Nat)]]⟩), (x.2, ⟨1, (permT l i0 x.1).map intC⟩)], x.2 + 8⟩)
    (fun x => x.1 ≤ n ∧ N0 ≤ x.2) (fun x => n - x.1) ⟨(0, N0 + 24), ⟨Nat.zero_le _, by simp⟩, ?_⟩ ?_
  · rw [show min (i0 + 0) l.length = i0 by omega]
    simp only [permT]
    have m1 : (id = N0 + 24) = False := eq_false (by omega)
    (refine Weak.head2w (by simp -implicitDefEqProofs (maxSteps := 2000000) (disch := omega) only [go_sem, simprocAttr, -List.reduceReplicate, condB_t, condB_f, hid, m1] <;> (try rfl)) (by omega) (by first | exact mapU _ _ _ | (intro r hr; exact absurd hr List.not_mem_nil) | exact mapU entC [_] _ | exact mapU ratC [_] _ | (intro r hr a ha; simp only [List.mem_cons, List.not_mem_nil, or_false] at hr; subst hr; simp only [List.mem_cons, List.not_mem_nil, or_false] at ha; rcases ha with rfl | rfl | rfl <;> trivial)) (by simp -implicitDefEqProofs (maxSteps := 2000000) (disch := omega) only [go_sem, simprocAttr, -List.reduceReplicate, condB_t, condB_f, hid, m1] <;> (try rfl)) (by omega) (by first | exact mapU _ _ _ | (intro r hr; exact absurd hr List.not_mem_nil) | exact mapU entC [_] _ | exact mapU ratC [_] _ | (intro r hr a ha; simp only [List.mem_cons, List.not_mem_nil, or_false] at hr; subst hr; simp only [List.mem_cons, List.not_mem_nil, or_false] at ha; rcases ha with rfl | rfl | rfl <;> trivial)) (fun k0 b0 hk00 hk01 hb0 => by have hk10 : (k0 = _) = False := eq_false hk00; have hk11 : (k0 = _) = False := eq_false hk01; have hk2 := (hmen k0 b0 hb0).1; (simp -implicitDefEqProofs (maxSteps := 2000000) (disch := omega) only [go_sem, simprocAttr, -List.reduceReplicate, condB_t, condB_f, upd, mkH, hk10, hk11]) <;> (try (repeat rw [if_neg (by omega)])) <;> exact hb0) (by omega) hmen ?_; simp -implicitDefEqProofs (maxSteps := 2000000) (disch := omega) only [go_sem, simprocAttr, -List.reduceReplicate, condB_t, condB_f, AllP, AVle_same, AVle_int, AVle_nil, AVle_row, topU_int, topU_bool, topU_sl, topU_row, topU_ptr, topU_iptr, topU_fn, val, List.drop_length])
  · rintro ⟨i, ip⟩ ⟨hi, hip⟩
    simp only at hi hip
    have n1 : (id = ip) = False := eq_false (by omega)
    have n2 : (ip = id) = False := eq_false (by omega)
    by_cases h0 : i < n
    · simp -implicitDefEqProofs (maxSteps := 2000000) (disch := omega) only [go_sem, simprocAttr, -List.reduceReplicate, condB_t, condB_f, n1, n2]
      have cx := fun mm => tapeNext_spec l (min (i0 + i) l.length) (i + 1) (Nat.min_le_right _ _) hl (by omega) (by omega) (mkH h [(id, ⟨2, [[.sl 1 (l.map intC), .int .i64 (min (i0 + i) l.length : Nat)]]⟩), (ip, ⟨1, (permT l i0 i).map intC⟩)]) id mm (by simp -implicitDefEqProofs (maxSteps := 2000000) (disch := omega) only [go_sem, simprocAttr, -List.reduceReplicate, condB_t, condB_f, IL])
      rw [tape_min, show (if min (i0 + i) l.length < l.length then min (i0 + i) l.length + 1 else min (i0 + i) l.length) = min (i0 + (i + 1)) l.length by split <;> omega] at cx
      unfold IL at cx
      refine callK_of (cx _) ?_
      have hj := tapeN_lt l (i0 + i) (i + 1) (Nat.succ_pos _)
      have pl := permT_len l i0 i
      have pe : permT l i0 (i + 1) = ((permT l i0 i).take (tapeN l (i0 + i) (i + 1)) ++ [(i : Int)]) ++ (permT l i0 i).drop (tapeN l (i0 + i) (i + 1)) := rfl
      generalize tapeN l (i0 + i) (i + 1) = j at *
      generalize permT l i0 i = P at *
      have t1 : (P.take j).length = j := by rw [List.length_take]; omega
      have t2 : (P.drop j).take (i - j) = P.drop j := List.take_of_length_le (by rw [List.length_drop]; omega)
      have t3 : (P.drop j).length = i - j := by rw [List.length_drop, pl]
      have t4 : (P.take j ++ [(i : Int)]).length = j + 1 := by rw [List.length_append, t1]; rfl
      have m1 : (id = ip + 72) = False := eq_false (by omega)
      have m2 : (id = ip + 136) = False := eq_false (by omega)
      simp -implicitDefEqProofs (maxSteps := 2000000) (disch := omega) only [go_sem, simprocAttr, -List.reduceReplicate, condB_t, condB_f, n1, n2, t1, t2, t3, t4]
      refine ⟨(i + 1, ip + 72), ⟨h0, by simp only; omega⟩, by simp only; omega, ?_⟩
      (refine Weak.head2w (by simp -implicitDefEqProofs (maxSteps := 2000000) (disch := omega) only [go_sem, simprocAttr, -List.reduceReplicate, condB_t, condB_f, n1, n2, m1, m2, t1, t2, t3, pe] <;> (try rfl)) (by omega) (by first | exact mapU _ _ _ | (intro r hr; exact absurd hr List.not_mem_nil) | exact mapU entC [_] _ | exact mapU ratC [_] _ | (intro r hr a ha; simp only [List.mem_cons, List.not_mem_nil, or_false] at hr; subst hr; simp only [List.mem_cons, List.not_mem_nil, or_false] at ha; rcases ha with rfl | rfl | rfl <;> trivial)) (by simp -implicitDefEqProofs (maxSteps := 2000000) (disch := omega) only [go_sem, simprocAttr, -List.reduceReplicate, condB_t, condB_f, n1, n2, m1, m2, t1, t2, t3, pe] <;> (try rfl)) (by omega) (by first | exact mapU _ _ _ | (intro r hr; exact absurd hr List.not_mem_nil) | exact mapU entC [_] _ | exact mapU ratC [_] _ | (intro r hr a ha; simp only [List.mem_cons, List.not_mem_nil, or_false] at hr; subst hr; simp only [List.mem_cons, List.not_mem_nil, or_false] at ha; rcases ha with rfl | rfl | rfl <;> trivial)) (fun k0 b0 hk00 hk01 hb0 => by have hk10 : (k0 = _) = False := eq_false hk00; have hk11 : (k0 = _) = False := eq_false hk01; have hk2 := (hmen k0 b0 hb0).1; (simp -implicitDefEqProofs (maxSteps := 2000000) (disch := omega) only [go_sem, simprocAttr, -List.reduceReplicate, condB_t, condB_f, upd, mkH, hk10, hk11]) <;> (try (repeat rw [if_neg (by omega)])) <;> exact hb0) (by omega) hmen ?_; simp -implicitDefEqProofs (maxSteps := 2000000) (disch := omega) only [go_sem, simprocAttr, -List.reduceReplicate, condB_t, condB_f, AllP, AVle_same, AVle_int, AVle_nil, AVle_row, topU_int, topU_bool, topU_sl, topU_row, topU_ptr, topU_iptr, topU_fn, val, List.drop_length])
    · obtain rfl : i = n := by omega
      have pl := permT_len l i0 i
      simp -implicitDefEqProofs (maxSteps := 2000000) (disch := omega) only [go_sem, simprocAttr, -List.reduceReplicate, condB_t, condB_f, n1, n2]
      refine ⟨fun k hk => by simp only [mkH, upd]; (repeat rw [if_neg (show ¬ k = ip by omega)]), ?_⟩
      exact .val (.leaf (Thaw.plain (rows := (permT l i0 i).map intC) (by have e : id ≠ ip := by omega
                                                                          simp [locH, upd, mkH]; omega) (by simp [pl]) (by omega) (List.take_of_length_le (by simp [pl])) (mapP _)))
end Go.Abs
/-! YtzLaw1: What the vector laws read from their inputs. No condition. -/
set_option linter.unusedVariables false
set_option linter.unusedSimpArgs false
set_option maxRecDepth 100000
set_option maxHeartbeats 1000000
namespace Go.Abs
open Go.Proofs
@[go_sem] theorem R21 : Tryz.f21.results.toList = [.tmp 4] := rfl
@[go_sem] theorem R5 : Tryz.f5.results.toList = [.tmp 2] := rfl
theorem first_spec (l : List Ent) (n : Nat) (hl : l.length ≤ 1099511627776) (hn' : n ≤ 1099511627776) : PDet Tryz.prog 21 [EL l, .int .i64 n] (EL (l.take n)) := by
  refine pdet_of E0ok mixed Tryz.func21 (by kernel_rfl) rfl (by kernel_rfl) (Nat.le_of_ble_eq_true rfl) fun N0 h hn hmen => ?_
  unfold EL
  by_cases h0 : n < l.length
  · simp -implicitDefEqProofs (maxSteps := 2000000) (disch := omega) only [go_sem, simprocAttr, -List.reduceReplicate, condB_t, condB_f]
    exact dn
  · rw [List.take_of_length_le (by omega)]
    simp -implicitDefEqProofs (maxSteps := 2000000) (disch := omega) only [go_sem, simprocAttr, -List.reduceReplicate, condB_t, condB_f]
    exact dn
/-- The short vector that a law makes of its input: indices from -1 to 7. -/
def shE (e : Ent) : Ent := (((e.1 % 18446744073709551616).toNat % 9 : Nat) - 1, e.2)
def shL (l : List Ent) : List Ent := (l.take 40).map shE
theorem shL_len (l : List Ent) : (shL l).length = min 40 l.length := by unfold shL; rw [List.length_map, List.length_take]
theorem lshort_spec (l : List Ent) (hl : l.length ≤ 1099511627776) : PDet Tryz.prog 5 [EL l] (EL (shL l)) := by
  refine pdet_of E0ok mixed Tryz.func5 (by kernel_rfl) rfl (by kernel_rfl) (Nat.le_of_ble_eq_true rfl) fun N0 h hn hmen => ?_
  have cf := first_spec l 40 hl (by omega)
  have ls : (l.take 40).length ≤ 40 := by rw [List.length_take]; omega
  unfold shL
  generalize l.take 40 = v at *
  unfold EL at *
  simp -implicitDefEqProofs (maxSteps := 2000000) (disch := omega) only [go_sem, simprocAttr, -List.reduceReplicate, condB_t, condB_f]
  refine callK_pure cf ?_
  simp -implicitDefEqProofs (maxSteps := 2000000) (disch := omega) only [go_sem, simprocAttr, -List.reduceReplicate, condB_t, condB_f]
  refine aw_weak (Weak.nilRow (t := 3) (sz := 4) (id := N0 + 56) (by omega) (by omega) (by simp -implicitDefEqProofs (maxSteps := 2000000) (disch := omega) only [go_sem, simprocAttr, -List.reduceReplicate, condB_t, condB_f])) ?_
  obtain ⟨id, hid⟩ : ∃ id, id = N0 + 56 := ⟨_, rfl⟩
  rw [← hid]
  refine aw_loop (X := Nat) (fun i => ⟨mkS [(3, .row id i 0 i), (7, .sl 4 (v.map entC)), (8, .int .i64 v.length), (9, .int .i64 i)], mkH h [(id, ⟨4, ((v.take i).map shE).map entC⟩)], id + 8⟩) (fun i => i ≤ v.length) (fun i => v.length - i) ⟨0, Nat.zero_le _, ?_⟩ ?_
  · (refine Weak.head1w (by simp -implicitDefEqProofs (maxSteps := 2000000) (disch := omega) only [go_sem, simprocAttr, -List.reduceReplicate, condB_t, condB_f] <;> (try rfl)) (by omega) (mapU _ _ _) (fun k0 b0 hk0 hb0 => by have hk1 : (k0 = _) = False := eq_false hk0; have hk2 := (hmen k0 b0 hb0).1; (simp -implicitDefEqProofs (maxSteps := 2000000) (disch := omega) only [go_sem, simprocAttr, -List.reduceReplicate, condB_t, condB_f, upd, mkH, hk1]) <;> (try (repeat rw [if_neg (by omega)])) <;> exact hb0) (by omega) hmen ?_; simp -implicitDefEqProofs (maxSteps := 2000000) (disch := omega) only [go_sem, simprocAttr, -List.reduceReplicate, condB_t, condB_f, AllP, AVle_same, AVle_int, AVle_nil, AVle_row, topU_int, topU_bool, topU_sl, topU_row, topU_ptr, topU_iptr, topU_fn, val, List.drop_length])
  · intro i hi
    by_cases h0 : i < v.length
    · have cm := mod_spec (v.getD i default).1 9 (by omega) (by omega)
      have e : (v.take (i + 1)).map shE = (v.take i).map shE ++ [(((((v.getD i default).1 % 18446744073709551616).toNat % 9 : Nat) : Int) - 1, (v.getD i default).2)] := by rw [take_succ_getE h0, List.map_append]; rfl
      have hq := Nat.mod_lt ((v.getD i default).1 % 18446744073709551616).toNat (show 0 < 9 by decide)
      have hlv : ((v.take i).map shE).length = i := by rw [List.length_map, List.length_take]; omega
      generalize ((v.getD i default).1 % 18446744073709551616).toNat % 9 = q at *
      simp -implicitDefEqProofs (maxSteps := 2000000) (disch := omega) only [go_sem, simprocAttr, -List.reduceReplicate, condB_t, condB_f]
      refine pcallK_pure cm ?_
      simp -implicitDefEqProofs (maxSteps := 2000000) (disch := omega) only [go_sem, simprocAttr, -List.reduceReplicate, condB_t, condB_f, hlv]
      exact ⟨i + 1, h0, by omega, by (refine Weak.head1w (by simp -implicitDefEqProofs (maxSteps := 2000000) (disch := omega) only [go_sem, simprocAttr, -List.reduceReplicate, condB_t, condB_f, e] <;> (try rfl)) (by omega) (mapU _ _ _) (fun k0 b0 hk0 hb0 => by have hk1 : (k0 = _) = False := eq_false hk0; have hk2 := (hmen k0 b0 hb0).1; (simp -implicitDefEqProofs (maxSteps := 2000000) (disch := omega) only [go_sem, simprocAttr, -List.reduceReplicate, condB_t, condB_f, upd, mkH, hk1]) <;> (try (repeat rw [if_neg (by omega)])) <;> exact hb0) (by omega) hmen ?_; simp -implicitDefEqProofs (maxSteps := 2000000) (disch := omega) only [go_sem, simprocAttr, -List.reduceReplicate, condB_t, condB_f, AllP, AVle_same, AVle_int, AVle_nil, AVle_row, topU_int, topU_bool, topU_sl, topU_row, topU_ptr, topU_iptr, topU_fn, val, List.drop_length, e])⟩
    · obtain rfl : i = v.length := by omega
      simp -implicitDefEqProofs (maxSteps := 2000000) (disch := omega) only [go_sem, simprocAttr, -List.reduceReplicate, condB_t, condB_f]
      rw [List.take_of_length_le (Nat.le_refl _)]
      refine .val (.leaf (Thaw.plain (rows := (v.map shE).map entC) (by simp [locH, upd, mkH]; omega) (by simp) (by omega) (List.take_of_length_le (by simp)) (mapP _)))
end Go.Abs
/-! YtzLaw2: The laws of layer 6: what they check once. No condition. -/
set_option linter.unusedVariables false
set_option linter.unusedSimpArgs false
set_option maxRecDepth 100000
set_option maxHeartbeats 1000000
namespace Go.Abs
open Go.Proofs
@[go_sem] theorem R31 : Tryz.f31.results.toList = [.cell 4 51] := rfl
@[go_sem] theorem R13 : Tryz.f13.results.toList = [.tmp 0] := rfl
theorem entry_spec (a v : Int) (h1 : -9223372036854775808 ≤ v) (h2 : v ≤ 9223372036854775807) : PDet Tryz.prog 31 [.int .i64 a, .int .i64 v] (.agg (entC (a, canon (v : Rat)))) := by
  refine pdet_of E0ok mixed Tryz.func31 (by kernel_rfl) rfl (by kernel_rfl) (Nat.le_of_ble_eq_true rfl) fun N0 h hn hmen => ?_
  have c := r3fromInt_spec v h1 h2
  unfold entC rC Raw.cells nl at *
  simp -implicitDefEqProofs (maxSteps := 2000000) (disch := omega) only [go_sem, simprocAttr, -List.reduceReplicate, condB_t, condB_f]
  refine callK_pure c ?_
  simp -implicitDefEqProofs (maxSteps := 2000000) (disch := omega) only [go_sem, simprocAttr, -List.reduceReplicate, condB_t, condB_f]
  exact dn
theorem nz_can {i : Int} {q : Rat} (h : q ≠ 0) : Can [(i, q)] := ⟨by simp [Asc], fun e he => by rw [List.mem_singleton.1 he]; exact h⟩
theorem vcan_self {v : Vec} (h : Can v) : vcan v = v := (vcan_eq h fun _ => rfl).symm
theorem awake_a : pmOut [2, 0, 1] (vcan (eV [(0, canon 5)])) = cE [(2, 5)] ∧ PmOk [2, 0, 1] (vcan (eV [(0, canon 5)])) := by
  have e : vcan (eV [(0, canon 5)]) = [(0, 5)] := by
    rw [show eV [(0, canon 5)] = [(0, 5)] by simp [eV, canon_val]]
    exact vcan_self (nz_can (by decide))
  have ok : PmOk [2, 0, 1] [(0, 5)] := by decide
  rw [e]
  refine ⟨?_, ok⟩
  unfold pmOut
  rw [if_pos ok]
  have : (cE [(0, (5 : Rat))]).map (pmv [2, 0, 1]) = cE [(2, 5)] := rfl
  rw [this]
  unfold srt
  rw [if_pos (by rw [eV_cE]; exact nz_can (by decide))]
theorem awake_b : vcan (eV [(3, canon 1), (1, canon 2), (3, canon (-1))]) = [(1, 2)] := by
  rw [show eV [(3, canon 1), (1, canon 2), (3, canon (-1))] = [(3, 1), (1, 2), (3, -1)] by simp [eV, canon_val]]
  symm
  refine vcan_eq (nz_can (by decide)) fun i => ?_
  simp only [vget]
  grind
theorem awake_c : dotM (vcan (eV [(0, canon 2), (5, canon 3)])) (vcan (eV [(5, canon 4), (7, canon 1)])) = 12 := by
  rw [show eV [(0, canon 2), (5, canon 3)] = [(0, 2), (5, 3)] by simp [eV, canon_val], show eV [(5, canon 4), (7, canon 1)] = [(5, 4), (7, 1)] by simp [eV, canon_val]]
  rw [vcan_self (v := [(0, 2), (5, 3)]) ⟨by simp [Asc], by simp⟩, vcan_self (v := [(5, 4), (7, 1)]) ⟨by simp [Asc], by simp⟩]
  simp [dotM]
  grind
theorem small_ok {v : Int} (h : v.natAbs < 4294967296) : Sz (v : Rat) 1 := ⟨by unfold Fit; simpa using h, by unfold Fit; rw [show ((v : Rat)).den = 1 from rfl]; decide⟩
theorem small_q {q : Rat} {v : Int} (e : (v : Rat) = q) (h : v.natAbs < 4294967296) : Sz q 1 := e ▸ small_ok h
theorem entry_q (a v : Int) (q : Rat) (e : (v : Rat) = q) (h : v.natAbs < 4294967296) : PDet Tryz.prog 31 [.int .i64 a, .int .i64 v] (.agg [.int .i64 a, .bool (canon q).s, .sl 1 (numL (canon q).m), .sl 1 (numL (canon q).d)]) := by
  have c := entry_spec a v (by omega) (by omega)
  rw [e] at c
  exact c
theorem ok_c1 {i : Int} {q : Rat} {l : List Ent} (h : Sz q 1) (hl : OkL l 1) : OkL ((i, canon q) :: l) 1 := fun e he => by
  rcases List.mem_cons.1 he with rfl | he
  · exact canon_ok h
  · exact hl e he
theorem ok_c0 : OkL [] 1 := nofun
theorem awake_spec : PDet Tryz.prog 13 [] (.bool true) := by
  refine pdet_of E0ok mixed Tryz.func13 (by kernel_rfl) rfl (by kernel_rfl) (Nat.le_of_ble_eq_true rfl) fun N0 h hn hmen => ?_
  have z1 : Sz 1 1 := small_q (v := 1) rfl (by decide)
  have z2 : Sz 2 1 := small_q (v := 2) rfl (by decide)
  have z3 : Sz 3 1 := small_q (v := 3) rfl (by decide)
  have z4 : Sz 4 1 := small_q (v := 4) rfl (by decide)
  have z5 : Sz 5 1 := small_q (v := 5) rfl (by decide)
  have zm : Sz (-1) 1 := small_q (v := -1) rfl (by decide)
  have z12 : Sz 12 1 := small_q (v := 12) rfl (by decide)
  have p1 := permute_spec [(0, canon 5)] [2, 0, 1] 1 (ok_c1 z5 ok_c0) (by decide) (by decide) (by decide) (by decide)
  rw [awake_a.1, decide_eq_true awake_a.2] at p1
  have p2 := norm_spec [(3, canon 1), (1, canon 2), (3, canon (-1))] 1 (ok_c1 z1 (ok_c1 z2 (ok_c1 zm ok_c0))) (by decide) (by decide) (by decide)
  rw [awake_b] at p2
  have p3 := dot_spec [(0, canon 2), (5, canon 3)] [(5, canon 4), (7, canon 1)] 1 100 (ok_c1 z2 (ok_c1 z3 ok_c0)) (ok_c1 z4 (ok_c1 z1 ok_c0)) (by decide) (by decide) (by decide) (by decide) (by decide) (by decide)
  rw [awake_c] at p3
  have p4 := identical_spec [(1, 2)] [(1, 2)] 1 1 (by simpa using z2) (by simpa using z2) (by decide) (by decide) (by decide) (by decide)
  have p5 := identical_spec [(2, 5)] [(2, 5)] 1 1 (by simpa using z5) (by simpa using z5) (by decide) (by decide) (by decide) (by decide)
  have p6 := r3fromInt_spec 12 (by decide) (by decide)
  rw [show ((12 : Int) : Rat) = 12 from rfl] at p6
  have p7 := r3equal_canon 12 12 1 1 z12 z12 (by decide) (by decide)
  rw [decide_eq_true rfl] at p4 p5 p7
  clear z1 z2 z3 z4 z5 zm z12
  unfold EL IL at *
  unfold rC Raw.cells nl at p3 p6 p7
  simp -implicitDefEqProofs (maxSteps := 2000000) (disch := decide) only [go_sem, simprocAttr, -List.reduceReplicate, condB_t, condB_f]
  refine callK_pure (entry_q 0 5 5 rfl (by decide)) ?_
  simp -implicitDefEqProofs (maxSteps := 2000000) (disch := decide) only [go_sem, simprocAttr, -List.reduceReplicate, condB_t, condB_f]
  refine callK_row12 p1 (by simp -implicitDefEqProofs (maxSteps := 2000000) (disch := omega) only [go_sem, simprocAttr, -List.reduceReplicate, condB_t, condB_f]; rfl) rfl (by decide) rfl (mapP _) (by simp -implicitDefEqProofs (maxSteps := 2000000) (disch := omega) only [go_sem, simprocAttr, -List.reduceReplicate, condB_t, condB_f]; rfl) rfl (by decide) rfl (mapP _) ?_
  simp -implicitDefEqProofs (maxSteps := 2000000) (disch := decide) only [go_sem, simprocAttr, -List.reduceReplicate, condB_t, condB_f]
  refine callK_pure (entry_q 3 1 1 rfl (by decide)) ?_
  simp -implicitDefEqProofs (maxSteps := 2000000) (disch := decide) only [go_sem, simprocAttr, -List.reduceReplicate, condB_t, condB_f]
  refine callK_pure (entry_q 1 2 2 rfl (by decide)) ?_
  simp -implicitDefEqProofs (maxSteps := 2000000) (disch := decide) only [go_sem, simprocAttr, -List.reduceReplicate, condB_t, condB_f]
  refine callK_pure (entry_q 3 (-1) (-1) rfl (by decide)) ?_
  simp -implicitDefEqProofs (maxSteps := 2000000) (disch := decide) only [go_sem, simprocAttr, -List.reduceReplicate, condB_t, condB_f]
  refine callK_row p2 (by simp -implicitDefEqProofs (maxSteps := 2000000) (disch := omega) only [go_sem, simprocAttr, -List.reduceReplicate, condB_t, condB_f]; rfl) rfl (by decide) rfl (mapP _) ?_
  simp -implicitDefEqProofs (maxSteps := 2000000) (disch := decide) only [go_sem, simprocAttr, -List.reduceReplicate, condB_t, condB_f]
  refine callK_pure (entry_q 1 2 2 rfl (by decide)) ?_
  simp -implicitDefEqProofs (maxSteps := 2000000) (disch := decide) only [go_sem, simprocAttr, -List.reduceReplicate, condB_t, condB_f]
  refine callK_row2 p4 (by simp -implicitDefEqProofs (maxSteps := 2000000) (disch := omega) only [go_sem, simprocAttr, -List.reduceReplicate, condB_t, condB_f]; rfl) rfl (by decide) rfl (mapP _) ?_
  simp -implicitDefEqProofs (maxSteps := 2000000) (disch := decide) only [go_sem, simprocAttr, -List.reduceReplicate, condB_t, condB_f]
  refine callK_pure (entry_q 0 2 2 rfl (by decide)) ?_
  simp -implicitDefEqProofs (maxSteps := 2000000) (disch := decide) only [go_sem, simprocAttr, -List.reduceReplicate, condB_t, condB_f]
  refine callK_pure (entry_q 5 3 3 rfl (by decide)) ?_
  simp -implicitDefEqProofs (maxSteps := 2000000) (disch := decide) only [go_sem, simprocAttr, -List.reduceReplicate, condB_t, condB_f]
  refine callK_pure (entry_q 5 4 4 rfl (by decide)) ?_
  simp -implicitDefEqProofs (maxSteps := 2000000) (disch := decide) only [go_sem, simprocAttr, -List.reduceReplicate, condB_t, condB_f]
  refine callK_pure (entry_q 7 1 1 rfl (by decide)) ?_
  simp -implicitDefEqProofs (maxSteps := 2000000) (disch := decide) only [go_sem, simprocAttr, -List.reduceReplicate, condB_t, condB_f]
  refine callK_row12 p3 (by simp -implicitDefEqProofs (maxSteps := 2000000) (disch := omega) only [go_sem, simprocAttr, -List.reduceReplicate, condB_t, condB_f]; rfl) rfl (by decide) rfl (mapP _) (by simp -implicitDefEqProofs (maxSteps := 2000000) (disch := omega) only [go_sem, simprocAttr, -List.reduceReplicate, condB_t, condB_f]; rfl) rfl (by decide) rfl (mapP _) ?_
  simp -implicitDefEqProofs (maxSteps := 2000000) (disch := decide) only [go_sem, simprocAttr, -List.reduceReplicate, condB_t, condB_f]
  refine callK_pure p6 ?_
  simp -implicitDefEqProofs (maxSteps := 2000000) (disch := decide) only [go_sem, simprocAttr, -List.reduceReplicate, condB_t, condB_f]
  refine callK_pure p7 ?_
  simp -implicitDefEqProofs (maxSteps := 2000000) (disch := decide) only [go_sem, simprocAttr, -List.reduceReplicate, condB_t, condB_f]
  refine callK_pure (entry_q 2 5 5 rfl (by decide)) ?_
  simp -implicitDefEqProofs (maxSteps := 2000000) (disch := decide) only [go_sem, simprocAttr, -List.reduceReplicate, condB_t, condB_f]
  refine callK_row2 p5 (by simp -implicitDefEqProofs (maxSteps := 2000000) (disch := omega) only [go_sem, simprocAttr, -List.reduceReplicate, condB_t, condB_f]; rfl) rfl (by decide) rfl (mapP _) ?_
  simp -implicitDefEqProofs (maxSteps := 2000000) (disch := decide) only [go_sem, simprocAttr, -List.reduceReplicate, condB_t, condB_f]
  exact dn
end Go.Abs
/-! YtzLaw4: Plain laws of permuted vectors. No condition. -/
set_option linter.unusedVariables false
set_option linter.unusedSimpArgs false
set_option maxRecDepth 100000
set_option maxHeartbeats 1000000
namespace Go.Abs
open Go.Proofs
theorem canE_eq {l : List Ent} (h : ∀ e ∈ l, e.2 = canon e.2.val) : l = cE (eV l) := by
  unfold cE eV
  rw [List.map_map]
  conv => lhs; rw [← List.map_id l]
  exact List.map_congr_left fun e he => Prod.ext rfl (h e he)
theorem cE_canE (u : Vec) : ∀ e ∈ cE u, e.2 = canon e.2.val := fun e he => by
  obtain ⟨x, _, rfl⟩ := List.mem_map.1 he
  simp only [canon_val]
theorem grp_canE : ∀ (l : List Ent) (e : Ent), e.2 = canon e.2.val → (∀ x ∈ l, x.2 = canon x.2.val) → ∀ x ∈ grp e l, x.2 = canon x.2.val
  | [], e, he, _, x, hx => by
    unfold grp fin1 at hx
    split at hx
    · cases hx
    · rw [List.mem_singleton.1 hx]; exact he
  | z :: l, e, he, hl, x, hx => by
    unfold grp at hx
    split at hx
    · exact grp_canE l _ (by simp only [canon_val]) (fun y hy => hl y (List.mem_cons_of_mem _ hy)) x hx
    · rcases List.mem_append.1 hx with hx | hx
      · unfold fin1 at hx
        split at hx
        · cases hx
        · rw [List.mem_singleton.1 hx]; exact he
      · exact grp_canE l z (hl z (List.mem_cons_self ..)) (fun y hy => hl y (List.mem_cons_of_mem _ hy)) x hx
theorem srt_cE (u : Vec) : srt (cE u) = cE (vcan u) := by
  have h : ∀ e ∈ srt (cE u), e.2 = canon e.2.val := by
    unfold srt
    split
    · exact cE_canE u
    · have h2 : ∀ e ∈ isort (cE u), e.2 = canon e.2.val := fun e he => cE_canE u e ((isort_perm _).mem_iff.1 he)
      generalize isort (cE u) = s at h2
      cases s with
      | nil => exact nofun
      | cons z s => exact grp_canE s z (h2 z (List.mem_cons_self ..)) fun y hy => h2 y (List.mem_cons_of_mem _ hy)
  rw [canE_eq h, srt_val, eV_cE]
def pq (p : List Int) (e : Int × Rat) : Int × Rat := (p.getD e.1.toNat 0, e.2)
theorem pmv_cE (p : List Int) (u : Vec) : (cE u).map (pmv p) = cE (u.map (pq p)) := by
  unfold cE; rw [List.map_map, List.map_map]; rfl
theorem pmOut_eq {p : List Int} {v : Vec} (h : PmOk p v) : pmOut p v = cE (vcan (v.map (pq p))) := by
  unfold pmOut; rw [if_pos h, pmv_cE, srt_cE]
/-- The canonical vector of n numbers. -/
def dV (g : Nat → Rat) (n : Nat) : Vec := (List.range n).filterMap fun (i : Nat) => if g i = 0 then none else some ((i : Int), g i)
theorem dV_succ (g : Nat → Rat) (n : Nat) : dV g (n + 1) = dV g n ++ (if g n = 0 then [] else [((n : Int), g n)]) := by
  unfold dV; rw [List.range_succ, List.filterMap_append]; by_cases h : g n = 0 <;> simp [h]
theorem dV_mem {g : Nat → Rat} {n : Nat} {e : Int × Rat} (h : e ∈ dV g n) : ∃ i : Nat, i < n ∧ g i ≠ 0 ∧ e = ((i : Int), g i) := by
  obtain ⟨i, hi, he⟩ := List.mem_filterMap.1 h
  split at he
  · cases he
  · exact ⟨i, List.mem_range.1 hi, ‹_›, (Option.some.inj he).symm⟩
theorem dV_can (g : Nat → Rat) (n : Nat) : Can (dV g n) := by
  induction n with
  | zero => exact ⟨.nil, nofun⟩
  | succ n ih =>
    rw [dV_succ]
    refine ⟨?_, fun e he => ?_⟩
    · refine List.pairwise_append.2 ⟨ih.asc, by split <;> simp, fun x hx y hy => ?_⟩
      obtain ⟨i, hi, _, rfl⟩ := dV_mem hx
      split at hy
      · cases hy
      · rw [List.mem_singleton.1 hy]; exact Int.ofNat_lt.2 hi
    · rcases List.mem_append.1 he with he | he
      · exact ih.nz e he
      · split at he
        · cases he
        · rw [List.mem_singleton.1 he]; assumption
theorem dV_len (g : Nat → Rat) (n : Nat) : (dV g n).length ≤ n := by unfold dV; exact Nat.le_trans (List.length_filterMap_le _ _) (by simp)
theorem dV_get (g : Nat → Rat) (n : Nat) (j : Nat) (hj : j < n) : vget (dV g n) j = g j := by
  induction n with
  | zero => omega
  | succ n ih =>
    rw [dV_succ, vget_append]
    rcases Nat.lt_or_ge j n with h | h
    · rw [ih h, vget_out (v := if g n = 0 then [] else [((n : Int), g n)]) (fun e he => by
        split at he
        · cases he
        · rw [List.mem_singleton.1 he]; simp only; omega)]
      grind
    · obtain rfl : j = n := by omega
      rw [vget_out (v := dV g j) (fun e he => by obtain ⟨i, hi, _, rfl⟩ := dV_mem he; simp only; omega)]
      split
      · rename_i h0; rw [h0]; simp only [vget]; grind
      · simp [vget]; grind
theorem fD_snoc (l : List Raw) (x : Raw) : fD (l ++ [x]) = fD l ++ (if x.val = 0 then [] else [((l.length : Int), canon x.val)]) := by
  unfold fD
  rw [List.zipIdx_append, List.filterMap_append]
  by_cases h : x.val = 0 <;> simp [h]
end Go.Abs
/-! YtzLaw5: Plain laws: sums over vectors, inner products. No condition. -/
set_option linter.unusedVariables false
set_option linter.unusedSimpArgs false
set_option maxRecDepth 100000
set_option maxHeartbeats 1000000
namespace Go.Abs
open Go.Proofs
def sumV (f : Int → Rat) : Vec → Rat
  | [] => 0
  | e :: v => e.2 * f e.1 + sumV f v
theorem sumV_vins (f : Int → Rat) (i : Int) (q : Rat) : ∀ v : Vec, sumV f (vins i q v) = q * f i + sumV f v
  | [] => by
    unfold vins
    split
    · rename_i h; subst h; simp only [sumV]; grind
    · simp only [sumV]
  | e :: v => by
    have ih := sumV_vins f i q v
    unfold vins
    split
    · split
      · rename_i h; subst h; simp only [sumV]; grind
      · simp only [sumV]
    · split
      · rename_i h
        split
        · rename_i h2; simp only [sumV]; rw [h]; have : q = -e.2 := by grind
          rw [this]; grind
        · simp only [sumV]; rw [h]; grind
      · simp only [sumV]; rw [ih]; grind
theorem sumV_vcan (f : Int → Rat) (v : Vec) : sumV f (vcan v) = sumV f v := by
  induction v with
  | nil => rfl
  | cons e v ih =>
    have : vcan (e :: v) = vins e.1 e.2 (vcan v) := rfl
    rw [this, sumV_vins, ih]; rfl
theorem sumV_congr {f g : Int → Rat} {v : Vec} (h : ∀ e ∈ v, f e.1 = g e.1) : sumV f v = sumV g v := by
  induction v with
  | nil => rfl
  | cons e v ih =>
    simp only [sumV]
    rw [h e (List.mem_cons_self ..), ih fun x hx => h x (List.mem_cons_of_mem _ hx)]
theorem sumV_zero {f : Int → Rat} {v : Vec} (h : ∀ e ∈ v, f e.1 = 0) : sumV f v = 0 := by
  induction v with
  | nil => rfl
  | cons e v ih =>
    simp only [sumV]
    rw [h e (List.mem_cons_self ..), ih fun x hx => h x (List.mem_cons_of_mem _ hx)]; grind
theorem sumV_map (f : Int → Rat) (p : List Int) (v : Vec) : sumV f (v.map (pq p)) = sumV (fun i => f (p.getD i.toNat 0)) v := by
  induction v with
  | nil => rfl
  | cons e v ih => simp only [List.map_cons, sumV, ih]; rfl
theorem Can.lt {e : Int × Rat} {v : Vec} (h : Can (e :: v)) : ∀ x ∈ v, e.1 < x.1 := (List.pairwise_cons.1 h.asc).1
theorem dotM_eq : ∀ (x y : Vec), Can x → Can y → dotM x y = sumV (vget y) x
  | [], y, _, _ => by rw [dotM]; rfl
  | a :: x, [], _, _ => by rw [dotM]; exact (sumV_zero fun _ _ => rfl).symm
  | a :: x, b :: y, hx, hy => by
    rw [dotM]
    split
    · rename_i h
      rw [dotM_eq x (b :: y) hx.tail hy]
      have h0 : vget (b :: y) a.1 = 0 := vget_out fun e he => by
        rcases List.mem_cons.1 he with rfl | he
        · omega
        · have := hy.lt e he; omega
      simp only [sumV]; rw [h0]; grind
    · split
      · rename_i h1 h
        rw [dotM_eq (a :: x) y hx hy.tail]
        refine sumV_congr fun e he => ?_
        have : b.1 < e.1 := by
          rcases List.mem_cons.1 he with rfl | he
          · exact h
          · have := hx.lt e he; omega
        simp only [vget]; rw [if_neg (by omega)]; grind
      · rename_i h1 h2
        have e1 : a.1 = b.1 := by omega
        rw [dotM_eq x y hx.tail hy.tail]
        simp only [sumV]
        rw [e1, hy.head_get]
        have : sumV (vget (b :: y)) x = sumV (vget y) x := sumV_congr fun e he => by
          have := hx.lt e he
          simp only [vget]; rw [if_neg (by omega)]; grind
        rw [this]
termination_by x y => x.length + y.length
theorem vget_sz {l : Vec} {k : Nat} (h : ∀ e ∈ l, Sz e.2 k) (j : Int) : Sz (vget l j) (1 + l.length * (k + 1)) := by
  induction l with
  | nil => exact sz_zero (by omega)
  | cons e l ih =>
    have ih := ih fun x hx => h x (List.mem_cons_of_mem _ hx)
    have h9 : (l.length + 1) * (k + 1) = l.length * (k + 1) + (k + 1) := Nat.succ_mul _ _
    simp only [vget, List.length_cons]
    split
    · exact ((h e (List.mem_cons_self ..)).add ih).mono (by omega)
    · rw [show (0 : Rat) + vget l j = vget l j by grind]; exact ih.mono (by omega)
theorem sumV_sz {f : Int → Rat} {l : Vec} {k : Nat} (h : ∀ e ∈ l, Sz e.2 k) (hf : ∀ e ∈ l, Sz (f e.1) k) : Sz (sumV f l) (1 + l.length * (k + k + 1)) := by
  induction l with
  | nil => exact sz_zero (by omega)
  | cons e l ih =>
    have ih := ih (fun x hx => h x (List.mem_cons_of_mem _ hx)) (fun x hx => hf x (List.mem_cons_of_mem _ hx))
    have h9 : (l.length + 1) * (k + k + 1) = l.length * (k + k + 1) + (k + k + 1) := Nat.succ_mul _ _
    simp only [sumV, List.length_cons]
    exact (((h e (List.mem_cons_self ..)).mul (hf e (List.mem_cons_self ..))).add ih).mono (by omega)
theorem vcan_len (u : Vec) : (vcan u).length ≤ u.length := by
  have h := srt_len (cE u)
  rw [srt_cE, cE_len, cE_len] at h
  exact h
theorem can_mem_get : ∀ {v : Vec}, Can v → ∀ e ∈ v, vget v e.1 = e.2
  | a :: v, h, e, he => by
    rcases List.mem_cons.1 he with rfl | he
    · exact h.head_get
    · have := h.lt e he
      simp only [vget]; rw [if_neg (by omega), can_mem_get h.tail e he]; grind
end Go.Abs
/-! YtzLaw7: Plain laws: how many entries and how large numbers the laws' vectors have. No condition. -/
set_option linter.unusedVariables false
set_option linter.unusedSimpArgs false
set_option maxRecDepth 100000
set_option maxHeartbeats 1000000
namespace Go.Abs
open Go.Proofs
theorem vcan_idx (u : Vec) : ∀ e ∈ vcan u, ∃ x ∈ u, x.1 = e.1 := fun e he => by
  have hc := vcan_can u
  have h1 := can_mem_get hc e he
  rw [vcan_get] at h1
  by_cases hx : ∃ x ∈ u, x.1 = e.1
  · exact hx
  · exact absurd (by rw [← h1]; exact vget_out fun x hx' e1 => hx ⟨x, hx', e1⟩) (hc.nz e he)
theorem vcan_sz {u : Vec} {k n : Nat} (h : ∀ e ∈ u, Sz e.2 k) (hn : u.length ≤ n) : ∀ e ∈ vcan u, Sz e.2 (1 + n * (k + 1)) := fun e he => by
  have h1 := can_mem_get (vcan_can u) e he
  rw [vcan_get] at h1
  rw [← h1]
  exact (vget_sz h e.1).mono (Nat.add_le_add_left (Nat.mul_le_mul_right _ hn) _)
theorem can_rng_len : ∀ {v : Vec} {n : Nat} {lo : Int}, Can v → (∀ e ∈ v, lo ≤ e.1 ∧ e.1 < lo + n) → v.length ≤ n
  | [], _, _, _, _ => Nat.zero_le _
  | e :: v, 0, lo, _, h => by have := h e (List.mem_cons_self ..); omega
  | e :: v, n + 1, lo, hc, h => by
    have := can_rng_len (n := n) (lo := lo + 1) hc.tail fun x hx => by
      have h1 := hc.lt x hx
      have h2 := h e (List.mem_cons_self ..)
      have h3 := h x (List.mem_cons_of_mem _ hx)
      omega
    rw [List.length_cons]; omega
def Rg (v : Vec) : Prop := ∀ e ∈ v, -1 ≤ e.1 ∧ e.1 < 8
theorem Rg.vcan {v : Vec} (h : Rg v) : Rg (vcan v) := fun e he => by
  obtain ⟨x, hx, e1⟩ := vcan_idx v e he
  rw [← e1]; exact h x hx
theorem Rg.len {v : Vec} (h : Rg v) : (Abs.vcan v).length ≤ 9 := can_rng_len (lo := -1) (vcan_can v) fun e he => by have := h.vcan e he; omega
theorem Rg.app {v w : Vec} (h : Rg v) (k : Rg w) : Rg (v ++ w) := fun e he => (List.mem_append.1 he).elim (h e) (k e)
theorem Rg.smul {v : Vec} (h : Rg v) (f : Rat) : Rg (smul f v) := fun e he => by
  obtain ⟨x, hx, rfl⟩ := List.mem_map.1 he
  exact h x hx
theorem shL_rg (l : List Ent) : Rg (eV (shL l)) := fun e he => by
  obtain ⟨x, hx, rfl⟩ := List.mem_map.1 he
  obtain ⟨y, hy, rfl⟩ := List.mem_map.1 hx
  unfold shE
  simp only
  omega
theorem shL_ok {l : List Ent} {k : Nat} (h : OkL l k) : OkL (shL l) k := fun e he => by
  obtain ⟨x, hx, rfl⟩ := List.mem_map.1 he
  exact h x (List.mem_of_mem_take hx)
theorem shL_le (l : List Ent) : (shL l).length ≤ 40 := by rw [shL_len]; omega
/-- A sum's entries are counted and bounded. -/
theorem vadd_ok {u : Vec} {k n : Nat} (h : ∀ e ∈ u, Sz e.2 k) (hn : u.length ≤ n) : OkL (cE (vcan u)) (1 + n * (k + 1)) := cE_ok (vcan_sz h hn)
theorem app_sz {u w : Vec} {k : Nat} (h : ∀ e ∈ u, Sz e.2 k) (g : ∀ e ∈ w, Sz e.2 k) : ∀ e ∈ u ++ w, Sz e.2 k := fun e he => (List.mem_append.1 he).elim (h e) (g e)
end Go.Abs
/-! YtzIx1: The reference's indices and canonical form of a vector. No condition. -/
set_option linter.unusedVariables false
set_option linter.unusedSimpArgs false
set_option maxRecDepth 100000
set_option maxHeartbeats 1000000
namespace Go.Abs
open Go.Proofs
@[go_sem] theorem R46 : Tryz.f46.results.toList = [.tmp 2] := rfl
def VL (ls : List (List Ent)) : AV := .sl 1 (ls.map fun l => [EL l])
theorem vl_get {ls : List (List Ent)} {j : Nat} (h : j < ls.length) : (ls.map fun l => [EL l]).getD j [] = [.sl 4 ((ls.getD j default).map entC)] := by
  rw [List.getD_eq_getElem?_getD, List.getElem?_map, List.getD_eq_getElem?_getD, List.getElem?_eq_getElem h]; rfl
def accI (ls : List (List Ent)) (j : Nat) : List Int := (ls.take j).foldl addI []
theorem accI_succ {ls : List (List Ent)} {j : Nat} (h : j < ls.length) : accI ls (j + 1) = addI (accI ls j) (ls.getD j default) := by
  unfold accI
  rw [List.take_add_one, List.getElem?_eq_getElem h, List.getD_eq_getElem?_getD, List.getElem?_eq_getElem h, List.foldl_append]; rfl
def totL (ls : List (List Ent)) : Nat := (ls.map List.length).sum
theorem accI_len (ls : List (List Ent)) : ∀ j, j ≤ ls.length → (accI ls j).length ≤ totL (ls.take j)
  | 0, _ => Nat.zero_le _
  | j + 1, h => by
    have ih := accI_len ls j (by omega)
    have h1 := addI_len (ls.getD j default) (accI ls j)
    rw [accI_succ h]
    have : totL (ls.take (j + 1)) = totL (ls.take j) + (ls.getD j default).length := by
      unfold totL
      rw [List.take_add_one, List.getElem?_eq_getElem h, List.getD_eq_getElem?_getD, List.getElem?_eq_getElem h, List.map_append, List.sum_append]; simp
    omega
theorem totL_take (ls : List (List Ent)) (j : Nat) : totL (ls.take j) ≤ totL ls := by
  unfold totL
  conv => rhs; rw [← List.take_append_drop j ls]
  rw [List.map_append, List.sum_append]; omega
theorem totL_get {ls : List (List Ent)} {j : Nat} (h : j < ls.length) : totL (ls.take j) + (ls.getD j default).length ≤ totL ls := by
  have : totL (ls.take (j + 1)) = totL (ls.take j) + (ls.getD j default).length := by
    unfold totL
    rw [List.take_add_one, List.getElem?_eq_getElem h, List.getD_eq_getElem?_getD, List.getElem?_eq_getElem h, List.map_append, List.sum_append]; simp
  rw [← this]; exact totL_take ls _
theorem addI_take {acc : List Int} {l : List Ent} {i : Nat} (h : i < l.length) : addI acc (l.take (i + 1)) = inI (l.getD i default).1 (addI acc (l.take i)) := by rw [take_succ_getE h, addI_snoc]
theorem addI_take_len {acc : List Int} {l : List Ent} {i : Nat} (h : i ≤ l.length) : (addI acc (l.take i)).length ≤ acc.length + i := by
  have := addI_len (l.take i) acc
  rw [List.length_take] at this; omega
theorem indices_spec (ls : List (List Ent)) (hl : ls.length + totL ls ≤ 1099511627776) : PDet Tryz.prog 46 [VL ls] (IL (idxs ls)) := by
  refine pdet_of E0ok mixed Tryz.func46 (by kernel_rfl) rfl (by kernel_rfl) (Nat.le_of_ble_eq_true rfl) fun N0 h hn hmen => ?_
  have al := accI_len ls
  have tt := totL_take ls
  unfold VL IL
  simp -implicitDefEqProofs (maxSteps := 2000000) (disch := omega) only [go_sem, simprocAttr, -List.reduceReplicate, condB_t, condB_f]
  refine aw_weak (Weak.nilRow (t := 3) (sz := 1) (id := N0 + 40) (by omega) (by omega) (by simp -implicitDefEqProofs (maxSteps := 2000000) (disch := omega) only [go_sem, simprocAttr, -List.reduceReplicate, condB_t, condB_f])) ?_
  refine aw_loop (X := Nat × Nat) (fun x => ⟨mkS [(3, .row x.2 (accI ls x.1).length 0 (accI ls x.1).length), (9, .sl 1 (ls.map fun l => [EL l])), (10, .int .i64 ls.length), (11, .int .i64 x.1)], mkH h [(x.2, ⟨1, (accI ls x.1).map intC⟩)], x.2 + 8⟩)
    (fun x => x.1 ≤ ls.length ∧ N0 ≤ x.2) (fun x => ls.length - x.1) ⟨(0, N0 + 40), ⟨Nat.zero_le _, by simp⟩, ?_⟩ ?_
  · simp only [show accI ls 0 = [] from rfl]
    (refine Weak.head1w (by simp -implicitDefEqProofs (maxSteps := 2000000) (disch := omega) only [go_sem, simprocAttr, -List.reduceReplicate, condB_t, condB_f] <;> (try rfl)) (by omega) (mapU _ _ _) (fun k0 b0 hk0 hb0 => by have hk1 : (k0 = _) = False := eq_false hk0; have hk2 := (hmen k0 b0 hb0).1; (simp -implicitDefEqProofs (maxSteps := 2000000) (disch := omega) only [go_sem, simprocAttr, -List.reduceReplicate, condB_t, condB_f, upd, mkH, hk1]) <;> (try (repeat rw [if_neg (by omega)])) <;> exact hb0) (by omega) hmen ?_; simp -implicitDefEqProofs (maxSteps := 2000000) (disch := omega) only [go_sem, simprocAttr, -List.reduceReplicate, condB_t, condB_f, AllP, AVle_same, AVle_int, AVle_nil, AVle_row, topU_int, topU_bool, topU_sl, topU_row, topU_ptr, topU_iptr, topU_fn, val, List.drop_length])
  · rintro ⟨j, ip⟩ ⟨hj, hip⟩
    simp only at hj hip ⊢
    by_cases h0 : j < ls.length
    · have hv := vl_get h0
      have es := accI_succ h0
      have tl := totL_get h0
      have al := al j hj
      have tt := tt j
      have hla : ls.length + totL ls ≤ 1099511627776 := hl
      generalize ls.getD j default = l at *
      obtain ⟨acc, hacc⟩ : ∃ acc, acc = accI ls j := ⟨_, rfl⟩
      rw [← hacc] at es al ⊢
      simp -implicitDefEqProofs (maxSteps := 2000000) (disch := omega) only [go_sem, simprocAttr, -List.reduceReplicate, condB_t, condB_f, hv]
      refine aw_loop (X := Nat × Nat) (fun x => ⟨mkS [(3, .row x.2 (addI acc (l.take x.1)).length 0 (addI acc (l.take x.1)).length), (5, .sl 4 (l.map entC)), (6, .int .i64 x.1), (9, .sl 1 (ls.map fun l => [EL l])), (10, .int .i64 ls.length), (11, .int .i64 j)], mkH h [(x.2, ⟨1, (addI acc (l.take x.1)).map intC⟩)], x.2 + 8⟩)
        (fun x => x.1 ≤ l.length ∧ N0 ≤ x.2) (fun x => l.length - x.1) ⟨(0, ip), ⟨Nat.zero_le _, hip⟩, ?_⟩ ?_
      · simp only [show addI acc (l.take 0) = acc from rfl]
        (refine Weak.head1w (by simp -implicitDefEqProofs (maxSteps := 2000000) (disch := omega) only [go_sem, simprocAttr, -List.reduceReplicate, condB_t, condB_f] <;> (try rfl)) (by omega) (mapU _ _ _) (fun k0 b0 hk0 hb0 => by have hk1 : (k0 = _) = False := eq_false hk0; have hk2 := (hmen k0 b0 hb0).1; (simp -implicitDefEqProofs (maxSteps := 2000000) (disch := omega) only [go_sem, simprocAttr, -List.reduceReplicate, condB_t, condB_f, upd, mkH, hk1]) <;> (try (repeat rw [if_neg (by omega)])) <;> exact hb0) (by omega) hmen ?_; simp -implicitDefEqProofs (maxSteps := 2000000) (disch := omega) only [go_sem, simprocAttr, -List.reduceReplicate, condB_t, condB_f, AllP, AVle_same, AVle_int, AVle_nil, AVle_row, topU_int, topU_bool, topU_sl, topU_row, topU_ptr, topU_iptr, topU_fn, val, List.drop_length])
      · rintro ⟨i, ip⟩ ⟨hi, hip⟩
        simp only at hi hip ⊢
        by_cases h1 : i < l.length
        · have ai := addI_take (acc := acc) h1
          have l2 := addI_take_len (acc := acc) hi
          obtain ⟨A, hA⟩ : ∃ A, A = addI acc (l.take i) := ⟨_, rfl⟩
          rw [← hA] at ai l2 ⊢
          obtain ⟨e, he⟩ : ∃ e, l.getD i default = e := ⟨_, rfl⟩
          rw [he] at ai
          simp -implicitDefEqProofs (maxSteps := 2000000) (disch := omega) only [go_sem, simprocAttr, -List.reduceReplicate, condB_t, condB_f]
          refine aw_loop (X := Nat) (fun q => ⟨mkS [(3, .row ip A.length 0 A.length), (5, .sl 4 (l.map entC)), (6, .int .i64 i), (7, .int .i64 q), (9, .sl 1 (ls.map fun l => [EL l])), (10, .int .i64 ls.length), (11, .int .i64 j)], mkH h [(ip, ⟨1, A.map intC⟩)], ip + 8⟩)
            (fun q => q ≤ A.length ∧ ∀ x ∈ A.take q, x < e.1) (fun q => A.length - q) ⟨0, ⟨Nat.zero_le _, nofun⟩, ?_⟩ ?_
          · (refine Weak.head1w (by simp -implicitDefEqProofs (maxSteps := 2000000) (disch := omega) only [go_sem, simprocAttr, -List.reduceReplicate, condB_t, condB_f] <;> (try rfl)) (by omega) (mapU _ _ _) (fun k0 b0 hk0 hb0 => by have hk1 : (k0 = _) = False := eq_false hk0; have hk2 := (hmen k0 b0 hb0).1; (simp -implicitDefEqProofs (maxSteps := 2000000) (disch := omega) only [go_sem, simprocAttr, -List.reduceReplicate, condB_t, condB_f, upd, mkH, hk1]) <;> (try (repeat rw [if_neg (by omega)])) <;> exact hb0) (by omega) hmen ?_; simp -implicitDefEqProofs (maxSteps := 2000000) (disch := omega) only [go_sem, simprocAttr, -List.reduceReplicate, condB_t, condB_f, AllP, AVle_same, AVle_int, AVle_nil, AVle_row, topU_int, topU_bool, topU_sl, topU_row, topU_ptr, topU_iptr, topU_fn, val, List.drop_length])
          · rintro q ⟨hq, hlt⟩
            by_cases h2 : q < A.length
            · obtain ⟨a, ha⟩ : ∃ a, A.getD q 0 = a := ⟨_, rfl⟩
              by_cases h3 : a < e.1
              · simp -implicitDefEqProofs (maxSteps := 2000000) (disch := omega) only [go_sem, simprocAttr, -List.reduceReplicate, condB_t, condB_f, he, ha]
                refine ⟨q + 1, ⟨h2, fun x hx => ?_⟩, by omega, by (refine Weak.head1w (by simp -implicitDefEqProofs (maxSteps := 2000000) (disch := omega) only [go_sem, simprocAttr, -List.reduceReplicate, condB_t, condB_f, he, ha] <;> (try rfl)) (by omega) (mapU _ _ _) (fun k0 b0 hk0 hb0 => by have hk1 : (k0 = _) = False := eq_false hk0; have hk2 := (hmen k0 b0 hb0).1; (simp -implicitDefEqProofs (maxSteps := 2000000) (disch := omega) only [go_sem, simprocAttr, -List.reduceReplicate, condB_t, condB_f, upd, mkH, hk1]) <;> (try (repeat rw [if_neg (by omega)])) <;> exact hb0) (by omega) hmen ?_; simp -implicitDefEqProofs (maxSteps := 2000000) (disch := omega) only [go_sem, simprocAttr, -List.reduceReplicate, condB_t, condB_f, AllP, AVle_same, AVle_int, AVle_nil, AVle_row, topU_int, topU_bool, topU_sl, topU_row, topU_ptr, topU_iptr, topU_fn, val, List.drop_length, he, ha])⟩
                rw [List.take_add_one, List.getElem?_eq_getElem h2] at hx
                rcases List.mem_append.1 hx with hx | hx
                · exact hlt x hx
                · rw [List.getD_eq_getElem?_getD, List.getElem?_eq_getElem h2] at ha
                  have : x = a := by rw [← ha]; simpa using hx
                  rw [this]; exact h3
              · have ia := inI_at hq hlt (fun _ => by rw [ha]; exact h3)
                rw [ha] at ia
                by_cases h4 : a = e.1
                · rw [if_pos ⟨h2, h4⟩] at ia
                  rw [ia] at ai
                  simp -implicitDefEqProofs (maxSteps := 2000000) (disch := omega) only [go_sem, simprocAttr, -List.reduceReplicate, condB_t, condB_f, he, ha]
                  exact ⟨(i + 1, ip), ⟨h1, hip⟩, by simp only; omega, by simp only [ai]; (refine Weak.head1w (by simp -implicitDefEqProofs (maxSteps := 2000000) (disch := omega) only [go_sem, simprocAttr, -List.reduceReplicate, condB_t, condB_f, he, ha] <;> (try rfl)) (by omega) (mapU _ _ _) (fun k0 b0 hk0 hb0 => by have hk1 : (k0 = _) = False := eq_false hk0; have hk2 := (hmen k0 b0 hb0).1; (simp -implicitDefEqProofs (maxSteps := 2000000) (disch := omega) only [go_sem, simprocAttr, -List.reduceReplicate, condB_t, condB_f, upd, mkH, hk1]) <;> (try (repeat rw [if_neg (by omega)])) <;> exact hb0) (by omega) hmen ?_; simp -implicitDefEqProofs (maxSteps := 2000000) (disch := omega) only [go_sem, simprocAttr, -List.reduceReplicate, condB_t, condB_f, AllP, AVle_same, AVle_int, AVle_nil, AVle_row, topU_int, topU_bool, topU_sl, topU_row, topU_ptr, topU_iptr, topU_fn, val, List.drop_length, he, ha])⟩
                · rw [if_neg (fun h => h4 h.2)] at ia
                  rw [ia] at ai
                  have t1 : (A.take q).length = q := by rw [List.length_take]; omega
                  have t2 : (A.drop q).take (A.length - q) = A.drop q := List.take_of_length_le (by rw [List.length_drop]; omega)
                  have t3 : (A.drop q).length = A.length - q := by rw [List.length_drop]
                  have t4 : (A.take q ++ [e.1]).length = q + 1 := by rw [List.length_append, t1]; rfl
                  have t5 : (A.take q ++ e.1 :: A.drop q).length = q + 1 + (A.length - q) := by rw [List.length_append, List.length_cons, t1, t3]; omega
                  have t6 : A.take q ++ [e.1] ++ A.drop q = A.take q ++ e.1 :: A.drop q := by simp
                  simp -implicitDefEqProofs (maxSteps := 2000000) (disch := omega) only [go_sem, simprocAttr, -List.reduceReplicate, condB_t, condB_f, he, ha, t1, t2, t3, t4]
                  refine ⟨(i + 1, ip + 264), ⟨h1, by simp only; omega⟩, by simp only; omega, ?_⟩
                  simp only [ai, t5]
                  (refine Weak.head1w (by simp -implicitDefEqProofs (maxSteps := 2000000) (disch := omega) only [go_sem, simprocAttr, -List.reduceReplicate, condB_t, condB_f, he, ha, t1, t2, t3, t4, t6] <;> (try rfl)) (by omega) (mapU _ _ _) (fun k0 b0 hk0 hb0 => by have hk1 : (k0 = _) = False := eq_false hk0; have hk2 := (hmen k0 b0 hb0).1; (simp -implicitDefEqProofs (maxSteps := 2000000) (disch := omega) only [go_sem, simprocAttr, -List.reduceReplicate, condB_t, condB_f, upd, mkH, hk1]) <;> (try (repeat rw [if_neg (by omega)])) <;> exact hb0) (by omega) hmen ?_; simp -implicitDefEqProofs (maxSteps := 2000000) (disch := omega) only [go_sem, simprocAttr, -List.reduceReplicate, condB_t, condB_f, AllP, AVle_same, AVle_int, AVle_nil, AVle_row, topU_int, topU_bool, topU_sl, topU_row, topU_ptr, topU_iptr, topU_fn, val, List.drop_length, he, ha, t1, t2, t3, t4, t6])
            · obtain rfl : q = A.length := by omega
              have ia := inI_at (i := e.1) hq hlt (fun h => absurd h (by omega))
              rw [if_neg (fun h => h2 h.1)] at ia
              rw [ia] at ai
              have t1 : (A.take A.length).length = A.length := by rw [List.length_take]; omega
              have t2 : (A.drop A.length).take (A.length - A.length) = A.drop A.length := List.take_of_length_le (by rw [List.length_drop]; omega)
              have t3 : (A.drop A.length).length = A.length - A.length := by rw [List.length_drop]
              have t4 : (A.take A.length ++ [e.1]).length = A.length + 1 := by rw [List.length_append, t1]; rfl
              have t5 : (A.take A.length ++ e.1 :: A.drop A.length).length = A.length + 1 + (A.length - A.length) := by rw [List.length_append, List.length_cons, t1, t3]; omega
              have t6 : A.take A.length ++ [e.1] ++ A.drop A.length = A.take A.length ++ e.1 :: A.drop A.length := by simp
              simp -implicitDefEqProofs (maxSteps := 2000000) (disch := omega) only [go_sem, simprocAttr, -List.reduceReplicate, condB_t, condB_f, he, t1, t2, t3, t4]
              refine ⟨(i + 1, ip + 264), ⟨h1, by simp only; omega⟩, by simp only; omega, ?_⟩
              simp only [ai, t5]
              (refine Weak.head1w (by simp -implicitDefEqProofs (maxSteps := 2000000) (disch := omega) only [go_sem, simprocAttr, -List.reduceReplicate, condB_t, condB_f, he, t1, t2, t3, t4, t6] <;> (try rfl)) (by omega) (mapU _ _ _) (fun k0 b0 hk0 hb0 => by have hk1 : (k0 = _) = False := eq_false hk0; have hk2 := (hmen k0 b0 hb0).1; (simp -implicitDefEqProofs (maxSteps := 2000000) (disch := omega) only [go_sem, simprocAttr, -List.reduceReplicate, condB_t, condB_f, upd, mkH, hk1]) <;> (try (repeat rw [if_neg (by omega)])) <;> exact hb0) (by omega) hmen ?_; simp -implicitDefEqProofs (maxSteps := 2000000) (disch := omega) only [go_sem, simprocAttr, -List.reduceReplicate, condB_t, condB_f, AllP, AVle_same, AVle_int, AVle_nil, AVle_row, topU_int, topU_bool, topU_sl, topU_row, topU_ptr, topU_iptr, topU_fn, val, List.drop_length, he, t1, t2, t3, t4, t6])
        · obtain rfl : i = l.length := by omega
          rw [List.take_of_length_le (Nat.le_refl _), ← es]
          simp -implicitDefEqProofs (maxSteps := 2000000) (disch := omega) only [go_sem, simprocAttr, -List.reduceReplicate, condB_t, condB_f]
          exact ⟨(j + 1, ip), ⟨h0, hip⟩, by simp only; omega, by (refine Weak.head1w (by simp -implicitDefEqProofs (maxSteps := 2000000) (disch := omega) only [go_sem, simprocAttr, -List.reduceReplicate, condB_t, condB_f] <;> (try rfl)) (by omega) (mapU _ _ _) (fun k0 b0 hk0 hb0 => by have hk1 : (k0 = _) = False := eq_false hk0; have hk2 := (hmen k0 b0 hb0).1; (simp -implicitDefEqProofs (maxSteps := 2000000) (disch := omega) only [go_sem, simprocAttr, -List.reduceReplicate, condB_t, condB_f, upd, mkH, hk1]) <;> (try (repeat rw [if_neg (by omega)])) <;> exact hb0) (by omega) hmen ?_; simp -implicitDefEqProofs (maxSteps := 2000000) (disch := omega) only [go_sem, simprocAttr, -List.reduceReplicate, condB_t, condB_f, AllP, AVle_same, AVle_int, AVle_nil, AVle_row, topU_int, topU_bool, topU_sl, topU_row, topU_ptr, topU_iptr, topU_fn, val, List.drop_length])⟩
    · obtain rfl : j = ls.length := by omega
      have e : idxs ls = accI ls ls.length := by unfold idxs accI; rw [List.take_of_length_le (Nat.le_refl _)]
      rw [e]
      simp -implicitDefEqProofs (maxSteps := 2000000) (disch := omega) only [go_sem, simprocAttr, -List.reduceReplicate, condB_t, condB_f]
      refine .val (.leaf (Thaw.plain (rows := (accI ls ls.length).map intC) (by simp [locH, upd, mkH]; omega) (by simp) (by omega) (List.take_of_length_le (by simp)) (mapP _)))
end Go.Abs
/-! YtzIx2: The reference's vectors: canonical form, validity, permutations. No condition. -/
set_option linter.unusedVariables false
set_option linter.unusedSimpArgs false
set_option maxRecDepth 100000
set_option maxHeartbeats 1000000
namespace Go.Abs
open Go.Proofs
@[go_sem] theorem R26 : Tryz.f26.results.toList = [.tmp 2] := rfl
theorem vecI_take {g : Int → Rat} {I : List Int} {j : Nat} (h : j < I.length) : vecI g (I.take (j + 1)) = vecI g (I.take j) ++ (if g (I.getD j 0) = 0 then [] else [(I.getD j 0, g (I.getD j 0))]) := by
  rw [← vecI_snoc]
  rw [List.take_add_one, List.getElem?_eq_getElem h, List.getD_eq_getElem?_getD, List.getElem?_eq_getElem h]; rfl
theorem vecI_le (g : Int → Rat) (I : List Int) : (vecI g I).length ≤ I.length := List.length_filterMap_le ..
theorem idxs_vcan (v : List Ent) : vecI (vget (eV v)) (idxs [v]) = vcan (eV v) := by
  rw [idxs_one]
  refine vecI_vcan (addI_asc ascI_nil) fun e he => ?_
  obtain ⟨x, hx, rfl⟩ := List.mem_map.1 he
  exact addI_mem.2 (.inr ⟨x, hx, rfl⟩)
theorem plain_el (l : List Ent) : ∀ r ∈ [[AV.sl 4 (l.map entC)]], r.length = 1 ∧ ∀ a ∈ r, pure0 a = true := by
  intro r hr; rw [List.mem_singleton.1 hr]
  exact ⟨rfl, fun a ha => by rw [List.mem_singleton.1 ha]; rfl⟩
theorem rvnorm_spec (v : List Ent) (k : Nat) (hk : OkL v k) (hk1 : 1 ≤ k) (hl : v.length ≤ 1000000) (hkb : v.length * (k + 1) + (k + k + 1) ≤ 549755813888) : PDet Tryz.prog 26 [EL v] (EL (cE (vcan (eV v)))) := by
  refine pdet_of E0ok mixed Tryz.func26 (by kernel_rfl) rfl (by kernel_rfl) (Nat.le_of_ble_eq_true rfl) fun N0 h hn hmen => ?_
  have ci := indices_spec [v] (by simp [totL]; omega)
  have li : (idxs [v]).length ≤ v.length := by rw [idxs_one]; have := addI_len v []; simpa using this
  rw [← idxs_vcan]
  have cg := fun j => get_spec v j k hk hk1 (by omega) hkb
  have sg : ∀ j, Sz (vget (eV v) j) (1 + v.length * (k + 1)) := fun j => by
    have := vget_sz (eV_sz hk hk1) j
    rwa [eV_len] at this
  have cs := fun j => r3sign_spec (canon (vget (eV v) j)) _ (canon_ok (sg j)) (by omega)
  generalize vget (eV v) = g at *
  generalize idxs [v] = I at *
  simp only [canon_val] at cs
  unfold VL EL IL at ci
  simp only [List.map_cons, List.map_nil] at ci
  unfold EL rC Raw.cells nl at *
  simp -implicitDefEqProofs (maxSteps := 2000000) (disch := omega) only [go_sem, simprocAttr, -List.reduceReplicate, condB_t, condB_f]
  refine callK_row ci (by simp -implicitDefEqProofs (maxSteps := 2000000) (disch := omega) only [go_sem, simprocAttr, -List.reduceReplicate, condB_t, condB_f] <;> rfl) rfl (by decide) rfl (plain_el v) ?_
  simp -implicitDefEqProofs (maxSteps := 2000000) (disch := omega) only [go_sem, simprocAttr, -List.reduceReplicate, condB_t, condB_f]
  refine aw_weak (Weak.nilRow (t := 3) (sz := 4) (id := N0 + 56) (by omega) (by omega) (by simp -implicitDefEqProofs (maxSteps := 2000000) (disch := omega) only [go_sem, simprocAttr, -List.reduceReplicate, condB_t, condB_f])) ?_
  obtain ⟨id, hid⟩ : ∃ id, id = N0 + 56 := ⟨_, rfl⟩
  rw [← hid]
  refine aw_loop (X := Nat) (fun j => ⟨mkS [(0, .sl 4 (v.map entC)), (3, .row id (vecI g (I.take j)).length 0 (vecI g (I.take j)).length), (9, .sl 1 (I.map intC)), (10, .int .i64 I.length), (11, .int .i64 j)], mkH h [(id, ⟨4, (cE (vecI g (I.take j))).map entC⟩)], id + 8⟩) (fun j => j ≤ I.length) (fun j => I.length - j) ⟨0, Nat.zero_le _, ?_⟩ ?_
  · simp only [show vecI g (I.take 0) = [] from rfl, show cE [] = [] from rfl]
    (refine Weak.head1w (by simp -implicitDefEqProofs (maxSteps := 2000000) (disch := omega) only [go_sem, simprocAttr, -List.reduceReplicate, condB_t, condB_f] <;> (try rfl)) (by omega) (mapU _ _ _) (fun k0 b0 hk0 hb0 => by have hk1 : (k0 = _) = False := eq_false hk0; have hk2 := (hmen k0 b0 hb0).1; (simp -implicitDefEqProofs (maxSteps := 2000000) (disch := omega) only [go_sem, simprocAttr, -List.reduceReplicate, condB_t, condB_f, upd, mkH, hk1]) <;> (try (repeat rw [if_neg (by omega)])) <;> exact hb0) (by omega) hmen ?_; simp -implicitDefEqProofs (maxSteps := 2000000) (disch := omega) only [go_sem, simprocAttr, -List.reduceReplicate, condB_t, condB_f, AllP, AVle_same, AVle_int, AVle_nil, AVle_row, topU_int, topU_bool, topU_sl, topU_row, topU_ptr, topU_iptr, topU_fn, val, List.drop_length])
  · intro j hj
    have lo := cE_len (vecI g (I.take j))
    have le := vecI_le g (I.take j)
    rw [List.length_take] at le
    by_cases h0 : j < I.length
    · have e := vecI_take (g := g) h0
      obtain ⟨i, hi⟩ : ∃ i, I.getD j 0 = i := ⟨_, rfl⟩
      rw [hi] at e
      simp -implicitDefEqProofs (maxSteps := 2000000) (disch := omega) only [go_sem, simprocAttr, -List.reduceReplicate, condB_t, condB_f, hi]
      refine callK_pure (cg i) ?_
      simp -implicitDefEqProofs (maxSteps := 2000000) (disch := omega) only [go_sem, simprocAttr, -List.reduceReplicate, condB_t, condB_f]
      refine callK_pure (cs i) ?_
      by_cases hz : sgnR (g i) = 0
      · rw [if_pos (sgnR_zero.1 hz), List.append_nil] at e
        rw [hz]
        simp -implicitDefEqProofs (maxSteps := 2000000) (disch := omega) only [go_sem, simprocAttr, -List.reduceReplicate, condB_t, condB_f]
        exact ⟨j + 1, h0, by omega, by simp only [e]; (refine Weak.head1w (by simp -implicitDefEqProofs (maxSteps := 2000000) (disch := omega) only [go_sem, simprocAttr, -List.reduceReplicate, condB_t, condB_f] <;> (try rfl)) (by omega) (mapU _ _ _) (fun k0 b0 hk0 hb0 => by have hk1 : (k0 = _) = False := eq_false hk0; have hk2 := (hmen k0 b0 hb0).1; (simp -implicitDefEqProofs (maxSteps := 2000000) (disch := omega) only [go_sem, simprocAttr, -List.reduceReplicate, condB_t, condB_f, upd, mkH, hk1]) <;> (try (repeat rw [if_neg (by omega)])) <;> exact hb0) (by omega) hmen ?_; simp -implicitDefEqProofs (maxSteps := 2000000) (disch := omega) only [go_sem, simprocAttr, -List.reduceReplicate, condB_t, condB_f, AllP, AVle_same, AVle_int, AVle_nil, AVle_row, topU_int, topU_bool, topU_sl, topU_row, topU_ptr, topU_iptr, topU_fn, val, List.drop_length])⟩
      · rw [if_neg (fun h => hz (sgnR_zero.2 h))] at e
        have ee := cE_snoc (vecI g (I.take j)) i (g i)
        have el : (vecI g (I.take j) ++ [(i, g i)]).length = (vecI g (I.take j)).length + 1 := by simp
        simp -implicitDefEqProofs (maxSteps := 2000000) (disch := omega) only [go_sem, simprocAttr, -List.reduceReplicate, condB_t, condB_f, lo]
        refine ⟨j + 1, h0, by omega, ?_⟩
        simp only [e, el]
        (refine Weak.head1w (by simp -implicitDefEqProofs (maxSteps := 2000000) (disch := omega) only [go_sem, simprocAttr, -List.reduceReplicate, condB_t, condB_f, lo, ee] <;> (try rfl)) (by omega) (mapU _ _ _) (fun k0 b0 hk0 hb0 => by have hk1 : (k0 = _) = False := eq_false hk0; have hk2 := (hmen k0 b0 hb0).1; (simp -implicitDefEqProofs (maxSteps := 2000000) (disch := omega) only [go_sem, simprocAttr, -List.reduceReplicate, condB_t, condB_f, upd, mkH, hk1]) <;> (try (repeat rw [if_neg (by omega)])) <;> exact hb0) (by omega) hmen ?_; simp -implicitDefEqProofs (maxSteps := 2000000) (disch := omega) only [go_sem, simprocAttr, -List.reduceReplicate, condB_t, condB_f, AllP, AVle_same, AVle_int, AVle_nil, AVle_row, topU_int, topU_bool, topU_sl, topU_row, topU_ptr, topU_iptr, topU_fn, val, List.drop_length, lo, ee])
    · obtain rfl : j = I.length := by omega
      rw [List.take_of_length_le (Nat.le_refl _)] at lo ⊢
      simp -implicitDefEqProofs (maxSteps := 2000000) (disch := omega) only [go_sem, simprocAttr, -List.reduceReplicate, condB_t, condB_f]
      refine .val (.leaf (Thaw.plain (rows := (cE (vecI g I)).map entC) (by simp [locH, upd, mkH]; omega) (by simp [lo]) (by omega) (List.take_of_length_le (by simp [lo])) (mapP _)))
end Go.Abs
/-! YtzIx3: The reference's vectors: validity, permutations. No condition. -/
set_option linter.unusedVariables false
set_option linter.unusedSimpArgs false
set_option maxRecDepth 100000
set_option maxHeartbeats 1000000
namespace Go.Abs
open Go.Proofs
@[go_sem] theorem R28 : Tryz.f28.results.toList = [.tmp 4] := rfl
@[go_sem] theorem R27 : Tryz.f27.results.toList = [.tmp 2] := rfl
@[go_sem] theorem R11 : Tryz.f11.results.toList = [.tmp 4, .tmp 5] := rfl
def InR (w : Vec) (n : Int) : Prop := ∀ e ∈ w, 0 ≤ e.1 ∧ e.1 < n
instance (w : Vec) (n : Int) : Decidable (InR w n) := by unfold InR; infer_instance
theorem take_snocV {w : Vec} {i : Nat} (h : i < w.length) : w.take (i + 1) = w.take i ++ [w.getD i default] := by
  rw [List.take_add_one, List.getElem?_eq_getElem h, List.getD_eq_getElem?_getD, List.getElem?_eq_getElem h]; rfl
theorem memV {w : Vec} {i : Nat} (h : i < w.length) : w.getD i default ∈ w := by rw [List.getD_eq_getElem?_getD, List.getElem?_eq_getElem h]; exact List.getElem_mem _
theorem can_step {w : Vec} (hc : Can w) {i : Nat} (h : i < w.length) (h0 : 0 < i) : (w.getD (i - 1) default).1 < (w.getD i default).1 := by
  have := List.pairwise_iff_getElem.1 hc.asc (i - 1) i (by omega) h (by omega)
  rw [List.getD_eq_getElem?_getD, List.getElem?_eq_getElem (by omega), List.getD_eq_getElem?_getD, List.getElem?_eq_getElem h]; exact this
theorem rvalid_spec (w : Vec) (n : Int) (k : Nat) (hc : Can w) (hz : ∀ e ∈ w, Sz e.2 k) (hk : k ≤ 549755813888) (hl : w.length ≤ 1099511627776) : PDet Tryz.prog 28 [EL (cE w), .int .i64 n] (.bool (decide (InR w n))) := by
  refine pdet_of E0ok mixed Tryz.func28 (by kernel_rfl) rfl (by kernel_rfl) (Nat.le_of_ble_eq_true rfl) fun N0 h hn hmen => ?_
  have cl := cE_len w
  unfold EL
  simp -implicitDefEqProofs (maxSteps := 2000000) (disch := omega) only [go_sem, simprocAttr, -List.reduceReplicate, condB_t, condB_f]
  refine aw_loop (X := Nat) (fun i => ⟨mkS [(0, .sl 4 ((cE w).map entC)), (1, .int .i64 n), (5, .int .i64 i)], h, N0⟩) (fun i => i ≤ w.length ∧ InR (w.take i) n) (fun i => w.length - i) ⟨0, ⟨Nat.zero_le _, nofun⟩, ?_⟩ ?_
  · (refine Weak.slots (allP ?_) (fun k0 b0 hb0 => by first | exact hb0 | (have hk1 := (hmen k0 b0 hb0).1; simp only [upd, mkH]; (repeat rw [if_neg (by omega)]); exact hb0)) (by omega) hmen; simp -implicitDefEqProofs (maxSteps := 2000000) (disch := omega) only [go_sem, simprocAttr, -List.reduceReplicate, condB_t, condB_f, AllP, AVle_same, AVle_int, AVle_nil, AVle_row, topU_int, topU_bool, topU_sl, topU_row, topU_ptr, topU_iptr, topU_fn, val, List.drop_length])
  · rintro i ⟨hi, hr⟩
    by_cases h0 : i < w.length
    · have g1 := cE_get h0
      have mx := memV h0
      have ts := take_snocV h0
      have hnz := hc.nz _ mx
      have cs := r3sign_spec (canon (w.getD i default).2) k (canon_ok (hz _ mx)) hk
      rw [canon_val] at cs
      have hs : sgnR (w.getD i default).2 ≠ 0 := fun h => hnz (sgnR_zero.1 h)
      unfold Raw.cells nl at cs
      have hno : ¬ (0 ≤ (w.getD i default).1 ∧ (w.getD i default).1 < n) → ¬ InR w n := fun hn h => hn (h _ mx)
      have hyes : 0 ≤ (w.getD i default).1 ∧ (w.getD i default).1 < n → InR (w.take (i + 1)) n := fun h e he => by
        rw [ts] at he
        rcases List.mem_append.1 he with he | he
        · exact hr e he
        · rw [List.mem_singleton.1 he]; exact h
      have hasc := fun h1 => can_step hc h0 h1
      by_cases h1 : (w.getD i default).1 < 0
      · rw [decide_eq_false (hno fun h => by omega)]
        simp -implicitDefEqProofs (maxSteps := 2000000) (disch := omega) only [go_sem, simprocAttr, -List.reduceReplicate, condB_t, condB_f, g1]
        exact dn
      · by_cases h2 : n ≤ (w.getD i default).1
        · rw [decide_eq_false (hno fun h => by omega)]
          simp -implicitDefEqProofs (maxSteps := 2000000) (disch := omega) only [go_sem, simprocAttr, -List.reduceReplicate, condB_t, condB_f, g1]
          exact dn
        · by_cases h3 : 0 < i
          · have h4 := hasc h3
            have g2 := cE_get (v := w) (i := i - 1) (by omega)
            simp -implicitDefEqProofs (maxSteps := 2000000) (disch := omega) only [go_sem, simprocAttr, -List.reduceReplicate, condB_t, condB_f, g1, g2]
            refine pcallK_pure cs ?_
            simp -implicitDefEqProofs (maxSteps := 2000000) (disch := omega) only [go_sem, simprocAttr, -List.reduceReplicate, condB_t, condB_f]
            exact ⟨i + 1, ⟨h0, hyes (by omega)⟩, by omega, by (refine Weak.slots (allP ?_) (fun k0 b0 hb0 => by first | exact hb0 | (have hk1 := (hmen k0 b0 hb0).1; simp only [upd, mkH]; (repeat rw [if_neg (by omega)]); exact hb0)) (by omega) hmen; simp -implicitDefEqProofs (maxSteps := 2000000) (disch := omega) only [go_sem, simprocAttr, -List.reduceReplicate, condB_t, condB_f, AllP, AVle_same, AVle_int, AVle_nil, AVle_row, topU_int, topU_bool, topU_sl, topU_row, topU_ptr, topU_iptr, topU_fn, val, List.drop_length])⟩
          · simp -implicitDefEqProofs (maxSteps := 2000000) (disch := omega) only [go_sem, simprocAttr, -List.reduceReplicate, condB_t, condB_f, g1]
            refine pcallK_pure cs ?_
            simp -implicitDefEqProofs (maxSteps := 2000000) (disch := omega) only [go_sem, simprocAttr, -List.reduceReplicate, condB_t, condB_f]
            exact ⟨i + 1, ⟨h0, hyes (by omega)⟩, by omega, by (refine Weak.slots (allP ?_) (fun k0 b0 hb0 => by first | exact hb0 | (have hk1 := (hmen k0 b0 hb0).1; simp only [upd, mkH]; (repeat rw [if_neg (by omega)]); exact hb0)) (by omega) hmen; simp -implicitDefEqProofs (maxSteps := 2000000) (disch := omega) only [go_sem, simprocAttr, -List.reduceReplicate, condB_t, condB_f, AllP, AVle_same, AVle_int, AVle_nil, AVle_row, topU_int, topU_bool, topU_sl, topU_row, topU_ptr, topU_iptr, topU_fn, val, List.drop_length])⟩
    · obtain rfl : i = w.length := by omega
      rw [List.take_of_length_le (Nat.le_refl _)] at hr
      rw [decide_eq_true hr]
      simp -implicitDefEqProofs (maxSteps := 2000000) (disch := omega) only [go_sem, simprocAttr, -List.reduceReplicate, condB_t, condB_f]
      exact dn
theorem rperm_spec (p : List Int) (hl : p.length ≤ 1099511627776) : PDet Tryz.prog 27 [IL p] (.bool (decide (PermL p))) := by
  refine pdet_of E0ok mixed Tryz.func27 (by kernel_rfl) rfl (by kernel_rfl) (Nat.le_of_ble_eq_true rfl) fun N0 h hn hmen => ?_
  unfold IL
  simp -implicitDefEqProofs (maxSteps := 2000000) (disch := omega) only [go_sem, simprocAttr, -List.reduceReplicate, condB_t, condB_f]
  refine aw_loop (X := Nat) (fun i => ⟨mkS [(0, .sl 1 (p.map intC)), (3, .int .i64 i)], h, N0⟩) (fun i => i ≤ p.length ∧ (∀ x ∈ p.take i, 0 ≤ x ∧ x < p.length) ∧ (p.take i).Nodup) (fun i => p.length - i) ⟨0, ⟨Nat.zero_le _, nofun, .nil⟩, ?_⟩ ?_
  · (refine Weak.slots (allP ?_) (fun k0 b0 hb0 => by first | exact hb0 | (have hk1 := (hmen k0 b0 hb0).1; simp only [upd, mkH]; (repeat rw [if_neg (by omega)]); exact hb0)) (by omega) hmen; simp -implicitDefEqProofs (maxSteps := 2000000) (disch := omega) only [go_sem, simprocAttr, -List.reduceReplicate, condB_t, condB_f, AllP, AVle_same, AVle_int, AVle_nil, AVle_row, topU_int, topU_bool, topU_sl, topU_row, topU_ptr, topU_iptr, topU_fn, val, List.drop_length])
  · rintro i ⟨hi, hr, hd⟩
    by_cases h0 : i < p.length
    · have ht : p.take (i + 1) = p.take i ++ [p.getD i 0] := by rw [List.take_add_one, List.getElem?_eq_getElem h0, List.getD_eq_getElem?_getD, List.getElem?_eq_getElem h0]; rfl
      have hm : p.getD i 0 ∈ p := by rw [List.getD_eq_getElem?_getD, List.getElem?_eq_getElem h0]; exact List.getElem_mem _
      have hsub : (p.take i ++ [p.getD i 0]).Sublist p := by rw [← ht]; exact List.take_sublist _ _
      obtain ⟨x, hxx⟩ : ∃ x, p.getD i 0 = x := ⟨_, rfl⟩
      rw [hxx] at ht hm hsub
      by_cases h1 : x < 0
      · rw [decide_eq_false (fun hp : PermL p => by have := (hp.1 x hm).1; omega)]
        simp -implicitDefEqProofs (maxSteps := 2000000) (disch := omega) only [go_sem, simprocAttr, -List.reduceReplicate, condB_t, condB_f, hxx]
        exact dn
      · by_cases h2 : p.length ≤ x
        · rw [decide_eq_false (fun hp : PermL p => by have := (hp.1 x hm).2; omega)]
          simp -implicitDefEqProofs (maxSteps := 2000000) (disch := omega) only [go_sem, simprocAttr, -List.reduceReplicate, condB_t, condB_f, hxx]
          exact dn
        · simp -implicitDefEqProofs (maxSteps := 2000000) (disch := omega) only [go_sem, simprocAttr, -List.reduceReplicate, condB_t, condB_f, hxx]
          refine aw_loop (X := Nat) (fun q => ⟨mkS [(0, .sl 1 (p.map intC)), (3, .int .i64 i), (4, .int .i64 q)], h, N0⟩) (fun q => q ≤ i ∧ x ∉ p.take q) (fun q => i - q) ⟨0, ⟨Nat.zero_le _, nofun⟩, ?_⟩ ?_
          · (refine Weak.slots (allP ?_) (fun k0 b0 hb0 => by first | exact hb0 | (have hk1 := (hmen k0 b0 hb0).1; simp only [upd, mkH]; (repeat rw [if_neg (by omega)]); exact hb0)) (by omega) hmen; simp -implicitDefEqProofs (maxSteps := 2000000) (disch := omega) only [go_sem, simprocAttr, -List.reduceReplicate, condB_t, condB_f, AllP, AVle_same, AVle_int, AVle_nil, AVle_row, topU_int, topU_bool, topU_sl, topU_row, topU_ptr, topU_iptr, topU_fn, val, List.drop_length])
          · rintro q ⟨hq, hnx⟩
            by_cases h3 : q < i
            · have tq : p.take (q + 1) = p.take q ++ [p.getD q 0] := by rw [List.take_add_one, List.getElem?_eq_getElem (by omega), List.getD_eq_getElem?_getD, List.getElem?_eq_getElem (by omega)]; rfl
              obtain ⟨y, hy⟩ : ∃ y, p.getD q 0 = y := ⟨_, rfl⟩
              rw [hy] at tq
              by_cases h4 : y = x
              · have hin : x ∈ p.take i := by
                  have : p.take (q + 1) ⊆ p.take i := (List.take_sublist_take_left (by omega)).subset
                  refine this ?_
                  rw [tq, h4]; simp
                rw [decide_eq_false (fun hp : PermL p => by
                  have := hp.2.sublist hsub
                  rw [List.nodup_append] at this
                  exact this.2.2 x hin x (by simp) rfl)]
                simp -implicitDefEqProofs (maxSteps := 2000000) (disch := omega) only [go_sem, simprocAttr, -List.reduceReplicate, condB_t, condB_f, hxx, hy]
                exact dn
              · simp -implicitDefEqProofs (maxSteps := 2000000) (disch := omega) only [go_sem, simprocAttr, -List.reduceReplicate, condB_t, condB_f, hxx, hy]
                exact ⟨q + 1, ⟨h3, by rw [tq]; intro hh; rcases List.mem_append.1 hh with hh | hh; exact hnx hh; exact h4 (List.mem_singleton.1 hh).symm⟩, by omega, by (refine Weak.slots (allP ?_) (fun k0 b0 hb0 => by first | exact hb0 | (have hk1 := (hmen k0 b0 hb0).1; simp only [upd, mkH]; (repeat rw [if_neg (by omega)]); exact hb0)) (by omega) hmen; simp -implicitDefEqProofs (maxSteps := 2000000) (disch := omega) only [go_sem, simprocAttr, -List.reduceReplicate, condB_t, condB_f, AllP, AVle_same, AVle_int, AVle_nil, AVle_row, topU_int, topU_bool, topU_sl, topU_row, topU_ptr, topU_iptr, topU_fn, val, List.drop_length])⟩
            · obtain rfl : q = i := by omega
              simp -implicitDefEqProofs (maxSteps := 2000000) (disch := omega) only [go_sem, simprocAttr, -List.reduceReplicate, condB_t, condB_f]
              exact ⟨q + 1, ⟨h0, by rw [ht]; intro y hy; rcases List.mem_append.1 hy with hy | hy; exact hr y hy; rw [List.mem_singleton.1 hy]; omega, by
                rw [ht, List.nodup_append]; exact ⟨hd, by simp, fun a ha b hb => by rw [List.mem_singleton.1 hb]; exact fun e => hnx (e ▸ ha)⟩⟩, by omega, by (refine Weak.slots (allP ?_) (fun k0 b0 hb0 => by first | exact hb0 | (have hk1 := (hmen k0 b0 hb0).1; simp only [upd, mkH]; (repeat rw [if_neg (by omega)]); exact hb0)) (by omega) hmen; simp -implicitDefEqProofs (maxSteps := 2000000) (disch := omega) only [go_sem, simprocAttr, -List.reduceReplicate, condB_t, condB_f, AllP, AVle_same, AVle_int, AVle_nil, AVle_row, topU_int, topU_bool, topU_sl, topU_row, topU_ptr, topU_iptr, topU_fn, val, List.drop_length])⟩
    · obtain rfl : i = p.length := by omega
      rw [List.take_of_length_le (Nat.le_refl _)] at hr hd
      rw [decide_eq_true (show PermL p from ⟨hr, hd⟩)]
      simp -implicitDefEqProofs (maxSteps := 2000000) (disch := omega) only [go_sem, simprocAttr, -List.reduceReplicate, condB_t, condB_f]
      exact dn
theorem pqL_succ {p : List Int} {w : Vec} {i : Nat} (h : i < w.length) : cE ((w.take (i + 1)).map (pq p)) = cE ((w.take i).map (pq p)) ++ [(p.getD (w.getD i default).1.toNat 0, Raw.mk (canon (w.getD i default).2).s (canon (w.getD i default).2).m (canon (w.getD i default).2).d)] := by
  rw [take_snocV h, List.map_append]
  unfold cE
  rw [List.map_append]; rfl
theorem rpermute_spec (v : List Ent) (p : List Int) (k : Nat) (hk : OkL v k) (hk1 : 1 ≤ k) (hkb : k ≤ 1100000) (hl : v.length ≤ 40) (hp : p.length ≤ 1099511627776) :
    PDet Tryz.prog 11 [EL v, IL p] (.tup [EL (pmOut p (vcan (eV v))), .bool (decide (PmOk p (vcan (eV v))))]) := by
  refine pdet_of E0ok mixed Tryz.func11 (by kernel_rfl) rfl (by kernel_rfl) (Nat.le_of_ble_eq_true rfl) fun N0 h hn hmen => ?_
  have hm : v.length * (k + 1) ≤ 40 * (k + 1) := Nat.mul_le_mul_right _ hl
  have c1 := rvnorm_spec v k hk hk1 (by omega) (by omega)
  have hz := vcan_sz (eV_sz hk hk1) (n := 40) (by rw [eV_len]; exact hl)
  have hwl : (vcan (eV v)).length ≤ 40 := Nat.le_trans (vcan_len _) (by rw [eV_len]; exact hl)
  have hcan := vcan_can (eV v)
  generalize vcan (eV v) = w at *
  have c2 := rperm_spec p hp
  have c3 := rvalid_spec w p.length _ hcan hz (by omega) (by omega)
  have cl := cE_len w
  have hK : OkL (cE (w.map (pq p))) (1 + 40 * (k + 1)) := cE_ok fun e he => by
    obtain ⟨x, hx, rfl⟩ := List.mem_map.1 he
    exact hz x hx
  have lw : (cE (w.map (pq p))).length = w.length := by rw [cE_len, List.length_map]
  have hm2 : (cE (w.map (pq p))).length * (1 + 40 * (k + 1) + 1) ≤ 40 * (1 + 40 * (k + 1) + 1) := Nat.mul_le_mul_right _ (by omega)
  have c4 := rvnorm_spec (cE (w.map (pq p))) _ hK (by omega) (by omega) (by omega)
  rw [eV_cE] at c4
  unfold EL IL at *
  simp -implicitDefEqProofs (maxSteps := 2000000) (disch := omega) only [go_sem, simprocAttr, -List.reduceReplicate, condB_t, condB_f]
  refine callK_pure c1 ?_
  simp -implicitDefEqProofs (maxSteps := 2000000) (disch := omega) only [go_sem, simprocAttr, -List.reduceReplicate, condB_t, condB_f]
  refine callK_pure c2 ?_
  by_cases h1 : PermL p
  · rw [decide_eq_true h1]
    by_cases h2 : InR w p.length
    · have hyes : PmOk p w := ⟨h1, h2⟩
      rw [decide_eq_true hyes, pmOut_eq hyes]
      rw [decide_eq_true h2] at c3
      simp -implicitDefEqProofs (maxSteps := 2000000) (disch := omega) only [go_sem, simprocAttr, -List.reduceReplicate, condB_t, condB_f]
      refine callK_pure c3 ?_
      simp -implicitDefEqProofs (maxSteps := 2000000) (disch := omega) only [go_sem, simprocAttr, -List.reduceReplicate, condB_t, condB_f]
      refine aw_weak (Weak.nilRow (t := 6) (sz := 4) (id := N0 + 136) (by omega) (by omega) (by simp -implicitDefEqProofs (maxSteps := 2000000) (disch := omega) only [go_sem, simprocAttr, -List.reduceReplicate, condB_t, condB_f])) ?_
      obtain ⟨id, hid⟩ : ∃ id, id = N0 + 136 := ⟨_, rfl⟩
      rw [← hid]
      refine aw_loop (X := Nat) (fun i => ⟨mkS [(0, .sl 4 ((cE w).map entC)), (1, .sl 1 (p.map intC)), (6, .row id i 0 i), (7, .int .i64 i)], mkH h [(id, ⟨4, (cE ((w.take i).map (pq p))).map entC⟩)], id + 8⟩) (fun i => i ≤ w.length) (fun i => w.length - i) ⟨0, Nat.zero_le _, ?_⟩ ?_
      · simp only [show cE ((w.take 0).map (pq p)) = [] from rfl]
        (refine Weak.head1w (by simp -implicitDefEqProofs (maxSteps := 2000000) (disch := omega) only [go_sem, simprocAttr, -List.reduceReplicate, condB_t, condB_f] <;> (try rfl)) (by omega) (mapU _ _ _) (fun k0 b0 hk0 hb0 => by have hk1 : (k0 = _) = False := eq_false hk0; have hk2 := (hmen k0 b0 hb0).1; (simp -implicitDefEqProofs (maxSteps := 2000000) (disch := omega) only [go_sem, simprocAttr, -List.reduceReplicate, condB_t, condB_f, upd, mkH, hk1]) <;> (try (repeat rw [if_neg (by omega)])) <;> exact hb0) (by omega) hmen ?_; simp -implicitDefEqProofs (maxSteps := 2000000) (disch := omega) only [go_sem, simprocAttr, -List.reduceReplicate, condB_t, condB_f, AllP, AVle_same, AVle_int, AVle_nil, AVle_row, topU_int, topU_bool, topU_sl, topU_row, topU_ptr, topU_iptr, topU_fn, val, List.drop_length])
      · intro i hi
        have hel : (cE ((w.take i).map (pq p))).length = i := by rw [cE_len, List.length_map, List.length_take]; omega
        by_cases h0 : i < w.length
        · have g1 := cE_get h0
          have e := pqL_succ (p := p) h0
          have hin := h2 _ (memV h0)
          generalize w.getD i default = x at *
          simp -implicitDefEqProofs (maxSteps := 2000000) (disch := omega) only [go_sem, simprocAttr, -List.reduceReplicate, condB_t, condB_f, g1, hel]
          exact ⟨i + 1, h0, by omega, by (refine Weak.head1w (by simp -implicitDefEqProofs (maxSteps := 2000000) (disch := omega) only [go_sem, simprocAttr, -List.reduceReplicate, condB_t, condB_f, g1, hel, e] <;> (try rfl)) (by omega) (mapU _ _ _) (fun k0 b0 hk0 hb0 => by have hk1 : (k0 = _) = False := eq_false hk0; have hk2 := (hmen k0 b0 hb0).1; (simp -implicitDefEqProofs (maxSteps := 2000000) (disch := omega) only [go_sem, simprocAttr, -List.reduceReplicate, condB_t, condB_f, upd, mkH, hk1]) <;> (try (repeat rw [if_neg (by omega)])) <;> exact hb0) (by omega) hmen ?_; simp -implicitDefEqProofs (maxSteps := 2000000) (disch := omega) only [go_sem, simprocAttr, -List.reduceReplicate, condB_t, condB_f, AllP, AVle_same, AVle_int, AVle_nil, AVle_row, topU_int, topU_bool, topU_sl, topU_row, topU_ptr, topU_iptr, topU_fn, val, List.drop_length, g1, hel, e])⟩
        · obtain rfl : i = w.length := by omega
          rw [List.take_of_length_le (Nat.le_refl _)] at hel ⊢
          simp -implicitDefEqProofs (maxSteps := 2000000) (disch := omega) only [go_sem, simprocAttr, -List.reduceReplicate, condB_t, condB_f]
          refine callK_row c4 (by simp -implicitDefEqProofs (maxSteps := 2000000) (disch := omega) only [go_sem, simprocAttr, -List.reduceReplicate, condB_t, condB_f] <;> rfl) (by simp [cE_len]) (by omega) (List.take_of_length_le (by simp [cE_len])) (mapP _) ?_
          simp -implicitDefEqProofs (maxSteps := 2000000) (disch := omega) only [go_sem, simprocAttr, -List.reduceReplicate, condB_t, condB_f]
          exact dn
    · have hno : ¬ PmOk p w := fun h => h2 h.2
      have e : pmOut p w = [] := by unfold pmOut; rw [if_neg hno]
      rw [decide_eq_false hno, e]
      rw [decide_eq_false h2] at c3
      simp -implicitDefEqProofs (maxSteps := 2000000) (disch := omega) only [go_sem, simprocAttr, -List.reduceReplicate, condB_t, condB_f]
      refine callK_pure c3 ?_
      simp -implicitDefEqProofs (maxSteps := 2000000) (disch := omega) only [go_sem, simprocAttr, -List.reduceReplicate, condB_t, condB_f]
      exact dn
  · have hno : ¬ PmOk p w := fun h => h1 h.1
    have e : pmOut p w = [] := by unfold pmOut; rw [if_neg hno]
    rw [decide_eq_false h1, decide_eq_false hno, e]
    simp -implicitDefEqProofs (maxSteps := 2000000) (disch := omega) only [go_sem, simprocAttr, -List.reduceReplicate, condB_t, condB_f]
    exact dn
end Go.Abs
/-! YtzLaw9: VectorPermutes returns true for numbers of at most 1048576 limbs. -/
set_option linter.unusedVariables false
set_option linter.unusedSimpArgs false
set_option maxRecDepth 100000
set_option maxHeartbeats 1000000
namespace Go.Abs
open Go.Proofs
@[go_sem] theorem R6 : Tryz.f6.results.toList = [.tmp 4] := rfl
@[go_sem] theorem R3 : Tryz.f3.results.toList = [.tmp 6] := rfl
theorem firstI_spec (l : List Int) (n : Nat) (hl : l.length ≤ 1099511627776) (hn' : n ≤ 1099511627776) : PDet Tryz.prog 6 [IL l, .int .i64 n] (IL (l.take n)) := by
  refine pdet_of E0ok mixed Tryz.func6 (by kernel_rfl) rfl (by kernel_rfl) (Nat.le_of_ble_eq_true rfl) fun N0 h hn hmen => ?_
  unfold IL
  by_cases h0 : n < l.length
  · simp -implicitDefEqProofs (maxSteps := 2000000) (disch := omega) only [go_sem, simprocAttr, -List.reduceReplicate, condB_t, condB_f]
    exact dn
  · rw [List.take_of_length_le (by omega)]
    simp -implicitDefEqProofs (maxSteps := 2000000) (disch := omega) only [go_sem, simprocAttr, -List.reduceReplicate, condB_t, condB_f]
    exact dn
theorem pmOut_cE (p : List Int) (w : Vec) (K : Nat) (hz : ∀ e ∈ w, Sz e.2 K) (hl : w.length ≤ 40) : ∃ u, pmOut p w = cE u ∧ (∀ e ∈ u, Sz e.2 (1 + 40 * (K + 1))) ∧ u.length ≤ 40 := by
  by_cases h : PmOk p w
  · refine ⟨_, pmOut_eq h, vcan_sz (k := K) (fun e he => ?_) (by rw [List.length_map]; exact hl), Nat.le_trans (vcan_len _) (by rw [List.length_map]; exact hl)⟩
    obtain ⟨x, hx, rfl⟩ := List.mem_map.1 he
    exact hz x hx
  · exact ⟨[], by unfold pmOut; rw [if_neg h]; rfl, nofun, Nat.zero_le _⟩
theorem permutes_spec (v : List Ent) (p c : List Int) (k : Nat) (hv : OkL v k) (hk1 : 1 ≤ k) (hk : k ≤ 1048576) (hlv : v.length ≤ 1099511627776) (hlp : p.length ≤ 1099511627776) (hlc : c.length ≤ 1099511627776) :
    PDet Tryz.prog 3 [EL v, IL p, IL c] (.bool true) := by
  refine pdet_of E0ok mixed Tryz.func3 (by kernel_rfl) rfl (by kernel_rfl) (Nat.le_of_ble_eq_true rfl) fun N0 h hn hmen => ?_
  have s1 := lshort_spec v hlv
  have f1 := firstI_spec p 40 hlp (by omega)
  have aw0 := awake_spec
  have ov := shL_ok hv
  have lv := shL_le v
  generalize shL v = V at *
  have m1 : V.length * (k + 1) ≤ 40 * (k + 1) := Nat.mul_le_mul_right _ lv
  have hz := vcan_sz (eV_sz ov hk1) (n := 40) (by rw [eV_len]; exact lv)
  have hwl : (vcan (eV V)).length ≤ 40 := Nat.le_trans (vcan_len _) (by rw [eV_len]; exact lv)
  have cp := fun q (hq : q.length ≤ 1099511627776) => permute_spec V q k ov hk1 lv (by omega) hq
  have cr := fun q (hq : q.length ≤ 1099511627776) => rpermute_spec V q k ov hk1 (by omega) lv hq
  have cu := fun q => pmOut_cE q (vcan (eV V)) _ hz hwl
  have ci := fun u (h1 : ∀ e ∈ u, Sz e.2 (1 + 40 * (1 + 40 * (k + 1) + 1))) (h2 : u.length ≤ 40) => identical_spec u u _ _ h1 h1 (by omega) (by omega) (by omega) (by omega)
  generalize vcan (eV V) = w at *
  have n1 := fun h m => tapeNew_new c h m
  have lp1 : (p.take 40).length ≤ 40 := by rw [List.length_take]; omega
  generalize p.take 40 = P at *
  have tl := tapeN_lt c 0 10 (by omega)
  have n2 := fun hh id m hid => tapeNext_spec c 0 10 (Nat.zero_le _) hlc (by omega) (by omega) hh id m hid
  obtain ⟨i0, hi0, hi1⟩ : ∃ i0, i0 = (if 0 < c.length then 0 + 1 else 0) ∧ i0 ≤ c.length := ⟨_, rfl, by split <;> omega⟩
  rw [← hi0] at n2
  obtain ⟨n, hnn⟩ : ∃ n, n = tapeN c 0 10 := ⟨_, rfl⟩
  rw [← hnn] at n2 tl
  have n3 := fun hh id m hid => tapePerm_spec c i0 n hi1 hlc (by omega) hh id m hid
  have lq1 := permT_len c i0 n
  generalize permT c i0 n = Q at *
  unfold EL IL at *
  simp -implicitDefEqProofs (maxSteps := 2000000) (disch := omega) only [go_sem, simprocAttr, -List.reduceReplicate, condB_t, condB_f]
  refine callK_pure s1 ?_
  simp -implicitDefEqProofs (maxSteps := 2000000) (disch := omega) only [go_sem, simprocAttr, -List.reduceReplicate, condB_t, condB_f]
  refine callK_pure f1 ?_
  simp -implicitDefEqProofs (maxSteps := 2000000) (disch := omega) only [go_sem, simprocAttr, -List.reduceReplicate, condB_t, condB_f]
  refine callK_of (n1 _ _) ?_
  simp -implicitDefEqProofs (maxSteps := 2000000) (disch := omega) only [go_sem, simprocAttr, -List.reduceReplicate, condB_t, condB_f]
  refine callK_of (n2 _ _ _ (by simp -implicitDefEqProofs (maxSteps := 2000000) (disch := omega) only [go_sem, simprocAttr, -List.reduceReplicate, condB_t, condB_f] <;> rfl)) ?_
  simp -implicitDefEqProofs (maxSteps := 2000000) (disch := omega) only [go_sem, simprocAttr, -List.reduceReplicate, condB_t, condB_f]
  refine callK_of (n3 _ _ _ (by simp -implicitDefEqProofs (maxSteps := 2000000) (disch := omega) only [go_sem, simprocAttr, -List.reduceReplicate, condB_t, condB_f] <;> rfl)) ?_
  simp -implicitDefEqProofs (maxSteps := 2000000) (disch := omega) only [go_sem, simprocAttr, -List.reduceReplicate, condB_t, condB_f]
  obtain ⟨R, hR⟩ : ∃ R : List (List AV), R = [[.sl 1 (P.map intC)], [.sl 1 (Q.map intC)]] := ⟨_, rfl⟩
  rw [← hR]
  have hRl : R.length = 2 := by rw [hR]; rfl
  have hRg : ∀ i, i < 2 → ∃ q : List Int, R.getD i [] = [.sl 1 (q.map intC)] ∧ q.length ≤ 40 := fun i hi => by
    match i, hi with
    | 0, _ => exact ⟨P, by rw [hR]; rfl, lp1⟩
    | 1, _ => exact ⟨Q, by rw [hR]; rfl, by omega⟩
  have hlf : ∀ U, ∀ r ∈ R, ∀ a ∈ r, leafU U a := fun U r hr a ha => by
    rw [hR] at hr
    rcases List.mem_cons.1 hr with rfl | hr
    · rw [List.mem_singleton.1 ha]; trivial
    · rw [List.mem_singleton.1 hr] at ha; rw [List.mem_singleton.1 ha]; trivial
  clear hR n1 n2 n3 s1 f1
  obtain ⟨id, hid⟩ : ∃ id, id = N0 + 120 := ⟨_, rfl⟩
  rw [← hid]
  refine aw_loop (X := Nat) (fun i => ⟨mkS [(0, .sl 4 (V.map entC)), (25, .row id 2 0 2), (26, .int .i64 2), (27, .int .i64 i)], mkH h [(id, ⟨1, R⟩)], id + 8⟩) (fun i => i ≤ 2) (fun i => 2 - i) ⟨0, Nat.zero_le _, ?_⟩ ?_
  · refine Weak.head1w (by simp -implicitDefEqProofs (maxSteps := 2000000) (disch := omega) only [go_sem, simprocAttr, -List.reduceReplicate, condB_t, condB_f]) (by omega) (hlf _) (fun k0 b0 hk0 hb0 => by have hk2 := (hmen k0 b0 hb0).1; simp only [upd, if_neg hk0]; (repeat rw [if_neg (by omega)]); exact hb0) (by omega) hmen ?_
    simp -implicitDefEqProofs (maxSteps := 2000000) (disch := omega) only [go_sem, simprocAttr, -List.reduceReplicate, condB_t, condB_f, AllP, AVle_same, AVle_int, AVle_nil, AVle_row, topU_int, topU_bool, topU_sl, topU_row, topU_ptr, topU_iptr, topU_fn, val, List.drop_length]
  · intro i hi
    by_cases h0 : i < 2
    · obtain ⟨q, hq, lq⟩ := hRg i h0
      obtain ⟨u, hu, zu, lu⟩ := cu q
      have cp := cp q (by omega)
      have cr := cr q (by omega)
      have ci := ci u zu lu
      rw [hu] at cp cr
      rw [decide_eq_true rfl] at ci
      generalize decide (PmOk q w) = b at *
      simp -implicitDefEqProofs (maxSteps := 2000000) (disch := omega) only [go_sem, simprocAttr, -List.reduceReplicate, condB_t, condB_f, hq, hRl]
      refine callK_pure cp ?_
      simp -implicitDefEqProofs (maxSteps := 2000000) (disch := omega) only [go_sem, simprocAttr, -List.reduceReplicate, condB_t, condB_f]
      refine callK_pure cr ?_
      cases b
      · simp -implicitDefEqProofs (maxSteps := 2000000) (disch := omega) only [go_sem, simprocAttr, -List.reduceReplicate, condB_t, condB_f]
        refine callK_pure ci ?_
        simp -implicitDefEqProofs (maxSteps := 2000000) (disch := omega) only [go_sem, simprocAttr, -List.reduceReplicate, condB_t, condB_f]
        refine ⟨i + 1, h0, by omega, ?_⟩
        refine Weak.head1w (by simp -implicitDefEqProofs (maxSteps := 2000000) (disch := omega) only [go_sem, simprocAttr, -List.reduceReplicate, condB_t, condB_f]) (by omega) (hlf _) (fun k0 b0 hk0 hb0 => by simp only [mkH, upd, if_neg hk0]; exact hb0) (by omega) hmen ?_
        simp -implicitDefEqProofs (maxSteps := 2000000) (disch := omega) only [go_sem, simprocAttr, -List.reduceReplicate, condB_t, condB_f, AllP, AVle_same, AVle_int, AVle_nil, AVle_row, topU_int, topU_bool, topU_sl, topU_row, topU_ptr, topU_iptr, topU_fn, val, List.drop_length]
      · simp -implicitDefEqProofs (maxSteps := 2000000) (disch := omega) only [go_sem, simprocAttr, -List.reduceReplicate, condB_t, condB_f]
        refine callK_pure ci ?_
        simp -implicitDefEqProofs (maxSteps := 2000000) (disch := omega) only [go_sem, simprocAttr, -List.reduceReplicate, condB_t, condB_f]
        refine ⟨i + 1, h0, by omega, ?_⟩
        refine Weak.head1w (by simp -implicitDefEqProofs (maxSteps := 2000000) (disch := omega) only [go_sem, simprocAttr, -List.reduceReplicate, condB_t, condB_f]) (by omega) (hlf _) (fun k0 b0 hk0 hb0 => by simp only [mkH, upd, if_neg hk0]; exact hb0) (by omega) hmen ?_
        simp -implicitDefEqProofs (maxSteps := 2000000) (disch := omega) only [go_sem, simprocAttr, -List.reduceReplicate, condB_t, condB_f, AllP, AVle_same, AVle_int, AVle_nil, AVle_row, topU_int, topU_bool, topU_sl, topU_row, topU_ptr, topU_iptr, topU_fn, val, List.drop_length]
    · obtain rfl : i = 2 := by omega
      simp -implicitDefEqProofs (maxSteps := 2000000) (disch := omega) only [go_sem, simprocAttr, -List.reduceReplicate, condB_t, condB_f]
      refine callK_pure aw0 ?_
      simp -implicitDefEqProofs (maxSteps := 2000000) (disch := omega) only [go_sem, simprocAttr, -List.reduceReplicate, condB_t, condB_f]
      exact dn
end Go.Abs
/-! YtzDen1: Dense lists of vectors. No condition. -/
set_option linter.unusedVariables false
set_option linter.unusedSimpArgs false
set_option maxRecDepth 100000
set_option maxHeartbeats 1000000
namespace Go.Abs
open Go.Proofs
@[go_sem] theorem R15 : Tryz.f15.results.toList = [.tmp 4, .tmp 5] := rfl
def denL (w : Vec) (m : Nat) : List Raw := (List.range m).map fun (i : Nat) => canon (vget w i)
theorem denL_len (w : Vec) (m : Nat) : (denL w m).length = m := by simp [denL]
theorem denL_get (w : Vec) {m i : Nat} (h : i < m) : (denL w m)[i]? = some (canon (vget w i)) := by unfold denL; rw [List.getElem?_map, List.getElem?_range h]; rfl
def blankR : List AV := [.bool false, .nil, .nil]
def dR (w : Vec) (n i : Nat) : List (List AV) := (denL w i).map ratC ++ List.replicate (n - i) [.bool false, .nil, .nil]
theorem dR_len {w : Vec} {n i : Nat} (h : i ≤ n) : (dR w n i).length = n := by unfold dR; simp [denL_len]; omega
theorem dR_zero (w : Vec) (n : Nat) : dR w n 0 = List.replicate n [.bool false, .nil, .nil] := by unfold dR denL; simp
theorem dR_all (w : Vec) (n : Nat) : dR w n n = (denL w n).map ratC := by unfold dR; simp
theorem dR_get {w : Vec} {n i : Nat} (h : i < n) : (dR w n i).getD i [] = [.bool false, .nil, .nil] := by
  have hl : ((denL w i).map ratC).length = i := by rw [List.length_map, denL_len]
  unfold dR
  rw [List.getD_eq_getElem?_getD, List.getElem?_append_right (by omega), hl, Nat.sub_self, List.getElem?_replicate, if_pos (by omega)]; rfl
theorem dR_set {w : Vec} {n i : Nat} (h : i < n) : (dR w n i).set i [.bool (canon (vget w i)).s, .sl 1 (numL (canon (vget w i)).m), .sl 1 (numL (canon (vget w i)).d)] = dR w n (i + 1) := by
  have hl : ((denL w i).map ratC).length = i := by rw [List.length_map, denL_len]
  obtain ⟨r, hr⟩ : ∃ r, n - i = r + 1 := ⟨n - i - 1, by omega⟩
  have hr2 : n - (i + 1) = r := by omega
  unfold dR
  rw [List.set_append_right _ _ (by omega), hl, Nat.sub_self, hr, hr2, List.replicate_succ, List.set_cons_zero]
  unfold denL
  rw [List.range_succ, List.map_append, List.map_append, List.append_assoc]; rfl
theorem dR_leaf {w : Vec} {n i : Nat} {U : Nat → Prop} : ∀ r ∈ dR w n i, ∀ a ∈ r, leafU U a := fun r hr a ha => by
  unfold dR at hr
  rcases List.mem_append.1 hr with hr | hr
  · exact mapU ratC _ U r hr a ha
  · rw [(List.mem_replicate.1 hr).2] at ha
    simp only [List.mem_cons, List.not_mem_nil, or_false] at ha
    rcases ha with rfl | rfl | rfl <;> trivial
theorem denL_set {u : Vec} {e : Int} {q : Rat} {m : Nat} (h0 : 0 ≤ e) (h1 : e < m) (hz : vget u e = 0) : (denL u m).set e.toNat (canon q) = denL (u ++ [(e, q)]) m := by
  refine List.ext_getElem? fun j => ?_
  rw [List.getElem?_set, denL_len]
  by_cases hj : j < m
  · rw [denL_get _ hj, denL_get _ hj, vget_append]
    simp only [vget]
    by_cases he : e.toNat = j
    · rw [if_pos he, if_pos (by omega), show ((j : Nat) : Int) = e by omega, hz, if_pos rfl]
      congr 2; grind
    · rw [if_neg he, if_neg (by omega)]
      congr 2; grind
  · rw [List.getElem?_eq_none (by rw [denL_len]; omega), List.getElem?_eq_none (by rw [denL_len]; omega)]
    split
    · rw [if_neg (by omega)]
    · rfl
def DOk (n : Int) (w : Vec) : Prop := 0 ≤ n ∧ n ≤ 16384 ∧ InR w n
instance (n : Int) (w : Vec) : Decidable (DOk n w) := by unfold DOk; infer_instance
def denO (n : Int) (w : Vec) : List Raw := if DOk n w then denL w n.toNat else []
theorem eV_getV {S : List Ent} {i : Nat} (h : i < S.length) : (eV S).getD i default = ((S.getD i default).1, (S.getD i default).2.val) := by
  unfold eV
  rw [List.getD_eq_getElem?_getD, List.getElem?_map, List.getD_eq_getElem?_getD, List.getElem?_eq_getElem h]; rfl
theorem vdense_spec (v S : List Ent) (n : Int) (K : Nat) (hs : PDet Tryz.prog 25 [EL v] (EL S)) (hc : Can (eV S)) (hS : OkL S K) (hK : K ≤ 1099511627776) (hl : S.length ≤ 1099511627776) :
    PDet Tryz.prog 15 [EL v, .int .i64 n] (.tup [QL (denO n (eV S)), .bool (decide (DOk n (eV S)))]) := by
  refine pdet_of E0ok mixed Tryz.func15 (by kernel_rfl) rfl (by kernel_rfl) (Nat.le_of_ble_eq_true rfl) fun N0 h hn hmen => ?_
  have lS := eV_len S
  have no : ¬ DOk n (eV S) → denO n (eV S) = [] := fun h => by unfold denO; rw [if_neg h]
  have yes : DOk n (eV S) → denO n (eV S) = denL (eV S) n.toNat := fun h => by unfold denO; rw [if_pos h]
  have cz := rfromInt_spec 0 (by decide) (by decide)
  have z0 : (((0 : Int) : Rat)) = 0 := rfl
  rw [z0] at cz
  unfold EL QL rC Raw.cells nl at *
  simp -implicitDefEqProofs (maxSteps := 2000000) (disch := omega) only [go_sem, simprocAttr, -List.reduceReplicate, condB_t, condB_f]
  refine callK_pure hs ?_
  by_cases h1 : n < 0
  · have hno : ¬ DOk n (eV S) := fun h => by have := h.1; omega
    rw [decide_eq_false hno, no hno]
    simp -implicitDefEqProofs (maxSteps := 2000000) (disch := omega) only [go_sem, simprocAttr, -List.reduceReplicate, condB_t, condB_f]
    exact dn
  by_cases h2 : 16384 < n
  · have hno : ¬ DOk n (eV S) := fun h => by have := h.2.1; omega
    rw [decide_eq_false hno, no hno]
    simp -implicitDefEqProofs (maxSteps := 2000000) (disch := omega) only [go_sem, simprocAttr, -List.reduceReplicate, condB_t, condB_f]
    exact dn
  obtain ⟨m, rfl⟩ : ∃ m : Nat, n = m := ⟨n.toNat, by omega⟩
  rw [Int.toNat_natCast] at yes
  obtain ⟨id, hid⟩ : ∃ id, id = N0 + 280 := ⟨_, rfl⟩
  by_cases h3 : InR (eV S) m
  · have hyes : DOk m (eV S) := ⟨by omega, by omega, h3⟩
    rw [decide_eq_true hyes, yes hyes]
    have hin : ∀ i, i < S.length → 0 ≤ (S.getD i default).1 ∧ (S.getD i default).1 < m := fun i hi => by
      have := h3 _ (memV (w := eV S) (i := i) (by omega))
      rw [eV_getV hi] at this; exact this
    have hlf0 : ∀ r ∈ List.replicate m [AV.bool false, .nil, .nil], ∀ a ∈ r, leafU (· < id + 8) a := by rw [← dR_zero []]; exact dR_leaf
    apply cutP
    · intro tail
      rcases Nat.eq_zero_or_pos S.length with hz | hz
      · simp -implicitDefEqProofs (maxSteps := 2000000) (disch := omega) only [go_sem, simprocAttr, -List.reduceReplicate, condB_t, condB_f]
        rw [← hid]
        refine aw_weak (Weak.head1w (id := id) (h0 := h) (nx' := id + 8) (blk := ⟨3, List.replicate m [.bool false, .nil, .nil]⟩) (l := [(6, .sl 4 (S.map entC)), (7, .row id m 0 m), (45, .int .i64 m), (46, .int .i64 0)]) (by rw [upd_same]) (by omega) hlf0 (fun k0 b0 hk0 hb0 => by simp only [upd, if_neg hk0]; exact hb0) (by omega) hmen (by simp -implicitDefEqProofs (maxSteps := 2000000) (disch := omega) only [go_sem, simprocAttr, -List.reduceReplicate, condB_t, condB_f, AllP, AVle_same, AVle_int, AVle_nil, AVle_row, topU_int, topU_bool, topU_sl, topU_row, topU_ptr, topU_iptr, topU_fn, val, List.drop_length])) tail.out
      · have hi0 := hin 0 hz
        have hi1 := hin (S.length - 1) (by omega)
        simp -implicitDefEqProofs (maxSteps := 2000000) (disch := omega) only [go_sem, simprocAttr, -List.reduceReplicate, condB_t, condB_f]
        rw [← hid]
        refine aw_weak (Weak.head1w (id := id) (h0 := h) (nx' := id + 8) (blk := ⟨3, List.replicate m [.bool false, .nil, .nil]⟩) (l := [(6, .sl 4 (S.map entC)), (7, .row id m 0 m), (45, .int .i64 m), (46, .int .i64 0)]) (by rw [upd_same]) (by omega) hlf0 (fun k0 b0 hk0 hb0 => by simp only [upd, if_neg hk0]; exact hb0) (by omega) hmen (by simp -implicitDefEqProofs (maxSteps := 2000000) (disch := omega) only [go_sem, simprocAttr, -List.reduceReplicate, condB_t, condB_f, AllP, AVle_same, AVle_int, AVle_nil, AVle_row, topU_int, topU_bool, topU_sl, topU_row, topU_ptr, topU_iptr, topU_fn, val, List.drop_length])) tail.out
    · rw [← dR_zero []]
      refine aw_loop (X := Nat) (fun i => ⟨mkS [(6, .sl 4 (S.map entC)), (7, .row id m 0 m), (45, .int .i64 m), (46, .int .i64 i)], mkH h [(id, ⟨3, dR [] m i⟩)], id + 8⟩) (fun i => i ≤ m) (fun i => m - i) ⟨0, Nat.zero_le _, Weak.refl⟩ ?_
      intro i hi
      have g1 := dR_len (w := []) hi
      by_cases h0 : i < m
      · have g2 := dR_get (w := []) h0
        have g3 := dR_set (w := []) h0
        rw [show vget [] (i : Int) = 0 from rfl] at g3
        simp -implicitDefEqProofs (maxSteps := 2000000) (disch := omega) only [go_sem, simprocAttr, -List.reduceReplicate, condB_t, condB_f, g1]
        refine callK_pure cz ?_
        simp -implicitDefEqProofs (maxSteps := 2000000) (disch := omega) only [go_sem, simprocAttr, -List.reduceReplicate, condB_t, condB_f, g1, g2, g3]
        refine ⟨i + 1, h0, by omega, ?_⟩
        refine Weak.head1w (by simp -implicitDefEqProofs (maxSteps := 2000000) (disch := omega) only [go_sem, simprocAttr, -List.reduceReplicate, condB_t, condB_f, g1, g2, g3] <;> rfl) (by omega) dR_leaf (fun k0 b0 hk0 hb0 => by simp only [upd, mkH, if_neg hk0]; exact hb0) (by omega) hmen ?_
        simp -implicitDefEqProofs (maxSteps := 2000000) (disch := omega) only [go_sem, simprocAttr, -List.reduceReplicate, condB_t, condB_f, AllP, AVle_same, AVle_int, AVle_nil, AVle_row, topU_int, topU_bool, topU_sl, topU_row, topU_ptr, topU_iptr, topU_fn, val, List.drop_length]
      · obtain rfl : m = i := by omega
        rw [dR_all]
        simp -implicitDefEqProofs (maxSteps := 2000000) (disch := omega) only [go_sem, simprocAttr, -List.reduceReplicate, condB_t, condB_f]
        refine aw_loop (X := Nat) (fun i => ⟨mkS [(7, .row id m 0 m), (54, .sl 4 (S.map entC)), (55, .int .i64 S.length), (56, .int .i64 i)], mkH h [(id, ⟨3, (denL (eV (S.take i)) m).map ratC⟩)], id + 8⟩) (fun i => i ≤ S.length) (fun i => S.length - i) ⟨0, Nat.zero_le _, ?_⟩ ?_
        · simp only [show eV (S.take 0) = [] from rfl]
          (refine Weak.head1w (by simp -implicitDefEqProofs (maxSteps := 2000000) (disch := omega) only [go_sem, simprocAttr, -List.reduceReplicate, condB_t, condB_f] <;> (try rfl)) (by omega) (mapU _ _ _) (fun k0 b0 hk0 hb0 => by have hk1 : (k0 = _) = False := eq_false hk0; have hk2 := (hmen k0 b0 hb0).1; (simp -implicitDefEqProofs (maxSteps := 2000000) (disch := omega) only [go_sem, simprocAttr, -List.reduceReplicate, condB_t, condB_f, upd, mkH, hk1]) <;> (try (repeat rw [if_neg (by omega)])) <;> exact hb0) (by omega) hmen ?_; simp -implicitDefEqProofs (maxSteps := 2000000) (disch := omega) only [go_sem, simprocAttr, -List.reduceReplicate, condB_t, condB_f, AllP, AVle_same, AVle_int, AVle_nil, AVle_row, topU_int, topU_bool, topU_sl, topU_row, topU_ptr, topU_iptr, topU_fn, val, List.drop_length])
        · intro i hi
          by_cases h0 : i < S.length
          · have hx := hS.get h0
            have cn := rnorm_spec _ K hx hK
            have hr := hin i h0
            have hz : vget (eV (S.take i)) (S.getD i default).1 = 0 := vget_out fun e he => by
              have h9 : Can (eV (S.take (i + 1))) := can_take hc (i + 1)
              rw [take_succ_getE h0, eV_append] at h9
              have := (List.pairwise_append.1 h9.asc).2.2 e he _ (List.mem_singleton_self _)
              simp only at this ⊢; omega
            have ds := denL_set (q := (S.getD i default).2.val) hr.1 hr.2 hz
            have es : eV (S.take (i + 1)) = eV (S.take i) ++ [((S.getD i default).1, (S.getD i default).2.val)] := by rw [take_succ_getE h0, eV_append]; rfl
            rw [← es] at ds
            have dl := denL_len (eV (S.take i)) m
            obtain ⟨e, he⟩ : ∃ e, S.getD i default = e := ⟨_, rfl⟩
            rw [he] at cn hr ds
            unfold rC Raw.cells nl at cn
            have ds2 : (denL (eV (S.take i)) m).set e.1.toNat ⟨(canon e.2.val).s, (canon e.2.val).m, (canon e.2.val).d⟩ = denL (eV (S.take (i + 1))) m := ds
            simp -implicitDefEqProofs (maxSteps := 2000000) (disch := omega) only [go_sem, simprocAttr, -List.reduceReplicate, condB_t, condB_f, dl, he]
            refine pcallK_pure cn ?_
            simp -implicitDefEqProofs (maxSteps := 2000000) (disch := omega) only [go_sem, simprocAttr, -List.reduceReplicate, condB_t, condB_f, dl, he]
            refine ⟨i + 1, h0, by omega, ?_⟩
            (refine Weak.head1w (by simp -implicitDefEqProofs (maxSteps := 2000000) (disch := omega) only [go_sem, simprocAttr, -List.reduceReplicate, condB_t, condB_f, dl, he, ds2] <;> (try rfl)) (by omega) (mapU _ _ _) (fun k0 b0 hk0 hb0 => by have hk1 : (k0 = _) = False := eq_false hk0; have hk2 := (hmen k0 b0 hb0).1; (simp -implicitDefEqProofs (maxSteps := 2000000) (disch := omega) only [go_sem, simprocAttr, -List.reduceReplicate, condB_t, condB_f, upd, mkH, hk1]) <;> (try (repeat rw [if_neg (by omega)])) <;> exact hb0) (by omega) hmen ?_; simp -implicitDefEqProofs (maxSteps := 2000000) (disch := omega) only [go_sem, simprocAttr, -List.reduceReplicate, condB_t, condB_f, AllP, AVle_same, AVle_int, AVle_nil, AVle_row, topU_int, topU_bool, topU_sl, topU_row, topU_ptr, topU_iptr, topU_fn, val, List.drop_length, dl, he, ds2])
          · obtain rfl : i = S.length := by omega
            rw [List.take_of_length_le (Nat.le_refl _)]
            have dl := denL_len (eV S) m
            simp -implicitDefEqProofs (maxSteps := 2000000) (disch := omega) only [go_sem, simprocAttr, -List.reduceReplicate, condB_t, condB_f]
            refine .tup2 (.leaf (Thaw.plain (rows := (denL (eV S) m).map ratC) (by simp [locH, upd, mkH]; omega) (by simp [dl]) (by omega) (List.take_of_length_le (by simp [dl])) (mapP _))) (.refl _ rfl)
  · have hno : ¬ DOk m (eV S) := fun h => h3 h.2.2
    rw [decide_eq_false hno, no hno]
    have hpos : 0 < S.length := by
      rcases Nat.eq_zero_or_pos S.length with hz | hz
      · exact absurd (by rw [List.eq_nil_of_length_eq_zero hz]; exact nofun) h3
      · exact hz
    have a1 := asc_first hc
    have a2 := asc_last hc
    rw [eV_getV hpos] at a1
    rw [lS, eV_getV (by omega)] at a2
    by_cases h4 : (S.getD 0 default).1 < 0
    · simp -implicitDefEqProofs (maxSteps := 2000000) (disch := omega) only [go_sem, simprocAttr, -List.reduceReplicate, condB_t, condB_f]
      exact dn
    · by_cases h5 : (m : Int) ≤ (S.getD (S.length - 1) default).1
      · simp -implicitDefEqProofs (maxSteps := 2000000) (disch := omega) only [go_sem, simprocAttr, -List.reduceReplicate, condB_t, condB_f]
        exact dn
      · exact absurd (fun e he => ⟨by have := a1 e he; simp only at this; omega, by have := a2 e he; simp only at this; omega⟩) h3
end Go.Abs
