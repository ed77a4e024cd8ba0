/- Contracts and rules that the claim's text uses: YtbVec2; YtbSrt1; YtbSrt2; YtbVec2b; YtbVec3; YtbVec4; YtbVec5; YtbVec6; YtbTape1; YtbLaw1; YtbLaw2; YtbLaw3; YtbLaw4; YtbLaw5; YtbLaw6; YtbVec7; YtbVec8; YtbLaw7. No condition. -/
import Derived.Test.YtbeajnfghfgmnaaTC
/-! YtbVec2: Sparse vectors: the stable sort of short lists. No condition. -/
set_option linter.unusedVariables false
set_option linter.unusedSimpArgs false
set_option maxRecDepth 100000
set_option maxHeartbeats 1000000
namespace Go.Abs
open Go.Proofs
@[go_sem] theorem R163 : Try.f163.results.toList = [] := rfl
@[go_sem] theorem valCall0 (P : Program) (g : FuncId) (args : List AV) (h : Heap) (m : Nat) (K : AV → Heap → Prop) : valCall P E0 g args h m K = pcallK P g args h K := valCall_t g args K rfl
@[go_sem] theorem map_entC_get2 (l : List Ent) (i j : Nat) (e : Ent) (h : i < l.length) : ((l.set j e).map entC).getD i [] = [.int .i64 ((l.set j e).getD i default).1, .bool ((l.set j e).getD i default).2.s, .sl 1 (numL ((l.set j e).getD i default).2.m), .sl 1 (numL ((l.set j e).getD i default).2.d)] := map_entC_get _ _ (by rw [List.length_set]; exact h)
@[go_sem] theorem ent_eta (e : Ent) : ((e.1, Raw.mk e.2.s e.2.m e.2.d) : Ent) = e := rfl
theorem insertion_spec (A M Z : List Ent) (N : Nat) (hN : (A ++ M ++ Z).length = N) (hs : N ≤ 1099511627776) (h : Heap) (id m : Nat) (hid : h id = some ⟨4, (A ++ M ++ Z).map entC⟩) :
    ADet Try.prog 163 [.row id N 0 N, .int .i64 A.length, .int .i64 (A.length + M.length : Nat), .fn 102] h m (.tup []) (upd h id (some ⟨4, (A ++ isort M ++ Z).map entC⟩)) := by
  refine adet_of E0ok mixed Try.func163 (by kernel_rfl) rfl (by kernel_rfl) (Nat.le_of_ble_eq_true rfl) (none_put hid) fun N0 hn hmen _ => ⟨hmen.put hid (mapU _ _ _), ?_⟩
  have hidlt : id < N0 := (hmen id _ hid).1
  simp only [List.length_append] at hN
  simp -implicitDefEqProofs (maxSteps := 2000000) (disch := omega) only [go_sem, simprocAttr, -List.reduceReplicate, condB_t, condB_f, hid]
  refine aw_loop (X := Nat) (fun i => ⟨mkS [(0, .row id N 0 N), (1, .int .i64 A.length), (2, .int .i64 (A.length + M.length : Nat)), (3, .fn 102), (8, .int .i64 (A.length + i : Nat))], mkH h [(id, ⟨4, (A ++ isort (M.take i) ++ (M.drop i ++ Z)).map entC⟩)], N0⟩)
    (fun i => 1 ≤ i ∧ (i ≤ M.length ∨ i = 1)) (fun i => M.length - i) ⟨1, ⟨Nat.le_refl _, .inr rfl⟩, ?_⟩ ?_
  · have e0 : A ++ isort (M.take 1) ++ (M.drop 1 ++ Z) = A ++ M ++ Z := by
      cases M with
      | nil => rfl
      | cons x M => simp [isort, insE]
    refine Weak.head1w (by rw [e0]; exact hid) (by omega) (mapU _ _ _) (fun k0 b0 _ hb0 => hb0) (by omega) hmen ?_
    simp -implicitDefEqProofs (maxSteps := 2000000) (disch := omega) only [go_sem, simprocAttr, -List.reduceReplicate, condB_t, condB_f, AllP, AVle_same, AVle_int, AVle_nil, AVle_row, topU_int, topU_bool, topU_sl, topU_row, topU_ptr, topU_iptr, topU_fn, val, List.drop_length]
  · rintro i ⟨h1, h2⟩
    by_cases h0 : i < M.length
    · have el : (isort (M.take i)).length = i := by rw [isort_len, List.length_take]; omega
      have es := isort_sort (M.take i)
      have e1 : A ++ isort (M.take i) ++ (M.drop i ++ Z) = mid A (isort (M.take i)) (M.getD i default) i (M.drop (i + 1) ++ Z) := by
        rw [List.drop_eq_getElem_cons h0, List.getD_eq_getElem?_getD, List.getElem?_eq_getElem h0]
        have := mid_end (A := A) (T := isort (M.take i)) (e := M[i]) (R := M.drop (i + 1) ++ Z)
        rw [el] at this
        exact this.symm
      have e2 : isort (M.take (i + 1)) = insE (M.getD i default) (isort (M.take i)) := by
        rw [← isort_snoc, List.take_add_one, List.getElem?_eq_getElem h0, List.getD_eq_getElem?_getD, List.getElem?_eq_getElem h0]; rfl
      rw [e1]
      generalize isort (M.take i) = T at *
      generalize M.getD i default = e at *
      simp -implicitDefEqProofs (maxSteps := 2000000) (disch := omega) only [go_sem, simprocAttr, -List.reduceReplicate, condB_t, condB_f]
      refine aw_loop (X := Nat) (fun j => ⟨mkS [(0, .row id N 0 N), (1, .int .i64 A.length), (2, .int .i64 (A.length + M.length : Nat)), (3, .fn 102), (8, .int .i64 (A.length + i : Nat)), (9, .int .i64 (A.length + j : Nat))], mkH h [(id, ⟨4, (mid A T e j (M.drop (i + 1) ++ Z)).map entC⟩)], N0⟩)
        (fun j => j ≤ i ∧ ∀ x ∈ T.drop j, e.1 < x.1) (fun j => j) ⟨i, ⟨Nat.le_refl _, by rw [← el, List.drop_length]; exact nofun⟩, ?_⟩ ?_
      · (refine Weak.head1w (by simp -implicitDefEqProofs (maxSteps := 2000000) (disch := omega) only [go_sem, simprocAttr, -List.reduceReplicate, condB_t, condB_f] <;> (try rfl)) (by omega) (mapU _ _ _) (fun k0 b0 hk0 hb0 => by have hk1 : (k0 = _) = False := eq_false hk0; have hk2 := (hmen k0 b0 hb0).1; (simp -implicitDefEqProofs (maxSteps := 2000000) (disch := omega) only [go_sem, simprocAttr, -List.reduceReplicate, condB_t, condB_f, upd, mkH, hk1]) <;> (try (repeat rw [if_neg (by omega)])) <;> exact hb0) (by omega) hmen ?_; simp -implicitDefEqProofs (maxSteps := 2000000) (disch := omega) only [go_sem, simprocAttr, -List.reduceReplicate, condB_t, condB_f, AllP, AVle_same, AVle_int, AVle_nil, AVle_row, topU_int, topU_bool, topU_sl, topU_row, topU_ptr, topU_iptr, topU_fn, val, List.drop_length])
      · rintro j ⟨hj, hd⟩
        have ml := mid_len A T e j (M.drop (i + 1) ++ Z)
        simp only [List.length_append, List.length_drop] at ml
        have hend : (0 < j → (T.getD (j - 1) default).1 ≤ e.1) → mid A T e j (M.drop (i + 1) ++ Z) = A ++ isort (M.take (i + 1)) ++ (M.drop (i + 1) ++ Z) := fun hh => by rw [e2, mid_ins es (by omega) hh hd]
        rcases Nat.eq_zero_or_pos j with hz | hz
        · subst hz
          have hend := hend (fun h => by omega)
          simp -implicitDefEqProofs (maxSteps := 2000000) (disch := omega) only [go_sem, simprocAttr, -List.reduceReplicate, condB_t, condB_f]
          exact ⟨i + 1, ⟨by omega, by omega⟩, by omega, by (refine Weak.head1w (by simp -implicitDefEqProofs (maxSteps := 2000000) (disch := omega) only [go_sem, simprocAttr, -List.reduceReplicate, condB_t, condB_f, hend] <;> (try rfl)) (by omega) (mapU _ _ _) (fun k0 b0 hk0 hb0 => by have hk1 : (k0 = _) = False := eq_false hk0; have hk2 := (hmen k0 b0 hb0).1; (simp -implicitDefEqProofs (maxSteps := 2000000) (disch := omega) only [go_sem, simprocAttr, -List.reduceReplicate, condB_t, condB_f, upd, mkH, hk1]) <;> (try (repeat rw [if_neg (by omega)])) <;> exact hb0) (by omega) hmen ?_; simp -implicitDefEqProofs (maxSteps := 2000000) (disch := omega) only [go_sem, simprocAttr, -List.reduceReplicate, condB_t, condB_f, AllP, AVle_same, AVle_int, AVle_nil, AVle_row, topU_int, topU_bool, topU_sl, topU_row, topU_ptr, topU_iptr, topU_fn, val, List.drop_length, hend])⟩
        · obtain ⟨q, rfl⟩ : ∃ q, j = q + 1 := ⟨j - 1, by omega⟩
          have g1 := mid_get (A := A) (T := T) (e := e) (j := q + 1) (R := M.drop (i + 1) ++ Z) (by omega)
          have g2 := mid_get1 (A := A) (T := T) (e := e) (j := q) (R := M.drop (i + 1) ++ Z) (by omega)
          have g3 := mid_swap (A := A) (T := T) (e := e) (j := q) (R := M.drop (i + 1) ++ Z) (by omega)
          have c := sortedLt_spec e (T.getD q default)
          have d0 : A.length + (q + 1) - 1 = A.length + q := by omega
          unfold entC at c
          simp -implicitDefEqProofs (maxSteps := 2000000) (disch := omega) only [go_sem, simprocAttr, -List.reduceReplicate, condB_t, condB_f, g1, d0, g2]
          refine pcallK_pure c ?_
          unfold cmpI
          by_cases hlt : e.1 < (T.getD q default).1
          · rw [if_pos hlt]
            simp -implicitDefEqProofs (maxSteps := 2000000) (disch := omega) only [go_sem, simprocAttr, -List.reduceReplicate, condB_t, condB_f, g1, d0, g2]
            exact ⟨q, ⟨by omega, fun x hx => by
              have hq : q < T.length := by omega
              rw [List.drop_eq_getElem_cons hq] at hx
              rcases List.mem_cons.1 hx with rfl | hx
              · rw [List.getD_eq_getElem?_getD, List.getElem?_eq_getElem hq] at hlt; exact hlt
              · exact hd x hx⟩, by omega, by (refine Weak.head1w (by simp -implicitDefEqProofs (maxSteps := 2000000) (disch := omega) only [go_sem, simprocAttr, -List.reduceReplicate, condB_t, condB_f, g1, d0, g2, g3] <;> (try rfl)) (by omega) (mapU _ _ _) (fun k0 b0 hk0 hb0 => by have hk1 : (k0 = _) = False := eq_false hk0; have hk2 := (hmen k0 b0 hb0).1; (simp -implicitDefEqProofs (maxSteps := 2000000) (disch := omega) only [go_sem, simprocAttr, -List.reduceReplicate, condB_t, condB_f, upd, mkH, hk1]) <;> (try (repeat rw [if_neg (by omega)])) <;> exact hb0) (by omega) hmen ?_; simp -implicitDefEqProofs (maxSteps := 2000000) (disch := omega) only [go_sem, simprocAttr, -List.reduceReplicate, condB_t, condB_f, AllP, AVle_same, AVle_int, AVle_nil, AVle_row, topU_int, topU_bool, topU_sl, topU_row, topU_ptr, topU_iptr, topU_fn, val, List.drop_length, g1, d0, g2, g3])⟩
          · rw [if_neg hlt]
            have hend := hend (fun _ => by rw [Nat.add_sub_cancel]; omega)
            by_cases heq : e.1 = (T.getD q default).1
            · rw [if_pos heq]
              simp -implicitDefEqProofs (maxSteps := 2000000) (disch := omega) only [go_sem, simprocAttr, -List.reduceReplicate, condB_t, condB_f]
              exact ⟨i + 1, ⟨by omega, by omega⟩, by omega, by (refine Weak.head1w (by simp -implicitDefEqProofs (maxSteps := 2000000) (disch := omega) only [go_sem, simprocAttr, -List.reduceReplicate, condB_t, condB_f, hend] <;> (try rfl)) (by omega) (mapU _ _ _) (fun k0 b0 hk0 hb0 => by have hk1 : (k0 = _) = False := eq_false hk0; have hk2 := (hmen k0 b0 hb0).1; (simp -implicitDefEqProofs (maxSteps := 2000000) (disch := omega) only [go_sem, simprocAttr, -List.reduceReplicate, condB_t, condB_f, upd, mkH, hk1]) <;> (try (repeat rw [if_neg (by omega)])) <;> exact hb0) (by omega) hmen ?_; simp -implicitDefEqProofs (maxSteps := 2000000) (disch := omega) only [go_sem, simprocAttr, -List.reduceReplicate, condB_t, condB_f, AllP, AVle_same, AVle_int, AVle_nil, AVle_row, topU_int, topU_bool, topU_sl, topU_row, topU_ptr, topU_iptr, topU_fn, val, List.drop_length, hend])⟩
            · rw [if_neg heq]
              simp -implicitDefEqProofs (maxSteps := 2000000) (disch := omega) only [go_sem, simprocAttr, -List.reduceReplicate, condB_t, condB_f]
              exact ⟨i + 1, ⟨by omega, by omega⟩, by omega, by (refine Weak.head1w (by simp -implicitDefEqProofs (maxSteps := 2000000) (disch := omega) only [go_sem, simprocAttr, -List.reduceReplicate, condB_t, condB_f, hend] <;> (try rfl)) (by omega) (mapU _ _ _) (fun k0 b0 hk0 hb0 => by have hk1 : (k0 = _) = False := eq_false hk0; have hk2 := (hmen k0 b0 hb0).1; (simp -implicitDefEqProofs (maxSteps := 2000000) (disch := omega) only [go_sem, simprocAttr, -List.reduceReplicate, condB_t, condB_f, upd, mkH, hk1]) <;> (try (repeat rw [if_neg (by omega)])) <;> exact hb0) (by omega) hmen ?_; simp -implicitDefEqProofs (maxSteps := 2000000) (disch := omega) only [go_sem, simprocAttr, -List.reduceReplicate, condB_t, condB_f, AllP, AVle_same, AVle_int, AVle_nil, AVle_row, topU_int, topU_bool, topU_sl, topU_row, topU_ptr, topU_iptr, topU_fn, val, List.drop_length, hend])⟩
    · have e1 : A ++ isort (M.take i) ++ (M.drop i ++ Z) = A ++ isort M ++ Z := by
        rw [List.take_of_length_le (by omega), List.drop_eq_nil_of_le (by omega)]; rfl
      rw [e1]
      simp -implicitDefEqProofs (maxSteps := 2000000) (disch := omega) only [go_sem, simprocAttr, -List.reduceReplicate, condB_t, condB_f]
      exact ⟨fun _ _ => rfl, .tup rfl nofun⟩
end Go.Abs
/-! YtbSrt1: Stable sorting: two stretches exchanged; rotation. No condition. -/
set_option linter.unusedVariables false
set_option linter.unusedSimpArgs false
set_option maxRecDepth 100000
set_option maxHeartbeats 1000000
namespace Go.Abs
open Go.Proofs
@[go_sem] theorem R190 : Try.f190.results.toList = [] := rfl
@[go_sem] theorem R184 : Try.f184.results.toList = [] := rfl
theorem swapRange_spec (A U M V Z : List Ent) (n N : Nat) (hu : U.length = n) (hv : V.length = n) (hN : (A ++ U ++ M ++ V ++ Z).length = N) (hs : N ≤ 1099511627776) (h : Heap) (id m : Nat) (hid : h id = some ⟨4, (A ++ U ++ M ++ V ++ Z).map entC⟩) :
    ADet Try.prog 190 [.row id N 0 N, .int .i64 A.length, .int .i64 (A.length + n + M.length : Nat), .int .i64 n, .fn 102] h m (.tup []) (upd h id (some ⟨4, (A ++ V ++ M ++ U ++ Z).map entC⟩)) := by
  refine adet_of E0ok mixed Try.func190 (by kernel_rfl) rfl (by kernel_rfl) (Nat.le_of_ble_eq_true rfl) (none_put hid) fun N0 hn hmen _ => ⟨hmen.put hid (mapU _ _ _), ?_⟩
  have hidlt : id < N0 := (hmen id _ hid).1
  have e0 : swp A U M V Z 0 = A ++ U ++ M ++ V ++ Z := by simp [swp]
  have e1 : swp A U M V Z n = A ++ V ++ M ++ U ++ Z := by
    unfold swp; rw [List.take_of_length_le (by omega), List.take_of_length_le (by omega), List.drop_eq_nil_of_le (by omega), List.drop_eq_nil_of_le (by omega)]; simp
  simp only [List.length_append] at hN
  rw [← e0] at hid
  simp -implicitDefEqProofs (maxSteps := 2000000) (disch := omega) only [go_sem, simprocAttr, -List.reduceReplicate, condB_t, condB_f, hid]
  refine aw_loop (X := Nat) (fun i => ⟨mkS [(0, .row id N 0 N), (1, .int .i64 A.length), (2, .int .i64 (A.length + n + M.length : Nat)), (3, .int .i64 n), (10, .int .i64 i)], mkH h [(id, ⟨4, (swp A U M V Z i).map entC⟩)], N0⟩)
    (fun i => i ≤ n) (fun i => n - i) ⟨0, Nat.zero_le _, ?_⟩ ?_
  · refine Weak.head1w hid (by omega) (mapU _ _ _) (fun k0 b0 _ hb0 => hb0) (by omega) hmen ?_
    simp -implicitDefEqProofs (maxSteps := 2000000) (disch := omega) only [go_sem, simprocAttr, -List.reduceReplicate, condB_t, condB_f, AllP, AVle_same, AVle_int, AVle_nil, AVle_row, topU_int, topU_bool, topU_sl, topU_row, topU_ptr, topU_iptr, topU_fn, val, List.drop_length]
  · intro i hi
    have sl := swp_len (A := A) (M := M) (Z := Z) hu hv hi
    by_cases h0 : i < n
    · have g1 := swp_get1 (A := A) (M := M) (Z := Z) hu hv h0
      have g2 := swp_get2 (A := A) (M := M) (Z := Z) hu hv h0
      have g3 := swp_set (A := A) (M := M) (Z := Z) hu hv h0
      have g4 := g2
      have g5 := g3
      simp only [Nat.add_assoc] at g4 g5
      generalize U.getD i default = u at *
      generalize V.getD i default = v at *
      simp -implicitDefEqProofs (maxSteps := 2000000) (disch := omega) only [go_sem, simprocAttr, -List.reduceReplicate, condB_t, condB_f, g1, g2, g4]
      exact ⟨i + 1, h0, by omega, by (refine Weak.head1w (by simp -implicitDefEqProofs (maxSteps := 2000000) (disch := omega) only [go_sem, simprocAttr, -List.reduceReplicate, condB_t, condB_f, g1, g2, g4, g3, g5] <;> (try rfl)) (by omega) (mapU _ _ _) (fun k0 b0 hk0 hb0 => by have hk1 : (k0 = _) = False := eq_false hk0; have hk2 := (hmen k0 b0 hb0).1; (simp -implicitDefEqProofs (maxSteps := 2000000) (disch := omega) only [go_sem, simprocAttr, -List.reduceReplicate, condB_t, condB_f, upd, mkH, hk1]) <;> (try (repeat rw [if_neg (by omega)])) <;> exact hb0) (by omega) hmen ?_; simp -implicitDefEqProofs (maxSteps := 2000000) (disch := omega) only [go_sem, simprocAttr, -List.reduceReplicate, condB_t, condB_f, AllP, AVle_same, AVle_int, AVle_nil, AVle_row, topU_int, topU_bool, topU_sl, topU_row, topU_ptr, topU_iptr, topU_fn, val, List.drop_length, g1, g2, g4, g3, g5])⟩
    · obtain rfl : i = n := by omega
      rw [e1]
      simp -implicitDefEqProofs (maxSteps := 2000000) (disch := omega) only [go_sem, simprocAttr, -List.reduceReplicate, condB_t, condB_f]
      exact ⟨fun _ _ => rfl, .tup rfl nofun⟩
theorem rotate_spec (A U V Z : List Ent) (N : Nat) (hu : 0 < U.length) (hv : 0 < V.length) (hN : (A ++ U ++ V ++ Z).length = N) (hs : N ≤ 1099511627776) (h : Heap) (id m : Nat) (hid : h id = some ⟨4, (A ++ U ++ V ++ Z).map entC⟩) :
    ADet Try.prog 184 [.row id N 0 N, .int .i64 A.length, .int .i64 (A.length + U.length : Nat), .int .i64 (A.length + U.length + V.length : Nat), .fn 102] h m (.tup []) (upd h id (some ⟨4, (A ++ V ++ U ++ Z).map entC⟩)) := by
  refine adet_of E0ok mixed Try.func184 (by kernel_rfl) rfl (by kernel_rfl) (Nat.le_of_ble_eq_true rfl) (none_put hid) fun N0 hn hmen _ => ⟨hmen.put hid (mapU _ _ _), ?_⟩
  have hidlt : id < N0 := (hmen id _ hid).1
  have hN' : A.length + U.length + V.length + Z.length = N := by simp only [List.length_append] at hN; exact hN
  have d1 : A.length + U.length - A.length = U.length := by omega
  have d2 : A.length + U.length + V.length - (A.length + U.length) = V.length := by omega
  simp -implicitDefEqProofs (maxSteps := 2000000) (disch := omega) only [go_sem, simprocAttr, -List.reduceReplicate, condB_t, condB_f, hid, d1, d2]
  refine aw_loop (X := List Ent × List Ent × List Ent × List Ent) (fun x => ⟨mkS [(0, .row id N 0 N), (2, .int .i64 (A.length + U.length : Nat)), (4, .fn 102), (10, .int .i64 x.2.1.length), (11, .int .i64 x.2.2.1.length)], mkH h [(id, ⟨4, ((A ++ x.1) ++ x.2.1 ++ x.2.2.1 ++ (x.2.2.2 ++ Z)).map entC⟩)], N0⟩)
    (fun x => 0 < x.2.1.length ∧ 0 < x.2.2.1.length ∧ x.1.length + x.2.1.length = U.length ∧ x.2.2.1.length + x.2.2.2.length = V.length ∧ x.1 ++ x.2.2.1 ++ x.2.1 ++ x.2.2.2 = V ++ U) (fun x => x.2.1.length + x.2.2.1.length) ⟨([], U, V, []), ⟨hu, hv, by simp, by simp, by simp⟩, ?_⟩ ?_
  · refine Weak.head1w (by simpa using hid) (by omega) (mapU _ _ _) (fun k0 b0 _ hb0 => hb0) (by omega) hmen ?_
    simp -implicitDefEqProofs (maxSteps := 2000000) (disch := omega) only [go_sem, simprocAttr, -List.reduceReplicate, condB_t, condB_f, AllP, AVle_same, AVle_int, AVle_nil, AVle_row, topU_int, topU_bool, topU_sl, topU_row, topU_ptr, topU_iptr, topU_fn, val, List.drop_length]
  · rintro ⟨p, u, v, q⟩ ⟨h1, h2, h3, h4, h5⟩
    simp only at h1 h2 h3 h4 h5 ⊢
    rcases Nat.lt_trichotomy u.length v.length with g | g | g
    · obtain ⟨v1, v2, rfl, hv2⟩ : ∃ v1 v2, v = v1 ++ v2 ∧ v2.length = u.length := ⟨v.take (v.length - u.length), v.drop (v.length - u.length), (List.take_append_drop ..).symm, by rw [List.length_drop]; omega⟩
      rw [List.length_append] at g h4 h2
      have lv : (v1 ++ v2).length = v1.length + v2.length := List.length_append
      have e0 : (A ++ p) ++ u ++ (v1 ++ v2) ++ (q ++ Z) = (A ++ p) ++ u ++ v1 ++ v2 ++ (q ++ Z) := by simp
      rw [e0]
      have c := fun mm => swapRange_spec (A ++ p) u v1 v2 (q ++ Z) u.length N rfl hv2 (by simp only [List.length_append]; omega) hs (mkH h [(id, ⟨4, ((A ++ p) ++ u ++ v1 ++ v2 ++ (q ++ Z)).map entC⟩)]) id mm (by simp -implicitDefEqProofs (maxSteps := 2000000) (disch := omega) only [go_sem, simprocAttr, -List.reduceReplicate, condB_t, condB_f])
      simp only [List.length_append] at c
      have e1 : ((A.length + U.length : Nat) : Int) - (u.length : Int) = ((A.length + p.length : Nat) : Int) := by omega
      have e2 : ((A.length + (U.length + (v1.length + v2.length)) : Nat) : Int) - (u.length : Int) = ((A.length + p.length + u.length + v1.length : Nat) : Int) := by omega
      have e3 : ((v1.length + v2.length : Nat) : Int) - (u.length : Int) = (v1.length : Int) := by omega
      have e4 : A ++ p ++ v2 ++ v1 ++ u ++ (q ++ Z) = A ++ p ++ v2 ++ v1 ++ (u ++ q ++ Z) := by simp
      simp -implicitDefEqProofs (maxSteps := 2000000) (disch := omega) only [go_sem, simprocAttr, -List.reduceReplicate, condB_t, condB_f, lv, e1, e2]
      rw [show A.length + (p.length + (u.length + v1.length)) = A.length + p.length + u.length + v1.length by omega]
      refine callK_of (c _) ?_
      rw [e4]
      simp -implicitDefEqProofs (maxSteps := 2000000) (disch := omega) only [go_sem, simprocAttr, -List.reduceReplicate, condB_t, condB_f, e3]
      refine ⟨(p, v2, v1, u ++ q), ⟨by simp only; omega, by simp only; omega, by simp only; omega, by simp only [List.length_append]; omega, by rw [← h5]; simp⟩, by simp only; omega, ?_⟩
      simp only [hv2]
      (refine Weak.head1w (by simp -implicitDefEqProofs (maxSteps := 2000000) (disch := omega) only [go_sem, simprocAttr, -List.reduceReplicate, condB_t, condB_f] <;> (try rfl)) (by omega) (mapU _ _ _) (fun k0 b0 hk0 hb0 => by have hk1 : (k0 = _) = False := eq_false hk0; have hk2 := (hmen k0 b0 hb0).1; (simp -implicitDefEqProofs (maxSteps := 2000000) (disch := omega) only [go_sem, simprocAttr, -List.reduceReplicate, condB_t, condB_f, upd, mkH, hk1]) <;> (try (repeat rw [if_neg (by omega)])) <;> exact hb0) (by omega) hmen ?_; simp -implicitDefEqProofs (maxSteps := 2000000) (disch := omega) only [go_sem, simprocAttr, -List.reduceReplicate, condB_t, condB_f, AllP, AVle_same, AVle_int, AVle_nil, AVle_row, topU_int, topU_bool, topU_sl, topU_row, topU_ptr, topU_iptr, topU_fn, val, List.drop_length])
    · have c := fun mm => swapRange_spec (A ++ p) u [] v (q ++ Z) u.length N rfl g.symm (by simp only [List.length_append, List.length_nil]; omega) hs (mkH h [(id, ⟨4, ((A ++ p) ++ u ++ v ++ (q ++ Z)).map entC⟩)]) id mm (by rw [List.append_nil]; simp -implicitDefEqProofs (maxSteps := 2000000) (disch := omega) only [go_sem, simprocAttr, -List.reduceReplicate, condB_t, condB_f])
      simp only [List.length_append, List.length_nil, List.append_nil, Nat.add_zero] at c
      have e1 : ((A.length + U.length : Nat) : Int) - (u.length : Int) = ((A.length + p.length : Nat) : Int) := by omega
      have e2 : A.length + p.length + u.length = A.length + U.length := by omega
      have e4 : A ++ p ++ v ++ u ++ (q ++ Z) = A ++ V ++ U ++ Z := by
        have : p ++ (v ++ (u ++ (q ++ Z))) = (p ++ v ++ u ++ q) ++ Z := by simp
        simp only [List.append_assoc]
        rw [this, h5]; simp
      rw [e2, e4] at c
      rw [← g]
      simp -implicitDefEqProofs (maxSteps := 2000000) (disch := omega) only [go_sem, simprocAttr, -List.reduceReplicate, condB_t, condB_f, e1]
      refine callK_of (c _) ?_
      simp -implicitDefEqProofs (maxSteps := 2000000) (disch := omega) only [go_sem, simprocAttr, -List.reduceReplicate, condB_t, condB_f]
      exact .tup rfl nofun
    · obtain ⟨u1, u2, rfl, hu1⟩ : ∃ u1 u2, u = u1 ++ u2 ∧ u1.length = v.length := ⟨u.take v.length, u.drop v.length, (List.take_append_drop ..).symm, by rw [List.length_take]; omega⟩
      rw [List.length_append] at g h3 h1
      have lu : (u1 ++ u2).length = u1.length + u2.length := List.length_append
      have e0 : (A ++ p) ++ (u1 ++ u2) ++ v ++ (q ++ Z) = (A ++ p) ++ u1 ++ u2 ++ v ++ (q ++ Z) := by simp
      rw [e0]
      have c := fun mm => swapRange_spec (A ++ p) u1 u2 v (q ++ Z) v.length N hu1 rfl (by simp only [List.length_append]; omega) hs (mkH h [(id, ⟨4, ((A ++ p) ++ u1 ++ u2 ++ v ++ (q ++ Z)).map entC⟩)]) id mm (by simp -implicitDefEqProofs (maxSteps := 2000000) (disch := omega) only [go_sem, simprocAttr, -List.reduceReplicate, condB_t, condB_f])
      simp only [List.length_append] at c
      have e1 : ((A.length + U.length : Nat) : Int) - ((u1.length + u2.length : Nat) : Int) = ((A.length + p.length : Nat) : Int) := by omega
      have e2 : A.length + p.length + v.length + u2.length = A.length + U.length := by omega
      have e3 : ((u1.length + u2.length : Nat) : Int) - (v.length : Int) = (u2.length : Int) := by omega
      have e4 : A ++ p ++ v ++ u2 ++ u1 ++ (q ++ Z) = A ++ (p ++ v) ++ u2 ++ u1 ++ (q ++ Z) := by simp
      rw [e2] at c
      simp -implicitDefEqProofs (maxSteps := 2000000) (disch := omega) only [go_sem, simprocAttr, -List.reduceReplicate, condB_t, condB_f, lu, e1]
      refine callK_of (c _) ?_
      rw [e4]
      simp -implicitDefEqProofs (maxSteps := 2000000) (disch := omega) only [go_sem, simprocAttr, -List.reduceReplicate, condB_t, condB_f, e3]
      refine ⟨(p ++ v, u2, u1, q), ⟨by simp only; omega, by simp only; omega, by simp only [List.length_append]; omega, by simp only; omega, by rw [← h5]; simp⟩, by simp only; omega, ?_⟩
      simp only [hu1]
      (refine Weak.head1w (by simp -implicitDefEqProofs (maxSteps := 2000000) (disch := omega) only [go_sem, simprocAttr, -List.reduceReplicate, condB_t, condB_f] <;> (try rfl)) (by omega) (mapU _ _ _) (fun k0 b0 hk0 hb0 => by have hk1 : (k0 = _) = False := eq_false hk0; have hk2 := (hmen k0 b0 hb0).1; (simp -implicitDefEqProofs (maxSteps := 2000000) (disch := omega) only [go_sem, simprocAttr, -List.reduceReplicate, condB_t, condB_f, upd, mkH, hk1]) <;> (try (repeat rw [if_neg (by omega)])) <;> exact hb0) (by omega) hmen ?_; simp -implicitDefEqProofs (maxSteps := 2000000) (disch := omega) only [go_sem, simprocAttr, -List.reduceReplicate, condB_t, condB_f, AllP, AVle_same, AVle_int, AVle_nil, AVle_row, topU_int, topU_bool, topU_sl, topU_row, topU_ptr, topU_iptr, topU_fn, val, List.drop_length])
end Go.Abs
/-! YtbSrt2: Stable sorting: merging. No condition. -/
set_option linter.unusedVariables false
set_option linter.unusedSimpArgs false
set_option maxRecDepth 100000
set_option maxHeartbeats 1000000
namespace Go.Abs
open Go.Proofs
@[go_sem] theorem R164 : Try.f164.results.toList = [] := rfl
set_option maxHeartbeats 8000000
theorem symMerge_spec : ∀ (n : Nat) (A X Y Z : List Ent) (N : Nat), X.length + Y.length = n → 0 < X.length → 0 < Y.length → SortE X → SortE Y → (A ++ X ++ Y ++ Z).length = N → N ≤ 1099511627776 → ∀ (h : Heap) (id m : Nat), h id = some ⟨4, (A ++ X ++ Y ++ Z).map entC⟩ →
    ADet Try.prog 164 [.row id N 0 N, .int .i64 A.length, .int .i64 (A.length + X.length : Nat), .int .i64 (A.length + X.length + Y.length : Nat), .fn 102] h m (.tup []) (upd h id (some ⟨4, (A ++ isort (X ++ Y) ++ Z).map entC⟩)) := by
  intro n
  induction n using Nat.strongRecOn with
  | _ n ih =>
  intro A X Y Z N hXY hx0 hy0 hX hY hN hs h id m hid
  refine adet_of E0ok mixed Try.func164 (by kernel_rfl) rfl (by kernel_rfl) (Nat.le_of_ble_eq_true rfl) (none_put hid) fun N0 hn hmen _ => ⟨hmen.put hid (mapU _ _ _), ?_⟩
  have hidlt : id < N0 := (hmen id _ hid).1
  have hN' : A.length + X.length + Y.length + Z.length = N := by simp only [List.length_append] at hN; exact hN
  have d1 : ((A.length + X.length : Nat) : Int) - (A.length : Int) = (X.length : Int) := by omega
  have d2 : ((A.length + X.length + Y.length : Nat) : Int) - ((A.length + X.length : Nat) : Int) = (Y.length : Int) := by omega
  by_cases hc1 : X.length = 1
  · obtain ⟨x, rfl⟩ : ∃ x, X = [x] := List.length_eq_one_iff.1 hc1
    have e0 : A ++ [x] ++ Y ++ Z = mid A Y x 0 Z := by simp [mid]
    rw [e0] at hid
    simp only [List.length_cons, List.length_nil, Nat.zero_add] at d1 d2 hN' ⊢
    simp -implicitDefEqProofs (maxSteps := 2000000) (disch := omega) only [go_sem, simprocAttr, -List.reduceReplicate, condB_t, condB_f, hid, d1]
    refine aw_loop (X := Nat × Nat) (fun x' => ⟨mkS [(0, .row id N 0 N), (1, .int .i64 A.length), (4, .fn 102), (10, .int .i64 (A.length + 1 + x'.1 : Nat)), (11, .int .i64 (A.length + 1 + x'.2 : Nat))], mkH h [(id, ⟨4, (mid A Y x 0 Z).map entC⟩)], N0⟩)
      (fun x' => x'.1 ≤ x'.2 ∧ x'.2 ≤ Y.length ∧ (∀ y ∈ Y.take x'.1, y.1 < x.1) ∧ ∀ y ∈ Y.drop x'.2, x.1 ≤ y.1) (fun x' => x'.2 - x'.1) ⟨(0, Y.length), ⟨Nat.zero_le _, Nat.le_refl _, nofun, by rw [List.drop_length]; exact nofun⟩, ?_⟩ ?_
    · refine Weak.head1w hid (by omega) (mapU _ _ _) (fun k0 b0 _ hb0 => hb0) (by omega) hmen ?_
      simp -implicitDefEqProofs (maxSteps := 2000000) (disch := omega) only [go_sem, simprocAttr, -List.reduceReplicate, condB_t, condB_f, AllP, AVle_same, AVle_int, AVle_nil, AVle_row, topU_int, topU_bool, topU_sl, topU_row, topU_ptr, topU_iptr, topU_fn, val, List.drop_length]
    · rintro ⟨i, j⟩ ⟨h1, h2, h3, h4⟩
      simp only at h1 h2 h3 h4 ⊢
      by_cases hij : i < j
      · have ml := mid_len A Y x 0 Z
        obtain ⟨p, hp, hp1, hp2⟩ : ∃ p, (A.length + (1 + (i + (A.length + (1 + j))))) / 2 = A.length + (p + 1) ∧ i ≤ p ∧ p < j := ⟨(i + j) / 2, by omega, by omega, by omega⟩
        have g1 := mid_get0 (A := A) (T := Y) (e := x) (p := p) (R := Z) (by omega)
        have g2 := mid_get (A := A) (T := Y) (e := x) (j := 0) (R := Z) (by omega)
        rw [Nat.add_zero] at g2
        have c := sortedLt_spec (Y.getD p default) x
        unfold entC at c
        simp -implicitDefEqProofs (maxSteps := 2000000) (disch := omega) only [go_sem, simprocAttr, -List.reduceReplicate, condB_t, condB_f, hp, g1, g2]
        refine pcallK_pure c ?_
        unfold cmpI
        by_cases hlt : (Y.getD p default).1 < x.1
        · rw [if_pos hlt]
          simp -implicitDefEqProofs (maxSteps := 2000000) (disch := omega) only [go_sem, simprocAttr, -List.reduceReplicate, condB_t, condB_f]
          exact ⟨(p + 1, j), ⟨hp2, h2, take_lt_all hY (by omega) hlt, h4⟩, by simp only; omega, by (refine Weak.head1w (by simp -implicitDefEqProofs (maxSteps := 2000000) (disch := omega) only [go_sem, simprocAttr, -List.reduceReplicate, condB_t, condB_f] <;> (try rfl)) (by omega) (mapU _ _ _) (fun k0 b0 hk0 hb0 => by have hk1 : (k0 = _) = False := eq_false hk0; have hk2 := (hmen k0 b0 hb0).1; (simp -implicitDefEqProofs (maxSteps := 2000000) (disch := omega) only [go_sem, simprocAttr, -List.reduceReplicate, condB_t, condB_f, upd, mkH, hk1]) <;> (try (repeat rw [if_neg (by omega)])) <;> exact hb0) (by omega) hmen ?_; simp -implicitDefEqProofs (maxSteps := 2000000) (disch := omega) only [go_sem, simprocAttr, -List.reduceReplicate, condB_t, condB_f, AllP, AVle_same, AVle_int, AVle_nil, AVle_row, topU_int, topU_bool, topU_sl, topU_row, topU_ptr, topU_iptr, topU_fn, val, List.drop_length])⟩
        · rw [if_neg hlt]
          have h5 := drop_ge_all hY (p := p) (v := x.1) (by omega) (by omega)
          by_cases heq : (Y.getD p default).1 = x.1
          · rw [if_pos heq]
            simp -implicitDefEqProofs (maxSteps := 2000000) (disch := omega) only [go_sem, simprocAttr, -List.reduceReplicate, condB_t, condB_f]
            exact ⟨(i, p), ⟨hp1, by simp only; omega, h3, h5⟩, by simp only; omega, by (refine Weak.head1w (by simp -implicitDefEqProofs (maxSteps := 2000000) (disch := omega) only [go_sem, simprocAttr, -List.reduceReplicate, condB_t, condB_f] <;> (try rfl)) (by omega) (mapU _ _ _) (fun k0 b0 hk0 hb0 => by have hk1 : (k0 = _) = False := eq_false hk0; have hk2 := (hmen k0 b0 hb0).1; (simp -implicitDefEqProofs (maxSteps := 2000000) (disch := omega) only [go_sem, simprocAttr, -List.reduceReplicate, condB_t, condB_f, upd, mkH, hk1]) <;> (try (repeat rw [if_neg (by omega)])) <;> exact hb0) (by omega) hmen ?_; simp -implicitDefEqProofs (maxSteps := 2000000) (disch := omega) only [go_sem, simprocAttr, -List.reduceReplicate, condB_t, condB_f, AllP, AVle_same, AVle_int, AVle_nil, AVle_row, topU_int, topU_bool, topU_sl, topU_row, topU_ptr, topU_iptr, topU_fn, val, List.drop_length])⟩
          · rw [if_neg heq]
            simp -implicitDefEqProofs (maxSteps := 2000000) (disch := omega) only [go_sem, simprocAttr, -List.reduceReplicate, condB_t, condB_f]
            exact ⟨(i, p), ⟨hp1, by simp only; omega, h3, h5⟩, by simp only; omega, by (refine Weak.head1w (by simp -implicitDefEqProofs (maxSteps := 2000000) (disch := omega) only [go_sem, simprocAttr, -List.reduceReplicate, condB_t, condB_f] <;> (try rfl)) (by omega) (mapU _ _ _) (fun k0 b0 hk0 hb0 => by have hk1 : (k0 = _) = False := eq_false hk0; have hk2 := (hmen k0 b0 hb0).1; (simp -implicitDefEqProofs (maxSteps := 2000000) (disch := omega) only [go_sem, simprocAttr, -List.reduceReplicate, condB_t, condB_f, upd, mkH, hk1]) <;> (try (repeat rw [if_neg (by omega)])) <;> exact hb0) (by omega) hmen ?_; simp -implicitDefEqProofs (maxSteps := 2000000) (disch := omega) only [go_sem, simprocAttr, -List.reduceReplicate, condB_t, condB_f, AllP, AVle_same, AVle_int, AVle_nil, AVle_row, topU_int, topU_bool, topU_sl, topU_row, topU_ptr, topU_iptr, topU_fn, val, List.drop_length])⟩
      · obtain rfl : i = j := by omega
        have e9 := isort_left (x := x) hY h3 h4
        simp -implicitDefEqProofs (maxSteps := 2000000) (disch := omega) only [go_sem, simprocAttr, -List.reduceReplicate, condB_t, condB_f]
        refine aw_loop (X := Nat) (fun q => ⟨mkS [(0, .row id N 0 N), (10, .int .i64 (A.length + 1 + i : Nat)), (13, .int .i64 (A.length + q : Nat))], mkH h [(id, ⟨4, (mid A Y x q Z).map entC⟩)], N0⟩)
          (fun q => q ≤ i) (fun q => i - q) ⟨0, Nat.zero_le _, ?_⟩ ?_
        · (refine Weak.head1w (by simp -implicitDefEqProofs (maxSteps := 2000000) (disch := omega) only [go_sem, simprocAttr, -List.reduceReplicate, condB_t, condB_f] <;> (try rfl)) (by omega) (mapU _ _ _) (fun k0 b0 hk0 hb0 => by have hk1 : (k0 = _) = False := eq_false hk0; have hk2 := (hmen k0 b0 hb0).1; (simp -implicitDefEqProofs (maxSteps := 2000000) (disch := omega) only [go_sem, simprocAttr, -List.reduceReplicate, condB_t, condB_f, upd, mkH, hk1]) <;> (try (repeat rw [if_neg (by omega)])) <;> exact hb0) (by omega) hmen ?_; simp -implicitDefEqProofs (maxSteps := 2000000) (disch := omega) only [go_sem, simprocAttr, -List.reduceReplicate, condB_t, condB_f, AllP, AVle_same, AVle_int, AVle_nil, AVle_row, topU_int, topU_bool, topU_sl, topU_row, topU_ptr, topU_iptr, topU_fn, val, List.drop_length])
        · intro q hq
          have ml := mid_len A Y x q Z
          by_cases h0 : q < i
          · have g1 := mid_get (A := A) (T := Y) (e := x) (j := q) (R := Z) (by omega)
            have g2 := mid_getR (A := A) (T := Y) (e := x) (j := q) (R := Z) (by omega)
            have g3 := mid_swapR (A := A) (T := Y) (e := x) (j := q) (R := Z) (by omega)
            simp -implicitDefEqProofs (maxSteps := 2000000) (disch := omega) only [go_sem, simprocAttr, -List.reduceReplicate, condB_t, condB_f, g1, g2]
            exact ⟨q + 1, h0, by omega, by (refine Weak.head1w (by simp -implicitDefEqProofs (maxSteps := 2000000) (disch := omega) only [go_sem, simprocAttr, -List.reduceReplicate, condB_t, condB_f, g1, g2, g3] <;> (try rfl)) (by omega) (mapU _ _ _) (fun k0 b0 hk0 hb0 => by have hk1 : (k0 = _) = False := eq_false hk0; have hk2 := (hmen k0 b0 hb0).1; (simp -implicitDefEqProofs (maxSteps := 2000000) (disch := omega) only [go_sem, simprocAttr, -List.reduceReplicate, condB_t, condB_f, upd, mkH, hk1]) <;> (try (repeat rw [if_neg (by omega)])) <;> exact hb0) (by omega) hmen ?_; simp -implicitDefEqProofs (maxSteps := 2000000) (disch := omega) only [go_sem, simprocAttr, -List.reduceReplicate, condB_t, condB_f, AllP, AVle_same, AVle_int, AVle_nil, AVle_row, topU_int, topU_bool, topU_sl, topU_row, topU_ptr, topU_iptr, topU_fn, val, List.drop_length, g1, g2, g3])⟩
          · obtain rfl : q = i := by omega
            have e1 : mid A Y x q Z = A ++ isort ([x] ++ Y) ++ Z := by rw [e9]; rfl
            rw [e1]
            simp -implicitDefEqProofs (maxSteps := 2000000) (disch := omega) only [go_sem, simprocAttr, -List.reduceReplicate, condB_t, condB_f]
            exact ⟨fun _ _ => rfl, .tup rfl nofun⟩
  by_cases hc2 : Y.length = 1
  · obtain ⟨y, rfl⟩ : ∃ y, Y = [y] := List.length_eq_one_iff.1 hc2
    have e0 : A ++ X ++ [y] ++ Z = mid A X y X.length Z := by simp [mid]
    rw [e0] at hid
    simp only [List.length_cons, List.length_nil, Nat.zero_add] at d1 d2 hN' ⊢
    simp -implicitDefEqProofs (maxSteps := 2000000) (disch := omega) only [go_sem, simprocAttr, -List.reduceReplicate, condB_t, condB_f, hid, d1, d2]
    refine aw_loop (X := Nat × Nat) (fun x' => ⟨mkS [(0, .row id N 0 N), (2, .int .i64 (A.length + X.length : Nat)), (4, .fn 102), (14, .int .i64 (A.length + x'.1 : Nat)), (15, .int .i64 (A.length + x'.2 : Nat))], mkH h [(id, ⟨4, (mid A X y X.length Z).map entC⟩)], N0⟩)
      (fun x' => x'.1 ≤ x'.2 ∧ x'.2 ≤ X.length ∧ (∀ x ∈ X.take x'.1, x.1 ≤ y.1) ∧ ∀ x ∈ X.drop x'.2, y.1 < x.1) (fun x' => x'.2 - x'.1) ⟨(0, X.length), ⟨Nat.zero_le _, Nat.le_refl _, nofun, by rw [List.drop_length]; exact nofun⟩, ?_⟩ ?_
    · refine Weak.head1w hid (by omega) (mapU _ _ _) (fun k0 b0 _ hb0 => hb0) (by omega) hmen ?_
      simp -implicitDefEqProofs (maxSteps := 2000000) (disch := omega) only [go_sem, simprocAttr, -List.reduceReplicate, condB_t, condB_f, AllP, AVle_same, AVle_int, AVle_nil, AVle_row, topU_int, topU_bool, topU_sl, topU_row, topU_ptr, topU_iptr, topU_fn, val, List.drop_length]
    · rintro ⟨i, j⟩ ⟨h1, h2, h3, h4⟩
      simp only at h1 h2 h3 h4 ⊢
      by_cases hij : i < j
      · have ml := mid_len A X y X.length Z
        obtain ⟨p, hp, hp1, hp2⟩ : ∃ p, (A.length + (i + (A.length + j))) / 2 = A.length + p ∧ i ≤ p ∧ p < j := ⟨(i + j) / 2, by omega, by omega, by omega⟩
        have g1 := mid_getL (A := A) (T := X) (e := y) (j := X.length) (p := p) (R := Z) (by omega) (by omega)
        have g2 := mid_get (A := A) (T := X) (e := y) (j := X.length) (R := Z) (by omega)
        have c := sortedLt_spec y (X.getD p default)
        unfold entC at c
        simp -implicitDefEqProofs (maxSteps := 2000000) (disch := omega) only [go_sem, simprocAttr, -List.reduceReplicate, condB_t, condB_f, hp, g1, g2]
        refine pcallK_pure c ?_
        unfold cmpI
        by_cases hlt : y.1 < (X.getD p default).1
        · rw [if_pos hlt]
          simp -implicitDefEqProofs (maxSteps := 2000000) (disch := omega) only [go_sem, simprocAttr, -List.reduceReplicate, condB_t, condB_f]
          exact ⟨(i, p), ⟨hp1, by simp only; omega, h3, drop_gt_all hX (by omega) hlt⟩, by simp only; omega, by (refine Weak.head1w (by simp -implicitDefEqProofs (maxSteps := 2000000) (disch := omega) only [go_sem, simprocAttr, -List.reduceReplicate, condB_t, condB_f] <;> (try rfl)) (by omega) (mapU _ _ _) (fun k0 b0 hk0 hb0 => by have hk1 : (k0 = _) = False := eq_false hk0; have hk2 := (hmen k0 b0 hb0).1; (simp -implicitDefEqProofs (maxSteps := 2000000) (disch := omega) only [go_sem, simprocAttr, -List.reduceReplicate, condB_t, condB_f, upd, mkH, hk1]) <;> (try (repeat rw [if_neg (by omega)])) <;> exact hb0) (by omega) hmen ?_; simp -implicitDefEqProofs (maxSteps := 2000000) (disch := omega) only [go_sem, simprocAttr, -List.reduceReplicate, condB_t, condB_f, AllP, AVle_same, AVle_int, AVle_nil, AVle_row, topU_int, topU_bool, topU_sl, topU_row, topU_ptr, topU_iptr, topU_fn, val, List.drop_length])⟩
        · rw [if_neg hlt]
          have h5 := take_le_all hX (p := p) (v := y.1) (by omega) (by omega)
          by_cases heq : y.1 = (X.getD p default).1
          · rw [if_pos heq]
            simp -implicitDefEqProofs (maxSteps := 2000000) (disch := omega) only [go_sem, simprocAttr, -List.reduceReplicate, condB_t, condB_f]
            exact ⟨(p + 1, j), ⟨hp2, h2, h5, h4⟩, by simp only; omega, by (refine Weak.head1w (by simp -implicitDefEqProofs (maxSteps := 2000000) (disch := omega) only [go_sem, simprocAttr, -List.reduceReplicate, condB_t, condB_f] <;> (try rfl)) (by omega) (mapU _ _ _) (fun k0 b0 hk0 hb0 => by have hk1 : (k0 = _) = False := eq_false hk0; have hk2 := (hmen k0 b0 hb0).1; (simp -implicitDefEqProofs (maxSteps := 2000000) (disch := omega) only [go_sem, simprocAttr, -List.reduceReplicate, condB_t, condB_f, upd, mkH, hk1]) <;> (try (repeat rw [if_neg (by omega)])) <;> exact hb0) (by omega) hmen ?_; simp -implicitDefEqProofs (maxSteps := 2000000) (disch := omega) only [go_sem, simprocAttr, -List.reduceReplicate, condB_t, condB_f, AllP, AVle_same, AVle_int, AVle_nil, AVle_row, topU_int, topU_bool, topU_sl, topU_row, topU_ptr, topU_iptr, topU_fn, val, List.drop_length])⟩
          · rw [if_neg heq]
            simp -implicitDefEqProofs (maxSteps := 2000000) (disch := omega) only [go_sem, simprocAttr, -List.reduceReplicate, condB_t, condB_f]
            exact ⟨(p + 1, j), ⟨hp2, h2, h5, h4⟩, by simp only; omega, by (refine Weak.head1w (by simp -implicitDefEqProofs (maxSteps := 2000000) (disch := omega) only [go_sem, simprocAttr, -List.reduceReplicate, condB_t, condB_f] <;> (try rfl)) (by omega) (mapU _ _ _) (fun k0 b0 hk0 hb0 => by have hk1 : (k0 = _) = False := eq_false hk0; have hk2 := (hmen k0 b0 hb0).1; (simp -implicitDefEqProofs (maxSteps := 2000000) (disch := omega) only [go_sem, simprocAttr, -List.reduceReplicate, condB_t, condB_f, upd, mkH, hk1]) <;> (try (repeat rw [if_neg (by omega)])) <;> exact hb0) (by omega) hmen ?_; simp -implicitDefEqProofs (maxSteps := 2000000) (disch := omega) only [go_sem, simprocAttr, -List.reduceReplicate, condB_t, condB_f, AllP, AVle_same, AVle_int, AVle_nil, AVle_row, topU_int, topU_bool, topU_sl, topU_row, topU_ptr, topU_iptr, topU_fn, val, List.drop_length])⟩
      · obtain rfl : i = j := by omega
        have e9 := isort_right (y := y) hX
        simp -implicitDefEqProofs (maxSteps := 2000000) (disch := omega) only [go_sem, simprocAttr, -List.reduceReplicate, condB_t, condB_f]
        refine aw_loop (X := Nat) (fun q => ⟨mkS [(0, .row id N 0 N), (14, .int .i64 (A.length + i : Nat)), (17, .int .i64 (A.length + q : Nat))], mkH h [(id, ⟨4, (mid A X y q Z).map entC⟩)], N0⟩)
          (fun q => i ≤ q ∧ q ≤ X.length) (fun q => q) ⟨X.length, ⟨h2, Nat.le_refl _⟩, ?_⟩ ?_
        · (refine Weak.head1w (by simp -implicitDefEqProofs (maxSteps := 2000000) (disch := omega) only [go_sem, simprocAttr, -List.reduceReplicate, condB_t, condB_f] <;> (try rfl)) (by omega) (mapU _ _ _) (fun k0 b0 hk0 hb0 => by have hk1 : (k0 = _) = False := eq_false hk0; have hk2 := (hmen k0 b0 hb0).1; (simp -implicitDefEqProofs (maxSteps := 2000000) (disch := omega) only [go_sem, simprocAttr, -List.reduceReplicate, condB_t, condB_f, upd, mkH, hk1]) <;> (try (repeat rw [if_neg (by omega)])) <;> exact hb0) (by omega) hmen ?_; simp -implicitDefEqProofs (maxSteps := 2000000) (disch := omega) only [go_sem, simprocAttr, -List.reduceReplicate, condB_t, condB_f, AllP, AVle_same, AVle_int, AVle_nil, AVle_row, topU_int, topU_bool, topU_sl, topU_row, topU_ptr, topU_iptr, topU_fn, val, List.drop_length])
        · rintro q ⟨hq, hq2⟩
          have ml := mid_len A X y q Z
          by_cases h0 : i < q
          · obtain ⟨q, rfl⟩ : ∃ r, q = r + 1 := ⟨q - 1, by omega⟩
            have g1 := mid_get (A := A) (T := X) (e := y) (j := q + 1) (R := Z) (by omega)
            have g2 := mid_get1 (A := A) (T := X) (e := y) (j := q) (R := Z) (by omega)
            have g3 := mid_swap (A := A) (T := X) (e := y) (j := q) (R := Z) (by omega)
            have d0 : A.length + (q + 1) - 1 = A.length + q := by omega
            simp -implicitDefEqProofs (maxSteps := 2000000) (disch := omega) only [go_sem, simprocAttr, -List.reduceReplicate, condB_t, condB_f, g1, d0, g2]
            exact ⟨q, ⟨by omega, by omega⟩, by omega, by (refine Weak.head1w (by simp -implicitDefEqProofs (maxSteps := 2000000) (disch := omega) only [go_sem, simprocAttr, -List.reduceReplicate, condB_t, condB_f, g1, d0, g2, g3] <;> (try rfl)) (by omega) (mapU _ _ _) (fun k0 b0 hk0 hb0 => by have hk1 : (k0 = _) = False := eq_false hk0; have hk2 := (hmen k0 b0 hb0).1; (simp -implicitDefEqProofs (maxSteps := 2000000) (disch := omega) only [go_sem, simprocAttr, -List.reduceReplicate, condB_t, condB_f, upd, mkH, hk1]) <;> (try (repeat rw [if_neg (by omega)])) <;> exact hb0) (by omega) hmen ?_; simp -implicitDefEqProofs (maxSteps := 2000000) (disch := omega) only [go_sem, simprocAttr, -List.reduceReplicate, condB_t, condB_f, AllP, AVle_same, AVle_int, AVle_nil, AVle_row, topU_int, topU_bool, topU_sl, topU_row, topU_ptr, topU_iptr, topU_fn, val, List.drop_length, g1, d0, g2, g3])⟩
          · obtain rfl : q = i := by omega
            have e1 : mid A X y q Z = A ++ isort (X ++ [y]) ++ Z := by
              rw [e9]
              refine mid_ins hX h2 (fun h0 => ?_) h4
              refine h3 _ ?_
              rw [List.getD_eq_getElem?_getD, List.getElem?_eq_getElem (by omega)]
              exact List.mem_take_iff_getElem.2 ⟨q - 1, by omega, rfl⟩
            rw [e1]
            simp -implicitDefEqProofs (maxSteps := 2000000) (disch := omega) only [go_sem, simprocAttr, -List.reduceReplicate, condB_t, condB_f]
            exact ⟨fun _ _ => rfl, .tup rfl nofun⟩
  obtain ⟨c, hc⟩ : ∃ c, c = (X.length + Y.length) / 2 := ⟨_, rfl⟩
  have hM : (A.length + (A.length + (X.length + Y.length))) / 2 = A.length + c := by omega
  obtain ⟨s0, t0, q1, q2, q3, q4, q5, q6, q7, q8⟩ : ∃ s0 t0 : Nat, s0 ≤ t0 ∧ t0 ≤ X.length ∧ t0 ≤ c ∧ (s0 = 0 ∨ s0 + Y.length = c) ∧ c ≤ s0 + Y.length ∧ (t0 = X.length ∨ t0 = c) ∧ (c < X.length → s0 + Y.length = c ∧ t0 = c) ∧ (X.length ≤ c → s0 = 0 ∧ t0 = X.length) := ⟨c - Y.length, min X.length c, by omega, by omega, by omega, by omega, by omega, by omega, by omega, by omega⟩
  apply cutP
  · intro tail
    by_cases hg : c < X.length
    · have z1 : ((A.length + (c + (A.length + X.length)) : Nat) : Int) - ((A.length + (X.length + Y.length) : Nat) : Int) = ((A.length + s0 : Nat) : Int) := by omega
      have z2 : c = t0 := (q7 hg).2.symm
      simp -implicitDefEqProofs (maxSteps := 2000000) (disch := omega) only [go_sem, simprocAttr, -List.reduceReplicate, condB_t, condB_f, hid, d1, d2, hM, z1]
      refine aw_weak (Weak.head1w (l := [(0, .row id N 0 N), (1, .int .i64 A.length), (2, .int .i64 (A.length + X.length : Nat)), (3, .int .i64 (A.length + (X.length + Y.length) : Nat)), (4, .fn 102), (18, .int .i64 (A.length + c : Nat)), (19, .int .i64 (A.length + (c + (A.length + X.length)) : Nat)), (20, .int .i64 (A.length + s0 : Nat)), (21, .int .i64 (A.length + t0 : Nat)), (22, .int .i64 (A.length + (c + (A.length + X.length)) - 1 : Nat))]) hid (by omega) (mapU _ _ _) (fun k0 b0 _ hb0 => hb0) (by omega) hmen (by rw [← z2]; simp -implicitDefEqProofs (maxSteps := 2000000) (disch := omega) only [go_sem, simprocAttr, -List.reduceReplicate, condB_t, condB_f, AllP, AVle_same, AVle_int, AVle_nil, AVle_row, topU_int, topU_bool, topU_sl, topU_row, topU_ptr, topU_iptr, topU_fn, val, List.drop_length])) ?_
      exact tail.out
    · obtain ⟨z2, z3⟩ := q8 (by omega)
      simp -implicitDefEqProofs (maxSteps := 2000000) (disch := omega) only [go_sem, simprocAttr, -List.reduceReplicate, condB_t, condB_f, hid, d1, d2, hM]
      refine aw_weak (Weak.head1w (l := [(0, .row id N 0 N), (1, .int .i64 A.length), (2, .int .i64 (A.length + X.length : Nat)), (3, .int .i64 (A.length + (X.length + Y.length) : Nat)), (4, .fn 102), (18, .int .i64 (A.length + c : Nat)), (19, .int .i64 (A.length + (c + (A.length + X.length)) : Nat)), (20, .int .i64 (A.length + s0 : Nat)), (21, .int .i64 (A.length + t0 : Nat)), (22, .int .i64 (A.length + (c + (A.length + X.length)) - 1 : Nat))]) hid (by omega) (mapU _ _ _) (fun k0 b0 _ hb0 => hb0) (by omega) hmen (by rw [z2, z3]; simp -implicitDefEqProofs (maxSteps := 2000000) (disch := omega) only [go_sem, simprocAttr, -List.reduceReplicate, condB_t, condB_f, AllP, AVle_same, AVle_int, AVle_nil, AVle_row, topU_int, topU_bool, topU_sl, topU_row, topU_ptr, topU_iptr, topU_fn, val, List.drop_length])) ?_
      exact tail.out
  · have lD : (A ++ X ++ Y ++ Z).length = N := hN
    refine aw_loop (X := Nat × Nat) (fun x' => ⟨mkS [(0, .row id N 0 N), (1, .int .i64 A.length), (2, .int .i64 (A.length + X.length : Nat)), (3, .int .i64 (A.length + (X.length + Y.length) : Nat)), (4, .fn 102), (18, .int .i64 (A.length + c : Nat)), (19, .int .i64 (A.length + (c + (A.length + X.length)) : Nat)), (20, .int .i64 (A.length + x'.1 : Nat)), (21, .int .i64 (A.length + x'.2 : Nat)), (22, .int .i64 (A.length + (c + (A.length + X.length)) - 1 : Nat))], mkH h [(id, ⟨4, (A ++ X ++ Y ++ Z).map entC⟩)], N0⟩)
      (fun x' => s0 ≤ x'.1 ∧ x'.1 ≤ x'.2 ∧ x'.2 ≤ t0 ∧ (s0 < x'.1 → (X.getD (x'.1 - 1) default).1 ≤ (Y.getD (c - x'.1) default).1) ∧ (x'.2 < t0 → (Y.getD (c - 1 - x'.2) default).1 < (X.getD x'.2 default).1)) (fun x' => x'.2 - x'.1) ⟨(s0, t0), ⟨Nat.le_refl _, q1, Nat.le_refl _, fun h => by simp only at h; omega, fun h => by simp only at h; omega⟩, ?_⟩ ?_
    · (refine Weak.head1w (by simp -implicitDefEqProofs (maxSteps := 2000000) (disch := omega) only [go_sem, simprocAttr, -List.reduceReplicate, condB_t, condB_f] <;> (try rfl)) (by omega) (mapU _ _ _) (fun k0 b0 hk0 hb0 => by have hk1 : (k0 = _) = False := eq_false hk0; have hk2 := (hmen k0 b0 hb0).1; (simp -implicitDefEqProofs (maxSteps := 2000000) (disch := omega) only [go_sem, simprocAttr, -List.reduceReplicate, condB_t, condB_f, upd, mkH, hk1]) <;> (try (repeat rw [if_neg (by omega)])) <;> exact hb0) (by omega) hmen ?_; simp -implicitDefEqProofs (maxSteps := 2000000) (disch := omega) only [go_sem, simprocAttr, -List.reduceReplicate, condB_t, condB_f, AllP, AVle_same, AVle_int, AVle_nil, AVle_row, topU_int, topU_bool, topU_sl, topU_row, topU_ptr, topU_iptr, topU_fn, val, List.drop_length])
    · rintro ⟨s, t⟩ ⟨h1, h2, h3, h4, h5⟩
      simp only at h1 h2 h3 h4 h5 ⊢
      by_cases hst : s < t
      · obtain ⟨w, hw, hw1, hw2⟩ : ∃ w, (A.length + (s + (A.length + t))) / 2 = A.length + w ∧ s ≤ w ∧ w < t := ⟨(s + t) / 2, by omega, by omega, by omega⟩
        have z1 : ((A.length + (c + (A.length + X.length)) - 1 : Nat) : Int) - ((A.length + w : Nat) : Int) = ((A.length + (X.length + (c - 1 - w)) : Nat) : Int) := by omega
        have g1 := four_getX (A := A) (X := X) (Y := Y) (Z := Z) (k := w) (by omega)
        have g2 := four_getY (A := A) (X := X) (Y := Y) (Z := Z) (k := c - 1 - w) (by omega)
        have cm := sortedLt_spec (Y.getD (c - 1 - w) default) (X.getD w default)
        unfold entC at cm
        simp -implicitDefEqProofs (maxSteps := 2000000) (disch := omega) only [go_sem, simprocAttr, -List.reduceReplicate, condB_t, condB_f, hw, z1, g1, g2, lD]
        refine pcallK_pure cm ?_
        unfold cmpI
        by_cases hlt : (Y.getD (c - 1 - w) default).1 < (X.getD w default).1
        · rw [if_pos hlt]
          simp -implicitDefEqProofs (maxSteps := 2000000) (disch := omega) only [go_sem, simprocAttr, -List.reduceReplicate, condB_t, condB_f]
          exact ⟨(s, w), ⟨h1, hw1, by simp only; omega, h4, fun _ => hlt⟩, by simp only; omega, by (refine Weak.head1w (by simp -implicitDefEqProofs (maxSteps := 2000000) (disch := omega) only [go_sem, simprocAttr, -List.reduceReplicate, condB_t, condB_f] <;> (try rfl)) (by omega) (mapU _ _ _) (fun k0 b0 hk0 hb0 => by have hk1 : (k0 = _) = False := eq_false hk0; have hk2 := (hmen k0 b0 hb0).1; (simp -implicitDefEqProofs (maxSteps := 2000000) (disch := omega) only [go_sem, simprocAttr, -List.reduceReplicate, condB_t, condB_f, upd, mkH, hk1]) <;> (try (repeat rw [if_neg (by omega)])) <;> exact hb0) (by omega) hmen ?_; simp -implicitDefEqProofs (maxSteps := 2000000) (disch := omega) only [go_sem, simprocAttr, -List.reduceReplicate, condB_t, condB_f, AllP, AVle_same, AVle_int, AVle_nil, AVle_row, topU_int, topU_bool, topU_sl, topU_row, topU_ptr, topU_iptr, topU_fn, val, List.drop_length])⟩
        · have hge : w + 1 > s0 → (X.getD (w + 1 - 1) default).1 ≤ (Y.getD (c - (w + 1)) default).1 := fun _ => by rw [Nat.add_sub_cancel, show c - (w + 1) = c - 1 - w by omega]; omega
          rw [if_neg hlt]
          by_cases heq : (Y.getD (c - 1 - w) default).1 = (X.getD w default).1
          · rw [if_pos heq]
            simp -implicitDefEqProofs (maxSteps := 2000000) (disch := omega) only [go_sem, simprocAttr, -List.reduceReplicate, condB_t, condB_f]
            exact ⟨(w + 1, t), ⟨by simp only; omega, hw2, h3, hge, h5⟩, by simp only; omega, by (refine Weak.head1w (by simp -implicitDefEqProofs (maxSteps := 2000000) (disch := omega) only [go_sem, simprocAttr, -List.reduceReplicate, condB_t, condB_f] <;> (try rfl)) (by omega) (mapU _ _ _) (fun k0 b0 hk0 hb0 => by have hk1 : (k0 = _) = False := eq_false hk0; have hk2 := (hmen k0 b0 hb0).1; (simp -implicitDefEqProofs (maxSteps := 2000000) (disch := omega) only [go_sem, simprocAttr, -List.reduceReplicate, condB_t, condB_f, upd, mkH, hk1]) <;> (try (repeat rw [if_neg (by omega)])) <;> exact hb0) (by omega) hmen ?_; simp -implicitDefEqProofs (maxSteps := 2000000) (disch := omega) only [go_sem, simprocAttr, -List.reduceReplicate, condB_t, condB_f, AllP, AVle_same, AVle_int, AVle_nil, AVle_row, topU_int, topU_bool, topU_sl, topU_row, topU_ptr, topU_iptr, topU_fn, val, List.drop_length])⟩
          · rw [if_neg heq]
            simp -implicitDefEqProofs (maxSteps := 2000000) (disch := omega) only [go_sem, simprocAttr, -List.reduceReplicate, condB_t, condB_f]
            exact ⟨(w + 1, t), ⟨by simp only; omega, hw2, h3, hge, h5⟩, by simp only; omega, by (refine Weak.head1w (by simp -implicitDefEqProofs (maxSteps := 2000000) (disch := omega) only [go_sem, simprocAttr, -List.reduceReplicate, condB_t, condB_f] <;> (try rfl)) (by omega) (mapU _ _ _) (fun k0 b0 hk0 hb0 => by have hk1 : (k0 = _) = False := eq_false hk0; have hk2 := (hmen k0 b0 hb0).1; (simp -implicitDefEqProofs (maxSteps := 2000000) (disch := omega) only [go_sem, simprocAttr, -List.reduceReplicate, condB_t, condB_f, upd, mkH, hk1]) <;> (try (repeat rw [if_neg (by omega)])) <;> exact hb0) (by omega) hmen ?_; simp -implicitDefEqProofs (maxSteps := 2000000) (disch := omega) only [go_sem, simprocAttr, -List.reduceReplicate, condB_t, condB_f, AllP, AVle_same, AVle_int, AVle_nil, AVle_row, topU_int, topU_bool, topU_sl, topU_row, topU_ptr, topU_iptr, topU_fn, val, List.drop_length])⟩
      · obtain rfl : s = t := by omega
        have part := isort_part hX hY h1 h3 q2 q3 q4 q5 q6 h4 h5
        have lx1 : (X.take s).length = s := by rw [List.length_take]; omega
        have lx2 : (X.drop s).length = X.length - s := List.length_drop
        have ly1 : (Y.take (c - s)).length = c - s := by rw [List.length_take]; omega
        have ly2 : (Y.drop (c - s)).length = Y.length - (c - s) := List.length_drop
        have sx : SortE (X.take s ++ X.drop s) := by rw [List.take_append_drop]; exact hX
        have sy : SortE (Y.take (c - s) ++ Y.drop (c - s)) := by rw [List.take_append_drop]; exact hY
        have ex : X.take s ++ X.drop s = X := List.take_append_drop ..
        have ey : Y.take (c - s) ++ Y.drop (c - s) = Y := List.take_append_drop ..
        obtain ⟨sx1, sx2, _⟩ := sortE_app.1 sx
        obtain ⟨sy1, sy2, _⟩ := sortE_app.1 sy
        generalize X.take s = X1 at *
        generalize X.drop s = X2 at *
        generalize Y.take (c - s) = Y1 at *
        generalize Y.drop (c - s) = Y2 at *
        have lr1 : (isort (X1 ++ Y1)).length = c := by rw [isort_len, List.length_append]; omega
        obtain ⟨D0, hD0⟩ : ∃ D, D = A ++ X ++ Y ++ Z := ⟨_, rfl⟩
        obtain ⟨D1, hD1⟩ : ∃ D, D = A ++ X1 ++ Y1 ++ (X2 ++ Y2 ++ Z) := ⟨_, rfl⟩
        obtain ⟨D2, hD2⟩ : ∃ D, D = A ++ isort (X1 ++ Y1) ++ (X2 ++ Y2 ++ Z) := ⟨_, rfl⟩
        obtain ⟨D3, hD3⟩ : ∃ D, D = A ++ isort (X ++ Y) ++ Z := ⟨_, rfl⟩
        have rot : s < X.length → s < c → ∀ (hh : Heap) (mm : Nat), hh id = some ⟨4, D0.map entC⟩ → ADet Try.prog 184 [.row id N 0 N, .int .i64 (A.length + s : Nat), .int .i64 (A.length + X.length : Nat), .int .i64 (A.length + (X.length + (c - s)) : Nat), .fn 102] hh mm (.tup []) (upd hh id (some ⟨4, D1.map entC⟩)) := fun hp hq hh mm hi => by
          have e0 : (A ++ X1) ++ X2 ++ Y1 ++ (Y2 ++ Z) = D0 := by rw [hD0, ← ex, ← ey]; simp
          have e1 : (A ++ X1) ++ Y1 ++ X2 ++ (Y2 ++ Z) = D1 := by rw [hD1]; simp
          have := rotate_spec (A ++ X1) X2 Y1 (Y2 ++ Z) N (by omega) (by omega) (by rw [e0, hD0]; exact hN) hs hh id mm (by rw [e0]; exact hi)
          rw [e1, List.length_append, lx1, lx2, ly1, show A.length + s + (X.length - s) = A.length + X.length by omega, Nat.add_assoc A.length X.length] at this
          exact this
        have nrot : ¬ (s < X.length ∧ s < c) → D0 = D1 := fun hn => by
          rw [hD0, hD1, ← ex, ← ey]
          rcases Nat.lt_or_ge s X.length with g | g
          · rw [List.eq_nil_of_length_eq_zero (l := Y1) (by omega)]; simp
          · rw [List.eq_nil_of_length_eq_zero (l := X2) (by omega)]; simp
        have m1 : 0 < s → s < c → ∀ (hh : Heap) (mm : Nat), hh id = some ⟨4, D1.map entC⟩ → ADet Try.prog 164 [.row id N 0 N, .int .i64 A.length, .int .i64 (A.length + s : Nat), .int .i64 (A.length + c : Nat), .fn 102] hh mm (.tup []) (upd hh id (some ⟨4, D2.map entC⟩)) := fun hp hq hh mm hi => by
          have := ih (X1.length + Y1.length) (by omega) A X1 Y1 (X2 ++ Y2 ++ Z) N rfl (by omega) (by omega) sx1 sy1 (by simp only [List.length_append]; omega) hs hh id mm (by rw [← hD1]; exact hi)
          rw [← hD2, lx1, ly1, show A.length + s + (c - s) = A.length + c by omega] at this
          exact this
        have nm1 : ¬ (0 < s ∧ s < c) → D1 = D2 := fun hn => by
          rw [hD1, hD2]
          rcases Nat.eq_zero_or_pos s with g | g
          · rw [List.eq_nil_of_length_eq_zero (l := X1) (by omega), List.nil_append, isort_id sy1]; simp
          · rw [List.eq_nil_of_length_eq_zero (l := Y1) (by omega), List.append_nil X1, isort_id sx1]; simp
        have m2 : s < X.length → c - s < Y.length → ∀ (hh : Heap) (mm : Nat), hh id = some ⟨4, D2.map entC⟩ → ADet Try.prog 164 [.row id N 0 N, .int .i64 (A.length + c : Nat), .int .i64 (A.length + (X.length + (c - s)) : Nat), .int .i64 (A.length + (X.length + Y.length) : Nat), .fn 102] hh mm (.tup []) (upd hh id (some ⟨4, D3.map entC⟩)) := fun hp hq hh mm hi => by
          have e2 : (A ++ isort (X1 ++ Y1)) ++ X2 ++ Y2 ++ Z = D2 := by rw [hD2]; simp
          have e3 : (A ++ isort (X1 ++ Y1)) ++ isort (X2 ++ Y2) ++ Z = D3 := by rw [hD3, part]; simp
          have := ih (X2.length + Y2.length) (by omega) (A ++ isort (X1 ++ Y1)) X2 Y2 Z N rfl (by omega) (by omega) sx2 sy2 (by simp only [List.length_append, lr1]; omega) hs hh id mm (by rw [e2]; exact hi)
          rw [e3, List.length_append, lr1, lx2, ly2, show A.length + c + (X.length - s) = A.length + (X.length + (c - s)) by omega, show A.length + (X.length + (c - s)) + (Y.length - (c - s)) = A.length + (X.length + Y.length) by omega] at this
          exact this
        have nm2 : ¬ (s < X.length ∧ c - s < Y.length) → D2 = D3 := fun hn => by
          rw [hD2, hD3, part]
          rcases Nat.lt_or_ge s X.length with g | g
          · rw [List.eq_nil_of_length_eq_zero (l := Y2) (by omega), List.append_nil X2, isort_id sx2]; simp
          · rw [List.eq_nil_of_length_eq_zero (l := X2) (by omega), List.nil_append, isort_id sy2]; simp
        have z1 : ((A.length + (c + (A.length + X.length)) : Nat) : Int) - ((A.length + s : Nat) : Int) = ((A.length + (X.length + (c - s)) : Nat) : Int) := by omega
        rw [← hD0, ← hD3]
        clear ih part hD0 hD1 hD2 hD3 h4 h5 ex ey sx sy sx1 sx2 sy1 sy2 q4 q6 q7 q8 hX hY
        by_cases hP : s < X.length <;> by_cases hQ : s < c <;> by_cases hR : 0 < s <;> by_cases hT : c - s < Y.length
        all_goals try (exfalso; omega)
        all_goals try rw [nrot (by omega)]
        all_goals simp -implicitDefEqProofs (maxSteps := 2000000) (disch := omega) only [go_sem, simprocAttr, -List.reduceReplicate, condB_t, condB_f, z1]
        all_goals try (refine callK_of (rot (by omega) (by omega) _ _ (by simp -implicitDefEqProofs (maxSteps := 2000000) (disch := omega) only [go_sem, simprocAttr, -List.reduceReplicate, condB_t, condB_f])) ?_; simp -implicitDefEqProofs (maxSteps := 2000000) (disch := omega) only [go_sem, simprocAttr, -List.reduceReplicate, condB_t, condB_f, z1])
        all_goals try rw [nm1 (by omega)]
        all_goals try (refine callK_of (m1 (by omega) (by omega) _ _ (by simp -implicitDefEqProofs (maxSteps := 2000000) (disch := omega) only [go_sem, simprocAttr, -List.reduceReplicate, condB_t, condB_f])) ?_; simp -implicitDefEqProofs (maxSteps := 2000000) (disch := omega) only [go_sem, simprocAttr, -List.reduceReplicate, condB_t, condB_f, z1])
        all_goals try rw [nm2 (by omega)]
        all_goals try (refine callK_of (m2 (by omega) (by omega) _ _ (by simp -implicitDefEqProofs (maxSteps := 2000000) (disch := omega) only [go_sem, simprocAttr, -List.reduceReplicate, condB_t, condB_f])) ?_; simp -implicitDefEqProofs (maxSteps := 2000000) (disch := omega) only [go_sem, simprocAttr, -List.reduceReplicate, condB_t, condB_f, z1])
        all_goals first | exact .tup rfl nofun | exact ⟨fun _ _ => rfl, .tup rfl nofun⟩ | exact ⟨fun _ _ => by simp only [upd]; split <;> rfl, .tup rfl nofun⟩
end Go.Abs
/-! YtbVec2b: Sparse vectors: the stable sort of lists of at most 40 entries; a vector sorted. No condition. -/
set_option linter.unusedVariables false
set_option linter.unusedSimpArgs false
set_option maxRecDepth 100000
set_option maxHeartbeats 1000000
namespace Go.Abs
open Go.Proofs
@[go_sem] theorem R63 : Try.f63.results.toList = [.tmp 2] := rfl
@[go_sem] theorem R142 : Try.f142.results.toList = [] := rfl
@[go_sem] theorem R101 : Try.f101.results.toList = [] := rfl
@[go_sem] theorem R100 : Try.f100.results.toList = [.tmp 2] := rfl
set_option maxHeartbeats 4000000
theorem stable_spec20 (l : List Ent) (hs : l.length < 20) (h : Heap) (id m : Nat) (hid : h id = some ⟨4, l.map entC⟩) :
    ADet Try.prog 142 [.row id l.length 0 l.length, .int .i64 l.length, .fn 102] h m (.tup []) (upd h id (some ⟨4, (isort l).map entC⟩)) := by
  refine adet_of E0ok mixed Try.func142 (by kernel_rfl) rfl (by kernel_rfl) (Nat.le_of_ble_eq_true rfl) (none_put hid) fun N0 hn hmen _ => ⟨hmen.put hid (mapU _ _ _), ?_⟩
  have hidlt : id < N0 := (hmen id _ hid).1
  simp -implicitDefEqProofs (maxSteps := 2000000) (disch := omega) only [go_sem, simprocAttr, -List.reduceReplicate, condB_t, condB_f, hid]
  refine aw_loop (X := Unit) (fun _ => ⟨mkS [(0, .row id l.length 0 l.length), (1, .int .i64 l.length), (2, .fn 102), (6, .int .i64 20), (7, .int .i64 0), (8, .int .i64 20)], mkH h [(id, ⟨4, l.map entC⟩)], N0⟩)
    (fun _ => True) (fun _ => 0) ⟨(), trivial, ?_⟩ ?_
  · refine Weak.head1w hid (by omega) (mapU _ _ _) (fun k0 b0 _ hb0 => hb0) (by omega) hmen ?_
    simp -implicitDefEqProofs (maxSteps := 2000000) (disch := omega) only [go_sem, simprocAttr, -List.reduceReplicate, condB_t, condB_f, AllP, AVle_same, AVle_int, AVle_nil, AVle_row, topU_int, topU_bool, topU_sl, topU_row, topU_ptr, topU_iptr, topU_fn, val, List.drop_length]
  · rintro ⟨⟩ _
    simp -implicitDefEqProofs (maxSteps := 2000000) (disch := omega) only [go_sem, simprocAttr, -List.reduceReplicate, condB_t, condB_f]
    have c := fun mm => insertion_spec [] l [] l.length (by simp) (by omega) (mkH h [(id, ⟨4, l.map entC⟩)]) id mm (by simp -implicitDefEqProofs (maxSteps := 2000000) (disch := omega) only [go_sem, simprocAttr, -List.reduceReplicate, condB_t, condB_f])
    simp only [List.nil_append, List.append_nil, List.length_nil, Nat.zero_add] at c
    refine callK_of (c _) ?_
    simp -implicitDefEqProofs (maxSteps := 2000000) (disch := omega) only [go_sem, simprocAttr, -List.reduceReplicate, condB_t, condB_f]
    refine aw_loop (X := Unit) (fun _ => ⟨mkS [(0, .row id l.length 0 l.length), (1, .int .i64 l.length), (2, .fn 102), (6, .int .i64 20)], mkH h [(id, ⟨4, (isort l).map entC⟩)], N0⟩)
      (fun _ => True) (fun _ => 0) ⟨(), trivial, ?_⟩ ?_
    · (refine Weak.head1w (by simp -implicitDefEqProofs (maxSteps := 2000000) (disch := omega) only [go_sem, simprocAttr, -List.reduceReplicate, condB_t, condB_f] <;> (try rfl)) (by omega) (mapU _ _ _) (fun k0 b0 hk0 hb0 => by have hk1 : (k0 = _) = False := eq_false hk0; have hk2 := (hmen k0 b0 hb0).1; (simp -implicitDefEqProofs (maxSteps := 2000000) (disch := omega) only [go_sem, simprocAttr, -List.reduceReplicate, condB_t, condB_f, upd, mkH, hk1]) <;> (try (repeat rw [if_neg (by omega)])) <;> exact hb0) (by omega) hmen ?_; simp -implicitDefEqProofs (maxSteps := 2000000) (disch := omega) only [go_sem, simprocAttr, -List.reduceReplicate, condB_t, condB_f, AllP, AVle_same, AVle_int, AVle_nil, AVle_row, topU_int, topU_bool, topU_sl, topU_row, topU_ptr, topU_iptr, topU_fn, val, List.drop_length])
    · rintro ⟨⟩ _
      simp -implicitDefEqProofs (maxSteps := 2000000) (disch := omega) only [go_sem, simprocAttr, -List.reduceReplicate, condB_t, condB_f]
      exact ⟨fun _ _ => rfl, .tup rfl nofun⟩
theorem stable_spec (l : List Ent) (hs : l.length ≤ 40) (h : Heap) (id m : Nat) (hid : h id = some ⟨4, l.map entC⟩) :
    ADet Try.prog 142 [.row id l.length 0 l.length, .int .i64 l.length, .fn 102] h m (.tup []) (upd h id (some ⟨4, (isort l).map entC⟩)) := by
  rcases Nat.lt_or_ge l.length 20 with g20 | g20
  · exact stable_spec20 l g20 h id m hid
  obtain ⟨n, hn'⟩ : ∃ n, n = l.length := ⟨_, rfl⟩
  obtain ⟨L1, L2, e12, l1, l2⟩ : ∃ L1 L2, l = L1 ++ L2 ∧ L1.length = 20 ∧ L2.length = n - 20 := ⟨l.take 20, l.drop 20, (List.take_append_drop ..).symm, by rw [List.length_take]; omega, by rw [List.length_drop, hn']⟩
  have eD : isort (isort L1 ++ isort L2) = isort l := by rw [isort_app_left, e12]
  have k1 := isort_len L1
  have k2 := isort_len L2
  rw [← hn'] at hs g20 ⊢
  have s1 := isort_sort L1
  have s2 := isort_sort L2
  have i1 : ∀ (hh : Heap) (mm : Nat), hh id = some ⟨4, l.map entC⟩ → ADet Try.prog 163 [.row id n 0 n, .int .i64 0, .int .i64 20, .fn 102] hh mm (.tup []) (upd hh id (some ⟨4, (isort L1 ++ L2).map entC⟩)) := fun hh mm hi => by
    have := insertion_spec [] L1 L2 n (by rw [List.nil_append, ← e12, hn']) (by omega) hh id mm (by rw [List.nil_append, ← e12]; exact hi)
    simpa [l1] using this
  have i2 : ∀ (hh : Heap) (mm : Nat), hh id = some ⟨4, (isort L1 ++ L2).map entC⟩ → ADet Try.prog 163 [.row id n 0 n, .int .i64 20, .int .i64 n, .fn 102] hh mm (.tup []) (upd hh id (some ⟨4, (isort L1 ++ isort L2).map entC⟩)) := fun hh mm hi => by
    have := insertion_spec (isort L1) L2 [] n (by simp only [List.length_append, List.length_nil]; omega) (by omega) hh id mm (by rw [List.append_nil]; exact hi)
    rw [k1, l1, List.append_nil, show 20 + L2.length = n by omega] at this
    exact this
  have i3 : n = 40 → ∀ (hh : Heap) (mm : Nat), hh id = some ⟨4, (isort L1 ++ isort L2).map entC⟩ → ADet Try.prog 163 [.row id n 0 n, .int .i64 40, .int .i64 n, .fn 102] hh mm (.tup []) (upd hh id (some ⟨4, (isort L1 ++ isort L2).map entC⟩)) := fun h40 hh mm hi => by
    have := insertion_spec (isort L1 ++ isort L2) [] [] n (by simp only [List.length_append, List.length_nil]; omega) (by omega) hh id mm (by rw [List.append_nil, List.append_nil]; exact hi)
    rw [List.length_append, k1, k2, l1, l2, h40] at this
    rw [h40]
    simpa [isort] using this
  have m1 : 20 < n → ∀ (hh : Heap) (mm : Nat), hh id = some ⟨4, (isort L1 ++ isort L2).map entC⟩ → ADet Try.prog 164 [.row id n 0 n, .int .i64 0, .int .i64 20, .int .i64 n, .fn 102] hh mm (.tup []) (upd hh id (some ⟨4, (isort l).map entC⟩)) := fun hgt hh mm hi => by
    have := symMerge_spec _ [] (isort L1) (isort L2) [] n rfl (by omega) (by omega) s1 s2 (by simp only [List.length_append, List.length_nil]; omega) (by omega) hh id mm (by rw [List.append_nil]; exact hi)
    rw [eD, List.append_nil, List.nil_append, List.length_nil, Nat.zero_add, k1, k2, l1, l2, show 20 + (n - 20) = n by omega] at this
    exact this
  have eE : n = 20 → isort L1 ++ isort L2 = isort l := fun h => by
    rw [← eD, List.eq_nil_of_length_eq_zero (l := L2) (by omega)]
    simp only [isort, List.foldl_nil, List.append_nil]
    exact (isort_id s1).symm
  have hln : l.length = n := hn'.symm
  clear hn' e12 l1 l2 k1 k2 s1 s2 eD
  generalize isort l = D3 at *
  generalize isort L1 ++ isort L2 = D2 at *
  generalize isort L1 ++ L2 = D1 at *
  have key := hid
  refine adet_of E0ok mixed Try.func142 (by kernel_rfl) rfl (by kernel_rfl) (Nat.le_of_ble_eq_true rfl) (none_put hid) fun N0 hn hmen _ => ⟨hmen.put hid (mapU _ _ _), ?_⟩
  have hidlt : id < N0 := (hmen id _ hid).1
  simp -implicitDefEqProofs (maxSteps := 2000000) (disch := omega) only [go_sem, simprocAttr, -List.reduceReplicate, condB_t, condB_f, hid]
  refine aw_loop (X := Nat) (fun j => ⟨mkS [(0, .row id n 0 n), (1, .int .i64 n), (2, .fn 102), (6, .int .i64 20), (7, .int .i64 (20 * j : Nat)), (8, .int .i64 (20 * j + 20 : Nat))], mkH h [(id, ⟨4, (if j = 0 then l else if j = 1 then D1 else D2).map entC⟩)], N0⟩)
    (fun j => j = 0 ∨ j = 1 ∨ (j = 2 ∧ n = 40)) (fun j => 2 - j) ⟨0, .inl rfl, ?_⟩ ?_
  · refine Weak.head1w (by rw [if_pos rfl]; exact hid) (by omega) (mapU _ _ _) (fun k0 b0 _ hb0 => hb0) (by omega) hmen ?_
    simp -implicitDefEqProofs (maxSteps := 2000000) (disch := omega) only [go_sem, simprocAttr, -List.reduceReplicate, condB_t, condB_f, AllP, AVle_same, AVle_int, AVle_nil, AVle_row, topU_int, topU_bool, topU_sl, topU_row, topU_ptr, topU_iptr, topU_fn, val, List.drop_length]
  · apply cutP
    intro tail j hj
    rcases hj with rfl | rfl | ⟨rfl, h40⟩
    · simp only [↓reduceIte, Nat.mul_zero, Nat.zero_add]
      simp -implicitDefEqProofs (maxSteps := 2000000) (disch := omega) only [go_sem, simprocAttr, -List.reduceReplicate, condB_t, condB_f]
      refine callK_of (i1 _ _ (by simp -implicitDefEqProofs (maxSteps := 2000000) (disch := omega) only [go_sem, simprocAttr, -List.reduceReplicate, condB_t, condB_f])) ?_
      simp -implicitDefEqProofs (maxSteps := 2000000) (disch := omega) only [go_sem, simprocAttr, -List.reduceReplicate, condB_t, condB_f]
      refine ⟨1, .inr (.inl rfl), by omega, ?_⟩
      (refine Weak.head1w (by simp -implicitDefEqProofs (maxSteps := 2000000) (disch := omega) only [go_sem, simprocAttr, -List.reduceReplicate, condB_t, condB_f] <;> (try rfl)) (by omega) (mapU _ _ _) (fun k0 b0 hk0 hb0 => by have hk1 : (k0 = _) = False := eq_false hk0; have hk2 := (hmen k0 b0 hb0).1; (simp -implicitDefEqProofs (maxSteps := 2000000) (disch := omega) only [go_sem, simprocAttr, -List.reduceReplicate, condB_t, condB_f, upd, mkH, hk1]) <;> (try (repeat rw [if_neg (by omega)])) <;> exact hb0) (by omega) hmen ?_; simp -implicitDefEqProofs (maxSteps := 2000000) (disch := omega) only [go_sem, simprocAttr, -List.reduceReplicate, condB_t, condB_f, AllP, AVle_same, AVle_int, AVle_nil, AVle_row, topU_int, topU_bool, topU_sl, topU_row, topU_ptr, topU_iptr, topU_fn, val, List.drop_length])
    · by_cases h40 : n = 40
      · simp only [↓reduceIte, Nat.mul_one, Nat.reduceAdd, Nat.reduceEqDiff]
        simp -implicitDefEqProofs (maxSteps := 2000000) (disch := omega) only [go_sem, simprocAttr, -List.reduceReplicate, condB_t, condB_f]
        have i2 := i2
        rw [h40] at i2 ⊢
        refine callK_of (i2 _ _ (by simp -implicitDefEqProofs (maxSteps := 2000000) (disch := omega) only [go_sem, simprocAttr, -List.reduceReplicate, condB_t, condB_f])) ?_
        simp -implicitDefEqProofs (maxSteps := 2000000) (disch := omega) only [go_sem, simprocAttr, -List.reduceReplicate, condB_t, condB_f]
        refine ⟨2, by omega, by omega, ?_⟩
        (refine Weak.head1w (by simp -implicitDefEqProofs (maxSteps := 2000000) (disch := omega) only [go_sem, simprocAttr, -List.reduceReplicate, condB_t, condB_f] <;> (try rfl)) (by omega) (mapU _ _ _) (fun k0 b0 hk0 hb0 => by have hk1 : (k0 = _) = False := eq_false hk0; have hk2 := (hmen k0 b0 hb0).1; (simp -implicitDefEqProofs (maxSteps := 2000000) (disch := omega) only [go_sem, simprocAttr, -List.reduceReplicate, condB_t, condB_f, upd, mkH, hk1]) <;> (try (repeat rw [if_neg (by omega)])) <;> exact hb0) (by omega) hmen ?_; simp -implicitDefEqProofs (maxSteps := 2000000) (disch := omega) only [go_sem, simprocAttr, -List.reduceReplicate, condB_t, condB_f, AllP, AVle_same, AVle_int, AVle_nil, AVle_row, topU_int, topU_bool, topU_sl, topU_row, topU_ptr, topU_iptr, topU_fn, val, List.drop_length])
      · simp only [↓reduceIte, Nat.mul_one, Nat.reduceAdd, Nat.reduceEqDiff]
        simp -implicitDefEqProofs (maxSteps := 2000000) (disch := omega) only [go_sem, simprocAttr, -List.reduceReplicate, condB_t, condB_f]
        refine callK_of (i2 _ _ (by simp -implicitDefEqProofs (maxSteps := 2000000) (disch := omega) only [go_sem, simprocAttr, -List.reduceReplicate, condB_t, condB_f])) ?_
        simp -implicitDefEqProofs (maxSteps := 2000000) (disch := omega) only [go_sem, simprocAttr, -List.reduceReplicate, condB_t, condB_f]
        refine aw_weak (Weak.head1w (id := id) (h0 := h) (blk := ⟨4, D2.map entC⟩) (l := [(0, .row id n 0 n), (1, .int .i64 n), (2, .fn 102), (6, .int .i64 20)]) (by simp -implicitDefEqProofs (maxSteps := 2000000) (disch := omega) only [go_sem, simprocAttr, -List.reduceReplicate, condB_t, condB_f]) (by omega) (mapU entC D2 _) (fun k0 b0 hk0 hb0 => by simp only [upd, mkH, if_neg hk0]; exact hb0) (Nat.le_add_right N0 48) hmen (by simp -implicitDefEqProofs (maxSteps := 2000000) (disch := omega) only [go_sem, simprocAttr, -List.reduceReplicate, condB_t, condB_f, AllP, AVle_same, AVle_int, AVle_nil, AVle_row, topU_int, topU_bool, topU_sl, topU_row, topU_ptr, topU_iptr, topU_fn, val, List.drop_length])) ?_
        exact tail.out
    · simp only [↓reduceIte, Nat.reduceMul, Nat.reduceAdd, Nat.reduceEqDiff]
      simp -implicitDefEqProofs (maxSteps := 2000000) (disch := omega) only [go_sem, simprocAttr, -List.reduceReplicate, condB_t, condB_f]
      refine callK_of (i3 h40 _ _ (by simp -implicitDefEqProofs (maxSteps := 2000000) (disch := omega) only [go_sem, simprocAttr, -List.reduceReplicate, condB_t, condB_f])) ?_
      simp -implicitDefEqProofs (maxSteps := 2000000) (disch := omega) only [go_sem, simprocAttr, -List.reduceReplicate, condB_t, condB_f]
      refine aw_weak (Weak.head1w (id := id) (h0 := h) (blk := ⟨4, D2.map entC⟩) (l := [(0, .row id n 0 n), (1, .int .i64 n), (2, .fn 102), (6, .int .i64 20)]) (by simp -implicitDefEqProofs (maxSteps := 2000000) (disch := omega) only [go_sem, simprocAttr, -List.reduceReplicate, condB_t, condB_f]) (by omega) (mapU entC D2 _) (fun k0 b0 hk0 hb0 => by simp only [upd, mkH, if_neg hk0]; exact hb0) (Nat.le_add_right N0 48) hmen (by simp -implicitDefEqProofs (maxSteps := 2000000) (disch := omega) only [go_sem, simprocAttr, -List.reduceReplicate, condB_t, condB_f, AllP, AVle_same, AVle_int, AVle_nil, AVle_row, topU_int, topU_bool, topU_sl, topU_row, topU_ptr, topU_iptr, topU_fn, val, List.drop_length])) ?_
      exact tail.out
    · refine aw_loop (X := Nat) (fun j => ⟨mkS [(0, .row id n 0 n), (1, .int .i64 n), (2, .fn 102), (6, .int .i64 (20 * j + 20 : Nat))], mkH h [(id, ⟨4, (if j = 0 then D2 else D3).map entC⟩)], N0 + 48⟩)
        (fun j => j = 0 ∨ j = 1) (fun j => 1 - j) ⟨0, .inl rfl, ?_⟩ ?_
      · refine Weak.head1w (by simp only [mkH, upd_same, ↓reduceIte]) (by omega) (mapU _ _ _) (fun k0 b0 hk0 hb0 => by simp only [upd, mkH, if_neg hk0]; exact hb0) (by omega) hmen ?_
        simp -implicitDefEqProofs (maxSteps := 2000000) (disch := omega) only [go_sem, simprocAttr, -List.reduceReplicate, condB_t, condB_f, AllP, AVle_same, AVle_int, AVle_nil, AVle_row, topU_int, topU_bool, topU_sl, topU_row, topU_ptr, topU_iptr, topU_fn, val, List.drop_length]
      · intro j hj
        rcases hj with rfl | rfl
        · simp only [↓reduceIte, Nat.mul_zero, Nat.zero_add]
          by_cases hgt : 20 < n
          · simp -implicitDefEqProofs (maxSteps := 2000000) (disch := omega) only [go_sem, simprocAttr, -List.reduceReplicate, condB_t, condB_f]
            refine aw_loop (X := Nat) (fun j => ⟨mkS [(0, .row id n 0 n), (1, .int .i64 n), (2, .fn 102), (6, .int .i64 20), (7, .int .i64 (40 * j : Nat)), (8, .int .i64 (40 * j + 40 : Nat))], mkH h [(id, ⟨4, (if j = 0 then D2 else D3).map entC⟩)], N0 + 48⟩)
              (fun j => j = 0 ∨ (j = 1 ∧ n = 40)) (fun j => 1 - j) ⟨0, .inl rfl, ?_⟩ ?_
            · (refine Weak.head1w (by simp -implicitDefEqProofs (maxSteps := 2000000) (disch := omega) only [go_sem, simprocAttr, -List.reduceReplicate, condB_t, condB_f] <;> (try rfl)) (by omega) (mapU _ _ _) (fun k0 b0 hk0 hb0 => by have hk1 : (k0 = _) = False := eq_false hk0; have hk2 := (hmen k0 b0 hb0).1; (simp -implicitDefEqProofs (maxSteps := 2000000) (disch := omega) only [go_sem, simprocAttr, -List.reduceReplicate, condB_t, condB_f, upd, mkH, hk1]) <;> (try (repeat rw [if_neg (by omega)])) <;> exact hb0) (by omega) hmen ?_; simp -implicitDefEqProofs (maxSteps := 2000000) (disch := omega) only [go_sem, simprocAttr, -List.reduceReplicate, condB_t, condB_f, AllP, AVle_same, AVle_int, AVle_nil, AVle_row, topU_int, topU_bool, topU_sl, topU_row, topU_ptr, topU_iptr, topU_fn, val, List.drop_length])
            · intro j hj
              rcases hj with rfl | ⟨rfl, h40⟩
              · simp only [↓reduceIte, Nat.mul_zero, Nat.zero_add]
                by_cases h40 : n = 40
                · simp -implicitDefEqProofs (maxSteps := 2000000) (disch := omega) only [go_sem, simprocAttr, -List.reduceReplicate, condB_t, condB_f]
                  have m1 := m1 hgt
                  rw [h40] at m1 ⊢
                  refine callK_of (m1 _ _ (by simp -implicitDefEqProofs (maxSteps := 2000000) (disch := omega) only [go_sem, simprocAttr, -List.reduceReplicate, condB_t, condB_f])) ?_
                  simp -implicitDefEqProofs (maxSteps := 2000000) (disch := omega) only [go_sem, simprocAttr, -List.reduceReplicate, condB_t, condB_f]
                  refine ⟨1, by omega, by omega, ?_⟩
                  (refine Weak.head1w (by simp -implicitDefEqProofs (maxSteps := 2000000) (disch := omega) only [go_sem, simprocAttr, -List.reduceReplicate, condB_t, condB_f] <;> (try rfl)) (by omega) (mapU _ _ _) (fun k0 b0 hk0 hb0 => by have hk1 : (k0 = _) = False := eq_false hk0; have hk2 := (hmen k0 b0 hb0).1; (simp -implicitDefEqProofs (maxSteps := 2000000) (disch := omega) only [go_sem, simprocAttr, -List.reduceReplicate, condB_t, condB_f, upd, mkH, hk1]) <;> (try (repeat rw [if_neg (by omega)])) <;> exact hb0) (by omega) hmen ?_; simp -implicitDefEqProofs (maxSteps := 2000000) (disch := omega) only [go_sem, simprocAttr, -List.reduceReplicate, condB_t, condB_f, AllP, AVle_same, AVle_int, AVle_nil, AVle_row, topU_int, topU_bool, topU_sl, topU_row, topU_ptr, topU_iptr, topU_fn, val, List.drop_length])
                · simp -implicitDefEqProofs (maxSteps := 2000000) (disch := omega) only [go_sem, simprocAttr, -List.reduceReplicate, condB_t, condB_f]
                  refine callK_of (m1 hgt _ _ (by simp -implicitDefEqProofs (maxSteps := 2000000) (disch := omega) only [go_sem, simprocAttr, -List.reduceReplicate, condB_t, condB_f])) ?_
                  simp -implicitDefEqProofs (maxSteps := 2000000) (disch := omega) only [go_sem, simprocAttr, -List.reduceReplicate, condB_t, condB_f]
                  refine ⟨1, .inr rfl, by omega, ?_⟩
                  (refine Weak.head1w (by simp -implicitDefEqProofs (maxSteps := 2000000) (disch := omega) only [go_sem, simprocAttr, -List.reduceReplicate, condB_t, condB_f] <;> (try rfl)) (by omega) (mapU _ _ _) (fun k0 b0 hk0 hb0 => by have hk1 : (k0 = _) = False := eq_false hk0; have hk2 := (hmen k0 b0 hb0).1; (simp -implicitDefEqProofs (maxSteps := 2000000) (disch := omega) only [go_sem, simprocAttr, -List.reduceReplicate, condB_t, condB_f, upd, mkH, hk1]) <;> (try (repeat rw [if_neg (by omega)])) <;> exact hb0) (by omega) hmen ?_; simp -implicitDefEqProofs (maxSteps := 2000000) (disch := omega) only [go_sem, simprocAttr, -List.reduceReplicate, condB_t, condB_f, AllP, AVle_same, AVle_int, AVle_nil, AVle_row, topU_int, topU_bool, topU_sl, topU_row, topU_ptr, topU_iptr, topU_fn, val, List.drop_length])
              · simp only [↓reduceIte, Nat.reduceMul, Nat.reduceAdd, Nat.reduceEqDiff, Nat.succ_ne_self]
                simp -implicitDefEqProofs (maxSteps := 2000000) (disch := omega) only [go_sem, simprocAttr, -List.reduceReplicate, condB_t, condB_f]
                refine ⟨1, .inr rfl, by omega, ?_⟩
                (refine Weak.head1w (by simp -implicitDefEqProofs (maxSteps := 2000000) (disch := omega) only [go_sem, simprocAttr, -List.reduceReplicate, condB_t, condB_f] <;> (try rfl)) (by omega) (mapU _ _ _) (fun k0 b0 hk0 hb0 => by have hk1 : (k0 = _) = False := eq_false hk0; have hk2 := (hmen k0 b0 hb0).1; (simp -implicitDefEqProofs (maxSteps := 2000000) (disch := omega) only [go_sem, simprocAttr, -List.reduceReplicate, condB_t, condB_f, upd, mkH, hk1]) <;> (try (repeat rw [if_neg (by omega)])) <;> exact hb0) (by omega) hmen ?_; simp -implicitDefEqProofs (maxSteps := 2000000) (disch := omega) only [go_sem, simprocAttr, -List.reduceReplicate, condB_t, condB_f, AllP, AVle_same, AVle_int, AVle_nil, AVle_row, topU_int, topU_bool, topU_sl, topU_row, topU_ptr, topU_iptr, topU_fn, val, List.drop_length])
          · obtain rfl : n = 20 := by omega
            rw [eE rfl]
            simp -implicitDefEqProofs (maxSteps := 2000000) (disch := omega) only [go_sem, simprocAttr, -List.reduceReplicate, condB_t, condB_f]
            exact ⟨fun _ _ => rfl, .tup rfl nofun⟩
        · simp only [↓reduceIte, Nat.reduceMul, Nat.reduceAdd, Nat.reduceEqDiff, Nat.succ_ne_self]
          simp -implicitDefEqProofs (maxSteps := 2000000) (disch := omega) only [go_sem, simprocAttr, -List.reduceReplicate, condB_t, condB_f]
          exact ⟨fun _ _ => rfl, .tup rfl nofun⟩
theorem sortStable_spec (l : List Ent) (hs : l.length ≤ 40) (h : Heap) (id m : Nat) (hid : h id = some ⟨4, l.map entC⟩) :
    ADet Try.prog 101 [.row id l.length 0 l.length, .fn 102] h m (.tup []) (upd h id (some ⟨4, (isort l).map entC⟩)) := by
  refine adet_of E0ok mixed Try.func101 (by kernel_rfl) rfl (by kernel_rfl) (Nat.le_of_ble_eq_true rfl) (none_put hid) fun N0 hn hmen _ => ⟨hmen.put hid (mapU _ _ _), ?_⟩
  have hidlt : id < N0 := (hmen id _ hid).1
  simp -implicitDefEqProofs (maxSteps := 2000000) (disch := omega) only [go_sem, simprocAttr, -List.reduceReplicate, condB_t, condB_f, hid]
  refine callK_of (stable_spec l hs h id _ hid) ?_
  simp -implicitDefEqProofs (maxSteps := 2000000) (disch := omega) only [go_sem, simprocAttr, -List.reduceReplicate, condB_t, condB_f]
  exact dn
theorem clone_new (l : List Ent) (h0 : 0 < l.length) (hl : l.length ≤ 1099511627776) (h : Heap) (m : Nat) :
    ADet Try.prog 100 [EL l] h m (.row m l.length 0 l.length) (upd h m (some ⟨4, l.map entC⟩)) := by
  refine anew_of E0ok mixed Try.func100 (by kernel_rfl) rfl (by kernel_rfl) (Nat.le_of_ble_eq_true rfl) (fun _ h => h) (fun r hr => (mapP _ r hr).2) fun N0 hn hmen _ => ⟨hmen, ?_⟩
  unfold EL
  simp -implicitDefEqProofs (maxSteps := 2000000) (disch := omega) only [go_sem, simprocAttr, -List.reduceReplicate, condB_t, condB_f]
  exact ⟨N0 + 24, by omega, by simp -implicitDefEqProofs (maxSteps := 2000000) (disch := omega) only [go_sem, simprocAttr, -List.reduceReplicate, condB_t, condB_f], .val (.row _ _ _)⟩
theorem sorted_spec (v : List Ent) (k : Nat) (hk : OkL v k) (hk1 : 1 ≤ k) (hlen : v.length ≤ 40) (hb : k + v.length * (k + 1) ≤ 1000000000000) : PDet Try.prog 63 [EL v] (EL (srt v)) := by
  refine pdet_of E0ok mixed Try.func63 (by kernel_rfl) rfl (by kernel_rfl) (Nat.le_of_ble_eq_true rfl) fun N0 h hn hmen => ?_
  have hkm : k ≤ k + v.length * (k + 1) := Nat.le_add_right _ _
  have ca := ascending_spec v k hk (by omega) (by omega)
  unfold EL at *
  simp -implicitDefEqProofs (maxSteps := 2000000) (disch := omega) only [go_sem, simprocAttr, -List.reduceReplicate, condB_t, condB_f]
  refine callK_pure ca ?_
  by_cases hc : Can (eV v)
  · rw [decide_eq_true hc]
    have e : srt v = v := by unfold srt; rw [if_pos hc]
    rw [e]
    simp -implicitDefEqProofs (maxSteps := 2000000) (disch := omega) only [go_sem, simprocAttr, -List.reduceReplicate, condB_t, condB_f]
    exact dn
  · rw [decide_eq_false hc]
    have e : srt v = grpL (isort v) := by unfold srt; rw [if_neg hc]
    rw [e]
    have hv : 0 < v.length := by
      cases v with
      | nil => exact absurd ⟨.nil, nofun⟩ hc
      | cons x v => simp
    simp -implicitDefEqProofs (maxSteps := 2000000) (disch := omega) only [go_sem, simprocAttr, -List.reduceReplicate, condB_t, condB_f]
    have cl := fun mm hh => clone_new v hv (by omega) hh mm
    unfold EL at cl
    refine callK_of (cl _ _) ?_
    simp -implicitDefEqProofs (maxSteps := 2000000) (disch := omega) only [go_sem, simprocAttr, -List.reduceReplicate, condB_t, condB_f]
    refine callK_of (sortStable_spec v hlen _ _ _ (by simp -implicitDefEqProofs (maxSteps := 2000000) (disch := omega) only [go_sem, simprocAttr, -List.reduceReplicate, condB_t, condB_f])) ?_
    have hS := hk.perm (isort_perm v)
    have lS := isort_len v
    have hlS : (isort v).length ≤ 40 := by omega
    have hbS : k + (isort v).length * (k + 1) ≤ 1000000000000 := by rw [lS]; exact hb
    rw [← lS]
    clear hk hb hlen hkm hv ca
    generalize isort v = S at hS hlS hbS ⊢
    simp -implicitDefEqProofs (maxSteps := 2000000) (disch := omega) only [go_sem, simprocAttr, -List.reduceReplicate, condB_t, condB_f]
    refine aw_weak (Weak.nilRow (t := 4) (sz := 4) (id := N0 + 80) (by omega) (by omega) (by simp -implicitDefEqProofs (maxSteps := 2000000) (disch := omega) only [go_sem, simprocAttr, -List.reduceReplicate, condB_t, condB_f])) ?_
    obtain ⟨idS, hidS⟩ : ∃ idS, idS = N0 + 32 := ⟨_, rfl⟩
    obtain ⟨idR, hidR⟩ : ∃ idR, idR = N0 + 80 := ⟨_, rfl⟩
    rw [← hidS, ← hidR]
    have n1 : (idS = idR) = False := eq_false (by omega)
    have n2 : (idR = idS) = False := eq_false (by omega)
    refine aw_loop (X := Nat × List Ent) (fun x => ⟨mkS [(3, .row idS S.length 0 S.length), (4, .row idR x.2.length 0 x.2.length), (5, .int .i64 x.1)], mkH h [(idS, ⟨4, S.map entC⟩), (idR, ⟨4, x.2.map entC⟩)], idR + 8⟩)
      (fun x => x.1 ≤ S.length ∧ x.2 ++ grpL (S.drop x.1) = grpL S ∧ x.2.length ≤ x.1) (fun x => S.length - x.1) ⟨(0, []), ⟨Nat.zero_le _, rfl, Nat.le_refl _⟩, ?_⟩ ?_
    · simp only
      (refine Weak.head2w (by simp -implicitDefEqProofs (maxSteps := 2000000) (disch := omega) only [go_sem, simprocAttr, -List.reduceReplicate, condB_t, condB_f, n1, n2] <;> (try rfl)) (by omega) (by first | exact mapU _ _ _ | exact mapU entC [_] _ | exact mapU ratC [_] _ | (intro r hr a ha; simp only [List.mem_cons, List.not_mem_nil, or_false] at hr; subst hr; simp only [List.mem_cons, List.not_mem_nil, or_false] at ha; rcases ha with rfl | rfl | rfl <;> trivial)) (by simp -implicitDefEqProofs (maxSteps := 2000000) (disch := omega) only [go_sem, simprocAttr, -List.reduceReplicate, condB_t, condB_f, n1, n2] <;> (try rfl)) (by omega) (by first | exact mapU _ _ _ | exact mapU entC [_] _ | exact mapU ratC [_] _ | (intro r hr a ha; simp only [List.mem_cons, List.not_mem_nil, or_false] at hr; subst hr; simp only [List.mem_cons, List.not_mem_nil, or_false] at ha; rcases ha with rfl | rfl | rfl <;> trivial)) (fun k0 b0 hk00 hk01 hb0 => by have hk10 : (k0 = _) = False := eq_false hk00; have hk11 : (k0 = _) = False := eq_false hk01; have hk2 := (hmen k0 b0 hb0).1; (simp -implicitDefEqProofs (maxSteps := 2000000) (disch := omega) only [go_sem, simprocAttr, -List.reduceReplicate, condB_t, condB_f, upd, mkH, hk10, hk11]) <;> (try (repeat rw [if_neg (by omega)])) <;> exact hb0) (by omega) hmen ?_; simp -implicitDefEqProofs (maxSteps := 2000000) (disch := omega) only [go_sem, simprocAttr, -List.reduceReplicate, condB_t, condB_f, AllP, AVle_same, AVle_int, AVle_nil, AVle_row, topU_int, topU_bool, topU_sl, topU_row, topU_ptr, topU_iptr, topU_fn, val, List.drop_length])
    · rintro ⟨i, res⟩ ⟨hi, hr, hrl⟩
      simp only at hi hr hrl
      by_cases h0 : i < S.length
      · have eg := grpL_drop h0
        have he := hS.get h0
        simp -implicitDefEqProofs (maxSteps := 2000000) (disch := omega) only [go_sem, simprocAttr, -List.reduceReplicate, condB_t, condB_f]
        generalize S.getD i default = e0 at *
        obtain ⟨id6, hid6⟩ : ∃ id6, id6 = idR + 72 := ⟨_, rfl⟩
        rw [← hid6]
        have n3 : (idS = id6) = False := eq_false (by omega)
        have n4 : (id6 = idS) = False := eq_false (by omega)
        have n5 : (idR = id6) = False := eq_false (by omega)
        have n6 : (id6 = idR) = False := eq_false (by omega)
        have n7 : (idR = id6 + 168) = False := eq_false (by omega)
        have n8 : (idS = id6 + 168) = False := eq_false (by omega)
        refine aw_loop (X := Nat × Ent) (fun x => ⟨mkS [(3, .row idS S.length 0 S.length), (4, .row idR res.length 0 res.length), (5, .int .i64 (i + 1 + x.1 : Nat)), (6, .ptr id6 1 0 0)], mkH h [(idS, ⟨4, S.map entC⟩), (idR, ⟨4, res.map entC⟩), (id6, ⟨4, [[.int .i64 x.2.1, .bool x.2.2.s, .sl 1 (numL x.2.2.m), .sl 1 (numL x.2.2.d)]]⟩)], id6 + 8⟩)
          (fun x => i + 1 + x.1 ≤ S.length ∧ grp x.2 (S.drop (i + 1 + x.1)) = grpL (S.drop i) ∧ x.2.2.Ok (k + x.1 * (k + 1))) (fun x => S.length - x.1) ⟨(0, e0), ⟨h0, eg.symm, by simpa using he⟩, ?_⟩ ?_
        · (refine Weak.head3w (by simp -implicitDefEqProofs (maxSteps := 2000000) (disch := omega) only [go_sem, simprocAttr, -List.reduceReplicate, condB_t, condB_f, n1, n2, n3, n4, n5, n6, n7, n8] <;> (try rfl)) (by omega) (by first | exact mapU _ _ _ | exact mapU entC [_] _ | exact mapU ratC [_] _ | (intro r hr a ha; simp only [List.mem_cons, List.not_mem_nil, or_false] at hr; subst hr; simp only [List.mem_cons, List.not_mem_nil, or_false] at ha; rcases ha with rfl | rfl | rfl <;> trivial)) (by simp -implicitDefEqProofs (maxSteps := 2000000) (disch := omega) only [go_sem, simprocAttr, -List.reduceReplicate, condB_t, condB_f, n1, n2, n3, n4, n5, n6, n7, n8] <;> (try rfl)) (by omega) (by first | exact mapU _ _ _ | exact mapU entC [_] _ | exact mapU ratC [_] _ | (intro r hr a ha; simp only [List.mem_cons, List.not_mem_nil, or_false] at hr; subst hr; simp only [List.mem_cons, List.not_mem_nil, or_false] at ha; rcases ha with rfl | rfl | rfl <;> trivial)) (by simp -implicitDefEqProofs (maxSteps := 2000000) (disch := omega) only [go_sem, simprocAttr, -List.reduceReplicate, condB_t, condB_f, n1, n2, n3, n4, n5, n6, n7, n8] <;> (try rfl)) (by omega) (by first | exact mapU _ _ _ | exact mapU entC [_] _ | exact mapU ratC [_] _ | (intro r hr a ha; simp only [List.mem_cons, List.not_mem_nil, or_false] at hr; subst hr; simp only [List.mem_cons, List.not_mem_nil, or_false] at ha; rcases ha with rfl | rfl | rfl <;> trivial)) (fun k0 b0 hk00 hk01 hk02 hb0 => by have hk10 : (k0 = _) = False := eq_false hk00; have hk11 : (k0 = _) = False := eq_false hk01; have hk12 : (k0 = _) = False := eq_false hk02; have hk2 := (hmen k0 b0 hb0).1; (simp -implicitDefEqProofs (maxSteps := 2000000) (disch := omega) only [go_sem, simprocAttr, -List.reduceReplicate, condB_t, condB_f, upd, mkH, hk10, hk11, hk12]) <;> (try (repeat rw [if_neg (by omega)])) <;> exact hb0) (by omega) hmen ?_; simp -implicitDefEqProofs (maxSteps := 2000000) (disch := omega) only [go_sem, simprocAttr, -List.reduceReplicate, condB_t, condB_f, AllP, AVle_same, AVle_int, AVle_nil, AVle_row, topU_int, topU_bool, topU_sl, topU_row, topU_ptr, topU_iptr, topU_fn, val, List.drop_length])
        · rintro ⟨c, e⟩ ⟨hc, hg, heo⟩
          simp only at hc hg heo ⊢
          obtain ⟨j, hj⟩ : ∃ j, j = i + 1 + c := ⟨_, rfl⟩
          rw [← hj] at hc hg ⊢
          have hcm : c * (k + 1) + (k + 1) ≤ S.length * (k + 1) := by rw [← Nat.succ_mul]; exact Nat.mul_le_mul_right _ (by omega)
          have cs := rsign_spec e.2 _ heo (by omega)
          unfold Raw.cells nl at cs
          by_cases h1 : j < S.length
          · have hgd := grp_drop (e := e) h1
            by_cases h2 : (S.getD j default).1 = e.1
            · rw [if_pos h2] at hgd
              have hy := hS.get h1
              have ca := radd_spec e.2 _ _ k heo hy (by omega) hk1 (by omega)
              have hok := heo.add hy (by omega) hk1
              unfold rC Raw.cells nl at ca
              simp -implicitDefEqProofs (maxSteps := 2000000) (disch := omega) only [go_sem, simprocAttr, -List.reduceReplicate, condB_t, condB_f, n1, n2, n3, n4, n5, n6, n7, n8]
              refine pcallK_pure ca ?_
              simp -implicitDefEqProofs (maxSteps := 2000000) (disch := omega) only [go_sem, simprocAttr, -List.reduceReplicate, condB_t, condB_f, n1, n2, n3, n4, n5, n6, n7, n8]
              exact ⟨(c + 1, (e.1, canon (e.2.val + (S.getD j default).2.val))), ⟨by simp only; omega, by rw [← hg, hgd]; simp only; rw [show i + (1 + (c + 1)) = j + 1 by omega], by simp only; rw [Nat.succ_mul]; have := hok; rwa [show k + c * (k + 1) + k + 1 = k + (c * (k + 1) + (k + 1)) by omega] at this⟩, (by first | omega | (simp only; omega)), by (refine Weak.head3w (by simp -implicitDefEqProofs (maxSteps := 2000000) (disch := omega) only [go_sem, simprocAttr, -List.reduceReplicate, condB_t, condB_f, n1, n2, n3, n4, n5, n6, n7, n8] <;> (try rfl)) (by omega) (by first | exact mapU _ _ _ | exact mapU entC [_] _ | exact mapU ratC [_] _ | (intro r hr a ha; simp only [List.mem_cons, List.not_mem_nil, or_false] at hr; subst hr; simp only [List.mem_cons, List.not_mem_nil, or_false] at ha; rcases ha with rfl | rfl | rfl <;> trivial)) (by simp -implicitDefEqProofs (maxSteps := 2000000) (disch := omega) only [go_sem, simprocAttr, -List.reduceReplicate, condB_t, condB_f, n1, n2, n3, n4, n5, n6, n7, n8] <;> (try rfl)) (by omega) (by first | exact mapU _ _ _ | exact mapU entC [_] _ | exact mapU ratC [_] _ | (intro r hr a ha; simp only [List.mem_cons, List.not_mem_nil, or_false] at hr; subst hr; simp only [List.mem_cons, List.not_mem_nil, or_false] at ha; rcases ha with rfl | rfl | rfl <;> trivial)) (by simp -implicitDefEqProofs (maxSteps := 2000000) (disch := omega) only [go_sem, simprocAttr, -List.reduceReplicate, condB_t, condB_f, n1, n2, n3, n4, n5, n6, n7, n8] <;> (try rfl)) (by omega) (by first | exact mapU _ _ _ | exact mapU entC [_] _ | exact mapU ratC [_] _ | (intro r hr a ha; simp only [List.mem_cons, List.not_mem_nil, or_false] at hr; subst hr; simp only [List.mem_cons, List.not_mem_nil, or_false] at ha; rcases ha with rfl | rfl | rfl <;> trivial)) (fun k0 b0 hk00 hk01 hk02 hb0 => by have hk10 : (k0 = _) = False := eq_false hk00; have hk11 : (k0 = _) = False := eq_false hk01; have hk12 : (k0 = _) = False := eq_false hk02; have hk2 := (hmen k0 b0 hb0).1; (simp -implicitDefEqProofs (maxSteps := 2000000) (disch := omega) only [go_sem, simprocAttr, -List.reduceReplicate, condB_t, condB_f, upd, mkH, hk10, hk11, hk12]) <;> (try (repeat rw [if_neg (by omega)])) <;> exact hb0) (by omega) hmen ?_; simp -implicitDefEqProofs (maxSteps := 2000000) (disch := omega) only [go_sem, simprocAttr, -List.reduceReplicate, condB_t, condB_f, AllP, AVle_same, AVle_int, AVle_nil, AVle_row, topU_int, topU_bool, topU_sl, topU_row, topU_ptr, topU_iptr, topU_fn, val, List.drop_length])⟩
            · rw [if_neg h2] at hgd
              have F := hgd
              rw [F] at hg
              simp -implicitDefEqProofs (maxSteps := 2000000) (disch := omega) only [go_sem, simprocAttr, -List.reduceReplicate, condB_t, condB_f, n1, n2, n3, n4, n5, n6, n7, n8]
              refine callK_pure cs ?_
              by_cases hz : sgnR e.2.val = 0
              · rw [hz]
                simp -implicitDefEqProofs (maxSteps := 2000000) (disch := omega) only [go_sem, simprocAttr, -List.reduceReplicate, condB_t, condB_f, n1, n2, n3, n4, n5, n6, n7, n8]
                exact ⟨(j, res), ⟨hc, by rw [← hr, ← hg]; unfold fin1; rw [if_pos (sgnR_zero.1 hz)]; rfl, by simp only; omega⟩, (by first | omega | (simp only; omega)), by (refine Weak.head2w (by simp -implicitDefEqProofs (maxSteps := 2000000) (disch := omega) only [go_sem, simprocAttr, -List.reduceReplicate, condB_t, condB_f, n1, n2, n3, n4, n5, n6, n7, n8] <;> (try rfl)) (by omega) (by first | exact mapU _ _ _ | exact mapU entC [_] _ | exact mapU ratC [_] _ | (intro r hr a ha; simp only [List.mem_cons, List.not_mem_nil, or_false] at hr; subst hr; simp only [List.mem_cons, List.not_mem_nil, or_false] at ha; rcases ha with rfl | rfl | rfl <;> trivial)) (by simp -implicitDefEqProofs (maxSteps := 2000000) (disch := omega) only [go_sem, simprocAttr, -List.reduceReplicate, condB_t, condB_f, n1, n2, n3, n4, n5, n6, n7, n8] <;> (try rfl)) (by omega) (by first | exact mapU _ _ _ | exact mapU entC [_] _ | exact mapU ratC [_] _ | (intro r hr a ha; simp only [List.mem_cons, List.not_mem_nil, or_false] at hr; subst hr; simp only [List.mem_cons, List.not_mem_nil, or_false] at ha; rcases ha with rfl | rfl | rfl <;> trivial)) (fun k0 b0 hk00 hk01 hb0 => by have hk10 : (k0 = _) = False := eq_false hk00; have hk11 : (k0 = _) = False := eq_false hk01; have hk2 := (hmen k0 b0 hb0).1; (simp -implicitDefEqProofs (maxSteps := 2000000) (disch := omega) only [go_sem, simprocAttr, -List.reduceReplicate, condB_t, condB_f, upd, mkH, hk10, hk11]) <;> (try (repeat rw [if_neg (by omega)])) <;> exact hb0) (by omega) hmen ?_; simp -implicitDefEqProofs (maxSteps := 2000000) (disch := omega) only [go_sem, simprocAttr, -List.reduceReplicate, condB_t, condB_f, AllP, AVle_same, AVle_int, AVle_nil, AVle_row, topU_int, topU_bool, topU_sl, topU_row, topU_ptr, topU_iptr, topU_fn, val, List.drop_length])⟩
              · simp -implicitDefEqProofs (maxSteps := 2000000) (disch := omega) only [go_sem, simprocAttr, -List.reduceReplicate, condB_t, condB_f, n1, n2, n3, n4, n5, n6, n7, n8]
                have hsn : (res ++ [e]).length = res.length + 1 := by simp
                exact ⟨(j, res ++ [e]), ⟨hc, by rw [← hr, ← hg]; unfold fin1; rw [if_neg (fun h => hz (sgnR_zero.2 h))]; simp, by simp only [List.length_append, List.length_cons, List.length_nil]; omega⟩, (by first | omega | (simp only; omega)), by (refine Weak.head2w (by simp -implicitDefEqProofs (maxSteps := 2000000) (disch := omega) only [go_sem, simprocAttr, -List.reduceReplicate, condB_t, condB_f, n1, n2, n3, n4, n5, n6, n7, n8] <;> (try rfl)) (by omega) (by first | exact mapU _ _ _ | exact mapU entC [_] _ | exact mapU ratC [_] _ | (intro r hr a ha; simp only [List.mem_cons, List.not_mem_nil, or_false] at hr; subst hr; simp only [List.mem_cons, List.not_mem_nil, or_false] at ha; rcases ha with rfl | rfl | rfl <;> trivial)) (by simp -implicitDefEqProofs (maxSteps := 2000000) (disch := omega) only [go_sem, simprocAttr, -List.reduceReplicate, condB_t, condB_f, n1, n2, n3, n4, n5, n6, n7, n8] <;> (try rfl)) (by omega) (by first | exact mapU _ _ _ | exact mapU entC [_] _ | exact mapU ratC [_] _ | (intro r hr a ha; simp only [List.mem_cons, List.not_mem_nil, or_false] at hr; subst hr; simp only [List.mem_cons, List.not_mem_nil, or_false] at ha; rcases ha with rfl | rfl | rfl <;> trivial)) (fun k0 b0 hk00 hk01 hb0 => by have hk10 : (k0 = _) = False := eq_false hk00; have hk11 : (k0 = _) = False := eq_false hk01; have hk2 := (hmen k0 b0 hb0).1; (simp -implicitDefEqProofs (maxSteps := 2000000) (disch := omega) only [go_sem, simprocAttr, -List.reduceReplicate, condB_t, condB_f, upd, mkH, hk10, hk11]) <;> (try (repeat rw [if_neg (by omega)])) <;> exact hb0) (by omega) hmen ?_; simp -implicitDefEqProofs (maxSteps := 2000000) (disch := omega) only [go_sem, simprocAttr, -List.reduceReplicate, condB_t, condB_f, AllP, AVle_same, AVle_int, AVle_nil, AVle_row, topU_int, topU_bool, topU_sl, topU_row, topU_ptr, topU_iptr, topU_fn, val, List.drop_length])⟩
          · have F : grp e (S.drop j) = fin1 e ++ grpL (S.drop j) := by
              rw [List.drop_eq_nil_of_le (by omega)]; unfold grp grpL; simp
            rw [F] at hg
            simp -implicitDefEqProofs (maxSteps := 2000000) (disch := omega) only [go_sem, simprocAttr, -List.reduceReplicate, condB_t, condB_f, n1, n2, n3, n4, n5, n6, n7, n8]
            refine callK_pure cs ?_
            by_cases hz : sgnR e.2.val = 0
            · rw [hz]
              simp -implicitDefEqProofs (maxSteps := 2000000) (disch := omega) only [go_sem, simprocAttr, -List.reduceReplicate, condB_t, condB_f, n1, n2, n3, n4, n5, n6, n7, n8]
              exact ⟨(j, res), ⟨hc, by rw [← hr, ← hg]; unfold fin1; rw [if_pos (sgnR_zero.1 hz)]; rfl, by simp only; omega⟩, (by first | omega | (simp only; omega)), by (refine Weak.head2w (by simp -implicitDefEqProofs (maxSteps := 2000000) (disch := omega) only [go_sem, simprocAttr, -List.reduceReplicate, condB_t, condB_f, n1, n2, n3, n4, n5, n6, n7, n8] <;> (try rfl)) (by omega) (by first | exact mapU _ _ _ | exact mapU entC [_] _ | exact mapU ratC [_] _ | (intro r hr a ha; simp only [List.mem_cons, List.not_mem_nil, or_false] at hr; subst hr; simp only [List.mem_cons, List.not_mem_nil, or_false] at ha; rcases ha with rfl | rfl | rfl <;> trivial)) (by simp -implicitDefEqProofs (maxSteps := 2000000) (disch := omega) only [go_sem, simprocAttr, -List.reduceReplicate, condB_t, condB_f, n1, n2, n3, n4, n5, n6, n7, n8] <;> (try rfl)) (by omega) (by first | exact mapU _ _ _ | exact mapU entC [_] _ | exact mapU ratC [_] _ | (intro r hr a ha; simp only [List.mem_cons, List.not_mem_nil, or_false] at hr; subst hr; simp only [List.mem_cons, List.not_mem_nil, or_false] at ha; rcases ha with rfl | rfl | rfl <;> trivial)) (fun k0 b0 hk00 hk01 hb0 => by have hk10 : (k0 = _) = False := eq_false hk00; have hk11 : (k0 = _) = False := eq_false hk01; have hk2 := (hmen k0 b0 hb0).1; (simp -implicitDefEqProofs (maxSteps := 2000000) (disch := omega) only [go_sem, simprocAttr, -List.reduceReplicate, condB_t, condB_f, upd, mkH, hk10, hk11]) <;> (try (repeat rw [if_neg (by omega)])) <;> exact hb0) (by omega) hmen ?_; simp -implicitDefEqProofs (maxSteps := 2000000) (disch := omega) only [go_sem, simprocAttr, -List.reduceReplicate, condB_t, condB_f, AllP, AVle_same, AVle_int, AVle_nil, AVle_row, topU_int, topU_bool, topU_sl, topU_row, topU_ptr, topU_iptr, topU_fn, val, List.drop_length])⟩
            · simp -implicitDefEqProofs (maxSteps := 2000000) (disch := omega) only [go_sem, simprocAttr, -List.reduceReplicate, condB_t, condB_f, n1, n2, n3, n4, n5, n6, n7, n8]
              have hsn : (res ++ [e]).length = res.length + 1 := by simp
              exact ⟨(j, res ++ [e]), ⟨hc, by rw [← hr, ← hg]; unfold fin1; rw [if_neg (fun h => hz (sgnR_zero.2 h))]; simp, by simp only [List.length_append, List.length_cons, List.length_nil]; omega⟩, (by first | omega | (simp only; omega)), by (refine Weak.head2w (by simp -implicitDefEqProofs (maxSteps := 2000000) (disch := omega) only [go_sem, simprocAttr, -List.reduceReplicate, condB_t, condB_f, n1, n2, n3, n4, n5, n6, n7, n8] <;> (try rfl)) (by omega) (by first | exact mapU _ _ _ | exact mapU entC [_] _ | exact mapU ratC [_] _ | (intro r hr a ha; simp only [List.mem_cons, List.not_mem_nil, or_false] at hr; subst hr; simp only [List.mem_cons, List.not_mem_nil, or_false] at ha; rcases ha with rfl | rfl | rfl <;> trivial)) (by simp -implicitDefEqProofs (maxSteps := 2000000) (disch := omega) only [go_sem, simprocAttr, -List.reduceReplicate, condB_t, condB_f, n1, n2, n3, n4, n5, n6, n7, n8] <;> (try rfl)) (by omega) (by first | exact mapU _ _ _ | exact mapU entC [_] _ | exact mapU ratC [_] _ | (intro r hr a ha; simp only [List.mem_cons, List.not_mem_nil, or_false] at hr; subst hr; simp only [List.mem_cons, List.not_mem_nil, or_false] at ha; rcases ha with rfl | rfl | rfl <;> trivial)) (fun k0 b0 hk00 hk01 hb0 => by have hk10 : (k0 = _) = False := eq_false hk00; have hk11 : (k0 = _) = False := eq_false hk01; have hk2 := (hmen k0 b0 hb0).1; (simp -implicitDefEqProofs (maxSteps := 2000000) (disch := omega) only [go_sem, simprocAttr, -List.reduceReplicate, condB_t, condB_f, upd, mkH, hk10, hk11]) <;> (try (repeat rw [if_neg (by omega)])) <;> exact hb0) (by omega) hmen ?_; simp -implicitDefEqProofs (maxSteps := 2000000) (disch := omega) only [go_sem, simprocAttr, -List.reduceReplicate, condB_t, condB_f, AllP, AVle_same, AVle_int, AVle_nil, AVle_row, topU_int, topU_bool, topU_sl, topU_row, topU_ptr, topU_iptr, topU_fn, val, List.drop_length])⟩
      · have e1 : res = grpL S := by
          rw [List.drop_eq_nil_of_le (by omega)] at hr
          have : grpL ([] : List Ent) = [] := rfl
          rw [this, List.append_nil] at hr; exact hr
        subst e1
        simp -implicitDefEqProofs (maxSteps := 2000000) (disch := omega) only [go_sem, simprocAttr, -List.reduceReplicate, condB_t, condB_f]
        refine .val (.leaf (Thaw.plain (rows := (grpL S).map entC) (by simp [locH, upd, mkH]; omega) (by simp) (by omega) (List.take_of_length_le (by simp)) (mapP _)))
theorem sorted_asc_spec (v : List Ent) (k : Nat) (hk : OkL v k) (hk1 : 1 ≤ k) (hlen : v.length ≤ 1099511627776) (hb : k ≤ 1000000000000) (hc : Can (eV v)) : PDet Try.prog 63 [EL v] (EL v) := by
  refine pdet_of E0ok mixed Try.func63 (by kernel_rfl) rfl (by kernel_rfl) (Nat.le_of_ble_eq_true rfl) fun N0 h hn hmen => ?_
  have ca := ascending_spec v k hk (by omega) (by omega)
  unfold EL at *
  simp -implicitDefEqProofs (maxSteps := 2000000) (disch := omega) only [go_sem, simprocAttr, -List.reduceReplicate, condB_t, condB_f]
  refine callK_pure ca ?_
  rw [decide_eq_true hc]
  simp -implicitDefEqProofs (maxSteps := 2000000) (disch := omega) only [go_sem, simprocAttr, -List.reduceReplicate, condB_t, condB_f]
  exact dn
end Go.Abs
/-! YtbVec3: Sparse vectors: canonical form, from dense, reading an entry. No condition. -/
set_option linter.unusedVariables false
set_option linter.unusedSimpArgs false
set_option maxRecDepth 100000
set_option maxHeartbeats 1000000
namespace Go.Abs
open Go.Proofs
@[go_sem] theorem R26 : Try.f26.results.toList = [.tmp 2] := rfl
@[go_sem] theorem R61 : Try.f61.results.toList = [.cell 4 56] := rfl
@[go_sem] theorem R45 : Try.f45.results.toList = [.tmp 2] := rfl
theorem norm_new (v : List Ent) (k : Nat) (hk : OkL v k) (hk1 : 1 ≤ k) (hlen : v.length ≤ 40) (hb : k + v.length * (k + 1) ≤ 1000000000000) (h : Heap) (m : Nat) :
    ADet Try.prog 45 [EL v] h m (.row m (cE (vcan (eV v))).length 0 (cE (vcan (eV v))).length) (upd h m (some ⟨4, (cE (vcan (eV v))).map entC⟩)) := by
  refine anew_of E0ok mixed Try.func45 (by kernel_rfl) rfl (by kernel_rfl) (Nat.le_of_ble_eq_true rfl) (fun _ h => h) (fun r hr => (mapP _ r hr).2) fun N0 hn hmen _ => ⟨hmen, ?_⟩
  have c1 := sorted_spec v k hk hk1 hlen hb
  have c2 := own_new (srt v) _ (srt_ok hk1 hk) (by omega) (by have := srt_len v; omega)
  rw [srt_val] at c2
  have hl : (cE (vcan (eV v))).length = (srt v).length := by rw [← srt_val, cE_len, eV_len]
  rw [← hl] at c2
  unfold EL at *
  simp -implicitDefEqProofs (maxSteps := 2000000) (disch := omega) only [go_sem, simprocAttr, -List.reduceReplicate, condB_t, condB_f]
  refine callK_pure c1 ?_
  simp -implicitDefEqProofs (maxSteps := 2000000) (disch := omega) only [go_sem, simprocAttr, -List.reduceReplicate, condB_t, condB_f]
  refine callK_of (c2 _ _) ?_
  simp -implicitDefEqProofs (maxSteps := 2000000) (disch := omega) only [go_sem, simprocAttr, -List.reduceReplicate, condB_t, condB_f]
  exact ⟨N0 + 24, by omega, by simp -implicitDefEqProofs (maxSteps := 2000000) (disch := omega) only [go_sem, simprocAttr, -List.reduceReplicate, condB_t, condB_f], .val (.row _ _ _)⟩
theorem norm_spec (v : List Ent) (k : Nat) (hk : OkL v k) (hk1 : 1 ≤ k) (hlen : v.length ≤ 40) (hb : k + v.length * (k + 1) ≤ 1000000000000) : PDet Try.prog 45 [EL v] (EL (cE (vcan (eV v)))) :=
  pdet_of_new (mapP _) fun h m => by
    have c := norm_new v k hk hk1 hlen hb h m
    rwa [← List.length_map (f := entC)] at c
theorem fD_nil : fD [] = [] := rfl
theorem fromDense_spec (l : List Raw) (k : Nat) (hk : ∀ i, i < l.length → (l.getD i default).Ok k) (hkb : k ≤ 1099511627776) (hl : l.length ≤ 1099511627776) : PDet Try.prog 26 [QL l] (EL (fD l)) := by
  refine pdet_of E0ok mixed Try.func26 (by kernel_rfl) rfl (by kernel_rfl) (Nat.le_of_ble_eq_true rfl) fun N0 h hn hmen => ?_
  unfold QL EL
  simp -implicitDefEqProofs (maxSteps := 2000000) (disch := omega) only [go_sem, simprocAttr, -List.reduceReplicate, condB_t, condB_f]
  refine aw_weak (Weak.nilRow (t := 3) (sz := 4) (id := N0 + 64) (by omega) (by omega) (by simp -implicitDefEqProofs (maxSteps := 2000000) (disch := omega) only [go_sem, simprocAttr, -List.reduceReplicate, condB_t, condB_f])) ?_
  obtain ⟨id, hid⟩ : ∃ id, id = N0 + 64 := ⟨_, rfl⟩
  rw [← hid]
  refine aw_loop (X := Nat) (fun i => ⟨mkS [(3, .row id (fD (l.take i)).length 0 (fD (l.take i)).length), (6, .sl 3 (l.map ratC)), (7, .int .i64 l.length), (8, .int .i64 i)], mkH h [(id, ⟨4, (fD (l.take i)).map entC⟩)], id + 8⟩) (fun i => i ≤ l.length) (fun i => l.length - i) ⟨0, Nat.zero_le _, ?_⟩ ?_
  · (refine Weak.head1w (by simp -implicitDefEqProofs (maxSteps := 2000000) (disch := omega) only [go_sem, simprocAttr, -List.reduceReplicate, condB_t, condB_f, fD_nil, List.length_nil] <;> (try rfl)) (by omega) (mapU _ _ _) (fun k0 b0 hk0 hb0 => by have hk1 : (k0 = _) = False := eq_false hk0; have hk2 := (hmen k0 b0 hb0).1; (simp -implicitDefEqProofs (maxSteps := 2000000) (disch := omega) only [go_sem, simprocAttr, -List.reduceReplicate, condB_t, condB_f, upd, mkH, hk1]) <;> (try (repeat rw [if_neg (by omega)])) <;> exact hb0) (by omega) hmen ?_; simp -implicitDefEqProofs (maxSteps := 2000000) (disch := omega) only [go_sem, simprocAttr, -List.reduceReplicate, condB_t, condB_f, AllP, AVle_same, AVle_int, AVle_nil, AVle_row, topU_int, topU_bool, topU_sl, topU_row, topU_ptr, topU_iptr, topU_fn, val, List.drop_length, fD_nil, List.length_nil])
  · intro i hi
    by_cases h0 : i < l.length
    · have hx := hk i h0
      have cs := rsign_spec _ k hx hkb
      have cn := rnorm_spec _ k hx hkb
      have e := fD_take_succ h0
      have fl := fD_len (l.take i)
      rw [List.length_take] at fl
      unfold rC Raw.cells nl at cn
      unfold Raw.cells nl at cs
      simp -implicitDefEqProofs (maxSteps := 2000000) (disch := omega) only [go_sem, simprocAttr, -List.reduceReplicate, condB_t, condB_f]
      generalize l.getD i default = x at *
      refine callK_pure cs ?_
      by_cases hz : sgnR x.val = 0
      · rw [if_pos (sgnR_zero.1 hz), List.append_nil] at e
        rw [hz]
        simp -implicitDefEqProofs (maxSteps := 2000000) (disch := omega) only [go_sem, simprocAttr, -List.reduceReplicate, condB_t, condB_f]
        exact ⟨i + 1, h0, by omega, by (refine Weak.head1w (by simp -implicitDefEqProofs (maxSteps := 2000000) (disch := omega) only [go_sem, simprocAttr, -List.reduceReplicate, condB_t, condB_f, e] <;> (try rfl)) (by omega) (mapU _ _ _) (fun k0 b0 hk0 hb0 => by have hk1 : (k0 = _) = False := eq_false hk0; have hk2 := (hmen k0 b0 hb0).1; (simp -implicitDefEqProofs (maxSteps := 2000000) (disch := omega) only [go_sem, simprocAttr, -List.reduceReplicate, condB_t, condB_f, upd, mkH, hk1]) <;> (try (repeat rw [if_neg (by omega)])) <;> exact hb0) (by omega) hmen ?_; simp -implicitDefEqProofs (maxSteps := 2000000) (disch := omega) only [go_sem, simprocAttr, -List.reduceReplicate, condB_t, condB_f, AllP, AVle_same, AVle_int, AVle_nil, AVle_row, topU_int, topU_bool, topU_sl, topU_row, topU_ptr, topU_iptr, topU_fn, val, List.drop_length, e])⟩
      · rw [if_neg (fun h => hz (sgnR_zero.2 h))] at e
        have el : (fD (l.take i) ++ [((i : Int), canon x.val)]).length = (fD (l.take i)).length + 1 := by simp
        simp -implicitDefEqProofs (maxSteps := 2000000) (disch := omega) only [go_sem, simprocAttr, -List.reduceReplicate, condB_t, condB_f]
        refine callK_pure cn ?_
        simp -implicitDefEqProofs (maxSteps := 2000000) (disch := omega) only [go_sem, simprocAttr, -List.reduceReplicate, condB_t, condB_f]
        exact ⟨i + 1, h0, by omega, by (refine Weak.head1w (by simp -implicitDefEqProofs (maxSteps := 2000000) (disch := omega) only [go_sem, simprocAttr, -List.reduceReplicate, condB_t, condB_f, e, el] <;> (try rfl)) (by omega) (mapU _ _ _) (fun k0 b0 hk0 hb0 => by have hk1 : (k0 = _) = False := eq_false hk0; have hk2 := (hmen k0 b0 hb0).1; (simp -implicitDefEqProofs (maxSteps := 2000000) (disch := omega) only [go_sem, simprocAttr, -List.reduceReplicate, condB_t, condB_f, upd, mkH, hk1]) <;> (try (repeat rw [if_neg (by omega)])) <;> exact hb0) (by omega) hmen ?_; simp -implicitDefEqProofs (maxSteps := 2000000) (disch := omega) only [go_sem, simprocAttr, -List.reduceReplicate, condB_t, condB_f, AllP, AVle_same, AVle_int, AVle_nil, AVle_row, topU_int, topU_bool, topU_sl, topU_row, topU_ptr, topU_iptr, topU_fn, val, List.drop_length, e, el])⟩
    · obtain rfl : i = l.length := by omega
      simp -implicitDefEqProofs (maxSteps := 2000000) (disch := omega) only [go_sem, simprocAttr, -List.reduceReplicate, condB_t, condB_f]
      rw [List.take_of_length_le (Nat.le_refl _)]
      refine .val (.leaf (Thaw.plain (rows := (fD l).map entC) (by simp [locH, upd, mkH]; omega) (by simp) (by omega) (List.take_of_length_le (by simp)) (mapP _)))
theorem get_spec (l : List Ent) (j : Int) (k : Nat) (hk : OkL l k) (hk1 : 1 ≤ k) (hl : l.length ≤ 1000) (hkb : k ≤ 1100000) : PDet Try.prog 61 [EL l, .int .i64 j] (.agg (rC (vget (eV l) j))) := by
  refine pdet_of E0ok mixed Try.func61 (by kernel_rfl) rfl (by kernel_rfl) (Nat.le_of_ble_eq_true rfl) fun N0 h hn hmen => ?_
  have cz := r3zero_spec
  unfold EL
  unfold rC Raw.cells nl at *
  simp -implicitDefEqProofs (maxSteps := 2000000) (disch := omega) only [go_sem, simprocAttr, -List.reduceReplicate, condB_t, condB_f]
  refine callK_pure cz ?_
  simp -implicitDefEqProofs (maxSteps := 2000000) (disch := omega) only [go_sem, simprocAttr, -List.reduceReplicate, condB_t, condB_f]
  obtain ⟨ia, hia⟩ : ∃ ia, ia = N0 + 16 := ⟨_, rfl⟩
  have n1 : (N0 = ia) = False := eq_false (by omega)
  have n2 : (ia = N0) = False := eq_false (by omega)
  rw [← hia]
  refine aw_loop (X := Nat) (fun i => ⟨mkS [(0, .sl 4 (l.map entC)), (1, .int .i64 j), (4, .ptr N0 1 0 0), (5, .ptr ia 1 0 0), (6, .int .i64 i)], mkH h [(N0, ⟨3, [[.bool false, .nil, .nil]]⟩), (ia, ⟨3, [[.bool (canon (vget (eV (l.take i)) j)).s, .sl 1 (numL (canon (vget (eV (l.take i)) j)).m), .sl 1 (numL (canon (vget (eV (l.take i)) j)).d)]]⟩)], ia + 8⟩) (fun i => i ≤ l.length ∧ Sz (vget (eV (l.take i)) j) (k + i * (k + 1))) (fun i => l.length - i) ⟨0, ⟨Nat.zero_le _, ?_⟩, ?_⟩ ?_
  · rw [show vget (eV (l.take 0)) j = 0 from rfl]
    exact sz_zero (by omega)
  · rw [show vget (eV (l.take 0)) j = 0 from rfl]
    (refine Weak.head2w (by simp -implicitDefEqProofs (maxSteps := 2000000) (disch := omega) only [go_sem, simprocAttr, -List.reduceReplicate, condB_t, condB_f, n1, n2] <;> (try rfl)) (by omega) (by first | exact mapU _ _ _ | exact mapU entC [_] _ | exact mapU ratC [_] _ | (intro r hr a ha; simp only [List.mem_cons, List.not_mem_nil, or_false] at hr; subst hr; simp only [List.mem_cons, List.not_mem_nil, or_false] at ha; rcases ha with rfl | rfl | rfl <;> trivial)) (by simp -implicitDefEqProofs (maxSteps := 2000000) (disch := omega) only [go_sem, simprocAttr, -List.reduceReplicate, condB_t, condB_f, n1, n2] <;> (try rfl)) (by omega) (by first | exact mapU _ _ _ | exact mapU entC [_] _ | exact mapU ratC [_] _ | (intro r hr a ha; simp only [List.mem_cons, List.not_mem_nil, or_false] at hr; subst hr; simp only [List.mem_cons, List.not_mem_nil, or_false] at ha; rcases ha with rfl | rfl | rfl <;> trivial)) (fun k0 b0 hk00 hk01 hb0 => by have hk10 : (k0 = _) = False := eq_false hk00; have hk11 : (k0 = _) = False := eq_false hk01; have hk2 := (hmen k0 b0 hb0).1; (simp -implicitDefEqProofs (maxSteps := 2000000) (disch := omega) only [go_sem, simprocAttr, -List.reduceReplicate, condB_t, condB_f, upd, mkH, hk10, hk11]) <;> (try (repeat rw [if_neg (by omega)])) <;> exact hb0) (by omega) hmen ?_; simp -implicitDefEqProofs (maxSteps := 2000000) (disch := omega) only [go_sem, simprocAttr, -List.reduceReplicate, condB_t, condB_f, AllP, AVle_same, AVle_int, AVle_nil, AVle_row, topU_int, topU_bool, topU_sl, topU_row, topU_ptr, topU_iptr, topU_fn, val, List.drop_length])
  · rintro i ⟨hi, hz⟩
    by_cases h0 : i < l.length
    · have hx := hk.get h0
      have e := vget_take_succ h0 j
      have hm : i * (k + 1) ≤ 1000 * (1100000 + 1) := Nat.mul_le_mul (by omega) (by omega)
      have ca := r3add_spec _ _ _ k (canon_ok hz) hx (by omega) hk1 (by omega)
      have hs := hz.add (hx.sz hk1)
      rw [canon_val] at ca
      unfold rC Raw.cells nl at ca
      by_cases hj : (l.getD i default).1 = j
      · rw [if_pos hj] at e
        simp -implicitDefEqProofs (maxSteps := 2000000) (disch := omega) only [go_sem, simprocAttr, -List.reduceReplicate, condB_t, condB_f, n1, n2]
        refine pcallK_pure ca ?_
        simp -implicitDefEqProofs (maxSteps := 2000000) (disch := omega) only [go_sem, simprocAttr, -List.reduceReplicate, condB_t, condB_f, n1, n2]
        exact ⟨i + 1, ⟨h0, by rw [e, Nat.succ_mul]; exact hs.mono (by omega)⟩, by omega, by (refine Weak.head2w (by simp -implicitDefEqProofs (maxSteps := 2000000) (disch := omega) only [go_sem, simprocAttr, -List.reduceReplicate, condB_t, condB_f, n1, n2, e] <;> (try rfl)) (by omega) (by first | exact mapU _ _ _ | exact mapU entC [_] _ | exact mapU ratC [_] _ | (intro r hr a ha; simp only [List.mem_cons, List.not_mem_nil, or_false] at hr; subst hr; simp only [List.mem_cons, List.not_mem_nil, or_false] at ha; rcases ha with rfl | rfl | rfl <;> trivial)) (by simp -implicitDefEqProofs (maxSteps := 2000000) (disch := omega) only [go_sem, simprocAttr, -List.reduceReplicate, condB_t, condB_f, n1, n2, e] <;> (try rfl)) (by omega) (by first | exact mapU _ _ _ | exact mapU entC [_] _ | exact mapU ratC [_] _ | (intro r hr a ha; simp only [List.mem_cons, List.not_mem_nil, or_false] at hr; subst hr; simp only [List.mem_cons, List.not_mem_nil, or_false] at ha; rcases ha with rfl | rfl | rfl <;> trivial)) (fun k0 b0 hk00 hk01 hb0 => by have hk10 : (k0 = _) = False := eq_false hk00; have hk11 : (k0 = _) = False := eq_false hk01; have hk2 := (hmen k0 b0 hb0).1; (simp -implicitDefEqProofs (maxSteps := 2000000) (disch := omega) only [go_sem, simprocAttr, -List.reduceReplicate, condB_t, condB_f, upd, mkH, hk10, hk11]) <;> (try (repeat rw [if_neg (by omega)])) <;> exact hb0) (by omega) hmen ?_; simp -implicitDefEqProofs (maxSteps := 2000000) (disch := omega) only [go_sem, simprocAttr, -List.reduceReplicate, condB_t, condB_f, AllP, AVle_same, AVle_int, AVle_nil, AVle_row, topU_int, topU_bool, topU_sl, topU_row, topU_ptr, topU_iptr, topU_fn, val, List.drop_length])⟩
      · rw [if_neg hj] at e
        have e' : vget (eV (l.take (i + 1))) j = vget (eV (l.take i)) j := by rw [e]; grind
        simp -implicitDefEqProofs (maxSteps := 2000000) (disch := omega) only [go_sem, simprocAttr, -List.reduceReplicate, condB_t, condB_f, n1, n2]
        exact ⟨i + 1, ⟨h0, by rw [e', Nat.succ_mul]; exact hz.mono (by omega)⟩, by omega, by (refine Weak.head2w (by simp -implicitDefEqProofs (maxSteps := 2000000) (disch := omega) only [go_sem, simprocAttr, -List.reduceReplicate, condB_t, condB_f, n1, n2, e'] <;> (try rfl)) (by omega) (by first | exact mapU _ _ _ | exact mapU entC [_] _ | exact mapU ratC [_] _ | (intro r hr a ha; simp only [List.mem_cons, List.not_mem_nil, or_false] at hr; subst hr; simp only [List.mem_cons, List.not_mem_nil, or_false] at ha; rcases ha with rfl | rfl | rfl <;> trivial)) (by simp -implicitDefEqProofs (maxSteps := 2000000) (disch := omega) only [go_sem, simprocAttr, -List.reduceReplicate, condB_t, condB_f, n1, n2, e'] <;> (try rfl)) (by omega) (by first | exact mapU _ _ _ | exact mapU entC [_] _ | exact mapU ratC [_] _ | (intro r hr a ha; simp only [List.mem_cons, List.not_mem_nil, or_false] at hr; subst hr; simp only [List.mem_cons, List.not_mem_nil, or_false] at ha; rcases ha with rfl | rfl | rfl <;> trivial)) (fun k0 b0 hk00 hk01 hb0 => by have hk10 : (k0 = _) = False := eq_false hk00; have hk11 : (k0 = _) = False := eq_false hk01; have hk2 := (hmen k0 b0 hb0).1; (simp -implicitDefEqProofs (maxSteps := 2000000) (disch := omega) only [go_sem, simprocAttr, -List.reduceReplicate, condB_t, condB_f, upd, mkH, hk10, hk11]) <;> (try (repeat rw [if_neg (by omega)])) <;> exact hb0) (by omega) hmen ?_; simp -implicitDefEqProofs (maxSteps := 2000000) (disch := omega) only [go_sem, simprocAttr, -List.reduceReplicate, condB_t, condB_f, AllP, AVle_same, AVle_int, AVle_nil, AVle_row, topU_int, topU_bool, topU_sl, topU_row, topU_ptr, topU_iptr, topU_fn, val, List.drop_length])⟩
    · obtain rfl : i = l.length := by omega
      simp -implicitDefEqProofs (maxSteps := 2000000) (disch := omega) only [go_sem, simprocAttr, -List.reduceReplicate, condB_t, condB_f, n1, n2]
      rw [List.take_of_length_le (Nat.le_refl _)]
      exact dn
end Go.Abs
/-! YtbVec4: Sparse vectors: sameness, permutations. No condition. -/
set_option linter.unusedVariables false
set_option linter.unusedSimpArgs false
set_option maxRecDepth 100000
set_option maxHeartbeats 1000000
namespace Go.Abs
open Go.Proofs
@[go_sem] theorem R32 : Try.f32.results.toList = [.tmp 4] := rfl
@[go_sem] theorem R62 : Try.f62.results.toList = [.tmp 2] := rfl
theorem identical_spec (x y : Vec) (j k : Nat) (hx : ∀ e ∈ x, Sz e.2 j) (hy : ∀ e ∈ y, Sz e.2 k) (hj : j ≤ 549755813888) (hk : k ≤ 549755813888) (lx : x.length ≤ 1099511627776) (ly : y.length ≤ 1099511627776) :
    PDet Try.prog 32 [EL (cE x), EL (cE y)] (.bool (decide (x = y))) := by
  refine pdet_of E0ok mixed Try.func32 (by kernel_rfl) rfl (by kernel_rfl) (Nat.le_of_ble_eq_true rfl) fun N0 h hn hmen => ?_
  have cl := cE_len x
  have cl2 := cE_len y
  unfold EL
  by_cases hl : x.length = y.length
  · simp -implicitDefEqProofs (maxSteps := 2000000) (disch := omega) only [go_sem, simprocAttr, -List.reduceReplicate, condB_t, condB_f]
    refine aw_loop (X := Nat) (fun i => ⟨mkS [(0, .sl 4 ((cE x).map entC)), (1, .sl 4 ((cE y).map entC)), (5, .int .i64 i)], h, N0⟩) (fun i => i ≤ x.length ∧ x.take i = y.take i) (fun i => x.length - i) ⟨0, ⟨Nat.zero_le _, rfl⟩, ?_⟩ ?_
    · (refine Weak.slots (allP ?_) (fun k0 b0 hb0 => by first | exact hb0 | (have hk1 := (hmen k0 b0 hb0).1; simp only [upd, mkH]; (repeat rw [if_neg (by omega)]); exact hb0)) (by omega) hmen; simp -implicitDefEqProofs (maxSteps := 2000000) (disch := omega) only [go_sem, simprocAttr, -List.reduceReplicate, condB_t, condB_f, AllP, AVle_same, AVle_int, AVle_nil, AVle_row, topU_int, topU_bool, topU_sl, topU_row, topU_ptr, topU_iptr, topU_fn, val, List.drop_length])
    · rintro i ⟨hi, ht⟩
      by_cases h0 : i < x.length
      · have hst := take_eq_step h0 hl ht
        have g1 := cE_get h0
        have g2 := cE_get (hl ▸ h0)
        have mx : x.getD i default ∈ x := by rw [List.getD_eq_getElem?_getD, List.getElem?_eq_getElem h0]; exact List.getElem_mem _
        have my : y.getD i default ∈ y := by rw [List.getD_eq_getElem?_getD, List.getElem?_eq_getElem (hl ▸ h0)]; exact List.getElem_mem _
        have cc := r3canonical_canon _ j (hx _ mx) hj
        have ce := r3equal_canon _ _ j k (hx _ mx) (hy _ my) hj hk
        unfold rC Raw.cells nl at cc ce
        have hno : x.getD i default ≠ y.getD i default → x ≠ y := fun hn e => hn (by rw [e])
        by_cases h1 : (x.getD i default).1 = (y.getD i default).1
        · by_cases h2 : (x.getD i default).2 = (y.getD i default).2
          · have hyes := hst.2 (Prod.ext h1 h2)
            rw [decide_eq_true h2] at ce
            simp -implicitDefEqProofs (maxSteps := 2000000) (disch := omega) only [go_sem, simprocAttr, -List.reduceReplicate, condB_t, condB_f, g1, g2]
            refine pcallK_pure cc ?_
            simp -implicitDefEqProofs (maxSteps := 2000000) (disch := omega) only [go_sem, simprocAttr, -List.reduceReplicate, condB_t, condB_f, g1, g2]
            refine pcallK_pure ce ?_
            simp -implicitDefEqProofs (maxSteps := 2000000) (disch := omega) only [go_sem, simprocAttr, -List.reduceReplicate, condB_t, condB_f]
            exact ⟨i + 1, ⟨h0, hyes⟩, by omega, by (refine Weak.slots (allP ?_) (fun k0 b0 hb0 => by first | exact hb0 | (have hk1 := (hmen k0 b0 hb0).1; simp only [upd, mkH]; (repeat rw [if_neg (by omega)]); exact hb0)) (by omega) hmen; simp -implicitDefEqProofs (maxSteps := 2000000) (disch := omega) only [go_sem, simprocAttr, -List.reduceReplicate, condB_t, condB_f, AllP, AVle_same, AVle_int, AVle_nil, AVle_row, topU_int, topU_bool, topU_sl, topU_row, topU_ptr, topU_iptr, topU_fn, val, List.drop_length])⟩
          · have hne := hno (fun e => h2 (by rw [e]))
            rw [decide_eq_false h2] at ce
            rw [decide_eq_false hne]
            simp -implicitDefEqProofs (maxSteps := 2000000) (disch := omega) only [go_sem, simprocAttr, -List.reduceReplicate, condB_t, condB_f, g1, g2]
            refine pcallK_pure cc ?_
            simp -implicitDefEqProofs (maxSteps := 2000000) (disch := omega) only [go_sem, simprocAttr, -List.reduceReplicate, condB_t, condB_f, g1, g2]
            refine pcallK_pure ce ?_
            simp -implicitDefEqProofs (maxSteps := 2000000) (disch := omega) only [go_sem, simprocAttr, -List.reduceReplicate, condB_t, condB_f]
            exact dn
        · have hne := hno (fun e => h1 (by rw [e]))
          rw [decide_eq_false hne]
          simp -implicitDefEqProofs (maxSteps := 2000000) (disch := omega) only [go_sem, simprocAttr, -List.reduceReplicate, condB_t, condB_f, g1, g2]
          exact dn
      · obtain rfl : i = x.length := by omega
        rw [List.take_of_length_le (Nat.le_refl _), List.take_of_length_le (by omega)] at ht
        rw [decide_eq_true ht]
        simp -implicitDefEqProofs (maxSteps := 2000000) (disch := omega) only [go_sem, simprocAttr, -List.reduceReplicate, condB_t, condB_f]
        exact dn
  · rw [decide_eq_false (fun e => hl (by rw [e]))]
    simp -implicitDefEqProofs (maxSteps := 2000000) (disch := omega) only [go_sem, simprocAttr, -List.reduceReplicate, condB_t, condB_f]
    exact dn
/-- A list of all numbers below its length. -/
def PermL (p : List Int) : Prop := (∀ x ∈ p, 0 ≤ x ∧ x < p.length) ∧ p.Nodup
instance (p : List Int) : Decidable (PermL p) := by unfold PermL; infer_instance
def seenL (n : Nat) (p : List Int) : List Bool := (List.range n).map fun (j : Nat) => decide ((j : Int) ∈ p)
theorem seenL_len (n : Nat) (p : List Int) : (seenL n p).length = n := by simp [seenL]
theorem seenL_get {n : Nat} {p : List Int} {x : Int} (h0 : 0 ≤ x) (h1 : x < n) : (seenL n p).getD x.toNat false = decide (x ∈ p) := by
  unfold seenL
  rw [List.getD_eq_getElem?_getD, List.getElem?_map, List.getElem?_range (by omega)]
  simp only [Option.map_some, Option.getD_some]
  rw [Int.toNat_of_nonneg h0]
theorem seenL_set {n : Nat} {p : List Int} {x : Int} (h0 : 0 ≤ x) (h1 : x < n) : (seenL n p).set x.toNat true = seenL n (p ++ [x]) := by
  refine List.ext_getElem? fun j => ?_
  rw [List.getElem?_set, seenL_len]
  unfold seenL
  rw [List.getElem?_map, List.getElem?_map]
  by_cases hj : j < n
  · rw [List.getElem?_range hj]
    by_cases e : x.toNat = j
    · subst e
      simp only [↓reduceIte, hj, Option.map_some, List.mem_append, List.mem_singleton]
      rw [Int.toNat_of_nonneg h0]; simp
    · rw [if_neg e]
      simp only [Option.map_some, List.mem_append, List.mem_singleton]
      have : ¬ (j : Int) = x := by omega
      simp [this]
  · have hn : ¬ x.toNat = j := by omega
    rw [if_neg hn, List.getElem?_eq_none (by simp; omega)]; rfl
theorem permutation_spec (p : List Int) (hl : p.length ≤ 1099511627776) : PDet Try.prog 62 [IL p] (.bool (decide (PermL p))) := by
  refine pdet_of E0ok mixed Try.func62 (by kernel_rfl) rfl (by kernel_rfl) (Nat.le_of_ble_eq_true rfl) fun N0 h hn hmen => ?_
  unfold IL
  simp -implicitDefEqProofs (maxSteps := 2000000) (disch := omega) only [go_sem, simprocAttr, -List.reduceReplicate, condB_t, condB_f]
  obtain ⟨id, hid⟩ : ∃ id, id = N0 + 24 := ⟨_, rfl⟩
  rw [← hid]
  have e0 : List.replicate p.length false = seenL p.length (p.take 0) := by
    refine List.ext_getElem (by rw [seenL_len, List.length_replicate]) fun i h1 h2 => ?_
    unfold seenL; simp
  rw [e0]
  refine aw_loop (X := Nat) (fun i => ⟨mkS [(0, .sl 1 (p.map intC)), (3, .row id p.length 0 p.length), (9, .sl 1 (p.map intC)), (10, .int .i64 p.length), (11, .int .i64 i)], mkH h [(id, ⟨1, (seenL p.length (p.take i)).map boolC⟩)], id + 8⟩) (fun i => i ≤ p.length ∧ (∀ x ∈ p.take i, 0 ≤ x ∧ x < p.length) ∧ (p.take i).Nodup) (fun i => p.length - i) ⟨0, ⟨Nat.zero_le _, nofun, .nil⟩, ?_⟩ ?_
  · (refine Weak.head1w (by simp -implicitDefEqProofs (maxSteps := 2000000) (disch := omega) only [go_sem, simprocAttr, -List.reduceReplicate, condB_t, condB_f] <;> (try rfl)) (by omega) (mapU _ _ _) (fun k0 b0 hk0 hb0 => by have hk1 : (k0 = _) = False := eq_false hk0; have hk2 := (hmen k0 b0 hb0).1; (simp -implicitDefEqProofs (maxSteps := 2000000) (disch := omega) only [go_sem, simprocAttr, -List.reduceReplicate, condB_t, condB_f, upd, mkH, hk1]) <;> (try (repeat rw [if_neg (by omega)])) <;> exact hb0) (by omega) hmen ?_; simp -implicitDefEqProofs (maxSteps := 2000000) (disch := omega) only [go_sem, simprocAttr, -List.reduceReplicate, condB_t, condB_f, AllP, AVle_same, AVle_int, AVle_nil, AVle_row, topU_int, topU_bool, topU_sl, topU_row, topU_ptr, topU_iptr, topU_fn, val, List.drop_length])
  · rintro i ⟨hi, hr, hd⟩
    by_cases h0 : i < p.length
    · have ht : p.take (i + 1) = p.take i ++ [p.getD i 0] := by rw [List.take_add_one, List.getElem?_eq_getElem h0, List.getD_eq_getElem?_getD, List.getElem?_eq_getElem h0]; rfl
      have hm : p.getD i 0 ∈ p := by rw [List.getD_eq_getElem?_getD, List.getElem?_eq_getElem h0]; exact List.getElem_mem _
      have hsub : (p.take i ++ [p.getD i 0]).Sublist p := by rw [← ht]; exact List.take_sublist _ _
      have sl := seenL_len p.length (p.take i)
      obtain ⟨x, hxx⟩ : ∃ x, p.getD i 0 = x := ⟨_, rfl⟩
      rw [hxx] at ht hm hsub
      by_cases h1 : x < 0
      · rw [decide_eq_false (fun hp : PermL p => by have := (hp.1 x hm).1; omega)]
        simp -implicitDefEqProofs (maxSteps := 2000000) (disch := omega) only [go_sem, simprocAttr, -List.reduceReplicate, condB_t, condB_f, hxx]
        exact dn
      · by_cases h2 : p.length ≤ x
        · rw [decide_eq_false (fun hp : PermL p => by have := (hp.1 x hm).2; omega)]
          simp -implicitDefEqProofs (maxSteps := 2000000) (disch := omega) only [go_sem, simprocAttr, -List.reduceReplicate, condB_t, condB_f, hxx]
          exact dn
        · have hg := seenL_get (n := p.length) (p := p.take i) (x := x) (by omega) (by omega)
          have hs := seenL_set (n := p.length) (p := p.take i) (x := x) (by omega) (by omega)
          rw [← ht] at hs
          by_cases h3 : x ∈ p.take i
          · rw [decide_eq_true h3] at hg
            rw [decide_eq_false (fun hp : PermL p => by
              have := hp.2.sublist hsub
              rw [List.nodup_append] at this
              exact this.2.2 x h3 x (by simp) rfl)]
            simp -implicitDefEqProofs (maxSteps := 2000000) (disch := omega) only [go_sem, simprocAttr, -List.reduceReplicate, condB_t, condB_f, hxx, hg]
            exact dn
          · rw [decide_eq_false h3] at hg
            simp -implicitDefEqProofs (maxSteps := 2000000) (disch := omega) only [go_sem, simprocAttr, -List.reduceReplicate, condB_t, condB_f, hxx, hg]
            exact ⟨i + 1, ⟨h0, by rw [ht]; intro y hy; rcases List.mem_append.1 hy with hy | hy; exact hr y hy; rw [List.mem_singleton.1 hy]; omega, by
              rw [ht, List.nodup_append]; exact ⟨hd, by simp, fun a ha b hb => by rw [List.mem_singleton.1 hb]; exact fun e => h3 (e ▸ ha)⟩⟩, by omega, by (refine Weak.head1w (by simp -implicitDefEqProofs (maxSteps := 2000000) (disch := omega) only [go_sem, simprocAttr, -List.reduceReplicate, condB_t, condB_f, hxx, hs] <;> (try rfl)) (by omega) (mapU _ _ _) (fun k0 b0 hk0 hb0 => by have hk1 : (k0 = _) = False := eq_false hk0; have hk2 := (hmen k0 b0 hb0).1; (simp -implicitDefEqProofs (maxSteps := 2000000) (disch := omega) only [go_sem, simprocAttr, -List.reduceReplicate, condB_t, condB_f, upd, mkH, hk1]) <;> (try (repeat rw [if_neg (by omega)])) <;> exact hb0) (by omega) hmen ?_; simp -implicitDefEqProofs (maxSteps := 2000000) (disch := omega) only [go_sem, simprocAttr, -List.reduceReplicate, condB_t, condB_f, AllP, AVle_same, AVle_int, AVle_nil, AVle_row, topU_int, topU_bool, topU_sl, topU_row, topU_ptr, topU_iptr, topU_fn, val, List.drop_length, hxx, hs])⟩
    · obtain rfl : i = p.length := by omega
      rw [List.take_of_length_le (Nat.le_refl _)] at hr hd
      rw [decide_eq_true (show PermL p from ⟨hr, hd⟩)]
      simp -implicitDefEqProofs (maxSteps := 2000000) (disch := omega) only [go_sem, simprocAttr, -List.reduceReplicate, condB_t, condB_f]
      exact dn
end Go.Abs
/-! YtbVec5: Sparse vectors: permuting. No condition. -/
set_option linter.unusedVariables false
set_option linter.unusedSimpArgs false
set_option maxRecDepth 100000
set_option maxHeartbeats 1000000
namespace Go.Abs
open Go.Proofs
@[go_sem] theorem R28 : Try.f28.results.toList = [.tmp 4, .tmp 5] := rfl
/-- The first i entries' indices sent through p. -/
def pmv (p : List Int) (e : Ent) : Ent := (p.getD e.1.toNat 0, e.2)
def pmL (p : List Int) (l : List Ent) (i : Nat) : List Ent := (l.take i).map (pmv p) ++ l.drop i
theorem pmL_len (p : List Int) (l : List Ent) (i : Nat) : (pmL p l i).length = l.length := by
  unfold pmL; simp only [List.length_append, List.length_map, List.length_take, List.length_drop]; omega
theorem pmL_get {p : List Int} {l : List Ent} {i : Nat} (h : i < l.length) : (pmL p l i).getD i default = l.getD i default := by
  unfold pmL
  have hl : ((l.take i).map (pmv p)).length = i := by rw [List.length_map, List.length_take]; omega
  rw [List.getD_eq_getElem?_getD, List.getElem?_append_right (by omega), hl, Nat.sub_self, List.getElem?_drop, Nat.add_zero, ← List.getD_eq_getElem?_getD]
theorem pmL_set {p : List Int} {l : List Ent} {i : Nat} (h : i < l.length) : (pmL p l i).set i (p.getD (l.getD i default).1.toNat 0, (l.getD i default).2) = pmL p l (i + 1) := by
  have hl : ((l.take i).map (pmv p)).length = i := by rw [List.length_map, List.length_take]; omega
  have hd : l.drop i = l.getD i default :: l.drop (i + 1) := by rw [List.drop_eq_getElem_cons h, List.getD_eq_getElem?_getD, List.getElem?_eq_getElem h]; rfl
  unfold pmL
  rw [List.set_append_right _ _ (by omega), hl, Nat.sub_self, hd, take_succ_getE h, List.map_append, List.append_assoc]
  rfl
/-- Whether the vector fits the permutation, and what it becomes. -/
def PmOk (p : List Int) (v : Vec) : Prop := PermL p ∧ ∀ e ∈ v, 0 ≤ e.1 ∧ e.1 < p.length
instance (p : List Int) (v : Vec) : Decidable (PmOk p v) := by unfold PmOk; infer_instance
def pmOut (p : List Int) (v : Vec) : List Ent := if PmOk p v then srt ((cE v).map (pmv p)) else []
theorem asc_first {v : Vec} (h : Can v) : ∀ e ∈ v, (v.getD 0 default).1 ≤ e.1 := fun e he => by
  cases v with
  | nil => cases he
  | cons x v =>
    have := List.pairwise_cons.1 h.asc
    rcases List.mem_cons.1 he with rfl | he
    · exact Int.le_refl _
    · exact Int.le_of_lt (this.1 e he)
theorem asc_last {v : Vec} (h : Can v) : ∀ e ∈ v, e.1 ≤ (v.getD (v.length - 1) default).1 := fun e he => by
  obtain ⟨i, hi, rfl⟩ := List.mem_iff_getElem.1 he
  rw [List.getD_eq_getElem?_getD, List.getElem?_eq_getElem (by omega)]
  rcases Nat.lt_or_ge i (v.length - 1) with g | g
  · exact Int.le_of_lt (List.pairwise_iff_getElem.1 h.asc i (v.length - 1) hi (by omega) g)
  · obtain rfl : i = v.length - 1 := by omega
    exact Int.le_refl _
@[go_sem] theorem raw_eta (x : Raw) : Raw.mk x.s x.m x.d = x := rfl
theorem permute_spec (v : List Ent) (p : List Int) (k : Nat) (hk : OkL v k) (hk1 : 1 ≤ k) (hlen : v.length ≤ 40) (hb : k + v.length * (k + 1) ≤ 20000000000) (hp : p.length ≤ 1099511627776) :
    PDet Try.prog 28 [EL v, IL p] (.tup [EL (pmOut p (vcan (eV v))), .bool (decide (PmOk p (vcan (eV v))))]) := by
  refine pdet_of E0ok mixed Try.func28 (by kernel_rfl) rfl (by kernel_rfl) (Nat.le_of_ble_eq_true rfl) fun N0 h hn hmen => ?_
  have hok := eV_sz (srt_ok hk1 hk) (by omega)
  rw [srt_val] at hok
  have hcl : (vcan (eV v)).length ≤ v.length := by rw [← srt_val, eV_len]; exact srt_len v
  have c1 := fun h m => norm_new v k hk hk1 hlen (by omega) h m
  have hcan := vcan_can (eV v)
  generalize vcan (eV v) = w at *
  have c2 := permutation_spec p hp
  have cl := cE_len w
  unfold EL IL at *
  simp -implicitDefEqProofs (maxSteps := 2000000) (disch := omega) only [go_sem, simprocAttr, -List.reduceReplicate, condB_t, condB_f]
  refine callK_of (c1 _ _) ?_
  simp -implicitDefEqProofs (maxSteps := 2000000) (disch := omega) only [go_sem, simprocAttr, -List.reduceReplicate, condB_t, condB_f]
  refine callK_pure c2 ?_
  by_cases h1 : PermL p
  · rw [decide_eq_true h1]
    rw [cl]
    obtain ⟨id, hid⟩ : ∃ id, id = N0 + 24 := ⟨_, rfl⟩
    rw [← hid]
    have cs : PmOk p w → PDet Try.prog 63 [.sl 4 (((cE w).map (pmv p)).map entC)] (EL (pmOut p w)) := fun hy => by
      unfold pmOut; rw [if_pos hy]
      have hK : OkL ((cE w).map (pmv p)) (k + v.length * (k + 1)) := fun e he => by
        obtain ⟨x, hx, rfl⟩ := List.mem_map.1 he
        exact cE_ok hok x hx
      have hm : w.length * ((k + v.length * (k + 1)) + 1) ≤ 40 * ((k + v.length * (k + 1)) + 1) := Nat.mul_le_mul_right _ (by omega)
      exact sorted_spec _ _ hK (by omega) (by simp [cl]; omega) (by rw [List.length_map, cl]; omega)
    unfold EL at cs
    rcases Nat.eq_zero_or_pos w.length with hw | hw
    · have hyes : PmOk p w := ⟨h1, by rw [List.eq_nil_of_length_eq_zero hw]; exact nofun⟩
      have cs := cs hyes
      rw [decide_eq_true hyes]
      simp -implicitDefEqProofs (maxSteps := 2000000) (disch := omega) only [go_sem, simprocAttr, -List.reduceReplicate, condB_t, condB_f]
      refine aw_loop (X := Nat) (fun i => ⟨mkS [(1, .sl 1 (p.map intC)), (6, .row id w.length 0 w.length), (38, .int .i64 w.length), (39, .int .i64 i)], mkH h [(id, ⟨4, (pmL p (cE w) i).map entC⟩)], id + 8⟩) (fun i => i ≤ w.length) (fun i => w.length - i) ⟨0, Nat.zero_le _, ?_⟩ ?_
      · rw [show pmL p (cE w) 0 = cE w from rfl]
        (refine Weak.head1w (by simp -implicitDefEqProofs (maxSteps := 2000000) (disch := omega) only [go_sem, simprocAttr, -List.reduceReplicate, condB_t, condB_f] <;> (try rfl)) (by omega) (mapU _ _ _) (fun k0 b0 hk0 hb0 => by have hk1 : (k0 = _) = False := eq_false hk0; have hk2 := (hmen k0 b0 hb0).1; (simp -implicitDefEqProofs (maxSteps := 2000000) (disch := omega) only [go_sem, simprocAttr, -List.reduceReplicate, condB_t, condB_f, upd, mkH, hk1]) <;> (try (repeat rw [if_neg (by omega)])) <;> exact hb0) (by omega) hmen ?_; simp -implicitDefEqProofs (maxSteps := 2000000) (disch := omega) only [go_sem, simprocAttr, -List.reduceReplicate, condB_t, condB_f, AllP, AVle_same, AVle_int, AVle_nil, AVle_row, topU_int, topU_bool, topU_sl, topU_row, topU_ptr, topU_iptr, topU_fn, val, List.drop_length])
      · intro i hi
        have pl := pmL_len p (cE w) i
        by_cases h0 : i < w.length
        · omega
        · obtain rfl : i = w.length := by omega
          have e1 : pmL p (cE w) w.length = (cE w).map (pmv p) := by
            unfold pmL
            rw [← cl, List.take_of_length_le (Nat.le_refl _), List.drop_eq_nil_of_le (Nat.le_refl _), List.append_nil]
          rw [e1]
          simp -implicitDefEqProofs (maxSteps := 2000000) (disch := omega) only [go_sem, simprocAttr, -List.reduceReplicate, condB_t, condB_f]
          refine callK_row cs (by simp only [upd_same, mkH_cons, ↓reduceIte] <;> rfl) (by simp [cl]) (by omega) (List.take_of_length_le (by simp [cl])) (mapP _) ?_
          simp -implicitDefEqProofs (maxSteps := 2000000) (disch := omega) only [go_sem, simprocAttr, -List.reduceReplicate, condB_t, condB_f]
          exact dn
    · have gf := cE_get hw
      have gl := cE_get (v := w) (i := w.length - 1) (by omega)
      have hf := asc_first hcan
      have hla := asc_last hcan
      have m0 : w.getD 0 default ∈ w := by rw [List.getD_eq_getElem?_getD, List.getElem?_eq_getElem hw]; exact List.getElem_mem _
      have m1 : w.getD (w.length - 1) default ∈ w := by rw [List.getD_eq_getElem?_getD, List.getElem?_eq_getElem (by omega)]; exact List.getElem_mem _
      by_cases h2 : (w.getD 0 default).1 < 0
      · have hno : ¬ PmOk p w := fun h => by have := (h.2 _ m0).1; omega
        have e : pmOut p w = [] := by unfold pmOut; rw [if_neg hno]
        rw [decide_eq_false hno, e]
        simp -implicitDefEqProofs (maxSteps := 2000000) (disch := omega) only [go_sem, simprocAttr, -List.reduceReplicate, condB_t, condB_f, gf]
        exact dn
      · by_cases h3 : (p.length : Int) ≤ (w.getD (w.length - 1) default).1
        · have hno : ¬ PmOk p w := fun h => by have := (h.2 _ m1).2; omega
          have e : pmOut p w = [] := by unfold pmOut; rw [if_neg hno]
          rw [decide_eq_false hno, e]
          simp -implicitDefEqProofs (maxSteps := 2000000) (disch := omega) only [go_sem, simprocAttr, -List.reduceReplicate, condB_t, condB_f, gf, gl]
          exact dn
        · have hyes : PmOk p w := ⟨h1, fun e he => by have := hf e he; have := hla e he; omega⟩
          have cs := cs hyes
          rw [decide_eq_true hyes]
          simp -implicitDefEqProofs (maxSteps := 2000000) (disch := omega) only [go_sem, simprocAttr, -List.reduceReplicate, condB_t, condB_f, gf, gl]
          refine aw_loop (X := Nat) (fun i => ⟨mkS [(1, .sl 1 (p.map intC)), (6, .row id w.length 0 w.length), (38, .int .i64 w.length), (39, .int .i64 i)], mkH h [(id, ⟨4, (pmL p (cE w) i).map entC⟩)], id + 8⟩) (fun i => i ≤ w.length) (fun i => w.length - i) ⟨0, Nat.zero_le _, ?_⟩ ?_
          · rw [show pmL p (cE w) 0 = cE w from rfl]
            (refine Weak.head1w (by simp -implicitDefEqProofs (maxSteps := 2000000) (disch := omega) only [go_sem, simprocAttr, -List.reduceReplicate, condB_t, condB_f] <;> (try rfl)) (by omega) (mapU _ _ _) (fun k0 b0 hk0 hb0 => by have hk1 : (k0 = _) = False := eq_false hk0; have hk2 := (hmen k0 b0 hb0).1; (simp -implicitDefEqProofs (maxSteps := 2000000) (disch := omega) only [go_sem, simprocAttr, -List.reduceReplicate, condB_t, condB_f, upd, mkH, hk1]) <;> (try (repeat rw [if_neg (by omega)])) <;> exact hb0) (by omega) hmen ?_; simp -implicitDefEqProofs (maxSteps := 2000000) (disch := omega) only [go_sem, simprocAttr, -List.reduceReplicate, condB_t, condB_f, AllP, AVle_same, AVle_int, AVle_nil, AVle_row, topU_int, topU_bool, topU_sl, topU_row, topU_ptr, topU_iptr, topU_fn, val, List.drop_length])
          · intro i hi
            have pl := pmL_len p (cE w) i
            by_cases h0 : i < w.length
            · have g1 := pmL_get (p := p) (l := cE w) (i := i) (by omega)
              have s1 := pmL_set (p := p) (l := cE w) (i := i) (by omega)
              have g2 := cE_get h0
              rw [g2] at g1 s1
              have mx : w.getD i default ∈ w := by rw [List.getD_eq_getElem?_getD, List.getElem?_eq_getElem h0]; exact List.getElem_mem _
              have hin := hyes.2 _ mx
              generalize w.getD i default = e at *
              simp only at s1
              simp -implicitDefEqProofs (maxSteps := 2000000) (disch := omega) only [go_sem, simprocAttr, -List.reduceReplicate, condB_t, condB_f, g1]
              exact ⟨i + 1, h0, by omega, by (refine Weak.head1w (by simp -implicitDefEqProofs (maxSteps := 2000000) (disch := omega) only [go_sem, simprocAttr, -List.reduceReplicate, condB_t, condB_f, g1, s1] <;> (try rfl)) (by omega) (mapU _ _ _) (fun k0 b0 hk0 hb0 => by have hk1 : (k0 = _) = False := eq_false hk0; have hk2 := (hmen k0 b0 hb0).1; (simp -implicitDefEqProofs (maxSteps := 2000000) (disch := omega) only [go_sem, simprocAttr, -List.reduceReplicate, condB_t, condB_f, upd, mkH, hk1]) <;> (try (repeat rw [if_neg (by omega)])) <;> exact hb0) (by omega) hmen ?_; simp -implicitDefEqProofs (maxSteps := 2000000) (disch := omega) only [go_sem, simprocAttr, -List.reduceReplicate, condB_t, condB_f, AllP, AVle_same, AVle_int, AVle_nil, AVle_row, topU_int, topU_bool, topU_sl, topU_row, topU_ptr, topU_iptr, topU_fn, val, List.drop_length, g1, s1])⟩
            · obtain rfl : i = w.length := by omega
              have e1 : pmL p (cE w) w.length = (cE w).map (pmv p) := by
                unfold pmL
                rw [← cl, List.take_of_length_le (Nat.le_refl _), List.drop_eq_nil_of_le (Nat.le_refl _), List.append_nil]
              rw [e1]
              simp -implicitDefEqProofs (maxSteps := 2000000) (disch := omega) only [go_sem, simprocAttr, -List.reduceReplicate, condB_t, condB_f]
              refine callK_row cs (by simp only [upd_same, mkH_cons, ↓reduceIte] <;> rfl) (by simp [cl]) (by omega) (List.take_of_length_le (by simp [cl])) (mapP _) ?_
              simp -implicitDefEqProofs (maxSteps := 2000000) (disch := omega) only [go_sem, simprocAttr, -List.reduceReplicate, condB_t, condB_f]
              exact dn
  · have hno : ¬ PmOk p w := fun h => h1 h.1
    have e : pmOut p w = [] := by unfold pmOut; rw [if_neg hno]
    rw [decide_eq_false h1, decide_eq_false hno, e]
    simp -implicitDefEqProofs (maxSteps := 2000000) (disch := omega) only [go_sem, simprocAttr, -List.reduceReplicate, condB_t, condB_f]
    exact dn
end Go.Abs
/-! YtbVec6: Sparse vectors: inner product. No condition. -/
set_option linter.unusedVariables false
set_option linter.unusedSimpArgs false
set_option maxRecDepth 100000
set_option maxHeartbeats 1000000
namespace Go.Abs
open Go.Proofs
@[go_sem] theorem R31 : Try.f31.results.toList = [.cell 4 56] := rfl
/-- The inner product of two canonical vectors, as it is summed up. -/
def dotM : Vec → Vec → Rat
  | [], _ => 0
  | _ :: _, [] => 0
  | a :: x, b :: y => if a.1 < b.1 then dotM x (b :: y) else if b.1 < a.1 then dotM (a :: x) y else a.2 * b.2 + dotM x y
termination_by x y => x.length + y.length
theorem dotM_nil (x : Vec) : dotM x [] = 0 := by cases x <;> rw [dotM]
theorem dotM_drop {S T : List Ent} {i j : Nat} (hi : i < S.length) (hj : j < T.length) : dotM (eV (S.drop i)) (eV (T.drop j)) =
    if (S.getD i default).1 < (T.getD j default).1 then dotM (eV (S.drop (i + 1))) (eV (T.drop j)) else if (T.getD j default).1 < (S.getD i default).1 then dotM (eV (S.drop i)) (eV (T.drop (j + 1)))
    else (S.getD i default).2.val * (T.getD j default).2.val + dotM (eV (S.drop (i + 1))) (eV (T.drop (j + 1))) := by
  have h1 : S.drop i = S.getD i default :: S.drop (i + 1) := by rw [List.drop_eq_getElem_cons hi, List.getD_eq_getElem?_getD, List.getElem?_eq_getElem hi]; rfl
  have h2 : T.drop j = T.getD j default :: T.drop (j + 1) := by rw [List.drop_eq_getElem_cons hj, List.getD_eq_getElem?_getD, List.getElem?_eq_getElem hj]; rfl
  rw [h1, h2]
  simp only [eV, List.map_cons]
  rw [dotM]
theorem dot_spec (x y : List Ent) (k K : Nat) (hx : OkL x k) (hy : OkL y k) (hk1 : 1 ≤ k) (lx : x.length ≤ 40) (ly : y.length ≤ 40) (bx : k + x.length * (k + 1) ≤ K) (bY : k + y.length * (k + 1) ≤ K) (hK : K ≤ 10000000000) :
    PDet Try.prog 31 [EL x, EL y] (.agg (rC (dotM (vcan (eV x)) (vcan (eV y))))) := by
  refine pdet_of E0ok mixed Try.func31 (by kernel_rfl) rfl (by kernel_rfl) (Nat.le_of_ble_eq_true rfl) fun N0 h hn hmen => ?_
  have c1 := sorted_spec x k hx hk1 lx (by omega)
  have c2 := sorted_spec y k hy hk1 ly (by omega)
  have hS : OkL (srt x) K := (srt_ok hk1 hx).mono bx
  have hT : OkL (srt y) K := (srt_ok hk1 hy).mono bY
  have lS := srt_len x
  have lT := srt_len y
  have cz := rfromInt_spec 0 (by decide) (by decide)
  rw [← srt_val, ← srt_val]
  generalize srt x = S at *
  generalize srt y = T at *
  unfold EL rC Raw.cells nl at *
  simp -implicitDefEqProofs (maxSteps := 2000000) (disch := omega) only [go_sem, simprocAttr, -List.reduceReplicate, condB_t, condB_f]
  refine callK_pure c1 ?_
  simp -implicitDefEqProofs (maxSteps := 2000000) (disch := omega) only [go_sem, simprocAttr, -List.reduceReplicate, condB_t, condB_f]
  refine callK_pure c2 ?_
  simp -implicitDefEqProofs (maxSteps := 2000000) (disch := omega) only [go_sem, simprocAttr, -List.reduceReplicate, condB_t, condB_f]
  refine callK_pure cz ?_
  simp -implicitDefEqProofs (maxSteps := 2000000) (disch := omega) only [go_sem, simprocAttr, -List.reduceReplicate, condB_t, condB_f]
  obtain ⟨ia, hia⟩ : ∃ ia, ia = N0 + 64 := ⟨_, rfl⟩
  have n1 : (N0 = ia) = False := eq_false (by omega)
  have n2 : (ia = N0) = False := eq_false (by omega)
  rw [← hia]
  refine aw_loop (X := Nat × Nat × Rat) (fun x => ⟨mkS [(4, .ptr N0 1 0 0), (5, .sl 4 (S.map entC)), (6, .sl 4 (T.map entC)), (7, .ptr ia 1 0 0), (8, .int .i64 x.1), (9, .int .i64 x.2.1)], mkH h [(N0, ⟨3, [[.bool false, .nil, .nil]]⟩), (ia, ⟨3, [[.bool (canon x.2.2).s, .sl 1 (numL (canon x.2.2).m), .sl 1 (numL (canon x.2.2).d)]]⟩)], ia + 8⟩)
    (fun x => x.1 ≤ S.length ∧ x.2.1 ≤ T.length ∧ Sz x.2.2 (1 + x.1 * (K + K + 1)) ∧ x.2.2 + dotM (eV (S.drop x.1)) (eV (T.drop x.2.1)) = dotM (eV S) (eV T)) (fun x => (S.length - x.1) + (T.length - x.2.1)) ⟨(0, 0, 0), ⟨Nat.zero_le _, Nat.zero_le _, sz_zero (by omega), by simp only [List.drop_zero]; grind⟩, ?_⟩ ?_
  · have e : (((0 : Int) : Rat)) = 0 := rfl
    rw [e]
    (refine Weak.head2w (by simp -implicitDefEqProofs (maxSteps := 2000000) (disch := omega) only [go_sem, simprocAttr, -List.reduceReplicate, condB_t, condB_f, n1, n2] <;> (try rfl)) (by omega) (by first | exact mapU _ _ _ | exact mapU entC [_] _ | exact mapU ratC [_] _ | (intro r hr a ha; simp only [List.mem_cons, List.not_mem_nil, or_false] at hr; subst hr; simp only [List.mem_cons, List.not_mem_nil, or_false] at ha; rcases ha with rfl | rfl | rfl <;> trivial)) (by simp -implicitDefEqProofs (maxSteps := 2000000) (disch := omega) only [go_sem, simprocAttr, -List.reduceReplicate, condB_t, condB_f, n1, n2] <;> (try rfl)) (by omega) (by first | exact mapU _ _ _ | exact mapU entC [_] _ | exact mapU ratC [_] _ | (intro r hr a ha; simp only [List.mem_cons, List.not_mem_nil, or_false] at hr; subst hr; simp only [List.mem_cons, List.not_mem_nil, or_false] at ha; rcases ha with rfl | rfl | rfl <;> trivial)) (fun k0 b0 hk00 hk01 hb0 => by have hk10 : (k0 = _) = False := eq_false hk00; have hk11 : (k0 = _) = False := eq_false hk01; have hk2 := (hmen k0 b0 hb0).1; (simp -implicitDefEqProofs (maxSteps := 2000000) (disch := omega) only [go_sem, simprocAttr, -List.reduceReplicate, condB_t, condB_f, upd, mkH, hk10, hk11]) <;> (try (repeat rw [if_neg (by omega)])) <;> exact hb0) (by omega) hmen ?_; simp -implicitDefEqProofs (maxSteps := 2000000) (disch := omega) only [go_sem, simprocAttr, -List.reduceReplicate, condB_t, condB_f, AllP, AVle_same, AVle_int, AVle_nil, AVle_row, topU_int, topU_bool, topU_sl, topU_row, topU_ptr, topU_iptr, topU_fn, val, List.drop_length])
  · rintro ⟨i, j, q⟩ ⟨hi, hj, hz, hq⟩
    simp only at hi hj hz hq
    by_cases h0 : i < S.length
    · by_cases h1 : j < T.length
      · have sx := hS.get h0
        have sy := hT.get h1
        have hd := dotM_drop h0 h1
        have hm : i * (K + K + 1) ≤ 40 * (10000000000 + 10000000000 + 1) := Nat.mul_le_mul (by omega) (by omega)
        have K1 : 1 ≤ K := by omega
        have cm := rmul_spec _ _ K K sx sy K1 K1 (by omega)
        have sm := (sx.sz K1).mul (sy.sz K1)
        have ca := radd_spec _ _ _ _ (canon_ok hz) (canon_ok sm) (by omega) (by omega) (by omega)
        have ss := hz.add sm
        rw [canon_val, canon_val] at ca
        unfold rC Raw.cells nl at cm ca
        obtain ⟨e, he⟩ : ∃ e, S.getD i default = e := ⟨_, rfl⟩
        obtain ⟨f, hf⟩ : ∃ f, T.getD j default = f := ⟨_, rfl⟩
        rw [he, hf] at hd ca
        rw [he, hf] at cm ss
        by_cases h2 : e.1 < f.1
        · rw [if_pos h2] at hd
          simp -implicitDefEqProofs (maxSteps := 2000000) (disch := omega) only [go_sem, simprocAttr, -List.reduceReplicate, condB_t, condB_f, n1, n2, he, hf]
          exact ⟨(i + 1, j, q), ⟨h0, hj, hz.mono (Nat.add_le_add_left (Nat.mul_le_mul_right _ (Nat.le_succ i)) 1), by rw [← hq, hd]⟩, by simp only; omega, by (refine Weak.head2w (by simp -implicitDefEqProofs (maxSteps := 2000000) (disch := omega) only [go_sem, simprocAttr, -List.reduceReplicate, condB_t, condB_f, n1, n2, he, hf] <;> (try rfl)) (by omega) (by first | exact mapU _ _ _ | exact mapU entC [_] _ | exact mapU ratC [_] _ | (intro r hr a ha; simp only [List.mem_cons, List.not_mem_nil, or_false] at hr; subst hr; simp only [List.mem_cons, List.not_mem_nil, or_false] at ha; rcases ha with rfl | rfl | rfl <;> trivial)) (by simp -implicitDefEqProofs (maxSteps := 2000000) (disch := omega) only [go_sem, simprocAttr, -List.reduceReplicate, condB_t, condB_f, n1, n2, he, hf] <;> (try rfl)) (by omega) (by first | exact mapU _ _ _ | exact mapU entC [_] _ | exact mapU ratC [_] _ | (intro r hr a ha; simp only [List.mem_cons, List.not_mem_nil, or_false] at hr; subst hr; simp only [List.mem_cons, List.not_mem_nil, or_false] at ha; rcases ha with rfl | rfl | rfl <;> trivial)) (fun k0 b0 hk00 hk01 hb0 => by have hk10 : (k0 = _) = False := eq_false hk00; have hk11 : (k0 = _) = False := eq_false hk01; have hk2 := (hmen k0 b0 hb0).1; (simp -implicitDefEqProofs (maxSteps := 2000000) (disch := omega) only [go_sem, simprocAttr, -List.reduceReplicate, condB_t, condB_f, upd, mkH, hk10, hk11]) <;> (try (repeat rw [if_neg (by omega)])) <;> exact hb0) (by omega) hmen ?_; simp -implicitDefEqProofs (maxSteps := 2000000) (disch := omega) only [go_sem, simprocAttr, -List.reduceReplicate, condB_t, condB_f, AllP, AVle_same, AVle_int, AVle_nil, AVle_row, topU_int, topU_bool, topU_sl, topU_row, topU_ptr, topU_iptr, topU_fn, val, List.drop_length])⟩
        · rw [if_neg h2] at hd
          by_cases h3 : f.1 < e.1
          · rw [if_pos h3] at hd
            simp -implicitDefEqProofs (maxSteps := 2000000) (disch := omega) only [go_sem, simprocAttr, -List.reduceReplicate, condB_t, condB_f, n1, n2, he, hf]
            exact ⟨(i, j + 1, q), ⟨hi, h1, hz, by rw [← hq, hd]⟩, by simp only; omega, by (refine Weak.head2w (by simp -implicitDefEqProofs (maxSteps := 2000000) (disch := omega) only [go_sem, simprocAttr, -List.reduceReplicate, condB_t, condB_f, n1, n2, he, hf] <;> (try rfl)) (by omega) (by first | exact mapU _ _ _ | exact mapU entC [_] _ | exact mapU ratC [_] _ | (intro r hr a ha; simp only [List.mem_cons, List.not_mem_nil, or_false] at hr; subst hr; simp only [List.mem_cons, List.not_mem_nil, or_false] at ha; rcases ha with rfl | rfl | rfl <;> trivial)) (by simp -implicitDefEqProofs (maxSteps := 2000000) (disch := omega) only [go_sem, simprocAttr, -List.reduceReplicate, condB_t, condB_f, n1, n2, he, hf] <;> (try rfl)) (by omega) (by first | exact mapU _ _ _ | exact mapU entC [_] _ | exact mapU ratC [_] _ | (intro r hr a ha; simp only [List.mem_cons, List.not_mem_nil, or_false] at hr; subst hr; simp only [List.mem_cons, List.not_mem_nil, or_false] at ha; rcases ha with rfl | rfl | rfl <;> trivial)) (fun k0 b0 hk00 hk01 hb0 => by have hk10 : (k0 = _) = False := eq_false hk00; have hk11 : (k0 = _) = False := eq_false hk01; have hk2 := (hmen k0 b0 hb0).1; (simp -implicitDefEqProofs (maxSteps := 2000000) (disch := omega) only [go_sem, simprocAttr, -List.reduceReplicate, condB_t, condB_f, upd, mkH, hk10, hk11]) <;> (try (repeat rw [if_neg (by omega)])) <;> exact hb0) (by omega) hmen ?_; simp -implicitDefEqProofs (maxSteps := 2000000) (disch := omega) only [go_sem, simprocAttr, -List.reduceReplicate, condB_t, condB_f, AllP, AVle_same, AVle_int, AVle_nil, AVle_row, topU_int, topU_bool, topU_sl, topU_row, topU_ptr, topU_iptr, topU_fn, val, List.drop_length])⟩
          · rw [if_neg h3] at hd
            simp -implicitDefEqProofs (maxSteps := 2000000) (disch := omega) only [go_sem, simprocAttr, -List.reduceReplicate, condB_t, condB_f, n1, n2, he, hf]
            refine pcallK_pure cm ?_
            simp -implicitDefEqProofs (maxSteps := 2000000) (disch := omega) only [go_sem, simprocAttr, -List.reduceReplicate, condB_t, condB_f, n1, n2, he, hf]
            refine pcallK_pure ca ?_
            simp -implicitDefEqProofs (maxSteps := 2000000) (disch := omega) only [go_sem, simprocAttr, -List.reduceReplicate, condB_t, condB_f, n1, n2, he, hf]
            exact ⟨(i + 1, j + 1, q + e.2.val * f.2.val), ⟨h0, h1, ss.mono (by have h9 : (i + 1) * (K + K + 1) = i * (K + K + 1) + (K + K + 1) := Nat.succ_mul _ _; show _ ≤ 1 + (i + 1) * (K + K + 1); omega), by rw [← hq, hd]; simp only; grind⟩, by simp only; omega, by (refine Weak.head2w (by simp -implicitDefEqProofs (maxSteps := 2000000) (disch := omega) only [go_sem, simprocAttr, -List.reduceReplicate, condB_t, condB_f, n1, n2, he, hf] <;> (try rfl)) (by omega) (by first | exact mapU _ _ _ | exact mapU entC [_] _ | exact mapU ratC [_] _ | (intro r hr a ha; simp only [List.mem_cons, List.not_mem_nil, or_false] at hr; subst hr; simp only [List.mem_cons, List.not_mem_nil, or_false] at ha; rcases ha with rfl | rfl | rfl <;> trivial)) (by simp -implicitDefEqProofs (maxSteps := 2000000) (disch := omega) only [go_sem, simprocAttr, -List.reduceReplicate, condB_t, condB_f, n1, n2, he, hf] <;> (try rfl)) (by omega) (by first | exact mapU _ _ _ | exact mapU entC [_] _ | exact mapU ratC [_] _ | (intro r hr a ha; simp only [List.mem_cons, List.not_mem_nil, or_false] at hr; subst hr; simp only [List.mem_cons, List.not_mem_nil, or_false] at ha; rcases ha with rfl | rfl | rfl <;> trivial)) (fun k0 b0 hk00 hk01 hb0 => by have hk10 : (k0 = _) = False := eq_false hk00; have hk11 : (k0 = _) = False := eq_false hk01; have hk2 := (hmen k0 b0 hb0).1; (simp -implicitDefEqProofs (maxSteps := 2000000) (disch := omega) only [go_sem, simprocAttr, -List.reduceReplicate, condB_t, condB_f, upd, mkH, hk10, hk11]) <;> (try (repeat rw [if_neg (by omega)])) <;> exact hb0) (by omega) hmen ?_; simp -implicitDefEqProofs (maxSteps := 2000000) (disch := omega) only [go_sem, simprocAttr, -List.reduceReplicate, condB_t, condB_f, AllP, AVle_same, AVle_int, AVle_nil, AVle_row, topU_int, topU_bool, topU_sl, topU_row, topU_ptr, topU_iptr, topU_fn, val, List.drop_length])⟩
      · have hd : dotM (eV (S.drop i)) (eV (T.drop j)) = 0 := by rw [show T.drop j = [] from List.drop_eq_nil_of_le (by omega)]; exact dotM_nil _
        rw [← hq, hd, show q + 0 = q by grind]
        simp -implicitDefEqProofs (maxSteps := 2000000) (disch := omega) only [go_sem, simprocAttr, -List.reduceReplicate, condB_t, condB_f, n1, n2]
        exact dn
    · have hd : dotM (eV (S.drop i)) (eV (T.drop j)) = 0 := by rw [show S.drop i = [] from List.drop_eq_nil_of_le (by omega)]; unfold eV; rw [List.map_nil, dotM]
      rw [← hq, hd, show q + 0 = q by grind]
      simp -implicitDefEqProofs (maxSteps := 2000000) (disch := omega) only [go_sem, simprocAttr, -List.reduceReplicate, condB_t, condB_f, n1, n2]
      exact dn
end Go.Abs
/-! YtbTape1: The makers of inputs: the tape. No condition. -/
set_option linter.unusedVariables false
set_option linter.unusedSimpArgs false
set_option maxRecDepth 100000
set_option maxHeartbeats 1000000
namespace Go.Abs
open Go.Proofs
@[go_sem] theorem R21 : Try.f21.results.toList = [.tmp 4] := rfl
@[go_sem] theorem R12 : Try.f12.results.toList = [.tmp 2] := rfl
@[go_sem] theorem R34 : Try.f34.results.toList = [.tmp 4] := rfl
@[go_sem] theorem R13 : Try.f13.results.toList = [.tmp 4] := rfl
theorem mod_spec (x : Int) (n : Nat) (h0 : 0 < n) (hn' : n ≤ 1099511627776) : PDet Try.prog 21 [.int .i64 x, .int .i64 n] (.int .i64 ((x % 18446744073709551616).toNat % n : Nat)) := by
  refine pdet_of E0ok mixed Try.func21 (by kernel_rfl) rfl (by kernel_rfl) (Nat.le_of_ble_eq_true rfl) fun N0 h hn hmen => ?_
  have e : (x % 18446744073709551616).tmod n = (((x % 18446744073709551616).toNat % n : Nat) : Int) := by
    rw [Int.tmod_eq_emod_of_nonneg (by omega), Int.natCast_emod, Int.toNat_of_nonneg (by omega)]
  have hlt := Nat.mod_lt (x % 18446744073709551616).toNat h0
  generalize (x % 18446744073709551616).toNat % n = q at *
  simp -implicitDefEqProofs (maxSteps := 2000000) (disch := omega) only [go_sem, simprocAttr, -List.reduceReplicate, condB_t, condB_f, e]
  exact dn
theorem tapeNew_new (l : List Int) (h : Heap) (m : Nat) : ADet Try.prog 12 [IL l] h m (.ptr m 1 0 0) (upd h m (some ⟨2, [[IL l, .int .i64 0]]⟩)) := by
  unfold IL
  refine anew_of E0ok mixed Try.func12 (by kernel_rfl) rfl (by kernel_rfl) (Nat.le_of_ble_eq_true rfl) (fun _ h => h) (by intro r hr a ha; simp only [List.mem_cons, List.not_mem_nil, or_false] at hr; subst hr; simp only [List.mem_cons, List.not_mem_nil, or_false] at ha; rcases ha with rfl | rfl <;> rfl) fun N0 hn hmen _ => ⟨hmen, ?_⟩
  simp -implicitDefEqProofs (maxSteps := 2000000) (disch := omega) only [go_sem, simprocAttr, -List.reduceReplicate, condB_t, condB_f]
  exact ⟨N0 + 24, by omega, by simp -implicitDefEqProofs (maxSteps := 2000000) (disch := omega) only [go_sem, simprocAttr, -List.reduceReplicate, condB_t, condB_f], .val (.ptr _ _ _)⟩
/-- The number at the tape's head. -/
def tapeN (l : List Int) (i n : Nat) : Nat := if i < l.length then (l.getD i 0 % 18446744073709551616).toNat % n else 0
theorem tapeNext_spec (l : List Int) (i n : Nat) (hi : i ≤ l.length) (hl : l.length ≤ 1099511627776) (h0 : 0 < n) (hn' : n ≤ 1099511627776) (h : Heap) (id m : Nat) (hid : h id = some ⟨2, [[IL l, .int .i64 i]]⟩) :
    ADet Try.prog 34 [.ptr id 1 0 0, .int .i64 n] h m (.int .i64 (tapeN l i n)) (upd h id (some ⟨2, [[IL l, .int .i64 (if i < l.length then i + 1 else i : Nat)]]⟩)) := by
  unfold IL at *
  refine adet_of E0ok mixed Try.func34 (by kernel_rfl) rfl (by kernel_rfl) (Nat.le_of_ble_eq_true rfl) (none_put hid) fun N0 hn hmen _ => ⟨hmen.put hid (by intro r hr a ha; simp only [List.mem_cons, List.not_mem_nil, or_false] at hr; subst hr; simp only [List.mem_cons, List.not_mem_nil, or_false] at ha; rcases ha with rfl | rfl <;> trivial), ?_⟩
  have hidlt : id < N0 := (hmen id _ hid).1
  have cm := mod_spec (l.getD i 0) n h0 hn'
  unfold tapeN
  by_cases h1 : i < l.length
  · rw [if_pos h1, if_pos h1]
    simp -implicitDefEqProofs (maxSteps := 2000000) (disch := omega) only [go_sem, simprocAttr, -List.reduceReplicate, condB_t, condB_f, hid]
    refine pcallK_pure cm ?_
    simp -implicitDefEqProofs (maxSteps := 2000000) (disch := omega) only [go_sem, simprocAttr, -List.reduceReplicate, condB_t, condB_f]
    exact dn
  · rw [if_neg h1, if_neg h1]
    simp -implicitDefEqProofs (maxSteps := 2000000) (disch := omega) only [go_sem, simprocAttr, -List.reduceReplicate, condB_t, condB_f, hid]
    have e : upd h id (some ⟨2, [[.sl 1 (l.map intC), .int .i64 (i : Nat)]]⟩) = h := by
      funext q; unfold upd; split
      · rename_i hq; rw [hq, hid]
      · rfl
    rw [e]
    exact ⟨fun _ _ => rfl, ThawT.refl rfl⟩
/-- The order that the tape deals, i cards in. -/
def permT (l : List Int) (i0 : Nat) : Nat → List Int
  | 0 => []
  | i + 1 => ((permT l i0 i).take (tapeN l (i0 + i) (i + 1)) ++ [(i : Int)]) ++ (permT l i0 i).drop (tapeN l (i0 + i) (i + 1))
theorem tapeN_lt (l : List Int) (i n : Nat) (h : 0 < n) : tapeN l i n < n := by
  unfold tapeN; split
  · exact Nat.mod_lt _ h
  · exact h
theorem permT_len (l : List Int) (i0 i : Nat) : (permT l i0 i).length = i := by
  induction i with
  | zero => rfl
  | succ i ih =>
    have := tapeN_lt l (i0 + i) (i + 1) (Nat.succ_pos _)
    unfold permT
    simp only [List.length_append, List.length_take, List.length_drop, List.length_cons, List.length_nil, ih]; omega
theorem permT_perm (l : List Int) (i0 i : Nat) : (permT l i0 i).Perm ((List.range i).map fun (j : Nat) => (j : Int)) := by
  induction i with
  | zero => exact .refl _
  | succ i ih =>
    rw [List.range_succ, List.map_append]
    unfold permT
    refine List.Perm.trans ?_ (List.Perm.append_right _ ih)
    rw [List.append_assoc]
    refine List.Perm.trans List.perm_append_comm ?_
    rw [List.append_assoc]
    refine List.Perm.trans List.perm_append_comm ?_
    refine List.Perm.append_right _ ?_
    refine List.Perm.trans List.perm_append_comm ?_
    rw [List.take_append_drop]
theorem tape_min (l : List Int) (i n : Nat) : tapeN l (min i l.length) n = tapeN l i n := by
  unfold tapeN
  by_cases h : i < l.length
  · rw [Nat.min_eq_left (by omega)]
  · rw [Nat.min_eq_right (by omega), if_neg (by omega), if_neg h]
theorem tapePerm_spec (l : List Int) (i0 n : Nat) (hi0 : i0 ≤ l.length) (hl : l.length ≤ 1099511627776) (hn' : n ≤ 1000000) (h : Heap) (id m : Nat) (hid : h id = some ⟨2, [[IL l, .int .i64 i0]]⟩) :
    ADet Try.prog 13 [.ptr id 1 0 0, .int .i64 n] h m (IL (permT l i0 n)) (upd h id (some ⟨2, [[IL l, .int .i64 (min (i0 + n) l.length : Nat)]]⟩)) := by
  have hnx := fun i (hi : i ≤ l.length) => tapeNext_spec l i
  unfold IL at *
  refine adet_of E0ok mixed Try.func13 (by kernel_rfl) rfl (by kernel_rfl) (Nat.le_of_ble_eq_true rfl) (none_put hid) fun N0 hn hmen _ => ⟨hmen.put hid (by intro r hr a ha; simp only [List.mem_cons, List.not_mem_nil, or_false] at hr; subst hr; simp only [List.mem_cons, List.not_mem_nil, or_false] at ha; rcases ha with rfl | rfl <;> trivial), ?_⟩
  have hidlt : id < N0 := (hmen id _ hid).1
  simp -implicitDefEqProofs (maxSteps := 2000000) (disch := omega) only [go_sem, simprocAttr, -List.reduceReplicate, condB_t, condB_f, hid]
  refine aw_weak (Weak.nilRow (t := 5) (sz := 1) (id := N0 + 24) (by omega) (by omega) (by simp -implicitDefEqProofs (maxSteps := 2000000) (disch := omega) only [go_sem, simprocAttr, -List.reduceReplicate, condB_t, condB_f])) ?_
  refine aw_loop (X := Nat × Nat) (fun x => ⟨mkS [(0, .ptr id 1 0 0), (1, .int .i64 n), (5, .row x.2 x.1 0 x.1), (6, .int .i64 x.1)], mkH h [(id, ⟨2, [[.sl 1 (l.map intC), .int .i64 (min (i0 + x.1) l.length : Nat)]]⟩), (x.2, ⟨1, (permT l i0 x.1).map intC⟩)], x.2 + 8⟩)
    (fun x => x.1 ≤ n ∧ N0 ≤ x.2) (fun x => n - x.1) ⟨(0, N0 + 24), ⟨Nat.zero_le _, by simp⟩, ?_⟩ ?_
  · rw [show min (i0 + 0) l.length = i0 by omega]
    simp only [permT]
    have m1 : (id = N0 + 24) = False := eq_false (by omega)
    (refine Weak.head2w (by simp -implicitDefEqProofs (maxSteps := 2000000) (disch := omega) only [go_sem, simprocAttr, -List.reduceReplicate, condB_t, condB_f, hid, m1] <;> (try rfl)) (by omega) (by first | exact mapU _ _ _ | exact mapU entC [_] _ | exact mapU ratC [_] _ | (intro r hr a ha; simp only [List.mem_cons, List.not_mem_nil, or_false] at hr; subst hr; simp only [List.mem_cons, List.not_mem_nil, or_false] at ha; rcases ha with rfl | rfl | rfl <;> trivial)) (by simp -implicitDefEqProofs (maxSteps := 2000000) (disch := omega) only [go_sem, simprocAttr, -List.reduceReplicate, condB_t, condB_f, hid, m1] <;> (try rfl)) (by omega) (by first | exact mapU _ _ _ | exact mapU entC [_] _ | exact mapU ratC [_] _ | (intro r hr a ha; simp only [List.mem_cons, List.not_mem_nil, or_false] at hr; subst hr; simp only [List.mem_cons, List.not_mem_nil, or_false] at ha; rcases ha with rfl | rfl | rfl <;> trivial)) (fun k0 b0 hk00 hk01 hb0 => by have hk10 : (k0 = _) = False := eq_false hk00; have hk11 : (k0 = _) = False := eq_false hk01; have hk2 := (hmen k0 b0 hb0).1; (simp -implicitDefEqProofs (maxSteps := 2000000) (disch := omega) only [go_sem, simprocAttr, -List.reduceReplicate, condB_t, condB_f, upd, mkH, hk10, hk11]) <;> (try (repeat rw [if_neg (by omega)])) <;> exact hb0) (by omega) hmen ?_; simp -implicitDefEqProofs (maxSteps := 2000000) (disch := omega) only [go_sem, simprocAttr, -List.reduceReplicate, condB_t, condB_f, AllP, AVle_same, AVle_int, AVle_nil, AVle_row, topU_int, topU_bool, topU_sl, topU_row, topU_ptr, topU_iptr, topU_fn, val, List.drop_length])
  · rintro ⟨i, ip⟩ ⟨hi, hip⟩
    simp only at hi hip
    have n1 : (id = ip) = False := eq_false (by omega)
    have n2 : (ip = id) = False := eq_false (by omega)
    by_cases h0 : i < n
    · simp -implicitDefEqProofs (maxSteps := 2000000) (disch := omega) only [go_sem, simprocAttr, -List.reduceReplicate, condB_t, condB_f, n1, n2]
      have cx := fun mm => tapeNext_spec l (min (i0 + i) l.length) (i + 1) (Nat.min_le_right _ _) hl (by omega) (by omega) (mkH h [(id, ⟨2, [[.sl 1 (l.map intC), .int .i64 (min (i0 + i) l.length : Nat)]]⟩), (ip, ⟨1, (permT l i0 i).map intC⟩)]) id mm (by simp -implicitDefEqProofs (maxSteps := 2000000) (disch := omega) only [go_sem, simprocAttr, -List.reduceReplicate, condB_t, condB_f, IL])
      rw [tape_min, show (if min (i0 + i) l.length < l.length then min (i0 + i) l.length + 1 else min (i0 + i) l.length) = min (i0 + (i + 1)) l.length by split <;> omega] at cx
      unfold IL at cx
      refine callK_of (cx _) ?_
      have hj := tapeN_lt l (i0 + i) (i + 1) (Nat.succ_pos _)
      have pl := permT_len l i0 i
      have pe : permT l i0 (i + 1) = ((permT l i0 i).take (tapeN l (i0 + i) (i + 1)) ++ [(i : Int)]) ++ (permT l i0 i).drop (tapeN l (i0 + i) (i + 1)) := rfl
      generalize tapeN l (i0 + i) (i + 1) = j at *
      generalize permT l i0 i = P at *
      have t1 : (P.take j).length = j := by rw [List.length_take]; omega
      have t2 : (P.drop j).take (i - j) = P.drop j := List.take_of_length_le (by rw [List.length_drop]; omega)
      have t3 : (P.drop j).length = i - j := by rw [List.length_drop, pl]
      have t4 : (P.take j ++ [(i : Int)]).length = j + 1 := by rw [List.length_append, t1]; rfl
      have m1 : (id = ip + 72) = False := eq_false (by omega)
      have m2 : (id = ip + 136) = False := eq_false (by omega)
      simp -implicitDefEqProofs (maxSteps := 2000000) (disch := omega) only [go_sem, simprocAttr, -List.reduceReplicate, condB_t, condB_f, n1, n2, t1, t2, t3, t4]
      refine ⟨(i + 1, ip + 72), ⟨h0, by simp only; omega⟩, by simp only; omega, ?_⟩
      (refine Weak.head2w (by simp -implicitDefEqProofs (maxSteps := 2000000) (disch := omega) only [go_sem, simprocAttr, -List.reduceReplicate, condB_t, condB_f, n1, n2, m1, m2, t1, t2, t3, pe] <;> (try rfl)) (by omega) (by first | exact mapU _ _ _ | exact mapU entC [_] _ | exact mapU ratC [_] _ | (intro r hr a ha; simp only [List.mem_cons, List.not_mem_nil, or_false] at hr; subst hr; simp only [List.mem_cons, List.not_mem_nil, or_false] at ha; rcases ha with rfl | rfl | rfl <;> trivial)) (by simp -implicitDefEqProofs (maxSteps := 2000000) (disch := omega) only [go_sem, simprocAttr, -List.reduceReplicate, condB_t, condB_f, n1, n2, m1, m2, t1, t2, t3, pe] <;> (try rfl)) (by omega) (by first | exact mapU _ _ _ | exact mapU entC [_] _ | exact mapU ratC [_] _ | (intro r hr a ha; simp only [List.mem_cons, List.not_mem_nil, or_false] at hr; subst hr; simp only [List.mem_cons, List.not_mem_nil, or_false] at ha; rcases ha with rfl | rfl | rfl <;> trivial)) (fun k0 b0 hk00 hk01 hb0 => by have hk10 : (k0 = _) = False := eq_false hk00; have hk11 : (k0 = _) = False := eq_false hk01; have hk2 := (hmen k0 b0 hb0).1; (simp -implicitDefEqProofs (maxSteps := 2000000) (disch := omega) only [go_sem, simprocAttr, -List.reduceReplicate, condB_t, condB_f, upd, mkH, hk10, hk11]) <;> (try (repeat rw [if_neg (by omega)])) <;> exact hb0) (by omega) hmen ?_; simp -implicitDefEqProofs (maxSteps := 2000000) (disch := omega) only [go_sem, simprocAttr, -List.reduceReplicate, condB_t, condB_f, AllP, AVle_same, AVle_int, AVle_nil, AVle_row, topU_int, topU_bool, topU_sl, topU_row, topU_ptr, topU_iptr, topU_fn, val, List.drop_length])
    · obtain rfl : i = n := by omega
      have pl := permT_len l i0 i
      simp -implicitDefEqProofs (maxSteps := 2000000) (disch := omega) only [go_sem, simprocAttr, -List.reduceReplicate, condB_t, condB_f, n1, n2]
      refine ⟨fun k hk => by simp only [mkH, upd]; (repeat rw [if_neg (show ¬ k = ip by omega)]), ?_⟩
      exact .val (.leaf (Thaw.plain (rows := (permT l i0 i).map intC) (by have e : id ≠ ip := by omega
                                                                          simp [locH, upd, mkH]; omega) (by simp [pl]) (by omega) (List.take_of_length_le (by simp [pl])) (mapP _)))
end Go.Abs
/-! YtbLaw1: What the vector laws read from their inputs. No condition. -/
set_option linter.unusedVariables false
set_option linter.unusedSimpArgs false
set_option maxRecDepth 100000
set_option maxHeartbeats 1000000
namespace Go.Abs
open Go.Proofs
@[go_sem] theorem R81 : Try.f81.results.toList = [.tmp 4] := rfl
@[go_sem] theorem R41 : Try.f41.results.toList = [.tmp 2] := rfl
@[go_sem] theorem R27 : Try.f27.results.toList = [.tmp 2] := rfl
theorem first_spec (l : List Ent) (n : Nat) (hl : l.length ≤ 1099511627776) (hn' : n ≤ 1099511627776) : PDet Try.prog 81 [EL l, .int .i64 n] (EL (l.take n)) := by
  refine pdet_of E0ok mixed Try.func81 (by kernel_rfl) rfl (by kernel_rfl) (Nat.le_of_ble_eq_true rfl) fun N0 h hn hmen => ?_
  unfold EL
  by_cases h0 : n < l.length
  · simp -implicitDefEqProofs (maxSteps := 2000000) (disch := omega) only [go_sem, simprocAttr, -List.reduceReplicate, condB_t, condB_f]
    exact dn
  · rw [List.take_of_length_le (by omega)]
    simp -implicitDefEqProofs (maxSteps := 2000000) (disch := omega) only [go_sem, simprocAttr, -List.reduceReplicate, condB_t, condB_f]
    exact dn
/-- The short vector that a law makes of its input: indices from -1 to 7. -/
def shE (e : Ent) : Ent := (((e.1 % 18446744073709551616).toNat % 9 : Nat) - 1, e.2)
def shL (l : List Ent) : List Ent := (l.take 40).map shE
theorem shL_len (l : List Ent) : (shL l).length = min 40 l.length := by unfold shL; rw [List.length_map, List.length_take]
theorem lshort_spec (l : List Ent) (hl : l.length ≤ 1099511627776) : PDet Try.prog 41 [EL l] (EL (shL l)) := by
  refine pdet_of E0ok mixed Try.func41 (by kernel_rfl) rfl (by kernel_rfl) (Nat.le_of_ble_eq_true rfl) fun N0 h hn hmen => ?_
  have cf := first_spec l 40 hl (by omega)
  have ls : (l.take 40).length ≤ 40 := by rw [List.length_take]; omega
  unfold shL
  generalize l.take 40 = v at *
  unfold EL at *
  simp -implicitDefEqProofs (maxSteps := 2000000) (disch := omega) only [go_sem, simprocAttr, -List.reduceReplicate, condB_t, condB_f]
  refine callK_pure cf ?_
  simp -implicitDefEqProofs (maxSteps := 2000000) (disch := omega) only [go_sem, simprocAttr, -List.reduceReplicate, condB_t, condB_f]
  refine aw_weak (Weak.nilRow (t := 3) (sz := 4) (id := N0 + 56) (by omega) (by omega) (by simp -implicitDefEqProofs (maxSteps := 2000000) (disch := omega) only [go_sem, simprocAttr, -List.reduceReplicate, condB_t, condB_f])) ?_
  obtain ⟨id, hid⟩ : ∃ id, id = N0 + 56 := ⟨_, rfl⟩
  rw [← hid]
  refine aw_loop (X := Nat) (fun i => ⟨mkS [(3, .row id i 0 i), (7, .sl 4 (v.map entC)), (8, .int .i64 v.length), (9, .int .i64 i)], mkH h [(id, ⟨4, ((v.take i).map shE).map entC⟩)], id + 8⟩) (fun i => i ≤ v.length) (fun i => v.length - i) ⟨0, Nat.zero_le _, ?_⟩ ?_
  · (refine Weak.head1w (by simp -implicitDefEqProofs (maxSteps := 2000000) (disch := omega) only [go_sem, simprocAttr, -List.reduceReplicate, condB_t, condB_f] <;> (try rfl)) (by omega) (mapU _ _ _) (fun k0 b0 hk0 hb0 => by have hk1 : (k0 = _) = False := eq_false hk0; have hk2 := (hmen k0 b0 hb0).1; (simp -implicitDefEqProofs (maxSteps := 2000000) (disch := omega) only [go_sem, simprocAttr, -List.reduceReplicate, condB_t, condB_f, upd, mkH, hk1]) <;> (try (repeat rw [if_neg (by omega)])) <;> exact hb0) (by omega) hmen ?_; simp -implicitDefEqProofs (maxSteps := 2000000) (disch := omega) only [go_sem, simprocAttr, -List.reduceReplicate, condB_t, condB_f, AllP, AVle_same, AVle_int, AVle_nil, AVle_row, topU_int, topU_bool, topU_sl, topU_row, topU_ptr, topU_iptr, topU_fn, val, List.drop_length])
  · intro i hi
    by_cases h0 : i < v.length
    · have cm := mod_spec (v.getD i default).1 9 (by omega) (by omega)
      have e : (v.take (i + 1)).map shE = (v.take i).map shE ++ [(((((v.getD i default).1 % 18446744073709551616).toNat % 9 : Nat) : Int) - 1, (v.getD i default).2)] := by rw [take_succ_getE h0, List.map_append]; rfl
      have hq := Nat.mod_lt ((v.getD i default).1 % 18446744073709551616).toNat (show 0 < 9 by decide)
      have hlv : ((v.take i).map shE).length = i := by rw [List.length_map, List.length_take]; omega
      generalize ((v.getD i default).1 % 18446744073709551616).toNat % 9 = q at *
      simp -implicitDefEqProofs (maxSteps := 2000000) (disch := omega) only [go_sem, simprocAttr, -List.reduceReplicate, condB_t, condB_f]
      refine pcallK_pure cm ?_
      simp -implicitDefEqProofs (maxSteps := 2000000) (disch := omega) only [go_sem, simprocAttr, -List.reduceReplicate, condB_t, condB_f, hlv]
      exact ⟨i + 1, h0, by omega, by (refine Weak.head1w (by simp -implicitDefEqProofs (maxSteps := 2000000) (disch := omega) only [go_sem, simprocAttr, -List.reduceReplicate, condB_t, condB_f, e] <;> (try rfl)) (by omega) (mapU _ _ _) (fun k0 b0 hk0 hb0 => by have hk1 : (k0 = _) = False := eq_false hk0; have hk2 := (hmen k0 b0 hb0).1; (simp -implicitDefEqProofs (maxSteps := 2000000) (disch := omega) only [go_sem, simprocAttr, -List.reduceReplicate, condB_t, condB_f, upd, mkH, hk1]) <;> (try (repeat rw [if_neg (by omega)])) <;> exact hb0) (by omega) hmen ?_; simp -implicitDefEqProofs (maxSteps := 2000000) (disch := omega) only [go_sem, simprocAttr, -List.reduceReplicate, condB_t, condB_f, AllP, AVle_same, AVle_int, AVle_nil, AVle_row, topU_int, topU_bool, topU_sl, topU_row, topU_ptr, topU_iptr, topU_fn, val, List.drop_length, e])⟩
    · obtain rfl : i = v.length := by omega
      simp -implicitDefEqProofs (maxSteps := 2000000) (disch := omega) only [go_sem, simprocAttr, -List.reduceReplicate, condB_t, condB_f]
      rw [List.take_of_length_le (Nat.le_refl _)]
      refine .val (.leaf (Thaw.plain (rows := (v.map shE).map entC) (by simp [locH, upd, mkH]; omega) (by simp) (by omega) (List.take_of_length_le (by simp)) (mapP _)))
/-- The dense list of ten that a law makes of its input. -/
def dnL (l : List Ent) (n : Nat) : List Raw := (List.range n).map fun (i : Nat) => canon (vget (eV (shL l)) i)
def dnR (l : List Ent) (i : Nat) : List (List AV) := (dnL l i).map ratC ++ List.replicate (10 - i) [.bool false, .nil, .nil]
theorem dnL_len (l : List Ent) (n : Nat) : (dnL l n).length = n := by simp [dnL]
theorem dnR_len {l : List Ent} {i : Nat} (h : i ≤ 10) : (dnR l i).length = 10 := by unfold dnR; simp [dnL_len]; omega
theorem dnR_get {l : List Ent} {i : Nat} (h : i < 10) : (dnR l i).getD i [] = [.bool false, .nil, .nil] := by
  have hl : ((dnL l i).map ratC).length = i := by rw [List.length_map, dnL_len]
  unfold dnR
  rw [List.getD_eq_getElem?_getD, List.getElem?_append_right (by omega), hl, Nat.sub_self, List.getElem?_replicate, if_pos (by omega)]; rfl
theorem dnR_set {l : List Ent} {i : Nat} (h : i < 10) : (dnR l i).set i [.bool (canon (vget (eV (shL l)) i)).s, .sl 1 (numL (canon (vget (eV (shL l)) i)).m), .sl 1 (numL (canon (vget (eV (shL l)) i)).d)] = dnR l (i + 1) := by
  have hl : ((dnL l i).map ratC).length = i := by rw [List.length_map, dnL_len]
  obtain ⟨r, hr⟩ : ∃ r, 10 - i = r + 1 := ⟨9 - i, by omega⟩
  have hr2 : 10 - (i + 1) = r := by omega
  unfold dnR
  rw [List.set_append_right _ _ (by omega), hl, Nat.sub_self, hr, hr2, List.replicate_succ, List.set_cons_zero]
  unfold dnL
  rw [List.range_succ, List.map_append, List.map_append, List.append_assoc]; rfl
theorem dnR_leaf {l : List Ent} {i : Nat} {U : Nat → Prop} : ∀ r ∈ dnR l i, ∀ a ∈ r, leafU U a := fun r hr a ha => by
  unfold dnR at hr
  rcases List.mem_append.1 hr with hr | hr
  · exact mapU ratC _ U r hr a ha
  · rw [(List.mem_replicate.1 hr).2] at ha
    simp only [List.mem_cons, List.not_mem_nil, or_false] at ha
    rcases ha with rfl | rfl | rfl <;> trivial
theorem dense_spec (l : List Ent) (k : Nat) (hk : OkL l k) (hk1 : 1 ≤ k) (hkb : k ≤ 1100000) (hl : l.length ≤ 1099511627776) : PDet Try.prog 27 [EL l] (QL (dnL l 10)) := by
  refine pdet_of E0ok mixed Try.func27 (by kernel_rfl) rfl (by kernel_rfl) (Nat.le_of_ble_eq_true rfl) fun N0 h hn hmen => ?_
  have cs := lshort_spec l hl
  have hk2 : OkL (shL l) k := fun e he => by
    obtain ⟨x, hx, rfl⟩ := List.mem_map.1 he
    exact hk x (List.mem_of_mem_take hx)
  have cg := fun j => get_spec (shL l) j k hk2 hk1 (by rw [shL_len]; omega) hkb
  unfold EL QL rC Raw.cells nl at *
  simp -implicitDefEqProofs (maxSteps := 2000000) (disch := omega) only [go_sem, simprocAttr, -List.reduceReplicate, condB_t, condB_f]
  obtain ⟨id, hid⟩ : ∃ id, id = N0 + 8 := ⟨_, rfl⟩
  rw [← hid]
  refine aw_loop (X := Nat) (fun i => ⟨mkS [(0, .sl 4 (l.map entC)), (3, .row id 10 0 10), (4, .int .i64 i)], mkH h [(id, ⟨3, dnR l i⟩)], id + 8⟩) (fun i => i ≤ 10) (fun i => 10 - i) ⟨0, Nat.zero_le _, ?_⟩ ?_
  · refine Weak.head1w (by rw [upd_same]; rfl) (by omega) dnR_leaf (fun k0 b0 hk0 hb0 => by simp only [upd, if_neg hk0]; exact hb0) (by omega) hmen ?_
    simp -implicitDefEqProofs (maxSteps := 2000000) (disch := omega) only [go_sem, simprocAttr, -List.reduceReplicate, condB_t, condB_f, AllP, AVle_same, AVle_int, AVle_nil, AVle_row, topU_int, topU_bool, topU_sl, topU_row, topU_ptr, topU_iptr, topU_fn, val, List.drop_length]
  · intro i hi
    by_cases h0 : i < 10
    · have g1 := dnR_len (l := l) (i := i) (by omega)
      have g2 := dnR_get (l := l) h0
      have g3 := dnR_set (l := l) h0
      simp -implicitDefEqProofs (maxSteps := 2000000) (disch := omega) only [go_sem, simprocAttr, -List.reduceReplicate, condB_t, condB_f, g1]
      refine callK_pure cs ?_
      simp -implicitDefEqProofs (maxSteps := 2000000) (disch := omega) only [go_sem, simprocAttr, -List.reduceReplicate, condB_t, condB_f, g1]
      refine callK_pure (cg i) ?_
      simp -implicitDefEqProofs (maxSteps := 2000000) (disch := omega) only [go_sem, simprocAttr, -List.reduceReplicate, condB_t, condB_f, g1, g2, g3]
      refine ⟨i + 1, h0, by omega, ?_⟩
      refine Weak.head1w (by simp -implicitDefEqProofs (maxSteps := 2000000) (disch := omega) only [go_sem, simprocAttr, -List.reduceReplicate, condB_t, condB_f, g1, g2, g3] <;> rfl) (by omega) dnR_leaf (fun k0 b0 hk0 hb0 => by simp only [upd, mkH, if_neg hk0]; exact hb0) (by omega) hmen ?_
      simp -implicitDefEqProofs (maxSteps := 2000000) (disch := omega) only [go_sem, simprocAttr, -List.reduceReplicate, condB_t, condB_f, AllP, AVle_same, AVle_int, AVle_nil, AVle_row, topU_int, topU_bool, topU_sl, topU_row, topU_ptr, topU_iptr, topU_fn, val, List.drop_length]
    · obtain rfl : i = 10 := by omega
      have e : dnR l 10 = (dnL l 10).map ratC := by unfold dnR; simp
      have pl := dnL_len l 10
      rw [e]
      simp -implicitDefEqProofs (maxSteps := 2000000) (disch := omega) only [go_sem, simprocAttr, -List.reduceReplicate, condB_t, condB_f]
      refine .val (.leaf (Thaw.plain (rows := (dnL l 10).map ratC) (by simp [locH, upd, mkH]; omega) (by simp [pl]) (by omega) (List.take_of_length_le (by simp [pl])) (mapP _)))
end Go.Abs
/-! YtbLaw2: The laws of layer 6: what they check once. No condition. -/
set_option linter.unusedVariables false
set_option linter.unusedSimpArgs false
set_option maxRecDepth 100000
set_option maxHeartbeats 1000000
namespace Go.Abs
open Go.Proofs
@[go_sem] theorem R64 : Try.f64.results.toList = [.cell 4 78] := rfl
@[go_sem] theorem R29 : Try.f29.results.toList = [.tmp 0] := rfl
theorem entry_spec (a v : Int) (h1 : -9223372036854775808 ≤ v) (h2 : v ≤ 9223372036854775807) : PDet Try.prog 64 [.int .i64 a, .int .i64 v] (.agg (entC (a, canon (v : Rat)))) := by
  refine pdet_of E0ok mixed Try.func64 (by kernel_rfl) rfl (by kernel_rfl) (Nat.le_of_ble_eq_true rfl) fun N0 h hn hmen => ?_
  have c := r3fromInt_spec v h1 h2
  unfold entC rC Raw.cells nl at *
  simp -implicitDefEqProofs (maxSteps := 2000000) (disch := omega) only [go_sem, simprocAttr, -List.reduceReplicate, condB_t, condB_f]
  refine callK_pure c ?_
  simp -implicitDefEqProofs (maxSteps := 2000000) (disch := omega) only [go_sem, simprocAttr, -List.reduceReplicate, condB_t, condB_f]
  exact dn
theorem nz_can {i : Int} {q : Rat} (h : q ≠ 0) : Can [(i, q)] := ⟨by simp [Asc], fun e he => by rw [List.mem_singleton.1 he]; exact h⟩
theorem vcan_self {v : Vec} (h : Can v) : vcan v = v := (vcan_eq h fun _ => rfl).symm
theorem awake_a : pmOut [2, 0, 1] (vcan (eV [(0, canon 5)])) = cE [(2, 5)] ∧ PmOk [2, 0, 1] (vcan (eV [(0, canon 5)])) := by
  have e : vcan (eV [(0, canon 5)]) = [(0, 5)] := by
    rw [show eV [(0, canon 5)] = [(0, 5)] by simp [eV, canon_val]]
    exact vcan_self (nz_can (by decide))
  have ok : PmOk [2, 0, 1] [(0, 5)] := by decide
  rw [e]
  refine ⟨?_, ok⟩
  unfold pmOut
  rw [if_pos ok]
  have : (cE [(0, (5 : Rat))]).map (pmv [2, 0, 1]) = cE [(2, 5)] := rfl
  rw [this]
  unfold srt
  rw [if_pos (by rw [eV_cE]; exact nz_can (by decide))]
theorem awake_b : vcan (eV [(3, canon 1), (1, canon 2), (3, canon (-1))]) = [(1, 2)] := by
  rw [show eV [(3, canon 1), (1, canon 2), (3, canon (-1))] = [(3, 1), (1, 2), (3, -1)] by simp [eV, canon_val]]
  symm
  refine vcan_eq (nz_can (by decide)) fun i => ?_
  simp only [vget]
  grind
theorem awake_c : dotM (vcan (eV [(0, canon 2), (5, canon 3)])) (vcan (eV [(5, canon 4), (7, canon 1)])) = 12 := by
  rw [show eV [(0, canon 2), (5, canon 3)] = [(0, 2), (5, 3)] by simp [eV, canon_val], show eV [(5, canon 4), (7, canon 1)] = [(5, 4), (7, 1)] by simp [eV, canon_val]]
  rw [vcan_self (v := [(0, 2), (5, 3)]) ⟨by simp [Asc], by simp⟩, vcan_self (v := [(5, 4), (7, 1)]) ⟨by simp [Asc], by simp⟩]
  simp [dotM]
  grind
theorem small_ok {v : Int} (h : v.natAbs < 4294967296) : Sz (v : Rat) 1 := ⟨by unfold Fit; simpa using h, by unfold Fit; rw [show ((v : Rat)).den = 1 from rfl]; decide⟩
theorem small_q {q : Rat} {v : Int} (e : (v : Rat) = q) (h : v.natAbs < 4294967296) : Sz q 1 := e ▸ small_ok h
theorem entry_q (a v : Int) (q : Rat) (e : (v : Rat) = q) (h : v.natAbs < 4294967296) : PDet Try.prog 64 [.int .i64 a, .int .i64 v] (.agg [.int .i64 a, .bool (canon q).s, .sl 1 (numL (canon q).m), .sl 1 (numL (canon q).d)]) := by
  have c := entry_spec a v (by omega) (by omega)
  rw [e] at c
  exact c
theorem ok_c1 {i : Int} {q : Rat} {l : List Ent} (h : Sz q 1) (hl : OkL l 1) : OkL ((i, canon q) :: l) 1 := fun e he => by
  rcases List.mem_cons.1 he with rfl | he
  · exact canon_ok h
  · exact hl e he
theorem ok_c0 : OkL [] 1 := nofun
theorem awake_spec : PDet Try.prog 29 [] (.bool true) := by
  refine pdet_of E0ok mixed Try.func29 (by kernel_rfl) rfl (by kernel_rfl) (Nat.le_of_ble_eq_true rfl) fun N0 h hn hmen => ?_
  have z1 : Sz 1 1 := small_q (v := 1) rfl (by decide)
  have z2 : Sz 2 1 := small_q (v := 2) rfl (by decide)
  have z3 : Sz 3 1 := small_q (v := 3) rfl (by decide)
  have z4 : Sz 4 1 := small_q (v := 4) rfl (by decide)
  have z5 : Sz 5 1 := small_q (v := 5) rfl (by decide)
  have zm : Sz (-1) 1 := small_q (v := -1) rfl (by decide)
  have z12 : Sz 12 1 := small_q (v := 12) rfl (by decide)
  have p1 := permute_spec [(0, canon 5)] [2, 0, 1] 1 (ok_c1 z5 ok_c0) (by decide) (by decide) (by decide) (by decide)
  rw [awake_a.1, decide_eq_true awake_a.2] at p1
  have p2 := norm_spec [(3, canon 1), (1, canon 2), (3, canon (-1))] 1 (ok_c1 z1 (ok_c1 z2 (ok_c1 zm ok_c0))) (by decide) (by decide) (by decide)
  rw [awake_b] at p2
  have p3 := dot_spec [(0, canon 2), (5, canon 3)] [(5, canon 4), (7, canon 1)] 1 100 (ok_c1 z2 (ok_c1 z3 ok_c0)) (ok_c1 z4 (ok_c1 z1 ok_c0)) (by decide) (by decide) (by decide) (by decide) (by decide) (by decide)
  rw [awake_c] at p3
  have p4 := identical_spec [(1, 2)] [(1, 2)] 1 1 (by simpa using z2) (by simpa using z2) (by decide) (by decide) (by decide) (by decide)
  have p5 := identical_spec [(2, 5)] [(2, 5)] 1 1 (by simpa using z5) (by simpa using z5) (by decide) (by decide) (by decide) (by decide)
  have p6 := r3fromInt_spec 12 (by decide) (by decide)
  rw [show ((12 : Int) : Rat) = 12 from rfl] at p6
  have p7 := r3equal_canon 12 12 1 1 z12 z12 (by decide) (by decide)
  rw [decide_eq_true rfl] at p4 p5 p7
  clear z1 z2 z3 z4 z5 zm z12
  unfold EL IL at *
  unfold rC Raw.cells nl at p3 p6 p7
  simp -implicitDefEqProofs (maxSteps := 2000000) (disch := decide) only [go_sem, simprocAttr, -List.reduceReplicate, condB_t, condB_f]
  refine callK_pure (entry_q 0 5 5 rfl (by decide)) ?_
  simp -implicitDefEqProofs (maxSteps := 2000000) (disch := decide) only [go_sem, simprocAttr, -List.reduceReplicate, condB_t, condB_f]
  refine callK_row12 p1 (by simp -implicitDefEqProofs (maxSteps := 2000000) (disch := omega) only [go_sem, simprocAttr, -List.reduceReplicate, condB_t, condB_f]; rfl) rfl (by decide) rfl (mapP _) (by simp -implicitDefEqProofs (maxSteps := 2000000) (disch := omega) only [go_sem, simprocAttr, -List.reduceReplicate, condB_t, condB_f]; rfl) rfl (by decide) rfl (mapP _) ?_
  simp -implicitDefEqProofs (maxSteps := 2000000) (disch := decide) only [go_sem, simprocAttr, -List.reduceReplicate, condB_t, condB_f]
  refine callK_pure (entry_q 3 1 1 rfl (by decide)) ?_
  simp -implicitDefEqProofs (maxSteps := 2000000) (disch := decide) only [go_sem, simprocAttr, -List.reduceReplicate, condB_t, condB_f]
  refine callK_pure (entry_q 1 2 2 rfl (by decide)) ?_
  simp -implicitDefEqProofs (maxSteps := 2000000) (disch := decide) only [go_sem, simprocAttr, -List.reduceReplicate, condB_t, condB_f]
  refine callK_pure (entry_q 3 (-1) (-1) rfl (by decide)) ?_
  simp -implicitDefEqProofs (maxSteps := 2000000) (disch := decide) only [go_sem, simprocAttr, -List.reduceReplicate, condB_t, condB_f]
  refine callK_row p2 (by simp -implicitDefEqProofs (maxSteps := 2000000) (disch := omega) only [go_sem, simprocAttr, -List.reduceReplicate, condB_t, condB_f]; rfl) rfl (by decide) rfl (mapP _) ?_
  simp -implicitDefEqProofs (maxSteps := 2000000) (disch := decide) only [go_sem, simprocAttr, -List.reduceReplicate, condB_t, condB_f]
  refine callK_pure (entry_q 1 2 2 rfl (by decide)) ?_
  simp -implicitDefEqProofs (maxSteps := 2000000) (disch := decide) only [go_sem, simprocAttr, -List.reduceReplicate, condB_t, condB_f]
  refine callK_row2 p4 (by simp -implicitDefEqProofs (maxSteps := 2000000) (disch := omega) only [go_sem, simprocAttr, -List.reduceReplicate, condB_t, condB_f]; rfl) rfl (by decide) rfl (mapP _) ?_
  simp -implicitDefEqProofs (maxSteps := 2000000) (disch := decide) only [go_sem, simprocAttr, -List.reduceReplicate, condB_t, condB_f]
  refine callK_pure (entry_q 0 2 2 rfl (by decide)) ?_
  simp -implicitDefEqProofs (maxSteps := 2000000) (disch := decide) only [go_sem, simprocAttr, -List.reduceReplicate, condB_t, condB_f]
  refine callK_pure (entry_q 5 3 3 rfl (by decide)) ?_
  simp -implicitDefEqProofs (maxSteps := 2000000) (disch := decide) only [go_sem, simprocAttr, -List.reduceReplicate, condB_t, condB_f]
  refine callK_pure (entry_q 5 4 4 rfl (by decide)) ?_
  simp -implicitDefEqProofs (maxSteps := 2000000) (disch := decide) only [go_sem, simprocAttr, -List.reduceReplicate, condB_t, condB_f]
  refine callK_pure (entry_q 7 1 1 rfl (by decide)) ?_
  simp -implicitDefEqProofs (maxSteps := 2000000) (disch := decide) only [go_sem, simprocAttr, -List.reduceReplicate, condB_t, condB_f]
  refine callK_row12 p3 (by simp -implicitDefEqProofs (maxSteps := 2000000) (disch := omega) only [go_sem, simprocAttr, -List.reduceReplicate, condB_t, condB_f]; rfl) rfl (by decide) rfl (mapP _) (by simp -implicitDefEqProofs (maxSteps := 2000000) (disch := omega) only [go_sem, simprocAttr, -List.reduceReplicate, condB_t, condB_f]; rfl) rfl (by decide) rfl (mapP _) ?_
  simp -implicitDefEqProofs (maxSteps := 2000000) (disch := decide) only [go_sem, simprocAttr, -List.reduceReplicate, condB_t, condB_f]
  refine callK_pure p6 ?_
  simp -implicitDefEqProofs (maxSteps := 2000000) (disch := decide) only [go_sem, simprocAttr, -List.reduceReplicate, condB_t, condB_f]
  refine callK_pure p7 ?_
  simp -implicitDefEqProofs (maxSteps := 2000000) (disch := decide) only [go_sem, simprocAttr, -List.reduceReplicate, condB_t, condB_f]
  refine callK_pure (entry_q 2 5 5 rfl (by decide)) ?_
  simp -implicitDefEqProofs (maxSteps := 2000000) (disch := decide) only [go_sem, simprocAttr, -List.reduceReplicate, condB_t, condB_f]
  refine callK_row2 p5 (by simp -implicitDefEqProofs (maxSteps := 2000000) (disch := omega) only [go_sem, simprocAttr, -List.reduceReplicate, condB_t, condB_f]; rfl) rfl (by decide) rfl (mapP _) ?_
  simp -implicitDefEqProofs (maxSteps := 2000000) (disch := decide) only [go_sem, simprocAttr, -List.reduceReplicate, condB_t, condB_f]
  exact dn
end Go.Abs
/-! YtbLaw3: VectorIsometry: the walk. No condition. -/
set_option linter.unusedVariables false
set_option linter.unusedSimpArgs false
set_option maxRecDepth 100000
set_option maxHeartbeats 1000000
namespace Go.Abs
open Go.Proofs
@[go_sem] theorem R7 : Try.f7.results.toList = [.tmp 6] := rfl
/-- The inverse of a permutation, as the law fills it in. -/
def invF (p : List Int) : Nat → List Int
  | 0 => List.replicate 10 0
  | i + 1 => (invF p i).set (p.getD i 0).toNat i
theorem invF_len (p : List Int) (i : Nat) : (invF p i).length = 10 := by
  induction i with
  | zero => simp [invF]
  | succ i ih => unfold invF; rw [List.length_set]; exact ih
theorem iso_walk (a b : List Ent) (t : List Int) (k K : Nat) (ha : OkL a k) (hb : OkL b k) (hk1 : 1 ≤ k) (hk : k ≤ 1100000) (hla : a.length ≤ 1099511627776) (hlb : b.length ≤ 1099511627776) (hlt : t.length ≤ 1099511627776)
    (p : List Int) (hp : p = permT t 0 10) (hpr : ∀ x ∈ p, 0 ≤ x ∧ x < 10) (v w : Vec) (hv : fD (dnL a 10) = cE v) (hw : fD (dnL b 10) = cE w) (cv : Can v) (cw : Can w) (lv : v.length ≤ 10) (lw : w.length ≤ 10)
    (sv : ∀ e ∈ v, Sz e.2 K) (sw : ∀ e ∈ w, Sz e.2 K) (hK1 : 1 ≤ K) (hK : K ≤ 50000000) (o1 : PmOk p v) (o2 : PmOk p w) (x y : Vec) (hx : pmOut p v = cE x) (hy : pmOut p w = cE y) (cx : Can x) (cy : Can y) (lx : x.length ≤ 10) (ly : y.length ≤ 10)
    (sx : ∀ e ∈ x, Sz e.2 K) (sy : ∀ e ∈ y, Sz e.2 K) (o3 : PmOk (invF p 10) x) (h3 : pmOut (invF p 10) x = cE v) (hd : dotM x y = dotM v w) (hsz : Sz (dotM v w) 549755813888) (da : ∀ i, i < (dnL a 10).length → ((dnL a 10).getD i default).Ok 1099511627776) (db : ∀ i, i < (dnL b 10).length → ((dnL b 10).getD i default).Ok 1099511627776) :
    PDet Try.prog 7 [EL a, EL b, IL t] (.bool true) := by
  refine pdet_of E0ok mixed Try.func7 (by kernel_rfl) rfl (by kernel_rfl) (Nat.le_of_ble_eq_true rfl) fun N0 h hn hmen => ?_
  have c1 := fun h m => tapeNew_new t h m
  have hpl : p.length = 10 := by rw [hp, permT_len]
  have d1 := dense_spec a k ha hk1 hk hla
  have d2 := dense_spec b k hb hk1 hk hlb
  have f1 := fromDense_spec (dnL a 10) _ da (Nat.le_refl _) (by rw [dnL_len]; omega)
  have f2 := fromDense_spec (dnL b 10) _ db (Nat.le_refl _) (by rw [dnL_len]; omega)
  rw [hv] at f1
  rw [hw] at f2
  have m10 : 10 * (K + 1) ≤ 10 * 50000001 := by omega
  have bound : ∀ z : Vec, z.length ≤ 10 → K + (cE z).length * (K + 1) ≤ 600000000 := fun z hz => by
    have : (cE z).length * (K + 1) ≤ 10 * (K + 1) := Nat.mul_le_mul_right _ (by rw [cE_len]; exact hz)
    omega
  have p1 := permute_spec (cE v) p K (cE_ok sv) hK1 (by rw [cE_len]; omega) (by have := bound v lv; omega) (by omega)
  have p2 := permute_spec (cE w) p K (cE_ok sw) hK1 (by rw [cE_len]; omega) (by have := bound w lw; omega) (by omega)
  have p3 := permute_spec (cE x) (invF p 10) K (cE_ok sx) hK1 (by rw [cE_len]; omega) (by have := bound x lx; omega) (by rw [invF_len]; omega)
  have q1 := dot_spec (cE x) (cE y) K 600000000 (cE_ok sx) (cE_ok sy) hK1 (by rw [cE_len]; omega) (by rw [cE_len]; omega) (bound x lx) (bound y ly) (by omega)
  have q2 := dot_spec (cE v) (cE w) K 600000000 (cE_ok sv) (cE_ok sw) hK1 (by rw [cE_len]; omega) (by rw [cE_len]; omega) (bound v lv) (bound w lw) (by omega)
  have i1 := identical_spec v v K K sv sv (by omega) (by omega) (by omega) (by omega)
  rw [eV_cE, vcan_self cv, hx, decide_eq_true o1] at p1
  rw [eV_cE, vcan_self cw, hy, decide_eq_true o2] at p2
  rw [eV_cE, vcan_self cx, h3, decide_eq_true o3] at p3
  rw [eV_cE, eV_cE, vcan_self cx, vcan_self cy, hd] at q1
  rw [eV_cE, eV_cE, vcan_self cv, vcan_self cw] at q2
  rw [decide_eq_true rfl] at i1
  have e1 := r3equal_canon (dotM v w) (dotM v w) 549755813888 549755813888 hsz hsz (by omega) (by omega)
  rw [decide_eq_true rfl] at e1
  have aw0 := awake_spec
  unfold EL IL QL at *
  simp -implicitDefEqProofs (maxSteps := 2000000) (disch := omega) only [go_sem, simprocAttr, -List.reduceReplicate, condB_t, condB_f]
  refine callK_of (c1 _ _) ?_
  simp -implicitDefEqProofs (maxSteps := 2000000) (disch := omega) only [go_sem, simprocAttr, -List.reduceReplicate, condB_t, condB_f]
  have c2 := fun hh id m hid => tapePerm_spec t 0 10 (Nat.zero_le _) hlt (by omega) hh id m hid
  rw [← hp] at c2
  unfold IL at c2
  refine callK_of (c2 _ _ _ (by simp -implicitDefEqProofs (maxSteps := 2000000) (disch := omega) only [go_sem, simprocAttr, -List.reduceReplicate, condB_t, condB_f] <;> rfl)) ?_
  simp -implicitDefEqProofs (maxSteps := 2000000) (disch := omega) only [go_sem, simprocAttr, -List.reduceReplicate, condB_t, condB_f]
  obtain ⟨id, hid⟩ : ∃ id, id = N0 + 40 := ⟨_, rfl⟩
  refine aw_loop (X := Nat) (fun i => ⟨mkS [(0, .sl 4 (a.map entC)), (1, .sl 4 (b.map entC)), (7, .sl 1 (p.map intC)), (8, .row id 10 0 10), (9, .int .i64 i)], mkH h [(id, ⟨1, (invF p i).map intC⟩)], id + 8⟩) (fun i => i ≤ 10) (fun i => 10 - i) ⟨0, Nat.zero_le _, ?_⟩ ?_
  · rw [← hid]
    refine Weak.head1w (by rw [upd_same]; rfl) (by omega) (mapU _ _ _) (fun k0 b0 hk0 hb0 => by have hk2 := (hmen k0 b0 hb0).1; simp only [upd, if_neg hk0]; (repeat rw [if_neg (by omega)]); exact hb0) (by omega) hmen ?_
    clear c1 c2 d1 d2 f1 f2 p1 p2 p3 q1 q2 i1 e1 aw0 bound
    simp -implicitDefEqProofs (maxSteps := 2000000) (disch := omega) only [go_sem, simprocAttr, -List.reduceReplicate, condB_t, condB_f, AllP, AVle_same, AVle_int, AVle_nil, AVle_row, topU_int, topU_bool, topU_sl, topU_row, topU_ptr, topU_iptr, topU_fn, val, List.drop_length]
  · intro i hi
    have il := invF_len p i
    by_cases h0 : i < 10
    · have hm : p.getD i 0 ∈ p := by rw [List.getD_eq_getElem?_getD, List.getElem?_eq_getElem (by omega)]; exact List.getElem_mem _
      have hin := hpr _ hm
      have hs : invF p (i + 1) = (invF p i).set (p.getD i 0).toNat i := rfl
      obtain ⟨x, hxx⟩ : ∃ x, p.getD i 0 = x := ⟨_, rfl⟩
      rw [hxx] at hin hs
      clear c1 c2 d1 d2 f1 f2 p1 p2 p3 q1 q2 i1 e1 aw0 bound
      simp -implicitDefEqProofs (maxSteps := 2000000) (disch := omega) only [go_sem, simprocAttr, -List.reduceReplicate, condB_t, condB_f, hxx]
      exact ⟨i + 1, h0, by omega, by (refine Weak.head1w (by simp -implicitDefEqProofs (maxSteps := 2000000) (disch := omega) only [go_sem, simprocAttr, -List.reduceReplicate, condB_t, condB_f, hs] <;> (try rfl)) (by omega) (mapU _ _ _) (fun k0 b0 hk0 hb0 => by have hk1 : (k0 = _) = False := eq_false hk0; have hk2 := (hmen k0 b0 hb0).1; (simp -implicitDefEqProofs (maxSteps := 2000000) (disch := omega) only [go_sem, simprocAttr, -List.reduceReplicate, condB_t, condB_f, upd, mkH, hk1]) <;> (try (repeat rw [if_neg (by omega)])) <;> exact hb0) (by omega) hmen ?_; simp -implicitDefEqProofs (maxSteps := 2000000) (disch := omega) only [go_sem, simprocAttr, -List.reduceReplicate, condB_t, condB_f, AllP, AVle_same, AVle_int, AVle_nil, AVle_row, topU_int, topU_bool, topU_sl, topU_row, topU_ptr, topU_iptr, topU_fn, val, List.drop_length, hs])⟩
    · obtain rfl : i = 10 := by omega
      simp -implicitDefEqProofs (maxSteps := 2000000) (disch := omega) only [go_sem, simprocAttr, -List.reduceReplicate, condB_t, condB_f]
      refine callK_pure d1 ?_
      simp -implicitDefEqProofs (maxSteps := 2000000) (disch := omega) only [go_sem, simprocAttr, -List.reduceReplicate, condB_t, condB_f]
      refine callK_pure f1 ?_
      simp -implicitDefEqProofs (maxSteps := 2000000) (disch := omega) only [go_sem, simprocAttr, -List.reduceReplicate, condB_t, condB_f]
      refine callK_pure d2 ?_
      simp -implicitDefEqProofs (maxSteps := 2000000) (disch := omega) only [go_sem, simprocAttr, -List.reduceReplicate, condB_t, condB_f]
      refine callK_pure f2 ?_
      simp -implicitDefEqProofs (maxSteps := 2000000) (disch := omega) only [go_sem, simprocAttr, -List.reduceReplicate, condB_t, condB_f]
      refine callK_pure p1 ?_
      simp -implicitDefEqProofs (maxSteps := 2000000) (disch := omega) only [go_sem, simprocAttr, -List.reduceReplicate, condB_t, condB_f]
      refine callK_pure p2 ?_
      simp -implicitDefEqProofs (maxSteps := 2000000) (disch := omega) only [go_sem, simprocAttr, -List.reduceReplicate, condB_t, condB_f]
      refine callK_row2 p3 (by simp -implicitDefEqProofs (maxSteps := 2000000) (disch := omega) only [go_sem, simprocAttr, -List.reduceReplicate, condB_t, condB_f]) (by simp [il]) (by omega) (List.take_of_length_le (by simp [il])) (mapP _) ?_
      simp -implicitDefEqProofs (maxSteps := 2000000) (disch := omega) only [go_sem, simprocAttr, -List.reduceReplicate, condB_t, condB_f]
      refine callK_pure aw0 ?_
      simp -implicitDefEqProofs (maxSteps := 2000000) (disch := omega) only [go_sem, simprocAttr, -List.reduceReplicate, condB_t, condB_f]
      refine callK_pure q1 ?_
      simp -implicitDefEqProofs (maxSteps := 2000000) (disch := omega) only [go_sem, simprocAttr, -List.reduceReplicate, condB_t, condB_f]
      refine callK_pure q2 ?_
      simp -implicitDefEqProofs (maxSteps := 2000000) (disch := omega) only [go_sem, simprocAttr, -List.reduceReplicate, condB_t, condB_f]
      refine callK_pure e1 ?_
      simp -implicitDefEqProofs (maxSteps := 2000000) (disch := omega) only [go_sem, simprocAttr, -List.reduceReplicate, condB_t, condB_f]
      refine callK_pure i1 ?_
      simp -implicitDefEqProofs (maxSteps := 2000000) (disch := omega) only [go_sem, simprocAttr, -List.reduceReplicate, condB_t, condB_f]
      exact dn
end Go.Abs
/-! YtbLaw4: Plain laws of permuted vectors. No condition. -/
set_option linter.unusedVariables false
set_option linter.unusedSimpArgs false
set_option maxRecDepth 100000
set_option maxHeartbeats 1000000
namespace Go.Abs
open Go.Proofs
theorem canE_eq {l : List Ent} (h : ∀ e ∈ l, e.2 = canon e.2.val) : l = cE (eV l) := by
  unfold cE eV
  rw [List.map_map]
  conv => lhs; rw [← List.map_id l]
  exact List.map_congr_left fun e he => Prod.ext rfl (h e he)
theorem cE_canE (u : Vec) : ∀ e ∈ cE u, e.2 = canon e.2.val := fun e he => by
  obtain ⟨x, _, rfl⟩ := List.mem_map.1 he
  simp only [canon_val]
theorem grp_canE : ∀ (l : List Ent) (e : Ent), e.2 = canon e.2.val → (∀ x ∈ l, x.2 = canon x.2.val) → ∀ x ∈ grp e l, x.2 = canon x.2.val
  | [], e, he, _, x, hx => by
    unfold grp fin1 at hx
    split at hx
    · cases hx
    · rw [List.mem_singleton.1 hx]; exact he
  | z :: l, e, he, hl, x, hx => by
    unfold grp at hx
    split at hx
    · exact grp_canE l _ (by simp only [canon_val]) (fun y hy => hl y (List.mem_cons_of_mem _ hy)) x hx
    · rcases List.mem_append.1 hx with hx | hx
      · unfold fin1 at hx
        split at hx
        · cases hx
        · rw [List.mem_singleton.1 hx]; exact he
      · exact grp_canE l z (hl z (List.mem_cons_self ..)) (fun y hy => hl y (List.mem_cons_of_mem _ hy)) x hx
theorem srt_cE (u : Vec) : srt (cE u) = cE (vcan u) := by
  have h : ∀ e ∈ srt (cE u), e.2 = canon e.2.val := by
    unfold srt
    split
    · exact cE_canE u
    · have h2 : ∀ e ∈ isort (cE u), e.2 = canon e.2.val := fun e he => cE_canE u e ((isort_perm _).mem_iff.1 he)
      generalize isort (cE u) = s at h2
      cases s with
      | nil => exact nofun
      | cons z s => exact grp_canE s z (h2 z (List.mem_cons_self ..)) fun y hy => h2 y (List.mem_cons_of_mem _ hy)
  rw [canE_eq h, srt_val, eV_cE]
def pq (p : List Int) (e : Int × Rat) : Int × Rat := (p.getD e.1.toNat 0, e.2)
theorem pmv_cE (p : List Int) (u : Vec) : (cE u).map (pmv p) = cE (u.map (pq p)) := by
  unfold cE; rw [List.map_map, List.map_map]; rfl
theorem pmOut_eq {p : List Int} {v : Vec} (h : PmOk p v) : pmOut p v = cE (vcan (v.map (pq p))) := by
  unfold pmOut; rw [if_pos h, pmv_cE, srt_cE]
/-- The canonical vector of n numbers. -/
def dV (g : Nat → Rat) (n : Nat) : Vec := (List.range n).filterMap fun (i : Nat) => if g i = 0 then none else some ((i : Int), g i)
theorem dV_succ (g : Nat → Rat) (n : Nat) : dV g (n + 1) = dV g n ++ (if g n = 0 then [] else [((n : Int), g n)]) := by
  unfold dV; rw [List.range_succ, List.filterMap_append]; by_cases h : g n = 0 <;> simp [h]
theorem dV_mem {g : Nat → Rat} {n : Nat} {e : Int × Rat} (h : e ∈ dV g n) : ∃ i : Nat, i < n ∧ g i ≠ 0 ∧ e = ((i : Int), g i) := by
  obtain ⟨i, hi, he⟩ := List.mem_filterMap.1 h
  split at he
  · cases he
  · exact ⟨i, List.mem_range.1 hi, ‹_›, (Option.some.inj he).symm⟩
theorem dV_can (g : Nat → Rat) (n : Nat) : Can (dV g n) := by
  induction n with
  | zero => exact ⟨.nil, nofun⟩
  | succ n ih =>
    rw [dV_succ]
    refine ⟨?_, fun e he => ?_⟩
    · refine List.pairwise_append.2 ⟨ih.asc, by split <;> simp, fun x hx y hy => ?_⟩
      obtain ⟨i, hi, _, rfl⟩ := dV_mem hx
      split at hy
      · cases hy
      · rw [List.mem_singleton.1 hy]; exact Int.ofNat_lt.2 hi
    · rcases List.mem_append.1 he with he | he
      · exact ih.nz e he
      · split at he
        · cases he
        · rw [List.mem_singleton.1 he]; assumption
theorem dV_len (g : Nat → Rat) (n : Nat) : (dV g n).length ≤ n := by unfold dV; exact Nat.le_trans (List.length_filterMap_le _ _) (by simp)
theorem dV_get (g : Nat → Rat) (n : Nat) (j : Nat) (hj : j < n) : vget (dV g n) j = g j := by
  induction n with
  | zero => omega
  | succ n ih =>
    rw [dV_succ, vget_append]
    rcases Nat.lt_or_ge j n with h | h
    · rw [ih h, vget_out (v := if g n = 0 then [] else [((n : Int), g n)]) (fun e he => by
        split at he
        · cases he
        · rw [List.mem_singleton.1 he]; simp only; omega)]
      grind
    · obtain rfl : j = n := by omega
      rw [vget_out (v := dV g j) (fun e he => by obtain ⟨i, hi, _, rfl⟩ := dV_mem he; simp only; omega)]
      split
      · rename_i h0; rw [h0]; simp only [vget]; grind
      · simp [vget]; grind
theorem fD_snoc (l : List Raw) (x : Raw) : fD (l ++ [x]) = fD l ++ (if x.val = 0 then [] else [((l.length : Int), canon x.val)]) := by
  unfold fD
  rw [List.zipIdx_append, List.filterMap_append]
  by_cases h : x.val = 0 <;> simp [h]
theorem fD_dnL (a : List Ent) (n : Nat) : fD (dnL a n) = cE (dV (fun (i : Nat) => vget (eV (shL a)) i) n) := by
  induction n with
  | zero => rfl
  | succ n ih =>
    have e : dnL a (n + 1) = dnL a n ++ [canon (vget (eV (shL a)) n)] := by unfold dnL; rw [List.range_succ, List.map_append]; rfl
    rw [e, fD_snoc, ih, dV_succ, dnL_len, canon_val]
    by_cases h : vget (eV (shL a)) n = 0
    · simp [h]
    · simp [h, cE]
end Go.Abs
/-! YtbLaw5: Plain laws: sums over vectors, inner products. No condition. -/
set_option linter.unusedVariables false
set_option linter.unusedSimpArgs false
set_option maxRecDepth 100000
set_option maxHeartbeats 1000000
namespace Go.Abs
open Go.Proofs
def sumV (f : Int → Rat) : Vec → Rat
  | [] => 0
  | e :: v => e.2 * f e.1 + sumV f v
theorem sumV_vins (f : Int → Rat) (i : Int) (q : Rat) : ∀ v : Vec, sumV f (vins i q v) = q * f i + sumV f v
  | [] => by
    unfold vins
    split
    · rename_i h; subst h; simp only [sumV]; grind
    · simp only [sumV]
  | e :: v => by
    have ih := sumV_vins f i q v
    unfold vins
    split
    · split
      · rename_i h; subst h; simp only [sumV]; grind
      · simp only [sumV]
    · split
      · rename_i h
        split
        · rename_i h2; simp only [sumV]; rw [h]; have : q = -e.2 := by grind
          rw [this]; grind
        · simp only [sumV]; rw [h]; grind
      · simp only [sumV]; rw [ih]; grind
theorem sumV_vcan (f : Int → Rat) (v : Vec) : sumV f (vcan v) = sumV f v := by
  induction v with
  | nil => rfl
  | cons e v ih =>
    have : vcan (e :: v) = vins e.1 e.2 (vcan v) := rfl
    rw [this, sumV_vins, ih]; rfl
theorem sumV_congr {f g : Int → Rat} {v : Vec} (h : ∀ e ∈ v, f e.1 = g e.1) : sumV f v = sumV g v := by
  induction v with
  | nil => rfl
  | cons e v ih =>
    simp only [sumV]
    rw [h e (List.mem_cons_self ..), ih fun x hx => h x (List.mem_cons_of_mem _ hx)]
theorem sumV_zero {f : Int → Rat} {v : Vec} (h : ∀ e ∈ v, f e.1 = 0) : sumV f v = 0 := by
  induction v with
  | nil => rfl
  | cons e v ih =>
    simp only [sumV]
    rw [h e (List.mem_cons_self ..), ih fun x hx => h x (List.mem_cons_of_mem _ hx)]; grind
theorem sumV_map (f : Int → Rat) (p : List Int) (v : Vec) : sumV f (v.map (pq p)) = sumV (fun i => f (p.getD i.toNat 0)) v := by
  induction v with
  | nil => rfl
  | cons e v ih => simp only [List.map_cons, sumV, ih]; rfl
theorem Can.lt {e : Int × Rat} {v : Vec} (h : Can (e :: v)) : ∀ x ∈ v, e.1 < x.1 := (List.pairwise_cons.1 h.asc).1
theorem dotM_eq : ∀ (x y : Vec), Can x → Can y → dotM x y = sumV (vget y) x
  | [], y, _, _ => by rw [dotM]; rfl
  | a :: x, [], _, _ => by rw [dotM]; exact (sumV_zero fun _ _ => rfl).symm
  | a :: x, b :: y, hx, hy => by
    rw [dotM]
    split
    · rename_i h
      rw [dotM_eq x (b :: y) hx.tail hy]
      have h0 : vget (b :: y) a.1 = 0 := vget_out fun e he => by
        rcases List.mem_cons.1 he with rfl | he
        · omega
        · have := hy.lt e he; omega
      simp only [sumV]; rw [h0]; grind
    · split
      · rename_i h1 h
        rw [dotM_eq (a :: x) y hx hy.tail]
        refine sumV_congr fun e he => ?_
        have : b.1 < e.1 := by
          rcases List.mem_cons.1 he with rfl | he
          · exact h
          · have := hx.lt e he; omega
        simp only [vget]; rw [if_neg (by omega)]; grind
      · rename_i h1 h2
        have e1 : a.1 = b.1 := by omega
        rw [dotM_eq x y hx.tail hy.tail]
        simp only [sumV]
        rw [e1, hy.head_get]
        have : sumV (vget (b :: y)) x = sumV (vget y) x := sumV_congr fun e he => by
          have := hx.lt e he
          simp only [vget]; rw [if_neg (by omega)]; grind
        rw [this]
termination_by x y => x.length + y.length
theorem vget_sz {l : Vec} {k : Nat} (h : ∀ e ∈ l, Sz e.2 k) (j : Int) : Sz (vget l j) (1 + l.length * (k + 1)) := by
  induction l with
  | nil => exact sz_zero (by omega)
  | cons e l ih =>
    have ih := ih fun x hx => h x (List.mem_cons_of_mem _ hx)
    have h9 : (l.length + 1) * (k + 1) = l.length * (k + 1) + (k + 1) := Nat.succ_mul _ _
    simp only [vget, List.length_cons]
    split
    · exact ((h e (List.mem_cons_self ..)).add ih).mono (by omega)
    · rw [show (0 : Rat) + vget l j = vget l j by grind]; exact ih.mono (by omega)
theorem sumV_sz {f : Int → Rat} {l : Vec} {k : Nat} (h : ∀ e ∈ l, Sz e.2 k) (hf : ∀ e ∈ l, Sz (f e.1) k) : Sz (sumV f l) (1 + l.length * (k + k + 1)) := by
  induction l with
  | nil => exact sz_zero (by omega)
  | cons e l ih =>
    have ih := ih (fun x hx => h x (List.mem_cons_of_mem _ hx)) (fun x hx => hf x (List.mem_cons_of_mem _ hx))
    have h9 : (l.length + 1) * (k + k + 1) = l.length * (k + k + 1) + (k + k + 1) := Nat.succ_mul _ _
    simp only [sumV, List.length_cons]
    exact (((h e (List.mem_cons_self ..)).mul (hf e (List.mem_cons_self ..))).add ih).mono (by omega)
theorem vcan_len (u : Vec) : (vcan u).length ≤ u.length := by
  have h := srt_len (cE u)
  rw [srt_cE, cE_len, cE_len] at h
  exact h
theorem can_mem_get : ∀ {v : Vec}, Can v → ∀ e ∈ v, vget v e.1 = e.2
  | a :: v, h, e, he => by
    rcases List.mem_cons.1 he with rfl | he
    · exact h.head_get
    · have := h.lt e he
      simp only [vget]; rw [if_neg (by omega), can_mem_get h.tail e he]; grind
end Go.Abs
/-! YtbLaw6: Plain laws: permutations and their inverses. No condition. -/
set_option linter.unusedVariables false
set_option linter.unusedSimpArgs false
set_option maxRecDepth 100000
set_option maxHeartbeats 1000000
namespace Go.Abs
open Go.Proofs
structure PermN (p : List Int) (n : Nat) : Prop where
  len : p.length = n
  rng : ∀ i, i < n → 0 ≤ p.getD i 0 ∧ p.getD i 0 < n
  inj : ∀ i j, i < n → j < n → p.getD i 0 = p.getD j 0 → i = j
  sur : ∀ k : Nat, k < n → ∃ i, i < n ∧ p.getD i 0 = k
theorem getD_at {p : List Int} {i : Nat} (h : i < p.length) : p.getD i 0 = p[i] := by rw [List.getD_eq_getElem?_getD, List.getElem?_eq_getElem h]; rfl
theorem permN_of {p : List Int} {n : Nat} (h : p.Perm ((List.range n).map fun (j : Nat) => (j : Int))) : PermN p n := by
  have hl : p.length = n := by rw [h.length_eq]; simp
  have hnd : p.Nodup := h.symm.nodup (List.pairwise_map.2 (List.nodup_range.imp fun h e => h (by omega)))
  refine ⟨hl, fun i hi => ?_, fun i j hi hj e => ?_, fun k hk => ?_⟩
  · rw [getD_at (by omega)]
    obtain ⟨k, hk, e⟩ := List.mem_map.1 (h.mem_iff.1 (List.getElem_mem (by omega : i < p.length)))
    have := List.mem_range.1 hk
    omega
  · rw [getD_at (by omega), getD_at (by omega)] at e
    rcases Nat.lt_trichotomy i j with g | g | g
    · exact absurd e (List.pairwise_iff_getElem.1 hnd i j (by omega) (by omega) g)
    · exact g
    · exact absurd e.symm (List.pairwise_iff_getElem.1 hnd j i (by omega) (by omega) g)
  · obtain ⟨i, hi, e⟩ := List.mem_iff_getElem.1 (h.mem_iff.2 (List.mem_map.2 ⟨k, List.mem_range.2 hk, rfl⟩))
    exact ⟨i, by omega, by rw [getD_at hi]; exact e⟩
theorem PermN.permL {p : List Int} {n : Nat} (h : PermN p n) : PermL p := by
  refine ⟨fun x hx => ?_, List.pairwise_iff_getElem.2 fun i j hi hj g e => ?_⟩
  · obtain ⟨i, hi, rfl⟩ := List.mem_iff_getElem.1 hx
    have := h.rng i (by have := h.len; omega)
    rw [getD_at hi] at this
    rw [h.len]; exact this
  · have hl := h.len
    have := h.inj i j (by omega) (by omega) (by rw [getD_at hi, getD_at hj]; exact e)
    omega
theorem invF_get {p : List Int} (hp : PermN p 10) : ∀ k, k ≤ 10 → ∀ i, i < k → (invF p k).getD (p.getD i 0).toNat 0 = i
  | 0, _, i, hi => by omega
  | k + 1, hk, i, hi => by
    have r1 := hp.rng i (by omega)
    have r2 := hp.rng k (by omega)
    have il := invF_len p k
    unfold invF
    rw [List.getD_eq_getElem?_getD, List.getElem?_set]
    by_cases e : i = k
    · subst e; rw [if_pos rfl, if_pos (by omega)]; rfl
    · have hne : ¬ (p.getD k 0).toNat = (p.getD i 0).toNat := fun h => e (hp.inj i k (by omega) (by omega) (by omega))
      rw [if_neg hne, ← List.getD_eq_getElem?_getD]
      exact invF_get hp k (by omega) i (by omega)
theorem inv_at {p : List Int} (hp : PermN p 10) {i : Nat} (hi : i < 10) : (invF p 10).getD (p.getD i 0).toNat 0 = i := invF_get hp 10 (Nat.le_refl _) i hi
theorem permN_inv {p : List Int} (hp : PermN p 10) : PermN (invF p 10) 10 := by
  refine ⟨invF_len p 10, fun i hi => ?_, fun i j hi hj e => ?_, fun k hk => ?_⟩
  · obtain ⟨a, ha, e⟩ := hp.sur i hi
    have := inv_at hp ha
    rw [e, Int.toNat_natCast] at this
    rw [this]; omega
  · obtain ⟨a, ha, ea⟩ := hp.sur i hi
    obtain ⟨b, hb, eb⟩ := hp.sur j hj
    have h1 := inv_at hp ha
    have h2 := inv_at hp hb
    rw [ea, Int.toNat_natCast] at h1
    rw [eb, Int.toNat_natCast] at h2
    rw [h1, h2] at e
    have : a = b := by omega
    subst this; rw [ea] at eb; omega
  · have := hp.rng k hk
    exact ⟨(p.getD k 0).toNat, by omega, inv_at hp hk⟩
theorem vget_pq {p : List Int} {n : Nat} (hp : PermN p n) {j : Nat} (hj : j < n) : ∀ {v : Vec}, (∀ e ∈ v, 0 ≤ e.1 ∧ e.1 < n) → vget (v.map (pq p)) (p.getD j 0) = vget v j
  | [], _ => rfl
  | e :: v, hv => by
    have h0 := hv e (List.mem_cons_self ..)
    have ih := vget_pq hp hj (v := v) fun x hx => hv x (List.mem_cons_of_mem _ hx)
    simp only [List.map_cons, vget]
    rw [ih]
    by_cases e1 : e.1 = j
    · rw [if_pos e1, if_pos (by unfold pq; simp only; rw [e1, Int.toNat_natCast])]; rfl
    · rw [if_neg e1, if_neg fun h => e1 (by
        have := hp.inj e.1.toNat j (by omega) hj h
        omega)]
theorem pq_rng {p : List Int} {n : Nat} (hp : PermN p n) {v : Vec} (hv : ∀ e ∈ v, 0 ≤ e.1 ∧ e.1 < n) : ∀ e ∈ v.map (pq p), 0 ≤ e.1 ∧ e.1 < n := fun e he => by
  obtain ⟨x, hx, rfl⟩ := List.mem_map.1 he
  have := hv x hx
  exact hp.rng _ (by omega)
theorem vcan_rng {n : Nat} {u : Vec} (h : ∀ e ∈ u, 0 ≤ e.1 ∧ e.1 < n) : ∀ e ∈ vcan u, 0 ≤ e.1 ∧ e.1 < n := fun e he => by
  have hc := vcan_can u
  have h1 := can_mem_get hc e he
  rw [vcan_get] at h1
  have h2 := hc.nz e he
  by_cases hx : ∃ x ∈ u, x.1 = e.1
  · obtain ⟨x, hx, e1⟩ := hx
    rw [← e1]; exact h x hx
  · exact absurd (by rw [← h1]; exact vget_out fun x hx' e1 => hx ⟨x, hx', e1⟩) h2
theorem pq_back {p : List Int} (hp : PermN p 10) {v : Vec} (hc : Can v) (hv : ∀ e ∈ v, 0 ≤ e.1 ∧ e.1 < 10) : vcan ((vcan (v.map (pq p))).map (pq (invF p 10))) = v := by
  have hq := permN_inv hp
  have hx := vcan_rng (n := 10) (pq_rng hp hv)
  refine can_unique (vcan_can _) hc fun i => ?_
  rw [vcan_get]
  by_cases hi : 0 ≤ i ∧ i < 10
  · obtain ⟨j, rfl⟩ : ∃ j : Nat, i = j := ⟨i.toNat, by omega⟩
    have hj : j < 10 := by omega
    have r := hp.rng j hj
    have h1 := vget_pq hq (j := (p.getD j 0).toNat) (by omega) hx
    rw [inv_at hp hj, vcan_get, Int.toNat_of_nonneg r.1, vget_pq hp hj hv] at h1
    exact h1
  · rw [vget_out fun e he e1 => hi (by have := pq_rng hq hx e he; omega), vget_out fun e he e1 => hi (by have := hv e he; omega)]
theorem iso_spec (a b : List Ent) (t : List Int) (k : Nat) (ha : OkL a k) (hb : OkL b k) (hk1 : 1 ≤ k) (hk : k ≤ 1100000) (hla : a.length ≤ 1099511627776) (hlb : b.length ≤ 1099511627776) (hlt : t.length ≤ 1099511627776) :
    PDet Try.prog 7 [EL a, EL b, IL t] (.bool true) := by
  have hp := permN_of (permT_perm t 0 10)
  have hq := permN_inv hp
  have gs : ∀ l : List Ent, OkL l k → ∀ j : Int, Sz (vget (eV (shL l)) j) (1 + 40 * (k + 1)) := fun l hl j => by
    have h2 : OkL (shL l) k := fun e he => by
      obtain ⟨x, hx, rfl⟩ := List.mem_map.1 he
      exact hl x (List.mem_of_mem_take hx)
    refine (vget_sz (eV_sz h2 hk1) j).mono (Nat.add_le_add_left (Nat.mul_le_mul_right _ ?_) _)
    rw [eV_len, shL_len]; omega
  have dr : ∀ g : Nat → Rat, ∀ e ∈ dV g 10, 0 ≤ e.1 ∧ e.1 < 10 := fun g e he => by
    obtain ⟨i, hi, _, rfl⟩ := dV_mem he
    simp only; omega
  have ds : ∀ l : List Ent, OkL l k → ∀ e ∈ dV (fun (i : Nat) => vget (eV (shL l)) i) 10, Sz e.2 (1 + 40 * (k + 1)) := fun l hl e he => by
    obtain ⟨i, hi, _, rfl⟩ := dV_mem he
    exact gs l hl i
  have dk : ∀ l : List Ent, OkL l k → ∀ i, i < (dnL l 10).length → ((dnL l 10).getD i default).Ok 1099511627776 := fun l hl i hi => by
    rw [dnL_len] at hi
    have : (dnL l 10).getD i default = canon (vget (eV (shL l)) i) := by
      unfold dnL
      rw [List.getD_eq_getElem?_getD, List.getElem?_map, List.getElem?_range hi]; rfl
    rw [this]
    exact canon_ok ((gs l hl i).mono (by omega))
  have ok : ∀ g : Nat → Rat, PmOk (permT t 0 10) (dV g 10) := fun g => ⟨hp.permL, by rw [hp.len]; exact dr g⟩
  have hx : ∀ g : Nat → Rat, ∀ e ∈ vcan ((dV g 10).map (pq (permT t 0 10))), 0 ≤ e.1 ∧ e.1 < 10 := fun g => vcan_rng (n := 10) (pq_rng hp (dr g))
  have lx : ∀ g : Nat → Rat, (vcan ((dV g 10).map (pq (permT t 0 10)))).length ≤ 10 := fun g => Nat.le_trans (vcan_len _) (by rw [List.length_map]; exact dV_len g 10)
  have sx : ∀ l : List Ent, OkL l k → ∀ e ∈ vcan ((dV (fun (i : Nat) => vget (eV (shL l)) i) 10).map (pq (permT t 0 10))), Sz e.2 (1 + 40 * (k + 1)) := fun l hl e he => by
    have h1 := can_mem_get (vcan_can _) e he
    have h2 := hx _ e he
    obtain ⟨j, hj, e2⟩ := hp.sur e.1.toNat (by omega)
    rw [Int.toNat_of_nonneg h2.1] at e2
    rw [vcan_get, ← e2, vget_pq hp hj (dr _), dV_get _ _ _ hj] at h1
    rw [← h1]
    exact gs l hl j
  have o3 : ∀ g : Nat → Rat, PmOk (invF (permT t 0 10) 10) (vcan ((dV g 10).map (pq (permT t 0 10)))) := fun g => ⟨hq.permL, by rw [hq.len]; exact hx g⟩
  have fv : ∀ g : Nat → Rat, Sz (0 : Rat) 1 := fun _ => sz_zero (Nat.le_refl _)
  refine iso_walk a b t k (1 + 40 * (k + 1)) ha hb hk1 hk hla hlb hlt _ rfl (fun x hx => by have := (hp.permL).1 x hx; rw [hp.len] at this; exact this) _ _ (fD_dnL a 10) (fD_dnL b 10) (dV_can _ _) (dV_can _ _) (dV_len _ _) (dV_len _ _)
    (ds a ha) (ds b hb) (by omega) (by omega) (ok _) (ok _) _ _ (pmOut_eq (ok _)) (pmOut_eq (ok _)) (vcan_can _) (vcan_can _) (lx _) (lx _) (sx a ha) (sx b hb) (o3 _) ?_ ?_ ?_ (dk a ha) (dk b hb)
  · rw [pmOut_eq (o3 _), pq_back hp (dV_can _ _) (dr _)]
  · rw [dotM_eq _ _ (vcan_can _) (vcan_can _), dotM_eq _ _ (dV_can _ _) (dV_can _ _), sumV_vcan, sumV_map]
    refine sumV_congr fun e he => ?_
    have h := dr _ e he
    obtain ⟨j, hj⟩ : ∃ j : Nat, e.1 = j := ⟨e.1.toNat, by omega⟩
    rw [hj, Int.toNat_natCast, vcan_get, vget_pq hp (by omega) (dr _)]
  · rw [dotM_eq _ _ (dV_can _ _) (dV_can _ _)]
    refine (sumV_sz (ds a ha) fun e he => ?_).mono (k := 1 + _ * (1 + 40 * (k + 1) + (1 + 40 * (k + 1)) + 1)) ?_
    · have h := dr _ e he
      obtain ⟨j, hj⟩ : ∃ j : Nat, e.1 = j := ⟨e.1.toNat, by omega⟩
      rw [hj, dV_get _ _ _ (by omega)]
      exact gs b hb j
    · have := Nat.mul_le_mul_right (1 + 40 * (k + 1) + (1 + 40 * (k + 1)) + 1) (dV_len (fun (i : Nat) => vget (eV (shL a)) i) 10)
      omega
end Go.Abs
/-! YtbVec7: Sparse vectors: a vector and a multiple of another one. No condition. -/
set_option linter.unusedVariables false
set_option linter.unusedSimpArgs false
set_option maxRecDepth 100000
set_option maxHeartbeats 1000000
namespace Go.Abs
open Go.Proofs
@[go_sem] theorem R43 : Try.f43.results.toList = [.tmp 6] := rfl
def ED43 : Env := { tt := E0.tt, pf := E0.pf, dyn := fun id => lookD id [(7, [(2, 13), (4, 13), (5, 13), (8, 13), (10, 13)])] }
theorem ED43ok : EnvOk Try.prog ED43 := ⟨E0ok.tt⟩
@[go_sem] theorem ED43tt (t : Nat) : ED43.tt t = E0.tt t := rfl
@[go_sem] theorem ED43dyn (id : Nat) : ED43.dyn id = lookD id [(7, [(2, 13), (4, 13), (5, 13), (8, 13), (10, 13)])] := rfl
@[go_sem] theorem ED43pf (f : Nat) : ED43.pf f = E0.pf f := rfl
theorem addScaled_spec (a b : List Ent) (f : Raw) (k K : Nat) (ha : OkL a k) (hb : OkL b k) (hf : f.Ok k) (hk1 : 1 ≤ k) (la : a.length ≤ 40) (lb : b.length ≤ 40) (bK : k + 40 * (k + 1) ≤ K) (hK : K ≤ 100000000000) :
    PDet Try.prog 43 [EL a, .agg f.cells, EL b] (EL (cE (vcan (eV a ++ smul f.val (eV b))))) := by
  refine pdet_of ED43ok mixed Try.func43 (by kernel_rfl) rfl (by kernel_rfl) (Nat.le_of_ble_eq_true rfl) fun N0 h hn hmen => ?_
  have m1 : a.length * (k + 1) ≤ 40 * (k + 1) := Nat.mul_le_mul_right _ la
  have m2 : b.length * (k + 1) ≤ 40 * (k + 1) := Nat.mul_le_mul_right _ lb
  have cf := rsign_spec f k hf (by omega)
  have cn := norm_spec a k ha hk1 la (by omega)
  have c1 := sorted_spec a k ha hk1 la (by omega)
  have c2 := sorted_spec b k hb hk1 lb (by omega)
  have hS : OkL (srt a) K := (srt_ok hk1 ha).mono (by omega)
  have hT : OkL (srt b) K := (srt_ok hk1 hb).mono (by omega)
  have lS := srt_len a
  have lT := srt_len b
  have can1 := srt_can a
  have can2 := srt_can b
  have e1 : f.val = 0 → vcan (eV a ++ smul f.val (eV b)) = vcan (eV a) := fun h => vcan_congr fun i => by rw [vget_append, smul_get, h]; grind
  have e2 : f.val ≠ 0 → vcan (eV a ++ smul f.val (eV b)) = mrg f.val (eV (srt a)) (eV (srt b)) := fun h => by
    rw [mrg_vcan h can1 can2]
    exact vcan_congr fun i => by rw [vget_append, vget_append, smul_get, smul_get, srt_get, srt_get]
  have hf2 : f.Ok K := hf.mono (by omega)
  generalize vcan (eV a ++ smul f.val (eV b)) = R at *
  generalize srt a = S at *
  generalize srt b = T at *
  unfold EL Raw.cells nl at *
  simp -implicitDefEqProofs (maxSteps := 2000000) (disch := omega) only [go_sem, simprocAttr, -List.reduceReplicate, condB_t, condB_f]
  refine callK_pure cf ?_
  by_cases hz : sgnR f.val = 0
  · rw [hz, e1 (sgnR_zero.1 hz)]
    simp -implicitDefEqProofs (maxSteps := 2000000) (disch := omega) only [go_sem, simprocAttr, -List.reduceReplicate, condB_t, condB_f]
    refine callK_pure cn ?_
    simp -implicitDefEqProofs (maxSteps := 2000000) (disch := omega) only [go_sem, simprocAttr, -List.reduceReplicate, condB_t, condB_f]
    exact dn
  · have hne : f.val ≠ 0 := fun h => hz (sgnR_zero.2 h)
    rw [e2 hne]
    clear e1 e2 cf cn
    simp -implicitDefEqProofs (maxSteps := 2000000) (disch := omega) only [go_sem, simprocAttr, -List.reduceReplicate, condB_t, condB_f]
    refine callK_pure c1 ?_
    simp -implicitDefEqProofs (maxSteps := 2000000) (disch := omega) only [go_sem, simprocAttr, -List.reduceReplicate, condB_t, condB_f]
    refine callK_pure c2 ?_
    simp -implicitDefEqProofs (maxSteps := 2000000) (disch := omega) only [go_sem, simprocAttr, -List.reduceReplicate, condB_t, condB_f]
    refine aw_weak (Weak.nilRow (t := 9) (sz := 4) (id := N0 + 112) (by omega) (by omega) (by simp -implicitDefEqProofs (maxSteps := 2000000) (disch := omega) only [go_sem, simprocAttr, -List.reduceReplicate, condB_t, condB_f])) ?_
    obtain ⟨idR, hidR⟩ : ∃ idR, idR = N0 + 112 := ⟨_, rfl⟩
    rw [← hidR]
    have n1 : (N0 = idR) = False := eq_false (by omega)
    have n2 : (idR = N0) = False := eq_false (by omega)
    have n3 : ∀ q, (N0 = idR + q) = False := fun q => eq_false (by omega)
    refine aw_loop (X := Nat × Nat × Vec) (fun x => ⟨mkS [(4, .ptr N0 1 0 0), (7, .sl 4 (S.map entC)), (8, .sl 4 (T.map entC)), (9, .row idR x.2.2.length 0 x.2.2.length), (10, .int .i64 x.1), (11, .int .i64 x.2.1)], mkH h [(N0, ⟨3, [[.bool f.s, .sl 1 (numL f.m), .sl 1 (numL f.d)]]⟩), (idR, ⟨4, (cE x.2.2).map entC⟩)], idR + 8⟩)
      (fun x => x.1 ≤ S.length ∧ x.2.1 ≤ T.length ∧ x.2.2.length ≤ x.1 + x.2.1 ∧ x.2.2 ++ mrg f.val (eV (S.drop x.1)) (eV (T.drop x.2.1)) = mrg f.val (eV S) (eV T)) (fun x => (S.length - x.1) + (T.length - x.2.1)) ⟨(0, 0, []), ⟨Nat.zero_le _, Nat.zero_le _, Nat.zero_le _, by simp⟩, ?_⟩ ?_
    · simp only [show cE [] = [] from rfl]
      (refine Weak.head2w (by simp -implicitDefEqProofs (maxSteps := 2000000) (disch := omega) only [go_sem, simprocAttr, -List.reduceReplicate, condB_t, condB_f, n1, n2, n3] <;> (try rfl)) (by omega) (by first | exact mapU _ _ _ | (intro r hr; exact absurd hr List.not_mem_nil) | exact mapU entC [_] _ | exact mapU ratC [_] _ | (intro r hr a ha; simp only [List.mem_cons, List.not_mem_nil, or_false] at hr; subst hr; simp only [List.mem_cons, List.not_mem_nil, or_false] at ha; rcases ha with rfl | rfl | rfl <;> trivial)) (by simp -implicitDefEqProofs (maxSteps := 2000000) (disch := omega) only [go_sem, simprocAttr, -List.reduceReplicate, condB_t, condB_f, n1, n2, n3] <;> (try rfl)) (by omega) (by first | exact mapU _ _ _ | (intro r hr; exact absurd hr List.not_mem_nil) | exact mapU entC [_] _ | exact mapU ratC [_] _ | (intro r hr a ha; simp only [List.mem_cons, List.not_mem_nil, or_false] at hr; subst hr; simp only [List.mem_cons, List.not_mem_nil, or_false] at ha; rcases ha with rfl | rfl | rfl <;> trivial)) (fun k0 b0 hk00 hk01 hb0 => by have hk10 : (k0 = _) = False := eq_false hk00; have hk11 : (k0 = _) = False := eq_false hk01; have hk2 := (hmen k0 b0 hb0).1; (simp -implicitDefEqProofs (maxSteps := 2000000) (disch := omega) only [go_sem, simprocAttr, -List.reduceReplicate, condB_t, condB_f, upd, mkH, hk10, hk11]) <;> (try (repeat rw [if_neg (by omega)])) <;> exact hb0) (by omega) hmen ?_; simp -implicitDefEqProofs (maxSteps := 2000000) (disch := omega) only [go_sem, simprocAttr, -List.reduceReplicate, condB_t, condB_f, AllP, AVle_same, AVle_int, AVle_nil, AVle_row, topU_int, topU_bool, topU_sl, topU_row, topU_ptr, topU_iptr, topU_fn, val, List.drop_length])
    · rintro ⟨i, j, out⟩ ⟨hi, hj, hl, hq⟩
      simp only at hi hj hl hq
      have lo := cE_len out
      have K1 : 1 ≤ K := by omega
      by_cases h0 : i < S.length
      · have sx := hS.get h0
        obtain ⟨e, he⟩ : ∃ e, S.getD i default = e := ⟨_, rfl⟩
        rw [he] at sx
        have cx := rnorm_spec e.2 K sx (by omega)
        have len1 : ∀ (y : Int × Rat), (out ++ [y]).length = out.length + 1 := fun y => by simp
        have ee := cE_snoc out
        by_cases h1 : j < T.length
        · have sy := hT.get h1
          obtain ⟨g, hg⟩ : ∃ g, T.getD j default = g := ⟨_, rfl⟩
          have hd := mrg_drop (f := f.val) h0 h1
          rw [he, hg] at hd
          rw [hg] at sy
          have cm := rmul_spec f g.2 K K hf2 sy K1 K1 (by omega)
          have sm := (hf2.sz K1).mul (sy.sz K1)
          have ca := radd_spec e.2 (canon (f.val * g.2.val)) K (K + K) sx (canon_ok sm) K1 (by omega) (by omega)
          have ss := (sx.sz K1).add sm
          rw [canon_val] at ca
          have cs := rsign_spec (canon (e.2.val + f.val * g.2.val)) _ (canon_ok ss) (by omega)
          rw [canon_val] at cs
          unfold rC Raw.cells nl at cx cm ca
          unfold Raw.cells nl at cs
          by_cases h2 : e.1 < g.1
          · rw [if_pos h2] at hd
            simp -implicitDefEqProofs (maxSteps := 2000000) (disch := omega) only [go_sem, simprocAttr, -List.reduceReplicate, condB_t, condB_f, n1, n2, n3, he, hg]
            refine pcallK_pure cx ?_
            simp -implicitDefEqProofs (maxSteps := 2000000) (disch := omega) only [go_sem, simprocAttr, -List.reduceReplicate, condB_t, condB_f, n1, n2, n3, he, hg, lo]
            exact ⟨(i + 1, j, out ++ [(e.1, e.2.val)]), ⟨h0, hj, by rw [len1]; simp only; omega, by rw [← hq, hd]; simp⟩, by simp only; omega, by simp only [len1]; (refine Weak.head2w (by simp -implicitDefEqProofs (maxSteps := 2000000) (disch := omega) only [go_sem, simprocAttr, -List.reduceReplicate, condB_t, condB_f, n1, n2, n3, he, hg, lo, ee] <;> (try rfl)) (by omega) (by first | exact mapU _ _ _ | (intro r hr; exact absurd hr List.not_mem_nil) | exact mapU entC [_] _ | exact mapU ratC [_] _ | (intro r hr a ha; simp only [List.mem_cons, List.not_mem_nil, or_false] at hr; subst hr; simp only [List.mem_cons, List.not_mem_nil, or_false] at ha; rcases ha with rfl | rfl | rfl <;> trivial)) (by simp -implicitDefEqProofs (maxSteps := 2000000) (disch := omega) only [go_sem, simprocAttr, -List.reduceReplicate, condB_t, condB_f, n1, n2, n3, he, hg, lo, ee] <;> (try rfl)) (by omega) (by first | exact mapU _ _ _ | (intro r hr; exact absurd hr List.not_mem_nil) | exact mapU entC [_] _ | exact mapU ratC [_] _ | (intro r hr a ha; simp only [List.mem_cons, List.not_mem_nil, or_false] at hr; subst hr; simp only [List.mem_cons, List.not_mem_nil, or_false] at ha; rcases ha with rfl | rfl | rfl <;> trivial)) (fun k0 b0 hk00 hk01 hb0 => by have hk10 : (k0 = _) = False := eq_false hk00; have hk11 : (k0 = _) = False := eq_false hk01; have hk2 := (hmen k0 b0 hb0).1; (simp -implicitDefEqProofs (maxSteps := 2000000) (disch := omega) only [go_sem, simprocAttr, -List.reduceReplicate, condB_t, condB_f, upd, mkH, hk10, hk11]) <;> (try (repeat rw [if_neg (by omega)])) <;> exact hb0) (by omega) hmen ?_; simp -implicitDefEqProofs (maxSteps := 2000000) (disch := omega) only [go_sem, simprocAttr, -List.reduceReplicate, condB_t, condB_f, AllP, AVle_same, AVle_int, AVle_nil, AVle_row, topU_int, topU_bool, topU_sl, topU_row, topU_ptr, topU_iptr, topU_fn, val, List.drop_length])⟩
          · rw [if_neg h2] at hd
            by_cases h3 : g.1 < e.1
            · rw [if_pos h3] at hd
              simp -implicitDefEqProofs (maxSteps := 2000000) (disch := omega) only [go_sem, simprocAttr, -List.reduceReplicate, condB_t, condB_f, n1, n2, n3, he, hg]
              refine pcallK_pure cm ?_
              simp -implicitDefEqProofs (maxSteps := 2000000) (disch := omega) only [go_sem, simprocAttr, -List.reduceReplicate, condB_t, condB_f, n1, n2, n3, he, hg, lo]
              exact ⟨(i, j + 1, out ++ [(g.1, f.val * g.2.val)]), ⟨hi, h1, by rw [len1]; simp only; omega, by rw [← hq, hd]; simp⟩, by simp only; omega, by simp only [len1]; (refine Weak.head2w (by simp -implicitDefEqProofs (maxSteps := 2000000) (disch := omega) only [go_sem, simprocAttr, -List.reduceReplicate, condB_t, condB_f, n1, n2, n3, he, hg, lo, ee] <;> (try rfl)) (by omega) (by first | exact mapU _ _ _ | (intro r hr; exact absurd hr List.not_mem_nil) | exact mapU entC [_] _ | exact mapU ratC [_] _ | (intro r hr a ha; simp only [List.mem_cons, List.not_mem_nil, or_false] at hr; subst hr; simp only [List.mem_cons, List.not_mem_nil, or_false] at ha; rcases ha with rfl | rfl | rfl <;> trivial)) (by simp -implicitDefEqProofs (maxSteps := 2000000) (disch := omega) only [go_sem, simprocAttr, -List.reduceReplicate, condB_t, condB_f, n1, n2, n3, he, hg, lo, ee] <;> (try rfl)) (by omega) (by first | exact mapU _ _ _ | (intro r hr; exact absurd hr List.not_mem_nil) | exact mapU entC [_] _ | exact mapU ratC [_] _ | (intro r hr a ha; simp only [List.mem_cons, List.not_mem_nil, or_false] at hr; subst hr; simp only [List.mem_cons, List.not_mem_nil, or_false] at ha; rcases ha with rfl | rfl | rfl <;> trivial)) (fun k0 b0 hk00 hk01 hb0 => by have hk10 : (k0 = _) = False := eq_false hk00; have hk11 : (k0 = _) = False := eq_false hk01; have hk2 := (hmen k0 b0 hb0).1; (simp -implicitDefEqProofs (maxSteps := 2000000) (disch := omega) only [go_sem, simprocAttr, -List.reduceReplicate, condB_t, condB_f, upd, mkH, hk10, hk11]) <;> (try (repeat rw [if_neg (by omega)])) <;> exact hb0) (by omega) hmen ?_; simp -implicitDefEqProofs (maxSteps := 2000000) (disch := omega) only [go_sem, simprocAttr, -List.reduceReplicate, condB_t, condB_f, AllP, AVle_same, AVle_int, AVle_nil, AVle_row, topU_int, topU_bool, topU_sl, topU_row, topU_ptr, topU_iptr, topU_fn, val, List.drop_length])⟩
            · rw [if_neg h3] at hd
              simp -implicitDefEqProofs (maxSteps := 2000000) (disch := omega) only [go_sem, simprocAttr, -List.reduceReplicate, condB_t, condB_f, n1, n2, n3, he, hg]
              refine pcallK_pure cm ?_
              simp -implicitDefEqProofs (maxSteps := 2000000) (disch := omega) only [go_sem, simprocAttr, -List.reduceReplicate, condB_t, condB_f, n1, n2, n3, he, hg, lo]
              refine pcallK_pure ca ?_
              simp -implicitDefEqProofs (maxSteps := 2000000) (disch := omega) only [go_sem, simprocAttr, -List.reduceReplicate, condB_t, condB_f, n1, n2, n3, he, hg, lo]
              refine callK_pure cs ?_
              by_cases h4 : sgnR (e.2.val + f.val * g.2.val) = 0
              · rw [if_pos (sgnR_zero.1 h4), List.nil_append] at hd
                rw [h4]
                simp -implicitDefEqProofs (maxSteps := 2000000) (disch := omega) only [go_sem, simprocAttr, -List.reduceReplicate, condB_t, condB_f, n1, n2, n3, he, hg, lo]
                exact ⟨(i + 1, j + 1, out), ⟨h0, h1, by simp only; omega, by rw [← hq, hd]⟩, by simp only; omega, by simp only; (refine Weak.head2w (by simp -implicitDefEqProofs (maxSteps := 2000000) (disch := omega) only [go_sem, simprocAttr, -List.reduceReplicate, condB_t, condB_f, n1, n2, n3, he, hg, lo] <;> (try rfl)) (by omega) (by first | exact mapU _ _ _ | (intro r hr; exact absurd hr List.not_mem_nil) | exact mapU entC [_] _ | exact mapU ratC [_] _ | (intro r hr a ha; simp only [List.mem_cons, List.not_mem_nil, or_false] at hr; subst hr; simp only [List.mem_cons, List.not_mem_nil, or_false] at ha; rcases ha with rfl | rfl | rfl <;> trivial)) (by simp -implicitDefEqProofs (maxSteps := 2000000) (disch := omega) only [go_sem, simprocAttr, -List.reduceReplicate, condB_t, condB_f, n1, n2, n3, he, hg, lo] <;> (try rfl)) (by omega) (by first | exact mapU _ _ _ | (intro r hr; exact absurd hr List.not_mem_nil) | exact mapU entC [_] _ | exact mapU ratC [_] _ | (intro r hr a ha; simp only [List.mem_cons, List.not_mem_nil, or_false] at hr; subst hr; simp only [List.mem_cons, List.not_mem_nil, or_false] at ha; rcases ha with rfl | rfl | rfl <;> trivial)) (fun k0 b0 hk00 hk01 hb0 => by have hk10 : (k0 = _) = False := eq_false hk00; have hk11 : (k0 = _) = False := eq_false hk01; have hk2 := (hmen k0 b0 hb0).1; (simp -implicitDefEqProofs (maxSteps := 2000000) (disch := omega) only [go_sem, simprocAttr, -List.reduceReplicate, condB_t, condB_f, upd, mkH, hk10, hk11]) <;> (try (repeat rw [if_neg (by omega)])) <;> exact hb0) (by omega) hmen ?_; simp -implicitDefEqProofs (maxSteps := 2000000) (disch := omega) only [go_sem, simprocAttr, -List.reduceReplicate, condB_t, condB_f, AllP, AVle_same, AVle_int, AVle_nil, AVle_row, topU_int, topU_bool, topU_sl, topU_row, topU_ptr, topU_iptr, topU_fn, val, List.drop_length])⟩
              · rw [if_neg (fun h => h4 (sgnR_zero.2 h))] at hd
                simp -implicitDefEqProofs (maxSteps := 2000000) (disch := omega) only [go_sem, simprocAttr, -List.reduceReplicate, condB_t, condB_f, n1, n2, n3, he, hg, lo]
                exact ⟨(i + 1, j + 1, out ++ [(e.1, e.2.val + f.val * g.2.val)]), ⟨h0, h1, by rw [len1]; simp only; omega, by rw [← hq, hd]; simp⟩, by simp only; omega, by simp only [len1]; (refine Weak.head2w (by simp -implicitDefEqProofs (maxSteps := 2000000) (disch := omega) only [go_sem, simprocAttr, -List.reduceReplicate, condB_t, condB_f, n1, n2, n3, he, hg, lo, ee] <;> (try rfl)) (by omega) (by first | exact mapU _ _ _ | (intro r hr; exact absurd hr List.not_mem_nil) | exact mapU entC [_] _ | exact mapU ratC [_] _ | (intro r hr a ha; simp only [List.mem_cons, List.not_mem_nil, or_false] at hr; subst hr; simp only [List.mem_cons, List.not_mem_nil, or_false] at ha; rcases ha with rfl | rfl | rfl <;> trivial)) (by simp -implicitDefEqProofs (maxSteps := 2000000) (disch := omega) only [go_sem, simprocAttr, -List.reduceReplicate, condB_t, condB_f, n1, n2, n3, he, hg, lo, ee] <;> (try rfl)) (by omega) (by first | exact mapU _ _ _ | (intro r hr; exact absurd hr List.not_mem_nil) | exact mapU entC [_] _ | exact mapU ratC [_] _ | (intro r hr a ha; simp only [List.mem_cons, List.not_mem_nil, or_false] at hr; subst hr; simp only [List.mem_cons, List.not_mem_nil, or_false] at ha; rcases ha with rfl | rfl | rfl <;> trivial)) (fun k0 b0 hk00 hk01 hb0 => by have hk10 : (k0 = _) = False := eq_false hk00; have hk11 : (k0 = _) = False := eq_false hk01; have hk2 := (hmen k0 b0 hb0).1; (simp -implicitDefEqProofs (maxSteps := 2000000) (disch := omega) only [go_sem, simprocAttr, -List.reduceReplicate, condB_t, condB_f, upd, mkH, hk10, hk11]) <;> (try (repeat rw [if_neg (by omega)])) <;> exact hb0) (by omega) hmen ?_; simp -implicitDefEqProofs (maxSteps := 2000000) (disch := omega) only [go_sem, simprocAttr, -List.reduceReplicate, condB_t, condB_f, AllP, AVle_same, AVle_int, AVle_nil, AVle_row, topU_int, topU_bool, topU_sl, topU_row, topU_ptr, topU_iptr, topU_fn, val, List.drop_length])⟩
        · have hd := mrg_dropL (f := f.val) (T := T) (j := j) h0 (by omega)
          rw [he] at hd
          obtain rfl : j = T.length := by omega
          unfold rC Raw.cells nl at cx
          simp -implicitDefEqProofs (maxSteps := 2000000) (disch := omega) only [go_sem, simprocAttr, -List.reduceReplicate, condB_t, condB_f, n1, n2, n3, he]
          refine pcallK_pure cx ?_
          simp -implicitDefEqProofs (maxSteps := 2000000) (disch := omega) only [go_sem, simprocAttr, -List.reduceReplicate, condB_t, condB_f, n1, n2, n3, he, lo]
          exact ⟨(i + 1, T.length, out ++ [(e.1, e.2.val)]), ⟨h0, hj, by rw [len1]; simp only; omega, by rw [← hq, hd]; simp⟩, by simp only; omega, by simp only [len1]; (refine Weak.head2w (by simp -implicitDefEqProofs (maxSteps := 2000000) (disch := omega) only [go_sem, simprocAttr, -List.reduceReplicate, condB_t, condB_f, n1, n2, n3, he, lo, ee] <;> (try rfl)) (by omega) (by first | exact mapU _ _ _ | (intro r hr; exact absurd hr List.not_mem_nil) | exact mapU entC [_] _ | exact mapU ratC [_] _ | (intro r hr a ha; simp only [List.mem_cons, List.not_mem_nil, or_false] at hr; subst hr; simp only [List.mem_cons, List.not_mem_nil, or_false] at ha; rcases ha with rfl | rfl | rfl <;> trivial)) (by simp -implicitDefEqProofs (maxSteps := 2000000) (disch := omega) only [go_sem, simprocAttr, -List.reduceReplicate, condB_t, condB_f, n1, n2, n3, he, lo, ee] <;> (try rfl)) (by omega) (by first | exact mapU _ _ _ | (intro r hr; exact absurd hr List.not_mem_nil) | exact mapU entC [_] _ | exact mapU ratC [_] _ | (intro r hr a ha; simp only [List.mem_cons, List.not_mem_nil, or_false] at hr; subst hr; simp only [List.mem_cons, List.not_mem_nil, or_false] at ha; rcases ha with rfl | rfl | rfl <;> trivial)) (fun k0 b0 hk00 hk01 hb0 => by have hk10 : (k0 = _) = False := eq_false hk00; have hk11 : (k0 = _) = False := eq_false hk01; have hk2 := (hmen k0 b0 hb0).1; (simp -implicitDefEqProofs (maxSteps := 2000000) (disch := omega) only [go_sem, simprocAttr, -List.reduceReplicate, condB_t, condB_f, upd, mkH, hk10, hk11]) <;> (try (repeat rw [if_neg (by omega)])) <;> exact hb0) (by omega) hmen ?_; simp -implicitDefEqProofs (maxSteps := 2000000) (disch := omega) only [go_sem, simprocAttr, -List.reduceReplicate, condB_t, condB_f, AllP, AVle_same, AVle_int, AVle_nil, AVle_row, topU_int, topU_bool, topU_sl, topU_row, topU_ptr, topU_iptr, topU_fn, val, List.drop_length])⟩
      · obtain rfl : i = S.length := by omega
        by_cases h1 : j < T.length
        · have sy := hT.get h1
          obtain ⟨g, hg⟩ : ∃ g, T.getD j default = g := ⟨_, rfl⟩
          have hd := mrg_dropR (f := f.val) (S := S) (i := S.length) (by omega) h1
          rw [hg] at hd
          rw [hg] at sy
          have cm := rmul_spec f g.2 K K hf2 sy K1 K1 (by omega)
          unfold rC Raw.cells nl at cm
          have len1 : ∀ (y : Int × Rat), (out ++ [y]).length = out.length + 1 := fun y => by simp
          have ee := cE_snoc out
          simp -implicitDefEqProofs (maxSteps := 2000000) (disch := omega) only [go_sem, simprocAttr, -List.reduceReplicate, condB_t, condB_f, n1, n2, n3, hg]
          refine pcallK_pure cm ?_
          simp -implicitDefEqProofs (maxSteps := 2000000) (disch := omega) only [go_sem, simprocAttr, -List.reduceReplicate, condB_t, condB_f, n1, n2, n3, hg, lo]
          exact ⟨(S.length, j + 1, out ++ [(g.1, f.val * g.2.val)]), ⟨hi, h1, by rw [len1]; simp only; omega, by rw [← hq, hd]; simp⟩, by simp only; omega, by simp only [len1]; (refine Weak.head2w (by simp -implicitDefEqProofs (maxSteps := 2000000) (disch := omega) only [go_sem, simprocAttr, -List.reduceReplicate, condB_t, condB_f, n1, n2, n3, hg, lo, ee] <;> (try rfl)) (by omega) (by first | exact mapU _ _ _ | (intro r hr; exact absurd hr List.not_mem_nil) | exact mapU entC [_] _ | exact mapU ratC [_] _ | (intro r hr a ha; simp only [List.mem_cons, List.not_mem_nil, or_false] at hr; subst hr; simp only [List.mem_cons, List.not_mem_nil, or_false] at ha; rcases ha with rfl | rfl | rfl <;> trivial)) (by simp -implicitDefEqProofs (maxSteps := 2000000) (disch := omega) only [go_sem, simprocAttr, -List.reduceReplicate, condB_t, condB_f, n1, n2, n3, hg, lo, ee] <;> (try rfl)) (by omega) (by first | exact mapU _ _ _ | (intro r hr; exact absurd hr List.not_mem_nil) | exact mapU entC [_] _ | exact mapU ratC [_] _ | (intro r hr a ha; simp only [List.mem_cons, List.not_mem_nil, or_false] at hr; subst hr; simp only [List.mem_cons, List.not_mem_nil, or_false] at ha; rcases ha with rfl | rfl | rfl <;> trivial)) (fun k0 b0 hk00 hk01 hb0 => by have hk10 : (k0 = _) = False := eq_false hk00; have hk11 : (k0 = _) = False := eq_false hk01; have hk2 := (hmen k0 b0 hb0).1; (simp -implicitDefEqProofs (maxSteps := 2000000) (disch := omega) only [go_sem, simprocAttr, -List.reduceReplicate, condB_t, condB_f, upd, mkH, hk10, hk11]) <;> (try (repeat rw [if_neg (by omega)])) <;> exact hb0) (by omega) hmen ?_; simp -implicitDefEqProofs (maxSteps := 2000000) (disch := omega) only [go_sem, simprocAttr, -List.reduceReplicate, condB_t, condB_f, AllP, AVle_same, AVle_int, AVle_nil, AVle_row, topU_int, topU_bool, topU_sl, topU_row, topU_ptr, topU_iptr, topU_fn, val, List.drop_length])⟩
        · have hd := mrg_end (f := f.val) (S := S) (T := T) (i := S.length) (j := j) (by omega) (by omega)
          rw [hd, List.append_nil] at hq
          rw [← hq]
          simp -implicitDefEqProofs (maxSteps := 2000000) (disch := omega) only [go_sem, simprocAttr, -List.reduceReplicate, condB_t, condB_f, n1, n2, n3]
          refine .val (.leaf (Thaw.plain (rows := (cE out).map entC) (by simp [locH, upd, mkH]; omega) (by simp [lo]) (by omega) (List.take_of_length_le (by simp [lo])) (mapP _)))
end Go.Abs
/-! YtbVec8: Sparse vectors: sum, indices, sameness; lists of integers. No condition. -/
set_option linter.unusedVariables false
set_option linter.unusedSimpArgs false
set_option maxRecDepth 100000
set_option maxHeartbeats 1000000
namespace Go.Abs
open Go.Proofs
@[go_sem] theorem R42 : Try.f42.results.toList = [.tmp 4] := rfl
@[go_sem] theorem R48 : Try.f48.results.toList = [.tmp 2] := rfl
@[go_sem] theorem R86 : Try.f86.results.toList = [.tmp 4] := rfl
@[go_sem] theorem R85 : Try.f85.results.toList = [.tmp 6] := rfl
@[go_sem] theorem R46 : Try.f46.results.toList = [.tmp 4] := rfl
@[go_sem] theorem R47 : Try.f47.results.toList = [.tmp 4] := rfl
theorem smul_one (v : Vec) : smul 1 v = v := by
  unfold smul
  conv => rhs; rw [← List.map_id v]
  exact List.map_congr_left fun e _ => by
    show (e.1, 1 * e.2) = e
    rw [Rat.one_mul]
theorem sz_one : Sz (1 : Rat) 1 := ⟨by unfold Fit; decide, by unfold Fit; decide⟩
theorem vadd_spec (a b : List Ent) (k K : Nat) (ha : OkL a k) (hb : OkL b k) (hk1 : 1 ≤ k) (la : a.length ≤ 40) (lb : b.length ≤ 40) (bK : k + 40 * (k + 1) ≤ K) (hK : K ≤ 100000000000) :
    PDet Try.prog 42 [EL a, EL b] (EL (cE (vcan (eV a ++ eV b)))) := by
  refine pdet_of E0ok mixed Try.func42 (by kernel_rfl) rfl (by kernel_rfl) (Nat.le_of_ble_eq_true rfl) fun N0 h hn hmen => ?_
  have c1 := rfromInt_spec 1 (by decide) (by decide)
  have e : (((1 : Int) : Rat)) = 1 := rfl
  rw [e] at c1
  have c2 := addScaled_spec a b (canon 1) k K ha hb ((canon_ok sz_one).mono hk1) hk1 la lb bK hK
  rw [canon_val, smul_one] at c2
  unfold EL Raw.cells nl rC at *
  simp -implicitDefEqProofs (maxSteps := 2000000) (disch := omega) only [go_sem, simprocAttr, -List.reduceReplicate, condB_t, condB_f]
  refine callK_pure c1 ?_
  simp -implicitDefEqProofs (maxSteps := 2000000) (disch := omega) only [go_sem, simprocAttr, -List.reduceReplicate, condB_t, condB_f]
  refine callK_pure c2 ?_
  simp -implicitDefEqProofs (maxSteps := 2000000) (disch := omega) only [go_sem, simprocAttr, -List.reduceReplicate, condB_t, condB_f]
  exact dn
/-- The indices of a vector. -/
def ixL (l : List Ent) : List Int := l.map (·.1)
theorem ixL_succ {l : List Ent} {i : Nat} (h : i < l.length) : ixL (l.take (i + 1)) = ixL (l.take i) ++ [(l.getD i default).1] := by rw [take_succ_getE h]; unfold ixL; rw [List.map_append]; rfl
theorem support_spec (v : List Ent) (k : Nat) (hk : OkL v k) (hk1 : 1 ≤ k) (hlen : v.length ≤ 40) (hb : k + v.length * (k + 1) ≤ 1000000000000) : PDet Try.prog 48 [EL v] (IL ((vcan (eV v)).map (·.1))) := by
  refine pdet_of E0ok mixed Try.func48 (by kernel_rfl) rfl (by kernel_rfl) (Nat.le_of_ble_eq_true rfl) fun N0 h hn hmen => ?_
  have c1 := sorted_spec v k hk hk1 hlen hb
  have lS := srt_len v
  have e0 : (vcan (eV v)).map (·.1) = ixL (srt v) := by rw [← srt_val]; unfold ixL eV; rw [List.map_map]; rfl
  rw [e0]
  generalize srt v = S at *
  unfold EL IL at *
  simp -implicitDefEqProofs (maxSteps := 2000000) (disch := omega) only [go_sem, simprocAttr, -List.reduceReplicate, condB_t, condB_f]
  refine callK_pure c1 ?_
  simp -implicitDefEqProofs (maxSteps := 2000000) (disch := omega) only [go_sem, simprocAttr, -List.reduceReplicate, condB_t, condB_f]
  refine aw_weak (Weak.nilRow (t := 3) (sz := 1) (id := N0 + 48) (by omega) (by omega) (by simp -implicitDefEqProofs (maxSteps := 2000000) (disch := omega) only [go_sem, simprocAttr, -List.reduceReplicate, condB_t, condB_f])) ?_
  obtain ⟨id, hid⟩ : ∃ id, id = N0 + 48 := ⟨_, rfl⟩
  rw [← hid]
  refine aw_loop (X := Nat) (fun i => ⟨mkS [(3, .row id i 0 i), (7, .sl 4 (S.map entC)), (8, .int .i64 S.length), (9, .int .i64 i)], mkH h [(id, ⟨1, (ixL (S.take i)).map intC⟩)], id + 8⟩) (fun i => i ≤ S.length) (fun i => S.length - i) ⟨0, Nat.zero_le _, ?_⟩ ?_
  · (refine Weak.head1w (by simp -implicitDefEqProofs (maxSteps := 2000000) (disch := omega) only [go_sem, simprocAttr, -List.reduceReplicate, condB_t, condB_f] <;> (try rfl)) (by omega) (mapU _ _ _) (fun k0 b0 hk0 hb0 => by have hk1 : (k0 = _) = False := eq_false hk0; have hk2 := (hmen k0 b0 hb0).1; (simp -implicitDefEqProofs (maxSteps := 2000000) (disch := omega) only [go_sem, simprocAttr, -List.reduceReplicate, condB_t, condB_f, upd, mkH, hk1]) <;> (try (repeat rw [if_neg (by omega)])) <;> exact hb0) (by omega) hmen ?_; simp -implicitDefEqProofs (maxSteps := 2000000) (disch := omega) only [go_sem, simprocAttr, -List.reduceReplicate, condB_t, condB_f, AllP, AVle_same, AVle_int, AVle_nil, AVle_row, topU_int, topU_bool, topU_sl, topU_row, topU_ptr, topU_iptr, topU_fn, val, List.drop_length])
  · intro i hi
    by_cases h0 : i < S.length
    · have e := ixL_succ h0
      have hel : (ixL (S.take i)).length = i := by unfold ixL; rw [List.length_map, List.length_take]; omega
      simp -implicitDefEqProofs (maxSteps := 2000000) (disch := omega) only [go_sem, simprocAttr, -List.reduceReplicate, condB_t, condB_f, hel]
      exact ⟨i + 1, h0, by omega, by (refine Weak.head1w (by simp -implicitDefEqProofs (maxSteps := 2000000) (disch := omega) only [go_sem, simprocAttr, -List.reduceReplicate, condB_t, condB_f, e] <;> (try rfl)) (by omega) (mapU _ _ _) (fun k0 b0 hk0 hb0 => by have hk1 : (k0 = _) = False := eq_false hk0; have hk2 := (hmen k0 b0 hb0).1; (simp -implicitDefEqProofs (maxSteps := 2000000) (disch := omega) only [go_sem, simprocAttr, -List.reduceReplicate, condB_t, condB_f, upd, mkH, hk1]) <;> (try (repeat rw [if_neg (by omega)])) <;> exact hb0) (by omega) hmen ?_; simp -implicitDefEqProofs (maxSteps := 2000000) (disch := omega) only [go_sem, simprocAttr, -List.reduceReplicate, condB_t, condB_f, AllP, AVle_same, AVle_int, AVle_nil, AVle_row, topU_int, topU_bool, topU_sl, topU_row, topU_ptr, topU_iptr, topU_fn, val, List.drop_length, e])⟩
    · obtain rfl : i = S.length := by omega
      simp -implicitDefEqProofs (maxSteps := 2000000) (disch := omega) only [go_sem, simprocAttr, -List.reduceReplicate, condB_t, condB_f]
      rw [List.take_of_length_le (Nat.le_refl _)]
      refine .val (.leaf (Thaw.plain (rows := (ixL S).map intC) (by simp [locH, upd, mkH]; omega) (by simp [ixL]) (by omega) (List.take_of_length_le (by simp [ixL])) (mapP _)))
theorem cmpR_zero {a b : Rat} : cmpR a b = 0 ↔ a = b := by
  unfold cmpR
  constructor
  · intro h
    split at h
    · omega
    · split at h
      · assumption
      · omega
  · rintro rfl
    rw [if_neg (by grind), if_pos rfl]
theorem sameE_spec (e g : Ent) (k : Nat) (he : e.2.Ok k) (hg : g.2.Ok k) (hk1 : 1 ≤ k) (hk : k ≤ 500000000000) : PDet Try.prog 86 [.agg (entC e), .agg (entC g)] (.bool (decide (e.1 = g.1 ∧ e.2.val = g.2.val))) := by
  refine pdet_of E0ok mixed Try.func86 (by kernel_rfl) rfl (by kernel_rfl) (Nat.le_of_ble_eq_true rfl) fun N0 h hn hmen => ?_
  have c := rcompare_spec e.2 g.2 k k he hg hk1 hk1 (by omega)
  unfold entC
  unfold Raw.cells nl at c
  by_cases h1 : e.1 = g.1
  · by_cases h2 : e.2.val = g.2.val
    · rw [cmpR_zero.2 h2] at c
      rw [decide_eq_true ⟨h1, h2⟩]
      simp -implicitDefEqProofs (maxSteps := 2000000) (disch := omega) only [go_sem, simprocAttr, -List.reduceReplicate, condB_t, condB_f]
      refine callK_pure c ?_
      simp -implicitDefEqProofs (maxSteps := 2000000) (disch := omega) only [go_sem, simprocAttr, -List.reduceReplicate, condB_t, condB_f]
      exact dn
    · have h3 : cmpR e.2.val g.2.val ≠ 0 := fun h => h2 (cmpR_zero.1 h)
      rw [decide_eq_false fun h => h2 h.2]
      simp -implicitDefEqProofs (maxSteps := 2000000) (disch := omega) only [go_sem, simprocAttr, -List.reduceReplicate, condB_t, condB_f]
      refine callK_pure c ?_
      simp -implicitDefEqProofs (maxSteps := 2000000) (disch := omega) only [go_sem, simprocAttr, -List.reduceReplicate, condB_t, condB_f]
      exact dn
  · rw [decide_eq_false fun h => h1 h.1]
    simp -implicitDefEqProofs (maxSteps := 2000000) (disch := omega) only [go_sem, simprocAttr, -List.reduceReplicate, condB_t, condB_f]
    exact dn
theorem eV_getD {l : List Ent} {i : Nat} (h : i < l.length) : (eV l).getD i default = ((l.getD i default).1, (l.getD i default).2.val) := by
  unfold eV
  rw [List.getD_eq_getElem?_getD, List.getElem?_map, List.getD_eq_getElem?_getD, List.getElem?_eq_getElem h]; rfl
theorem equalFunc_spec (S T : List Ent) (k : Nat) (hS : OkL S k) (hT : OkL T k) (hk1 : 1 ≤ k) (hk : k ≤ 500000000000) (lS : S.length ≤ 1099511627776) (lT : T.length ≤ 1099511627776) :
    PDet Try.prog 85 [EL S, EL T, .fn 86] (.bool (decide (eV S = eV T))) := by
  refine pdet_of E0ok mixed Try.func85 (by kernel_rfl) rfl (by kernel_rfl) (Nat.le_of_ble_eq_true rfl) fun N0 h hn hmen => ?_
  have l1 := eV_len S
  have l2 := eV_len T
  unfold EL
  by_cases hl : S.length = T.length
  · simp -implicitDefEqProofs (maxSteps := 2000000) (disch := omega) only [go_sem, simprocAttr, -List.reduceReplicate, condB_t, condB_f]
    refine aw_loop (X := Nat) (fun i => ⟨mkS [(1, .sl 4 (T.map entC)), (2, .fn 86), (15, .sl 4 (S.map entC)), (16, .int .i64 S.length), (17, .int .i64 i)], h, N0⟩) (fun i => i ≤ S.length ∧ (eV S).take i = (eV T).take i) (fun i => S.length - i) ⟨0, ⟨Nat.zero_le _, rfl⟩, ?_⟩ ?_
    · (refine Weak.slots (allP ?_) (fun k0 b0 hb0 => by first | exact hb0 | (have hk1 := (hmen k0 b0 hb0).1; simp only [upd, mkH]; (repeat rw [if_neg (by omega)]); exact hb0)) (by omega) hmen; simp -implicitDefEqProofs (maxSteps := 2000000) (disch := omega) only [go_sem, simprocAttr, -List.reduceReplicate, condB_t, condB_f, AllP, AVle_same, AVle_int, AVle_nil, AVle_row, topU_int, topU_bool, topU_sl, topU_row, topU_ptr, topU_iptr, topU_fn, val, List.drop_length])
    · rintro i ⟨hi, ht⟩
      by_cases h0 : i < S.length
      · have hst := take_eq_step (x := eV S) (y := eV T) (i := i) (by omega) (by omega) ht
        have g1 := eV_getD h0
        have g2 := eV_getD (l := T) (i := i) (by omega)
        have hx := hS.get h0
        have hy := hT.get (i := i) (by omega)
        have hno : (eV S).getD i default ≠ (eV T).getD i default → eV S ≠ eV T := fun hn e => hn (by rw [e])
        rw [g1, g2] at hst hno
        have c := sameE_spec _ _ k hx hy hk1 hk
        unfold entC at c
        simp -implicitDefEqProofs (maxSteps := 2000000) (disch := omega) only [go_sem, simprocAttr, -List.reduceReplicate, condB_t, condB_f]
        refine callK_pure c ?_
        by_cases h1 : (S.getD i default).1 = (T.getD i default).1 ∧ (S.getD i default).2.val = (T.getD i default).2.val
        · have hyes := hst.2 (Prod.ext h1.1 h1.2)
          rw [decide_eq_true h1]
          simp -implicitDefEqProofs (maxSteps := 2000000) (disch := omega) only [go_sem, simprocAttr, -List.reduceReplicate, condB_t, condB_f]
          exact ⟨i + 1, ⟨h0, hyes⟩, by omega, by (refine Weak.slots (allP ?_) (fun k0 b0 hb0 => by first | exact hb0 | (have hk1 := (hmen k0 b0 hb0).1; simp only [upd, mkH]; (repeat rw [if_neg (by omega)]); exact hb0)) (by omega) hmen; simp -implicitDefEqProofs (maxSteps := 2000000) (disch := omega) only [go_sem, simprocAttr, -List.reduceReplicate, condB_t, condB_f, AllP, AVle_same, AVle_int, AVle_nil, AVle_row, topU_int, topU_bool, topU_sl, topU_row, topU_ptr, topU_iptr, topU_fn, val, List.drop_length])⟩
        · have hne := hno fun e => h1 ⟨(Prod.mk.inj e).1, (Prod.mk.inj e).2⟩
          rw [decide_eq_false h1, decide_eq_false hne]
          simp -implicitDefEqProofs (maxSteps := 2000000) (disch := omega) only [go_sem, simprocAttr, -List.reduceReplicate, condB_t, condB_f]
          exact dn
      · obtain rfl : i = S.length := by omega
        rw [List.take_of_length_le (by omega), List.take_of_length_le (by omega)] at ht
        rw [decide_eq_true ht]
        simp -implicitDefEqProofs (maxSteps := 2000000) (disch := omega) only [go_sem, simprocAttr, -List.reduceReplicate, condB_t, condB_f]
        exact dn
  · rw [decide_eq_false (fun e => hl (by rw [← l1, ← l2, e]))]
    simp -implicitDefEqProofs (maxSteps := 2000000) (disch := omega) only [go_sem, simprocAttr, -List.reduceReplicate, condB_t, condB_f]
    exact dn
theorem vequal_spec (a b : List Ent) (k K : Nat) (ha : OkL a k) (hb : OkL b k) (hk1 : 1 ≤ k) (la : a.length ≤ 40) (lb : b.length ≤ 40) (bK : k + 40 * (k + 1) ≤ K) (hK : K ≤ 100000000000) :
    PDet Try.prog 46 [EL a, EL b] (.bool (decide (vcan (eV a) = vcan (eV b)))) := by
  refine pdet_of E0ok mixed Try.func46 (by kernel_rfl) rfl (by kernel_rfl) (Nat.le_of_ble_eq_true rfl) fun N0 h hn hmen => ?_
  have m1 : a.length * (k + 1) ≤ 40 * (k + 1) := Nat.mul_le_mul_right _ la
  have m2 : b.length * (k + 1) ≤ 40 * (k + 1) := Nat.mul_le_mul_right _ lb
  have c1 := sorted_spec a k ha hk1 la (by omega)
  have c2 := sorted_spec b k hb hk1 lb (by omega)
  have l1 := srt_len a
  have l2 := srt_len b
  have c3 := equalFunc_spec (srt a) (srt b) K ((srt_ok hk1 ha).mono (by omega)) ((srt_ok hk1 hb).mono (by omega)) (by omega) (by omega) (by omega) (by omega)
  rw [srt_val, srt_val] at c3
  unfold EL at *
  simp -implicitDefEqProofs (maxSteps := 2000000) (disch := omega) only [go_sem, simprocAttr, -List.reduceReplicate, condB_t, condB_f]
  refine callK_pure c1 ?_
  simp -implicitDefEqProofs (maxSteps := 2000000) (disch := omega) only [go_sem, simprocAttr, -List.reduceReplicate, condB_t, condB_f]
  refine callK_pure c2 ?_
  simp -implicitDefEqProofs (maxSteps := 2000000) (disch := omega) only [go_sem, simprocAttr, -List.reduceReplicate, condB_t, condB_f]
  refine callK_pure c3 ?_
  simp -implicitDefEqProofs (maxSteps := 2000000) (disch := omega) only [go_sem, simprocAttr, -List.reduceReplicate, condB_t, condB_f]
  exact dn
theorem hequal_spec (a b : List Int) (la : a.length ≤ 1099511627776) (lb : b.length ≤ 1099511627776) : PDet Try.prog 47 [IL a, IL b] (.bool (decide (a = b))) := by
  refine pdet_of E0ok mixed Try.func47 (by kernel_rfl) rfl (by kernel_rfl) (Nat.le_of_ble_eq_true rfl) fun N0 h hn hmen => ?_
  unfold IL
  by_cases hl : a.length = b.length
  · simp -implicitDefEqProofs (maxSteps := 2000000) (disch := omega) only [go_sem, simprocAttr, -List.reduceReplicate, condB_t, condB_f]
    refine aw_loop (X := Nat) (fun i => ⟨mkS [(0, .sl 1 (a.map intC)), (1, .sl 1 (b.map intC)), (5, .int .i64 i)], h, N0⟩) (fun i => i ≤ a.length ∧ a.take i = b.take i) (fun i => a.length - i) ⟨0, ⟨Nat.zero_le _, rfl⟩, ?_⟩ ?_
    · (refine Weak.slots (allP ?_) (fun k0 b0 hb0 => by first | exact hb0 | (have hk1 := (hmen k0 b0 hb0).1; simp only [upd, mkH]; (repeat rw [if_neg (by omega)]); exact hb0)) (by omega) hmen; simp -implicitDefEqProofs (maxSteps := 2000000) (disch := omega) only [go_sem, simprocAttr, -List.reduceReplicate, condB_t, condB_f, AllP, AVle_same, AVle_int, AVle_nil, AVle_row, topU_int, topU_bool, topU_sl, topU_row, topU_ptr, topU_iptr, topU_fn, val, List.drop_length])
    · rintro i ⟨hi, ht⟩
      by_cases h0 : i < a.length
      · have hst := take_eq_step h0 hl ht
        have hno : a.getD i default ≠ b.getD i default → a ≠ b := fun hn e => hn (by rw [e])
        by_cases h1 : a.getD i default = b.getD i default
        · have hyes := hst.2 h1
          have h1 : a.getD i 0 = b.getD i 0 := h1
          simp -implicitDefEqProofs (maxSteps := 2000000) (disch := omega) only [go_sem, simprocAttr, -List.reduceReplicate, condB_t, condB_f]
          exact ⟨i + 1, ⟨h0, hyes⟩, by omega, by (refine Weak.slots (allP ?_) (fun k0 b0 hb0 => by first | exact hb0 | (have hk1 := (hmen k0 b0 hb0).1; simp only [upd, mkH]; (repeat rw [if_neg (by omega)]); exact hb0)) (by omega) hmen; simp -implicitDefEqProofs (maxSteps := 2000000) (disch := omega) only [go_sem, simprocAttr, -List.reduceReplicate, condB_t, condB_f, AllP, AVle_same, AVle_int, AVle_nil, AVle_row, topU_int, topU_bool, topU_sl, topU_row, topU_ptr, topU_iptr, topU_fn, val, List.drop_length])⟩
        · rw [decide_eq_false (hno h1)]
          have h1 : ¬ a.getD i 0 = b.getD i 0 := h1
          simp -implicitDefEqProofs (maxSteps := 2000000) (disch := omega) only [go_sem, simprocAttr, -List.reduceReplicate, condB_t, condB_f]
          exact dn
      · obtain rfl : i = a.length := by omega
        rw [List.take_of_length_le (Nat.le_refl _), List.take_of_length_le (by omega)] at ht
        rw [decide_eq_true ht]
        simp -implicitDefEqProofs (maxSteps := 2000000) (disch := omega) only [go_sem, simprocAttr, -List.reduceReplicate, condB_t, condB_f]
        exact dn
  · rw [decide_eq_false (fun e => hl (by rw [e]))]
    simp -implicitDefEqProofs (maxSteps := 2000000) (disch := omega) only [go_sem, simprocAttr, -List.reduceReplicate, condB_t, condB_f]
    exact dn
end Go.Abs
/-! YtbLaw7: VectorSpace returns true for vectors whose numbers have at most 1100000 limbs. -/
set_option linter.unusedVariables false
set_option linter.unusedSimpArgs false
set_option maxRecDepth 100000
set_option maxHeartbeats 1000000
namespace Go.Abs
open Go.Proofs
@[go_sem] theorem R9 : Try.f9.results.toList = [.tmp 6] := rfl
theorem vcan_idx (u : Vec) : ∀ e ∈ vcan u, ∃ x ∈ u, x.1 = e.1 := fun e he => by
  have hc := vcan_can u
  have h1 := can_mem_get hc e he
  rw [vcan_get] at h1
  by_cases hx : ∃ x ∈ u, x.1 = e.1
  · exact hx
  · exact absurd (by rw [← h1]; exact vget_out fun x hx' e1 => hx ⟨x, hx', e1⟩) (hc.nz e he)
theorem vcan_sz {u : Vec} {k n : Nat} (h : ∀ e ∈ u, Sz e.2 k) (hn : u.length ≤ n) : ∀ e ∈ vcan u, Sz e.2 (1 + n * (k + 1)) := fun e he => by
  have h1 := can_mem_get (vcan_can u) e he
  rw [vcan_get] at h1
  rw [← h1]
  exact (vget_sz h e.1).mono (Nat.add_le_add_left (Nat.mul_le_mul_right _ hn) _)
theorem can_rng_len : ∀ {v : Vec} {n : Nat} {lo : Int}, Can v → (∀ e ∈ v, lo ≤ e.1 ∧ e.1 < lo + n) → v.length ≤ n
  | [], _, _, _, _ => Nat.zero_le _
  | e :: v, 0, lo, _, h => by have := h e (List.mem_cons_self ..); omega
  | e :: v, n + 1, lo, hc, h => by
    have := can_rng_len (n := n) (lo := lo + 1) hc.tail fun x hx => by
      have h1 := hc.lt x hx
      have h2 := h e (List.mem_cons_self ..)
      have h3 := h x (List.mem_cons_of_mem _ hx)
      omega
    rw [List.length_cons]; omega
def Rg (v : Vec) : Prop := ∀ e ∈ v, -1 ≤ e.1 ∧ e.1 < 8
theorem Rg.vcan {v : Vec} (h : Rg v) : Rg (vcan v) := fun e he => by
  obtain ⟨x, hx, e1⟩ := vcan_idx v e he
  rw [← e1]; exact h x hx
theorem Rg.len {v : Vec} (h : Rg v) : (Abs.vcan v).length ≤ 9 := can_rng_len (lo := -1) (vcan_can v) fun e he => by have := h.vcan e he; omega
theorem Rg.app {v w : Vec} (h : Rg v) (k : Rg w) : Rg (v ++ w) := fun e he => (List.mem_append.1 he).elim (h e) (k e)
theorem Rg.smul {v : Vec} (h : Rg v) (f : Rat) : Rg (smul f v) := fun e he => by
  obtain ⟨x, hx, rfl⟩ := List.mem_map.1 he
  exact h x hx
theorem shL_rg (l : List Ent) : Rg (eV (shL l)) := fun e he => by
  obtain ⟨x, hx, rfl⟩ := List.mem_map.1 he
  obtain ⟨y, hy, rfl⟩ := List.mem_map.1 hx
  unfold shE
  simp only
  omega
theorem shL_ok {l : List Ent} {k : Nat} (h : OkL l k) : OkL (shL l) k := fun e he => by
  obtain ⟨x, hx, rfl⟩ := List.mem_map.1 he
  exact h x (List.mem_of_mem_take hx)
theorem shL_le (l : List Ent) : (shL l).length ≤ 40 := by rw [shL_len]; omega
/-- A sum's entries are counted and bounded. -/
theorem vadd_ok {u : Vec} {k n : Nat} (h : ∀ e ∈ u, Sz e.2 k) (hn : u.length ≤ n) : OkL (cE (vcan u)) (1 + n * (k + 1)) := cE_ok (vcan_sz h hn)
theorem app_sz {u w : Vec} {k : Nat} (h : ∀ e ∈ u, Sz e.2 k) (g : ∀ e ∈ w, Sz e.2 k) : ∀ e ∈ u ++ w, Sz e.2 k := fun e he => (List.mem_append.1 he).elim (h e) (g e)
theorem space_spec (a b c : List Ent) (k : Nat) (ha : OkL a k) (hb : OkL b k) (hc : OkL c k) (hk1 : 1 ≤ k) (hk : k ≤ 1100000) (hla : a.length ≤ 1099511627776) (hlb : b.length ≤ 1099511627776) (hlc : c.length ≤ 1099511627776) :
    PDet Try.prog 9 [EL a, EL b, EL c] (.bool true) := by
  refine pdet_of E0ok mixed Try.func9 (by kernel_rfl) rfl (by kernel_rfl) (Nat.le_of_ble_eq_true rfl) fun N0 h hn hmen => ?_
  have s1 := lshort_spec a hla
  have s2 := lshort_spec b hlb
  have s3 := lshort_spec c hlc
  have aw0 := awake_spec
  have oa := shL_ok ha
  have ob := shL_ok hb
  have oc := shL_ok hc
  have la := shL_le a
  have lb := shL_le b
  have lc := shL_le c
  have ra := shL_rg a
  have rb := shL_rg b
  have rc := shL_rg c
  generalize shL a = A at *
  generalize shL b = B at *
  generalize shL c = C at *
  have za := eV_sz oa hk1
  have zb := eV_sz ob hk1
  have zc := eV_sz oc hk1
  have na : (eV A).length ≤ 40 := by rw [eV_len]; exact la
  have nb : (eV B).length ≤ 40 := by rw [eV_len]; exact lb
  have nc : (eV C).length ≤ 40 := by rw [eV_len]; exact lc
  obtain ⟨k2, hk2⟩ : ∃ k2, k2 = 1 + 80 * (k + 1) := ⟨_, rfl⟩
  have ab := vadd_ok (app_sz za zb) (n := 80) (by rw [List.length_append]; omega)
  have bc := vadd_ok (app_sz zb zc) (n := 80) (by rw [List.length_append]; omega)
  rw [← hk2] at ab bc
  have lab : (cE (vcan (eV A ++ eV B))).length ≤ 40 := by rw [cE_len]; have := (ra.app rb).len; omega
  have lbc : (cE (vcan (eV B ++ eV C))).length ≤ 40 := by rw [cE_len]; have := (rb.app rc).len; omega
  have d1 := vadd_spec A B k 100000000000 oa ob hk1 la lb (by omega) (by omega)
  have d2 := vadd_spec (cE (vcan (eV A ++ eV B))) C k2 100000000000 ab (oc.mono (by omega)) (by omega) lab lc (by omega) (by omega)
  have d3 := vadd_spec B C k 100000000000 ob oc hk1 lb lc (by omega) (by omega)
  have d4 := vadd_spec A (cE (vcan (eV B ++ eV C))) k2 100000000000 (oa.mono (by omega)) bc (by omega) la lbc (by omega) (by omega)
  have d5 := vadd_spec B A k 100000000000 ob oa hk1 lb la (by omega) (by omega)
  have e1 : vcan (eV (cE (vcan (eV A ++ eV B))) ++ eV C) = vcan (eV A ++ eV B ++ eV C) := by
    rw [eV_cE]; exact vcan_congr fun i => by rw [vget_append, vget_append (v := eV A ++ eV B), vcan_get]
  have e2 : vcan (eV A ++ eV (cE (vcan (eV B ++ eV C)))) = vcan (eV A ++ eV B ++ eV C) := by
    rw [eV_cE]; exact vcan_congr fun i => by rw [vget_append, vget_append (v := eV A ++ eV B), vcan_get, vget_append, vget_append]; grind
  have e3 : vcan (eV B ++ eV A) = vcan (eV A ++ eV B) := vcan_congr fun i => by rw [vget_append, vget_append]; grind
  rw [e1] at d2
  rw [e2] at d4
  rw [e3] at d5
  have zabc := vcan_sz (app_sz (app_sz za zb) zc) (n := 120) (by simp only [List.length_append]; omega)
  have zab := vcan_sz (app_sz za zb) (n := 80) (by rw [List.length_append]; omega)
  have nabc := ((ra.app rb).app rc).len
  have nab := (ra.app rb).len
  have i1 := identical_spec _ _ _ _ zabc zabc (by omega) (by omega) (by omega) (by omega)
  have i2 := identical_spec _ _ _ _ zab zab (by omega) (by omega) (by omega) (by omega)
  rw [decide_eq_true rfl] at i1 i2
  have f1 := r3fromInt_spec (-1) (by decide) (by decide)
  have q1 : (((-1 : Int) : Rat)) = -1 := rfl
  rw [q1] at f1
  have zm : Sz (-1 : Rat) 1 := ⟨by unfold Fit; decide, by unfold Fit; decide⟩
  have f2 := addScaled_spec A A (canon (-1)) k 100000000000 oa oa ((canon_ok zm).mono hk1) hk1 la la (by omega) (by omega)
  have e4 : vcan (eV A ++ smul (-1) (eV A)) = [] := vcan_nil.2 fun i => by rw [vget_append, smul_get]; grind
  rw [canon_val, e4] at f2
  clear e1 e2 e3 e4 zabc zab ra rb rc za zb zc oa ob oc ab bc zm
  have n0 : cE ([] : Vec) = [] := rfl
  rw [n0] at f2
  generalize cE (vcan (eV A ++ eV B ++ eV C)) = ABC at *
  generalize cE (vcan (eV A ++ eV B)) = AB at *
  generalize cE (vcan (eV B ++ eV C)) = BC at *
  unfold EL rC Raw.cells nl at *
  simp -implicitDefEqProofs (maxSteps := 2000000) (disch := omega) only [go_sem, simprocAttr, -List.reduceReplicate, condB_t, condB_f]
  refine callK_pure s1 ?_
  simp -implicitDefEqProofs (maxSteps := 2000000) (disch := omega) only [go_sem, simprocAttr, -List.reduceReplicate, condB_t, condB_f]
  refine callK_pure s2 ?_
  simp -implicitDefEqProofs (maxSteps := 2000000) (disch := omega) only [go_sem, simprocAttr, -List.reduceReplicate, condB_t, condB_f]
  refine callK_pure s3 ?_
  simp -implicitDefEqProofs (maxSteps := 2000000) (disch := omega) only [go_sem, simprocAttr, -List.reduceReplicate, condB_t, condB_f]
  refine callK_pure aw0 ?_
  simp -implicitDefEqProofs (maxSteps := 2000000) (disch := omega) only [go_sem, simprocAttr, -List.reduceReplicate, condB_t, condB_f]
  refine callK_pure d1 ?_
  simp -implicitDefEqProofs (maxSteps := 2000000) (disch := omega) only [go_sem, simprocAttr, -List.reduceReplicate, condB_t, condB_f]
  refine callK_pure d2 ?_
  simp -implicitDefEqProofs (maxSteps := 2000000) (disch := omega) only [go_sem, simprocAttr, -List.reduceReplicate, condB_t, condB_f]
  refine callK_pure d3 ?_
  simp -implicitDefEqProofs (maxSteps := 2000000) (disch := omega) only [go_sem, simprocAttr, -List.reduceReplicate, condB_t, condB_f]
  refine callK_pure d4 ?_
  simp -implicitDefEqProofs (maxSteps := 2000000) (disch := omega) only [go_sem, simprocAttr, -List.reduceReplicate, condB_t, condB_f]
  refine callK_pure i1 ?_
  simp -implicitDefEqProofs (maxSteps := 2000000) (disch := omega) only [go_sem, simprocAttr, -List.reduceReplicate, condB_t, condB_f]
  refine callK_pure d1 ?_
  simp -implicitDefEqProofs (maxSteps := 2000000) (disch := omega) only [go_sem, simprocAttr, -List.reduceReplicate, condB_t, condB_f]
  refine callK_pure d5 ?_
  simp -implicitDefEqProofs (maxSteps := 2000000) (disch := omega) only [go_sem, simprocAttr, -List.reduceReplicate, condB_t, condB_f]
  refine callK_pure i2 ?_
  simp -implicitDefEqProofs (maxSteps := 2000000) (disch := omega) only [go_sem, simprocAttr, -List.reduceReplicate, condB_t, condB_f]
  refine callK_pure f1 ?_
  simp -implicitDefEqProofs (maxSteps := 2000000) (disch := omega) only [go_sem, simprocAttr, -List.reduceReplicate, condB_t, condB_f]
  refine callK_pure f2 ?_
  simp -implicitDefEqProofs (maxSteps := 2000000) (disch := omega) only [go_sem, simprocAttr, -List.reduceReplicate, condB_t, condB_f]
  exact dn
end Go.Abs
