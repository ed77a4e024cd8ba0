/- VectorPermutes returns true, whatever it reads, where the bulk of that is at most 1048576. No further condition. -/
import Derived.Test.YtbeajnfghfgmnaaGreatTD
/-! YtzFinVectorPermutes: VectorPermutes returns true, whatever it reads, where the bulk of that is at most 1048576. No further condition. -/
set_option linter.unusedVariables false
set_option linter.unusedSimpArgs false
set_option maxRecDepth 100000
set_option maxHeartbeats 1000000
namespace Go.Abs
open Go.Proofs
open Go.Proofs.YtbeajnfghfgmnaaGreat Go.RowKit Go.ChangeShapes Go.WideShapes
theorem vectorPermutes_contract (H : Type) (enc : TypeId × Value → H) (W : World) (base : Nat) (args : Array Value) (ds gs : List (DataW H)) (before : List MemPlace)
    (hval : ∀ (j : Nat) t v, Tryz.f3.params[j]? = some t → args[j]? = some v → Value.okWide Tryz.prog W .any base t v)
    (hW : DataW.Whole enc Tryz.prog Tryz.f3.params.toList Rows.vectorPermutesSpec.vars false W args.toList ds gs before) (hk : Rows.uptoSmall H (ds ++ gs) = true) :
    Calls Tryz.prog 3 args W fun e W' => ∃ v, e = .returned v ∧ Rows.vectorPermutesSpec.post enc Tryz.prog Tryz.f3 false true false false W args v W' := by
  have hW' := hW
  obtain ⟨p, q, hA0, hV, rfl, hfz, hnd⟩ := hW
  have hp : Tryz.f3.params = #[22, 23, 23] := rfl
  have hA : DataW.TrodAll enc Tryz.prog W 0 (fun _ => true) true [22, 23, 23] args.toList ds p := hA0
  obtain ⟨v0, vs0, d0, ds0, p0, q0, hargs, rfl, rfl, h0, r0⟩ := trodAll_cons hA
  obtain ⟨v1, vs1, d1, ds1, p1, q1, rfl, rfl, rfl, h1, r1⟩ := trodAll_cons r0
  obtain ⟨v2, vs2, d2, ds2, p2, q2, rfl, rfl, rfl, h2, r2⟩ := trodAll_cons r1
  obtain ⟨rfl, rfl, rfl⟩ := trodAll_nil r2
  obtain rfl : args = #[v0, v1, v2] := by cases args; simp_all
  obtain ⟨rfl, rfl⟩ := trodVars_none hV
  obtain ⟨a0, x0, u0, o0, l0⟩ := arg45 h0 (hval 0 22 v0 (by rw [hp]; rfl) rfl)
  obtain ⟨a1, x1, u1, o1, l1⟩ := arg22 h1 (hval 1 23 v1 (by rw [hp]; rfl) rfl)
  obtain ⟨a2, x2, u2, o2, l2⟩ := arg22 h2 (hval 2 23 v2 (by rw [hp]; rfl) rfl)
  have hb : Rows.uptoBulkAll ([d0, d1, d2] ++ []) ≤ 1048576 := of_decide_eq_true hk
  simp only [List.append_nil, bulk_cons, Rows.uptoBulkAll] at hb
  have main := permutes_spec a0 a1 a2 1048576 (fun e he => (o0 e he).mono (by omega)) (by omega) (by omega) (by omega) (by omega) (by omega)
  refine (law_calls (W := W) (vs := #[v0, v1, v2]) main rfl fun i hi => ?_).mono fun e W' ⟨he, hg⟩ => ⟨_, he, ?_⟩
  · match i, hi with
    | 0, _ => exact ⟨x0, u0⟩
    | 1, _ => exact ⟨x1, u1⟩
    | 2, _ => exact ⟨x2, u2⟩
  · exact post_below (tb := 4) laidOut0 (by rw [hp]; intro t ht; simp only [List.mem_cons, List.not_mem_nil, or_false] at ht; rcases ht with rfl | rfl | rfl <;> first | exact read45 | exact read22) rfl hW' rfl rfl rfl rfl u4 hg
end Go.Abs
namespace Go.Proofs.YtbeajnfghfgmnaaGreat
open Go.RowKit Go.ChangeShapes Go.WideShapes
theorem vectorPermutes_lifted (os : Os) (started : os.Started) (H : Type) (enc : TypeId × Value → H) (F : Stop.Interp) :
    ReturnsInHanded {} Tryz.checked os 3 .any ((Rows.OpenSpec.upto Rows.vectorPermutesSpec).pre6 enc Tryz.prog Tryz.f3 Rows.vectorPermutesUptoRow.domain false) (((Rows.OpenSpec.upto Rows.vectorPermutesSpec).at F).post enc Tryz.prog Tryz.f3 false true false false) := by
  refine returnsInHanded_of_cond (C := Tryz.checked) (s := Rows.OpenSpec.upto Rows.vectorPermutesSpec) (k := Rows.uptoSmall) rfl Go.Abs.own0 started (by kernel_rfl) Tryz.func3
    (OpenSpec.witness (enc := enc) (C := Tryz.checked) (s := Rows.OpenSpec.upto Rows.vectorPermutesSpec) (k := Rows.uptoSmall) rfl false ⟨#[], #[.slice none 0 0, .slice none 0 0, .slice none 0 0], []⟩ 8 (by kernel_rfl) (by kernel_rfl) (by kernel_rfl)
      (x := ([.nil, .nil, .nil], [], [])) (by kernel_rfl) rfl (by kernel_rfl)) ?_
  intro W base args ds gs before hval hW _ hk _
  exact Go.Abs.vectorPermutes_contract H enc W base args ds gs before hval hW hk
/-- The law holds. -/
theorem vectorPermutes_holds : Rows.VectorPermutesUptoSaid :=
  OpenClaim.holds_of_cond 3 Tryz.f3 rfl rfl rfl rfl rfl rfl rfl ⟨rfl, rfl, rfl, rfl, rfl⟩ rfl rfl rfl rfl rfl (by kernel_rfl) Tryz.func3 (by kernel_rfl)
    (of_decide_eq_true (by kernel_rfl)) (by unfold Func.isWrapper; first | (rw [if_pos (by decide +kernel)]; kernel_rfl) | (rw [if_neg (by decide +kernel)]; exact ⟨rfl, rfl⟩))
    (fun os started H enc _ F => vectorPermutes_lifted os started H enc F)
end Go.Proofs.YtbeajnfghfgmnaaGreat
namespace Go.Abs
end Go.Abs
