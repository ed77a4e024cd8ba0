/- VectorDense returns true, whatever it reads, where the bulk of that is at most 1048576. No further condition. -/
import Derived.Test.YtbeajnfghfgmnaaGreatTE
/-! YtzFinVectorDense: VectorDense returns true, whatever it reads, where the bulk of that is at most 1048576. No further condition. -/
set_option linter.unusedVariables false
set_option linter.unusedSimpArgs false
set_option maxRecDepth 100000
set_option maxHeartbeats 1000000
namespace Go.Abs
open Go.Proofs
open Go.Proofs.YtbeajnfghfgmnaaGreat Go.RowKit Go.ChangeShapes Go.WideShapes
theorem vectorDense_contract (H : Type) (enc : TypeId × Value → H) (W : World) (base : Nat) (args : Array Value) (ds gs : List (DataW H)) (before : List MemPlace)
    (hval : ∀ (j : Nat) t v, Tryz.f4.params[j]? = some t → args[j]? = some v → Value.okWide Tryz.prog W .any base t v)
    (hW : DataW.Whole enc Tryz.prog Tryz.f4.params.toList Rows.vectorDenseSpec.vars false W args.toList ds gs before) (hk : Rows.uptoSmall H (ds ++ gs) = true) :
    Calls Tryz.prog 4 args W fun e W' => ∃ v, e = .returned v ∧ Rows.vectorDenseSpec.post enc Tryz.prog Tryz.f4 false true false false W args v W' := by
  have hW' := hW
  obtain ⟨p, q, hA0, hV, rfl, hfz, hnd⟩ := hW
  have hp : Tryz.f4.params = #[36, 22, 3, 5] := rfl
  have hA : DataW.TrodAll enc Tryz.prog W 0 (fun _ => true) true [36, 22, 3, 5] args.toList ds p := hA0
  obtain ⟨v0, vs0, d0, ds0, p0, q0, hargs, rfl, rfl, h0, r0⟩ := trodAll_cons hA
  obtain ⟨v1, vs1, d1, ds1, p1, q1, rfl, rfl, rfl, h1, r1⟩ := trodAll_cons r0
  obtain ⟨v2, vs2, d2, ds2, p2, q2, rfl, rfl, rfl, h2, r2⟩ := trodAll_cons r1
  obtain ⟨v3, vs3, d3, ds3, p3, q3, rfl, rfl, rfl, h3, r3⟩ := trodAll_cons r2
  obtain ⟨rfl, rfl, rfl⟩ := trodAll_nil r3
  obtain rfl : args = #[v0, v1, v2, v3] := by cases args; simp_all
  obtain ⟨rfl, rfl⟩ := trodVars_none hV
  obtain ⟨a0, x0, u0, o0, l0⟩ := arg57 h0 (hval 0 36 v0 (by rw [hp]; rfl) rfl)
  obtain ⟨a1, x1, u1, o1, l1⟩ := arg45 h1 (hval 1 22 v1 (by rw [hp]; rfl) rfl)
  obtain ⟨a2, x2, u2, o2⟩ := arg3 h2 (hval 2 3 v2 (by rw [hp]; rfl) rfl)
  obtain ⟨a3, x3, u3, o3⟩ := arg12 h3 (hval 3 5 v3 (by rw [hp]; rfl) rfl)
  have hb : Rows.uptoBulkAll ([d0, d1, d2, d3] ++ []) ≤ 1048576 := of_decide_eq_true hk
  simp only [List.append_nil, bulk_cons, Rows.uptoBulkAll] at hb
  have main := vdlaw_spec a0 a1 a2 a3 1048576 (fun e he => (o0 e he).mono (by omega)) (fun e he => (o1 e he).mono (by omega)) (by omega) (by omega) (by omega) (by omega) o2.1 o2.2 o3
  refine (law_calls (W := W) (vs := #[v0, v1, v2, v3]) main rfl fun i hi => ?_).mono fun e W' ⟨he, hg⟩ => ⟨_, he, ?_⟩
  · match i, hi with
    | 0, _ => exact ⟨x0, u0⟩
    | 1, _ => exact ⟨x1, u1⟩
    | 2, _ => exact ⟨x2, u2⟩
    | 3, _ => exact ⟨x3, u3⟩
  · exact post_below (tb := 4) laidOut0 (by rw [hp]; intro t ht; simp only [List.mem_cons, List.not_mem_nil, or_false] at ht; rcases ht with rfl | rfl | rfl | rfl <;> first | exact read57 | exact read45 | exact read3 | exact read12) rfl hW' rfl rfl rfl rfl u4 hg
end Go.Abs
namespace Go.Proofs.YtbeajnfghfgmnaaGreat
open Go.RowKit Go.ChangeShapes Go.WideShapes
theorem vectorDense_lifted (os : Os) (started : os.Started) (H : Type) (enc : TypeId × Value → H) (F : Stop.Interp) :
    ReturnsInHanded {} Tryz.checked os 4 .any ((Rows.OpenSpec.upto Rows.vectorDenseSpec).pre6 enc Tryz.prog Tryz.f4 Rows.vectorDenseUptoRow.domain false) (((Rows.OpenSpec.upto Rows.vectorDenseSpec).at F).post enc Tryz.prog Tryz.f4 false true false false) := by
  refine returnsInHanded_of_cond (C := Tryz.checked) (s := Rows.OpenSpec.upto Rows.vectorDenseSpec) (k := Rows.uptoSmall) rfl Go.Abs.own0 started (by kernel_rfl) Tryz.func4
    (OpenSpec.witness (enc := enc) (C := Tryz.checked) (s := Rows.OpenSpec.upto Rows.vectorDenseSpec) (k := Rows.uptoSmall) rfl false ⟨#[], #[.slice none 0 0, .slice none 0 0, .int .i64 0, .int .u8 0], []⟩ 8 (by kernel_rfl) (by kernel_rfl) (by kernel_rfl)
      (x := ([.nil, .nil, .lit (.int .i64 0), .lit (.int .u8 0)], [], [])) (by kernel_rfl) rfl (by kernel_rfl)) ?_
  intro W base args ds gs before hval hW _ hk _
  exact Go.Abs.vectorDense_contract H enc W base args ds gs before hval hW hk
/-- The law holds. -/
theorem vectorDense_holds : Rows.VectorDenseUptoSaid :=
  OpenClaim.holds_of_cond 4 Tryz.f4 rfl rfl rfl rfl rfl rfl rfl ⟨rfl, rfl, rfl, rfl, rfl⟩ rfl rfl rfl rfl rfl (by kernel_rfl) Tryz.func4 (by kernel_rfl)
    (of_decide_eq_true (by kernel_rfl)) (by unfold Func.isWrapper; first | (rw [if_pos (by decide +kernel)]; kernel_rfl) | (rw [if_neg (by decide +kernel)]; exact ⟨rfl, rfl⟩))
    (fun os started H enc _ F => vectorDense_lifted os started H enc F)
end Go.Proofs.YtbeajnfghfgmnaaGreat
namespace Go.Abs
end Go.Abs
