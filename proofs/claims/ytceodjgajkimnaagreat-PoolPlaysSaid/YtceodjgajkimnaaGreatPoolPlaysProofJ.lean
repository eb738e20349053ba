/- Proved here: PoolPlays returns true for every input, and its arguments read as before. Conditions: none. -/
import Derived.Test.YtceodjgajkimnaaGreatNN
import Derived.Test.YtceodjgajkimnaaGreatMW
import Derived.Test.YtceodjgajkimnaaGreatRows
import Derived.WalkKit
import Derived.ProofKit
import Derived.OpenShut
import Derived.Carry
import Derived.Lib.SmallJoins
set_option linter.unusedVariables false

namespace Go.Proofs.YtceodjgajkimnaaGreat.poolPlays
open Go.ChangeShapes Go.WideShapes Go.ChangeAt Go.RowKit Go.Vk
set_option linter.unusedVariables false

theorem laidOut : laidOutB Tryz.prog = true := by kernel_rfl
theorem own : ownKnob Tryz.prog.godebug = none := by kernel_rfl

set_option maxRecDepth 100000 in
theorem lifted (os : Os) (started : os.Started) (H : Type) (enc : TypeId × Value → H) :
    ReturnsInHanded {} Tryz.checked os 12 .any (Rows.poolPlaysSpec.pre6 enc Tryz.prog Tryz.f12 Rows.poolPlaysRow.domain false) (Rows.poolPlaysSpec.post enc Tryz.prog Tryz.f12 false true false false) := by
  refine returnsInHanded_of_change (C := Tryz.checked) own started (by kernel_rfl) Tryz.func12
    (ChangeSpec.witness6 (enc := enc) (C := Tryz.checked) false ⟨#[], #[.agg #[.int .i64 0, .int .i64 0, .int .i64 0], .agg #[.int .i64 0, .int .i64 0, .int .i64 0], .slice none 0 0], []⟩ 8 (by kernel_rfl) (by kernel_rfl) (by kernel_rfl) (by kernel_rfl)) ?_
  intro W base args ds gs before hval0 hW hcnd _
  have hval : ∀ (j : Nat) t v, Tryz.f12.params[j]? = some t → args[j]? = some v → Value.okWide Tryz.prog W .any base t v := hval0
  have hW' := hW
  obtain ⟨p, q, hA0, hV, rfl, hfz, hnd⟩ := hW
  have hA : DataW.TrodAll enc Tryz.prog W 0 (fun _ => true) true Tryz.f12.params.toList args.toList ds p := hA0
  rw [Tryz.params12] at hA hval
  obtain ⟨v0, v1, v2, d0, d1, d2, p0, p1, p2, rfl, rfl, rfl, h0, h1, h2⟩ := trodAll_three hA
  obtain ⟨rfl, rfl⟩ := trodVars_none hV
  clear hA0 hval0
  simp only [List.append_nil, List.append_assoc] at hW'
  have hlt : ∀ x ∈ p0 ++ (p1 ++ p2), x.block < W.heap.size := fun x hx => by simpa using hW'.lt x hx
  obtain ⟨x0, x1, x2, y0, y1, y2, n, e0, _, _, t0, t1, t2⟩ := Go.Joins.open_agg3 Tryz.underlying23 (by kernel_rfl) (by kernel_rfl) (hval 0 _ v0 rfl rfl) h0
  obtain ⟨a, ha, _⟩ := DataW.trod_int Tryz.underlying3 t0
  obtain ⟨b, hb, _⟩ := DataW.trod_int Tryz.underlying3 t1
  obtain ⟨c, hc, _⟩ := DataW.trod_int Tryz.underlying3 t2
  obtain ⟨x0', x1', x2', y0', y1', y2', n', e1, _, _, t0', t1', t2'⟩ := Go.Joins.open_agg3 Tryz.underlying23 (by kernel_rfl) (by kernel_rfl) (hval 1 _ v1 rfl rfl) h1
  obtain ⟨a', ha', _⟩ := DataW.trod_int Tryz.underlying3 t0'
  obtain ⟨b', hb', _⟩ := DataW.trod_int Tryz.underlying3 t1'
  obtain ⟨c', hc', _⟩ := DataW.trod_int Tryz.underlying3 t2'
  obtain ⟨ss, hss⟩ := open_steps (hval 2 _ v2 rfl rfl) h2
  simp only [List.cons.injEq, and_true] at ha hb hc ha' hb' hc'
  subst ha hb hc e0 ha' hb' hc' e1
  refine (poolPlays_w W a b c a' b' c' v2 ss hss).mono fun e W' ⟨he, hk⟩ => ?_
  subst he
  have hB := keeps_below hk
  have r0 := Below.trod laidOut (by kernel_rfl) (of_decide_eq_true (by kernel_rfl)) h0 hB (fun x hx => hlt x (List.mem_append_left _ hx))
  have r1 := Below.trod laidOut (by kernel_rfl) (of_decide_eq_true (by kernel_rfl)) h1 hB (fun x hx => hlt x (List.mem_append_right _ (List.mem_append_left _ hx)))
  have r2 := Below.trod laidOut (by kernel_rfl) (of_decide_eq_true (by kernel_rfl)) h2 hB (fun x hx => hlt x (List.mem_append_right _ (List.mem_append_right _ hx)))
  exact ⟨_, rfl, ⟨_, _, _, [], _, [], hW', trodAll_mk1 (shut_bool Tryz.underlying4 _), trodAll_mk3 r0 r1 r2, rfl, hB.frame _, fun h => by cases h⟩⟩

theorem over : Rows.poolPlaysRow.holds Tryz.pinned (OpenSpec.ofChange Rows.poolPlaysSpec) :=
  OpenClaim.holds_of_wide 12 Tryz.f12 rfl rfl rfl rfl rfl rfl rfl ⟨rfl, rfl, rfl, rfl, rfl⟩ rfl rfl rfl rfl rfl (by kernel_rfl) Tryz.func12 (by kernel_rfl)
    (of_decide_eq_true (by kernel_rfl)) (by unfold Func.isWrapper; first | (rw [if_pos (by decide +kernel)]; kernel_rfl) | (rw [if_neg (by decide +kernel)]; exact ⟨rfl, rfl⟩))
    (fun os started H enc _ => lifted os started H enc)

/-- The given statement. -/
theorem proved : Rows.PoolPlaysSaid :=
  over
#print axioms proved
end Go.Proofs.YtceodjgajkimnaaGreat.poolPlays
