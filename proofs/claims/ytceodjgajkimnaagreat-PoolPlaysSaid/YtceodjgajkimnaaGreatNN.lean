/- The walk of PoolPlays of the law. -/
import Derived.Test.YtceodjgajkimnaaGreatMX
import Derived.Test.YtceodjgajkimnaaGreatNM
set_option linter.unusedVariables false

namespace Go.Vk
open Go.RowKit Go.Proofs

set_option maxRecDepth 100000 in
set_option maxHeartbeats 1000000 in
theorem poolPlays_w (w : World) (a1 b1 c1 a2 b2 c2 : Int) (va : Value) (ss : List StepR) (hva : ArgSteps w va ss) :
    Calls Tryz.prog 12 #[.agg #[.int .i64 a1, .int .i64 b1, .int .i64 c1], .agg #[.int .i64 a2, .int .i64 b2, .int .i64 c2], va] w (PlaysPost w) := by
  have kA : Keeps (fun _ => False) w (((w.alloc (.cells #[.int .i64 a1, .int .i64 b1, .int .i64 c1] 23 (0, 0))).alloc (.cells #[.int .i64 a2, .int .i64 b2, .int .i64 c2] 23 (0, 0))).alloc (.cells #[.int .i64 1, .int .i64 2, .int .i64 3, .int .i64 4, .int .i64 5, .int .i64 6, .int .i64 7, .int .i64 8, .int .i64 9, .int .i64 10, .int .i64 11, .int .i64 12, .int .i64 13, .int .i64 14, .int .i64 15] 3 (0, 0))) := (((Keeps.refl _ w).alloc _).alloc _).alloc _
  have bK := Blk.new ((w.alloc (.cells #[.int .i64 a1, .int .i64 b1, .int .i64 c1] 23 (0, 0))).alloc (.cells #[.int .i64 a2, .int .i64 b2, .int .i64 c2] 23 (0, 0))) (.cells #[.int .i64 1, .int .i64 2, .int .i64 3, .int .i64 4, .int .i64 5, .int .i64 6, .int .i64 7, .int .i64 8, .int .i64 9, .int .i64 10, .int .i64 11, .int .i64 12, .int .i64 13, .int .i64 14, .int .i64 15] 3 (0, 0))
  rw [World.size_alloc, World.size_alloc] at bK
  have hPl := plays_w (J := JC) (K := [1, 2, 3, 4, 5, 6, 7, 8, 9, 10, 11, 12, 13, 14, 15]) (stepOk_plays JC.ok) JC.zero JC.ok _ a1 b1 c1 a2 b2 c2 va ss (hva.keeps kA) (w.heap.size + 1 + 1) 15 (fun i hi => by
    have := bK.cell i
    match i, hi with
    | 0, _ => simpa using this
    | 1, _ => simpa using this
    | 2, _ => simpa using this
    | 3, _ => simpa using this
    | 4, _ => simpa using this
    | 5, _ => simpa using this
    | 6, _ => simpa using this
    | 7, _ => simpa using this
    | 8, _ => simpa using this
    | 9, _ => simpa using this
    | 10, _ => simpa using this
    | 11, _ => simpa using this
    | 12, _ => simpa using this
    | 13, _ => simpa using this
    | 14, _ => simpa using this) (by decide)
  have hPl2 := hPl.mono fun e w' x => (⟨x.1, rfl, kA.step x.2⟩ : e = .returned (.bool true) ∧ PlaysPost w (.returned (.bool true)) w')
  have hlen : ([1, 2, 3, 4, 5, 6, 7, 8, 9, 10, 11, 12, 13, 14, 15] : List Int).length = 15 := rfl
  rw [hlen] at hPl2
  obtain ⟨aA, cA, rfl, _⟩ := hva
  clear hPl
  generalize PlaysPost w = Post at *
  replace kA := hid kA; replace bK := hid bK; replace hPl2 := hid hPl2
  go_enter Tryz.func12, Tryz.ntmps12
  go_wp2_with (go_at_call 41; refine hPl2.out.mono ?_; rintro e w' ⟨rfl, hx⟩; replace hx := hid hx)
  exact hx.out
end Go.Vk
