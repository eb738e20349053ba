/- The walks of none, copied, Twin of package vellumref6. The walk of Bytes of package vellumref6. The reference's pool in memory; the walks of New and Begin of package vellumref6. The walk of Begin of package vellumref6. -/
import Derived.Test.YtceodjgajkimnaaGreatMH
import Derived.Deep.RegionLaw
set_option linter.unusedVariables false

namespace Go.Vk
open Go.RowKit Go.Proofs

theorem undBools : (Tryz.prog).underlying 146 = some (.slice 4) := Tryz.underlying146
theorem infoBool : ((Tryz.prog).info? 4).map (fun i => (i.zero, i.size, i.bytes)) = some (some (.bool false), 1, 1) := by kernel_rfl
def boolsV (l : List Bool) : List Value := l.map Value.bool
/-- A row of bools of the program's own. -/
def BoolRow (w : World) (lo : Nat) (v : Value) (l : List Bool) : Prop := w.ownsRow lo 4 1 v l.length (boolsV l)
theorem below_keeps {w w' : World} (h : Below w.heap.size w w') : Keeps (fun _ => False) w w' := ⟨h.os, h.tape, h.output, h.size, fun k hk _ => h.block k hk⟩
theorem keeps_below {w w' : World} (h : Keeps (fun _ => False) w w') : Below w.heap.size w w' := ⟨h.os, h.tape, h.output, h.size, fun k hk => h.block k hk (fun f => f)⟩
theorem ownBlock_ge {w : World} {lo e size : Nat} {v : Value} {n : Nat} {xs : List Value} (h : w.ownsRow lo e size v n xs) : ∀ k, v.ownBlock = some k → lo ≤ k := by
  intro k hk
  rcases h.2 with ⟨rfl, _⟩ | ⟨g, cap, cur, rfl, hb, _⟩
  · cases hk
  · simp [Value.ownBlock] at hk; omega

theorem boolsV_snoc (k : Nat) : boolsV (List.replicate (k + 1) false) = boolsV (List.replicate k false) ++ [.bool false] := by
  rw [List.replicate_succ']; simp [boolsV]
set_option maxRecDepth 100000 in
theorem none_w (w : World) : Calls Tryz.prog 127 #[] w fun e w' => ∃ v, e = .returned v ∧ BoolRow w' w.heap.size v (List.replicate 4096 false) ∧ Keeps (fun _ => False) w w' := by
  obtain ⟨i0, hi, hz0, hz1, hz2⟩ := info_parts infoBool
  have hk := Keeps.refl (fun _ => False) w
  have hfl : ∀ W v, W.ownsRow w.heap.size 4 1 v 4096 (boolsV (List.replicate 4096 false)) → BoolRow W w.heap.size v (List.replicate 4096 false) := fun W v h => by
    unfold BoolRow; rw [List.length_replicate]; exact h
  obtain ⟨fl, hf⟩ : ∃ fl, List.replicate 4096 false = fl := ⟨_, rfl⟩
  rw [hf]
  replace hfl := hid hfl; replace hf := hid hf
  replace hi := hid hi; replace hz0 := hid hz0; replace hz1 := hid hz1; replace hz2 := hid hz2; replace hk := hid hk
  go_enter Tryz.func127, Tryz.ntmps127
  go_wp2
  go_loopw [1, 2] (fun v i wr => ∃ k : Nat, k ≤ 4096 ∧ i = .int .i64 k ∧ wr.ownsRow w.heap.size 4 1 v k (boolsV (List.replicate k false)) ∧ Keeps (fun _ => False) w wr) (fun _ i _ => 4096 - (intOf i).toNat)
  case atStart => exact ⟨0, by omega, rfl, World.ownsRow_nil _ _ _ _, hk.out⟩
  case round =>
    obtain ⟨k, hk1, rfl, hown, hk2⟩ := hrel
    by_cases hlt2 : k < 4096
    · have hki : (k : Int) < 4096 := by omega
      replace hk2 := hid hk2
      go_wp2_with (at_builtin; refine wpList_append_own _ rfl _ _ 146 rfl w.heap.size 4 i0 (.bool false) 1 1 undBools hi.out hz0.out hz1.out hz2.out rfl (by decide) _ _ _ rfl (hown.alloc _) ⟨wr.heap.size, 0, none⟩ 1 1 [.bool false] rfl rfl ?c1 ?c2 ?c3 ?c4 ?c5 ?_)
      case c1 =>
        intro j u hj
        match j, hj with
        | 0, hj => simp at hj; subst hj; simp [Addr.add]
      case c2 => intro u hu; simp at hu; subst hu; rfl
      case c3 => unfold maxLen; omega
      case c4 => omega
      case c5 => have := hk2.out.size; simp; omega
      · intro v' w1 hown' hgrow hx
        have hk3 := (hk2.out.alloc _).grown hgrow (fun k hk => .inr (ownBlock_ge hown k hk))
        rw [← boolsV_snoc] at hown'
        replace hown' := hid hown'; replace hk3 := hid hk3; replace hgrow := hid hgrow; replace hown := hid hown
        go_wp2
        exact ⟨⟨k + 1, by omega, by go_num, hown'.out, hk3.out⟩, by simp [intOf]; omega⟩
    · have hki : ¬ (k : Int) < 4096 := by omega
      obtain rfl : k = 4096 := by omega
      replace hk2 := hid hk2; replace hown := hid hown
      go_wp2
      go_ret
      exact ⟨u1, rfl, by rw [← hf.out]; exact hfl.out _ _ hown.out, hk2.out⟩

theorem boolsV_take (l : List Bool) (k : Nat) (h : k < l.length) : boolsV (l.take (k + 1)) = boolsV (l.take k) ++ [.bool l[k]] := by
  rw [List.take_add_one, List.getElem?_eq_getElem h]; unfold boolsV; rw [List.map_append]; rfl
theorem copied_w (w : World) (g cap : Nat) (l : List Bool) (hc : ∀ j (h : j < l.length), w.cell? ⟨g, j, none⟩ = some (.bool l[j])) (hl : l.length ≤ 4096) :
    Calls Tryz.prog 172 #[.slice (some ⟨g, 0, none⟩) l.length cap] w fun e w' => ∃ v, e = .returned v ∧ BoolRow w' w.heap.size v l ∧ Keeps (fun _ => False) w w' := by
  obtain ⟨i0, hi, hz0, hz1, hz2⟩ := info_parts infoBool
  have hk := Keeps.refl (fun _ => False) w
  have hfl : ∀ W v, W.ownsRow w.heap.size 4 1 v l.length (boolsV (l.take l.length)) → BoolRow W w.heap.size v l := fun W v h => by
    rw [List.take_length] at h; exact h
  obtain ⟨n, hn⟩ : ∃ n, l.length = n := ⟨_, rfl⟩
  rw [hn] at hfl hl ⊢
  replace hi := hid hi; replace hz0 := hid hz0; replace hz1 := hid hz1; replace hz2 := hid hz2; replace hk := hid hk; replace hfl := hid hfl; replace hc := hid hc
  go_enter Tryz.func172, Tryz.ntmps172
  go_wp2
  go_loopw [3, 4] (fun v i wr => ∃ k : Nat, k ≤ n ∧ i = .int .i64 k ∧ wr.ownsRow w.heap.size 4 1 v k (boolsV (l.take k)) ∧ Keeps (fun _ => False) w wr) (fun _ i _ => n - (intOf i).toNat)
  case atStart => exact ⟨0, by omega, rfl, World.ownsRow_nil _ _ _ _, hk.out⟩
  case round =>
    obtain ⟨k, hk1, rfl, hown, hk2⟩ := hrel
    by_cases hlt2 : k < n
    · have hki : (k : Int) < n := by omega
      have hix : 0 ≤ (k : Int) ∧ (k : Int) < (n : Nat) := by omega
      have hck := hk2.cellF (hc.out k (by omega)) (fun f => f)
      obtain ⟨b, hb⟩ : ∃ b, l[k] = b := ⟨_, rfl⟩
      rw [hb] at hck
      have hsn := boolsV_take l k (by omega)
      rw [hb] at hsn
      replace hk2 := hid hk2; replace hsn := hid hsn; replace hb := hid hb
      go_wp2_with (at_builtin; refine wpList_append_own _ rfl _ _ 146 rfl w.heap.size 4 i0 (.bool false) 1 1 undBools hi.out hz0.out hz1.out hz2.out rfl (by decide) _ _ _ rfl (hown.alloc _) ⟨wr.heap.size, 0, none⟩ 1 1 [.bool b] rfl rfl ?c1 ?c2 ?c3 ?c4 ?c5 ?_)
      case c1 =>
        intro j u hj
        match j, hj with
        | 0, hj => simp at hj; subst hj; simp [Addr.add]
      case c2 => intro u hu; simp at hu; subst hu; rfl
      case c3 => unfold maxLen; omega
      case c4 => omega
      case c5 => have := hk2.out.size; simp; omega
      · intro v' w1 hown' hgrow hx
        have hk3 := (hk2.out.alloc _).grown hgrow (fun k hk => .inr (ownBlock_ge hown k hk))
        rw [← hsn.out] at hown'
        replace hown' := hid hown'; replace hk3 := hid hk3; replace hgrow := hid hgrow; replace hown := hid hown
        clear hck
        go_wp2
        exact ⟨⟨k + 1, by omega, by go_num, hown'.out, hk3.out⟩, by simp [intOf]; omega⟩
    · have hki : ¬ (k : Int) < n := by omega
      obtain rfl : k = n := by omega
      replace hk2 := hid hk2; replace hown := hid hown
      go_wp2
      go_ret
      exact ⟨u3, rfl, hfl.out _ _ hown.out, hk2.out⟩

theorem BoolRow.keeps {w w' : World} {lo : Nat} {v : Value} {l : List Bool} {Gf : Nat → Prop} (h : BoolRow w lo v l) (k : Keeps Gf w w') (hG : ∀ g, lo ≤ g → ¬ Gf g) : BoolRow w' lo v l := by
  refine ⟨h.1, ?_⟩
  rcases h.2 with h2 | ⟨g, cap, cur, rfl, hb, hh, rest⟩
  · exact .inl h2
  · refine .inr ⟨g, cap, cur, rfl, hb, ?_, rest⟩
    have hlt : g < w.heap.size := by
      by_cases hx : g < w.heap.size
      · exact hx
      · rw [Array.getElem?_eq_none (by omega)] at hh; cases hh
    rw [k.block g hlt (hG g hb)]; exact hh
theorem BoolRow.lo {w : World} {lo lo' : Nat} {v : Value} {l : List Bool} (h : BoolRow w lo v l) (hl : lo' ≤ lo) : BoolRow w lo' v l := by
  refine ⟨h.1, ?_⟩
  rcases h.2 with h2 | ⟨g, cap, cur, rfl, hb, rest⟩
  · exact .inl h2
  · exact .inr ⟨g, cap, cur, rfl, by omega, rest⟩
/-- A row with something in it. -/
theorem BoolRow.slice {w : World} {lo : Nat} {v : Value} {l : List Bool} (h : BoolRow w lo v l) (hn : 0 < l.length) : ∃ g cap, v = .slice (some ⟨g, 0, none⟩) l.length cap ∧ lo ≤ g ∧ g < w.heap.size ∧ ∀ j (h : j < l.length), w.cell? ⟨g, j, none⟩ = some (.bool l[j]) := by
  rcases id h.2 with ⟨_, h2⟩ | ⟨g, cap, cur, rfl, hb, hh, rest⟩
  · omega
  · refine ⟨g, cap, rfl, hb, ?_, fun j hj => ?_⟩
    · by_cases hx : g < w.heap.size
      · exact hx
      · rw [Array.getElem?_eq_none (by omega)] at hh; cases hh
    · have := World.ownsRow.cells h (g := g) rfl j (.bool l[j]) (by simp [boolsV, List.getElem?_eq_getElem hj])
      have e : (⟨g, 0, none⟩ : Addr).add j = ⟨g, j, none⟩ := by unfold Addr.add; split <;> simp_all
      rw [e] at this
      exact this
set_option maxRecDepth 100000 in
theorem twin_w (w : World) (g1 c1 g2 c2 : Nat) (l1 l2 : List Bool) (h1 : ∀ j (h : j < l1.length), w.cell? ⟨g1, j, none⟩ = some (.bool l1[j])) (h2 : ∀ j (h : j < l2.length), w.cell? ⟨g2, j, none⟩ = some (.bool l2[j])) (n1 : l1.length ≤ 4096) (n2 : l2.length ≤ 4096) (p1 : 0 < l1.length) (p2 : 0 < l2.length) :
    Calls Tryz.prog 135 #[.agg #[.slice (some ⟨g1, 0, none⟩) l1.length c1, .slice (some ⟨g2, 0, none⟩) l2.length c2]] w fun e w' =>
      ∃ v1 v2, e = .returned (.agg #[v1, v2]) ∧ BoolRow w' w.heap.size v1 l1 ∧ BoolRow w' w.heap.size v2 l2 ∧ v1.ownBlock ≠ v2.ownBlock ∧ Keeps (fun _ => False) w w' := by
  have hC1 := fun W (x : Keeps (fun _ => False) w W) => copied_w W g1 c1 l1 (fun j hj => x.cellF (h1 j hj) (fun f => f)) n1
  have hC2 := fun W (x : Keeps (fun _ => False) w W) => copied_w W g2 c2 l2 (fun j hj => x.cellF (h2 j hj) (fun f => f)) n2
  generalize hl1 : l1.length = m1 at hC1 ⊢
  generalize hl2 : l2.length = m2 at hC2 ⊢
  replace h1 := hid h1; replace h2 := hid h2; replace n1 := hid n1; replace n2 := hid n2; replace hC1 := hid hC1; replace hC2 := hid hC2; replace hl1 := hid hl1; replace hl2 := hid hl2; replace p1 := hid p1; replace p2 := hid p2
  go_enter Tryz.func135, Tryz.ntmps135
  go_upto_region 1 with fail
  have q1 : Blk ((w.alloc (.cells #[.slice (some ⟨g1, 0, none⟩) m1 c1, .slice (some ⟨g2, 0, none⟩) m2 c2] 179 (0, 0))).alloc (.cells #[.slice none 0 0, .slice none 0 0] 179 (0, 0))) w.heap.size (.cells #[.slice (some ⟨g1, 0, none⟩) m1 c1, .slice (some ⟨g2, 0, none⟩) m2 c2] 179 (0, 0)) := (Blk.new w _).alloc _
  have q2 : Blk ((w.alloc (.cells #[.slice (some ⟨g1, 0, none⟩) m1 c1, .slice (some ⟨g2, 0, none⟩) m2 c2] 179 (0, 0))).alloc (.cells #[.slice none 0 0, .slice none 0 0] 179 (0, 0))) (w.heap.size + 1) (.cells #[.slice none 0 0, .slice none 0 0] 179 (0, 0)) := by
    have := Blk.new (w.alloc (.cells #[.slice (some ⟨g1, 0, none⟩) m1 c1, .slice (some ⟨g2, 0, none⟩) m2 c2] 179 (0, 0))) (.cells #[.slice none 0 0, .slice none 0 0] 179 (0, 0))
    rw [World.size_alloc] at this
    exact this
  have q3 : Keeps (fun _ => False) w ((w.alloc (.cells #[.slice (some ⟨g1, 0, none⟩) m1 c1, .slice (some ⟨g2, 0, none⟩) m2 c2] 179 (0, 0))).alloc (.cells #[.slice none 0 0, .slice none 0 0] 179 (0, 0))) := ((Keeps.refl _ w).alloc _).alloc _
  refine wp_gen (fun W => Blk W w.heap.size (.cells #[.slice (some ⟨g1, 0, none⟩) m1 c1, .slice (some ⟨g2, 0, none⟩) m2 c2] 179 (0, 0)) ∧ Blk W (w.heap.size + 1) (.cells #[.slice none 0 0, .slice none 0 0] 179 (0, 0)) ∧ Keeps (fun _ => False) w W) ⟨q1, q2, q3⟩ ?_
  clear q1 q2 q3
  rintro w1 ⟨q1, q2, q3⟩
  have a0 : w1.drew.cell? ⟨w.heap.size, 0, none⟩ = some (.slice (some ⟨g1, 0, none⟩) m1 c1) := by have := q1.drew.cell 0; simpa using this
  have a1 : w1.drew.cell? ⟨w.heap.size, 1, none⟩ = some (.slice (some ⟨g2, 0, none⟩) m2 c2) := by have := q1.drew.cell 1; simpa using this
  have hkd := q3.drew
  have hlt := q2.lt
  replace q1 := hid q1; replace q2 := hid q2; replace q3 := hid q3; replace hkd := hid hkd
  go_region_held3 (fun W => W.cell? ⟨w.heap.size, 0, none⟩ = some (.slice (some ⟨g1, 0, none⟩) m1 c1) ∧ W.cell? ⟨w.heap.size, 1, none⟩ = some (.slice (some ⟨g2, 0, none⟩) m2 c2)) (first | with_reducible exact ⟨a0, a1⟩ | with_reducible exact ⟨b0, b1⟩ | with_reducible exact ⟨d0, d1⟩ | exact ⟨cell_setCell_ne (cell_setCell_ne d0 (by dsimp only; omega) _) (by dsimp only; omega) _, cell_setCell_ne (cell_setCell_ne d1 (by dsimp only; omega) _) (by dsimp only; omega) _⟩) (first
    | (go_at_call_of 172 (Value.slice (some ⟨g1, 0, none⟩) m1 c1); refine (hC1.out _ hkd.out).mono ?_; rintro e w2 ⟨v1, rfl, r1, k2⟩; obtain ⟨gg1, cc1, rfl, _, hgl1, _⟩ := r1.slice p1.out; replace hgl1 := hid hgl1; have b0 := k2.cellF a0 (fun f => f); have b1 := k2.cellF a1 (fun f => f); replace k2 := hid k2; replace r1 := hid r1)
    | (go_at_call_of 172 (Value.slice (some ⟨g2, 0, none⟩) m2 c2); refine (hC2.out _ (hkd.out.step k2.out)).mono ?_; rintro e w3 ⟨v2, rfl, r2, k3⟩; obtain ⟨gg2, cc2, rfl, hgl2, _, _⟩ := r2.slice p2.out; replace hgl2 := hid hgl2; have d0 := k3.cellF b0 (fun f => f); have d1 := k3.cellF b1 (fun f => f); have q4 := k3.blk (k2.out.blk q2.out.drew (fun f => f)) (fun f => f); have e0 := q4.cell 0; have e1 := q4.cell 1; have ef := q4.frz; simp at e0 e1; replace k3 := hid k3; replace r2 := hid r2; replace q4 := hid q4))
  all_goals
    have hst : Keeps (fun i => i = w.heap.size + 1) w3 ((w3.setCell ⟨w.heap.size + 1, 0, none⟩ (.slice (some ⟨gg1, 0, none⟩) l1.length cc1)).setCell ⟨w.heap.size + 1, 1, none⟩ (.slice (some ⟨gg2, 0, none⟩) l2.length cc2)) := ((Keeps.refl (fun i => i = w.heap.size + 1) w3).setCell (p := ⟨w.heap.size + 1, 0, none⟩) (.inl rfl) _).setCell (p := ⟨w.heap.size + 1, 1, none⟩) (.inl rfl) _
    have q5 := (q4.out.setCell 0 (.slice (some ⟨gg1, 0, none⟩) l1.length cc1)).setCell 1 (.slice (some ⟨gg2, 0, none⟩) l2.length cc2)
    simp at q5
    have x0 := q5.cell 0
    have x1 := q5.cell 1
    simp at x0 x1
    have z1 := w1.drew.heap.size
    have y1 := (r1.out.keeps k3.out (fun _ _ f => f))
    have kk : Keeps (fun _ => False) w1.drew w3 := k2.out.step k3.out
    have kw : Keeps (fun _ => False) w w3 := hkd.out.step kk
    have kf := kw.trans hst (fun i hi e => by omega)
    replace hst := hid hst; replace q5 := hid q5; replace y1 := hid y1; replace kk := hid kk; replace kw := hid kw; replace kf := hid kf
    go_wp2
    have hz1 : w.heap.size + 1 < w1.drew.heap.size := hlt
    have hz2 : w.heap.size + 1 < w2.heap.size := Nat.lt_of_lt_of_le hz1 k2.out.size
    exact bodyPost_ret (v := .agg #[.slice (some ⟨gg1, 0, none⟩) l1.length cc1, .slice (some ⟨gg2, 0, none⟩) l2.length cc2]) (by simp [results, Tryz.results135, go_sem, x0, x1]) rfl
      ⟨_, _, rfl, (y1.out.keeps hst.out (fun g hg e => by omega)).lo (by omega), (r2.out.keeps hst.out (fun g hg e => by omega)).lo (by omega), fun x => by have y1 : gg1 = gg2 := Option.some.inj x; have y2 := hgl1.out; have y3 := hgl2.out; omega, kf.out⟩
end Go.Vk

namespace Go.Vk
open Go.RowKit Go.Proofs

/-- What the bits k to 7 of the i-th byte are worth, k the lowest. -/
def valK (l : List Bool) (i : Nat) : Nat → Nat
  | 0 => 0
  | n + 1 => 2 * valK l i n + (if l.getD (8 * i + (7 - n)) false then 1 else 0)
theorem valK_lt (l : List Bool) (i : Nat) : ∀ n, valK l i n < 2 ^ n
  | 0 => by simp [valK]
  | n + 1 => by
    have := valK_lt l i n
    unfold valK
    rw [Nat.pow_succ]
    split <;> omega
def bytesOf (l : List Bool) (n : Nat) : List UInt8 := (List.range n).map fun i => UInt8.ofNat (valK l i 8)
def ByteRow (w : World) (lo : Nat) (v : Value) (l : List UInt8) : Prop := w.ownsRow lo 5 1 v l.length (l.map B)
theorem bytesOf_snoc (l : List Bool) (k : Nat) : (bytesOf l (k + 1)).map B = (bytesOf l k).map B ++ [.int .u8 (valK l k 8 : Nat)] := by
  unfold bytesOf
  rw [List.range_succ, List.map_append, List.map_append]
  congr 1
  have h := valK_lt l k 8
  simp only [List.map_cons, List.map_nil, B]
  rw [show (UInt8.ofNat (valK l k 8)).toNat = valK l k 8 from by rw [UInt8.toNat_ofNat']; exact Nat.mod_eq_of_lt h]
set_option maxHeartbeats 1000000 in
set_option maxRecDepth 100000 in
theorem rbytes_w (w : World) (g cap : Nat) (l : List Bool) (hc : ∀ j (h : j < l.length), w.cell? ⟨g, j, none⟩ = some (.bool l[j])) (hl : l.length = 4096) :
    Calls Tryz.prog 129 #[.slice (some ⟨g, 0, none⟩) 4096 cap] w fun e w' => ∃ v, e = .returned v ∧ ByteRow w' w.heap.size v (bytesOf l 512) ∧ Keeps (fun _ => False) w w' := by
  obtain ⟨i0, hi, hz0, hz1, hz2⟩ := info_parts info5
  have hk := Keeps.refl (fun _ => False) w
  have hfl : ∀ W v, W.ownsRow w.heap.size 5 1 v 512 ((bytesOf l 512).map B) → ByteRow W w.heap.size v (bytesOf l 512) := fun W v h => by
    unfold ByteRow; rw [show (bytesOf l 512).length = 512 by simp [bytesOf]]; exact h
  obtain ⟨fl, hf⟩ : ∃ fl, bytesOf l 512 = fl := ⟨_, rfl⟩
  rw [hf]
  replace hi := hid hi; replace hz0 := hid hz0; replace hz1 := hid hz1; replace hz2 := hid hz2; replace hk := hid hk; replace hfl := hid hfl; replace hf := hid hf; replace hc := hid hc
  go_enter Tryz.func129, Tryz.ntmps129
  go_wp2
  go_loopw [3, 4, 5, 6] (fun v i _ _ wr => ∃ k : Nat, k ≤ 512 ∧ i = .int .i64 k ∧ wr.ownsRow w.heap.size 5 1 v k ((bytesOf l k).map B) ∧ Keeps (fun _ => False) w wr) (fun _ i _ _ _ => 512 - (intOf i).toNat)
  case atStart => exact ⟨0, by omega, rfl, World.ownsRow_nil _ _ _ _, hk.out⟩
  case round =>
    obtain ⟨k, hk1, rfl, hown, hk2⟩ := hrel
    by_cases hlt2 : k < 512
    · have hki : (k : Int) < 512 := by omega
      replace hk2 := hid hk2; replace hown := hid hown
      go_wp2
      go_loopw [5, 6] (fun v kk wr' => ∃ n : Nat, n ≤ 8 ∧ v = .int .i64 (valK l k n : Nat) ∧ kk = .int .i64 (7 - (n : Int)) ∧ wr' = wr) (fun _ kk _ => (intOf kk + 1).toNat)
      case atStart => exact ⟨0, by omega, rfl, rfl, rfl⟩
      case round =>
        obtain ⟨n, hn1, rfl, rfl, rfl⟩ := hrel
        by_cases hn2 : n < 8
        · have hge : (0 : Int) ≤ 7 - (n : Int) := by omega
          have hvl := valK_lt l k n
          have hv256 : valK l k n < 256 := Nat.lt_of_lt_of_le hvl (Nat.pow_le_pow_right (by decide) hn1 : 2 ^ n ≤ 2 ^ 8)
          have hm2 : IntKind.i64.wrap (2 * (valK l k n : Int)) = ((2 * valK l k n : Nat) : Int) := by rw [wrap_small (by omega) (by omega)]; omega
          have h8k : IntKind.i64.wrap (8 * (k : Int)) = ((8 * k : Nat) : Int) := by rw [wrap_small (by omega) (by omega)]; omega
          have hj : IntKind.i64.wrap (((8 * k : Nat) : Int) + (7 - (n : Int))) = ((8 * k + (7 - n) : Nat) : Int) := by rw [wrap_small (by omega) (by omega)]; omega
          have hd : IntKind.i64.wrap (7 - (n : Int) - 1) = 7 - ((n + 1 : Nat) : Int) := by rw [wrap_small (by omega) (by omega)]; omega
          have hix : 0 ≤ ((8 * k + (7 - n) : Nat) : Int) ∧ ((8 * k + (7 - n) : Nat) : Int) < (4096 : Nat) := by omega
          have hcl := hk2.out.cellF (hc.out (8 * k + (7 - n)) (by rw [hl]; omega)) (fun f => f)
          have hvs : valK l k (n + 1) = 2 * valK l k n + (if l.getD (8 * k + (7 - n)) false then 1 else 0) := rfl
          have hgd : l.getD (8 * k + (7 - n)) false = l[8 * k + (7 - n)]'(by rw [hl]; omega) := by rw [List.getD_eq_getElem?_getD, List.getElem?_eq_getElem (by rw [hl]; omega)]; rfl
          rw [hgd] at hvs
          generalize l[8 * k + (7 - n)]'(by rw [hl]; omega) = b at hcl hvs
          have hp1 : IntKind.i64.wrap (((2 * valK l k n : Nat) : Int) + 1) = ((2 * valK l k n + 1 : Nat) : Int) := by rw [wrap_small (by omega) (by omega)]; omega
          clear hgd
          cases b with
          | true =>
            rw [if_pos rfl] at hvs
            generalize 8 * k + (7 - n) = j at hj hix hcl
            generalize 2 * valK l k n = v2 at hm2 hp1 hvs
            generalize 8 * k = k8 at h8k hj
            replace hvs := hid hvs; replace hvl := hid hvl
            go_wp2
            exact ⟨⟨n + 1, by omega, by rw [hvs.out]; rfl, rfl, trivial⟩, by simp [intOf]; omega⟩
          | false =>
            rw [if_neg (by decide)] at hvs
            generalize 8 * k + (7 - n) = j at hj hix hcl
            generalize 2 * valK l k n = v2 at hm2 hp1 hvs
            generalize 8 * k = k8 at h8k hj
            replace hvs := hid hvs; replace hvl := hid hvl
            go_wp2
            exact ⟨⟨n + 1, by omega, by rw [hvs.out]; rfl, rfl, trivial⟩, by simp [intOf]; omega⟩
        · have hge : ¬ (0 : Int) ≤ 7 - (n : Int) := by omega
          obtain rfl : n = 8 := by omega
          have hv8 : valK l k 8 < 256 := valK_lt l k 8
          have hcv : IntKind.u8.wrap ((valK l k 8 : Nat) : Int) = ((valK l k 8 : Nat) : Int) := by rw [IntKind.wrap_u8']; omega
          have hsn := bytesOf_snoc l k
          generalize valK l k 8 = vv at hcv hsn hv8
          replace hsn := hid hsn; replace hv8 := hid hv8
          replace hown := hown.out
          go_wp2_with (at_builtin; refine wpList_append_own _ rfl _ _ 57 rfl w.heap.size 5 i0 (.int .u8 0) 1 1 und22 hi.out hz0.out hz1.out hz2.out rfl (by decide) _ _ _ rfl (hown.alloc _) ⟨wr.heap.size, 0, none⟩ 1 1 [.int .u8 vv] rfl rfl ?c1 ?c2 ?c3 ?c4 ?c5 ?_)
          case c2 => rfl
          case c3 => unfold maxLen; omega
          case c4 => omega
          case c5 => have := hk2.out.size; simp; omega
          · intro v' w1 hown' hgrow hx
            have hk3 := (hk2.out.alloc _).grown hgrow (fun k hk => .inr (ownBlock_ge hown k hk))
            rw [← hsn.out] at hown'
            replace hown' := hid hown'; replace hk3 := hid hk3; replace hgrow := hid hgrow; replace hown := hid hown
            go_wp2
            exact ⟨⟨k + 1, by omega, by go_num, hown'.out, hk3.out⟩, by simp [intOf]; omega⟩
    · have hki : ¬ (k : Int) < 512 := by omega
      obtain rfl : k = 512 := by omega
      replace hk2 := hid hk2; replace hown := hid hown
      go_wp2
      go_ret
      exact ⟨_, rfl, by rw [← hf.out]; exact hfl.out _ _ hown.out, hk2.out⟩
end Go.Vk

namespace Go.Vk
open Go.RowKit Go.Proofs

/-- The document's pool. -/
structure RP where
  blocks : Nat
  nodes : Nat
  data : Nat
  oldB : List Bool
  oldN : List Bool
  nowB : List Bool
  nowN : List Bool
  oldRaw : List (List UInt8)
  raw : List (List UInt8)
  put : List Nat
  sp : Nat
  op : Bool
  dead : Bool
/-- What stands in its fields. -/
structure RefV where
  OB : Value
  ON : Value
  NB : Value
  NN : Value
  OR : Value
  R : Value
  P : Value
  uO : List Value
  uR : List Value
def refO (R : RP) (V : RefV) : Obj :=
  .cells #[.int .i64 R.blocks, .int .i64 R.nodes, .int .i64 R.data, V.OB, V.ON, V.NB, V.NN, V.OR, V.R, V.P, .int .i64 R.sp, .bool R.op, .bool R.dead] 181 (0, 0)
def natV (n : Nat) : Value := .int .i64 n
def RawRow (w : World) (v : Value) (ls : List (List UInt8)) (us : List Value) : Prop :=
  w.ownsRow 0 57 1 v ls.length us ∧ us.length = ls.length ∧ ∀ i (h : i < ls.length) u, us[i]? = some u → ByteRow w 0 u ls[i]
def InZ (Z : Nat → Prop) (v : Value) : Prop := ∀ g, v.ownBlock = some g → Z g
structure RefAt (w : World) (m : Nat) (R : RP) (V : RefV) (Z : Nat → Prop) : Prop where
  hm : Blk w m (refO R V)
  ob : BoolRow w 0 V.OB R.oldB
  on : BoolRow w 0 V.ON R.oldN
  nb : BoolRow w 0 V.NB R.nowB
  nn : BoolRow w 0 V.NN R.nowN
  orr : RawRow w V.OR R.oldRaw V.uO
  rr : RawRow w V.R R.raw V.uR
  pr : w.ownsRow 0 3 1 V.P R.put.length (R.put.map natV)
  zm : Z m
  zob : InZ Z V.OB
  zon : InZ Z V.ON
  znb : InZ Z V.NB
  znn : InZ Z V.NN
  zor : InZ Z V.OR
  zr : InZ Z V.R
  zp : InZ Z V.P
  zuO : ∀ u ∈ V.uO, InZ Z u
  zuR : ∀ u ∈ V.uR, InZ Z u
  lb : R.oldB.length = 4096 ∧ R.oldN.length = 4096 ∧ R.nowB.length = 4096 ∧ R.nowN.length = 4096
  d1 : V.NB.ownBlock ≠ V.NN.ownBlock
  d2 : V.NB.ownBlock ≠ V.OB.ownBlock ∧ V.NB.ownBlock ≠ V.ON.ownBlock ∧ V.NN.ownBlock ≠ V.OB.ownBlock ∧ V.NN.ownBlock ≠ V.ON.ownBlock
  d3 : R.op = true → ∀ g, V.R.ownBlock = some g → V.OR.ownBlock ≠ some g
  lr : R.oldRaw.length ≤ 2048 ∧ R.raw.length ≤ 2048
  l5 : (∀ l ∈ R.oldRaw, l.length = 512) ∧ (∀ l ∈ R.raw, l.length = 512)
def RefRep (w : World) (m : Nat) (R : RP) (Z : Nat → Prop) : Prop := ∃ V, RefAt w m R V Z

theorem keeps_own {w w' : World} {Gf Z : Nat → Prop} (k : Keeps Gf w w') (hG : ∀ i, Z i → ¬ Gf i) {lo e size : Nat} {v : Value} {n : Nat} {xs : List Value} (h : w.ownsRow lo e size v n xs) (hz : InZ Z v) : w'.ownsRow lo e size v n xs := by
  refine ⟨h.1, ?_⟩
  rcases h.2 with h2 | ⟨g, cap, cur, rfl, hb, hh, rest⟩
  · exact .inl h2
  · refine .inr ⟨g, cap, cur, rfl, hb, ?_, rest⟩
    have hlt : g < w.heap.size := by
      by_cases hx : g < w.heap.size
      · exact hx
      · rw [Array.getElem?_eq_none (by omega)] at hh; cases hh
    rw [k.block g hlt (hG g (hz g rfl))]; exact hh
theorem RawRow.keeps {w w' : World} {Gf Z : Nat → Prop} (k : Keeps Gf w w') (hG : ∀ i, Z i → ¬ Gf i) {v : Value} {ls : List (List UInt8)} {us : List Value} (h : RawRow w v ls us) (hz : InZ Z v) (hu : ∀ u ∈ us, InZ Z u) : RawRow w' v ls us :=
  ⟨keeps_own k hG h.1 hz, h.2.1, fun i hi u e => keeps_own k hG (h.2.2 i hi u e) (hu u (List.mem_of_getElem? e))⟩
theorem RefAt.keeps {w w' : World} {m : Nat} {R : RP} {V : RefV} {Z Gf : Nat → Prop} (h : RefAt w m R V Z) (k : Keeps Gf w w') (hG : ∀ i, Z i → ¬ Gf i) : RefAt w' m R V Z :=
  { h with
    hm := k.blk h.hm (hG m h.zm)
    ob := keeps_own k hG h.ob h.zob
    on := keeps_own k hG h.on h.zon
    nb := keeps_own k hG h.nb h.znb
    nn := keeps_own k hG h.nn h.znn
    orr := h.orr.keeps k hG h.zor h.zuO
    rr := h.rr.keeps k hG h.zr h.zuR
    pr := keeps_own k hG h.pr h.zp }
theorem RefRep.keeps {w w' : World} {m : Nat} {R : RP} {Z Gf : Nat → Prop} (h : RefRep w m R Z) (k : Keeps Gf w w') (hG : ∀ i, Z i → ¬ Gf i) : RefRep w' m R Z := by
  obtain ⟨V, h1⟩ := h; exact ⟨V, h1.keeps k hG⟩

theorem own_form {w : World} {lo e size : Nat} {v : Value} {n : Nat} {xs : List Value} (h : w.ownsRow lo e size v n xs) (hn : 0 < n) : ∃ g cap, v = .slice (some ⟨g, 0, none⟩) n cap ∧ lo ≤ g ∧ g < w.heap.size := by
  rcases h.2 with ⟨_, h2⟩ | ⟨g, cap, cur, rfl, hb, hh, rest⟩
  · omega
  · refine ⟨g, cap, rfl, hb, ?_⟩
    by_cases hx : g < w.heap.size
    · exact hx
    · rw [Array.getElem?_eq_none (by omega)] at hh; cases hh
theorem own_lo {w : World} {lo lo' e size : Nat} {v : Value} {n : Nat} {xs : List Value} (h : w.ownsRow lo e size v n xs) (hl : lo' ≤ lo) : w.ownsRow lo' e size v n xs := by
  refine ⟨h.1, ?_⟩
  rcases h.2 with h2 | ⟨g, cap, cur, rfl, hb, rest⟩
  · exact .inl h2
  · exact .inr ⟨g, cap, cur, rfl, by omega, rest⟩
theorem ob_ne {g h n m c d : Nat} (e : g ≠ h) : (Value.slice (some ⟨g, 0, none⟩) n c).ownBlock ≠ (Value.slice (some ⟨h, 0, none⟩) m d).ownBlock := fun x => e (Option.some.inj x)
def noBits : List Bool := List.replicate 4096 false
theorem length_noBits : noBits.length = 4096 := List.length_replicate
theorem none_w2 (w : World) : Calls Tryz.prog 127 #[] w fun e w' => ∃ g cap, e = .returned (.slice (some ⟨g, 0, none⟩) 4096 cap) ∧ w.heap.size ≤ g ∧ g < w'.heap.size ∧ BoolRow w' w.heap.size (.slice (some ⟨g, 0, none⟩) 4096 cap) noBits ∧ Keeps (fun _ => False) w w' := by
  refine (none_w w).mono ?_
  rintro e w' ⟨v, rfl, h1, h2⟩
  have h1' : BoolRow w' w.heap.size v noBits := h1
  obtain ⟨g, cap, e1, a1, a2, a3⟩ := h1'.slice (by rw [length_noBits]; decide)
  rw [length_noBits] at e1
  rw [e1] at h1'
  exact ⟨g, cap, by rw [e1], a1, a2, h1', h2⟩

theorem undRaw : (Tryz.prog).underlying 66 = some (.slice 57) := Tryz.underlying66
theorem infoRaw : ((Tryz.prog).info? 57).map (fun i => (i.zero, i.size, i.bytes)) = some (some (.slice none 0 0), 1, 24) := by kernel_rfl
theorem rep_snoc {α : Type} (z : α) (k : Nat) : List.replicate (k + 1) z = List.replicate k z ++ [z] := List.replicate_succ'
def newRP (blocks nodes : Nat) : RP := ⟨blocks, nodes, 2 + nodes / 4, noBits, noBits, noBits, noBits, List.replicate blocks (bytesOf noBits 512), [], [], 0, false, false⟩
theorem length_bytesOf (l : List Bool) (n : Nat) : (bytesOf l n).length = n := by simp [bytesOf]

set_option maxRecDepth 100000 in
theorem rnew_w (w : World) (blocks nodes : Nat) (hb : blocks ≤ 2048) (hn : nodes ≤ 1024) : Calls Tryz.prog 87 #[.int .i64 blocks, .int .i64 nodes] w fun e w' =>
    ∃ m, e = .returned (.pointer (some ⟨m, 0, none⟩)) ∧ RefRep w' m (newRP blocks nodes) (fun i => w.heap.size ≤ i ∧ i < w'.heap.size) ∧ Keeps (fun _ => False) w w' := by
  obtain ⟨i0, hi, hz0, hz1, hz2⟩ := info_parts infoRaw
  have hd : ((nodes : Nat) : Int).tdiv 4 = ((nodes / 4 : Nat) : Int) := rfl
  have hd2 : IntKind.i64.wrap (2 + ((nodes / 4 : Nat) : Int)) = ((2 + nodes / 4 : Nat) : Int) := by rw [wrap_small (by omega) (by omega)]; omega
  have hN := none_w2
  have hk0 := Keeps.refl (fun _ => False) w
  obtain ⟨z, hzb⟩ : ∃ z, bytesOf noBits 512 = z := ⟨_, rfl⟩
  have hzl : z.length = 512 := by rw [← hzb]; exact length_bytesOf _ _
  have hq : nodes / 4 ≤ 256 := by omega
  generalize hnq : nodes / 4 = nq at hd hd2 hq
  clear hd2
  replace hi := hid hi; replace hz0 := hid hz0; replace hz1 := hid hz1; replace hz2 := hid hz2; replace hN := hid hN; replace hk0 := hid hk0; replace hnq := hid hnq; replace hzb := hid hzb; replace hzl := hid hzl
  go_enter Tryz.func87, Tryz.ntmps87
  go_wp2_with fail
  refine (hN.out _).mono ?_
  rintro e w1 ⟨g1, c1, rfl, a1, l1, r1, k1⟩
  replace a1 := hid a1; replace l1 := hid l1; replace r1 := hid r1; replace k1 := hid k1
  go_wp2_with fail
  refine (hN.out _).mono ?_
  rintro e w2 ⟨g2, c2, rfl, a2, l2, r2, k2⟩
  replace a2 := hid a2; replace l2 := hid l2; replace r2 := hid r2; replace k2 := hid k2
  go_wp2_with fail
  refine (hN.out _).mono ?_
  rintro e w3 ⟨g3, c3, rfl, a3, l3, r3, k3⟩
  replace a3 := hid a3; replace l3 := hid l3; replace r3 := hid r3; replace k3 := hid k3
  go_wp2_with fail
  refine (hN.out _).mono ?_
  rintro e w4 ⟨g4, c4, rfl, a4, l4, r4, k4⟩
  replace a4 := hid a4; replace l4 := hid l4; replace r4 := hid r4; replace k4 := hid k4
  go_wp2_with fail
  refine (hN.out _).mono ?_
  rintro e w5 ⟨g5, c5, rfl, a5, l5, r5, k5⟩
  replace a5 := hid a5; replace l5 := hid l5; replace r5 := hid r5; replace k5 := hid k5
  go_wp2_with fail
  have q5 := fun j (h : j < noBits.length) => (by
    obtain ⟨gg, cc, e1, _, _, y⟩ := r5.out.slice (by rw [length_noBits]; decide)
    rw [length_noBits] at e1
    injection e1 with e1 _ e3
    injection e1 with e1
    injection e1 with e1
    rw [e1]; exact y j h : w5.cell? ⟨g5, j, none⟩ = some (.bool noBits[j]))
  refine (rbytes_w w5 g5 c5 noBits q5 length_noBits).mono ?_
  rintro e w6 ⟨vz, rfl, bz, k6⟩
  rw [hzb.out] at bz
  have hsz4 : w4.heap.size < (w4.alloc (.cells #[.int .i64 blocks, .int .i64 nodes, .int .i64 (2 + (nq : Int)), .slice (some ⟨g1, 0, none⟩) 4096 c1, .slice (some ⟨g2, 0, none⟩) 4096 c2, .slice (some ⟨g3, 0, none⟩) 4096 c3, .slice (some ⟨g4, 0, none⟩) 4096 c4, .slice none 0 0, .slice none 0 0, .slice none 0 0, .int .i64 0, .bool false, .bool false] 181 (0, 0))).heap.size := by rw [World.size_alloc]; omega
  have kA := (k5.out.step k6)
  have kB : Keeps (fun _ => False) w4 w6 := ((Keeps.refl (fun _ => False) w4).alloc _).step kA
  have hm6 := kA.blk (Blk.new w4 _) (fun f => f)
  have y1 := r1.out.keeps (k2.out.step (k3.out.step (k4.out.step kB))) (fun _ _ f => f)
  have y2 := r2.out.keeps (k3.out.step (k4.out.step kB)) (fun _ _ f => f)
  have y3 := r3.out.keeps (k4.out.step kB) (fun _ _ f => f)
  have y4 := r4.out.keeps kB (fun _ _ f => f)
  have kW : Keeps (fun _ => False) w w6 := k1.out.step (k2.out.step (k3.out.step (k4.out.step kB)))
  have z4 := a4.out
  have z1 := a1.out
  have z2 := a2.out
  have z3 := a3.out
  have kz1 := k1.out.size
  have kz2 := k2.out.size
  have kz3 := k3.out.size
  have kz4 := k4.out.size
  have kzB := kB.size
  have zl1 := l1.out
  have zl2 := l2.out
  have zl3 := l3.out
  have zl4 := l4.out
  have z6 := hm6.lt
  have hg1 : g1 < g2 := by omega
  have hg2 : g2 < g3 := by omega
  have hg3 : g3 < g4 := by omega
  have hgm : g4 < w4.heap.size := zl4
  have hw1 : w.heap.size ≤ g1 := by omega
  have hw4 : w4.heap.size < w6.heap.size := z6
  have hm5 : w4.heap.size < w5.heap.size := by have := k5.out.size; omega
  clear z1 z2 z3 z4 kz1 kz2 kz3 kz4 kzB zl1 zl2 zl3 zl4 z6 hsz4 q5
  obtain ⟨gz, cz, rfl, hz1', hz2'⟩ := own_form bz (by rw [hzl.out]; decide)
  rw [hzl.out] at *
  have hrow0 : w6.ownsRow w6.heap.size 57 1 (.slice none 0 0) 0 [] := World.ownsRow_nil _ _ _ _
  have hkr := Keeps.refl (· = w4.heap.size) w6
  generalize hq4 : w4.heap.size = m at *
  clear r1 r2 r3 r4 r5 kA kB k1 k2 k3 k4 k5 k6
  replace a1 := hid a1; replace a2 := hid a2; replace a3 := hid a3; replace a4 := hid a4; replace a5 := hid a5; replace l1 := hid l1; replace l2 := hid l2; replace l3 := hid l3; replace l4 := hid l4; replace l5 := hid l5; replace y1 := hid y1; replace y2 := hid y2; replace y3 := hid y3; replace y4 := hid y4; replace kW := hid kW; replace hg1 := hid hg1; replace hg2 := hid hg2; replace hg3 := hid hg3; replace hgm := hid hgm; replace hw1 := hid hw1; replace hw4 := hid hw4; replace hm5 := hid hm5; replace hq4 := hid hq4; replace bz := hid bz; replace hz1' := hid hz1'; replace hz2' := hid hz2'; replace hm6 := hid hm6; replace hrow0 := hid hrow0; replace hkr := hid hkr
  go_wp2
  go_loopw [7] (fun i wr => ∃ k v, k ≤ blocks ∧ i = .int .i64 (k : Nat) ∧ wr.ownsRow w6.heap.size 57 1 v k (List.replicate k (.slice (some ⟨gz, 0, none⟩) 512 cz)) ∧
    Blk wr m (.cells #[.int .i64 blocks, .int .i64 nodes, .int .i64 (2 + (nq : Int)), .slice (some ⟨g1, 0, none⟩) 4096 c1, .slice (some ⟨g2, 0, none⟩) 4096 c2, .slice (some ⟨g3, 0, none⟩) 4096 c3, .slice (some ⟨g4, 0, none⟩) 4096 c4, v, .slice none 0 0, .slice none 0 0, .int .i64 0, .bool false, .bool false] 181 (0, 0)) ∧ Keeps (· = m) w6 wr) (fun i _ => blocks - (intOf i).toNat)
  case atStart => exact ⟨0, _, by omega, rfl, hrow0.out, hm6.out, hkr.out⟩
  case round =>
    obtain ⟨k, v, hk1, rfl, hown, hbm, hkm⟩ := hrel
    have hlt := hkm.size
    have cm7 := hbm.cell 7
    simp at cm7
    have cmf := hbm.frz 7
    by_cases hlt2 : k < blocks
    · have hki : (k : Int) < blocks := by omega
      have hmn : some m ≠ v.ownBlock := fun e => by have := ownBlock_ge hown m e.symm; have := hw4.out; omega
      replace hbm := hid hbm; replace hkm := hid hkm
      go_wp2_with (at_builtin; refine wpList_append_own _ rfl _ _ 66 rfl w6.heap.size 57 i0 (.slice none 0 0) 1 24 undRaw hi.out hz0.out hz1.out hz2.out rfl (by decide) _ _ _ rfl (hown.alloc _) ⟨wr.heap.size, 0, none⟩ 1 1 [.slice (some ⟨gz, 0, none⟩) 512 cz] rfl rfl ?c1 ?c2 ?c3 ?c4 ?c5 ?_)
      case c1 =>
        intro j u hj
        match j, hj with
        | 0, hj => simp at hj; subst hj; simp [Addr.add]
      case c2 => intro u hu; simp at hu; subst hu; rfl
      case c3 => unfold maxLen; omega
      case c4 => omega
      case c5 => simp; omega
      · intro v' w7 hown' hgrow hx
        rw [← rep_snoc] at hown'
        have hb7 := Blk.grown (hbm.out.alloc _) hgrow hmn
        obtain ⟨gv, cv, rfl, hv1, hv2⟩ := own_form hown' (by omega)
        have c7 := hb7.cell 7
        simp at c7
        have f7 := hb7.frz 7
        have hb8 := hb7.setCell 7 (.slice (some ⟨gv, 0, none⟩) (k + 1) cv)
        simp at hb8
        have hown8 := ownsRow_setCell_below hown' (a := ⟨m, 7, none⟩) hw4.out (.slice (some ⟨gv, 0, none⟩) (k + 1) cv)
        have hk8 : Keeps (· = m) w6 (w7.setCell ⟨m, 7, none⟩ (.slice (some ⟨gv, 0, none⟩) (k + 1) cv)) := ((hkm.out.alloc _).grown hgrow (fun i hi => .inr (ownBlock_ge hown i hi))).setCell (.inl rfl) _
        replace hown' := hid hown'; replace hgrow := hid hgrow; replace hown := hid hown; replace hb7 := hid hb7; replace hb8 := hid hb8; replace hown8 := hid hown8; replace hk8 := hid hk8; replace hx := hid hx
        clear cm7 cmf
        go_wp2
        exact ⟨⟨k + 1, _, by omega, by go_num, hown8.out, hb8.out, hk8.out⟩, by simp [intOf]; omega⟩
    · have hki : ¬ (k : Int) < blocks := by omega
      obtain rfl : k = blocks := by omega
      have hR : RefRep wr m (newRP k nodes) (fun i => w.heap.size ≤ i ∧ i < wr.heap.size) := by
        have q1 := hg1.out
        have q2 := hg2.out
        have q3 := hg3.out
        have q4 := hgm.out
        have q5 := hw1.out
        have q6 := hw4.out
        have q7 := hz1'.out
        have q8 := hz2'.out
        have lift : ∀ g c, w.heap.size ≤ g → g < m → BoolRow w6 0 (.slice (some ⟨g, 0, none⟩) 4096 c) noBits → BoolRow wr 0 (.slice (some ⟨g, 0, none⟩) 4096 c) noBits ∧ InZ (fun i => w.heap.size ≤ i ∧ i < wr.heap.size) (.slice (some ⟨g, 0, none⟩) 4096 c) := fun g c h1 h2 h3 =>
          ⟨keeps_own (Z := (· = g)) hkm (fun i e => by omega) h3 (fun x e => (Option.some.inj e).symm), fun x e => by have := Option.some.inj e; subst this; exact ⟨h1, by show g < _; omega⟩⟩
        have x1 := lift g1 c1 (by omega) (by omega) (y1.out.lo (Nat.zero_le _))
        have x2 := lift g2 c2 (by omega) (by omega) (y2.out.lo (Nat.zero_le _))
        have x3 := lift g3 c3 (by omega) (by omega) (y3.out.lo (Nat.zero_le _))
        have x4 := lift g4 c4 (by omega) (by omega) (y4.out.lo (Nat.zero_le _))
        have hwz : w5.heap.size ≤ gz := hz1'.out
        have hzz : InZ (fun i => w.heap.size ≤ i ∧ i < wr.heap.size) (.slice (some ⟨gz, 0, none⟩) 512 cz) := fun x e => by
          have := Option.some.inj e; subst this
          have := hm5.out
          exact ⟨by show _ ≤ gz; omega, by show gz < _; omega⟩
        have hbz : ByteRow wr 0 (.slice (some ⟨gz, 0, none⟩) 512 cz) z := by
          have h5 := hm5.out
          exact own_lo (keeps_own (Z := (· = gz)) hkm (fun i e => by omega) bz.out (fun x e => (Option.some.inj e).symm)) (Nat.zero_le _)
        have hdat : ((2 + nodes / 4 : Nat) : Int) = 2 + (nq : Int) := by rw [hnq.out]; push_cast; rfl
        refine ⟨⟨.slice (some ⟨g1, 0, none⟩) 4096 c1, .slice (some ⟨g2, 0, none⟩) 4096 c2, .slice (some ⟨g3, 0, none⟩) 4096 c3, .slice (some ⟨g4, 0, none⟩) 4096 c4, v, .slice none 0 0, .slice none 0 0, List.replicate k (.slice (some ⟨gz, 0, none⟩) 512 cz), []⟩, ?_⟩
        have hlz := hzl.out
        refine { hm := ?_, ob := x1.1, on := x2.1, nb := x3.1, nn := x4.1, orr := ?_, rr := ?_, pr := World.ownsRow_nil _ _ _ _, zm := ⟨by omega, by omega⟩, zob := x1.2, zon := x2.2, znb := x3.2, znn := x4.2, zor := ?_, zr := ?_, zp := ?_, zuO := ?_, zuR := ?_, lb := ⟨length_noBits, length_noBits, length_noBits, length_noBits⟩, d1 := ?_, d2 := ?_, d3 := ?_, lr := ?_, l5 := ?_ }
        · unfold refO newRP
          dsimp only
          rw [hdat]
          exact hbm
        · unfold newRP
          dsimp only
          rw [hzb.out]
          refine ⟨?_, by simp, fun i hi u hu => ?_⟩
          · rw [List.length_replicate]; exact own_lo hown (Nat.zero_le _)
          · have e1 : u = .slice (some ⟨gz, 0, none⟩) 512 cz := (List.mem_replicate.1 (List.mem_of_getElem? hu)).2
            rw [e1, List.getElem_replicate]
            exact hbz
        · exact ⟨World.ownsRow_nil _ _ _ _, rfl, fun i hi => by simp [newRP] at hi⟩
        · intro x e
          have h9 := ownBlock_ge hown x e
          refine ⟨by omega, ?_⟩
          obtain ⟨cap, e2⟩ : ∃ a, v = .slice (some ⟨x, 0, none⟩) k a ∨ v = .slice none 0 0 := by
            rcases hown.2 with ⟨e1, _⟩ | ⟨g', cap, cur, e1, _⟩
            · exact ⟨0, .inr e1⟩
            · rw [e1] at e
              have : g' = x := Option.some.inj e
              subst this
              exact ⟨cap, .inl e1⟩
          rcases hown.2 with ⟨e1, _⟩ | ⟨g', cap, cur, e1, _, hh, _⟩
          · rw [e1] at e; cases e
          · rw [e1] at e
            have : g' = x := Option.some.inj e
            subst this
            by_cases hx : g' < wr.heap.size
            · exact hx
            · rw [Array.getElem?_eq_none (by omega)] at hh; cases hh
        · intro x e; cases e
        · intro x e; cases e
        · intro u hu
          have e1 : u = .slice (some ⟨gz, 0, none⟩) 512 cz := (List.mem_replicate.1 hu).2
          rw [e1]; exact hzz
        · intro u hu; cases hu
        · exact ob_ne (by omega)
        · exact ⟨ob_ne (by omega), ob_ne (by omega), ob_ne (by omega), ob_ne (by omega)⟩
        · intro e; cases e
        · exact ⟨by simp [newRP]; omega, by simp [newRP]⟩
        · refine ⟨fun l hl => ?_, fun l hl => by simp [newRP] at hl⟩
          unfold newRP at hl
          dsimp only at hl
          rw [(List.mem_replicate.1 hl).2]
          exact length_bytesOf _ _
      replace hbm := hid hbm; replace hkm := hid hkm; replace hown := hid hown; replace hR := hid hR
      go_wp2
      go_ret
      exact ⟨m, rfl, hR.out, kW.out.trans hkm.out (fun i hi e => by have := hq4.out; have := hg1.out; have := hg2.out; have := hg3.out; have := hgm.out; have := hw1.out; omega)⟩
end Go.Vk

namespace Go.Vk
open Go.RowKit Go.Proofs
def RP.begin (R : RP) : RP := { R with nowB := R.oldB, nowN := R.oldN, raw := R.oldRaw, put := [], sp := 0, op := true }
theorem own_ne {w : World} {lo e size : Nat} {v : Value} {n : Nat} {xs : List Value} (h : w.ownsRow lo e size v n xs) {b : Nat} {cs : Array Value} {T : TypeId} {fr : Nat × Nat} (hb : Blk w b (.cells cs T fr)) (hT : T ≠ e) : v.ownBlock ≠ some b := by
  intro x
  rcases h.2 with ⟨rfl, _⟩ | ⟨g, cap, cur, rfl, _, hh, _⟩
  · cases x
  · have e1 : g = b := Option.some.inj x
    subst e1
    have := Blk.inj hb hh
    injection this with _ h2 _
    exact hT h2
theorem own_shape {w : World} {lo e size : Nat} {v : Value} {n : Nat} {xs : List Value} (h : w.ownsRow lo e size v n xs) : ∃ a cap, v = .slice a n cap := by
  rcases h.2 with ⟨rfl, rfl⟩ | ⟨g, cap, cur, rfl, _⟩
  · exact ⟨none, 0, rfl⟩
  · exact ⟨_, cap, rfl⟩
theorem own_cell {w : World} {lo e : Nat} {g cap : Nat} {n : Nat} {xs : List Value} (h : w.ownsRow lo e 1 (.slice (some ⟨g, 0, none⟩) n cap) n xs) (j : Nat) (u : Value) (hj : xs[j]? = some u) : w.cell? ⟨g, j, none⟩ = some u := by
  have := World.ownsRow.cells h (g := g) rfl j u hj
  have e : (⟨g, 0, none⟩ : Addr).add j = ⟨g, j, none⟩ := by unfold Addr.add; split <;> simp_all
  rw [e] at this
  exact this
theorem own_hi {w : World} {lo lo' e size g cap : Nat} {n : Nat} {xs : List Value} (h : w.ownsRow lo e size (.slice (some ⟨g, 0, none⟩) n cap) n xs) (hl : lo' ≤ g) : w.ownsRow lo' e size (.slice (some ⟨g, 0, none⟩) n cap) n xs := by
  refine ⟨h.1, ?_⟩
  rcases h.2 with ⟨h2, _⟩ | ⟨g', cap', cur, h2, hb, rest⟩
  · cases h2
  · have e1 : g = g' := by injection h2 with e1; injection e1 with e1; injection e1 with e1
    exact .inr ⟨g', cap', cur, h2, e1 ▸ hl, rest⟩
theorem own_lt {w : World} {lo e size : Nat} {v : Value} {n : Nat} {xs : List Value} (h : w.ownsRow lo e size v n xs) {g : Nat} (hg : v.ownBlock = some g) : g < w.heap.size := by
  rcases h.2 with ⟨rfl, _⟩ | ⟨g', cap, cur, rfl, _, hh, _⟩
  · cases hg
  · have e1 : g' = g := Option.some.inj hg
    subst e1
    by_cases hx : g' < w.heap.size
    · exact hx
    · rw [Array.getElem?_eq_none (by omega)] at hh; cases hh
set_option maxRecDepth 100000 in
set_option maxHeartbeats 1000000 in
theorem rbegin_w {w : World} {m : Nat} {R : RP} {Z : Nat → Prop} (h : RefRep w m R Z) : Calls Tryz.prog 83 #[.pointer (some ⟨m, 0, none⟩)] w fun e w' =>
    e = .returned (.tuple #[]) ∧ RefRep w' m R.begin (fun i => Z i ∨ w.heap.size ≤ i ∧ i < w'.heap.size) ∧ Keeps (· = m) w w' := by
  obtain ⟨⟨OB, ON, NB, NN, OR, RR, PP, uO, uR⟩, h1⟩ := h
  obtain ⟨i0, hi, hz0, hz1, hz2⟩ := info_parts infoRaw
  obtain ⟨l1, l2, l3, l4⟩ := h1.lb
  obtain ⟨gB, cB, eB, _, xB, yB⟩ := h1.ob.slice (by omega)
  obtain ⟨gN, cN, eN, _, xN, yN⟩ := h1.on.slice (by omega)
  have hT := twin_w w gB cB gN cN R.oldB R.oldN yB yN (by omega) (by omega) (by omega) (by omega)
  dsimp only at eB eN
  rw [← eB, ← eN] at hT
  have hb := h1.hm
  unfold refO at hb
  dsimp only at hb
  have c3 := hb.cell 3
  have c4 := hb.cell 4
  simp at c3 c4
  have hml := hb.lt
  rw [eB] at c3
  rw [eN] at c4
  rw [eB, eN] at hT
  rw [l1, l2] at hT
  rw [l1] at c3
  rw [l2] at c4
  replace h1 := hid h1; replace hT := hid hT; replace eB := hid eB; replace eN := hid eN; replace hb := hid hb; replace l1 := hid l1; replace l2 := hid l2; replace l3 := hid l3; replace l4 := hid l4; replace yB := hid yB; replace yN := hid yN; replace xB := hid xB; replace xN := hid xN; replace hi := hid hi; replace hz0 := hid hz0; replace hz1 := hid hz1; replace hz2 := hid hz2
  go_enter Tryz.func83, Tryz.ntmps83
  go_upto_region 2 with (go_at_call 135; refine hT.out.mono ?_; rintro e w1 ⟨v1, v2, rfl, r1, r2, r12, k1⟩; obtain ⟨g1, d1, rfl, n1, n2, s1⟩ := r1.slice (by have := l1.out; omega); obtain ⟨g2, d2, rfl, n3, n4, s2⟩ := r2.slice (by have := l2.out; omega); clear s1 s2; replace r12 := hid r12; have hb1 := k1.blk hb.out (fun f => f); have f1 := hb1.frz; have q5 := hb1.cell 5; have q6 := hb1.cell 6; have q8 := hb1.cell 8; simp at q5 q6 q8; replace r1 := hid r1; replace r2 := hid r2; replace k1 := hid k1; replace hb1 := hid hb1; replace n1 := hid n1; replace n2 := hid n2; replace n3 := hid n3; replace n4 := hid n4)
  have kS : Keeps (· = m) w (((w1.setCell ⟨m, 5, none⟩ (.slice (some ⟨g1, 0, none⟩) R.oldB.length d1)).setCell ⟨m, 6, none⟩ (.slice (some ⟨g2, 0, none⟩) R.oldN.length d2)).setCell ⟨m, 8, none⟩ (.slice none 0 0)) :=
    (((k1.out.mono (G := (· = m)) (fun _ _ f => f.elim)).setCell (p := ⟨m, 5, none⟩) (.inl rfl) _).setCell (p := ⟨m, 6, none⟩) (.inl rfl) _).setCell (p := ⟨m, 8, none⟩) (.inl rfl) _
  have kT : Keeps (· = m) w1 (((w1.setCell ⟨m, 5, none⟩ (.slice (some ⟨g1, 0, none⟩) R.oldB.length d1)).setCell ⟨m, 6, none⟩ (.slice (some ⟨g2, 0, none⟩) R.oldN.length d2)).setCell ⟨m, 8, none⟩ (.slice none 0 0)) :=
    (((Keeps.refl (· = m) w1).setCell (p := ⟨m, 5, none⟩) (.inl rfl) _).setCell (p := ⟨m, 6, none⟩) (.inl rfl) _).setCell (p := ⟨m, 8, none⟩) (.inl rfl) _
  have bS := ((hb1.out.setCell 5 (.slice (some ⟨g1, 0, none⟩) R.oldB.length d1)).setCell 6 (.slice (some ⟨g2, 0, none⟩) R.oldN.length d2)).setCell 8 (.slice none 0 0)
  simp at bS
  have hm1 : m ≠ g1 := fun e => own_ne r1.out hb1.out (by decide) (by rw [e]; rfl)
  have hm2 : m ≠ g2 := fun e => own_ne r2.out hb1.out (by decide) (by rw [e]; rfl)
  have h12 : g1 ≠ g2 := fun e => r12.out (by rw [e]; rfl)
  have rS1 : BoolRow _ w.heap.size (.slice (some ⟨g1, 0, none⟩) R.oldB.length d1) R.oldB := keeps_own (Z := (· = g1)) kT (fun i e => by omega) r1.out (fun x e => (Option.some.inj e).symm)
  have rS2 : BoolRow _ w.heap.size (.slice (some ⟨g2, 0, none⟩) R.oldN.length d2) R.oldN := keeps_own (Z := (· = g2)) kT (fun i e => by omega) r2.out (fun x e => (Option.some.inj e).symm)
  have hall := And.intro bS (And.intro rS1 (And.intro rS2 kS))
  refine wp_gen (fun W => Blk W m (.cells #[.int .i64 R.blocks, .int .i64 R.nodes, .int .i64 R.data, OB, ON, .slice (some ⟨g1, 0, none⟩) R.oldB.length d1, .slice (some ⟨g2, 0, none⟩) R.oldN.length d2, OR, .slice none 0 0, PP, .int .i64 R.sp, .bool R.op, .bool R.dead] 181 (0, 0)) ∧ BoolRow W w.heap.size (.slice (some ⟨g1, 0, none⟩) R.oldB.length d1) R.oldB ∧ BoolRow W w.heap.size (.slice (some ⟨g2, 0, none⟩) R.oldN.length d2) R.oldN ∧ Keeps (· = m) w W) hall ?_
  clear hall bS rS1 rS2 kS kT r1 r2 k1 hb1 f1 q5 q6 q8 n1 n2 n3 n4
  clear w1
  rintro W ⟨bW, rW1, rW2, kW⟩
  have hOR := h1.out.orr
  dsimp only at hOR
  obtain ⟨aR, cR, eR⟩ := own_shape hOR.1
  have hORm : OR.ownBlock ≠ some m := own_ne hOR.1 hb.out (by decide)
  have hORW := keeps_own (Z := fun i => OR.ownBlock = some i) kW (fun i e e2 => hORm (e2 ▸ e)) hOR.1 (fun x e => e)
  have hln := h1.out.lr.1
  have huo := hOR.2.1
  have hRL : ∀ u ∈ uO, ∃ g c, u = .slice (some ⟨g, 0, none⟩) 512 c := fun u hu => by
    obtain ⟨i, hi2, e⟩ := List.getElem_of_mem hu
    have hi3 : i < R.oldRaw.length := by rw [← huo]; exact hi2
    have hl5 := h1.out.l5.1 R.oldRaw[i] (List.getElem_mem hi3)
    have hby := hOR.2.2 i hi3 u (by rw [List.getElem?_eq_getElem hi2, e])
    obtain ⟨g, c, e2, _⟩ := own_form hby (by rw [hl5]; decide)
    exact ⟨g, c, by rw [e2, hl5]⟩
  subst eR
  generalize hn : R.oldRaw.length = n at *
  have hmW := bW.lt
  have hrow0 : W.ownsRow W.heap.size 57 1 (.slice none 0 0) 0 (uO.take 0) := World.ownsRow_nil _ _ _ _
  have hkr := Keeps.refl (· = m) W
  replace bW := hid bW; replace rW1 := hid rW1; replace rW2 := hid rW2; replace kW := hid kW; replace hOR := hid hOR; replace hORm := hid hORm; replace hORW := hid hORW; replace hrow0 := hid hrow0; replace hkr := hid hkr; replace hm1 := hid hm1; replace hm2 := hid hm2; replace h12 := hid h12; replace hn := hid hn; replace huo := hid huo; replace hRL := hid hRL
  clear c3 c4
  go_wp2
  go_loopw [2] (fun i wr => ∃ k v, k ≤ n ∧ i = .int .i64 (k : Nat) ∧ wr.ownsRow W.heap.size 57 1 v k (uO.take k) ∧
    Blk wr m (.cells #[.int .i64 R.blocks, .int .i64 R.nodes, .int .i64 R.data, OB, ON, .slice (some ⟨g1, 0, none⟩) R.oldB.length d1, .slice (some ⟨g2, 0, none⟩) R.oldN.length d2, .slice aR n cR, v, PP, .int .i64 R.sp, .bool R.op, .bool R.dead] 181 (0, 0)) ∧ Keeps (· = m) W wr) (fun i _ => n - (intOf i).toNat)
  case atStart => exact ⟨0, _, by omega, rfl, hrow0.out, bW.out, hkr.out⟩
  case round =>
    obtain ⟨k, v, hk1, rfl, hown, hbm, hkm⟩ := hrel
    have hlt := hkm.size
    have cm7 := hbm.cell 7
    have cm8 := hbm.cell 8
    simp at cm7 cm8
    have cmf := hbm.frz
    have cm9 := hbm.cell 9
    have cm10 := hbm.cell 10
    have cm11 := hbm.cell 11
    simp at cm9 cm10 cm11
    have hORr := keeps_own (Z := fun i => (Value.slice aR n cR).ownBlock = some i) hkm (fun i e e2 => hORm.out (e2 ▸ e)) hORW.out (fun x e => e)
    by_cases hlt2 : k < n
    · have hki : (k : Int) < n := by omega
      have hix : 0 ≤ (k : Int) ∧ (k : Int) < (n : Nat) := by omega
      obtain ⟨gR, cR', eR, _, hgR⟩ := own_form hORr (by omega)
      injection eR with eR _ eR3
      subst eR eR3
      have hku : k < uO.length := by have := huo.out; omega
      obtain ⟨gu, cu, hu⟩ := hRL.out uO[k] (List.getElem_mem hku)
      have ck : wr.cell? ⟨gR, k, none⟩ = some (.slice (some ⟨gu, 0, none⟩) 512 cu) := own_cell hORr k _ (by rw [List.getElem?_eq_getElem hku, hu])
      have hmn : some m ≠ v.ownBlock := fun e => by have := ownBlock_ge hown m e.symm; omega
      have hRn : some gR ≠ v.ownBlock := fun e => by have := ownBlock_ge hown gR e.symm; have hx := own_form hORW.out (by omega); obtain ⟨gg, cc, ee, _, hgg⟩ := hx; injection ee with ee; injection ee with ee; injection ee with ee; omega
      have cm7d : wr.drew.cell? ⟨m, 7, none⟩ = some (.slice (some ⟨gR, 0, none⟩) n cR) := cm7
      have ckd : wr.drew.cell? ⟨gR, k, none⟩ = some (.slice (some ⟨gu, 0, none⟩) 512 cu) := ck
      have cm8d : wr.drew.cell? ⟨m, 8, none⟩ = some v := cm8
      have cm8a := fun o => cell_alloc cm8 o
      have hu1 : uO.take (k + 1) = uO.take k ++ [.slice (some ⟨gu, 0, none⟩) 512 cu] := by rw [List.take_add_one, List.getElem?_eq_getElem hku, hu]; rfl
      replace hbm := hid hbm; replace hkm := hid hkm; replace hORr := hid hORr; replace hu := hid hu; replace hu1 := hid hu1
      go_wp2_with fail
      try go_frame
      go_region_law ((rw [if_pos (by rfl)]; refine wp_appendV (.tmp 27) (.tmp 35) 66 rfl 57 i0 (.slice none 0 0) 1 24 undRaw hi.out hz0.out hz1.out hz2.out rfl (by omega) v k _ rfl (own_lo (World.ownsRow.alloc (World.ownsRow.drew hown) _) (Nat.zero_le _)) ⟨wr.heap.size, 0, none⟩ 1 1 [.slice (some ⟨gu, 0, none⟩) 512 cu] rfl rfl (cell_one_new _ _ _) (fun u hu => by simp at hu; subst hu; rfl) (by omega) (by unfold maxLen; omega) (by omega) ?_; intro g' cap' w3 hrow3 hgr3 hw3; have p8 := cell_grown (cell_alloc cm8d _) hgr3 hmn; have pf := (Blk.grown ((hbm.out.alloc _).drew) hgr3 hmn).frz; replace hrow3 := hid hrow3; replace hw3 := hid hw3; replace hgr3 := hid hgr3))
      all_goals
        have hg' : W.heap.size ≤ g' := by
          rcases hw3.out with ⟨e, _⟩ | e
          · exact ownBlock_ge hown g' e
          · rw [e]; exact Nat.le_trans hlt (by first | (show wr.heap.size ≤ (wr.alloc _).heap.size; rw [World.size_alloc]; omega))
        have hb3 := Blk.grown ((hbm.out.drew).alloc _) hgr3.out hmn
        have hb4 := hb3.setCell 8 (.slice (some ⟨g', 0, none⟩) (k + 1) cap')
        simp at hb4
        have hrow4 := ownsRow_setCell_below (own_hi hrow3.out hg') (a := ⟨m, 8, none⟩) hmW (.slice (some ⟨g', 0, none⟩) (k + 1) cap')
        rw [← hu1.out] at hrow4
        have hk4 : Keeps (· = m) W (w3.setCell ⟨m, 8, none⟩ (.slice (some ⟨g', 0, none⟩) (k + 1) cap')) := (((hkm.out.drew).alloc _).grown hgr3.out (fun i hi => .inr (ownBlock_ge hown i hi))).setCell (.inl rfl) _
        replace hown := hid hown; replace hb3 := hid hb3; replace hb4 := hid hb4; replace hrow4 := hid hrow4; replace hk4 := hid hk4
        clear cm7 cm8 cm9 cm10 cm11 cmf ck cm7d ckd cm8d cm8a p8 pf
        go_wp2
        exact ⟨⟨k + 1, _, by omega, by go_num, hrow4.out, hb4.out, hk4.out⟩, by simp [intOf]; omega⟩
    · have hki : ¬ (k : Int) < n := by omega
      obtain rfl : k = n := by omega
      have hR : RefRep (((wr.setCell ⟨m, 9, none⟩ (.slice none 0 0)).setCell ⟨m, 10, none⟩ (.int .i64 0)).setCell ⟨m, 11, none⟩ (.bool true)) m R.begin (fun i => Z i ∨ w.heap.size ≤ i ∧ i < (((wr.setCell ⟨m, 9, none⟩ (.slice none 0 0)).setCell ⟨m, 10, none⟩ (.int .i64 0)).setCell ⟨m, 11, none⟩ (.bool true)).heap.size) ∧ Keeps (· = m) w (((wr.setCell ⟨m, 9, none⟩ (.slice none 0 0)).setCell ⟨m, 10, none⟩ (.int .i64 0)).setCell ⟨m, 11, none⟩ (.bool true)) := by
        have bE := ((hbm.setCell 9 (.slice none 0 0)).setCell 10 (.int .i64 0)).setCell 11 (.bool true)
        simp at bE
        have kE : Keeps (· = m) wr (((wr.setCell ⟨m, 9, none⟩ (.slice none 0 0)).setCell ⟨m, 10, none⟩ (.int .i64 0)).setCell ⟨m, 11, none⟩ (.bool true)) :=
          (((Keeps.refl (· = m) wr).setCell (p := ⟨m, 9, none⟩) (.inl rfl) _).setCell (p := ⟨m, 10, none⟩) (.inl rfl) _).setCell (p := ⟨m, 11, none⟩) (.inl rfl) _
        generalize ((wr.setCell ⟨m, 9, none⟩ (.slice none 0 0)).setCell ⟨m, 10, none⟩ (.int .i64 0)).setCell ⟨m, 11, none⟩ (.bool true) = wE at bE kE ⊢
        have kWE := hkm.step kE
        have kA := kW.out.step kWE
        have hh := h1.out
        have hsz := kA.size
        have hszW := kE.size
        have hszW2 := hkm.size
        have hszW0 := kW.out.size
        have far : ∀ {y : Value} {e size n : Nat} {xs : List Value}, w.ownsRow 0 e size y n xs → 181 ≠ e → wE.ownsRow 0 e size y n xs := fun {y} {_} {_} {_} {_} h hT => keeps_own (Z := fun i => y.ownBlock = some i) kA (fun i e1 e2 => own_ne h hb.out hT (e2 ▸ e1)) h (fun _ e => e)
        have q1 : w.heap.size ≤ g1 := ownBlock_ge rW1.out g1 rfl
        have q2 : w.heap.size ≤ g2 := ownBlock_ge rW2.out g2 rfl
        have q3 := own_lt rW1.out (g := g1) rfl
        have q4 := own_lt rW2.out (g := g2) rfl
        have hz : ∀ {v : Value}, InZ Z v → InZ (fun i => Z i ∨ w.heap.size ≤ i ∧ i < wE.heap.size) v := fun h g e => .inl (h g e)
        have hsl : uO.take k = uO := by rw [← huo.out, List.take_length]
        have hown' : wE.ownsRow W.heap.size 57 1 v k uO := by
          have := keeps_own (Z := fun i => v.ownBlock = some i) kE (fun i e e2 => by have := ownBlock_ge hown i e; omega) hown (fun _ e => e)
          rwa [hsl] at this
        refine ⟨⟨⟨OB, ON, .slice (some ⟨g1, 0, none⟩) R.oldB.length d1, .slice (some ⟨g2, 0, none⟩) R.oldN.length d2, .slice aR k cR, v, .slice none 0 0, uO, uO⟩, ?_⟩, kA⟩
        refine { hm := bE, ob := far hh.ob (by decide), on := far hh.on (by decide), nb := ?_, nn := ?_, orr := ?_, rr := ?_, pr := World.ownsRow_nil _ _ _ _, zm := .inl hh.zm, zob := hz hh.zob, zon := hz hh.zon, znb := ?_, znn := ?_, zor := hz hh.zor, zr := ?_, zp := ?_, zuO := fun u hu => hz (hh.zuO u hu), zuR := fun u hu => hz (hh.zuO u hu), lb := ⟨l1.out, l2.out, l1.out, l2.out⟩, d1 := ?_, d2 := ?_, d3 := ?_, lr := ⟨hh.lr.1, hh.lr.1⟩, l5 := ⟨hh.l5.1, hh.l5.1⟩ }
        · exact own_lo (keeps_own (Z := (· = g1)) kWE (fun i e e2 => hm1.out (by omega)) rW1.out (fun x e => (Option.some.inj e).symm)) (Nat.zero_le _)
        · exact own_lo (keeps_own (Z := (· = g2)) kWE (fun i e e2 => hm2.out (by omega)) rW2.out (fun x e => (Option.some.inj e).symm)) (Nat.zero_le _)
        · refine ⟨?_, hh.orr.2.1, fun i hi u hu => far (hh.orr.2.2 i hi u hu) (by decide)⟩
          have := far hh.orr.1 (by decide)
          exact this
        · refine ⟨?_, hh.orr.2.1, fun i hi u hu => far (hh.orr.2.2 i hi u hu) (by decide)⟩
          have h9 : R.begin.raw.length = k := hn.out
          rw [h9]; exact own_lo hown' (Nat.zero_le _)
        · intro x e; have := Option.some.inj e; subst this; exact .inr ⟨q1, by show g1 < _; omega⟩
        · intro x e; have := Option.some.inj e; subst this; exact .inr ⟨q2, by show g2 < _; omega⟩
        · intro x e
          have := ownBlock_ge hown' x e
          have := own_lt hown' e
          exact .inr ⟨by omega, by omega⟩
        · intro x e; cases e
        · exact ob_ne h12.out
        · have xb := xB.out
          have xn := xN.out
          have eb := eB.out
          have en := eN.out
          refine ⟨?_, ?_, ?_, ?_⟩
          · show _ ≠ OB.ownBlock; rw [eb]; exact ob_ne (by omega)
          · show _ ≠ ON.ownBlock; rw [en]; exact ob_ne (by omega)
          · show _ ≠ OB.ownBlock; rw [eb]; exact ob_ne (by omega)
          · show _ ≠ ON.ownBlock; rw [en]; exact ob_ne (by omega)
        · intro _ g e e2
          have := ownBlock_ge hown' g e
          have := own_lt hOR.out.1 e2
          omega
      replace hbm := hid hbm; replace hkm := hid hkm; replace hown := hid hown; replace hORr := hid hORr; replace hR := hid hR
      go_wp2
      go_end0
      exact ⟨rfl, hR.out.1, hR.out.2⟩
end Go.Vk
