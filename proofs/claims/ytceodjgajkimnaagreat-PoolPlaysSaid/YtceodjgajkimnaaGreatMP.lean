/- The walks of same and bitmaps of the law. PoolBack, plain: bits turned and turned back. -/
import Derived.Test.YtceodjgajkimnaaGreatMM
import Derived.Test.YtceodjgajkimnaaGreatMN
set_option linter.unusedVariables false

namespace Go.Vk
open Go.RowKit Go.Proofs

/-- A slice that reads as these bytes. -/
def ByteSl (w : World) (v : Value) (l : List UInt8) : Prop :=
  ∃ a cap, v = .slice a l.length cap ∧ (l = [] ∨ ∃ g o, a = some ⟨g, o, none⟩ ∧ ∀ i (h : i < l.length), w.cell? ⟨g, o + i, none⟩ = some (.int .u8 (l[i].toNat : Nat)))
theorem ByteRow.sl {w : World} {lo : Nat} {v : Value} {l : List UInt8} (h : ByteRow w lo v l) : ByteSl w v l := by
  obtain ⟨a, cap, e⟩ := own_shape h
  refine ⟨a, cap, e, ?_⟩
  by_cases hl : l = []
  · exact .inl hl
  · right
    obtain ⟨g, c, e2, _⟩ := own_form h (List.length_pos_iff.2 hl)
    rw [e] at e2
    injection e2 with e2 _ e3
    subst e2 e3
    refine ⟨g, 0, rfl, fun i hi => ?_⟩
    rw [Nat.zero_add]
    rw [e] at h
    exact own_cell h i _ (by rw [List.getElem?_map, List.getElem?_eq_getElem hi]; rfl)
theorem ByteSl.keeps {w w' : World} {v : Value} {l : List UInt8} (h : ByteSl w v l) {Gf : Nat → Prop} (k : Keeps Gf w w') (hG : ∀ g, v.ownBlock = some g → ¬ Gf g) : ByteSl w' v l := by
  obtain ⟨a, cap, rfl, h⟩ := h
  refine ⟨a, cap, rfl, ?_⟩
  rcases h with h | ⟨g, o, rfl, h⟩
  · exact .inl h
  · exact .inr ⟨g, o, rfl, fun i hi => k.cellF (h i hi) (hG g rfl)⟩
set_option maxRecDepth 100000 in
theorem same_w (w : World) (v1 v2 : Value) (l1 l2 : List UInt8) (h1 : ByteSl w v1 l1) (h2 : ByteSl w v2 l2) (b1 : l1.length ≤ 4096) (b2 : l2.length ≤ 4096) :
    Calls Tryz.prog 23 #[v1, v2] w fun e w' => e = .returned (.bool (decide (l1 = l2))) ∧ ∃ m, w' = w.drewN m := by
  obtain ⟨a1, c1, rfl, h1⟩ := h1
  obtain ⟨a2, c2, rfl, h2⟩ := h2
  by_cases hl : l1.length = l2.length
  · obtain ⟨n, hn⟩ : ∃ n, l1.length = n := ⟨_, rfl⟩
    have hn2 : l2.length = n := by omega
    rw [hn] at b1 ⊢
    rw [hn2]
    have hfin : ∀ k, l1.take k = l2.take k → k = n → decide (l1 = l2) = true := fun k hk e => by
      rw [e, ← hn, List.take_length, hn, ← hn2, List.take_length] at hk; simpa using hk
    have hst : ∀ k (x : k < l1.length) (y : k < l2.length), l1.take k = l2.take k → l1[k] = l2[k] → l1.take (k + 1) = l2.take (k + 1) := fun k x y p q => by
      rw [List.take_add_one, List.take_add_one, List.getElem?_eq_getElem x, List.getElem?_eq_getElem y, p, q]
    have hno : ∀ k (x : k < l1.length) (y : k < l2.length), l1[k] ≠ l2[k] → decide (l1 = l2) = false := fun k x y p => by
      simp only [decide_eq_false_iff_not]
      intro e
      subst e
      exact p rfl
    have hcel : ∀ k, k < n → ∃ g1 o1 g2 o2, a1 = some ⟨g1, o1, none⟩ ∧ a2 = some ⟨g2, o2, none⟩ ∧ (∀ (x : k < l1.length), w.cell? ⟨g1, o1 + k, none⟩ = some (.int .u8 (l1[k].toNat : Nat))) ∧ (∀ (y : k < l2.length), w.cell? ⟨g2, o2 + k, none⟩ = some (.int .u8 (l2[k].toNat : Nat))) := fun k hk => by
      rcases h1 with h1 | ⟨g1, o1, e1, h1⟩
      · rw [h1] at hn; simp at hn; omega
      · rcases h2 with h2 | ⟨g2, o2, e2, h2⟩
        · rw [h2] at hn2; simp at hn2; omega
        · exact ⟨g1, o1, g2, o2, e1, e2, fun x => h1 k x, fun y => h2 k y⟩
    replace h1 := hid h1; replace h2 := hid h2; replace hfin := hid hfin; replace hst := hid hst; replace hno := hid hno; replace hcel := hid hcel; replace hn := hid hn; replace hn2 := hid hn2; replace hl := hid hl
    go_enter Tryz.func23, Tryz.ntmps23
    go_wp2
    go_loopw [5] (fun i wr => ∃ k m : Nat, k ≤ n ∧ i = .int .i64 k ∧ wr = w.drewN m ∧ l1.take k = l2.take k) (fun i _ => n - (intOf i).toNat)
    case atStart => exact ⟨0, 0, by omega, rfl, rfl, by simp⟩
    case round =>
      obtain ⟨k, m, hk1, rfl, rfl, hk2⟩ := hrel
      by_cases hlt2 : k < n
      · have hki : (k : Int) < n := by omega
        have hix : 0 ≤ (k : Int) ∧ (k : Int) < (n : Nat) := by omega
        obtain ⟨g1, o1, g2, o2, rfl, rfl, q1, q2⟩ := hcel.out k hlt2
        have x1 : k < l1.length := by have := hn.out; omega
        have x2 : k < l2.length := by have := hn2.out; omega
        replace q1 := q1 x1
        replace q2 := q2 x2
        by_cases he : l1[k] = l2[k]
        · have hs := hst.out k x1 x2 hk2 he
          rw [he] at q1
          generalize l2[k] = y at q1 q2
          replace hs := hid hs; replace hk2 := hid hk2; replace he := hid he
          go_wp2
          go_region
          go_wp2
          exact ⟨⟨k + 1, m + 1, by omega, by go_num, rfl, hs.out⟩, by simp [intOf]; omega⟩
        · have hd := hno.out k x1 x2 he
          have hne : ¬ ((l1[k].toNat : Nat) : Int) = ((l2[k].toNat : Nat) : Int) := fun e => he (UInt8.toNat_inj.1 (by omega))
          generalize l1[k].toNat = y1 at q1 hne
          generalize l2[k].toNat = y2 at q2 hne
          replace hd := hid hd; replace hk2 := hid hk2; replace he := hid he
          go_wp2
          go_region
          go_wp2
          go_ret
          exact ⟨by rw [hd.out]; rfl, m + 1, rfl⟩
      · have hki : ¬ (k : Int) < n := by omega
        have hd := hfin.out k hk2 (by omega)
        replace hd := hid hd; replace hk2 := hid hk2
        go_wp2
        go_ret
        exact ⟨by rw [hd.out]; rfl, m, rfl⟩
  · have hd : decide (l1 = l2) = false := by
      simp only [decide_eq_false_iff_not]
      intro e; exact hl (by rw [e])
    have hne : ¬ (l1.length : Int) = (l2.length : Int) := by omega
    rw [hd]
    clear h1 h2
    generalize l1.length = n1 at *
    generalize l2.length = n2 at *
    replace hd := hid hd
    go_enter Tryz.func23, Tryz.ntmps23
    go_wp2
    go_ret
    exact ⟨rfl, 0, rfl⟩
end Go.Vk

namespace Go.Vk

theorem bits_eq {a b : List UInt8} (ha : a.length = 512) (hb : b.length = 512) (h : ∀ i, i < 4096 → bitOf a i = bitOf b i) : a = b := by
  refine List.ext_getElem (by omega) fun j h1 h2 => ?_
  have hx : byteAt a j = a[j].toNat := by unfold byteAt; rw [List.getD_eq_getElem?_getD, List.getElem?_eq_getElem h1]; rfl
  have hy : byteAt b j = b[j].toNat := by unfold byteAt; rw [List.getD_eq_getElem?_getD, List.getElem?_eq_getElem h2]; rfl
  refine UInt8.toNat_inj.1 ?_
  rw [← hx, ← hy]
  refine Nat.eq_of_testBit_eq fun r => ?_
  by_cases hr : r < 8
  · have := h (8 * j + r) (by omega)
    unfold bitOf at this
    rwa [show (8 * j + r) / 8 = j by omega, show (8 * j + r) % 8 = r by omega] at this
  · have hp : 2 ^ 8 ≤ 2 ^ r := Nat.pow_le_pow_right (by decide) (by omega)
    rw [Nat.testBit_lt_two_pow (Nat.lt_of_lt_of_le (byteAt_lt _ _) hp), Nat.testBit_lt_two_pow (Nat.lt_of_lt_of_le (byteAt_lt _ _) hp)]

/-- What is set beyond b0 is just what the list tells. -/
structure Mine (b0 b : List UInt8) (lo hi f : Nat) (l : List Nat) : Prop where
  nd : l.Nodup
  rg : ∀ x ∈ l, lo + f ≤ x ∧ x < hi + f ∧ bitOf b0 (x - f) = false
  iff : ∀ i, i < 4096 → (bitOf b i = true ↔ bitOf b0 i = true ∨ i + f ∈ l)
theorem Mine.nil (b : List UInt8) (lo hi f : Nat) : Mine b b lo hi f [] := ⟨List.nodup_nil, (fun x h => by cases h), fun i _ => by simp⟩
theorem left_cnt (b : List UInt8) (lo hi : Nat) : leftN b lo hi = ((List.range' lo (hi - lo)).filter (fun i => !bitOf b i)).length := by
  have h1 := List.length_eq_countP_add_countP (bitOf b) (l := List.range' lo (hi - lo))
  rw [List.length_range'] at h1
  unfold leftN setCnt
  rw [← List.countP_eq_length_filter]
  have : (List.range' lo (hi - lo)).countP (fun i => !bitOf b i) = (List.range' lo (hi - lo)).countP (fun a => decide (¬ bitOf b a = true)) := List.countP_congr fun x _ => by simp
  omega
section
variable {b0 b : List UInt8} {lo hi f : Nat} {l : List Nat}
theorem Mine.full (h : Mine b0 b lo hi f l) (hh : hi ≤ 4096) (hf : firstFree b lo hi = none) : l.length = leftN b0 lo hi := by
  rw [left_cnt]
  have hn : (((List.range' lo (hi - lo)).filter (fun i => !bitOf b0 i)).map (· + f)).Nodup := by
    rw [List.nodup_iff_pairwise_ne, List.pairwise_map]
    exact (List.nodup_iff_pairwise_ne.1 ((List.nodup_range' (step := 1)).filter _)).imp (fun {a b} hab e => hab (by omega))
  have hp := (List.perm_ext_iff_of_nodup hn h.nd).2 fun x => by
    simp only [List.mem_map, List.mem_filter, List.mem_range'_1]
    constructor
    · rintro ⟨i, ⟨⟨h1, h2⟩, h3⟩, rfl⟩
      have h4 := firstFree_none hf i h1 (by omega)
      rcases (h.iff i (by omega)).1 h4 with h5 | h5
      · rw [h5] at h3; cases h3
      · exact h5
    · intro hx
      obtain ⟨h1, h2, h3⟩ := h.rg x hx
      exact ⟨x - f, ⟨⟨by omega, by omega⟩, by rw [h3]; rfl⟩, by omega⟩
  have := hp.length_eq
  rw [List.length_map] at this
  exact this.symm
theorem Mine.free (h : Mine b0 b lo hi f l) (hh : hi ≤ 4096) (hl : l.length < leftN b0 lo hi) : ∃ i, firstFree b lo hi = some i := by
  cases hf : firstFree b lo hi with
  | some i => exact ⟨i, rfl⟩
  | none => have := h.full hh hf; omega
theorem Mine.take (h : Mine b0 b lo hi f l) (hb : b.length = 512) (hh : hi ≤ 4096) {i : Nat} (hf : firstFree b lo hi = some i) : Mine b0 (flipB b i) lo hi f (l ++ [i + f]) := by
  obtain ⟨a1, a2, a3, a4⟩ := firstFree_some hf
  have hno : ¬ (bitOf b0 i = true ∨ i + f ∈ l) := fun x => by have := (h.iff i (by omega)).2 x; rw [a3] at this; cases this
  refine ⟨?_, fun x hx => ?_, fun j hj => ?_⟩
  · rw [List.nodup_append]
    refine ⟨h.nd, by simp, fun a ha b hb e => ?_⟩
    rw [List.mem_singleton] at hb
    subst hb e
    exact hno (.inr ha)
  · rcases List.mem_append.1 hx with hx | hx
    · exact h.rg x hx
    · rw [List.mem_singleton.1 hx]
      refine ⟨by omega, by omega, ?_⟩
      rw [show i + f - f = i by omega]
      exact Bool.eq_false_iff.2 fun e => hno (.inl e)
  · rw [bitOf_flip _ _ _ (by omega)]
    by_cases e : j = i
    · subst e
      rw [if_pos rfl, a3]; simp
    · rw [if_neg e, h.iff j hj, List.mem_append, List.mem_singleton]
      constructor
      · rintro (x | x)
        · exact .inl x
        · exact .inr (.inl x)
      · rintro (x | x | x)
        · exact .inl x
        · exact .inr x
        · omega
theorem Mine.drop (h : Mine b0 b lo hi f l) (hb : b.length = 512) (hh : hi ≤ 4096) {k : Nat} (hk : k < l.length) :
    bitOf b (l[k] - f) = true ∧ lo + f ≤ l[k] ∧ l[k] < hi + f ∧ Mine b0 (flipB b (l[k] - f)) lo hi f (l.eraseIdx k) := by
  have hm : l[k] ∈ l := List.getElem_mem hk
  obtain ⟨r1, r2, r3⟩ := h.rg _ hm
  have hbt : bitOf b (l[k] - f) = true := (h.iff _ (by omega)).2 (.inr (by rw [show l[k] - f + f = l[k] by omega]; exact hm))
  have hmem : ∀ x, x ∈ l.eraseIdx k ↔ x ∈ l ∧ x ≠ l[k] := fun x => by
    rw [List.mem_eraseIdx_iff_getElem]
    constructor
    · rintro ⟨i, hi, hne, rfl⟩
      refine ⟨List.getElem_mem hi, fun e => ?_⟩
      have hp := List.pairwise_iff_getElem.1 (List.nodup_iff_pairwise_ne.1 h.nd)
      rcases Nat.lt_or_gt_of_ne hne with h1 | h1
      · exact hp i k hi hk h1 e
      · exact hp k i hk hi h1 e.symm
    · rintro ⟨h1, h2⟩
      obtain ⟨i, hi, rfl⟩ := List.getElem_of_mem h1
      exact ⟨i, hi, fun e => h2 (by subst e; rfl), rfl⟩
  refine ⟨hbt, r1, r2, h.nd.sublist (List.eraseIdx_sublist ..), fun x hx => h.rg x ((hmem x).1 hx).1, fun i hi2 => ?_⟩
  rw [bitOf_flip _ _ _ (by omega), hmem]
  by_cases e : i = l[k] - f
  · rw [if_pos e, hbt]
    constructor
    · intro x; cases x
    · rintro (x | ⟨_, x⟩)
      · rw [e, r3] at x; cases x
      · exact absurd (by omega) x
  · rw [if_neg e, h.iff i hi2]
    constructor
    · rintro (x | x)
      · exact .inl x
      · exact .inr ⟨x, by omega⟩
    · rintro (x | x)
      · exact .inl x
      · exact .inr x.1
theorem Mine.ne (h : Mine b0 b lo hi f l) (hh : hi ≤ 4096) (hl : 0 < l.length) : b ≠ b0 := fun e => by
  have hm : l[0] ∈ l := List.getElem_mem hl
  obtain ⟨r1, r2, r3⟩ := h.rg _ hm
  have := (h.iff (l[0] - f) (by omega)).2 (.inr (by rw [show l[0] - f + f = l[0] by omega]; exact hm))
  rw [e, r3] at this; cases this
theorem Mine.back (h : Mine b0 b lo hi f []) (h0 : b0.length = 512) (h1 : b.length = 512) : b = b0 :=
  bits_eq h1 h0 fun i hi => by
    have := h.iff i hi
    simp at this
    exact this
theorem left_le (b : List UInt8) (lo hi : Nat) : leftN b lo hi ≤ hi - lo := Nat.sub_le _ _
theorem Mine.le (h : Mine b0 b lo hi f l) (hh : hi ≤ 4096) : l.length ≤ 4096 := by
  have hn : (l.map (· - f)).Nodup := by
    rw [List.nodup_iff_pairwise_ne, List.pairwise_map]
    refine (List.nodup_iff_pairwise_ne.1 h.nd).imp_of_mem (fun {a b} ha hb hab e => hab ?_)
    have := (h.rg a ha).1
    have := (h.rg b hb).1
    omega
  have hp : ((l.map (· - f)).countP (fun _ => true)) ≤ 4096 := by
    have := (List.perm_ext_iff_of_nodup hn ((List.nodup_range (n := 4096)).filter (fun i => decide (i + f ∈ l)))).2 fun x => by
      simp only [List.mem_map, List.mem_filter, List.mem_range, decide_eq_true_eq]
      constructor
      · rintro ⟨a, ha, rfl⟩
        have h1 := h.rg a ha
        exact ⟨by omega, by rw [show a - f + f = a by omega]; exact ha⟩
      · rintro ⟨_, h2⟩
        exact ⟨x + f, h2, by omega⟩
    have h3 := this.length_eq
    have h4 := List.length_filter_le (fun i => decide (i + f ∈ l)) (List.range 4096)
    rw [List.length_range] at h4
    simp only [List.countP_true]
    omega
  simpa using hp
end
end Go.Vk
