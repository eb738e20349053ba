/- The walks of same and bitmaps of the law. PoolBack, plain: bits turned and turned back. The walk of bitmaps of the law. PoolBack: the rows of the client, and the pool's calls beside them. -/
import Derived.Test.YtceodjgajkimnaaGreatMM
import Derived.Test.YtceodjgajkimnaaGreatMO
set_option linter.unusedVariables false

namespace Go.Vk
open Go.RowKit Go.Proofs

/-- A slice that reads as these bytes. -/
def ByteSl (w : World) (v : Value) (l : List UInt8) : Prop :=
  ∃ a cap, v = .slice a l.length cap ∧ (l = [] ∨ ∃ g o, a = some ⟨g, o, none⟩ ∧ ∀ i (h : i < l.length), w.cell? ⟨g, o + i, none⟩ = some (.int .u8 (l[i].toNat : Nat)))
theorem ByteRow.sl {w : World} {lo : Nat} {v : Value} {l : List UInt8} (h : ByteRow w lo v l) : ByteSl w v l := by
  obtain ⟨a, cap, e⟩ := own_shape h
  refine ⟨a, cap, e, ?_⟩
  by_cases hl : l = []
  · exact .inl hl
  · right
    obtain ⟨g, c, e2, _⟩ := own_form h (List.length_pos_iff.2 hl)
    rw [e] at e2
    injection e2 with e2 _ e3
    subst e2 e3
    refine ⟨g, 0, rfl, fun i hi => ?_⟩
    rw [Nat.zero_add]
    rw [e] at h
    exact own_cell h i _ (by rw [List.getElem?_map, List.getElem?_eq_getElem hi]; rfl)
theorem ByteSl.keeps {w w' : World} {v : Value} {l : List UInt8} (h : ByteSl w v l) {Gf : Nat → Prop} (k : Keeps Gf w w') (hG : ∀ g, v.ownBlock = some g → ¬ Gf g) : ByteSl w' v l := by
  obtain ⟨a, cap, rfl, h⟩ := h
  refine ⟨a, cap, rfl, ?_⟩
  rcases h with h | ⟨g, o, rfl, h⟩
  · exact .inl h
  · exact .inr ⟨g, o, rfl, fun i hi => k.cellF (h i hi) (hG g rfl)⟩
set_option maxRecDepth 100000 in
theorem same_w (w : World) (v1 v2 : Value) (l1 l2 : List UInt8) (h1 : ByteSl w v1 l1) (h2 : ByteSl w v2 l2) (b1 : l1.length ≤ 4096) (b2 : l2.length ≤ 4096) :
    Calls Tryz.prog 23 #[v1, v2] w fun e w' => e = .returned (.bool (decide (l1 = l2))) ∧ ∃ m, w' = w.drewN m := by
  obtain ⟨a1, c1, rfl, h1⟩ := h1
  obtain ⟨a2, c2, rfl, h2⟩ := h2
  by_cases hl : l1.length = l2.length
  · obtain ⟨n, hn⟩ : ∃ n, l1.length = n := ⟨_, rfl⟩
    have hn2 : l2.length = n := by omega
    rw [hn] at b1 ⊢
    rw [hn2]
    have hfin : ∀ k, l1.take k = l2.take k → k = n → decide (l1 = l2) = true := fun k hk e => by
      rw [e, ← hn, List.take_length, hn, ← hn2, List.take_length] at hk; simpa using hk
    have hst : ∀ k (x : k < l1.length) (y : k < l2.length), l1.take k = l2.take k → l1[k] = l2[k] → l1.take (k + 1) = l2.take (k + 1) := fun k x y p q => by
      rw [List.take_add_one, List.take_add_one, List.getElem?_eq_getElem x, List.getElem?_eq_getElem y, p, q]
    have hno : ∀ k (x : k < l1.length) (y : k < l2.length), l1[k] ≠ l2[k] → decide (l1 = l2) = false := fun k x y p => by
      simp only [decide_eq_false_iff_not]
      intro e
      subst e
      exact p rfl
    have hcel : ∀ k, k < n → ∃ g1 o1 g2 o2, a1 = some ⟨g1, o1, none⟩ ∧ a2 = some ⟨g2, o2, none⟩ ∧ (∀ (x : k < l1.length), w.cell? ⟨g1, o1 + k, none⟩ = some (.int .u8 (l1[k].toNat : Nat))) ∧ (∀ (y : k < l2.length), w.cell? ⟨g2, o2 + k, none⟩ = some (.int .u8 (l2[k].toNat : Nat))) := fun k hk => by
      rcases h1 with h1 | ⟨g1, o1, e1, h1⟩
      · rw [h1] at hn; simp at hn; omega
      · rcases h2 with h2 | ⟨g2, o2, e2, h2⟩
        · rw [h2] at hn2; simp at hn2; omega
        · exact ⟨g1, o1, g2, o2, e1, e2, fun x => h1 k x, fun y => h2 k y⟩
    replace h1 := hid h1; replace h2 := hid h2; replace hfin := hid hfin; replace hst := hid hst; replace hno := hid hno; replace hcel := hid hcel; replace hn := hid hn; replace hn2 := hid hn2; replace hl := hid hl
    go_enter Tryz.func23, Tryz.ntmps23
    go_wp2
    go_loopw [5] (fun i wr => ∃ k m : Nat, k ≤ n ∧ i = .int .i64 k ∧ wr = w.drewN m ∧ l1.take k = l2.take k) (fun i _ => n - (intOf i).toNat)
    case atStart => exact ⟨0, 0, by omega, rfl, rfl, by simp⟩
    case round =>
      obtain ⟨k, m, hk1, rfl, rfl, hk2⟩ := hrel
      by_cases hlt2 : k < n
      · have hki : (k : Int) < n := by omega
        have hix : 0 ≤ (k : Int) ∧ (k : Int) < (n : Nat) := by omega
        obtain ⟨g1, o1, g2, o2, rfl, rfl, q1, q2⟩ := hcel.out k hlt2
        have x1 : k < l1.length := by have := hn.out; omega
        have x2 : k < l2.length := by have := hn2.out; omega
        replace q1 := q1 x1
        replace q2 := q2 x2
        by_cases he : l1[k] = l2[k]
        · have hs := hst.out k x1 x2 hk2 he
          rw [he] at q1
          generalize l2[k] = y at q1 q2
          replace hs := hid hs; replace hk2 := hid hk2; replace he := hid he
          go_wp2
          go_region
          go_wp2
          exact ⟨⟨k + 1, m + 1, by omega, by go_num, rfl, hs.out⟩, by simp [intOf]; omega⟩
        · have hd := hno.out k x1 x2 he
          have hne : ¬ ((l1[k].toNat : Nat) : Int) = ((l2[k].toNat : Nat) : Int) := fun e => he (UInt8.toNat_inj.1 (by omega))
          generalize l1[k].toNat = y1 at q1 hne
          generalize l2[k].toNat = y2 at q2 hne
          replace hd := hid hd; replace hk2 := hid hk2; replace he := hid he
          go_wp2
          go_region
          go_wp2
          go_ret
          exact ⟨by rw [hd.out]; rfl, m + 1, rfl⟩
      · have hki : ¬ (k : Int) < n := by omega
        have hd := hfin.out k hk2 (by omega)
        replace hd := hid hd; replace hk2 := hid hk2
        go_wp2
        go_ret
        exact ⟨by rw [hd.out]; rfl, m, rfl⟩
  · have hd : decide (l1 = l2) = false := by
      simp only [decide_eq_false_iff_not]
      intro e; exact hl (by rw [e])
    have hne : ¬ (l1.length : Int) = (l2.length : Int) := by omega
    rw [hd]
    clear h1 h2
    generalize l1.length = n1 at *
    generalize l2.length = n2 at *
    replace hd := hid hd
    go_enter Tryz.func23, Tryz.ntmps23
    go_wp2
    go_ret
    exact ⟨rfl, 0, rfl⟩
end Go.Vk

namespace Go.Vk

theorem bits_eq {a b : List UInt8} (ha : a.length = 512) (hb : b.length = 512) (h : ∀ i, i < 4096 → bitOf a i = bitOf b i) : a = b := by
  refine List.ext_getElem (by omega) fun j h1 h2 => ?_
  have hx : byteAt a j = a[j].toNat := by unfold byteAt; rw [List.getD_eq_getElem?_getD, List.getElem?_eq_getElem h1]; rfl
  have hy : byteAt b j = b[j].toNat := by unfold byteAt; rw [List.getD_eq_getElem?_getD, List.getElem?_eq_getElem h2]; rfl
  refine UInt8.toNat_inj.1 ?_
  rw [← hx, ← hy]
  refine Nat.eq_of_testBit_eq fun r => ?_
  by_cases hr : r < 8
  · have := h (8 * j + r) (by omega)
    unfold bitOf at this
    rwa [show (8 * j + r) / 8 = j by omega, show (8 * j + r) % 8 = r by omega] at this
  · have hp : 2 ^ 8 ≤ 2 ^ r := Nat.pow_le_pow_right (by decide) (by omega)
    rw [Nat.testBit_lt_two_pow (Nat.lt_of_lt_of_le (byteAt_lt _ _) hp), Nat.testBit_lt_two_pow (Nat.lt_of_lt_of_le (byteAt_lt _ _) hp)]

/-- What is set beyond b0 is just what the list tells. -/
structure Mine (b0 b : List UInt8) (lo hi f : Nat) (l : List Nat) : Prop where
  nd : l.Nodup
  rg : ∀ x ∈ l, lo + f ≤ x ∧ x < hi + f ∧ bitOf b0 (x - f) = false
  iff : ∀ i, i < 4096 → (bitOf b i = true ↔ bitOf b0 i = true ∨ i + f ∈ l)
theorem Mine.nil (b : List UInt8) (lo hi f : Nat) : Mine b b lo hi f [] := ⟨List.nodup_nil, (fun x h => by cases h), fun i _ => by simp⟩
theorem left_cnt (b : List UInt8) (lo hi : Nat) : leftN b lo hi = ((List.range' lo (hi - lo)).filter (fun i => !bitOf b i)).length := by
  have h1 := List.length_eq_countP_add_countP (bitOf b) (l := List.range' lo (hi - lo))
  rw [List.length_range'] at h1
  unfold leftN setCnt
  rw [← List.countP_eq_length_filter]
  have : (List.range' lo (hi - lo)).countP (fun i => !bitOf b i) = (List.range' lo (hi - lo)).countP (fun a => decide (¬ bitOf b a = true)) := List.countP_congr fun x _ => by simp
  omega
section
variable {b0 b : List UInt8} {lo hi f : Nat} {l : List Nat}
theorem Mine.full (h : Mine b0 b lo hi f l) (hh : hi ≤ 4096) (hf : firstFree b lo hi = none) : l.length = leftN b0 lo hi := by
  rw [left_cnt]
  have hn : (((List.range' lo (hi - lo)).filter (fun i => !bitOf b0 i)).map (· + f)).Nodup := by
    rw [List.nodup_iff_pairwise_ne, List.pairwise_map]
    exact (List.nodup_iff_pairwise_ne.1 ((List.nodup_range' (step := 1)).filter _)).imp (fun {a b} hab e => hab (by omega))
  have hp := (List.perm_ext_iff_of_nodup hn h.nd).2 fun x => by
    simp only [List.mem_map, List.mem_filter, List.mem_range'_1]
    constructor
    · rintro ⟨i, ⟨⟨h1, h2⟩, h3⟩, rfl⟩
      have h4 := firstFree_none hf i h1 (by omega)
      rcases (h.iff i (by omega)).1 h4 with h5 | h5
      · rw [h5] at h3; cases h3
      · exact h5
    · intro hx
      obtain ⟨h1, h2, h3⟩ := h.rg x hx
      exact ⟨x - f, ⟨⟨by omega, by omega⟩, by rw [h3]; rfl⟩, by omega⟩
  have := hp.length_eq
  rw [List.length_map] at this
  exact this.symm
theorem Mine.free (h : Mine b0 b lo hi f l) (hh : hi ≤ 4096) (hl : l.length < leftN b0 lo hi) : ∃ i, firstFree b lo hi = some i := by
  cases hf : firstFree b lo hi with
  | some i => exact ⟨i, rfl⟩
  | none => have := h.full hh hf; omega
theorem Mine.take (h : Mine b0 b lo hi f l) (hb : b.length = 512) (hh : hi ≤ 4096) {i : Nat} (hf : firstFree b lo hi = some i) : Mine b0 (flipB b i) lo hi f (l ++ [i + f]) := by
  obtain ⟨a1, a2, a3, a4⟩ := firstFree_some hf
  have hno : ¬ (bitOf b0 i = true ∨ i + f ∈ l) := fun x => by have := (h.iff i (by omega)).2 x; rw [a3] at this; cases this
  refine ⟨?_, fun x hx => ?_, fun j hj => ?_⟩
  · rw [List.nodup_append]
    refine ⟨h.nd, by simp, fun a ha b hb e => ?_⟩
    rw [List.mem_singleton] at hb
    subst hb e
    exact hno (.inr ha)
  · rcases List.mem_append.1 hx with hx | hx
    · exact h.rg x hx
    · rw [List.mem_singleton.1 hx]
      refine ⟨by omega, by omega, ?_⟩
      rw [show i + f - f = i by omega]
      exact Bool.eq_false_iff.2 fun e => hno (.inl e)
  · rw [bitOf_flip _ _ _ (by omega)]
    by_cases e : j = i
    · subst e
      rw [if_pos rfl, a3]; simp
    · rw [if_neg e, h.iff j hj, List.mem_append, List.mem_singleton]
      constructor
      · rintro (x | x)
        · exact .inl x
        · exact .inr (.inl x)
      · rintro (x | x | x)
        · exact .inl x
        · exact .inr x
        · omega
theorem Mine.drop (h : Mine b0 b lo hi f l) (hb : b.length = 512) (hh : hi ≤ 4096) {k : Nat} (hk : k < l.length) :
    bitOf b (l[k] - f) = true ∧ lo + f ≤ l[k] ∧ l[k] < hi + f ∧ Mine b0 (flipB b (l[k] - f)) lo hi f (l.eraseIdx k) := by
  have hm : l[k] ∈ l := List.getElem_mem hk
  obtain ⟨r1, r2, r3⟩ := h.rg _ hm
  have hbt : bitOf b (l[k] - f) = true := (h.iff _ (by omega)).2 (.inr (by rw [show l[k] - f + f = l[k] by omega]; exact hm))
  have hmem : ∀ x, x ∈ l.eraseIdx k ↔ x ∈ l ∧ x ≠ l[k] := fun x => by
    rw [List.mem_eraseIdx_iff_getElem]
    constructor
    · rintro ⟨i, hi, hne, rfl⟩
      refine ⟨List.getElem_mem hi, fun e => ?_⟩
      have hp := List.pairwise_iff_getElem.1 (List.nodup_iff_pairwise_ne.1 h.nd)
      rcases Nat.lt_or_gt_of_ne hne with h1 | h1
      · exact hp i k hi hk h1 e
      · exact hp k i hk hi h1 e.symm
    · rintro ⟨h1, h2⟩
      obtain ⟨i, hi, rfl⟩ := List.getElem_of_mem h1
      exact ⟨i, hi, fun e => h2 (by subst e; rfl), rfl⟩
  refine ⟨hbt, r1, r2, h.nd.sublist (List.eraseIdx_sublist ..), fun x hx => h.rg x ((hmem x).1 hx).1, fun i hi2 => ?_⟩
  rw [bitOf_flip _ _ _ (by omega), hmem]
  by_cases e : i = l[k] - f
  · rw [if_pos e, hbt]
    constructor
    · intro x; cases x
    · rintro (x | ⟨_, x⟩)
      · rw [e, r3] at x; cases x
      · exact absurd (by omega) x
  · rw [if_neg e, h.iff i hi2]
    constructor
    · rintro (x | x)
      · exact .inl x
      · exact .inr ⟨x, by omega⟩
    · rintro (x | x)
      · exact .inl x
      · exact .inr x.1
theorem Mine.ne (h : Mine b0 b lo hi f l) (hh : hi ≤ 4096) (hl : 0 < l.length) : b ≠ b0 := fun e => by
  have hm : l[0] ∈ l := List.getElem_mem hl
  obtain ⟨r1, r2, r3⟩ := h.rg _ hm
  have := (h.iff (l[0] - f) (by omega)).2 (.inr (by rw [show l[0] - f + f = l[0] by omega]; exact hm))
  rw [e, r3] at this; cases this
theorem Mine.back (h : Mine b0 b lo hi f []) (h0 : b0.length = 512) (h1 : b.length = 512) : b = b0 :=
  bits_eq h1 h0 fun i hi => by
    have := h.iff i hi
    simp at this
    exact this
theorem left_le (b : List UInt8) (lo hi : Nat) : leftN b lo hi ≤ hi - lo := Nat.sub_le _ _
theorem Mine.le (h : Mine b0 b lo hi f l) (hh : hi ≤ 4096) : l.length ≤ 4096 := by
  have hn : (l.map (· - f)).Nodup := by
    rw [List.nodup_iff_pairwise_ne, List.pairwise_map]
    refine (List.nodup_iff_pairwise_ne.1 h.nd).imp_of_mem (fun {a b} ha hb hab e => hab ?_)
    have := (h.rg a ha).1
    have := (h.rg b hb).1
    omega
  have hp : ((l.map (· - f)).countP (fun _ => true)) ≤ 4096 := by
    have := (List.perm_ext_iff_of_nodup hn ((List.nodup_range (n := 4096)).filter (fun i => decide (i + f ∈ l)))).2 fun x => by
      simp only [List.mem_map, List.mem_filter, List.mem_range, decide_eq_true_eq]
      constructor
      · rintro ⟨a, ha, rfl⟩
        have h1 := h.rg a ha
        exact ⟨by omega, by rw [show a - f + f = a by omega]; exact ha⟩
      · rintro ⟨_, h2⟩
        exact ⟨x + f, h2, by omega⟩
    have h3 := this.length_eq
    have h4 := List.length_filter_le (fun i => decide (i + f ∈ l)) (List.range 4096)
    rw [List.length_range] at h4
    simp only [List.countP_true]
    omega
  simpa using hp
end
end Go.Vk

namespace Go.Vk
open Go.RowKit Go.Proofs

/-- A pool of the client's, both bitmaps known. -/
structure Pst (w : World) (C : TxC) (p : Nat) (bs ns : List UInt8) (X : Nat → Prop) : Prop where
  st : PoolSt w C bs ns 0 X
  hp : Blk w p (poolO C.t)
  xp : X p
theorem Pst.call {w w' : World} {C : TxC} {p : Nat} {bs ns bs' ns' : List UInt8} {X : Nat → Prop} (h : Pst w C p bs ns X) (k : Keeps (KF C) w w') (h' : PoolSt w' C bs' ns' 0 X) : Pst w' C p bs' ns' X :=
  ⟨h', h.st.blk k h.hp h.xp, h.xp⟩
theorem Pst.quiet {w w' : World} {C : TxC} {p : Nat} {bs ns : List UInt8} {X : Nat → Prop} (h : Pst w C p bs ns X) (k : Keeps (fun _ => False) w w') : Pst w' C p bs ns X :=
  ⟨h.st.quiet k, k.blk h.hp (fun f => f), h.xp⟩
def BmPost (w : World) (C : TxC) (p : Nat) (bs ns : List UInt8) (X : Nat → Prop) (e : Ending) (w' : World) : Prop :=
  ∃ v, e = .returned v ∧ ByteRow w' w.heap.size v (bs ++ ns) ∧ Pst w' C p bs ns (fun i => X i ∨ w.heap.size ≤ i ∧ i < w'.heap.size) ∧ Keeps (KF C) w w'
theorem byteRow_snoc {W : World} {lo g cap : Nat} {l : List UInt8} {y : UInt8} (h : W.ownsRow lo 5 1 (.slice (some ⟨g, 0, none⟩) (l.length + 1) cap) (l.length + 1) (l.map B ++ [.int .u8 (y.toNat : Nat)])) : ByteRow W lo (.slice (some ⟨g, 0, none⟩) (l.length + 1) cap) (l ++ [y]) := by
  unfold ByteRow
  rw [List.map_append, List.length_append]; exact h
set_option maxRecDepth 100000 in
set_option maxHeartbeats 1000000 in
theorem bitmaps_w {w : World} {C : TxC} {p : Nat} {bs ns : List UInt8} {X : Nat → Prop} (h : Pst w C p bs ns X) : Calls Tryz.prog 22 #[.pointer (some ⟨p, 0, none⟩)] w (BmPost w C p bs ns X) := by
  have l1 := h.st.len0
  have l2 := h.st.len1
  have c0 := h.hp.cell 0
  simp at c0
  have hG0 := h.st.get false
  have hA : ∀ (e : Ending) (w1 : World), (∃ g k, e = .returned (.tuple #[.slice (some ⟨g, 0, none⟩) 512 (512 + k), .int .i64 0]) ∧ w.heap.size ≤ g ∧ Blk w1 g (bytesO ((if false = true then ns else bs) ++ zeros k)) ∧ PoolSt w1 C bs ns 0 (fun i => X i ∨ w.heap.size ≤ i ∧ i < w1.heap.size) ∧ Keeps (KF C) w w1) →
      ∃ g1 k1, e = .returned (.tuple #[.slice (some ⟨g1, 0, none⟩) 512 (512 + k1), .int .i64 0]) ∧ w1.cell? ⟨p, 0, none⟩ = some (.pointer (some ⟨C.t, 0, none⟩)) ∧
        Calls Tryz.prog 58 #[.pointer (some ⟨C.t, 0, none⟩), .int .i64 1] w1 fun e w2 => ∃ g2 k2, e = .returned (.tuple #[.slice (some ⟨g2, 0, none⟩) 512 (512 + k2), .int .i64 0]) ∧
          (∀ w3, Keeps (fun _ => False) w2 w3 → ∀ k (hk : k < bs.length), w3.cell? ⟨g1, k, none⟩ = some (.int .u8 (bs[k].toNat : Nat))) ∧
          (∀ w3, Keeps (fun _ => False) w2 w3 → ∀ k (hk : k < ns.length), w3.cell? ⟨g2, k, none⟩ = some (.int .u8 (ns[k].toNat : Nat))) ∧
          (∀ w3 v, Keeps (fun _ => False) w2 w3 → ByteRow w3 w2.heap.size v (bs ++ ns) → BmPost w C p bs ns X (.returned v) w3) := by
    rintro e w1 ⟨g1, k1, rfl, a1, a2, a3, a4⟩
    have hP1 : Pst w1 C p bs ns (fun i => X i ∨ w.heap.size ≤ i ∧ i < w1.heap.size) := ⟨a3, h.st.blk a4 h.hp h.xp, .inl h.xp⟩
    refine ⟨g1, k1, rfl, by have := hP1.hp.cell 0; simpa using this, (a3.get true).mono ?_⟩
    rintro e w2 ⟨g2, k2, rfl, b1, b2, b3, b4⟩
    have a2' : Blk w1 g1 (bytesO (bs ++ zeros k1)) := a2
    have b2' : Blk w2 g2 (bytesO (ns ++ zeros k2)) := b2
    have x1 : Blk w2 g1 (bytesO (bs ++ zeros k1)) := b4.blk a2' (a3.notF (.inr ⟨a1, a2.lt⟩))
    have hs1 := a4.size
    have hs2 := b4.size
    refine ⟨g2, k2, rfl, fun w3 k3 k hk => ?_, fun w3 k3 k hk => ?_, fun w3 v k3 hv => ⟨v, rfl, own_lo hv (by omega), ⟨?_, ?_, .inl h.xp⟩, (a4.step b4).step (k3.mono fun _ _ f => f.elim)⟩⟩
    · have := (k3.blk x1 (fun f => f)).cell k
      simp at this
      rw [this, List.getElem?_append_left (by simpa using hk)]
      simp [hk, B]
    · have := (k3.blk b2' (fun f => f)).cell k
      simp at this
      rw [this, List.getElem?_append_left (by simpa using hk)]
      simp [hk, B]
    · have hs3 := k3.size
      refine b3.grow k3 (fun _ _ f => f.elim) fun i hi => ?_
      rcases hi with hi | ⟨hi, hj⟩
      · exact ⟨by have := h.st.lt i hi; omega, .inl (.inl (.inl hi))⟩
      · refine ⟨hj, ?_⟩
        by_cases e1 : i < w1.heap.size
        · exact .inl (.inl (.inr ⟨hi, e1⟩))
        · by_cases e2 : i < w2.heap.size
          · exact .inl (.inr ⟨by omega, e2⟩)
          · exact .inr (by omega)
    · exact k3.blk (b4.blk (a4.blk h.hp (h.st.notF h.xp)) (a3.notF (.inl h.xp))) (fun f => f)
  generalize BmPost w C p bs ns X = Post at hA ⊢
  obtain ⟨i0, hi, hz0, hz1, hz2⟩ := info_parts info5
  replace h := hid h; replace hG0 := hid hG0; replace hA := hid hA; replace hi := hid hi; replace hz0 := hid hz0; replace hz1 := hid hz1; replace hz2 := hid hz2; replace l1 := hid l1; replace l2 := hid l2
  go_enter Tryz.func22, Tryz.ntmps22
  go_wp2_with (first
    | (go_at_call_of 58 (Value.int .i64 0); refine hG0.out.mono ?_; intro e w1 hx; obtain ⟨g1, k1, rfl, d0, hG1⟩ := hA.out _ _ hx; clear hx; replace hG1 := hid hG1)
    | (go_at_call 58; refine hG1.out.mono ?_; rintro e w2 ⟨g2, k2, rfl, hc1, hc2, hF⟩; replace hc1 := hid hc1; replace hc2 := hid hc2; replace hF := hid hF)
    | (go_at_call 19; refine (num_w _ _).mono ?_; rintro e w' ⟨rfl, rfl⟩))
  have hk22 := Keeps.refl (fun _ => False) w2
  have hnil : ByteRow w2 w2.heap.size (.slice none 0 0) [] := World.ownsRow_nil _ _ _ _
  have hsn1 : ∀ k (hk : k < bs.length), bs.take (k + 1) = bs.take k ++ [bs[k]] := fun k hk => by rw [List.take_add_one, List.getElem?_eq_getElem hk]; rfl
  have hsn2 : ∀ k (hk : k < ns.length), ns.take (k + 1) = ns.take k ++ [ns[k]] := fun k hk => by rw [List.take_add_one, List.getElem?_eq_getElem hk]; rfl
  have hle1 : ∀ k, (bs.take k).length ≤ 512 := fun k => by rw [List.length_take, l1.out]; omega
  have hle2 : ∀ k, (bs ++ ns.take k).length ≤ 1024 := fun k => by rw [List.length_append, List.length_take, l2.out, l1.out]; omega
  have hf1 : bs.take 512 = bs ++ ns.take 0 := by rw [← l1.out, List.take_length]; simp
  have hf2 : bs ++ ns.take 512 = bs ++ ns := by rw [← l2.out, List.take_length]
  clear hG0 hA hG1 d0 h
  replace hk22 := hid hk22; replace hnil := hid hnil; replace hsn1 := hid hsn1; replace hsn2 := hid hsn2; replace hle1 := hid hle1; replace hle2 := hid hle2; replace hf1 := hid hf1; replace hf2 := hid hf2
  go_loopw [7, 8] (fun v i wr => ∃ k : Nat, k ≤ 512 ∧ i = .int .i64 k ∧ ByteRow wr w2.heap.size v (bs.take k) ∧ Keeps (fun _ => False) w2 wr) (fun _ i _ => 512 - (intOf i).toNat)
  case atStart => exact ⟨0, by omega, rfl, hnil.out, hk22.out⟩
  case round =>
    obtain ⟨k, hk1, rfl, hown, hk2⟩ := hrel
    by_cases hlt2 : k < 512
    · have hki : (k : Int) < 512 := by omega
      have hix : 0 ≤ (k : Int) ∧ (k : Int) < (512 : Nat) := by omega
      have hkl : k < bs.length := by have := l1.out; omega
      have hc := hc1.out wr hk2 k hkl
      have hs := hsn1.out k hkl
      have hll := hle1.out k
      generalize bs[k] = y at hc hs
      generalize bs.take k = cur at hown hs hll
      unfold ByteRow at hown
      replace hk2 := hid hk2; replace hs := hid hs
      go_wp2_with (at_builtin; refine wpList_append_own _ rfl _ _ 57 rfl w2.heap.size 5 i0 (.int .u8 0) 1 1 und22 hi.out hz0.out hz1.out hz2.out rfl (by decide) _ _ _ rfl (hown.alloc _) ⟨wr.heap.size, 0, none⟩ 1 1 [.int .u8 (y.toNat : Nat)] rfl rfl ?c1 ?c2 ?c3 ?c4 ?c5 ?_)
      case c1 =>
        intro j u hj
        match j, hj with
        | 0, hj => simp at hj; subst hj; simp [Addr.add]
      case c2 => intro u hu; simp at hu; subst hu; rfl
      case c3 => unfold maxLen; simp; omega
      case c4 => simp; omega
      case c5 => have := hk2.out.size; simp; omega
      · intro v' w1 hown' hgrow hx
        have hk3 := (hk2.out.alloc _).grown hgrow (fun k hk => .inr (ownBlock_ge hown k hk))
        have hown2 : ByteRow w1 w2.heap.size v' (bs.take (k + 1)) := by
          rw [hs.out]; unfold ByteRow; rw [List.map_append, List.length_append]; exact hown'
        replace hown' := hid hown'; replace hk3 := hid hk3; replace hgrow := hid hgrow; replace hown := hid hown; replace hown2 := hid hown2
        clear hc
        go_wp2
        exact ⟨⟨k + 1, by omega, by go_num, hown2.out, hk3.out⟩, by simp [intOf]; omega⟩
    · have hki : ¬ (k : Int) < 512 := by omega
      obtain rfl : k = 512 := by omega
      rw [hf1.out] at hown
      replace hk2 := hid hk2; replace hown := hid hown
      go_wp2
      go_loopw [7, 9] (fun v i wr => ∃ k : Nat, k ≤ 512 ∧ i = .int .i64 k ∧ ByteRow wr w2.heap.size v (bs ++ ns.take k) ∧ Keeps (fun _ => False) w2 wr) (fun _ i _ => 512 - (intOf i).toNat)
      case atStart => exact ⟨0, by omega, rfl, hown.out, hk2.out⟩
      case round =>
        obtain ⟨k, hk1, rfl, hown, hk2⟩ := hrel
        by_cases hlt2 : k < 512
        · have hki : (k : Int) < 512 := by omega
          have hix : 0 ≤ (k : Int) ∧ (k : Int) < (512 : Nat) := by omega
          have hkl : k < ns.length := by have := l2.out; omega
          have hc := hc2.out wr hk2 k hkl
          have hs : bs ++ ns.take (k + 1) = (bs ++ ns.take k) ++ [ns[k]] := by rw [hsn2.out k hkl, List.append_assoc]
          have hll := hle2.out k
          generalize ns[k] = y at hc hs
          generalize bs ++ ns.take k = cur at hown hs hll
          unfold ByteRow at hown
          replace hk2 := hid hk2; replace hs := hid hs
          go_wp2_with (at_builtin; refine wpList_append_own _ rfl _ _ 57 rfl w2.heap.size 5 i0 (.int .u8 0) 1 1 und22 hi.out hz0.out hz1.out hz2.out rfl (by decide) _ _ _ rfl (hown.alloc _) ⟨wr.heap.size, 0, none⟩ 1 1 [.int .u8 (y.toNat : Nat)] rfl rfl ?c1 ?c2 ?c3 ?c4 ?c5 ?_)
          case c1 =>
            intro j u hj
            match j, hj with
            | 0, hj => simp at hj; subst hj; simp [Addr.add]
          case c2 => intro u hu; simp at hu; subst hu; rfl
          case c3 => unfold maxLen; simp; omega
          case c4 => simp; omega
          case c5 => have := hk2.out.size; simp; omega
          · intro v' w1 hown' hgrow hx
            have hk3 := (hk2.out.alloc _).grown hgrow (fun k hk => .inr (ownBlock_ge hown k hk))
            have hown2 : ByteRow w1 w2.heap.size v' (bs ++ ns.take (k + 1)) := by
              rw [hs.out]; unfold ByteRow; rw [List.map_append, List.length_append]; exact hown'
            replace hown' := hid hown'; replace hk3 := hid hk3; replace hgrow := hid hgrow; replace hown := hid hown; replace hown2 := hid hown2
            clear hc
            go_wp2
            exact ⟨⟨k + 1, by omega, by go_num, hown2.out, hk3.out⟩, by simp [intOf]; omega⟩
        · have hki : ¬ (k : Int) < 512 := by omega
          obtain rfl : k = 512 := by omega
          rw [hf2.out] at hown
          have hfin := hF.out _ _ hk2 hown
          replace hk2 := hid hk2; replace hown := hid hown; replace hfin := hid hfin
          go_wp2
          exact hfin.out
end Go.Vk

namespace Go.Vk
open Go.RowKit Go.Proofs

/-- The pool, the bitmaps as they were, and the row of what is taken since: l is taken, lr stands in the row. -/
structure Bk (w0 w : World) (C : TxC) (p : Nat) (bs0 ns0 bs ns : List UInt8) (nd : Bool) (X : Nat → Prop) (vw vm : Value) (l lr : List Nat) : Prop where
  ps : Pst w C p bs ns X
  was : ByteRow w 0 vw (bs0 ++ ns0)
  zw : InZ X vw
  row : IntRow w 0 vm lr
  zm : InZ X vm
  dis : ∀ g, vm.ownBlock = some g → vw.ownBlock ≠ some g
  other : kB bs ns (!nd) = kB bs0 ns0 (!nd)
  mine : Mine (kB bs0 ns0 nd) (kB bs ns nd) (kLo C.G nd) (kHi C.G nd) nd.toNat l
  k : Keeps (fun _ => False) w0 w
  lo : ∀ i, X i ∨ KF C i → w0.heap.size ≤ i
section
variable {w0 w w' : World} {C : TxC} {p : Nat} {bs0 ns0 bs ns : List UInt8} {nd : Bool} {X : Nat → Prop} {vw vm : Value} {l lr : List Nat}
theorem Pst.lenK (h : Pst w C p bs ns X) (nd : Bool) : (kB bs ns nd).length = 512 := by
  cases nd
  · exact h.st.len0
  · exact h.st.len1
theorem Bk.call (h : Bk w0 w C p bs0 ns0 bs ns nd X vw vm l lr) (k : Keeps (KF C) w w') {bs' ns' : List UInt8} {l' : List Nat} (h' : PoolSt w' C bs' ns' 0 X) (ho : kB bs' ns' (!nd) = kB bs ns (!nd))
    (hm : Mine (kB bs0 ns0 nd) (kB bs' ns' nd) (kLo C.G nd) (kHi C.G nd) nd.toNat l') : Bk w0 w' C p bs0 ns0 bs' ns' nd X vw vm l' lr :=
  ⟨h.ps.call k h', keeps_own k (fun g e => h.ps.st.notF e) h.was h.zw, h.zw, h.row.keeps k (fun g e f => h.ps.st.notF (h.zm g e) f), h.zm, h.dis, ho.trans h.other, hm, h.k.trans k (fun i hi e => by have := h.lo i (.inr e); omega), h.lo⟩
/-- The client's own doing: nothing of the pool's, and of the rows only the one of what is taken. -/
theorem Bk.own (h : Bk w0 w C p bs0 ns0 bs ns nd X vw vm l lr) {Gf : Nat → Prop} (k : Keeps Gf w w') (hG : ∀ i, i < w.heap.size → Gf i → vm.ownBlock = some i) {vm' : Value} {lr' : List Nat} (hr : IntRow w' 0 vm' lr') (hv : ∀ g, vm'.ownBlock = some g → vm.ownBlock = some g ∨ w.heap.size ≤ g) :
    Bk w0 w' C p bs0 ns0 bs ns nd (fun i => X i ∨ w.heap.size ≤ i ∧ i < w'.heap.size) vw vm' l lr' := by
  have hpl := h.ps.hp.lt
  have hno : ∀ i, i < w.heap.size → vm.ownBlock ≠ some i → ¬ Gf i := fun i hi hn f => hn (hG i hi f)
  have hz := k.size
  have hkz := h.k.size
  refine ⟨⟨h.ps.st.grow k (fun i hi f => h.zm i (hG i hi f)) (fun i hi => ?_), k.blk h.ps.hp (hno _ hpl (fun e => own_ne h.row h.ps.hp (by decide) e)), .inl h.ps.xp⟩, ?_, fun g e => .inl (h.zw g e), hr, fun g e => ?_, fun g e e2 => ?_, h.other, h.mine, ?_, fun i hi => ?_⟩
  · rcases hi with hi | hi
    · have := h.ps.st.lt i hi; exact ⟨by omega, .inl hi⟩
    · exact ⟨hi.2, .inr hi.1⟩
  · exact keeps_own (Z := fun g => vw.ownBlock = some g) k (fun g e => hno g (own_lt h.was e) (fun e2 => h.dis g e2 e)) h.was (fun _ e => e)
  · rcases hv g e with y | y
    · exact .inl (h.zm g y)
    · exact .inr ⟨y, own_lt hr e⟩
  · rcases hv g e with y | y
    · exact h.dis g y e2
    · have := own_lt h.was e2; omega
  · refine h.k.trans k (fun i hi f => ?_)
    have := h.lo i (.inl (h.zm i (hG i (by omega) f)))
    omega
  · rcases hi with (hi | hi) | hi
    · exact h.lo i (.inl hi)
    · omega
    · exact h.lo i (.inr hi)
theorem Bk.quiet (h : Bk w0 w C p bs0 ns0 bs ns nd X vw vm l lr) (k : Keeps (fun _ => False) w w') : Bk w0 w' C p bs0 ns0 bs ns nd X vw vm l lr :=
  h.call (k.mono fun _ _ f => f.elim) (h.ps.st.quiet k) rfl h.mine
theorem Bk.take (h : Bk w0 w C p bs0 ns0 bs ns nd X vw vm l lr) (hl : l.length < leftN (kB bs0 ns0 nd) (kLo C.G nd) (kHi C.G nd)) : Calls Tryz.prog 17 #[.pointer (some ⟨p, 0, none⟩), .bool nd] w fun e w' =>
    ∃ (x : Nat) (bs' ns' : List UInt8), e = .returned (.tuple #[.int .i64 x, .int .i64 (0 : Nat)]) ∧ Bk w0 w' C p bs0 ns0 bs' ns' nd X vw vm (l ++ [x]) lr := by
  have hhi := kHi_le h.ps.st.geo nd
  obtain ⟨i, hi⟩ := h.mine.free (by omega) hl
  refine (takes_w h.ps.st h.ps.hp h.ps.xp nd).mono ?_
  rintro e w' ⟨y1, y2⟩
  rw [tkF_eq, hi] at y2
  obtain ⟨rfl, y3⟩ := y2
  refine ⟨_, _, _, rfl, h.call y1 y3 (by cases nd <;> rfl) ?_⟩
  have : kB (if nd = true then bs else flipB bs i) (if nd = true then flipB ns i else ns) nd = flipB (kB bs ns nd) i := by cases nd <;> rfl
  rw [this]
  exact h.mine.take (h.ps.lenK nd) (by omega) hi
theorem Bk.push (h : Bk w0 w C p bs0 ns0 bs ns nd X vw vm l lr) {x g cap : Nat} (hgr : (w.alloc (.cells #[.int .i64 x] 3 (0, 0))).grownBy w' vm.ownBlock) (hrow : w'.ownsRow 0 3 1 (.slice (some ⟨g, 0, none⟩) (lr.length + 1) cap) (lr.length + 1) (lr.map natV ++ [.int .i64 x]))
    (hor : (vm.ownBlock = some g ∧ w'.heap.size = (w.alloc (.cells #[.int .i64 x] 3 (0, 0))).heap.size) ∨ g = (w.alloc (.cells #[.int .i64 x] 3 (0, 0))).heap.size) :
    ∃ X', Bk w0 w' C p bs0 ns0 bs ns nd X' vw (.slice (some ⟨g, 0, none⟩) (lr.length + 1) cap) l (lr ++ [x]) := by
  have k : Keeps (fun i => vm.ownBlock = some i) w w' := ((Keeps.refl _ w).alloc _).grown hgr (fun k e => .inl e)
  refine ⟨_, h.own k (fun i _ e => e) ?_ (fun g' e => ?_)⟩
  · unfold IntRow; rw [natV_snoc, List.length_append]; exact hrow
  · have : g = g' := Option.some.inj e
    subst this
    rcases hor with ⟨e, _⟩ | e
    · exact .inl e
    · right; rw [World.size_alloc] at e; omega
theorem Bk.drop (h : Bk w0 w C p bs0 ns0 bs ns nd X vw vm l lr) {j : Nat} (hj : j < l.length) : Calls Tryz.prog 25 #[.pointer (some ⟨p, 0, none⟩), .bool nd, .int .i64 (l[j] : Nat)] w fun e w' =>
    e = .returned (.int .i64 (0 : Nat)) ∧ ∃ bs' ns' : List UInt8, Bk w0 w' C p bs0 ns0 bs' ns' nd X vw vm (l.eraseIdx j) lr := by
  have hhi := kHi_le h.ps.st.geo nd
  obtain ⟨a1, a2, a3, a4⟩ := h.mine.drop (h.ps.lenK nd) (by omega) hj
  have hin : inSpan C.G nd l[j] := by
    cases nd
    · simp [kLo, kHi] at a2 a3; exact ⟨a2, a3⟩
    · simp [kLo, kHi] at a2 a3; exact ⟨by omega, by omega⟩
  refine (drops_w h.ps.st h.ps.hp h.ps.xp nd _ hin).mono ?_
  rintro e w' ⟨rfl, y2, y3⟩
  cases nd
  · simp only [kB, Bool.toNat_false, Nat.sub_zero, Bool.false_eq_true, if_false] at a1 a4
    have e1 : drE C.G bs ns false l[j] = 0 := by simp [drE, a1]
    have e2 : drB bs false l[j] = flipB bs l[j] := by simp [drB, a1]
    have e3 : drN ns false l[j] = ns := by simp [drN]
    rw [e2, e3] at y2
    rw [e1]
    exact ⟨rfl, _, _, h.call y3 y2 rfl a4⟩
  · simp only [kB, Bool.toNat_true, if_true] at a1 a4
    have e1 : drE C.G bs ns true l[j] = 0 := by simp [drE, a1]
    have e2 : drB bs true l[j] = bs := by simp [drB]
    have e3 : drN ns true l[j] = flipB ns (l[j] - 1) := by simp [drN, a1]
    rw [e2, e3] at y2
    rw [e1]
    exact ⟨rfl, _, _, h.call y3 y2 rfl a4⟩
theorem Bk.without (h : Bk w0 w C p bs0 ns0 bs ns nd X vw vm l lr) (hl : lr.length ≤ 4096) (j : Nat) : Calls Tryz.prog 26 #[vm, .int .i64 j] w fun e w' =>
    ∃ (a : Option Addr) (cap : Nat) (X' : Nat → Prop), e = .returned (.slice a (lr.eraseIdx j).length cap) ∧ Bk w0 w' C p bs0 ns0 bs ns nd X' vw (.slice a (lr.eraseIdx j).length cap) l (lr.eraseIdx j) := by
  refine (without_w w 0 vm lr h.row hl j).mono ?_
  rintro e w' ⟨u, rfl, hr, hk⟩
  obtain ⟨a, cap, rfl⟩ := own_shape hr
  exact ⟨a, cap, _, rfl, h.own hk (fun _ _ f => f.elim) (hr.lo (Nat.zero_le _)) (fun g e => .inr (ownBlock_ge hr g e))⟩
/-- The bitmaps told now, with those told then. -/
theorem Bk.bitmaps (h : Bk w0 w C p bs0 ns0 bs ns nd X vw vm l lr) : Calls Tryz.prog 22 #[.pointer (some ⟨p, 0, none⟩)] w fun e w' =>
    ∃ v X', e = .returned v ∧ ByteRow w' 0 v (bs ++ ns) ∧ Bk w0 w' C p bs0 ns0 bs ns nd X' vw vm l lr := by
  refine (bitmaps_w h.ps).mono ?_
  rintro e w' ⟨v, rfl, y1, y2, y3⟩
  have hz := y3.size
  have hkz := h.k.size
  have hc := h.call y3 (bs' := bs) (ns' := ns) (l' := l) (y2.st.grow (Keeps.refl (fun _ => False) w') (fun _ _ f => f.elim) (Y := X) (fun i hi => ⟨by have := h.ps.st.lt i hi; omega, .inl (.inl hi)⟩)) rfl h.mine
  refine ⟨v, _, rfl, own_lo y1 (Nat.zero_le _), ⟨y2, hc.was, fun g e => .inl (hc.zw g e), hc.row, fun g e => .inl (hc.zm g e), hc.dis, hc.other, hc.mine, hc.k, fun i hi => ?_⟩⟩
  rcases hi with (hi | hi) | hi
  · exact h.lo i (.inl hi)
  · omega
  · exact h.lo i (.inr hi)
theorem Bk.same (h : Bk w0 w C p bs0 ns0 bs ns nd X vw vm l lr) (l1 : bs0.length = 512) (l2 : ns0.length = 512) {v : Value} (hv : ByteRow w 0 v (bs ++ ns)) : Calls Tryz.prog 23 #[v, vw] w fun e w' =>
    e = .returned (.bool (decide (l = []))) ∧ Bk w0 w' C p bs0 ns0 bs ns nd X vw vm l lr := by
  have l3 := h.ps.st.len0
  have l4 := h.ps.st.len1
  have hhi := kHi_le h.ps.st.geo nd
  refine (same_w w v vw _ _ hv.sl h.was.sl (by rw [List.length_append]; omega) (by rw [List.length_append]; omega)).mono ?_
  rintro e w' ⟨rfl, m, rfl⟩
  have hd : decide (bs ++ ns = bs0 ++ ns0) = decide (l = []) := by
    rw [decide_eq_decide]
    constructor
    · intro e
      obtain ⟨e1, e2⟩ := List.append_inj e (by omega)
      cases hl : l with
      | nil => rfl
      | cons x r =>
        refine absurd ?_ (h.mine.ne (by omega) (by rw [hl]; simp))
        rw [e1, e2]
    · intro e
      have hm := h.mine
      rw [e] at hm
      have hb := hm.back (by cases nd; exact l1; exact l2) (h.ps.lenK nd)
      have ho := h.other
      cases nd
      · have e1 : bs = bs0 := hb
        have e2 : ns = ns0 := ho
        rw [e1, e2]
      · have e1 : ns = ns0 := hb
        have e2 : bs = bs0 := ho
        rw [e1, e2]
  rw [hd]
  exact ⟨rfl, h.quiet ((Keeps.refl _ w).drewN m)⟩
/-- Ahead of the first take. -/
theorem Bk.start (h : Pst w C p bs ns X) (k : Keeps (fun _ => False) w0 w) (lo : ∀ i, X i ∨ KF C i → w0.heap.size ≤ i) (nd : Bool) : Calls Tryz.prog 22 #[.pointer (some ⟨p, 0, none⟩)] w fun e w' =>
    ∃ (a : Option Addr) (cap : Nat) (X' : Nat → Prop), e = .returned (.slice a 1024 cap) ∧ Bk w0 w' C p bs ns bs ns nd X' (.slice a 1024 cap) (.slice none 0 0) [] [] := by
  have l1 := h.st.len0
  have l2 := h.st.len1
  refine (bitmaps_w h).mono ?_
  rintro e w' ⟨v, rfl, y1, y2, y3⟩
  obtain ⟨a, cap, rfl⟩ := own_shape y1
  have hz := y3.size
  have hkz := k.size
  have e1 : (bs ++ ns).length = 1024 := by rw [List.length_append]; omega
  rw [e1] at y1 ⊢
  refine ⟨a, cap, _, rfl, ⟨y2, own_lo y1 (Nat.zero_le _), fun g e => .inr ⟨ownBlock_ge y1 g e, own_lt y1 e⟩, IntRow.nil _ _, (fun g e => by cases e), (fun g e => by cases e), rfl, Mine.nil _ _ _ _, k.trans y3 (fun i hi e => by have := lo i (.inr e); omega), fun i hi => ?_⟩⟩
  rcases hi with (hi | hi) | hi
  · exact lo i (.inl hi)
  · omega
  · exact lo i (.inr hi)
end
/-- The numbers as they lie in the argument. -/
def ArgInts (w : World) (v : Value) (l : List Int) : Prop :=
  ∃ a cap, v = .slice a l.length cap ∧ (l = [] ∨ ∃ g o, a = some ⟨g, o, none⟩ ∧ ∀ i (h : i < l.length), w.cell? ⟨g, o + i, none⟩ = some (.int .i64 l[i]))
end Go.Vk
