/- The reference's bits: the walks of alike, lowest and clearIn of package vellumref6. The walk of FromBytes of package vellumref6. The reference's pool turned: flags, the row of puts, bits. The walks of the reference pool's Puts and lays. The walk of the reference pool's lays. The walks of the reference pool's Clear, and of Write onto a bitmap. The walks of the reference pool's TakeBlock and TakeNode. The walks of the reference pool's TakeBlock and TakeNode. The walks of the reference pool's DropBlock, DropNode, Left and Abort. -/
import Derived.Test.YtceodjgajkimnaaGreatMP
import Derived.Test.YtceodjgajkimnaaGreatMK
import Derived.Test.YtceodjgajkimnaaGreatML
import Derived.Deep.QuietTactic
set_option linter.unusedVariables false

namespace Go.Vk
open Go.RowKit Go.Proofs

/-- A bitmap's bits. -/
def bitsOf (bs : List UInt8) : List Bool := (List.range 4096).map (bitOf bs)
theorem bitsOf_length (bs : List UInt8) : (bitsOf bs).length = 4096 := by simp [bitsOf]
theorem bitsOf_get (bs : List UInt8) (i : Nat) (h : i < (bitsOf bs).length) : (bitsOf bs)[i] = bitOf bs i := by simp [bitsOf]
theorem bitsOf_inj {a b : List UInt8} (ha : a.length = 512) (hb : b.length = 512) : bitsOf a = bitsOf b ↔ a = b := by
  constructor
  · intro e
    refine bits_eq ha hb fun i hi => ?_
    have h1 := bitsOf_get a i (by rw [bitsOf_length]; exact hi)
    have h2 := bitsOf_get b i (by rw [bitsOf_length]; exact hi)
    rw [← h1, ← h2]
    simp only [e]
  · rintro rfl; rfl
theorem bitsOf_zeros (n : Nat) : bitsOf (zeros n) = noBits := by
  refine (List.eq_replicate_iff (n := 4096) (a := false)).2 ⟨bitsOf_length _, fun b hb => ?_⟩
  unfold bitsOf at hb
  obtain ⟨i, _, rfl⟩ := List.mem_map.1 hb
  exact bitOf_zeros n i
theorem bitsOf_flip (bs : List UInt8) (i : Nat) (hi : i < 4096) (hl : bs.length = 512) : bitsOf (flipB bs i) = (bitsOf bs).set i (!bitOf bs i) := by
  refine List.ext_getElem (by rw [List.length_set, bitsOf_length, bitsOf_length]) fun j h1 h2 => ?_
  rw [bitsOf_get, bitOf_flip _ _ _ (by omega), List.getElem_set, bitsOf_get]
  by_cases e : j = i
  · subst e; simp
  · rw [if_neg e, if_neg (fun x => e x.symm)]
set_option maxRecDepth 100000 in
theorem bitsOf_ones (k : Nat) (hk : k ≤ 4096) : bitsOf (onesB k) = List.replicate k true ++ List.replicate (4096 - k) false := by
  refine List.ext_getElem (by rw [bitsOf_length]; simp; omega) fun j h1 h2 => ?_
  rw [bitsOf_get, bitOf_ones _ _ hk]
  by_cases e : j < k
  · rw [List.getElem_append_left (by simpa using e)]; simp [e]
  · rw [List.getElem_append_right (by simpa using e)]; simp [e]

/-- A slice that reads as these bits. -/
def BoolSl (w : World) (v : Value) (l : List Bool) : Prop :=
  ∃ g cap, v = .slice (some ⟨g, 0, none⟩) l.length cap ∧ ∀ i (h : i < l.length), w.cell? ⟨g, i, none⟩ = some (.bool l[i])
theorem BoolRow.sl {w : World} {lo : Nat} {v : Value} {l : List Bool} (h : BoolRow w lo v l) (hl : l.length = 4096) : BoolSl w v l := by
  obtain ⟨g, cap, e, _, _, h2⟩ := BoolRow.slice h (by omega)
  exact ⟨g, cap, e, h2⟩
theorem BoolSl.keeps {w w' : World} {v : Value} {l : List Bool} (h : BoolSl w v l) {Gf : Nat → Prop} (k : Keeps Gf w w') (hG : ∀ g, v.ownBlock = some g → ¬ Gf g) : BoolSl w' v l := by
  obtain ⟨g, cap, rfl, h⟩ := h
  exact ⟨g, cap, rfl, fun i hi => k.cellF (h i hi) (hG g rfl)⟩

set_option maxRecDepth 100000 in
theorem alike_w (w : World) (v1 v2 : Value) (l1 l2 : List Bool) (h1 : BoolSl w v1 l1) (h2 : BoolSl w v2 l2) (b1 : l1.length = 4096) (b2 : l2.length = 4096) :
    Calls Tryz.prog 161 #[v1, v2] w fun e w' => e = .returned (.bool (decide (l1 = l2))) ∧ ∃ m, w' = w.drewN m := by
  obtain ⟨g1, c1, rfl, h1⟩ := h1
  obtain ⟨g2, c2, rfl, h2⟩ := h2
  have hfin : ∀ k, l1.take k = l2.take k → k = 4096 → decide (l1 = l2) = true := fun k hk e => by
    rw [e, ← b1, List.take_length, b1, ← b2, List.take_length] at hk; simpa using hk
  have hst : ∀ k (x : k < l1.length) (y : k < l2.length), l1.take k = l2.take k → l1[k] = l2[k] → l1.take (k + 1) = l2.take (k + 1) := fun k x y p q => by
    rw [List.take_add_one, List.take_add_one, List.getElem?_eq_getElem x, List.getElem?_eq_getElem y, p, q]
  have hno : ∀ k (x : k < l1.length) (y : k < l2.length), l1[k] ≠ l2[k] → decide (l1 = l2) = false := fun k x y p => by
    simp only [decide_eq_false_iff_not]
    intro e
    subst e
    exact p rfl
  have hb1 := b1
  have hb2 := b2
  rw [b1, b2]
  replace h1 := hid h1; replace h2 := hid h2; replace hfin := hid hfin; replace hst := hid hst; replace hno := hid hno; replace hb1 := hid hb1; replace hb2 := hid hb2; replace b1 := hid b1; replace b2 := hid b2
  go_enter Tryz.func161, Tryz.ntmps161
  go_wp2
  go_loopw [5] (fun i wr => ∃ k m : Nat, k ≤ 4096 ∧ i = .int .i64 k ∧ wr = w.drewN m ∧ l1.take k = l2.take k) (fun i _ => 4096 - (intOf i).toNat)
  case atStart => exact ⟨0, 0, by omega, rfl, rfl, by simp⟩
  case round =>
    obtain ⟨k, m, hk1, rfl, rfl, hk2⟩ := hrel
    by_cases hlt2 : k < 4096
    · have hki : (k : Int) < 4096 := by omega
      have hix : 0 ≤ (k : Int) ∧ (k : Int) < (4096 : Nat) := by omega
      have x1 : k < l1.length := by have := hb1.out; omega
      have x2 : k < l2.length := by have := hb2.out; omega
      have q1 := h1.out k x1
      have q2 := h2.out k x2
      by_cases he : l1[k] = l2[k]
      · have hs := hst.out k x1 x2 hk2 he
        rw [he] at q1
        generalize l2[k] = y at q1 q2
        replace hs := hid hs; replace hk2 := hid hk2; replace he := hid he
        cases y
        all_goals
          go_wp2
          go_region
          go_wp2
          exact ⟨⟨k + 1, m + 1, by omega, by go_num, rfl, hs.out⟩, by simp [intOf]; omega⟩
      · have hd := hno.out k x1 x2 he
        generalize l1[k] = y1 at q1 he
        generalize l2[k] = y2 at q2 he
        replace hd := hid hd; replace hk2 := hid hk2
        cases y1 <;> cases y2
        case false.false => exact absurd rfl he
        case true.true => exact absurd rfl he
        all_goals
          clear he
          go_wp2
          go_region
          go_wp2
          go_ret
          exact ⟨by rw [hd.out]; rfl, m + 1, rfl⟩
    · have hki : ¬ (k : Int) < 4096 := by omega
      have hd := hfin.out k hk2 (by omega)
      replace hd := hid hd; replace hk2 := hid hk2
      go_wp2
      go_ret
      exact ⟨by rw [hd.out]; rfl, m, rfl⟩

def lowI (o : Option Nat) : Int := match o with | some i => (i : Int) | none => -1
theorem lowest_w (w : World) (v : Value) (bs : List UInt8) (h : BoolSl w v (bitsOf bs)) (lo hi : Nat) (hle : lo ≤ hi) (hh : hi ≤ 4096) :
    Calls Tryz.prog 193 #[v, .int .i64 lo, .int .i64 hi] w fun e w' => e = .returned (.int .i64 (lowI (firstFree bs lo hi))) ∧ w = w' := by
  obtain ⟨g, c, rfl, h⟩ := h
  have hcel : ∀ k, k < 4096 → w.cell? ⟨g, k, none⟩ = some (.bool (bitOf bs k)) := fun k hk => by
    have := h k (by rw [bitsOf_length]; exact hk)
    rwa [bitsOf_get] at this
  rw [bitsOf_length]
  have hyes : ∀ k, lo ≤ k → k < hi → bitOf bs k = false → (∀ j, lo ≤ j → j < k → bitOf bs j = true) → lowI (firstFree bs lo hi) = (k : Int) := fun k a b c d => by rw [firstFree_of a b c d]; rfl
  have hnone : (∀ j, lo ≤ j → j < hi → bitOf bs j = true) → lowI (firstFree bs lo hi) = -1 := fun d => by rw [firstFree_full d]; rfl
  replace h := hid h; replace hcel := hid hcel; replace hyes := hid hyes; replace hnone := hid hnone
  go_enter Tryz.func193, Tryz.ntmps193
  go_wp2
  go_loopw [7] (fun i wr => ∃ k : Nat, lo ≤ k ∧ k ≤ hi ∧ i = .int .i64 k ∧ wr = w ∧ ∀ j, lo ≤ j → j < k → bitOf bs j = true) (fun i _ => hi - (intOf i).toNat)
  case atStart => exact ⟨lo, by omega, by omega, rfl, rfl, fun j _ _ => by omega⟩
  case round =>
    obtain ⟨k, hk0, hk1, rfl, rfl, hk2⟩ := hrel
    by_cases hlt2 : k < hi
    · have hki : (k : Int) < hi := by omega
      have hix : 0 ≤ (k : Int) ∧ (k : Int) < (4096 : Nat) := by omega
      have q := hcel.out k (by omega)
      cases hb : bitOf bs k
      · have hd := hyes.out k hk0 hlt2 hb hk2
        rw [hb] at q
        replace hk2 := hid hk2; replace hb := hid hb; replace hd := hid hd
        go_wp2
        go_ret
        exact ⟨by rw [hd.out]; rfl, rfl⟩
      · rw [hb] at q
        have hn : ∀ j, lo ≤ j → j < k + 1 → bitOf bs j = true := fun j a b => by
          by_cases e : j = k
          · rw [e, hb]
          · exact hk2 j a (by omega)
        replace hk2 := hid hk2; replace hb := hid hb; replace hn := hid hn
        go_wp2
        exact ⟨⟨k + 1, by omega, by omega, by go_num, trivial, hn.out⟩, by simp [intOf]; omega⟩
    · have hki : ¬ (k : Int) < hi := by omega
      obtain rfl : k = hi := by omega
      have hd := hnone.out hk2
      replace hk2 := hid hk2; replace hd := hid hd
      go_wp2
      go_ret
      exact ⟨by rw [hd.out]; rfl, rfl⟩
theorem leftN_succ (bs : List UInt8) {lo k : Nat} (h : lo ≤ k) : leftN bs lo (k + 1) = leftN bs lo k + if bitOf bs k = true then 0 else 1 := by
  unfold leftN
  have h1 := setCnt_le bs lo (k - lo)
  have h2 := setCnt_add bs lo (k - lo) 1
  rw [show lo + (k - lo) = k by omega, setCnt_one] at h2
  rw [show k + 1 - lo = k - lo + 1 by omega, h2]
  split <;> omega
theorem clearIn_w (w : World) (v : Value) (bs : List UInt8) (h : BoolSl w v (bitsOf bs)) (lo hi : Nat) (hle : lo ≤ hi) (hh : hi ≤ 4096) :
    Calls Tryz.prog 194 #[v, .int .i64 lo, .int .i64 hi] w fun e w' => e = .returned (.int .i64 (leftN bs lo hi : Nat)) ∧ w = w' := by
  obtain ⟨g, c, rfl, h⟩ := h
  have hcel : ∀ k, k < 4096 → w.cell? ⟨g, k, none⟩ = some (.bool (bitOf bs k)) := fun k hk => by
    have := h k (by rw [bitsOf_length]; exact hk)
    rwa [bitsOf_get] at this
  rw [bitsOf_length]
  have hstep := fun k (hk : lo ≤ k) => leftN_succ bs hk
  have hb : ∀ k, leftN bs lo k ≤ k := fun k => by unfold leftN; omega
  have h0 : leftN bs lo lo = 0 := by unfold leftN; omega
  replace h := hid h; replace hcel := hid hcel; replace hstep := hid hstep; replace hb := hid hb; replace h0 := hid h0
  go_enter Tryz.func194, Tryz.ntmps194
  go_wp2
  go_loopw [7, 8] (fun n i wr => ∃ k : Nat, lo ≤ k ∧ k ≤ hi ∧ i = .int .i64 k ∧ wr = w ∧ n = .int .i64 (leftN bs lo k : Nat)) (fun _ i _ => hi - (intOf i).toNat)
  case atStart => exact ⟨lo, by omega, by omega, rfl, rfl, by rw [h0.out]; rfl⟩
  case round =>
    obtain ⟨k, hk0, hk1, rfl, rfl, rfl⟩ := hrel
    by_cases hlt2 : k < hi
    · have hki : (k : Int) < hi := by omega
      have hix : 0 ≤ (k : Int) ∧ (k : Int) < (4096 : Nat) := by omega
      have q := hcel.out k (by omega)
      have hs := hstep.out k hk0
      have hbk := hb.out k
      cases hbt : bitOf bs k
      · rw [hbt] at q hs
        simp only [Bool.false_eq_true, if_false] at hs
        generalize leftN bs lo k = n1 at *
        replace hbt := hid hbt; replace hs := hid hs
        go_wp2
        exact ⟨⟨k + 1, by omega, by omega, by go_num, trivial, by rw [hs.out]; go_num⟩, by simp [intOf]; omega⟩
      · rw [hbt] at q hs
        simp only [if_true] at hs
        generalize leftN bs lo k = n1 at *
        replace hbt := hid hbt; replace hs := hid hs
        go_wp2
        exact ⟨⟨k + 1, by omega, by omega, by go_num, trivial, by rw [hs.out]; rfl⟩, by simp [intOf]; omega⟩
    · have hki : ¬ (k : Int) < hi := by omega
      obtain rfl : k = hi := by omega
      go_wp2
      go_ret
      exact ⟨rfl, rfl⟩
end Go.Vk

namespace Go.Vk
open Go.RowKit Go.Proofs

/-- The first m bits. -/
def partBits (l : List UInt8) (m : Nat) : List Bool := (List.range 4096).map fun i => decide (i < m) && bitOf l i
theorem partBits_length (l : List UInt8) (m : Nat) : (partBits l m).length = 4096 := by simp [partBits]
theorem partBits_get (l : List UInt8) (m i : Nat) (h : i < (partBits l m).length) : (partBits l m)[i] = (decide (i < m) && bitOf l i) := by simp [partBits]
theorem partBits_zero (l : List UInt8) : partBits l 0 = noBits := by
  refine (List.eq_replicate_iff (n := 4096) (a := false)).2 ⟨partBits_length _ _, fun b hb => ?_⟩
  unfold partBits at hb
  obtain ⟨i, _, rfl⟩ := List.mem_map.1 hb
  simp
theorem bitOf_ge (l : List UInt8) (i : Nat) (h : 8 * l.length ≤ i) : bitOf l i = false := by
  unfold bitOf byteAt
  rw [List.getD_eq_getElem?_getD, List.getElem?_eq_none (by omega)]
  simp
theorem partBits_all (l : List UInt8) : partBits l (8 * l.length) = bitsOf l := by
  refine List.ext_getElem (by rw [partBits_length, bitsOf_length]) fun i h1 h2 => ?_
  rw [partBits_get, bitsOf_get]
  by_cases e : i < 8 * l.length
  · simp [e]
  · rw [bitOf_ge l i (by omega)]; simp
theorem partBits_succ (l : List UInt8) (m : Nat) : partBits l (m + 1) = (partBits l m).set m (bitOf l m) := by
  refine List.ext_getElem (by rw [List.length_set, partBits_length, partBits_length]) fun i h1 h2 => ?_
  rw [partBits_get, List.getElem_set, partBits_get]
  by_cases e : m = i
  · subst e; simp
  · rw [if_neg e]
    by_cases e2 : i < m
    · simp [e2]; omega
    · have : ¬ i < m + 1 := by omega
      simp [e2, this]
theorem bitOf_at (l : List UInt8) (k j : Nat) (hj : j < 8) (hk : k < l.length) : bitOf l (8 * k + j) = decide (l[k].toNat / 2 ^ j % 2 = 1) := by
  unfold bitOf
  rw [show (8 * k + j) / 8 = k by omega, show (8 * k + j) % 8 = j by omega]
  have hx : byteAt l k = l[k].toNat := by unfold byteAt; rw [List.getD_eq_getElem?_getD, List.getElem?_eq_getElem hk]; rfl
  rw [hx, Nat.testBit_eq_decide_div_mod_eq]
theorem BoolRow.set {w : World} {lo g n cap : Nat} {l : List Bool} (h : BoolRow w lo (.slice (some ⟨g, 0, none⟩) n cap) l) (hn : l.length = n) (j : Nat) (b : Bool) : BoolRow (w.setCell ⟨g, j, none⟩ (.bool b)) lo (.slice (some ⟨g, 0, none⟩) n cap) (l.set j b) := by
  unfold BoolRow at h ⊢
  rw [List.length_set]
  rw [hn] at h ⊢
  have := (World.ownsRow.stored (g := g) h j (.bool b)).1
  have e : boolsV (l.set j b) = (boolsV l).set j (.bool b) := by unfold boolsV; rw [List.map_set]
  rw [e]
  exact this
theorem BoolRow.frz {w : World} {lo g n cap : Nat} {l : List Bool} (h : BoolRow w lo (.slice (some ⟨g, 0, none⟩) n cap) l) (hn : l.length = n) (j : Nat) : w.frozen? ⟨g, j, none⟩ = false := by
  unfold BoolRow at h
  rw [hn] at h
  exact World.ownsRow.frozenAt (g := g) h j

set_option maxRecDepth 100000 in
set_option maxHeartbeats 1000000 in
theorem fromBytes_w (w : World) (v : Value) (l : List UInt8) (h : ByteSl w v l) (hl : l.length ≤ 512) :
    Calls Tryz.prog 86 #[v] w fun e w' => ∃ g cap, e = .returned (.slice (some ⟨g, 0, none⟩) 4096 cap) ∧ w.heap.size ≤ g ∧ g < w'.heap.size ∧ BoolRow w' w.heap.size (.slice (some ⟨g, 0, none⟩) 4096 cap) (bitsOf l) ∧ Keeps (fun _ => False) w w' := by
  obtain ⟨a0, c0, rfl, h⟩ := h
  have hN := fun w => none_w2 w
  obtain ⟨n, hn⟩ : ∃ n, l.length = n := ⟨_, rfl⟩
  rw [hn] at hl ⊢
  have hcel : ∀ wr, Keeps (fun _ => False) w wr → ∀ k (hk : k < l.length), ∃ g0 o0, a0 = some ⟨g0, o0, none⟩ ∧ wr.cell? ⟨g0, o0 + k, none⟩ = some (.int .u8 (l[k].toNat : Nat)) := fun wr kk k hk => by
    rcases h with h | ⟨g0, o0, e0, h⟩
    · rw [h] at hk; cases hk
    · exact ⟨g0, o0, e0, kk.cellF (h k hk) (fun f => f)⟩
  have hbit := fun k j (hj : j < 8) (hk : k < l.length) => bitOf_at l k j hj hk
  have hsuc := fun m => partBits_succ l m
  have hzero := partBits_zero l
  have hall : ∀ k, k = n → partBits l (8 * k) = bitsOf l := fun k e => by rw [e, ← hn]; exact partBits_all l
  have hlen := fun m => partBits_length l m
  replace h := hid h; replace hN := hid hN; replace hcel := hid hcel; replace hbit := hid hbit; replace hsuc := hid hsuc; replace hzero := hid hzero; replace hall := hid hall; replace hlen := hid hlen; replace hn := hid hn
  go_enter Tryz.func86, Tryz.ntmps86
  go_upto_region 2 with (go_at_call 127; refine (hN.out _).mono ?_; rintro e w1 ⟨g, cap, rfl, hg1, hg2, hrow, hk1⟩; replace hrow := hid hrow; replace hk1 := hid hk1)
  have hrow1 : BoolRow w1 w.heap.size (.slice (some ⟨g, 0, none⟩) 4096 cap) (partBits l (8 * 0)) := by rw [Nat.mul_zero, hzero.out]; exact hrow.out
  clear hrow
  replace hrow1 := hid hrow1
  go_wp2
  go_loopw [4, 5, 6] (fun i _ _ wr => ∃ k : Nat, k ≤ n ∧ i = .int .i64 k ∧ BoolRow wr w.heap.size (.slice (some ⟨g, 0, none⟩) 4096 cap) (partBits l (8 * k)) ∧ Keeps (fun _ => False) w wr) (fun i _ _ _ => n - (intOf i).toNat)
  case atStart => exact ⟨0, by omega, rfl, hrow1.out, hk1.out⟩
  case round =>
    obtain ⟨k, hkn, rfl, hr, hk2⟩ := hrel
    clear hrow1 hk1
    by_cases hlt2 : k < n
    · have hki : (k : Int) < n := by omega
      have hk5 : (k : Int) < 512 := by omega
      have hkl : k < l.length := by have := hn.out; omega
      obtain ⟨g0, o0, rfl, hc⟩ := hcel.out wr hk2 k hkl
      have hbk := fun j hj => hbit.out k j hj hkl
      have hx : l[k].toNat < 256 := l[k].toNat_lt
      generalize l[k].toNat = x at hc hbk hx
      have hix : 0 ≤ (k : Int) ∧ (k : Int) < (n : Nat) := by omega
      have hr0 : BoolRow wr w.heap.size (.slice (some ⟨g, 0, none⟩) 4096 cap) (partBits l (8 * k + 0)) := hr
      clear hcel
      replace hr0 := hid hr0; replace hr := hid hr; replace hk2 := hid hk2; replace hbk := hid hbk
      go_wp2
      go_loopw [5, 6] (fun v kk wr' => ∃ j : Nat, j ≤ 8 ∧ v = .int .i64 (x / 2 ^ j : Nat) ∧ kk = .int .i64 (j : Nat) ∧ BoolRow wr' w.heap.size (.slice (some ⟨g, 0, none⟩) 4096 cap) (partBits l (8 * k + j)) ∧ Keeps (fun _ => False) w wr') (fun _ kk _ => 8 - (intOf kk).toNat)
      case atStart => exact ⟨0, by omega, by simp, rfl, hr0.out, hk2.out⟩
      case round =>
        clear hr0 hr hk2 hc
        obtain ⟨j, hj1, rfl, rfl, hr, hk2⟩ := hrel
        by_cases hj8 : j < 8
        · have hji : (j : Int) < 8 := by omega
          have hbj := hbk.out j hj8
          have hpw : x / 2 ^ (j + 1) = x / 2 ^ j / 2 := by rw [Nat.pow_succ, Nat.div_div_eq_div_mul]
          have hyb : x / 2 ^ j ≤ 255 := Nat.le_trans (Nat.div_le_self _ _) (by omega)
          generalize x / 2 ^ j = y at hbj hpw hyb
          have hsu := hsuc.out (8 * k + j)
          rw [hbj] at hsu
          have hset := fun b => hr.set (hlen.out _) (8 * k + j) b
          have hfr := hr.frz (hlen.out _) (8 * k + j)
          have hks := fun b : Bool => hk2.setCell (p := ⟨g, 8 * k + j, none⟩) (.inr hg1) (.bool b)
          have hcg : ∃ b0, wr.cell? ⟨g, 8 * k + j, none⟩ = some (.bool b0) := by
            obtain ⟨_, _, e1, _, _, e2⟩ := BoolRow.slice hr (by rw [hlen.out]; decide)
            injection e1 with e1 _ e3
            injection e1 with e1
            injection e1 with e1
            subst e1
            exact ⟨_, e2 (8 * k + j) (by rw [hlen.out]; omega)⟩
          obtain ⟨b0, hcg⟩ := hcg
          have h8k : IntKind.i64.wrap (8 * (k : Int)) = ((8 * k : Nat) : Int) := by rw [wrap_small (by omega) (by omega)]; omega
          have hj8k : IntKind.i64.wrap (((8 * k : Nat) : Int) + (j : Int)) = ((8 * k + j : Nat) : Int) := by rw [wrap_small (by omega) (by omega)]; omega
          have hb8 : 8 * k + j < 4096 := by omega
          rw [show 8 * k + j + 1 = 8 * k + (j + 1) by omega] at hsu
          generalize 8 * k + j = m at *
          obtain ⟨k8, hk8⟩ : ∃ k8, 8 * k = k8 := ⟨_, rfl⟩
          rw [hk8] at h8k hj8k
          replace hk8 := hid hk8
          have hix2 : 0 ≤ (m : Int) ∧ (m : Int) < (4096 : Nat) := by omega
          have hq : (y : Int).tdiv 2 = ((y / 2 : Nat) : Int) := rfl
          by_cases hy : y % 2 = 1
          · have hy2 : (y : Int).tmod 2 = 1 := by have : (y : Int).tmod 2 = ((y % 2 : Nat) : Int) := rfl; omega
            rw [decide_eq_true hy] at hsu
            rw [← hpw] at hq
            have hset := hset true
            rw [← hsu] at hset
            have hks := hks true
            obtain ⟨z, hzz⟩ : ∃ z, x / 2 ^ (j + 1) = z := ⟨_, rfl⟩
            have hzb : z ≤ 255 := by rw [← hzz]; exact Nat.le_trans (Nat.div_le_self _ _) (by omega)
            rw [hzz] at hq
            replace hzz := hid hzz
            clear hy hbj
            replace hset := hid hset; replace hks := hid hks; replace hsu := hid hsu; replace hpw := hid hpw; replace hr := hid hr; replace hk2 := hid hk2
            go_wp2
            exact ⟨⟨j + 1, by omega, by rw [hzz.out], by go_num, hset.out, hks.out⟩, by simp [intOf]; omega⟩
          · have hy2 : (y : Int).tmod 2 = 0 := by have : (y : Int).tmod 2 = ((y % 2 : Nat) : Int) := rfl; omega
            rw [decide_eq_false hy] at hsu
            rw [← hpw] at hq
            have hset := hset false
            rw [← hsu] at hset
            have hks := hks false
            obtain ⟨z, hzz⟩ : ∃ z, x / 2 ^ (j + 1) = z := ⟨_, rfl⟩
            have hzb : z ≤ 255 := by rw [← hzz]; exact Nat.le_trans (Nat.div_le_self _ _) (by omega)
            rw [hzz] at hq
            replace hzz := hid hzz
            clear hy hbj
            replace hset := hid hset; replace hks := hid hks; replace hsu := hid hsu; replace hpw := hid hpw; replace hr := hid hr; replace hk2 := hid hk2
            go_wp2
            exact ⟨⟨j + 1, by omega, by rw [hzz.out], by go_num, hset.out, hks.out⟩, by simp [intOf]; omega⟩
        · have hji : ¬ (j : Int) < 8 := by omega
          obtain rfl : j = 8 := by omega
          rw [show 8 * k + 8 = 8 * (k + 1) by omega] at hr
          replace hr := hid hr; replace hk2 := hid hk2
          go_wp2
          exact ⟨⟨k + 1, by omega, by go_num, hr.out, hk2.out⟩, by simp [intOf]; omega⟩
    · have hki : ¬ (k : Int) < n := by omega
      rw [hall.out k (by omega)] at hr
      have hlt : g < wr.heap.size := by have := hk2.size; exact own_lt hr rfl
      replace hr := hid hr; replace hk2 := hid hk2
      go_wp2
      go_ret
      exact ⟨_, _, rfl, hg1, hlt, hr.out, hk2.out⟩
end Go.Vk

namespace Go.Vk
open Go.RowKit Go.Proofs

theorem own_ne2 {w : World} {lo lo' e e' s s' : Nat} {v v' : Value} {n n' : Nat} {xs xs' : List Value} (h : w.ownsRow lo e s v n xs) (h' : w.ownsRow lo' e' s' v' n' xs') (he : e ≠ e') {g : Nat} (hg : v.ownBlock = some g) : v'.ownBlock ≠ some g := fun hg' => by
  rcases h.2 with ⟨h1, _⟩ | ⟨g1, c1, cur1, rfl, _, hh1, _⟩
  · rw [h1] at hg; cases hg
  · rcases h'.2 with ⟨h2, _⟩ | ⟨g2, c2, cur2, rfl, _, hh2, _⟩
    · rw [h2] at hg'; cases hg'
    · have e1 : g1 = g := Option.some.inj hg
      have e2 : g2 = g := Option.some.inj hg'
      subst e1 e2
      rw [hh1] at hh2
      injection hh2 with hh2
      injection hh2 with _ hh2
      exact he hh2

section
variable {w w' : World} {m : Nat} {R : RP} {V : RefV} {Z Z' : Nat → Prop}
theorem own_far {Gf : Nat → Prop} (k : Keeps Gf w w') {e size n : Nat} {y : Value} {xs : List Value} (h : w.ownsRow 0 e size y n xs) (hn : ∀ g, y.ownBlock = some g → ¬ Gf g) : w'.ownsRow 0 e size y n xs :=
  keeps_own (Z := fun i => y.ownBlock = some i) k hn h (fun _ e => e)
theorem RawRow.far {Gf : Nat → Prop} (k : Keeps Gf w w') {v : Value} {ls : List (List UInt8)} {us : List Value} (h : RawRow w v ls us) (hv : ∀ g, v.ownBlock = some g → ¬ Gf g) (hu : ∀ u ∈ us, ∀ g, u.ownBlock = some g → ¬ Gf g) : RawRow w' v ls us :=
  ⟨own_far k h.1 hv, h.2.1, fun i hi u e => own_far k (h.2.2 i hi u e) (hu u (List.mem_of_getElem? e))⟩
theorem RawRow.each {v : Value} {ls : List (List UInt8)} {us : List Value} (h : RawRow w v ls us) {u : Value} (hu : u ∈ us) : ∃ l, ByteRow w 0 u l := by
  obtain ⟨i, hi, rfl⟩ := List.getElem_of_mem hu
  exact ⟨_, h.2.2 i (by rw [← h.2.1]; exact hi) _ (List.getElem?_eq_getElem hi)⟩
/-- The flags. -/
theorem RefAt.flag (h : RefAt w m R V Z) (k : Keeps (· = m) w w') (s : Nat) (o d : Bool) (ho : o = true → R.op = true) (hm : Blk w' m (refO { R with sp := s, op := o, dead := d } V)) : RefAt w' m { R with sp := s, op := o, dead := d } V Z :=
  { hm := hm
    ob := own_far k h.ob (fun g e f => own_ne h.ob h.hm (by decide) (f ▸ e))
    on := own_far k h.on (fun g e f => own_ne h.on h.hm (by decide) (f ▸ e))
    nb := own_far k h.nb (fun g e f => own_ne h.nb h.hm (by decide) (f ▸ e))
    nn := own_far k h.nn (fun g e f => own_ne h.nn h.hm (by decide) (f ▸ e))
    orr := h.orr.far k (fun g e f => own_ne h.orr.1 h.hm (by decide) (f ▸ e)) (fun u hu g e f => by obtain ⟨l, hl⟩ := h.orr.each hu; exact own_ne hl h.hm (by decide) (f ▸ e))
    rr := h.rr.far k (fun g e f => own_ne h.rr.1 h.hm (by decide) (f ▸ e)) (fun u hu g e f => by obtain ⟨l, hl⟩ := h.rr.each hu; exact own_ne hl h.hm (by decide) (f ▸ e))
    pr := own_far k h.pr (fun g e f => own_ne h.pr h.hm (by decide) (f ▸ e))
    zm := h.zm, zob := h.zob, zon := h.zon, znb := h.znb, znn := h.znn, zor := h.zor, zr := h.zr, zp := h.zp, zuO := h.zuO, zuR := h.zuR
    lb := h.lb, d1 := h.d1, d2 := h.d2, d3 := fun e => h.d3 (ho e), lr := h.lr, l5 := h.l5 }
/-- Another row of puts. -/
theorem RefAt.newP (h : RefAt w m R V Z) (k : Keeps (fun i => i = m ∨ V.P.ownBlock = some i) w w') (l : List Nat) (v : Value) (hm : Blk w' m (refO { R with put := l } { V with P := v })) (hp : w'.ownsRow 0 3 1 v l.length (l.map natV)) (hZ : ∀ i, Z i → Z' i) (hv : InZ Z' v) : RefAt w' m { R with put := l } { V with P := v } Z' := by
  have hno : ∀ {e size n : Nat} {y : Value} {xs : List Value}, w.ownsRow 0 e size y n xs → 181 ≠ e → e ≠ 3 → ∀ g, y.ownBlock = some g → ¬ (g = m ∨ V.P.ownBlock = some g) := fun hy h1 h2 g e f => by
    rcases f with f | f
    · exact own_ne hy h.hm h1 (f ▸ e)
    · exact own_ne2 hy h.pr h2 e f
  exact
  { hm := hm
    ob := own_far k h.ob (hno h.ob (by decide) (by decide))
    on := own_far k h.on (hno h.on (by decide) (by decide))
    nb := own_far k h.nb (hno h.nb (by decide) (by decide))
    nn := own_far k h.nn (hno h.nn (by decide) (by decide))
    orr := h.orr.far k (hno h.orr.1 (by decide) (by decide)) (fun u hu => by obtain ⟨l, hl⟩ := h.orr.each hu; exact hno hl (by decide) (by decide))
    rr := h.rr.far k (hno h.rr.1 (by decide) (by decide)) (fun u hu => by obtain ⟨l, hl⟩ := h.rr.each hu; exact hno hl (by decide) (by decide))
    pr := hp
    zm := hZ _ h.zm, zob := fun g e => hZ g (h.zob g e), zon := fun g e => hZ g (h.zon g e), znb := fun g e => hZ g (h.znb g e), znn := fun g e => hZ g (h.znn g e), zor := fun g e => hZ g (h.zor g e), zr := fun g e => hZ g (h.zr g e), zp := hv
    zuO := fun u hu g e => hZ g (h.zuO u hu g e), zuR := fun u hu g e => hZ g (h.zuR u hu g e)
    lb := h.lb, d1 := h.d1, d2 := h.d2, d3 := h.d3, lr := h.lr, l5 := h.l5 }
/-- Another row of the blocks' bits. -/
theorem RefAt.newB (h : RefAt w m R V Z) (k : Keeps (· = m) w w') (l : List Bool) (v : Value) (hm : Blk w' m (refO { R with nowB := l } { V with NB := v })) (hr : BoolRow w' 0 v l) (hl : l.length = 4096) (hZ : ∀ i, Z i → Z' i) (hv : InZ Z' v)
    (e1 : v.ownBlock ≠ V.NN.ownBlock) (e2 : v.ownBlock ≠ V.OB.ownBlock) (e3 : v.ownBlock ≠ V.ON.ownBlock) : RefAt w' m { R with nowB := l } { V with NB := v } Z' :=
  { hm := hm
    ob := own_far k h.ob (fun g e f => own_ne h.ob h.hm (by decide) (f ▸ e))
    on := own_far k h.on (fun g e f => own_ne h.on h.hm (by decide) (f ▸ e))
    nb := hr
    nn := own_far k h.nn (fun g e f => own_ne h.nn h.hm (by decide) (f ▸ e))
    orr := h.orr.far k (fun g e f => own_ne h.orr.1 h.hm (by decide) (f ▸ e)) (fun u hu g e f => by obtain ⟨l, hl⟩ := h.orr.each hu; exact own_ne hl h.hm (by decide) (f ▸ e))
    rr := h.rr.far k (fun g e f => own_ne h.rr.1 h.hm (by decide) (f ▸ e)) (fun u hu g e f => by obtain ⟨l, hl⟩ := h.rr.each hu; exact own_ne hl h.hm (by decide) (f ▸ e))
    pr := own_far k h.pr (fun g e f => own_ne h.pr h.hm (by decide) (f ▸ e))
    zm := hZ _ h.zm, zob := fun g e => hZ g (h.zob g e), zon := fun g e => hZ g (h.zon g e), znb := hv, znn := fun g e => hZ g (h.znn g e), zor := fun g e => hZ g (h.zor g e), zr := fun g e => hZ g (h.zr g e), zp := fun g e => hZ g (h.zp g e)
    zuO := fun u hu g e => hZ g (h.zuO u hu g e), zuR := fun u hu g e => hZ g (h.zuR u hu g e)
    lb := ⟨h.lb.1, h.lb.2.1, hl, h.lb.2.2.2⟩, d1 := e1, d2 := ⟨e2, e3, h.d2.2.2⟩, d3 := h.d3, lr := h.lr, l5 := h.l5 }
theorem RefAt.newN (h : RefAt w m R V Z) (k : Keeps (· = m) w w') (l : List Bool) (v : Value) (hm : Blk w' m (refO { R with nowN := l } { V with NN := v })) (hr : BoolRow w' 0 v l) (hl : l.length = 4096) (hZ : ∀ i, Z i → Z' i) (hv : InZ Z' v)
    (e1 : v.ownBlock ≠ V.NB.ownBlock) (e2 : v.ownBlock ≠ V.OB.ownBlock) (e3 : v.ownBlock ≠ V.ON.ownBlock) : RefAt w' m { R with nowN := l } { V with NN := v } Z' :=
  { hm := hm
    ob := own_far k h.ob (fun g e f => own_ne h.ob h.hm (by decide) (f ▸ e))
    on := own_far k h.on (fun g e f => own_ne h.on h.hm (by decide) (f ▸ e))
    nb := own_far k h.nb (fun g e f => own_ne h.nb h.hm (by decide) (f ▸ e))
    nn := hr
    orr := h.orr.far k (fun g e f => own_ne h.orr.1 h.hm (by decide) (f ▸ e)) (fun u hu g e f => by obtain ⟨l, hl⟩ := h.orr.each hu; exact own_ne hl h.hm (by decide) (f ▸ e))
    rr := h.rr.far k (fun g e f => own_ne h.rr.1 h.hm (by decide) (f ▸ e)) (fun u hu g e f => by obtain ⟨l, hl⟩ := h.rr.each hu; exact own_ne hl h.hm (by decide) (f ▸ e))
    pr := own_far k h.pr (fun g e f => own_ne h.pr h.hm (by decide) (f ▸ e))
    zm := hZ _ h.zm, zob := fun g e => hZ g (h.zob g e), zon := fun g e => hZ g (h.zon g e), znb := fun g e => hZ g (h.znb g e), znn := hv, zor := fun g e => hZ g (h.zor g e), zr := fun g e => hZ g (h.zr g e), zp := fun g e => hZ g (h.zp g e)
    zuO := fun u hu g e => hZ g (h.zuO u hu g e), zuR := fun u hu g e => hZ g (h.zuR u hu g e)
    lb := ⟨h.lb.1, h.lb.2.1, h.lb.2.2.1, hl⟩, d1 := fun e => e1 e.symm, d2 := ⟨h.d2.1, h.d2.2.1, e2, e3⟩, d3 := h.d3, lr := h.lr, l5 := h.l5 }
/-- A bit of the blocks. -/
theorem RefAt.bitB (h : RefAt w m R V Z) (k : Keeps (fun i => V.NB.ownBlock = some i) w w') (l : List Bool) (hr : BoolRow w' 0 V.NB l) (hl : l.length = 4096) : RefAt w' m { R with nowB := l } V Z := by
  have hno : ∀ {e size n : Nat} {y : Value} {xs : List Value}, w.ownsRow 0 e size y n xs → e ≠ 4 → ∀ g, y.ownBlock = some g → ¬ (V.NB.ownBlock = some g) := fun hy h2 g e f => own_ne2 hy h.nb h2 e f
  exact
  { hm := k.blk h.hm (fun f => own_ne h.nb h.hm (by decide) f)
    ob := own_far k h.ob (fun g e f => h.d2.1 (f.trans e.symm))
    on := own_far k h.on (fun g e f => h.d2.2.1 (f.trans e.symm))
    nb := hr
    nn := own_far k h.nn (fun g e f => h.d1 (f.trans e.symm))
    orr := h.orr.far k (hno h.orr.1 (by decide)) (fun u hu => by obtain ⟨l, hl⟩ := h.orr.each hu; exact hno hl (by decide))
    rr := h.rr.far k (hno h.rr.1 (by decide)) (fun u hu => by obtain ⟨l, hl⟩ := h.rr.each hu; exact hno hl (by decide))
    pr := own_far k h.pr (hno h.pr (by decide))
    zm := h.zm, zob := h.zob, zon := h.zon, znb := h.znb, znn := h.znn, zor := h.zor, zr := h.zr, zp := h.zp, zuO := h.zuO, zuR := h.zuR
    lb := ⟨h.lb.1, h.lb.2.1, hl, h.lb.2.2.2⟩, d1 := h.d1, d2 := h.d2, d3 := h.d3, lr := h.lr, l5 := h.l5 }
theorem RefAt.bitN (h : RefAt w m R V Z) (k : Keeps (fun i => V.NN.ownBlock = some i) w w') (l : List Bool) (hr : BoolRow w' 0 V.NN l) (hl : l.length = 4096) : RefAt w' m { R with nowN := l } V Z := by
  have hno : ∀ {e size n : Nat} {y : Value} {xs : List Value}, w.ownsRow 0 e size y n xs → e ≠ 4 → ∀ g, y.ownBlock = some g → ¬ (V.NN.ownBlock = some g) := fun hy h2 g e f => own_ne2 hy h.nn h2 e f
  exact
  { hm := k.blk h.hm (fun f => own_ne h.nn h.hm (by decide) f)
    ob := own_far k h.ob (fun g e f => h.d2.2.2.1 (f.trans e.symm))
    on := own_far k h.on (fun g e f => h.d2.2.2.2 (f.trans e.symm))
    nb := own_far k h.nb (fun g e f => h.d1 (e.trans f.symm))
    nn := hr
    orr := h.orr.far k (hno h.orr.1 (by decide)) (fun u hu => by obtain ⟨l, hl⟩ := h.orr.each hu; exact hno hl (by decide))
    rr := h.rr.far k (hno h.rr.1 (by decide)) (fun u hu => by obtain ⟨l, hl⟩ := h.rr.each hu; exact hno hl (by decide))
    pr := own_far k h.pr (hno h.pr (by decide))
    zm := h.zm, zob := h.zob, zon := h.zon, znb := h.znb, znn := h.znn, zor := h.zor, zr := h.zr, zp := h.zp, zuO := h.zuO, zuR := h.zuR
    lb := ⟨h.lb.1, h.lb.2.1, h.lb.2.2.1, hl⟩, d1 := h.d1, d2 := h.d2, d3 := h.d3, lr := h.lr, l5 := h.l5 }

/-- Why the document's transaction refuses. -/
def RP.state (R : RP) : Nat := if R.dead then 3 else if R.op then R.sp else 4
theorem rstate_w (h : RefRep w m R Z) : Calls Tryz.prog 126 #[.pointer (some ⟨m, 0, none⟩)] w fun e w' => e = .returned (.int .i64 (R.state : Nat)) ∧ w = w' := by
  obtain ⟨V, h⟩ := h
  have hm := h.hm
  unfold refO at hm
  have c10 := hm.cell 10
  have c11 := hm.cell 11
  have c12 := hm.cell 12
  simp at c10 c11 c12
  unfold RP.state
  generalize R.dead = d at *
  generalize R.op = o at *
  generalize R.sp = s at *
  replace h := hid h; replace hm := hid hm
  cases d <;> cases o
  all_goals
    simp only [Bool.false_eq_true, if_true, if_false]
    go_enter Tryz.func126, Tryz.ntmps126
    go_wp2
    go_ret
    exact ⟨rfl, rfl⟩
end
end Go.Vk

namespace Go.Vk
open Go.RowKit Go.Proofs

def RP.putsE (R : RP) (b : Nat) : Nat := if b ∈ R.put then 0 else if R.put.length = 16 then 50 else 0
def RP.puts (R : RP) (b : Nat) : RP := if b ∈ R.put then R else if R.put.length = 16 then { R with sp := 50 } else { R with put := R.put ++ [b] }
section
variable {w w' : World} {m : Nat} {R : RP} {V : RefV} {Z Z' : Nat → Prop}
theorem RefAt.up (h : RefAt w m R V Z) (hZ : ∀ i, Z i → Z' i) : RefAt w m R V Z' :=
  { h with zm := hZ _ h.zm, zob := fun g e => hZ g (h.zob g e), zon := fun g e => hZ g (h.zon g e), znb := fun g e => hZ g (h.znb g e), znn := fun g e => hZ g (h.znn g e), zor := fun g e => hZ g (h.zor g e), zr := fun g e => hZ g (h.zr g e), zp := fun g e => hZ g (h.zp g e)
           zuO := fun u hu g e => hZ g (h.zuO u hu g e), zuR := fun u hu g e => hZ g (h.zuR u hu g e) }
def PutsPost (w : World) (m : Nat) (R : RP) (V : RefV) (Z : Nat → Prop) (b : Nat) (e : Ending) (w' : World) : Prop :=
  ∃ v, e = .returned (.int .i64 (R.putsE b : Nat)) ∧ RefAt w' m (R.puts b) { V with P := v } (fun i => Z i ∨ w.heap.size ≤ i ∧ i < w'.heap.size) ∧ Keeps (fun i => i = m ∨ V.P.ownBlock = some i) w w'
set_option maxRecDepth 100000 in
set_option maxHeartbeats 1000000 in
theorem rputs_w (h : RefAt w m R V Z) (hput : R.put.length ≤ 16) (b : Nat) : Calls Tryz.prog 162 #[.pointer (some ⟨m, 0, none⟩), .int .i64 b] w (PutsPost w m R V Z b) := by
  obtain ⟨i0, hi0, hz0, hz1, hz2⟩ := info_parts infoInt
  have hm := h.hm
  unfold refO at hm
  obtain ⟨aP, cP, eP⟩ := own_shape h.pr
  obtain ⟨n, hn⟩ : ∃ n, R.put.length = n := ⟨_, rfl⟩
  have c9 := hm.cell 9
  simp at c9
  rw [eP, hn] at c9
  have hpr := h.pr
  rw [eP] at hpr
  have hcel : ∀ k (hk : k < R.put.length), ∃ gP, aP = some ⟨gP, 0, none⟩ ∧ w.cell? ⟨gP, k, none⟩ = some (.int .i64 (R.put[k] : Nat)) := fun k hk => by
    obtain ⟨g, c, e, _, _⟩ := own_form hpr (by omega)
    injection e with e _ e3
    subst e e3
    exact ⟨g, rfl, own_cell hpr k _ (by simp [natV, List.getElem?_eq_getElem hk])⟩
  have hyes : ∀ k (hk : k < R.put.length), R.put[k] = b → PutsPost w m R V Z b (.returned (.int .i64 0)) w := fun k hk e => by
    have hb : b ∈ R.put := e ▸ List.getElem_mem hk
    refine ⟨V.P, by simp [RP.putsE, hb], ?_, Keeps.refl _ w⟩
    have : R.puts b = R := by simp [RP.puts, hb]
    rw [this]
    exact h.up (fun i hi => .inl hi)
  have hfull : b ∉ R.put → n = 16 → PutsPost w m R V Z b (.returned (.int .i64 50)) (w.setCell ⟨m, 10, none⟩ (.int .i64 50)) := fun hb e => by
    have k : Keeps (· = m) w (w.setCell ⟨m, 10, none⟩ (.int .i64 50)) := (Keeps.refl (· = m) w).setCell (p := ⟨m, 10, none⟩) (.inl rfl) _
    have hE : R.putsE b = 50 := by simp [RP.putsE, hb, hn, e]
    have hR : R.puts b = { R with sp := 50 } := by simp [RP.puts, hb, hn, e]
    have bm := hm.setCell 10 (.int .i64 50)
    simp at bm
    refine ⟨V.P, by rw [hE]; rfl, ?_, k.mono fun i _ f => .inl f⟩
    rw [hR]
    exact (h.flag k 50 R.op R.dead id bm).up (fun i hi => .inl hi)
  have hadd : b ∉ R.put → n ≠ 16 → ∀ w3 g' cap', (w.alloc (.cells #[.int .i64 b] 3 (0, 0))).grownBy w3 (Value.slice aP n cP).ownBlock → w3.ownsRow 0 3 1 (.slice (some ⟨g', 0, none⟩) (n + 1) cap') (n + 1) (R.put.map natV ++ [.int .i64 b]) →
      ((Value.slice aP n cP).ownBlock = some g' ∨ w.heap.size ≤ g') → (∃ cs, Blk w3 m (.cells cs 181 (0, 0)) ∧ cs.size = 13) ∧ PutsPost w m R V Z b (.returned (.int .i64 0)) (w3.setCell ⟨m, 9, none⟩ (.slice (some ⟨g', 0, none⟩) (n + 1) cap')) := fun hb e w3 g' cap' hgr hrow hor => by
    have hE : R.putsE b = 0 := by simp [RP.putsE, hb, hn, e]
    have hR : R.puts b = { R with put := R.put ++ [b] } := by simp [RP.puts, hb, hn, e]
    have k3 : Keeps (fun i => (Value.slice aP n cP).ownBlock = some i) w w3 := ((Keeps.refl _ w).alloc _).grown hgr (fun k e => .inl e)
    have hb3 := k3.blk hm (fun f => own_ne hpr hm (by decide) (by rw [hn]; exact f))
    have kS : Keeps (· = m) w3 (w3.setCell ⟨m, 9, none⟩ (.slice (some ⟨g', 0, none⟩) (n + 1) cap')) := (Keeps.refl (· = m) w3).setCell (p := ⟨m, 9, none⟩) (.inl rfl) _
    have kA : Keeps (fun i => i = m ∨ V.P.ownBlock = some i) w (w3.setCell ⟨m, 9, none⟩ (.slice (some ⟨g', 0, none⟩) (n + 1) cap')) := (k3.mono fun i _ f => .inr (by rw [eP, hn]; exact f)).step (kS.mono fun i _ f => .inl f)
    have hb4 := hb3.setCell 9 (.slice (some ⟨g', 0, none⟩) (n + 1) cap')
    simp at hb4
    have hrow4 := own_far kS hrow (fun g e f => own_ne hrow hb3 (by decide) (f ▸ e))
    have hlt := own_lt hrow4 (g := g') rfl
    refine ⟨⟨_, hb3, rfl⟩, .slice (some ⟨g', 0, none⟩) (n + 1) cap', by rw [hE]; rfl, ?_, kA⟩
    rw [hR]
    refine h.newP kA (R.put ++ [b]) _ hb4 (by rw [natV_snoc, List.length_append, hn]; exact hrow4) (fun i hi => .inl hi) (fun g e => ?_)
    have : g' = g := Option.some.inj e
    subst this
    rcases hor with f | f
    · exact .inl (h.zp g' (by rw [eP, hn]; exact f))
    · exact .inr ⟨f, hlt⟩
  have hst : ∀ k (hk : k < R.put.length), b ∉ R.put.take k → R.put[k] ≠ b → b ∉ R.put.take (k + 1) := fun k hk a c => by
    rw [List.take_add_one, List.getElem?_eq_getElem hk]
    simp only [Option.toList_some, List.mem_append, List.mem_singleton, not_or]
    exact ⟨a, fun e => c e.symm⟩
  have hend : ∀ k, k = n → b ∉ R.put.take k → b ∉ R.put := fun k e hb => by rw [e, ← hn, List.take_length] at hb; exact hb
  have hrw := hpr
  rw [hn] at hput hrw
  have cf := hm.frz
  have c10 := hm.cell 10
  simp at c10
  generalize PutsPost w m R V Z b = Post at *
  replace h := hid h; replace hm := hid hm; replace hpr := hid hpr; replace hrw := hid hrw; replace eP := hid eP; replace hcel := hid hcel; replace hyes := hid hyes; replace hfull := hid hfull; replace hadd := hid hadd; replace hst := hid hst; replace hend := hid hend; replace hn := hid hn; replace hi0 := hid hi0; replace hz0 := hid hz0; replace hz1 := hid hz1; replace hz2 := hid hz2
  go_enter Tryz.func162, Tryz.ntmps162
  go_wp2
  go_loopw [5] (fun i wr => ∃ k : Nat, k ≤ n ∧ i = .int .i64 k ∧ wr = w ∧ b ∉ R.put.take k) (fun i _ => n - (intOf i).toNat)
  case atStart => exact ⟨0, by omega, rfl, rfl, by simp⟩
  case round =>
    obtain ⟨k, hk1, rfl, rfl, hk2⟩ := hrel
    by_cases hlt2 : k < n
    · have hki : (k : Int) < n := by omega
      have hix : 0 ≤ (k : Int) ∧ (k : Int) < (n : Nat) := by omega
      have hkl : k < R.put.length := by have := hn.out; omega
      obtain ⟨gP, rfl, hc⟩ := hcel.out k hkl
      by_cases he : R.put[k] = b
      · have hy := hyes.out k hkl he
        rw [he] at hc
        replace hy := hid hy; replace hk2 := hid hk2; replace he := hid he
        go_wp2
        exact hy.out
      · have hs := hst.out k hkl hk2 he
        have hne : ¬ ((R.put[k] : Nat) : Int) = (b : Int) := by omega
        generalize R.put[k] = y at hc hne
        replace hs := hid hs; replace hk2 := hid hk2; replace he := hid he
        go_wp2
        exact ⟨⟨k + 1, by omega, by go_num, trivial, hs.out⟩, by simp [intOf]; omega⟩
    · have hki : ¬ (k : Int) < n := by omega
      have hb := hend.out k (by omega) hk2
      by_cases h16 : n = 16
      · have hf := hfull.out hb h16
        have hn16 : (n : Int) = 16 := by omega
        replace hf := hid hf; replace hk2 := hid hk2; replace hb := hid hb
        go_wp2
        exact hf.out
      · have hn16 : ¬ (n : Int) = 16 := by omega
        have ha := hadd.out hb h16
        replace hrw := hrw.out
        replace ha := hid ha; replace hk2 := hid hk2; replace hb := hid hb
        go_wp2_with (at_builtin; refine wpList_appendV rfl _ _ 49 rfl 3 i0 (.int .i64 0) 1 8 undInts hi0.out hz0.out hz1.out hz2.out rfl (by decide) _ _ _ rfl (hrw.alloc _) ⟨wr.heap.size, 0, none⟩ 1 1 [.int .i64 b] rfl rfl ?c1 ?c2 (by omega) ?c3 ?c4 ?_)
        case c2 => first | rfl | (intro u hu; simp at hu; subst hu; rfl)
        case c3 => unfold maxLen; omega
        case c4 => omega
        · intro g' cap' w3 hrow3 hgr3 hor3
          obtain ⟨⟨cs, hb3, hcs⟩, hP⟩ := ha.out w3 g' cap' hgr3 hrow3 (hor3.elim (fun x => .inl x.1) (fun x => .inr (by omega)))
          have f9 := hb3.frz 9
          have d9 := hb3.cell 9
          obtain ⟨y9, hy9⟩ : ∃ y, cs[9]? = some y := ⟨_, Array.getElem?_eq_getElem (by omega)⟩
          rw [hy9] at d9
          clear hrow3 hgr3 hor3 hrw
          replace hP := hid hP; replace hb3 := hid hb3; replace hy9 := hid hy9
          go_wp2
          exact hP.out
end
end Go.Vk

namespace Go.Vk
open Go.RowKit Go.Proofs

def RP.nowK (R : RP) (nd : Bool) : List Bool := if nd then R.nowN else R.nowB
def RP.withK (R : RP) (nd : Bool) (l : List Bool) : RP := if nd then { R with nowN := l } else { R with nowB := l }
def RP.laysE (R : RP) (nd : Bool) (l : List Bool) : Nat := if R.nowK nd = l then 0 else R.putsE nd.toNat
def RP.lays (R : RP) (nd : Bool) (l : List Bool) : RP := if R.nowK nd = l then R else if R.putsE nd.toNat = 0 then (R.puts nd.toNat).withK nd l else R.puts nd.toNat
section
variable {w w' : World} {m : Nat} {R : RP} {V : RefV} {Z Z' : Nat → Prop}
def LaysPost (w : World) (m : Nat) (R : RP) (Z : Nat → Prop) (nd : Bool) (v : Value) (l : List Bool) (e : Ending) (w' : World) : Prop :=
  e = .returned (.int .i64 (R.laysE nd l : Nat)) ∧ RefRep w' m (R.lays nd l) (fun i => Z i ∨ v.ownBlock = some i ∨ w.heap.size ≤ i ∧ i < w'.heap.size) ∧ Keeps Z w w'
/-- Ahead of the store. -/
theorem lays_put (h : RefAt w m R V Z) (nd : Bool) {v : Value} {l : List Bool} (hv : BoolRow w 0 v l) (hl : l.length = 4096) (hz : ∀ g, v.ownBlock = some g → ¬ Z g) (hne : R.nowK nd ≠ l) {w1 w2 : World} (k1 : Keeps (fun _ => False) w w1) {e : Ending} (hp : PutsPost w1 m R V Z nd.toNat e w2) :
    ∃ pe : Nat, e = .returned (.int .i64 pe) ∧ (pe ≠ 0 → LaysPost w m R Z nd v l (.returned (.int .i64 pe)) w2) ∧
      (pe = 0 → (∃ cs, Blk w2 m (.cells cs 181 (0, 0)) ∧ cs.size = 13) ∧ LaysPost w m R Z nd v l (.returned (.int .i64 0)) (w2.setCell ⟨m, 5 + nd.toNat, none⟩ v)) := by
  obtain ⟨vp, rfl, hA, k2⟩ := hp
  have kZ : Keeps Z w w2 := (k1.mono fun _ _ f => f.elim).step (k2.mono fun i _ f => by
    rcases f with f | f
    · rw [f]; exact h.zm
    · exact h.zp i f)
  have hs1 := k1.size
  have hs2 := k2.size
  have hE : R.laysE nd l = R.putsE nd.toNat := by unfold RP.laysE; rw [if_neg hne]
  refine ⟨_, rfl, fun hpe => ⟨by rw [hE], ?_, kZ⟩, fun hpe => ⟨⟨_, hA.hm, rfl⟩, by rw [hE, hpe]; rfl, ?_, ?_⟩⟩
  · have hR : R.lays nd l = R.puts nd.toNat := by unfold RP.lays; rw [if_neg hne, if_neg hpe]
    rw [hR]
    exact ⟨_, hA.up fun i hi => hi.elim .inl (fun x => .inr (.inr ⟨by omega, x.2⟩))⟩
  · have hR : R.lays nd l = (R.puts nd.toNat).withK nd l := by unfold RP.lays; rw [if_neg hne, if_pos hpe]
    rw [hR]
    have kS : Keeps (· = m) w2 (w2.setCell ⟨m, 5 + nd.toNat, none⟩ v) := (Keeps.refl (· = m) w2).setCell (p := ⟨m, 5 + nd.toNat, none⟩) (.inl rfl) _
    have hs3 := kS.size
    have hv2 : BoolRow w2 0 v l := own_far kZ hv (fun g e => hz g e)
    have hv3 : BoolRow (w2.setCell ⟨m, 5 + nd.toNat, none⟩ v) 0 v l := own_far kS hv2 (fun g e f => own_ne hv2 hA.hm (by decide) (f ▸ e))
    have hblk := hA.hm.setCell (5 + nd.toNat) v
    have hno : ∀ {y : Value}, InZ Z y → (∃ g, v.ownBlock = some g) → v.ownBlock ≠ y.ownBlock := fun hy ⟨g, e⟩ f => hz g e (hy g (f ▸ e))
    have hvg : ∃ g, v.ownBlock = some g := by
      obtain ⟨g, c, e, _⟩ := own_form hv (by omega)
      exact ⟨g, by rw [e]; rfl⟩
    have hZ : ∀ i, (Z i ∨ w1.heap.size ≤ i ∧ i < w2.heap.size) → Z i ∨ v.ownBlock = some i ∨ w.heap.size ≤ i ∧ i < (w2.setCell ⟨m, 5 + nd.toNat, none⟩ v).heap.size := fun i hi => hi.elim .inl (fun x => .inr (.inr ⟨by omega, by omega⟩))
    cases nd
    · exact ⟨_, hA.newB kS l v (by simpa [refO] using hblk) hv3 hl hZ (fun g e => .inr (.inl e)) (hno h.znn hvg) (hno h.zob hvg) (hno h.zon hvg)⟩
    · exact ⟨_, hA.newN kS l v (by simpa [refO] using hblk) hv3 hl hZ (fun g e => .inr (.inl e)) (hno h.znb hvg) (hno h.zob hvg) (hno h.zon hvg)⟩
  · exact kZ.step (((Keeps.refl (· = m) w2).setCell (p := ⟨m, 5 + nd.toNat, none⟩) (.inl rfl) _).mono fun i _ f => by rw [f]; exact h.zm)
set_option maxRecDepth 100000 in
set_option maxHeartbeats 1000000 in
theorem rlays_w (h : RefAt w m R V Z) (hput : R.put.length ≤ 16) (nd : Bool) {v : Value} {l : List Bool} (hv : BoolRow w 0 v l) (hl : l.length = 4096) (hz : ∀ g, v.ownBlock = some g → ¬ Z g) : Calls Tryz.prog 128 #[.pointer (some ⟨m, 0, none⟩), .int .i64 nd.toNat, v] w (LaysPost w m R Z nd v l) := by
  have hm := h.hm
  unfold refO at hm
  have c5 := hm.cell 5
  have c6 := hm.cell 6
  simp at c5 c6
  have hwas : BoolSl w (if nd then V.NN else V.NB) (R.nowK nd) := by
    cases nd
    · exact h.nb.sl h.lb.2.2.1
    · exact h.nn.sl h.lb.2.2.2
  have hwl : (R.nowK nd).length = 4096 := by
    cases nd
    · exact h.lb.2.2.1
    · exact h.lb.2.2.2
  have hAl := alike_w w _ v _ l hwas (hv.sl hl) hwl hl
  have hsame : R.nowK nd = l → ∀ w1, Keeps (fun _ => False) w w1 → LaysPost w m R Z nd v l (.returned (.int .i64 0)) w1 := fun e w1 k1 => by
    refine ⟨by simp [RP.laysE, e], ?_, k1.mono fun _ _ f => f.elim⟩
    have : R.lays nd l = R := by simp [RP.lays, e]
    rw [this]
    exact ⟨V, (h.keeps k1 (fun _ _ f => f)).up fun i hi => .inl hi⟩
  have hPu : ∀ w1, Keeps (fun _ => False) w w1 → Calls Tryz.prog 162 #[.pointer (some ⟨m, 0, none⟩), .int .i64 nd.toNat] w1 (PutsPost w1 m R V Z nd.toNat) := fun w1 k1 => rputs_w (h.keeps k1 (fun _ _ f => f)) hput nd.toNat
  have hF := fun (hne : R.nowK nd ≠ l) w1 w2 (k1 : Keeps (fun _ => False) w w1) e (hp : PutsPost w1 m R V Z nd.toNat e w2) => lays_put h nd hv hl hz hne k1 hp
  have hdr : ∀ k, Keeps (fun _ => False) w (w.drewN k) := fun k => (Keeps.refl _ w).drewN k
  generalize LaysPost w m R Z nd v l = Post at *
  obtain ⟨av, cv, rfl⟩ := own_shape hv
  rw [hl] at *
  obtain ⟨b, hb⟩ : ∃ b, decide (R.nowK nd = l) = b := ⟨_, rfl⟩
  rw [hb] at hAl
  cases b
  · have hne : R.nowK nd ≠ l := by simpa using hb
    have hF := hF hne
    clear hsame hb hwas hwl hv
    cases nd
    all_goals
      simp only [Bool.toNat_true, Bool.toNat_false, Bool.false_eq_true, if_true, if_false] at *
      replace h := hid h; replace hm := hid hm; replace hAl := hid hAl; replace hPu := hid hPu; replace hF := hid hF; replace hdr := hid hdr; replace hne := hid hne
      go_enter Tryz.func128, Tryz.ntmps128
      go_upto_region 7 with (first
        | (go_at_call 161; refine hAl.out.mono ?_; rintro e w1 ⟨rfl, k, rfl⟩; have k1 := hdr.out k; have hP1 := hPu.out _ k1; replace hP1 := hid hP1; replace k1 := hid k1)
        | (go_at_call 162; refine hP1.out.mono ?_; intro e w2 hx; obtain ⟨pe, rfl, hbad, hgood⟩ := hF.out _ _ k1.out _ hx; clear hx; replace hbad := hid hbad; replace hgood := hid hgood))
      by_cases hpe : pe = 0
      · obtain ⟨⟨cs, hb2, hcs⟩, hP⟩ := hgood.out hpe
        have hpi : (pe : Int) = 0 := by omega
        have f5 := hb2.frz 5
        have f6 := hb2.frz 6
        have d5 := hb2.cell 5
        have d6 := hb2.cell 6
        obtain ⟨y5, hy5⟩ : ∃ y, cs[5]? = some y := ⟨_, Array.getElem?_eq_getElem (by omega)⟩
        obtain ⟨y6, hy6⟩ : ∃ y, cs[6]? = some y := ⟨_, Array.getElem?_eq_getElem (by omega)⟩
        rw [hy5] at d5
        rw [hy6] at d6
        replace hP := hid hP; replace hb2 := hid hb2; replace hy5 := hid hy5; replace hy6 := hid hy6; replace hpe := hid hpe
        go_wp2
        exact hP.out
      · have hP := hbad.out hpe
        have hpi : ¬ (pe : Int) = 0 := by omega
        replace hP := hid hP; replace hpe := hid hpe
        go_wp2
        exact hP.out
  · have he : R.nowK nd = l := by simpa using hb
    have hsm := hsame he
    clear hsame hF hb hwas hwl hv
    cases nd
    all_goals
      simp only [Bool.toNat_true, Bool.toNat_false, Bool.false_eq_true, if_true, if_false] at *
      replace h := hid h; replace hm := hid hm; replace hAl := hid hAl; replace hPu := hid hPu; replace hdr := hid hdr; replace he := hid he; replace hsm := hid hsm
      go_enter Tryz.func128, Tryz.ntmps128
      go_wp2_with (go_at_call 161; (refine hAl.out.mono ?_; rintro e w1 ⟨rfl, k, rfl⟩; have k1 := hsm.out _ (hdr.out k); replace k1 := hid k1))
      exact k1.out
end
end Go.Vk

namespace Go.Vk
open Go.RowKit Go.Proofs

def Zn (w0 w : World) (Z : Nat → Prop) (i : Nat) : Prop := Z i ∨ w0.heap.size ≤ i ∧ i < w.heap.size
/-- From w to w' the document's pool alone has moved. -/
structure RStep (w w' : World) (m : Nat) (R' : RP) (Z : Nat → Prop) : Prop where
  rep : RefRep w' m R' (Zn w w' Z)
  k : Keeps Z w w'
section
variable {w0 w w' : World} {m : Nat} {R R' : RP} {Z : Nat → Prop}
theorem RefRep.up {Z' : Nat → Prop} (h : RefRep w m R Z) (hZ : ∀ i, Z i → Z' i) : RefRep w m R Z' := by
  obtain ⟨V, h⟩ := h; exact ⟨V, h.up hZ⟩
theorem RStep.quiet (h : RefRep w m R Z) (k : Keeps (fun _ => False) w w') : RStep w w' m R Z :=
  ⟨(h.keeps k (fun _ _ f => f)).up fun _ h => .inl h, k.mono fun _ _ f => f.elim⟩
theorem Zn.trans {w1 w2 : World} {i : Nat} (h1 : w0.heap.size ≤ w1.heap.size) (h2 : w1.heap.size ≤ w2.heap.size) (h : Zn w1 w2 (Zn w0 w1 Z) i) : Zn w0 w2 Z i := by
  rcases h with (h | h) | h
  · exact .inl h
  · exact .inr ⟨h.1, by omega⟩
  · exact .inr ⟨by omega, h.2⟩
theorem RStep.trans {w1 w2 : World} {R1 R2 : RP} (h : RStep w0 w1 m R1 Z) (h' : RStep w1 w2 m R2 (Zn w0 w1 Z)) : RStep w0 w2 m R2 Z :=
  ⟨h'.rep.up fun i hi => Zn.trans h.k.size h'.k.size hi, h.k.trans h'.k (fun i hi f => f.elim id (fun x => by omega))⟩
theorem lays_new (h : RefRep w0 m R Z) (hlt : ∀ i, Z i → i < w0.heap.size) (hput : R.put.length ≤ 16) (k : Keeps (fun _ => False) w0 w) (nd : Bool) {v : Value} {l : List Bool} {lo : Nat} (hv : BoolRow w lo v l) (hl : l.length = 4096) (hg : ∀ g, v.ownBlock = some g → w0.heap.size ≤ g) :
    Calls Tryz.prog 128 #[.pointer (some ⟨m, 0, none⟩), .int .i64 nd.toNat, v] w fun e w' => e = .returned (.int .i64 (R.laysE nd l : Nat)) ∧ RStep w0 w' m (R.lays nd l) Z := by
  obtain ⟨V, h⟩ := h
  refine (rlays_w (h.keeps k (fun _ _ f => f)) hput nd (own_lo hv (Nat.zero_le _)) hl (fun g e z => by have := hg g e; have := hlt g z; omega)).mono ?_
  rintro e w' ⟨rfl, h2, k2⟩
  have hs1 := k.size
  have hs2 := k2.size
  refine ⟨rfl, h2.up fun i hi => ?_, (k.mono fun _ _ f => f.elim).step k2⟩
  rcases hi with hi | hi | hi
  · exact .inl hi
  · exact .inr ⟨hg i hi, by have := own_lt hv hi; omega⟩
  · exact .inr ⟨by omega, hi.2⟩
theorem put_le (R : RP) (nd : Bool) (l : List Bool) (h : R.put.length ≤ 16) : (R.lays nd l).put.length ≤ 16 := by
  unfold RP.lays RP.withK RP.puts
  split
  · exact h
  · repeat' split
    all_goals first | exact h | (simp only [List.length_append, List.length_singleton]; omega)

/-- Write onto a bitmap. -/
def RP.writeE (R : RP) (nd : Bool) (bs : List UInt8) : Nat := if R.state = 0 then R.laysE nd (bitsOf bs) else R.state
def RP.write (R : RP) (nd : Bool) (bs : List UInt8) : RP := if R.state = 0 then R.lays nd (bitsOf bs) else R
set_option maxHeartbeats 1000000 in
theorem rwrite_w (h : RefRep w m R Z) (hlt : ∀ i, Z i → i < w.heap.size) (hput : R.put.length ≤ 16) (nd : Bool) {v : Value} {bs : List UInt8} (hv : ByteSl w v bs) (hl : bs.length ≤ 512) :
    Calls Tryz.prog 171 #[.pointer (some ⟨m, 0, none⟩), .int .i64 nd.toNat, v] w fun e w' => e = .returned (.int .i64 (R.writeE nd bs : Nat)) ∧ RStep w w' m (R.write nd bs) Z := by
  have hS := rstate_w h
  have hF := fromBytes_w w v bs hv hl
  have hL := fun w1 (k : Keeps (fun _ => False) w w1) g cap (hr : BoolRow w1 w.heap.size (.slice (some ⟨g, 0, none⟩) 4096 cap) (bitsOf bs)) => lays_new h hlt hput k nd hr (bitsOf_length bs) (fun g e => ownBlock_ge hr g e)
  have hq := RStep.quiet h (Keeps.refl _ w)
  obtain ⟨a, cap, rfl, _⟩ := id hv
  unfold RP.writeE RP.write
  by_cases hs : R.state = 0
  · rw [if_pos hs, if_pos hs]
    rw [hs] at hS
    cases nd
    all_goals
      simp only [Bool.toNat_true, Bool.toNat_false] at hL ⊢
      generalize R.laysE _ (bitsOf bs) = le at *
      replace h := hid h; replace hS := hid hS; replace hF := hid hF; replace hL := hid hL; replace hq := hid hq; replace hs := hid hs; replace hv := hid hv
      go_enter Tryz.func171, Tryz.ntmps171
      go_wp2_with (first
        | (go_at_call 126; refine hS.out.mono ?_; rintro e w1 ⟨rfl, rfl⟩)
        | (go_at_call 86; refine hF.out.mono ?_; rintro e w1 ⟨g, cap, rfl, _, _, hr, hk⟩; have hL1 := hL.out _ hk _ _ hr; replace hL1 := hid hL1; clear hr hk)
        | (go_at_call 128; refine hL1.out.mono ?_; rintro e w2 ⟨rfl, hx⟩; replace hx := hid hx))
      go_ret
      exact ⟨rfl, hx.out⟩
  · rw [if_neg hs, if_neg hs]
    have hsi : ¬ (R.state : Int) = 0 := by omega
    generalize R.state = s at *
    clear hF hL hv
    replace h := hid h; replace hS := hid hS; replace hq := hid hq; replace hs := hid hs
    go_enter Tryz.func171, Tryz.ntmps171
    go_wp2_with (go_at_call 126; refine hS.out.mono ?_; rintro e w1 ⟨rfl, rfl⟩)
    go_ret
    exact ⟨rfl, hq.out⟩

def RP.clearE (R : RP) : Nat := if R.state = 0 then (if R.laysE false (bitsOf (onesB R.data)) = 0 then (R.lays false (bitsOf (onesB R.data))).laysE true noBits else R.laysE false (bitsOf (onesB R.data))) else R.state
def RP.clear (R : RP) : RP := if R.state = 0 then (if R.laysE false (bitsOf (onesB R.data)) = 0 then (R.lays false (bitsOf (onesB R.data))).lays true noBits else R.lays false (bitsOf (onesB R.data))) else R
theorem ones_step (k : Nat) (hk : k < 4096) : bitsOf (onesB (k + 1)) = (bitsOf (onesB k)).set k true := by
  refine List.ext_getElem (by rw [List.length_set, bitsOf_length, bitsOf_length]) fun i h1 h2 => ?_
  rw [bitsOf_get, List.getElem_set, bitsOf_get, bitOf_ones _ _ (by omega), bitOf_ones _ _ (by omega)]
  by_cases e : k = i
  · subst e; simp
  · rw [if_neg e, decide_eq_decide]; omega
theorem RefRep.dataCell (h : RefRep w m R Z) : w.cell? ⟨m, 2, none⟩ = some (.int .i64 (R.data : Nat)) := by
  obtain ⟨V, h⟩ := h
  have hm := h.hm
  unfold refO at hm
  have := hm.cell 2
  simpa using this
set_option maxRecDepth 100000 in
set_option maxHeartbeats 2000000 in
theorem rclear_w (h : RefRep w m R Z) (hlt : ∀ i, Z i → i < w.heap.size) (hput : R.put.length ≤ 16) (hd : R.data ≤ 4096) :
    Calls Tryz.prog 77 #[.pointer (some ⟨m, 0, none⟩)] w fun e w' => e = .returned (.int .i64 (R.clearE : Nat)) ∧ RStep w w' m R.clear Z := by
  have hS := rstate_w h
  have hN := fun w => none_w2 w
  have hq := RStep.quiet h (Keeps.refl _ w)
  have hdc := h.dataCell
  unfold RP.clearE RP.clear
  by_cases hs : R.state = 0
  · rw [if_pos hs, if_pos hs]
    rw [hs] at hS
    have hL := fun w1 (k : Keeps (fun _ => False) w w1) g cap (hr : BoolRow w1 w.heap.size (.slice (some ⟨g, 0, none⟩) 4096 cap) (bitsOf (onesB R.data))) => lays_new h hlt hput k false hr (bitsOf_length _) (fun g e => ownBlock_ge hr g e)
    have hL2 := fun w1 (hst : RStep w w1 m (R.lays false (bitsOf (onesB R.data))) Z) w2 (k : Keeps (fun _ => False) w1 w2) g cap (hr : BoolRow w2 w1.heap.size (.slice (some ⟨g, 0, none⟩) 4096 cap) noBits) =>
      (lays_new hst.rep (fun i hi => hi.elim (fun z => Nat.lt_of_lt_of_le (hlt i z) hst.k.size) (·.2)) (put_le _ _ _ hput) k true hr length_noBits (fun g e => ownBlock_ge hr g e)).mono fun e w' (x : e = .returned (.int .i64 ((R.lays false (bitsOf (onesB R.data))).laysE true noBits : Nat)) ∧ RStep w1 w' m ((R.lays false (bitsOf (onesB R.data))).lays true noBits) (Zn w w1 Z)) => (⟨x.1, hst.trans x.2⟩ : e = .returned (.int .i64 ((R.lays false (bitsOf (onesB R.data))).laysE true noBits : Nat)) ∧ RStep w w' m ((R.lays false (bitsOf (onesB R.data))).lays true noBits) Z)
    have hst := fun k (hk : k < 4096) => ones_step k hk
    have h0 : bitsOf (onesB 0) = noBits := bitsOf_zeros 512
    have hlen := fun k => bitsOf_length (onesB k)
    have hdcw := fun w1 (k : Keeps (fun _ => False) w w1) => k.cellF hdc (fun f => f)
    generalize R.lays false (bitsOf (onesB R.data)) = R1 at *
    generalize R.laysE false (bitsOf (onesB R.data)) = le at *
    generalize R.data = D at *
    generalize R1.laysE true noBits = le2 at *
    simp only [Bool.toNat_true, Bool.toNat_false] at hL hL2
    have hbad : le ≠ 0 → (if le = 0 then le2 else le) = le ∧ (if le = 0 then R1.lays true noBits else R1) = R1 := fun h => ⟨if_neg h, if_neg h⟩
    have hgood : le = 0 → (if le = 0 then le2 else le) = le2 ∧ (if le = 0 then R1.lays true noBits else R1) = R1.lays true noBits := fun h => ⟨if_pos h, if_pos h⟩
    generalize (if le = 0 then le2 else le) = leX at *
    generalize (if le = 0 then R1.lays true noBits else R1) = RX at *
    replace h := hid h; replace hS := hid hS; replace hN := hid hN; replace hq := hid hq; replace hdc := hid hdc; replace hs := hid hs; replace hL := hid hL; replace hL2 := hid hL2; replace hst := hid hst; replace h0 := hid h0; replace hlen := hid hlen; replace hdcw := hid hdcw; replace hbad := hid hbad; replace hgood := hid hgood
    go_enter Tryz.func77, Tryz.ntmps77
    go_upto_region 5 with (first
      | (go_at_call 126; refine hS.out.mono ?_; rintro e w1 ⟨rfl, rfl⟩)
      | (go_at_call 127; refine (hN.out _).mono ?_; rintro e w2 ⟨g, cap, rfl, hg1, hg2, hr, hk⟩; replace hr := hid hr; replace hk := hid hk))
    have hr0 : BoolRow w2 w.heap.size (.slice (some ⟨g, 0, none⟩) 4096 cap) (bitsOf (onesB 0)) := by rw [h0.out]; exact hr.out
    clear hr
    replace hr0 := hid hr0
    go_wp2
    go_loopw [5] (fun i wr => ∃ k : Nat, k ≤ D ∧ i = .int .i64 k ∧ BoolRow wr w.heap.size (.slice (some ⟨g, 0, none⟩) 4096 cap) (bitsOf (onesB k)) ∧ Keeps (fun _ => False) w wr) (fun i _ => D - (intOf i).toNat)
    case atStart => exact ⟨0, by omega, rfl, hr0.out, hk.out⟩
    case round =>
      obtain ⟨k, hk1, rfl, hr, hk2⟩ := hrel
      clear hr0 hk
      have c2 := hdcw.out wr hk2
      by_cases hlt2 : k < D
      · have hki : (k : Int) < D := by omega
        have hix : 0 ≤ (k : Int) ∧ (k : Int) < (4096 : Nat) := by omega
        have hset := hr.set (hlen.out _) k true
        rw [← hst.out k (by omega)] at hset
        have hfr := hr.frz (hlen.out _) k
        have hks := hk2.setCell (p := ⟨g, k, none⟩) (.inr hg1) (.bool true)
        obtain ⟨b0, hcg⟩ : ∃ b0, wr.cell? ⟨g, k, none⟩ = some (.bool b0) := by
          obtain ⟨_, _, e1, _, _, e2⟩ := BoolRow.slice hr (by rw [hlen.out]; decide)
          injection e1 with e1 _ e3
          injection e1 with e1
          injection e1 with e1
          subst e1
          exact ⟨_, e2 k (by rw [hlen.out]; omega)⟩
        replace hset := hid hset; replace hks := hid hks; replace hr := hid hr; replace hk2 := hid hk2
        go_wp2
        exact ⟨⟨k + 1, by omega, by go_num, hset.out, hks.out⟩, by simp [intOf]; omega⟩
      · have hki : ¬ (k : Int) < D := by omega
        obtain rfl : k = D := by omega
        have hL1 := hL.out wr hk2 g cap hr
        clear hL
        replace hr := hid hr; replace hk2 := hid hk2; replace hL1 := hid hL1
        go_upto_region 10 with (go_at_call 128; refine hL1.out.mono ?_; rintro e w3 ⟨rfl, hs3⟩; replace hs3 := hid hs3)
        by_cases hle : le = 0
        · obtain ⟨rfl, rfl⟩ := hgood.out hle
          have hlei : (le : Int) = 0 := by omega
          have hL3 := hL2.out _ hs3.out
          clear hL2 hL1 hbad hgood hle
          replace hL3 := hid hL3
          go_wp2_with (first
            | (go_at_call 127; refine (hN.out _).mono ?_; rintro e w4 ⟨g4, cap4, rfl, _, _, hr4, hk4⟩; have hL4 := hL3.out _ hk4 _ _ hr4; replace hL4 := hid hL4; clear hr4 hk4)
            | (go_at_call 128; refine hL4.out.mono ?_; rintro e w5 ⟨rfl, hs5⟩; replace hs5 := hid hs5))
          go_ret
          exact ⟨rfl, hs5.out⟩
        · obtain ⟨rfl, rfl⟩ := hbad.out hle
          have hlei : ¬ (leX : Int) = 0 := by omega
          clear hL2 hL1 hbad hgood hle
          go_wp2
          go_ret
          exact ⟨rfl, hs3.out⟩
  · rw [if_neg hs, if_neg hs]
    have hsi : ¬ (R.state : Int) = 0 := by omega
    generalize R.state = s at *
    replace h := hid h; replace hS := hid hS; replace hq := hid hq; replace hs := hid hs; replace hN := hid hN; replace hdc := hid hdc
    go_enter Tryz.func77, Tryz.ntmps77
    go_wp2_with (go_at_call 126; refine hS.out.mono ?_; rintro e w1 ⟨rfl, rfl⟩)
    go_ret
    exact ⟨rfl, hq.out⟩
end
end Go.Vk

namespace Go.Vk
open Go.RowKit Go.Proofs

section
variable {w w' : World} {m : Nat} {R R' : RP} {V : RefV} {Z : Nat → Prop}
def RefV.NK (V : RefV) (nd : Bool) : Value := if nd then V.NN else V.NB
theorem RefAt.rowK (h : RefAt w m R V Z) (nd : Bool) : BoolRow w 0 (V.NK nd) (R.nowK nd) ∧ (R.nowK nd).length = 4096 := by
  cases nd
  · exact ⟨h.nb, h.lb.2.2.1⟩
  · exact ⟨h.nn, h.lb.2.2.2⟩
theorem RefAt.cellK (h : RefAt w m R V Z) (nd : Bool) : w.cell? ⟨m, 5 + nd.toNat, none⟩ = some (V.NK nd) := by
  have hm := h.hm
  unfold refO at hm
  cases nd
  · simpa [RefV.NK] using hm.cell 5
  · simpa [RefV.NK] using hm.cell 6
theorem puts_nowK (R : RP) (b : Nat) (nd : Bool) : (R.puts b).nowK nd = R.nowK nd := by
  unfold RP.puts RP.nowK
  repeat' split
  all_goals rfl
/-- Behind Puts, ahead of the store of a bit. -/
theorem bit_put (h : RefAt w m R V Z) (nd : Bool) (i : Nat) (hi : i < 4096) (x : Bool) {w1 w2 : World} (k1 : Keeps (fun _ => False) w w1) {e : Ending} (hp : PutsPost w1 m R V Z nd.toNat e w2) :
    e = .returned (.int .i64 (R.putsE nd.toNat : Nat)) ∧ RStep w w2 m (R.puts nd.toNat) Z ∧
      ∃ g cap b0, w2.cell? ⟨m, 5 + nd.toNat, none⟩ = some (.slice (some ⟨g, 0, none⟩) 4096 cap) ∧ w2.cell? ⟨g, i, none⟩ = some (.bool b0) ∧ w2.frozen? ⟨g, i, none⟩ = false ∧
        RStep w (w2.setCell ⟨g, i, none⟩ (.bool x)) m ((R.puts nd.toNat).withK nd ((R.nowK nd).set i x)) Z := by
  obtain ⟨vp, rfl, hA, k2⟩ := hp
  have kZ : Keeps Z w w2 := (k1.mono fun _ _ f => f.elim).step (k2.mono fun i _ f => by
    rcases f with f | f
    · rw [f]; exact h.zm
    · exact h.zp i f)
  have hs1 := k1.size
  have hs2 := k2.size
  have hup : ∀ i, (Z i ∨ w1.heap.size ≤ i ∧ i < w2.heap.size) → Zn w w2 Z i := fun i hi => hi.elim .inl (fun x => .inr ⟨by omega, x.2⟩)
  refine ⟨rfl, ⟨⟨_, hA.up hup⟩, kZ⟩, ?_⟩
  obtain ⟨hr, hl⟩ := hA.rowK nd
  obtain ⟨g, cap, e1, _, hglt, e2⟩ := BoolRow.slice hr (by omega)
  have hc := hA.cellK nd
  rw [e1, hl] at hc
  have hr' := hr
  rw [e1, hl] at hr'
  have hset := hr'.set hl i x
  have hZg : Zn w w2 Z g := by
    have hz : (RefV.NK { V with P := vp } nd).ownBlock = some g := by rw [e1]; rfl
    cases nd
    · exact hup g (hA.znb g hz)
    · exact hup g (hA.znn g hz)
  have kS : Keeps (fun j => (RefV.NK { V with P := vp } nd).ownBlock = some j) w2 (w2.setCell ⟨g, i, none⟩ (.bool x)) := (Keeps.refl _ w2).setCell (p := ⟨g, i, none⟩) (.inl (by rw [e1]; rfl)) _
  have hs3 := kS.size
  have hsz : (w2.setCell ⟨g, i, none⟩ (.bool x)).heap.size = w2.heap.size := World.size_setCell ..
  have hup2 : ∀ i', (Z i' ∨ w1.heap.size ≤ i' ∧ i' < w2.heap.size) → Zn w (w2.setCell ⟨g, i, none⟩ (.bool x)) Z i' := fun i' hi => hi.elim .inl (fun x => .inr ⟨by omega, by omega⟩)
  refine ⟨g, cap, _, hc, e2 i (by omega), hr'.frz hl i, ?_, ?_⟩
  · rw [puts_nowK] at hset hl e1
    have hset2 : BoolRow (w2.setCell ⟨g, i, none⟩ (.bool x)) 0 (RefV.NK { V with P := vp } nd) ((R.nowK nd).set i x) := by rw [e1, hl]; exact hset
    cases nd
    · exact ⟨_, (hA.bitB kS _ hset2 (by rw [List.length_set]; exact hl)).up hup2⟩
    · exact ⟨_, (hA.bitN kS _ hset2 (by rw [List.length_set]; exact hl)).up hup2⟩
  · refine kZ.trans kS (fun j hj f => ?_)
    rw [e1] at f
    have : g = j := Option.some.inj f
    subst this
    rcases hZg with z | z
    · exact z
    · omega

def rLo (R : RP) (nd : Bool) : Nat := if nd then 0 else R.data
def rHi (R : RP) (nd : Bool) : Nat := if nd then R.nodes else R.blocks
def RP.takeA (R : RP) (nd : Bool) (b : List UInt8) : Nat × Nat := if R.state = 0 then (match firstFree b (rLo R nd) (rHi R nd) with | none => (0, noE nd) | some i => if R.putsE nd.toNat = 0 then (i + nd.toNat, 0) else (0, R.putsE nd.toNat)) else (0, R.state)
def RP.take (R : RP) (nd : Bool) (b : List UInt8) : RP := if R.state = 0 then (match firstFree b (rLo R nd) (rHi R nd) with | none => { R with sp := noE nd } | some i => if R.putsE nd.toNat = 0 then (R.puts nd.toNat).withK nd (bitsOf (flipB b i)) else R.puts nd.toNat) else R
def TakePost (w : World) (m : Nat) (R : RP) (Z : Nat → Prop) (nd : Bool) (b : List UInt8) (e : Ending) (w' : World) : Prop :=
  e = .returned (.tuple #[.int .i64 ((R.takeA nd b).1 : Nat), .int .i64 ((R.takeA nd b).2 : Nat)]) ∧ RStep w w' m (R.take nd b) Z
/-- What the walk of a take leans on. -/
theorem take_parts (h : RefAt w m R V Z) (hput : R.put.length ≤ 16) (nd : Bool) (b : List UInt8) (hb : R.nowK nd = bitsOf b) (hbl : b.length = 512) (hle : rLo R nd ≤ rHi R nd) (hhi : rHi R nd ≤ 2048) (hs : R.state = 0) :
    ∃ g cap, w.cell? ⟨m, 5 + nd.toNat, none⟩ = some (.slice (some ⟨g, 0, none⟩) 4096 cap) ∧
      (∀ w1, Keeps (fun _ => False) w w1 → Calls Tryz.prog 193 #[.slice (some ⟨g, 0, none⟩) 4096 cap, .int .i64 (rLo R nd : Nat), .int .i64 (rHi R nd : Nat)] w1 fun e w' => e = .returned (.int .i64 (lowI (firstFree b (rLo R nd) (rHi R nd)))) ∧ w1 = w') ∧
      (firstFree b (rLo R nd) (rHi R nd) = none → ∀ w1, Keeps (fun _ => False) w w1 → TakePost w m R Z nd b (.returned (.tuple #[.int .i64 0, .int .i64 (noE nd : Nat)])) (w1.setCell ⟨m, 8 + 2, none⟩ (.int .i64 (noE nd : Nat)))) ∧
      (∀ i, firstFree b (rLo R nd) (rHi R nd) = some i → i < 2048 ∧ ∀ w1, Keeps (fun _ => False) w w1 → Calls Tryz.prog 162 #[.pointer (some ⟨m, 0, none⟩), .int .i64 nd.toNat] w1 fun e w2 =>
        ∃ pe : Nat, e = .returned (.int .i64 pe) ∧ (pe ≠ 0 → TakePost w m R Z nd b (.returned (.tuple #[.int .i64 0, .int .i64 pe])) w2) ∧
          (pe = 0 → ∃ g cap b0, w2.cell? ⟨m, 5 + nd.toNat, none⟩ = some (.slice (some ⟨g, 0, none⟩) 4096 cap) ∧ w2.cell? ⟨g, i, none⟩ = some (.bool b0) ∧ w2.frozen? ⟨g, i, none⟩ = false ∧
            TakePost w m R Z nd b (.returned (.tuple #[.int .i64 (i + nd.toNat : Nat), .int .i64 0])) (w2.setCell ⟨g, i, none⟩ (.bool true)))) := by
  obtain ⟨hr, hl⟩ := h.rowK nd
  obtain ⟨g, cap, e1, _, hglt, e2⟩ := BoolRow.slice hr (by omega)
  have hc := h.cellK nd
  rw [e1, hl] at hc
  refine ⟨g, cap, hc, fun w1 k1 => ?_, fun hf w1 k1 => ⟨?_, ?_⟩, fun i hf => ?_⟩
  · refine lowest_w w1 _ b ?_ _ _ hle (by omega)
    refine ⟨g, cap, by rw [bitsOf_length], fun i hi => ?_⟩
    have := k1.cellF (e2 i (by rw [hl]; rw [bitsOf_length] at hi; exact hi)) (fun f => f)
    simpa only [hb] using this
  · simp [RP.takeA, hs, hf]
  · have hR : R.take nd b = { R with sp := noE nd } := by simp [RP.take, hs, hf]
    rw [hR]
    have kS : Keeps (· = m) w1 (w1.setCell ⟨m, 8 + 2, none⟩ (.int .i64 (noE nd : Nat))) := (Keeps.refl (· = m) w1).setCell (p := ⟨m, 8 + 2, none⟩) (.inl rfl) _
    have h1 := h.keeps k1 (fun _ _ f => f)
    have hblk := h1.hm
    unfold refO at hblk
    have hblk2 := hblk.setCell 10 (.int .i64 (noE nd : Nat))
    simp at hblk2
    exact ⟨⟨_, (h1.flag kS (noE nd) R.op R.dead id (by simpa [refO] using hblk2)).up fun i hi => .inl hi⟩, (k1.mono fun _ _ f => f.elim).step (kS.mono fun i _ f => by rw [f]; exact h.zm)⟩
  · obtain ⟨a1, a2, a3, a4⟩ := firstFree_some hf
    refine ⟨by omega, fun w1 k1 => (rputs_w (h.keeps k1 (fun _ _ f => f)) hput nd.toNat).mono fun e w2 hp => ?_⟩
    obtain ⟨rfl, hst, g2, cap2, b0, y1, y2, y3, y4⟩ := bit_put h nd i (by omega) true k1 hp
    refine ⟨_, rfl, fun hpe => ⟨?_, ?_⟩, fun hpe => ⟨g2, cap2, b0, y1, y2, y3, ?_, ?_⟩⟩
    · simp [RP.takeA, hs, hf, hpe]
    · have hR : R.take nd b = R.puts nd.toNat := by simp [RP.take, hs, hf, hpe]
      rw [hR]; exact hst
    · simp [RP.takeA, hs, hf, hpe]
    · have hR : R.take nd b = (R.puts nd.toNat).withK nd (bitsOf (flipB b i)) := by simp [RP.take, hs, hf, hpe]
      rw [hR, bitsOf_flip b i (by omega) hbl, a3, ← hb]; exact y4
end
end Go.Vk

namespace Go.Vk
open Go.RowKit Go.Proofs

section
variable {w w' : World} {m : Nat} {R R' : RP} {V : RefV} {Z : Nat → Prop}
set_option maxRecDepth 100000 in
set_option maxHeartbeats 2000000 in
theorem rtakeB_w (h : RefRep w m R Z) (hput : R.put.length ≤ 16) (b : List UInt8) (hb : R.nowK false = bitsOf b) (hbl : b.length = 512) (hle : rLo R false ≤ rHi R false) (hhi : rHi R false ≤ 2048) :
    Calls Tryz.prog 163 #[.pointer (some ⟨m, 0, none⟩)] w (TakePost w m R Z false b) := by
  have hS := rstate_w h
  by_cases hs : R.state = 0
  · obtain ⟨V, h⟩ := h
    obtain ⟨g, cap, hc, hLow, hNo, hYes⟩ := take_parts h hput false b hb hbl hle hhi hs
    have hm := h.hm
    unfold refO at hm
    have c0 := hm.cell 0
    have c1 := hm.cell 1
    have c2 := hm.cell 2
    have c10 := hm.cell 10
    have cf := hm.frz
    simp at c0 c1 c2 c10
    have hdr : ∀ k, Keeps (fun _ => False) w (w.drewN k) := fun k => (Keeps.refl _ w).drewN k
    rw [hs] at hS
    simp only [Bool.toNat_true, Bool.toNat_false] at hc hYes
    unfold rLo rHi at *
    simp only [Bool.false_eq_true, if_true, if_false] at *
    generalize TakePost w m R Z false b = Post at *
    generalize R.data = D at *
    generalize R.blocks = BL at *
    generalize R.nodes = NO at *
    cases hf : firstFree b D BL with
    | none =>
      have hNo := hNo hf
      rw [hf] at hLow
      unfold noE at hNo
      simp only [Bool.false_eq_true, if_true, if_false] at hNo
      clear hYes
      replace h := hid h; replace hm := hid hm; replace hS := hid hS; replace hLow := hid hLow; replace hNo := hid hNo; replace hdr := hid hdr; replace hb := hid hb; replace hbl := hid hbl; replace hs := hid hs; replace hf := hid hf
      go_enter Tryz.func163, Tryz.ntmps163
      go_upto_region 4 with (go_at_call 126; refine hS.out.mono ?_; rintro e w1 ⟨rfl, rfl⟩)
      go_quiet (first | (go_at_call 193; exact Calls.quiet_of_same ((hLow.out _ (hdr.out _)).mono fun e w' x => ⟨x.1, x.2.symm⟩)))
      have hfin := hNo.out _ (hdr.out nq)
      replace hfin := hid hfin
      have hneg : lowI none = -1 := rfl
      simp only [hneg]
      go_wp2
      exact hfin.out
    | some i =>
      obtain ⟨hi, hP⟩ := hYes i hf
      rw [hf] at hLow
      clear hNo hYes
      have hpos : lowI (some i) = (i : Int) := rfl
      rw [hpos] at hLow
      replace h := hid h; replace hm := hid hm; replace hS := hid hS; replace hLow := hid hLow; replace hP := hid hP; replace hdr := hid hdr; replace hb := hid hb; replace hbl := hid hbl; replace hs := hid hs; replace hf := hid hf
      go_enter Tryz.func163, Tryz.ntmps163
      go_upto_region 4 with (go_at_call 126; refine hS.out.mono ?_; rintro e w1 ⟨rfl, rfl⟩)
      go_quiet (first | (go_at_call 193; exact Calls.quiet_of_same ((hLow.out _ (hdr.out _)).mono fun e w' x => ⟨x.1, x.2.symm⟩)))
      have hP2 := hP.out _ (hdr.out nq)
      replace hP2 := hid hP2
      go_upto_region 9 with (go_at_call 162; refine hP2.out.mono ?_; rintro e w2 ⟨pe, rfl, hbad, hgood⟩; replace hbad := hid hbad; replace hgood := hid hgood)
      have hix : 0 ≤ (i : Int) ∧ (i : Int) < (4096 : Nat) := by omega
      by_cases hpe : pe = 0
      · obtain ⟨g2, cap2, b0, y1, y2, y3, hfin⟩ := hgood.out hpe
        have hpi : (pe : Int) = 0 := by omega
        replace hfin := hid hfin; replace hpe := hid hpe
        go_wp2
        exact hfin.out
      · have hfin := hbad.out hpe
        have hpi : ¬ (pe : Int) = 0 := by omega
        replace hfin := hid hfin; replace hpe := hid hpe
        go_wp2
        exact hfin.out
  · have hfin : TakePost w m R Z false b (.returned (.tuple #[.int .i64 0, .int .i64 (R.state : Nat)])) w := ⟨by simp [RP.takeA, hs], by
      have hR : R.take false b = R := by simp [RP.take, hs]
      rw [hR]; exact RStep.quiet h (Keeps.refl _ w)⟩
    have hsi : ¬ (R.state : Int) = 0 := by omega
    generalize TakePost w m R Z false b = Post at *
    generalize R.state = s at *
    replace h := hid h; replace hS := hid hS; replace hfin := hid hfin; replace hs := hid hs
    go_enter Tryz.func163, Tryz.ntmps163
    go_wp2_with (go_at_call 126; refine hS.out.mono ?_; rintro e w1 ⟨rfl, rfl⟩)
    exact hfin.out
set_option maxRecDepth 100000 in
set_option maxHeartbeats 2000000 in
theorem rtakeN_w (h : RefRep w m R Z) (hput : R.put.length ≤ 16) (b : List UInt8) (hb : R.nowK true = bitsOf b) (hbl : b.length = 512) (hle : rLo R true ≤ rHi R true) (hhi : rHi R true ≤ 2048) :
    Calls Tryz.prog 165 #[.pointer (some ⟨m, 0, none⟩)] w (TakePost w m R Z true b) := by
  have hS := rstate_w h
  by_cases hs : R.state = 0
  · obtain ⟨V, h⟩ := h
    obtain ⟨g, cap, hc, hLow, hNo, hYes⟩ := take_parts h hput true b hb hbl hle hhi hs
    have hm := h.hm
    unfold refO at hm
    have c0 := hm.cell 0
    have c1 := hm.cell 1
    have c2 := hm.cell 2
    have c10 := hm.cell 10
    have cf := hm.frz
    simp at c0 c1 c2 c10
    have hdr : ∀ k, Keeps (fun _ => False) w (w.drewN k) := fun k => (Keeps.refl _ w).drewN k
    rw [hs] at hS
    simp only [Bool.toNat_true, Bool.toNat_false] at hc hYes
    unfold rLo rHi at *
    simp only [Bool.false_eq_true, if_true, if_false] at *
    generalize TakePost w m R Z true b = Post at *
    generalize R.data = D at *
    generalize R.blocks = BL at *
    generalize R.nodes = NO at *
    cases hf : firstFree b 0 NO with
    | none =>
      have hNo := hNo hf
      rw [hf] at hLow
      unfold noE at hNo
      simp only [Bool.false_eq_true, if_true, if_false] at hNo
      clear hYes
      replace h := hid h; replace hm := hid hm; replace hS := hid hS; replace hLow := hid hLow; replace hNo := hid hNo; replace hdr := hid hdr; replace hb := hid hb; replace hbl := hid hbl; replace hs := hid hs; replace hf := hid hf
      go_enter Tryz.func165, Tryz.ntmps165
      go_upto_region 4 with (go_at_call 126; refine hS.out.mono ?_; rintro e w1 ⟨rfl, rfl⟩)
      go_quiet (first | (go_at_call 193; exact Calls.quiet_of_same ((hLow.out _ (hdr.out _)).mono fun e w' x => ⟨x.1, x.2.symm⟩)))
      have hfin := hNo.out _ (hdr.out nq)
      replace hfin := hid hfin
      have hneg : lowI none = -1 := rfl
      simp only [hneg]
      go_wp2
      exact hfin.out
    | some i =>
      obtain ⟨hi, hP⟩ := hYes i hf
      rw [hf] at hLow
      clear hNo hYes
      have hpos : lowI (some i) = (i : Int) := rfl
      rw [hpos] at hLow
      replace h := hid h; replace hm := hid hm; replace hS := hid hS; replace hLow := hid hLow; replace hP := hid hP; replace hdr := hid hdr; replace hb := hid hb; replace hbl := hid hbl; replace hs := hid hs; replace hf := hid hf
      go_enter Tryz.func165, Tryz.ntmps165
      go_upto_region 4 with (go_at_call 126; refine hS.out.mono ?_; rintro e w1 ⟨rfl, rfl⟩)
      go_quiet (first | (go_at_call 193; exact Calls.quiet_of_same ((hLow.out _ (hdr.out _)).mono fun e w' x => ⟨x.1, x.2.symm⟩)))
      have hP2 := hP.out _ (hdr.out nq)
      replace hP2 := hid hP2
      go_upto_region 9 with (go_at_call 162; refine hP2.out.mono ?_; rintro e w2 ⟨pe, rfl, hbad, hgood⟩; replace hbad := hid hbad; replace hgood := hid hgood)
      have hix : 0 ≤ (i : Int) ∧ (i : Int) < (4096 : Nat) := by omega
      by_cases hpe : pe = 0
      · obtain ⟨g2, cap2, b0, y1, y2, y3, hfin⟩ := hgood.out hpe
        have hpi : (pe : Int) = 0 := by omega
        replace hfin := hid hfin; replace hpe := hid hpe
        go_wp2
        exact hfin.out
      · have hfin := hbad.out hpe
        have hpi : ¬ (pe : Int) = 0 := by omega
        replace hfin := hid hfin; replace hpe := hid hpe
        go_wp2
        exact hfin.out
  · have hfin : TakePost w m R Z true b (.returned (.tuple #[.int .i64 0, .int .i64 (R.state : Nat)])) w := ⟨by simp [RP.takeA, hs], by
      have hR : R.take true b = R := by simp [RP.take, hs]
      rw [hR]; exact RStep.quiet h (Keeps.refl _ w)⟩
    have hsi : ¬ (R.state : Int) = 0 := by omega
    generalize TakePost w m R Z true b = Post at *
    generalize R.state = s at *
    replace h := hid h; replace hS := hid hS; replace hfin := hid hfin; replace hs := hid hs
    go_enter Tryz.func165, Tryz.ntmps165
    go_wp2_with (go_at_call 126; refine hS.out.mono ?_; rintro e w1 ⟨rfl, rfl⟩)
    exact hfin.out
end
end Go.Vk

namespace Go.Vk
open Go.RowKit Go.Proofs

section
variable {w w' : World} {m : Nat} {R R' : RP} {V : RefV} {Z : Nat → Prop}
def outK (R : RP) (nd : Bool) (n : Int) : Prop := n < ((rLo R nd + nd.toNat : Nat) : Int) ∨ ((rHi R nd + nd.toNat : Nat) : Int) ≤ n
instance (R : RP) (nd : Bool) (n : Int) : Decidable (outK R nd n) := inferInstanceAs (Decidable (_ ∨ _))
def RP.dropE (R : RP) (nd : Bool) (b : List UInt8) (n : Int) : Nat := if R.state = 0 then (if outK R nd n then 11 else if bitOf b (n.toNat - nd.toNat) = true then R.putsE nd.toNat else 62) else R.state
def RP.drop (R : RP) (nd : Bool) (b : List UInt8) (n : Int) : RP := if R.state = 0 then (if outK R nd n then R else if bitOf b (n.toNat - nd.toNat) = true then (if R.putsE nd.toNat = 0 then (R.puts nd.toNat).withK nd (bitsOf (flipB b (n.toNat - nd.toNat))) else R.puts nd.toNat) else R) else R
def DropPost (w : World) (m : Nat) (R : RP) (Z : Nat → Prop) (nd : Bool) (b : List UInt8) (n : Int) (e : Ending) (w' : World) : Prop :=
  e = .returned (.int .i64 (R.dropE nd b n : Nat)) ∧ RStep w w' m (R.drop nd b n) Z
theorem drop_out (h : RefAt w m R V Z) {nd : Bool} (b : List UInt8) {n : Int} (hs : R.state = 0) (ho : outK R nd n) : DropPost w m R Z nd b n (.returned (.int .i64 11)) w :=
  ⟨by simp [RP.dropE, hs, ho], by
    have hR : R.drop nd b n = R := by simp [RP.drop, hs, ho]
    rw [hR]; exact RStep.quiet ⟨V, h⟩ (Keeps.refl _ w)⟩
theorem drop_in (h : RefAt w m R V Z) (hput : R.put.length ≤ 16) (nd : Bool) (b : List UInt8) (hb : R.nowK nd = bitsOf b) (hbl : b.length = 512) (hhi : rHi R nd ≤ 2048) (n : Int) (hs : R.state = 0) (ho : ¬ outK R nd n) :
    ∃ i : Nat, i < 2048 ∧ n = ((i + nd.toNat : Nat) : Int) ∧ (bitOf b i = false → DropPost w m R Z nd b n (.returned (.int .i64 62)) w) ∧
      ∃ g cap, w.cell? ⟨m, 5 + nd.toNat, none⟩ = some (.slice (some ⟨g, 0, none⟩) 4096 cap) ∧ w.cell? ⟨g, i, none⟩ = some (.bool (bitOf b i)) ∧
        (bitOf b i = true → Calls Tryz.prog 162 #[.pointer (some ⟨m, 0, none⟩), .int .i64 nd.toNat] w fun e w2 =>
          ∃ pe : Nat, e = .returned (.int .i64 pe) ∧ (pe ≠ 0 → DropPost w m R Z nd b n (.returned (.int .i64 pe)) w2) ∧
            (pe = 0 → ∃ g cap b0, w2.cell? ⟨m, 5 + nd.toNat, none⟩ = some (.slice (some ⟨g, 0, none⟩) 4096 cap) ∧ w2.cell? ⟨g, i, none⟩ = some (.bool b0) ∧ w2.frozen? ⟨g, i, none⟩ = false ∧
              DropPost w m R Z nd b n (.returned (.int .i64 0)) (w2.setCell ⟨g, i, none⟩ (.bool false)))) := by
  obtain ⟨hr, hl⟩ := h.rowK nd
  obtain ⟨g, cap, e1, _, hglt, e2⟩ := BoolRow.slice hr (by omega)
  have hc := h.cellK nd
  rw [e1, hl] at hc
  have ho' := ho
  unfold outK at ho'
  have hnt : nd.toNat ≤ 1 := by cases nd <;> decide
  refine ⟨n.toNat - nd.toNat, by omega, by omega, fun hbt => ⟨by simp [RP.dropE, hs, ho, hbt], ?_⟩, g, cap, hc, ?_, fun hbt => ?_⟩
  · have hR : R.drop nd b n = R := by simp [RP.drop, hs, ho, hbt]
    rw [hR]; exact RStep.quiet ⟨V, h⟩ (Keeps.refl _ w)
  · have := e2 (n.toNat - nd.toNat) (by omega)
    rw [this]
    simp only [hb, bitsOf_get]
  · refine (rputs_w h hput nd.toNat).mono fun e w2 hp => ?_
    obtain ⟨rfl, hst, g2, cap2, b0, y1, y2, y3, y4⟩ := bit_put h nd (n.toNat - nd.toNat) (by omega) false (Keeps.refl _ w) hp
    refine ⟨_, rfl, fun hpe => ⟨?_, ?_⟩, fun hpe => ⟨g2, cap2, b0, y1, y2, y3, ?_, ?_⟩⟩
    · simp [RP.dropE, hs, ho, hbt]
    · have hR : R.drop nd b n = R.puts nd.toNat := by simp [RP.drop, hs, ho, hbt, hpe]
      rw [hR]; exact hst
    · simp [RP.dropE, hs, ho, hbt, hpe]
    · have hR : R.drop nd b n = (R.puts nd.toNat).withK nd (bitsOf (flipB b (n.toNat - nd.toNat))) := by simp [RP.drop, hs, ho, hbt, hpe]
      rw [hR, bitsOf_flip b _ (by omega) hbl, hbt, ← hb]; exact y4
set_option maxRecDepth 100000 in
set_option maxHeartbeats 2000000 in
theorem rdropB_w (h : RefRep w m R Z) (hput : R.put.length ≤ 16) (b : List UInt8) (hb : R.nowK false = bitsOf b) (hbl : b.length = 512) (hhi : rHi R false ≤ 2048) (n : Int) (hnk : IntKind.i64.wrap n = n) :
    Calls Tryz.prog 164 #[.pointer (some ⟨m, 0, none⟩), .int .i64 n] w (DropPost w m R Z false b n) := by
  have hS := rstate_w h
  by_cases hs : R.state = 0
  · obtain ⟨V, h⟩ := h
    have hm := h.hm
    unfold refO at hm
    have c0 := hm.cell 0
    have c1 := hm.cell 1
    have c2 := hm.cell 2
    simp at c0 c1 c2
    rw [hs] at hS
    by_cases ho : outK R false n
    · have hfin := drop_out h (nd := false) b hs ho
      generalize DropPost w m R Z false b n = Post at *
      unfold outK rLo rHi at *
      simp only [Bool.toNat_true, Bool.toNat_false, Bool.false_eq_true, if_true, if_false] at *
      generalize R.data = D at *
      generalize R.blocks = BL at *
      generalize R.nodes = NO at *
      by_cases h1 : n < (D : Int)
      · skip
        replace h := hid h; replace hm := hid hm; replace hS := hid hS; replace hb := hid hb; replace hs := hid hs; replace hfin := hid hfin; replace ho := hid ho
        go_enter Tryz.func164, Tryz.ntmps164
        go_wp2_with (go_at_call 126; refine hS.out.mono ?_; rintro e w1 ⟨rfl, rfl⟩)
        exact hfin.out
      · have h2 : (BL : Int) ≤ n := by omega
        replace h := hid h; replace hm := hid hm; replace hS := hid hS; replace hb := hid hb; replace hs := hid hs; replace hfin := hid hfin; replace ho := hid ho
        go_enter Tryz.func164, Tryz.ntmps164
        go_wp2_with (go_at_call 126; refine hS.out.mono ?_; rintro e w1 ⟨rfl, rfl⟩)
        exact hfin.out
    · obtain ⟨i, hi, hni, hNo, g, cap, hc, hcg, hYes⟩ := drop_in h hput false b hb hbl hhi n hs ho
      generalize DropPost w m R Z false b n = Post at *
      unfold outK rLo rHi at *
      simp only [Bool.toNat_true, Bool.toNat_false, Bool.false_eq_true, if_true, if_false] at *
      generalize R.data = D at *
      generalize R.blocks = BL at *
      generalize R.nodes = NO at *
      have h1 : ¬ n < (D : Int) := by omega
      have h2 : ¬ (BL : Int) ≤ n := by omega
      have hix : 0 ≤ (i : Int) ∧ (i : Int) < (4096 : Nat) := by omega
      obtain rfl : n = (i : Int) := by omega
      cases hbt : bitOf b i
      · have hfin := hNo hbt
        rw [hbt] at hcg
        clear hYes ho hNo
        replace h := hid h; replace hm := hid hm; replace hS := hid hS; replace hb := hid hb; replace hs := hid hs; replace hbt := hid hbt; replace hfin := hid hfin
        go_enter Tryz.func164, Tryz.ntmps164
        go_wp2_with (go_at_call 126; refine hS.out.mono ?_; rintro e w1 ⟨rfl, rfl⟩)
        exact hfin.out
      · have hP2 := hYes hbt
        rw [hbt] at hcg
        clear hNo ho hYes
        replace h := hid h; replace hm := hid hm; replace hS := hid hS; replace hb := hid hb; replace hs := hid hs; replace hbt := hid hbt; replace hP2 := hid hP2
        go_enter Tryz.func164, Tryz.ntmps164
        go_upto_region 9 with (first
          | (go_at_call 126; refine hS.out.mono ?_; rintro e w1 ⟨rfl, rfl⟩)
          | (go_at_call 162; refine hP2.out.mono ?_; rintro e w2 ⟨pe, rfl, hbad, hgood⟩; replace hbad := hid hbad; replace hgood := hid hgood))
        by_cases hpe : pe = 0
        · obtain ⟨g2, cap2, b0, y1, y2, y3, hfin⟩ := hgood.out hpe
          have hpi : (pe : Int) = 0 := by omega
          replace hfin := hid hfin; replace hpe := hid hpe
          go_wp2
          exact hfin.out
        · have hfin := hbad.out hpe
          have hpi : ¬ (pe : Int) = 0 := by omega
          replace hfin := hid hfin; replace hpe := hid hpe
          go_wp2
          exact hfin.out
  · have hfin : DropPost w m R Z false b n (.returned (.int .i64 (R.state : Nat))) w := ⟨by simp [RP.dropE, hs], by
      have hR : R.drop false b n = R := by simp [RP.drop, hs]
      rw [hR]; exact RStep.quiet h (Keeps.refl _ w)⟩
    have hsi : ¬ (R.state : Int) = 0 := by omega
    generalize DropPost w m R Z false b n = Post at *
    generalize R.state = s at *
    replace h := hid h; replace hS := hid hS; replace hfin := hid hfin; replace hs := hid hs
    go_enter Tryz.func164, Tryz.ntmps164
    go_wp2_with (go_at_call 126; refine hS.out.mono ?_; rintro e w1 ⟨rfl, rfl⟩)
    exact hfin.out
set_option maxRecDepth 100000 in
set_option maxHeartbeats 2000000 in
theorem rdropN_w (h : RefRep w m R Z) (hput : R.put.length ≤ 16) (b : List UInt8) (hb : R.nowK true = bitsOf b) (hbl : b.length = 512) (hhi : rHi R true ≤ 2048) (n : Int) (hnk : IntKind.i64.wrap n = n) :
    Calls Tryz.prog 166 #[.pointer (some ⟨m, 0, none⟩), .int .i64 n] w (DropPost w m R Z true b n) := by
  have hS := rstate_w h
  by_cases hs : R.state = 0
  · obtain ⟨V, h⟩ := h
    have hm := h.hm
    unfold refO at hm
    have c0 := hm.cell 0
    have c1 := hm.cell 1
    have c2 := hm.cell 2
    simp at c0 c1 c2
    rw [hs] at hS
    by_cases ho : outK R true n
    · have hfin := drop_out h (nd := true) b hs ho
      generalize DropPost w m R Z true b n = Post at *
      unfold outK rLo rHi at *
      simp only [Bool.toNat_true, Bool.toNat_false, Bool.false_eq_true, if_true, if_false] at *
      generalize R.data = D at *
      generalize R.blocks = BL at *
      generalize R.nodes = NO at *
      by_cases h1 : n < 1
      · skip
        replace h := hid h; replace hm := hid hm; replace hS := hid hS; replace hb := hid hb; replace hs := hid hs; replace hfin := hid hfin; replace ho := hid ho
        go_enter Tryz.func166, Tryz.ntmps166
        go_wp2_with (go_at_call 126; refine hS.out.mono ?_; rintro e w1 ⟨rfl, rfl⟩)
        exact hfin.out
      · have h2 : (NO : Int) < n := by omega
        replace h := hid h; replace hm := hid hm; replace hS := hid hS; replace hb := hid hb; replace hs := hid hs; replace hfin := hid hfin; replace ho := hid ho
        go_enter Tryz.func166, Tryz.ntmps166
        go_wp2_with (go_at_call 126; refine hS.out.mono ?_; rintro e w1 ⟨rfl, rfl⟩)
        exact hfin.out
    · obtain ⟨i, hi, hni, hNo, g, cap, hc, hcg, hYes⟩ := drop_in h hput true b hb hbl hhi n hs ho
      generalize DropPost w m R Z true b n = Post at *
      unfold outK rLo rHi at *
      simp only [Bool.toNat_true, Bool.toNat_false, Bool.false_eq_true, if_true, if_false] at *
      generalize R.data = D at *
      generalize R.blocks = BL at *
      generalize R.nodes = NO at *
      have h1 : ¬ n < 1 := by omega
      have h2 : ¬ (NO : Int) < n := by omega
      have hix : 0 ≤ (i : Int) ∧ (i : Int) < (4096 : Nat) := by omega
      have hni1 : n - 1 = (i : Int) := by omega
      cases hbt : bitOf b i
      · have hfin := hNo hbt
        rw [hbt] at hcg
        clear hYes ho hNo
        replace h := hid h; replace hm := hid hm; replace hS := hid hS; replace hb := hid hb; replace hs := hid hs; replace hbt := hid hbt; replace hfin := hid hfin
        go_enter Tryz.func166, Tryz.ntmps166
        go_wp2_with (go_at_call 126; refine hS.out.mono ?_; rintro e w1 ⟨rfl, rfl⟩)
        exact hfin.out
      · have hP2 := hYes hbt
        rw [hbt] at hcg
        clear hNo ho hYes
        replace h := hid h; replace hm := hid hm; replace hS := hid hS; replace hb := hid hb; replace hs := hid hs; replace hbt := hid hbt; replace hP2 := hid hP2
        go_enter Tryz.func166, Tryz.ntmps166
        go_upto_region 9 with (first
          | (go_at_call 126; refine hS.out.mono ?_; rintro e w1 ⟨rfl, rfl⟩)
          | (go_at_call 162; refine hP2.out.mono ?_; rintro e w2 ⟨pe, rfl, hbad, hgood⟩; replace hbad := hid hbad; replace hgood := hid hgood))
        by_cases hpe : pe = 0
        · obtain ⟨g2, cap2, b0, y1, y2, y3, hfin⟩ := hgood.out hpe
          have hpi : (pe : Int) = 0 := by omega
          replace hfin := hid hfin; replace hpe := hid hpe
          go_wp2
          exact hfin.out
        · have hfin := hbad.out hpe
          have hpi : ¬ (pe : Int) = 0 := by omega
          replace hfin := hid hfin; replace hpe := hid hpe
          go_wp2
          exact hfin.out
  · have hfin : DropPost w m R Z true b n (.returned (.int .i64 (R.state : Nat))) w := ⟨by simp [RP.dropE, hs], by
      have hR : R.drop true b n = R := by simp [RP.drop, hs]
      rw [hR]; exact RStep.quiet h (Keeps.refl _ w)⟩
    have hsi : ¬ (R.state : Int) = 0 := by omega
    generalize DropPost w m R Z true b n = Post at *
    generalize R.state = s at *
    replace h := hid h; replace hS := hid hS; replace hfin := hid hfin; replace hs := hid hs
    go_enter Tryz.func166, Tryz.ntmps166
    go_wp2_with (go_at_call 126; refine hS.out.mono ?_; rintro e w1 ⟨rfl, rfl⟩)
    exact hfin.out

def RP.leftA (R : RP) (bs ns : List UInt8) : Nat × Nat × Nat := if R.state = 0 then (leftN bs R.data R.blocks, leftN ns 0 R.nodes, 0) else (0, 0, R.state)
set_option maxRecDepth 100000 in
set_option maxHeartbeats 2000000 in
theorem rleft_w (h : RefRep w m R Z) (bs ns : List UInt8) (hb : R.nowB = bitsOf bs) (hn : R.nowN = bitsOf ns) (h1 : R.data ≤ R.blocks) (h2 : R.blocks ≤ 2048) (h3 : R.nodes ≤ 2048) :
    Calls Tryz.prog 167 #[.pointer (some ⟨m, 0, none⟩)] w fun e w' => e = .returned (.tuple #[.int .i64 ((R.leftA bs ns).1 : Nat), .int .i64 ((R.leftA bs ns).2.1 : Nat), .int .i64 ((R.leftA bs ns).2.2 : Nat)]) ∧ ∃ k, w' = w.drewN k := by
  have hS := rstate_w h
  by_cases hs : R.state = 0
  · obtain ⟨V, h⟩ := h
    have hm := h.hm
    unfold refO at hm
    have c0 := hm.cell 0
    have c1 := hm.cell 1
    have c2 := hm.cell 2
    have c5 := hm.cell 5
    have c6 := hm.cell 6
    simp at c0 c1 c2 c5 c6
    have hB : BoolSl w V.NB (bitsOf bs) := by rw [← hb]; exact h.nb.sl h.lb.2.2.1
    have hN : BoolSl w V.NN (bitsOf ns) := by rw [← hn]; exact h.nn.sl h.lb.2.2.2
    have hdr : ∀ k, Keeps (fun _ => False) w (w.drewN k) := fun k => (Keeps.refl _ w).drewN k
    have k1 := fun k => clearIn_w (w.drewN k) V.NB bs (hB.keeps (hdr k) (fun _ _ f => f)) R.data R.blocks h1 (by omega)
    have k2 := fun k => clearIn_w (w.drewN k) V.NN ns (hN.keeps (hdr k) (fun _ _ f => f)) 0 R.nodes (Nat.zero_le _) (by omega)
    have hA : R.leftA bs ns = (leftN bs R.data R.blocks, leftN ns 0 R.nodes, 0) := by simp [RP.leftA, hs]
    rw [hA]
    rw [hs] at hS
    obtain ⟨gB, cB, eB, _⟩ := hB
    obtain ⟨gN, cN, eN, _⟩ := hN
    have hne : gB ≠ gN := fun e => h.d1 (by rw [eB, eN, e]; rfl)
    rw [eB] at c5 k1
    rw [eN] at c6 k2
    dsimp only
    generalize leftN bs R.data R.blocks = x1 at *
    generalize leftN ns 0 R.nodes = x2 at *
    generalize R.data = D at *
    generalize R.blocks = BL at *
    generalize R.nodes = NO at *
    clear hb hn hA
    replace h := hid h; replace hm := hid hm; replace hS := hid hS; replace hs := hid hs; replace hdr := hid hdr; replace k1 := hid k1; replace k2 := hid k2; replace eB := hid eB; replace eN := hid eN
    go_enter Tryz.func167, Tryz.ntmps167
    go_upto_region 4 with (go_at_call 126; refine hS.out.mono ?_; rintro e w1 ⟨rfl, rfl⟩)
    go_quiet (first
      | (go_at_call_of 194 (Value.slice (some ⟨gB, 0, none⟩) (bitsOf bs).length cB); exact Calls.quiet_of_same ((k1.out _).mono fun e w' x => ⟨x.1, x.2.symm⟩))
      | (go_at_call_of 194 (Value.slice (some ⟨gN, 0, none⟩) (bitsOf ns).length cN); exact Calls.quiet_of_same ((k2.out _).mono fun e w' x => ⟨x.1, x.2.symm⟩)))
    go_wp2
    go_ret3
    exact ⟨rfl, _, rfl⟩
  · have hA : R.leftA bs ns = (0, 0, R.state) := by simp [RP.leftA, hs]
    rw [hA]
    have hsi : ¬ (R.state : Int) = 0 := by omega
    clear hA hb hn
    generalize R.state = s at *
    replace h := hid h; replace hS := hid hS; replace hs := hid hs
    go_enter Tryz.func167, Tryz.ntmps167
    go_wp2_with (go_at_call 126; refine hS.out.mono ?_; rintro e w1 ⟨rfl, rfl⟩)
    go_ret3
    exact ⟨rfl, 0, rfl⟩
end
end Go.Vk
