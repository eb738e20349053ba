/- Plain: what is taken of a bitmap, as a list of numbers. The walk of give of the law. The walk of act of the law. The walk of act of the law. The walk of act of the law: a drop. PoolApart: the walk. PoolApart: the walk. The acts of the argument, as the reading of the argument tells them. -/
import Derived.Test.YtceodjgajkimnaaGreatMN
import Derived.Deep.RegionWith
import Derived.Deep.Slices
import Derived.Lib.SmallJoins
set_option linter.unusedVariables false

namespace Go.Vk

/-- The list tells just which bits of lo to hi - 1 are set, each number first + bit once. -/
structure Tells (bs : List UInt8) (lo hi first : Nat) (l : List Nat) : Prop where
  nd : l.Nodup
  rg : ∀ x ∈ l, lo + first ≤ x ∧ x < hi + first
  iff : ∀ i, lo ≤ i → i < hi → (bitOf bs i = true ↔ i + first ∈ l)
theorem Tells.perm {bs : List UInt8} {lo hi first : Nat} {l : List Nat} (h : Tells bs lo hi first l) : (((List.range' lo (hi - lo)).filter (bitOf bs)).map (· + first)).Perm l := by
  have hn : (((List.range' lo (hi - lo)).filter (bitOf bs)).map (· + first)).Nodup := by
    rw [List.nodup_iff_pairwise_ne, List.pairwise_map]
    exact (List.nodup_iff_pairwise_ne.1 ((List.nodup_range' (step := 1)).filter _)).imp (fun {a b} hab e => hab (by omega))
  refine (List.perm_ext_iff_of_nodup hn h.nd).2 fun x => ?_
  simp only [List.mem_map, List.mem_filter, List.mem_range'_1]
  constructor
  · rintro ⟨i, ⟨⟨h1, h2⟩, h3⟩, rfl⟩
    exact (h.iff i h1 (by omega)).1 h3
  · intro hx
    obtain ⟨h1, h2⟩ := h.rg x hx
    refine ⟨x - first, ⟨⟨by omega, by omega⟩, ?_⟩, by omega⟩
    refine (h.iff (x - first) (by omega) (by omega)).2 ?_
    rw [show x - first + first = x by omega]; exact hx
theorem Tells.cnt {bs : List UInt8} {lo hi first : Nat} {l : List Nat} (h : Tells bs lo hi first l) : setCnt bs lo (hi - lo) = l.length := by
  have := h.perm.length_eq
  rw [List.length_map] at this
  unfold setCnt
  rw [List.countP_eq_length_filter]; exact this
theorem Tells.le {bs : List UInt8} {lo hi first : Nat} {l : List Nat} (h : Tells bs lo hi first l) : l.length ≤ hi - lo := by
  rw [← h.cnt]; exact setCnt_le _ _ _
theorem Tells.left {bs : List UInt8} {lo hi first : Nat} {l : List Nat} (h : Tells bs lo hi first l) : leftN bs lo hi = hi - lo - l.length := by
  unfold leftN; rw [h.cnt]
theorem Tells.full {bs : List UInt8} {lo hi first : Nat} {l : List Nat} (h : Tells bs lo hi first l) (hf : firstFree bs lo hi = none) : l.length = hi - lo := by
  rw [← h.cnt]
  unfold setCnt
  rw [List.countP_eq_length.2 (fun i hi2 => ?_), List.length_range']
  rw [List.mem_range'_1] at hi2
  exact firstFree_none hf i hi2.1 (by omega)
theorem Tells.take {bs : List UInt8} {lo hi first : Nat} {l : List Nat} (h : Tells bs lo hi first l) {i : Nat} (hf : firstFree bs lo hi = some i) (hl : hi ≤ 8 * bs.length) :
    lo ≤ i ∧ i < hi ∧ i + first ∉ l ∧ (∀ j, lo + first ≤ j → j < i + first → j ∈ l) ∧ Tells (flipB bs i) lo hi first (l ++ [i + first]) := by
  obtain ⟨a1, a2, a3, a4⟩ := firstFree_some hf
  have hni : i + first ∉ l := fun hm => by
    have := (h.iff i a1 a2).2 hm
    rw [a3] at this; cases this
  refine ⟨a1, a2, hni, fun j h1 h2 => ?_, ?_, ?_, ?_⟩
  · have := (h.iff (j - first) (by omega) (by omega)).1 (a4 _ (by omega) (by omega))
    rwa [show j - first + first = j by omega] at this
  · rw [List.nodup_append]
    refine ⟨h.nd, by simp, fun a ha b hb e => ?_⟩
    rw [List.mem_singleton] at hb
    subst hb e
    exact hni ha
  · intro x hx
    rcases List.mem_append.1 hx with hx | hx
    · exact h.rg x hx
    · rw [List.mem_singleton.1 hx]; omega
  · intro j h1 h2
    rw [bitOf_flip _ _ _ (by omega)]
    by_cases e : j = i
    · subst e
      rw [if_pos rfl, a3]; simp
    · rw [if_neg e, h.iff j h1 h2, List.mem_append, List.mem_singleton]
      constructor
      · exact .inl
      · rintro (x | x)
        · exact x
        · omega
theorem Tells.drop {bs : List UInt8} {lo hi first : Nat} {l : List Nat} (h : Tells bs lo hi first l) {k : Nat} (hk : k < l.length) (hl : hi ≤ 8 * bs.length) :
    bitOf bs (l[k] - first) = true ∧ lo + first ≤ l[k] ∧ l[k] < hi + first ∧ bitOf (flipB bs (l[k] - first)) (l[k] - first) = false ∧ Tells (flipB bs (l[k] - first)) lo hi first (l.eraseIdx k) := by
  have hm : l[k] ∈ l := List.getElem_mem hk
  obtain ⟨r1, r2⟩ := h.rg _ hm
  have hb : bitOf bs (l[k] - first) = true := (h.iff _ (by omega) (by omega)).2 (by rw [show l[k] - first + first = l[k] by omega]; exact hm)
  have hmem : ∀ x, x ∈ l.eraseIdx k ↔ x ∈ l ∧ x ≠ l[k] := fun x => by
    rw [List.mem_eraseIdx_iff_getElem]
    constructor
    · rintro ⟨i, hi, hne, rfl⟩
      refine ⟨List.getElem_mem hi, fun e => ?_⟩
      have hp := List.pairwise_iff_getElem.1 (List.nodup_iff_pairwise_ne.1 h.nd)
      rcases Nat.lt_or_gt_of_ne hne with h1 | h1
      · exact hp i k hi hk h1 e
      · exact hp k i hk hi h1 e.symm
    · rintro ⟨h1, h2⟩
      obtain ⟨i, hi, rfl⟩ := List.getElem_of_mem h1
      exact ⟨i, hi, fun e => h2 (by subst e; rfl), rfl⟩
  refine ⟨hb, r1, r2, ?_, h.nd.sublist (List.eraseIdx_sublist ..), fun x hx => h.rg x ((hmem x).1 hx).1, fun i h1 h2 => ?_⟩
  · rw [bitOf_flip _ _ _ (by omega), if_pos rfl, hb]; rfl
  · rw [bitOf_flip _ _ _ (by omega), hmem]
    by_cases e : i = l[k] - first
    · rw [if_pos e, e, hb]
      constructor
      · intro x; cases x
      · rintro ⟨_, x⟩; exact absurd (by omega) x
    · rw [if_neg e, h.iff i h1 h2]
      exact ⟨fun x => ⟨x, by omega⟩, fun x => x.1⟩
end Go.Vk

namespace Go.Vk
open Go.RowKit Go.Proofs

def kLo (G : Geom) (nd : Bool) : Nat := if nd then 0 else G.data
def kHi (G : Geom) (nd : Bool) : Nat := if nd then G.n else G.blocks
def kB (bs ns : List UInt8) (nd : Bool) : List UInt8 := if nd then ns else bs
theorem tkF_eq (G : Geom) (bs ns : List UInt8) (nd : Bool) : tkF G bs ns nd = firstFree (kB bs ns nd) (kLo G nd) (kHi G nd) := by cases nd <;> rfl
theorem spanLo_eq (G : Geom) (nd : Bool) : spanLo G nd = kLo G nd + nd.toNat := by cases nd <;> rfl
theorem spanHi_eq (G : Geom) (nd : Bool) : spanHi G nd = kHi G nd + nd.toNat := by cases nd <;> rfl
/-- What is taken of a kind lies in a row of the client's. -/
structure Takn (w : World) (G : Geom) (bs ns : List UInt8) (nd : Bool) (X : Nat → Prop) (v : Value) (l : List Nat) : Prop where
  row : IntRow w 0 v l
  z : InZ X v
  tl : Tells (kB bs ns nd) (kLo G nd) (kHi G nd) nd.toNat l
structure GiveRes (w : World) (C : TxC) (r p q m : Nat) (bs ns : List UInt8) (nd : Bool) (X : Nat → Prop) (v : Value) (l : List Nat) (bs' ns' : List UInt8) (sp : Nat) (X' : Nat → Prop) (v' : Value) (l' : List Nat) (w' : World) : Prop where
  rig : Rig w' C r p q m bs' ns' sp X'
  tk : Takn w' C.G bs' ns' nd X' v' l'
  other : kB bs' ns' (!nd) = kB bs ns (!nd)
  up : ∀ i, X i → X' i
  dn : ∀ i, X' i → X i ∨ w.heap.size ≤ i
  own : ∀ g, v'.ownBlock = some g → v.ownBlock = some g ∨ w.heap.size ≤ g
  full : sp ≠ 0 → sp = noE nd ∧ l'.length = kHi C.G nd - kLo C.G nd
  keeps : Keeps (fun i => KF C i ∨ v.ownBlock = some i) w w'
def GivePost (w : World) (C : TxC) (r p q m : Nat) (bs ns : List UInt8) (nd : Bool) (X : Nat → Prop) (v : Value) (l : List Nat) (e : Ending) (w' : World) : Prop :=
  ∃ v' l' bs' ns' sp X', e = .returned (.tuple #[v', .bool true]) ∧ GiveRes w C r p q m bs ns nd X v l bs' ns' sp X' v' l' w'

section
variable {w : World} {C : TxC} {r p q m : Nat} {bs ns : List UInt8} {X : Nat → Prop} {v : Value} {l : List Nat}
theorem kB_len (hR : Rig w C r p q m bs ns 0 X) (nd : Bool) : (kB bs ns nd).length = 512 := by
  cases nd
  · exact hR.st.len0
  · exact hR.st.len1
theorem kHi_le {G : Geom} (hg : GeoOk G) (nd : Bool) : kHi G nd ≤ 2048 := by
  cases nd
  · exact hg.b2
  · have := hg.n2; show G.n ≤ 2048; omega
set_option maxRecDepth 100000 in
set_option maxHeartbeats 1000000 in
theorem give_w (hR : Rig w C r p q m bs ns 0 X) (hs : 3 + C.G.lg ≤ C.G.s) (hs2 : C.G.s ≤ 4096) (nd : Bool) (hT : Takn w C.G bs ns nd X v l) (u : Nat) (hu : Blk w u (poolO C.t)) (xu : X u) :
    Calls Tryz.prog 57 #[.pointer (some ⟨u, 0, none⟩), .agg #[.int .i64 C.G.s, .int .i64 C.G.lg, .int .i64 C.G.n], v, .bool nd] w (GivePost w C r p q m bs ns nd X v l) := by
  have hg := hR.st.geo
  have hsp := fun w => span_w w C.G hg hs hs2 nd
  have htk := fun w2 (k : Keeps (fun _ => False) w w2) => takes_w (hR.quiet k).st (k.blk hu (fun f => f)) xu nd
  have hhi := kHi_le hg nd
  have hlen := kB_len hR nd
  have hll := hT.tl.le
  rw [spanLo_eq, spanHi_eq] at hsp
  have hndl : nd.toNat ≤ 1 := by cases nd <;> decide
  obtain ⟨a, cap, rfl⟩ := own_shape hT.row
  unfold TkPost at htk
  rw [tkF_eq] at htk
  have hrow := hT.row
  cases hf : firstFree (kB bs ns nd) (kLo C.G nd) (kHi C.G nd) with
  | none =>
    rw [hf] at htk
    dsimp only at htk
    have hfu := hT.tl.full hf
    have hle : kLo C.G nd ≤ kHi C.G nd := by have := (span_le hg nd).1; rw [spanLo_eq, spanHi_eq] at this; omega
    have hP : ∀ w1 w2, Keeps (fun _ => False) w w1 → Keeps (KF C) w1 w2 → PoolSt w2 C bs ns (noE nd) X → GivePost w C r p q m bs ns nd X (.slice a l.length cap) l (.returned (.tuple #[.slice a l.length cap, .bool true])) w2 := fun w1 w2 k1 k2 hst => by
      have hk : Keeps (KF C) w w2 := (k1.mono fun _ _ f => f.elim).step k2
      refine ⟨_, l, bs, ns, noE nd, X, rfl, hR.call hk hst, ⟨hrow.keeps hk (fun g e f => hR.st.notF (hT.z g e) f), hT.z, hT.tl⟩, rfl, fun _ h => h, fun _ h => .inl h, fun _ h => .inl h, fun _ => ⟨rfl, hfu⟩, hk.mono fun _ _ h => .inl h⟩
    have hsb : ((kHi C.G nd + nd.toNat : Nat) : Int) - ((kLo C.G nd + nd.toNat : Nat) : Int) = (l.length : Int) := by rw [hfu]; omega
    obtain ⟨x1, hx1⟩ : ∃ x, kLo C.G nd + nd.toNat = x := ⟨_, rfl⟩
    obtain ⟨x2, hx2⟩ : ∃ x, kHi C.G nd + nd.toNat = x := ⟨_, rfl⟩
    have hx3 : x1 ≤ 4096 ∧ x2 ≤ 4096 := by omega
    rw [hx1, hx2] at hsp hsb
    obtain ⟨ne, hne⟩ : ∃ x, noE nd = x := ⟨_, rfl⟩
    have hne0 : ¬ (ne : Int) = 0 := by have := noE_ne nd; omega
    rw [hne] at htk hP
    obtain ⟨ln, hln⟩ : ∃ x, l.length = x := ⟨_, rfl⟩
    rw [hln] at hsb hP ⊢
    clear hfu hll hle
    replace hR := hid hR; replace hg := hid hg; replace hsp := hid hsp; replace htk := hid htk; replace hlen := hid hlen; replace hT := hid hT; replace hrow := hid hrow; replace hP := hid hP; replace hf := hid hf; replace hx1 := hid hx1; replace hx2 := hid hx2; replace hne := hid hne; replace hln := hid hln; replace hhi := hid hhi
    go_enter Tryz.func57, Tryz.ntmps57
    go_wp2_with (first
      | (go_at_call 15; refine (hsp.out _).mono ?_; rintro e w1 ⟨rfl, k1⟩; replace k1 := hid (((Keeps.refl (fun _ => False) w).alloc _).step k1))
      | (go_at_call 17; refine (htk.out _ k1.out).mono ?_; rintro e w2 ⟨k2, rfl, st2⟩; replace k2 := hid k2; replace st2 := hid st2))
    go_ret2
    exact hP.out _ _ k1.out k2.out st2.out
  | some i =>
    rw [hf] at htk
    dsimp only at htk
    obtain ⟨i0, hi0, hz0, hz1, hz2⟩ := info_parts infoInt
    obtain ⟨a1, a2, hni, hall, htl'⟩ := hT.tl.take hf (by rw [hlen]; omega)
    have hhas : ∀ W, IntRow W 0 (.slice a l.length cap) l → ∀ k : Nat, Calls Tryz.prog 99 #[.slice a l.length cap, .int .i64 k] W fun e w' => e = .returned (.bool (decide (k ∈ l))) ∧ W = w' := fun W h k => lhas_w W 0 _ l h (by omega) k
    have hP : ∀ w1 w2 w3 g' cap', Keeps (fun _ => False) w w1 → Keeps (KF C) w1 w2 → PoolSt w2 C (if nd = true then bs else flipB bs i) (if nd = true then flipB ns i else ns) 0 X → (w2.alloc (.cells #[.int .i64 (i + nd.toNat : Nat)] 3 (0, 0))).grownBy w3 (Value.slice a l.length cap).ownBlock → w3.ownsRow 0 3 1 (.slice (some ⟨g', 0, none⟩) (l.length + 1) cap') (l.length + 1) (l.map natV ++ [.int .i64 (i + nd.toNat : Nat)]) →
        ((Value.slice a l.length cap).ownBlock = some g' ∧ w3.heap.size = (w2.alloc (.cells #[.int .i64 (i + nd.toNat : Nat)] 3 (0, 0))).heap.size ∨ g' = (w2.alloc (.cells #[.int .i64 (i + nd.toNat : Nat)] 3 (0, 0))).heap.size) →
        GivePost w C r p q m bs ns nd X (.slice a l.length cap) l (.returned (.tuple #[.slice (some ⟨g', 0, none⟩) (l.length + 1) cap', .bool true])) w3 := fun w1 w2 w3 g' cap' k1 k2 hst hgr hrow3 hor => by
      have hk : Keeps (KF C) w w2 := (k1.mono fun _ _ f => f.elim).step k2
      have hR2 := hR.call hk hst
      have k3 : Keeps (fun i => (Value.slice a l.length cap).ownBlock = some i) w2 w3 := ((Keeps.refl _ w2).alloc _).grown hgr (fun k e => .inl e)
      have hrow2 := hrow.keeps hk (fun g e f => hR.st.notF (hT.z g e) f)
      have hs2' := k2.size
      have hs1' := k1.size
      have hs3' := k3.size
      have hg'lt := own_lt hrow3 (g := g') rfl
      have hg' : (Value.slice a l.length cap).ownBlock = some g' ∨ w2.heap.size ≤ g' := by
        rcases hor with ⟨e, _⟩ | e
        · exact .inl e
        · right; rw [World.size_alloc] at e; omega
      refine ⟨_, l ++ [i + nd.toNat], if nd = true then bs else flipB bs i, if nd = true then flipB ns i else ns, 0, fun j => X j ∨ w2.heap.size ≤ j ∧ j < w3.heap.size, rfl, { rig := ⟨?_, ?_, ?_, ?_, .inl hR.xr, .inl hR.xp, .inl hR.xq⟩, tk := ⟨?_, ?_, ?_⟩, other := ?_, up := fun j h => .inl h, dn := fun j h => h.elim .inl (fun y => .inr (by omega)), own := ?_, full := fun h => absurd rfl h, keeps := ?_ }⟩
      · exact hR2.st.grow (Gf := fun i => (Value.slice a l.length cap).ownBlock = some i) k3 (fun j _ e => hT.z j e) (fun j h => ⟨by rcases h with h | h; have := hR2.st.lt j h; omega; exact h.2, by rcases h with h | h; exact .inl h; exact .inr h.1⟩)
      · exact k3.blk hR2.hr (fun e => own_ne hrow2 hR2.hr (by decide) e)
      · exact k3.blk hR2.hp (fun e => own_ne hrow2 hR2.hp (by decide) e)
      · exact k3.blk hR2.hq (fun e => own_ne hrow2 hR2.hq (by decide) e)
      · unfold IntRow; rw [natV_snoc, List.length_append]; exact hrow3
      · intro g e
        have : g' = g := Option.some.inj e
        subst this
        rcases hg' with h | h
        · exact .inl (hT.z _ h)
        · exact .inr ⟨h, hg'lt⟩
      · have : kB (if nd = true then bs else flipB bs i) (if nd = true then flipB ns i else ns) nd = flipB (kB bs ns nd) i := by cases nd <;> rfl
        rw [this]; exact htl'
      · cases nd <;> rfl
      · intro g e
        have : g' = g := Option.some.inj e
        subst this
        rcases hg' with h | h
        · exact .inl h
        · exact .inr (by omega)
      · exact (hk.mono fun _ _ h => .inl h).step (k3.mono fun _ _ h => .inr h)
    have hrow2 : ∀ w1 w2, Keeps (fun _ => False) w w1 → Keeps (KF C) w1 w2 → IntRow w2 0 (.slice a l.length cap) l := fun w1 w2 k1 k2 => hrow.keeps ((k1.mono fun _ _ f => f.elim).step k2 : Keeps (KF C) w w2) (fun g e f => hR.st.notF (hT.z g e) f)
    obtain ⟨x1, hx1⟩ : ∃ x, kLo C.G nd + nd.toNat = x := ⟨_, rfl⟩
    obtain ⟨x2, hx2⟩ : ∃ x, kHi C.G nd + nd.toNat = x := ⟨_, rfl⟩
    obtain ⟨x3, hx3⟩ : ∃ x, i + nd.toNat = x := ⟨_, rfl⟩
    have hb1 : x1 ≤ x3 := by omega
    have hb2 : x3 < x2 := by omega
    have hb3 : x2 ≤ 4096 := by omega
    rw [hx1, hx2] at hsp
    rw [hx1, hx3] at hall
    rw [hx3] at hni
    have hd1 : decide (x3 ∈ l) = false := by simpa using hni
    have hq1 : decide (x3 < x1) = false := by simp; omega
    have hq2 : decide (x2 ≤ x3) = false := by simp; omega
    have hd2 : ∀ j, x1 ≤ j → j < x3 → decide (j ∈ l) = true := fun j h1 h2 => by simpa using hall j h1 h2
    obtain ⟨ln, hln⟩ : ∃ x, l.length = x := ⟨_, rfl⟩
    have hlnb : ln ≤ 2048 := by omega
    rw [hln, hx3] at hP
    rw [hln] at hhas hrow2 ⊢
    simp only [hx3] at htk
    replace hR := hid hR; replace hg := hid hg; replace hsp := hid hsp; replace htk := hid htk; replace hlen := hid hlen; replace hT := hid hT; replace hrow := hid hrow; replace hP := hid hP; replace hf := hid hf; replace hx1 := hid hx1; replace hx2 := hid hx2; replace hx3 := hid hx3; replace hln := hid hln; replace hhi := hid hhi; replace hni := hid hni; replace hall := hid hall; replace htl' := hid htl'; replace hhas := hid hhas; replace hrow2 := hid hrow2; replace hd1 := hid hd1; replace hd2 := hid hd2; replace hll := hid hll; replace hi0 := hid hi0; replace hz0 := hid hz0; replace hz1 := hid hz1; replace hz2 := hid hz2
    go_enter Tryz.func57, Tryz.ntmps57
    go_wp2_with (first
      | (go_at_call 15; refine (hsp.out _).mono ?_; rintro e w1 ⟨rfl, k1⟩; replace k1 := hid (((Keeps.refl (fun _ => False) w).alloc _).step k1))
      | (go_at_call 17; refine (htk.out _ k1.out).mono ?_; rintro e w2 ⟨k2, rfl, st2⟩; have r2 := hrow2.out _ _ k1.out k2; have hC := hhas.out _ r2 x3; rw [hd1.out] at hC; replace hC := hid hC; replace r2 := hid r2; replace k2 := hid k2; replace st2 := hid st2)
      | (go_at_call 99; refine hC.out.mono ?_; rintro e w3 ⟨rfl, rfl⟩))
    go_loopw [14] (fun j wr => ∃ k : Nat, x1 ≤ k ∧ k ≤ x3 ∧ j = .int .i64 k ∧ wr = w2) (fun j _ => x3 - (intOf j).toNat)
    case atStart => exact ⟨x1, Nat.le_refl _, hb1, rfl, rfl⟩
    case round =>
      obtain ⟨k, hk0, hk1, rfl, rfl⟩ := hrel
      by_cases hlt2 : k < x3
      · have hki : (k : Int) < x3 := by omega
        have hD := hhas.out _ r2.out k
        rw [hd2.out k hk0 hlt2] at hD
        clear hC
        replace hD := hid hD
        go_wp2_with (go_at_call 99; refine hD.out.mono ?_; rintro e w3 ⟨rfl, rfl⟩)
        go_roundw
        case rel =>
          have hfin : ∃ k' : Nat, x1 ≤ k' ∧ k' ≤ x3 ∧ Value.int .i64 ((k : Int) + 1) = .int .i64 (k' : Nat) ∧ True := ⟨k + 1, by omega, by omega, by go_num, trivial⟩
          first | exact hfin | ((repeat apply Exists.intro); exact ⟨hfin, rfl⟩)
        case measure => simp [intOf]; omega
      · have hki : ¬ (k : Int) < x3 := by omega
        obtain rfl : k = x3 := by omega
        have hrw := r2.out
        unfold IntRow at hrw
        rw [hln.out] at hrw
        clear hC
        go_wp2_with (at_builtin; refine wpList_appendV rfl _ _ 49 rfl 3 i0 (.int .i64 0) 1 8 undInts hi0.out hz0.out hz1.out hz2.out rfl (by decide) _ _ _ rfl (hrw.alloc _) ⟨wr.heap.size, 0, none⟩ 1 1 [.int .i64 k] rfl rfl ?c1 ?c2 (by omega) ?c3 ?c4 ?_)
        case c2 => rfl
        case c3 => unfold maxLen; omega
        case c4 => omega
        · intro g' cap' w3 hrow3 hgr3 hor
          have hfin := hP.out _ _ w3 g' cap' k1.out k2.out st2.out hgr3 hrow3 (by rw [World.size_alloc]; exact hor)
          clear hrw hrow3 hgr3 hor
          replace hfin := hid hfin
          go_wp2
          go_ret2
          exact hfin.out
end
end Go.Vk

namespace Go.Vk
open Go.RowKit Go.Proofs

/-- A rig, and what is taken of both kinds. -/
structure Ap (w : World) (C : TxC) (r p q m : Nat) (bs ns : List UInt8) (sp : Nat) (X : Nat → Prop) (vB vN : Value) (tB tN : List Nat) : Prop where
  rig : Rig w C r p q m bs ns sp X
  kB : Takn w C.G bs ns false X vB tB
  kN : Takn w C.G bs ns true X vN tN
  dis : ∀ g, vB.ownBlock = some g → vN.ownBlock ≠ some g
  full : sp ≠ 0 → (sp = 60 ∧ tB.length = C.G.blocks - C.G.data) ∨ (sp = 61 ∧ tN.length = C.G.n)
def OwnG (C : TxC) (vB vN : Value) (i : Nat) : Prop := KF C i ∨ vB.ownBlock = some i ∨ vN.ownBlock = some i
def ActPost (w : World) (C : TxC) (r p q m : Nat) (X : Nat → Prop) (vB vN : Value) (e : Ending) (w' : World) : Prop :=
  ∃ vB' vN' tB' tN' bs' ns' sp X', e = .returned (.tuple #[.agg #[vB', vN'], .bool true]) ∧ Ap w' C r p q m bs' ns' sp X' vB' vN' tB' tN' ∧ (∀ i, X i → X' i) ∧ (∀ i, X' i → X i ∨ w.heap.size ≤ i) ∧
    (∀ g, vB'.ownBlock = some g → vB.ownBlock = some g ∨ w.heap.size ≤ g) ∧ (∀ g, vN'.ownBlock = some g → vN.ownBlock = some g ∨ w.heap.size ≤ g) ∧ Keeps (OwnG C vB vN) w w'
section
variable {w w' : World} {C : TxC} {r p q m : Nat} {bs ns : List UInt8} {sp : Nat} {X : Nat → Prop} {vB vN : Value} {tB tN : List Nat}
/-- The client turns what is his, but not the rig nor the rows. -/
theorem Rig.grow (h : Rig w C r p q m bs ns sp X) {Gf : Nat → Prop} (k : Keeps Gf w w') (hG : ∀ i, i < w.heap.size → Gf i → X i ∧ i ≠ r ∧ i ≠ p ∧ i ≠ q) {Y : Nat → Prop} (hXY : ∀ i, X i → Y i) (hY : ∀ i, Y i → i < w'.heap.size ∧ (X i ∨ w.heap.size ≤ i)) : Rig w' C r p q m bs ns sp Y :=
  ⟨h.st.grow k (fun i hi g => (hG i hi g).1) hY, k.blk h.hr (fun g => (hG r h.hr.lt g).2.1 rfl), k.blk h.hp (fun g => (hG p h.hp.lt g).2.2.1 rfl), k.blk h.hq (fun g => (hG q h.hq.lt g).2.2.2 rfl), hXY _ h.xr, hXY _ h.xp, hXY _ h.xq⟩
theorem Takn.grow {G : Geom} {nd : Bool} {v : Value} {l : List Nat} (h : Takn w G bs ns nd X v l) {Gf : Nat → Prop} (k : Keeps Gf w w') (hG : ∀ g, v.ownBlock = some g → ¬ Gf g) {Y : Nat → Prop} (hXY : ∀ i, X i → Y i) : Takn w' G bs ns nd Y v l :=
  ⟨h.row.keeps k hG, fun g e => hXY g (h.z g e), h.tl⟩
theorem Ap.grow (h : Ap w C r p q m bs ns sp X vB vN tB tN) {Gf : Nat → Prop} (k : Keeps Gf w w') (hG : ∀ i, i < w.heap.size → Gf i → X i ∧ i ≠ r ∧ i ≠ p ∧ i ≠ q ∧ vB.ownBlock ≠ some i ∧ vN.ownBlock ≠ some i) {Y : Nat → Prop} (hXY : ∀ i, X i → Y i) (hY : ∀ i, Y i → i < w'.heap.size ∧ (X i ∨ w.heap.size ≤ i)) : Ap w' C r p q m bs ns sp Y vB vN tB tN :=
  ⟨h.rig.grow k (fun i hi g => ⟨(hG i hi g).1, (hG i hi g).2.1, (hG i hi g).2.2.1, (hG i hi g).2.2.2.1⟩) hXY hY, h.kB.grow k (fun g e f => (hG g (own_lt h.kB.row e) f).2.2.2.2.1 e) hXY, h.kN.grow k (fun g e f => (hG g (own_lt h.kN.row e) f).2.2.2.2.2 e) hXY, h.dis, h.full⟩
/-- The row of one kind is another now. -/
theorem Ap.given (h : Ap w C r p q m bs ns 0 X vB vN tB tN) {nd : Bool} {v' : Value} {l' : List Nat} {bs' ns' : List UInt8} {sp' : Nat} {X' : Nat → Prop}
    (g : GiveRes w C r p q m bs ns nd X (if nd then vN else vB) (if nd then tN else tB) bs' ns' sp' X' v' l' w') : Ap w' C r p q m bs' ns' sp' X' (if nd then vB else v') (if nd then v' else vN) (if nd then tB else l') (if nd then l' else tN) := by
  cases nd with
  | true =>
    have ho : bs' = bs := g.other
    subst ho
    have hk := g.keeps
    refine ⟨g.rig, ?_, g.tk, fun x e e2 => ?_, fun hs => ?_⟩
    · refine ⟨h.kB.row.keeps hk (fun x e f => ?_), fun x e => g.up x (h.kB.z x e), h.kB.tl⟩
      rcases f with f | f
      · exact h.rig.st.notF (h.kB.z x e) f
      · exact h.dis x e f
    · rcases g.own x e2 with y | y
      · exact h.dis x e y
      · have := own_lt h.kB.row e; omega
    · obtain ⟨e1, e2⟩ := g.full hs
      exact .inr ⟨e1, e2⟩
  | false =>
    have ho : ns' = ns := g.other
    subst ho
    have hk := g.keeps
    refine ⟨g.rig, g.tk, ?_, fun x e e2 => ?_, fun hs => ?_⟩
    · refine ⟨h.kN.row.keeps hk (fun x e f => ?_), fun x e => g.up x (h.kN.z x e), h.kN.tl⟩
      rcases f with f | f
      · exact h.rig.st.notF (h.kN.z x e) f
      · exact h.dis x f e
    · rcases g.own x e with y | y
      · exact h.dis x y e2
      · have := own_lt h.kN.row e2; omega
    · obtain ⟨e1, e2⟩ := g.full hs
      exact .inl ⟨e1, e2⟩

/-- The boxes of act: the super, what is taken, the act, the answer. -/
structure ActBox (W : World) (s5 s6 s7 s8 : Nat) (C : TxC) (vB vN : Value) (dr nd who : Bool) (at_ : Int) : Prop where
  b5 : Blk W s5 (.cells #[.int .i64 C.G.s, .int .i64 C.G.lg, .int .i64 C.G.n] 31 (0, 0))
  b6 : Blk W s6 (.cells #[vB, vN] 51 (0, 0))
  b7 : Blk W s7 (.cells #[.bool dr, .bool nd, .bool who, .int .i64 at_] 53 (0, 0))
  b8 : Blk W s8 (.cells #[.slice none 0 0, .slice none 0 0] 51 (0, 0))
theorem ActBox.keeps {W W' : World} {s5 s6 s7 s8 : Nat} {dr nd who : Bool} {at_ : Int} (h : ActBox W s5 s6 s7 s8 C vB vN dr nd who at_) {Gf : Nat → Prop} (k : Keeps Gf W W') (hG : ∀ i, i = s5 ∨ i = s6 ∨ i = s7 ∨ i = s8 → ¬ Gf i) : ActBox W' s5 s6 s7 s8 C vB vN dr nd who at_ :=
  ⟨k.blk h.b5 (hG _ (.inl rfl)), k.blk h.b6 (hG _ (.inr (.inl rfl))), k.blk h.b7 (hG _ (.inr (.inr (.inl rfl)))), k.blk h.b8 (hG _ (.inr (.inr (.inr rfl))))⟩
def actX (X : Nat → Prop) (s5 s6 s7 s8 i : Nat) : Prop := X i ∨ i = s5 ∨ i = s6 ∨ i = s7 ∨ i = s8
theorem act_start (hA : Ap w C r p q m bs ns sp X vB vN tB tN) (dr nd who : Bool) (at_ : Int) : ∃ s5 s6 s7 s8, w.heap.size = s5 ∧ w.heap.size + 1 = s6 ∧ w.heap.size + 1 + 1 = s7 ∧ w.heap.size + 1 + 1 + 1 = s8 ∧
    (let W := ((((w.alloc (.cells #[.int .i64 C.G.s, .int .i64 C.G.lg, .int .i64 C.G.n] 31 (0, 0))).alloc (.cells #[vB, vN] 51 (0, 0))).alloc (.cells #[.bool dr, .bool nd, .bool who, .int .i64 at_] 53 (0, 0))).alloc (.cells #[.slice none 0 0, .slice none 0 0] 51 (0, 0)));
      ActBox W s5 s6 s7 s8 C vB vN dr nd who at_ ∧ Ap W C r p q m bs ns sp (actX X s5 s6 s7 s8) vB vN tB tN ∧ Keeps (fun _ => False) w W ∧ s8 < W.heap.size) := by
  refine ⟨_, _, _, _, rfl, rfl, rfl, rfl, ?_⟩
  have k : Keeps (fun _ => False) w ((((w.alloc (.cells #[.int .i64 C.G.s, .int .i64 C.G.lg, .int .i64 C.G.n] 31 (0, 0))).alloc (.cells #[vB, vN] 51 (0, 0))).alloc (.cells #[.bool dr, .bool nd, .bool who, .int .i64 at_] 53 (0, 0))).alloc (.cells #[.slice none 0 0, .slice none 0 0] 51 (0, 0))) := ((((Keeps.refl _ w).alloc _).alloc _).alloc _).alloc _
  have hsz : ((((w.alloc (.cells #[.int .i64 C.G.s, .int .i64 C.G.lg, .int .i64 C.G.n] 31 (0, 0))).alloc (.cells #[vB, vN] 51 (0, 0))).alloc (.cells #[.bool dr, .bool nd, .bool who, .int .i64 at_] 53 (0, 0))).alloc (.cells #[.slice none 0 0, .slice none 0 0] 51 (0, 0))).heap.size = w.heap.size + 4 := by simp only [World.size_alloc]
  dsimp only
  refine ⟨⟨?_, ?_, ?_, ?_⟩, ?_, k, by rw [hsz]; omega⟩
  · exact (((Blk.new w _).alloc _).alloc _).alloc _
  · have := ((Blk.new (w.alloc (.cells #[.int .i64 C.G.s, .int .i64 C.G.lg, .int .i64 C.G.n] 31 (0, 0))) (.cells #[vB, vN] 51 (0, 0))).alloc (.cells #[.bool dr, .bool nd, .bool who, .int .i64 at_] 53 (0, 0))).alloc (.cells #[.slice none 0 0, .slice none 0 0] 51 (0, 0))
    simpa only [World.size_alloc] using this
  · have := (Blk.new ((w.alloc (.cells #[.int .i64 C.G.s, .int .i64 C.G.lg, .int .i64 C.G.n] 31 (0, 0))).alloc (.cells #[vB, vN] 51 (0, 0))) (.cells #[.bool dr, .bool nd, .bool who, .int .i64 at_] 53 (0, 0))).alloc (.cells #[.slice none 0 0, .slice none 0 0] 51 (0, 0))
    simpa only [World.size_alloc] using this
  · have := Blk.new (((w.alloc (.cells #[.int .i64 C.G.s, .int .i64 C.G.lg, .int .i64 C.G.n] 31 (0, 0))).alloc (.cells #[vB, vN] 51 (0, 0))).alloc (.cells #[.bool dr, .bool nd, .bool who, .int .i64 at_] 53 (0, 0))) (.cells #[.slice none 0 0, .slice none 0 0] 51 (0, 0))
    simpa only [World.size_alloc] using this
  · refine hA.grow k (fun _ _ f => f.elim) (fun i h => .inl h) (fun i h => ?_)
    rcases h with h | h | h | h | h
    · have := hA.rig.st.lt i h; exact ⟨by omega, .inl h⟩
    · exact ⟨by omega, .inr (by omega)⟩
    · exact ⟨by omega, .inr (by omega)⟩
    · exact ⟨by omega, .inr (by omega)⟩
    · exact ⟨by omega, .inr (by omega)⟩
end
end Go.Vk

namespace Go.Vk
open Go.RowKit Go.Proofs

section
variable {w : World} {C : TxC} {r p q m : Nat} {bs ns : List UInt8} {X : Nat → Prop} {vB vN : Value} {tB tN : List Nat}
theorem act_end {W1 : World} {s5 s6 s7 s8 : Nat} {dr nd who : Bool} {at_ : Int} {bs' ns' : List UInt8} {sp' : Nat} {X1 : Nat → Prop} {v' : Value} {vB' vN' : Value} {tB' tN' : List Nat} (h5 : w.heap.size = s5) (h6 : s5 < s6) (h8 : s5 < s8) (hA : Ap w C r p q m bs ns 0 X vB vN tB tN)
    (hA1 : Ap W1 C r p q m bs' ns' sp' X1 vB' vN' tB' tN') (hX1 : ∀ i, actX X s5 s6 s7 s8 i → X1 i) (hX2 : ∀ i, X1 i → X i ∨ s5 ≤ i) (hb : ActBox W1 s5 s6 s7 s8 C vB vN dr nd who at_)
    (o1 : ∀ g, vB'.ownBlock = some g → vB.ownBlock = some g ∨ s5 ≤ g) (o2 : ∀ g, vN'.ownBlock = some g → vN.ownBlock = some g ∨ s5 ≤ g) (hk : Keeps (OwnG C vB vN) w W1) (j : Nat) (x0 x1 : Value) :
    ActPost w C r p q m X vB vN (.returned (.tuple #[.agg #[vB', vN'], .bool true])) (((W1.setCell ⟨s6, j, none⟩ v').setCell ⟨s8, 0, none⟩ x0).setCell ⟨s8, 1, none⟩ x1) := by
  have kS : Keeps (fun i => i = s6 ∨ i = s8) W1 (((W1.setCell ⟨s6, j, none⟩ v').setCell ⟨s8, 0, none⟩ x0).setCell ⟨s8, 1, none⟩ x1) :=
    (((Keeps.refl (fun i => i = s6 ∨ i = s8) W1).setCell (p := ⟨s6, j, none⟩) (.inl (.inl rfl)) _).setCell (p := ⟨s8, 0, none⟩) (.inl (.inr rfl)) _).setCell (p := ⟨s8, 1, none⟩) (.inl (.inr rfl)) _
  have hrl := hA.rig.hr.lt
  have hpl := hA.rig.hp.lt
  have hql := hA.rig.hq.lt
  have hsz := kS.size
  refine ⟨vB', vN', tB', tN', bs', ns', sp', X1, rfl, hA1.grow kS (fun i hi e => ?_) (fun i h => h) (fun i h => ⟨by have := hA1.rig.st.lt i h; omega, .inl h⟩), fun i h => hX1 i (.inl h), fun i h => by rw [h5]; exact hX2 i h, fun g e => by rw [h5]; exact o1 g e, fun g e => by rw [h5]; exact o2 g e, hk.trans kS (fun i hi e => by omega)⟩
  rcases e with rfl | rfl
  · exact ⟨hX1 _ (.inr (.inr (.inl rfl))), by omega, by omega, by omega, own_ne hA1.kB.row hb.b6 (by decide), own_ne hA1.kN.row hb.b6 (by decide)⟩
  · exact ⟨hX1 _ (.inr (.inr (.inr (.inr rfl)))), by omega, by omega, by omega, own_ne hA1.kB.row hb.b8 (by decide), own_ne hA1.kN.row hb.b8 (by decide)⟩
set_option maxRecDepth 100000 in
set_option maxHeartbeats 2000000 in
theorem act_take (hA : Ap w C r p q m bs ns 0 X vB vN tB tN) (hs : 3 + C.G.lg ≤ C.G.s) (hs2 : C.G.s ≤ 4096) (u : Nat) (hu : Blk w u (poolO C.t)) (xu : X u) (nd who : Bool) (at_ : Int) :
    Calls Tryz.prog 21 #[.pointer (some ⟨u, 0, none⟩), .agg #[.int .i64 C.G.s, .int .i64 C.G.lg, .int .i64 C.G.n], .agg #[vB, vN], .agg #[.bool false, .bool nd, .bool who, .int .i64 at_]] w (ActPost w C r p q m X vB vN) := by
  obtain ⟨aB, cB, eB⟩ := own_shape hA.kB.row
  obtain ⟨aN, cN, eN⟩ := own_shape hA.kN.row
  have hul := hu.lt
  obtain ⟨s5, s6, s7, s8, e5, e6, e7, e8, hW⟩ := act_start hA false nd who at_
  have h6 : s5 < s6 := by omega
  have h8 : s5 < s8 := by omega
  have h7 : s5 < s7 := by omega
  have h67 : s6 ≠ s7 ∧ s6 ≠ s8 ∧ s7 ≠ s8 := by omega
  dsimp only at hW
  replace e6 : s5 + 1 = s6 := by omega
  replace e7 : s6 + 1 = s7 := by omega
  replace e8 : s7 + 1 = s8 := by omega
  subst eB eN
  replace e6 := hid e6; replace e7 := hid e7; replace e8 := hid e8
  replace hA := hid hA; replace hu := hid hu; replace hW := hid hW; replace e5 := hid e5; replace h6 := hid h6; replace h7 := hid h7; replace h8 := hid h8; replace h67 := hid h67; replace hs := hid hs; replace hs2 := hid hs2
  go_enter Tryz.func21, Tryz.ntmps21
  go_upto_region 1 with fail
  simp only [e6.out, e7.out, e8.out, e5.out]
  refine wp_gen (fun W => ActBox W s5 s6 s7 s8 C (.slice aB tB.length cB) (.slice aN tN.length cN) false nd who at_ ∧ Ap W C r p q m bs ns 0 (actX X s5 s6 s7 s8) (.slice aB tB.length cB) (.slice aN tN.length cN) tB tN ∧ Keeps (fun _ => False) w W ∧ s8 < W.heap.size) hW.out ?_
  clear hW e6 e7 e8
  rintro W0 ⟨B0, A0, k0, z0⟩
  have hT : Takn W0 C.G bs ns nd (actX X s5 s6 s7 s8) (if nd = true then .slice aN tN.length cN else .slice aB tB.length cB) (if nd = true then tN else tB) := by
    cases nd
    · exact A0.kB
    · exact A0.kN
  have hGi := give_w A0.rig hs.out hs2.out nd hT u (k0.blk hu.out (fun f => f)) (.inl xu)
  have hlB := A0.kB.tl.le
  have hlN := A0.kN.tl.le
  have hsl : s5 ≤ W0.heap.size := by have := k0.size; have := e5.out; omega
  have hE : ∀ e w', GivePost W0 C r p q m bs ns nd (actX X s5 s6 s7 s8) (if nd = true then .slice aN tN.length cN else .slice aB tB.length cB) (if nd = true then tN else tB) e w' → ∃ a' n' c', e = .returned (.tuple #[.slice a' n' c', .bool true]) ∧ ActBox w' s5 s6 s7 s8 C (.slice aB tB.length cB) (.slice aN tN.length cN) false nd who at_ ∧
      ∀ x0 x1, ActPost w C r p q m X (.slice aB tB.length cB) (.slice aN tN.length cN) (.returned (.tuple #[.agg #[if nd = true then .slice aB tB.length cB else .slice a' n' c', if nd = true then .slice a' n' c' else .slice aN tN.length cN], .bool true]))
        (((w'.setCell ⟨s6, nd.toNat, none⟩ (.slice a' n' c')).setCell ⟨s8, 0, none⟩ x0).setCell ⟨s8, 1, none⟩ x1) := by
    rintro e w' ⟨v', l', bs', ns', sp', X', rfl, g⟩
    obtain ⟨a', c', e'⟩ := own_shape g.tk.row
    have hA1 := A0.given g
    have hB1 : ActBox w' s5 s6 s7 s8 C (.slice aB tB.length cB) (.slice aN tN.length cN) false nd who at_ := B0.keeps g.keeps (fun i hi f => by
      rcases f with f | f
      · exact A0.rig.st.notF (.inr hi) f
      · have hrow : ∀ b cs T, Blk W0 b (.cells cs T (0, 0)) → T ≠ 3 → (if nd = true then Value.slice aN tN.length cN else Value.slice aB tB.length cB).ownBlock ≠ some b := fun b cs T hb hTT => own_ne hT.row hb hTT
        rcases hi with rfl | rfl | rfl | rfl
        · exact hrow _ _ _ B0.b5 (by decide) f
        · exact hrow _ _ _ B0.b6 (by decide) f
        · exact hrow _ _ _ B0.b7 (by decide) f
        · exact hrow _ _ _ B0.b8 (by decide) f)
    refine ⟨a', l'.length, c', by rw [e'], hB1, fun x0 x1 => ?_⟩
    rw [← e']
    refine act_end e5.out h6.out h8.out hA.out hA1 (fun i h => g.up i h) (fun i h => ?_) hB1 (fun x e => ?_) (fun x e => ?_) ((k0.mono fun _ _ f => f.elim).step (g.keeps.mono fun i _ f => ?_)) nd.toNat x0 x1
    · rcases g.dn i h with h | h
      · rcases h with h | h | h | h | h
        · exact .inl h
        · exact .inr (by omega)
        · exact .inr (by have := h6.out; omega)
        · exact .inr (by have := h7.out; omega)
        · exact .inr (by have := h8.out; omega)
      · exact .inr (by omega)
    · cases nd
      · rcases g.own x e with h | h
        · exact .inl h
        · exact .inr (by omega)
      · exact .inl e
    · cases nd
      · exact .inl e
      · rcases g.own x e with h | h
        · exact .inl h
        · exact .inr (by omega)
    · rcases f with f | f
      · exact .inl f
      · cases nd
        · exact .inr (.inl f)
        · exact .inr (.inr f)
  generalize GivePost W0 C r p q m bs ns nd (actX X s5 s6 s7 s8) (if nd = true then .slice aN tN.length cN else .slice aB tB.length cB) (if nd = true then tN else tB) = GP at hGi hE
  have c50 := B0.b5.cell 0
  have c51 := B0.b5.cell 1
  have c52 := B0.b5.cell 2
  have c60 := B0.b6.cell 0
  have c61 := B0.b6.cell 1
  have c70 := B0.b7.cell 0
  have c71 := B0.b7.cell 1
  simp at c50 c51 c52 c60 c61 c70 c71
  have hbs : 0 ≤ tB.length ∧ 0 ≤ tN.length := by omega
  replace hT := hid hT; replace A0 := hid A0; replace k0 := hid k0; replace B0 := hid B0; replace hlB := hid hlB; replace hlN := hid hlN; replace hsl := hid hsl
  cases nd
  all_goals
    simp only [if_true, if_false, Bool.false_eq_true] at hGi hE
    replace hGi := hid hGi; replace hE := hid hE
    go_upto_region 13 with (go_at_call 57; refine hGi.out.mono ?_; intro e w1 hx; obtain ⟨a', n', c', rfl, b1, y1⟩ := hE.out _ _ hx; clear hx; have d60 := b1.b6.cell 0; have d61 := b1.b6.cell 1; have d71 := b1.b7.cell 1; have d80 := b1.b8.cell 0; have d81 := b1.b8.cell 1; have f6 := b1.b6.frz; have f8 := b1.b8.frz; simp at d60 d61 d71 d80 d81; replace b1 := hid b1; replace y1 := hid y1)
    have hn1 : s6 ≠ s8 := h67.out.2.1
    have hn2 : s8 ≠ s6 := Ne.symm hn1
    go_wp2
    have q := fun j v' x0 x1 => ((b1.out.b8.setCell_ne (p := ⟨s6, j, none⟩) hn2 v').setCell 0 x0).setCell 1 x1
    have q0 := fun j v' x0 x1 => (q j v' x0 x1).cell 0
    have q1 := fun j v' x0 x1 => (q j v' x0 x1).cell 1
    simp only [Array.setIfInBounds] at q0 q1
    simp at q0 q1
    exact bodyPost_ret (v := .tuple #[.agg #[_, _], .bool true]) (by simp [results, Tryz.results21, go_sem, q0, q1]) rfl (y1.out _ _)
set_option maxRecDepth 100000 in
set_option maxHeartbeats 2000000 in
theorem act_none (hA : Ap w C r p q m bs ns 0 X vB vN tB tN) (hs : 3 + C.G.lg ≤ C.G.s) (hs2 : C.G.s ≤ 4096) (u : Nat) (hu : Blk w u (poolO C.t)) (xu : X u) (nd who : Bool) (at_ : Int) (hem : (if nd = true then tN else tB).length = 0) :
    Calls Tryz.prog 21 #[.pointer (some ⟨u, 0, none⟩), .agg #[.int .i64 C.G.s, .int .i64 C.G.lg, .int .i64 C.G.n], .agg #[vB, vN], .agg #[.bool true, .bool nd, .bool who, .int .i64 at_]] w (ActPost w C r p q m X vB vN) := by
  obtain ⟨aB, cB, eB⟩ := own_shape hA.kB.row
  obtain ⟨aN, cN, eN⟩ := own_shape hA.kN.row
  have hul := hu.lt
  obtain ⟨s5, s6, s7, s8, e5, e6, e7, e8, hW⟩ := act_start hA true nd who at_
  have h6 : s5 < s6 := by omega
  have h8 : s5 < s8 := by omega
  have h7 : s5 < s7 := by omega
  have h67 : s6 ≠ s7 ∧ s6 ≠ s8 ∧ s7 ≠ s8 := by omega
  dsimp only at hW
  replace e6 : s5 + 1 = s6 := by omega
  replace e7 : s6 + 1 = s7 := by omega
  replace e8 : s7 + 1 = s8 := by omega
  subst eB eN
  replace e6 := hid e6; replace e7 := hid e7; replace e8 := hid e8
  replace hA := hid hA; replace hu := hid hu; replace hW := hid hW; replace e5 := hid e5; replace h6 := hid h6; replace h7 := hid h7; replace h8 := hid h8; replace h67 := hid h67; replace hs := hid hs; replace hs2 := hid hs2
  go_enter Tryz.func21, Tryz.ntmps21
  go_upto_region 1 with fail
  simp only [e6.out, e7.out, e8.out, e5.out]
  refine wp_gen (fun W => ActBox W s5 s6 s7 s8 C (.slice aB tB.length cB) (.slice aN tN.length cN) true nd who at_ ∧ Ap W C r p q m bs ns 0 (actX X s5 s6 s7 s8) (.slice aB tB.length cB) (.slice aN tN.length cN) tB tN ∧ Keeps (fun _ => False) w W ∧ s8 < W.heap.size) hW.out ?_
  clear hW e6 e7 e8
  rintro W0 ⟨B0, A0, k0, z0⟩
  have hT : Takn W0 C.G bs ns nd (actX X s5 s6 s7 s8) (if nd = true then .slice aN tN.length cN else .slice aB tB.length cB) (if nd = true then tN else tB) := by
    cases nd
    · exact A0.kB
    · exact A0.kN
  have hsl : s5 ≤ W0.heap.size := by have := k0.size; have := e5.out; omega
  have hE : ∀ j v' x0 x1, ActPost w C r p q m X (.slice aB tB.length cB) (.slice aN tN.length cN) (.returned (.tuple #[.agg #[.slice aB tB.length cB, .slice aN tN.length cN], .bool true])) (((W0.setCell ⟨s6, j, none⟩ v').setCell ⟨s8, 0, none⟩ x0).setCell ⟨s8, 1, none⟩ x1) := fun j v' x0 x1 =>
    act_end e5.out h6.out h8.out hA.out A0 (fun i h => h) (fun i h => by
      rcases h with h | h | h | h | h
      · exact .inl h
      · exact .inr (by omega)
      · exact .inr (by have := h6.out; omega)
      · exact .inr (by have := h7.out; omega)
      · exact .inr (by have := h8.out; omega)) B0 (fun x e => .inl e) (fun x e => .inl e) (k0.mono fun _ _ f => f.elim) j x0 x1
  have c50 := B0.b5.cell 0
  have c51 := B0.b5.cell 1
  have c52 := B0.b5.cell 2
  have c60 := B0.b6.cell 0
  have c61 := B0.b6.cell 1
  have c70 := B0.b7.cell 0
  have c71 := B0.b7.cell 1
  simp at c50 c51 c52 c60 c61 c70 c71
  have c80 := B0.b8.cell 0
  have c81 := B0.b8.cell 1
  have f6 := B0.b6.frz
  have f8 := B0.b8.frz
  simp at c80 c81
  have hlB := A0.kB.tl.le
  have hlN := A0.kN.tl.le
  replace hT := hid hT; replace A0 := hid A0; replace k0 := hid k0; replace B0 := hid B0; replace hlB := hid hlB; replace hlN := hid hlN; replace hsl := hid hsl; replace hE := hid hE
  cases nd
  all_goals
    simp only [if_true, if_false, Bool.false_eq_true] at hem
    have hn1 : s6 ≠ s8 := h67.out.2.1
    have hn2 : s8 ≠ s6 := Ne.symm hn1
    go_wp2
    have q := fun j v' x0 x1 => ((B0.out.b8.setCell_ne (p := ⟨s6, j, none⟩) hn2 v').setCell 0 x0).setCell 1 x1
    have q0 := fun j v' x0 x1 => (q j v' x0 x1).cell 0
    have q1 := fun j v' x0 x1 => (q j v' x0 x1).cell 1
    simp only [Array.setIfInBounds] at q0 q1
    simp at q0 q1
    have hfin := hE.out
    exact bodyPost_ret (v := .tuple #[.agg #[.slice aB tB.length cB, .slice aN tN.length cN], .bool true]) (by simp [results, Tryz.results21, go_sem, q0, q1, hem]) rfl (by first | exact hfin _ _ _ _ | (simp only [hem] at hfin ⊢; exact hfin _ _ _ _))
end
end Go.Vk

namespace Go.Vk
open Go.RowKit Go.Proofs

section
variable {w : World} {C : TxC} {r p q m : Nat} {bs ns : List UInt8} {X : Nat → Prop} {vB vN : Value} {tB tN : List Nat}
set_option maxRecDepth 100000 in
set_option maxHeartbeats 2000000 in
theorem act_drop (hA : Ap w C r p q m bs ns 0 X vB vN tB tN) (hs : 3 + C.G.lg ≤ C.G.s) (hs2 : C.G.s ≤ 4096) (u : Nat) (hu : Blk w u (poolO C.t)) (xu : X u) (nd who : Bool) (at_ : Int) (hne : 0 < (if nd = true then tN else tB).length) :
    Calls Tryz.prog 21 #[.pointer (some ⟨u, 0, none⟩), .agg #[.int .i64 C.G.s, .int .i64 C.G.lg, .int .i64 C.G.n], .agg #[vB, vN], .agg #[.bool true, .bool nd, .bool who, .int .i64 at_]] w (ActPost w C r p q m X vB vN) := by
  obtain ⟨aB, cB, eB⟩ := own_shape hA.kB.row
  obtain ⟨aN, cN, eN⟩ := own_shape hA.kN.row
  have hul := hu.lt
  obtain ⟨s5, s6, s7, s8, e5, e6, e7, e8, hW⟩ := act_start hA true nd who at_
  have h6 : s5 < s6 := by omega
  have h8 : s5 < s8 := by omega
  have h7 : s5 < s7 := by omega
  have h67 : s6 ≠ s7 ∧ s6 ≠ s8 ∧ s7 ≠ s8 := by omega
  dsimp only at hW
  replace e6 : s5 + 1 = s6 := by omega
  replace e7 : s6 + 1 = s7 := by omega
  replace e8 : s7 + 1 = s8 := by omega
  subst eB eN
  replace e6 := hid e6; replace e7 := hid e7; replace e8 := hid e8
  replace hA := hid hA; replace hu := hid hu; replace hW := hid hW; replace e5 := hid e5; replace h6 := hid h6; replace h7 := hid h7; replace h8 := hid h8; replace h67 := hid h67; replace hs := hid hs; replace hs2 := hid hs2
  go_enter Tryz.func21, Tryz.ntmps21
  go_upto_region 1 with fail
  simp only [e6.out, e7.out, e8.out, e5.out]
  refine wp_gen (fun W => ActBox W s5 s6 s7 s8 C (.slice aB tB.length cB) (.slice aN tN.length cN) true nd who at_ ∧ Ap W C r p q m bs ns 0 (actX X s5 s6 s7 s8) (.slice aB tB.length cB) (.slice aN tN.length cN) tB tN ∧ Keeps (fun _ => False) w W ∧ s8 < W.heap.size) hW.out ?_
  clear hW e6 e7 e8
  rintro W0 ⟨B0, A0, k0, z0⟩
  have hT : Takn W0 C.G bs ns nd (actX X s5 s6 s7 s8) (if nd = true then .slice aN tN.length cN else .slice aB tB.length cB) (if nd = true then tN else tB) := by
    cases nd
    · exact A0.kB
    · exact A0.kN
  have hsl : s5 ≤ W0.heap.size := by have := k0.size; have := e5.out; omega
  have hgeo := A0.rig.st.geo
  have hu0 := k0.blk hu.out (fun f => f)
  have xu0 : actX X s5 s6 s7 s8 u := .inl xu
  have hkl := kB_len A0.rig nd
  have hkh := kHi_le hgeo nd
  obtain ⟨lst, hlst⟩ : ∃ x, (if nd = true then tN else tB) = x := ⟨_, rfl⟩
  rw [hlst] at hne hT
  have hle := hT.tl.le
  obtain ⟨at', hat⟩ : ∃ x, withinN at_ 0 (lst.length - 1) = x := ⟨_, rfl⟩
  have hatl : at' < lst.length := by have := withinN_le at_ (Nat.zero_le (lst.length - 1)); omega
  have hWi : ∀ W (x : Int), x = (lst.length - 1 : Nat) → Calls Tryz.prog 24 #[.int .i64 at_, .int .i64 0, .int .i64 x] W fun e w' => e = .returned (.int .i64 (at' : Nat)) ∧ W = w' := fun W x hx => by
    have := within_w W at_ 0 (lst.length - 1) (Nat.zero_le _) (by omega)
    rw [hat] at this
    rw [hx]; exact this
  obtain ⟨d1, d2, d3, d4, d5⟩ := hT.tl.drop hatl (by rw [hkl]; omega)
  obtain ⟨x, hx⟩ : ∃ x, lst[at'] = x := ⟨_, rfl⟩
  rw [hx] at d1 d2 d3 d4 d5
  have hin : inSpan C.G nd x := by
    cases nd
    · exact ⟨d2, d3⟩
    · have h2 : 0 + 1 ≤ x := d2
      have h3 : x < C.G.n + 1 := d3
      exact ⟨by omega, by omega⟩
  obtain ⟨bs', hbs'⟩ : ∃ y, (if nd = true then bs else flipB bs x) = y := ⟨_, rfl⟩
  obtain ⟨ns', hns'⟩ : ∃ y, (if nd = true then flipB ns (x - 1) else ns) = y := ⟨_, rfl⟩
  have f1 : drE C.G bs ns nd x = 0 ∧ drB bs nd x = bs' ∧ drN ns nd x = ns' := by
    cases nd
    · have d1' : bitOf bs x = true := d1
      unfold drE drB drN
      simp only [Bool.false_eq_true, if_false, d1', if_true] at hbs' hns' ⊢
      exact ⟨trivial, hbs', hns'⟩
    · have d1' : bitOf ns (x - 1) = true := d1
      unfold drE drB drN
      simp only [if_true, d1'] at hbs' hns' ⊢
      exact ⟨trivial, hbs', hns'⟩
  have hkB' : kB bs' ns' nd = flipB (kB bs ns nd) (x - nd.toNat) := by
    rw [← hbs', ← hns']
    cases nd <;> rfl
  have f2 : drE C.G bs' ns' nd x = 62 ∧ drB bs' nd x = bs' ∧ drN ns' nd x = ns' := by
    rw [← hkB'] at d4
    cases nd
    · have d4' : bitOf bs' x = false := d4
      unfold drE drB drN
      simp [d4']
    · have d4' : bitOf ns' (x - 1) = false := d4
      unfold drE drB drN
      simp [d4']
  have hother : kB bs' ns' (!nd) = kB bs ns (!nd) := by
    rw [← hbs', ← hns']
    cases nd <;> rfl
  have hD1 : ∀ W, Keeps (fun _ => False) W0 W → Calls Tryz.prog 25 #[.pointer (some ⟨u, 0, none⟩), .bool nd, .int .i64 x] W fun e w' => e = .returned (.int .i64 (0 : Nat)) ∧ Rig w' C r p q m bs' ns' 0 (actX X s5 s6 s7 s8) ∧ Keeps (KF C) W0 w' := fun W k => by
    refine (drops_w (A0.rig.quiet k).st (k.blk hu0 (fun f => f)) xu0 nd x hin).mono ?_
    rintro e w' ⟨rfl, y1, y2⟩
    rw [f1.1, f1.2.1, f1.2.2] at *
    exact ⟨rfl, (A0.rig.quiet k).call y2 y1, (k.mono fun _ _ f => f.elim).step y2⟩
  have hD2 : ∀ W, Rig W C r p q m bs' ns' 0 (actX X s5 s6 s7 s8) → Keeps (KF C) W0 W → Calls Tryz.prog 25 #[.pointer (some ⟨u, 0, none⟩), .bool nd, .int .i64 x] W fun e w' => e = .returned (.int .i64 (62 : Nat)) ∧ Rig w' C r p q m bs' ns' 0 (actX X s5 s6 s7 s8) ∧ Keeps (KF C) W0 w' := fun W hW k => by
    refine (drops_w hW.st (A0.rig.st.blk k hu0 xu0) xu0 nd x hin).mono ?_
    rintro e w' ⟨rfl, y1, y2⟩
    rw [f2.1, f2.2.1, f2.2.2] at *
    exact ⟨rfl, hW.call y2 y1, k.step y2⟩
  obtain ⟨v, hv⟩ : ∃ y, (if nd = true then Value.slice aN tN.length cN else Value.slice aB tB.length cB) = y := ⟨_, rfl⟩
  rw [hv] at hT
  obtain ⟨av, cv, eV⟩ := own_shape hT.row
  have hrowW : ∀ W, Keeps (KF C) W0 W → IntRow W 0 v lst := fun W k => hT.row.keeps k (fun g e f => A0.rig.st.notF (hT.z g e) f)
  have hboxW : ∀ W, Keeps (KF C) W0 W → ActBox W s5 s6 s7 s8 C (.slice aB tB.length cB) (.slice aN tN.length cN) true nd who at_ := fun W k => B0.keeps k (fun i hi f => A0.rig.st.notF (.inr hi) f)
  have hWo : ∀ W, Keeps (KF C) W0 W → Calls Tryz.prog 26 #[v, .int .i64 at'] W fun e w' => ∃ u', e = .returned u' ∧ IntRow w' W.heap.size u' (lst.eraseIdx at') ∧ Keeps (fun _ => False) W w' := fun W k => without_w W 0 v lst (hrowW W k) (by omega) at'
  have hE : ∀ W W' u', Rig W C r p q m bs' ns' 0 (actX X s5 s6 s7 s8) → Keeps (KF C) W0 W → IntRow W' W.heap.size u' (lst.eraseIdx at') → Keeps (fun _ => False) W W' → ∃ a' n' c', u' = .slice a' n' c' ∧ ActBox W' s5 s6 s7 s8 C (.slice aB tB.length cB) (.slice aN tN.length cN) true nd who at_ ∧
      ∀ x0 x1, ActPost w C r p q m X (.slice aB tB.length cB) (.slice aN tN.length cN) (.returned (.tuple #[.agg #[if nd = true then .slice aB tB.length cB else .slice a' n' c', if nd = true then .slice a' n' c' else .slice aN tN.length cN], .bool true]))
        (((W'.setCell ⟨s6, nd.toNat, none⟩ (.slice a' n' c')).setCell ⟨s8, 0, none⟩ x0).setCell ⟨s8, 1, none⟩ x1) := by
    intro W W' u' hW kW hu' kU
    obtain ⟨a', c', e'⟩ := own_shape hu'
    have hszW := kW.size
    have hszU := kU.size
    have hB1 := (hboxW W kW).keeps kU (fun _ _ f => f)
    refine ⟨a', _, c', e', hB1, fun x0 x1 => ?_⟩
    rw [← e']
    have hX3 : ∀ i, actX X s5 s6 s7 s8 i → actX X s5 s6 s7 s8 i ∨ W.heap.size ≤ i ∧ i < W'.heap.size := fun i h => .inl h
    have hR3 : Rig W' C r p q m bs' ns' 0 (fun i => actX X s5 s6 s7 s8 i ∨ W.heap.size ≤ i ∧ i < W'.heap.size) := hW.grow kU (fun _ _ f => f.elim) hX3 (fun i h => by
      rcases h with h | h
      · have := hW.st.lt i h; exact ⟨by omega, .inl h⟩
      · exact ⟨h.2, .inr h.1⟩)
    have hG : GiveRes W0 C r p q m bs ns nd (actX X s5 s6 s7 s8) v lst bs' ns' 0 (fun i => actX X s5 s6 s7 s8 i ∨ W.heap.size ≤ i ∧ i < W'.heap.size) u' (lst.eraseIdx at') W' :=
      { rig := hR3
        tk := ⟨hu'.lo (Nat.zero_le _), fun g e => .inr ⟨ownBlock_ge hu' g e, own_lt hu' e⟩, by rw [hkB']; exact d5⟩
        other := hother
        up := hX3
        dn := fun i h => h.elim .inl (fun y => .inr (by omega))
        own := fun g e => .inr (by have := ownBlock_ge hu' g e; omega)
        full := fun h => absurd rfl h
        keeps := (kW.mono fun _ _ h => .inl h).step (kU.mono fun _ _ f => f.elim) }
    rw [← hv, ← hlst] at hG
    have hA1 := A0.given hG
    refine act_end e5.out h6.out h8.out hA.out hA1 (fun i h => .inl h) (fun i h => ?_) hB1 (fun y e => ?_) (fun y e => ?_) ((k0.mono fun _ _ f => f.elim).step ((kW.mono fun _ _ h => .inl h).step (kU.mono fun _ _ f => f.elim))) nd.toNat x0 x1
    · rcases h with (h | h | h | h | h) | h
      · exact .inl h
      · exact .inr (by omega)
      · exact .inr (by have := h6.out; omega)
      · exact .inr (by have := h7.out; omega)
      · exact .inr (by have := h8.out; omega)
      · exact .inr (by omega)
    · cases nd
      · exact .inr (by have := ownBlock_ge hu' y e; omega)
      · exact .inl e
    · cases nd
      · exact .inl e
      · exact .inr (by have := ownBlock_ge hu' y e; omega)
  obtain ⟨gv, cv', eV2, _, hgl⟩ := own_form hT.row hne
  have hcv : ∀ W, Keeps (KF C) W0 W → W.cell? ⟨gv, at', none⟩ = some (.int .i64 x) := fun W k => by
    have := own_cell (by rw [← eV2]; exact hrowW W k) at' (.int .i64 x) (by rw [List.getElem?_map, List.getElem?_eq_getElem hatl, hx]; rfl)
    exact this
  have hc7 : ∀ W, Keeps (KF C) W0 W → W.cell? ⟨s7, 1, none⟩ = some (.bool nd) := fun W k => by have := (hboxW W k).b7.cell 1; simpa using this
  have c60 := B0.b6.cell 0
  have c61 := B0.b6.cell 1
  have c70 := B0.b7.cell 0
  have c71 := B0.b7.cell 1
  have c73 := B0.b7.cell 3
  simp at c60 c61 c70 c71 c73
  have hlB := A0.kB.tl.le
  have hlN := A0.kN.tl.le
  have hix : 0 ≤ (at' : Int) ∧ (at' : Int) < (lst.length : Nat) := by omega
  have hpos : 0 < (lst.length : Int) := by omega
  have hll : lst.length ≤ 2048 := by omega
  replace A0 := hid A0; replace B0 := hid B0; replace k0 := hid k0; replace hlB := hid hlB; replace hlN := hid hlN; replace hsl := hid hsl; replace hgeo := hid hgeo; replace hu0 := hid hu0; replace hkl := hid hkl; replace hkh := hid hkh; replace hle := hid hle; replace hat := hid hat; replace hWi := hid hWi; replace d1 := hid d1; replace d2 := hid d2; replace d3 := hid d3; replace d4 := hid d4; replace d5 := hid d5; replace hx := hid hx; replace hin := hid hin; replace hbs' := hid hbs'; replace hns' := hid hns'; replace f1 := hid f1; replace f2 := hid f2; replace hkB' := hid hkB'; replace hother := hid hother; replace hD1 := hid hD1; replace hD2 := hid hD2; replace hrowW := hid hrowW; replace hboxW := hid hboxW; replace hWo := hid hWo; replace hE := hid hE; replace hcv := hid hcv; replace hc7 := hid hc7; replace hT := hid hT; replace eV := hid eV
  cases nd with
  | false =>
    simp only [if_false, Bool.false_eq_true] at hv hlst hE
    subst hlst
    subst hv
    injection eV2 with ea _ ec
    subst ea ec
    have hn1 : s6 ≠ s8 := h67.out.2.1
    have hn2 : s8 ≠ s6 := Ne.symm hn1
    replace hE := hid hE
    go_upto_region 7 with (go_at_call 24; refine (hWi.out _ _ (by omega)).mono ?_; rintro e w' ⟨rfl, rfl⟩)
    have k1 : Keeps (fun _ => False) W0 W0.drew := (Keeps.refl _ _).drew
    have s1 := hc7.out _ (k1.mono (G := KF C) fun _ _ f => f.elim)
    have s2 := hcv.out _ (k1.mono (G := KF C) fun _ _ f => f.elim)
    replace k1 := hid k1
    go_region_held3 (fun W => W.cell? ⟨s7, 1, none⟩ = some (.bool false) ∧ W.cell? ⟨gv, at', none⟩ = some (.int .i64 x)) (first | with_reducible exact ⟨s1, s2⟩ | with_reducible exact ⟨s3, s4⟩) (first | (go_at_call 25; refine (hD1.out _ k1.out).mono ?_; rintro e w1 ⟨rfl, r1, k2⟩; have s3 := hc7.out _ k2; have s4 := hcv.out _ k2; replace r1 := hid r1; replace k2 := hid k2))
    rename_i hHeld
    clear hHeld s1 s2
    have k2d : Keeps (KF C) W0 w1.drew := k2.out.drew
    have r1d := r1.out.quiet (Keeps.refl (fun _ => False) w1).drew
    have s5' : w1.drew.cell? ⟨s7, 1, none⟩ = some (.bool false) := s3
    have s6' : w1.drew.cell? ⟨gv, at', none⟩ = some (.int .i64 x) := s4
    replace k2d := hid k2d; replace r1d := hid r1d
    go_upto_region 8 with fail
    go_region_held3 (fun W => W.cell? ⟨s7, 1, none⟩ = some (.bool false) ∧ W.cell? ⟨gv, at', none⟩ = some (.int .i64 x)) (first | with_reducible exact ⟨s5', s6'⟩ | with_reducible exact ⟨s7', s8'⟩) (first | (go_at_call 25; refine (hD2.out _ r1d.out k2d.out).mono ?_; rintro e w2 ⟨rfl, r2, k3⟩; have s7' := hc7.out _ k3; have s8' := hcv.out _ k3; replace r2 := hid r2; replace k3 := hid k3))
    rename_i hHeld
    clear hHeld s3 s4 s5' s6' c70 c71 c73 c60 c61
    have hWW := hWo.out _ k3.out
    replace hWW := hid hWW
    have hb2 := hboxW.out _ k3.out
    have d70 := hb2.b7.cell 0
    have d71 := hb2.b7.cell 1
    simp at d70 d71
    go_upto_region 13 with (go_at_call 26; refine hWW.out.mono ?_; rintro e w3 ⟨u', rfl, iu, ku⟩; obtain ⟨a', n', c', rfl, b1, y1⟩ := hE.out _ _ _ r2.out k3.out iu ku; have d60 := b1.b6.cell 0; have d61 := b1.b6.cell 1; have d71 := b1.b7.cell 1; have d80 := b1.b8.cell 0; have d81 := b1.b8.cell 1; have f6 := b1.b6.frz; have f8 := b1.b8.frz; simp at d60 d61 d71 d80 d81; replace b1 := hid b1; replace y1 := hid y1; replace iu := hid iu; replace ku := hid ku)
    go_wp2
    have q := fun j v' x0 x1 => ((b1.out.b8.setCell_ne (p := ⟨s6, j, none⟩) hn2 v').setCell 0 x0).setCell 1 x1
    have q0 := fun j v' x0 x1 => (q j v' x0 x1).cell 0
    have q1 := fun j v' x0 x1 => (q j v' x0 x1).cell 1
    simp only [Array.setIfInBounds] at q0 q1
    simp at q0 q1
    exact bodyPost_ret (v := .tuple #[.agg #[_, _], .bool true]) (by simp [results, Tryz.results21, go_sem, q0, q1]) rfl (y1.out _ _)
  | true =>
    simp only [if_true] at hv hlst hE
    subst hlst
    subst hv
    injection eV2 with ea _ ec
    subst ea ec
    have hn1 : s6 ≠ s8 := h67.out.2.1
    have hn2 : s8 ≠ s6 := Ne.symm hn1
    replace hE := hid hE
    go_upto_region 7 with (go_at_call 24; refine (hWi.out _ _ (by omega)).mono ?_; rintro e w' ⟨rfl, rfl⟩)
    have k1 : Keeps (fun _ => False) W0 W0.drew := (Keeps.refl _ _).drew
    have s1 := hc7.out _ (k1.mono (G := KF C) fun _ _ f => f.elim)
    have s2 := hcv.out _ (k1.mono (G := KF C) fun _ _ f => f.elim)
    replace k1 := hid k1
    go_region_held3 (fun W => W.cell? ⟨s7, 1, none⟩ = some (.bool true) ∧ W.cell? ⟨gv, at', none⟩ = some (.int .i64 x)) (first | with_reducible exact ⟨s1, s2⟩ | with_reducible exact ⟨s3, s4⟩) (first | (go_at_call 25; refine (hD1.out _ k1.out).mono ?_; rintro e w1 ⟨rfl, r1, k2⟩; have s3 := hc7.out _ k2; have s4 := hcv.out _ k2; replace r1 := hid r1; replace k2 := hid k2))
    rename_i hHeld
    clear hHeld s1 s2
    have k2d : Keeps (KF C) W0 w1.drew := k2.out.drew
    have r1d := r1.out.quiet (Keeps.refl (fun _ => False) w1).drew
    have s5' : w1.drew.cell? ⟨s7, 1, none⟩ = some (.bool true) := s3
    have s6' : w1.drew.cell? ⟨gv, at', none⟩ = some (.int .i64 x) := s4
    replace k2d := hid k2d; replace r1d := hid r1d
    go_upto_region 8 with fail
    go_region_held3 (fun W => W.cell? ⟨s7, 1, none⟩ = some (.bool true) ∧ W.cell? ⟨gv, at', none⟩ = some (.int .i64 x)) (first | with_reducible exact ⟨s5', s6'⟩ | with_reducible exact ⟨s7', s8'⟩) (first | (go_at_call 25; refine (hD2.out _ r1d.out k2d.out).mono ?_; rintro e w2 ⟨rfl, r2, k3⟩; have s7' := hc7.out _ k3; have s8' := hcv.out _ k3; replace r2 := hid r2; replace k3 := hid k3))
    rename_i hHeld
    clear hHeld s3 s4 s5' s6' c70 c71 c73 c60 c61
    have hWW := hWo.out _ k3.out
    replace hWW := hid hWW
    have hb2 := hboxW.out _ k3.out
    have d70 := hb2.b7.cell 0
    have d71 := hb2.b7.cell 1
    simp at d70 d71
    go_upto_region 13 with (go_at_call 26; refine hWW.out.mono ?_; rintro e w3 ⟨u', rfl, iu, ku⟩; obtain ⟨a', n', c', rfl, b1, y1⟩ := hE.out _ _ _ r2.out k3.out iu ku; have d60 := b1.b6.cell 0; have d61 := b1.b6.cell 1; have d71 := b1.b7.cell 1; have d80 := b1.b8.cell 0; have d81 := b1.b8.cell 1; have f6 := b1.b6.frz; have f8 := b1.b8.frz; simp at d60 d61 d71 d80 d81; replace b1 := hid b1; replace y1 := hid y1; replace iu := hid iu; replace ku := hid ku)
    go_wp2
    have q := fun j v' x0 x1 => ((b1.out.b8.setCell_ne (p := ⟨s6, j, none⟩) hn2 v').setCell 0 x0).setCell 1 x1
    have q0 := fun j v' x0 x1 => (q j v' x0 x1).cell 0
    have q1 := fun j v' x0 x1 => (q j v' x0 x1).cell 1
    simp only [Array.setIfInBounds] at q0 q1
    simp at q0 q1
    exact bodyPost_ret (v := .tuple #[.agg #[_, _], .bool true]) (by simp [results, Tryz.results21, go_sem, q0, q1]) rfl (y1.out _ _)
end
end Go.Vk

namespace Go.Vk
open Go.RowKit Go.Proofs

structure ActR where
  dr : Bool
  nd : Bool
  who : Bool
  at_ : Int
/-- The acts as they lie in the argument. -/
def ArgActs (w : World) (v : Value) (l : List ActR) : Prop :=
  ∃ a cap, v = .slice a l.length cap ∧ (l = [] ∨ ∃ g o, a = some ⟨g, o, none⟩ ∧ ∀ i (h : i < l.length), w.cell? ⟨g, o + i * 4, none⟩ = some (.bool l[i].dr) ∧ w.cell? ⟨g, o + i * 4 + 1, none⟩ = some (.bool l[i].nd) ∧ w.cell? ⟨g, o + i * 4 + 2, none⟩ = some (.bool l[i].who) ∧ w.cell? ⟨g, o + i * 4 + 3, none⟩ = some (.int .i64 l[i].at_))

section
variable {w w' : World} {C : TxC} {r p q m : Nat} {bs ns : List UInt8} {sp : Nat} {X : Nat → Prop} {vB vN : Value} {tB tN : List Nat}
theorem act_w (hA : Ap w C r p q m bs ns 0 X vB vN tB tN) (hs : 3 + C.G.lg ≤ C.G.s) (hs2 : C.G.s ≤ 4096) (u : Nat) (hu : Blk w u (poolO C.t)) (xu : X u) (dr nd who : Bool) (at_ : Int) :
    Calls Tryz.prog 21 #[.pointer (some ⟨u, 0, none⟩), .agg #[.int .i64 C.G.s, .int .i64 C.G.lg, .int .i64 C.G.n], .agg #[vB, vN], .agg #[.bool dr, .bool nd, .bool who, .int .i64 at_]] w (ActPost w C r p q m X vB vN) := by
  cases dr with
  | false => exact act_take hA hs hs2 u hu xu nd who at_
  | true =>
    by_cases h : (if nd = true then tN else tB).length = 0
    · exact act_none hA hs hs2 u hu xu nd who at_ h
    · exact act_drop hA hs hs2 u hu xu nd who at_ (by omega)
theorem Ap.calm (h : Ap w C r p q m bs ns sp X vB vN tB tN) (k : Keeps (KF C) w w') (h' : PoolSt w' C bs ns sp X) : Ap w' C r p q m bs ns sp X vB vN tB tN :=
  ⟨h.rig.call k h', ⟨h.kB.row.keeps k (fun g e f => h.rig.st.notF (h.kB.z g e) f), h.kB.z, h.kB.tl⟩, ⟨h.kN.row.keeps k (fun g e f => h.rig.st.notF (h.kN.z g e) f), h.kN.z, h.kN.tl⟩, h.dis, h.full⟩
theorem Ap.left (h : Ap w C r p q m bs ns 0 X vB vN tB tN) : Calls Tryz.prog 20 #[.pointer (some ⟨p, 0, none⟩)] w fun e w' =>
    e = .returned (.tuple #[.int .i64 ((C.G.blocks - C.G.data - tB.length : Nat) : Int), .int .i64 ((C.G.n - tN.length : Nat) : Int), .int .i64 0]) ∧ Ap w' C r p q m bs ns 0 X vB vN tB tN ∧ Keeps (KF C) w w' := by
  refine (h.rig.st.left h.rig.hp h.rig.xp).mono ?_
  rintro e w' ⟨rfl, x1, x2⟩
  have e1 : leftN bs C.G.data C.G.blocks = C.G.blocks - C.G.data - tB.length := h.kB.tl.left
  have e2 : leftN ns 0 C.G.n = C.G.n - 0 - tN.length := h.kN.tl.left
  rw [e1, e2, Nat.sub_zero]
  exact ⟨rfl, h.calm x2 x1, x2⟩
theorem Ap.left_bad (h : Ap w C r p q m bs ns sp X vB vN tB tN) (hs : sp ≠ 0) : Calls Tryz.prog 20 #[.pointer (some ⟨p, 0, none⟩)] w fun e w' =>
    e = .returned (.tuple #[.int .i64 0, .int .i64 0, .int .i64 (sp : Nat)]) ∧ Ap w' C r p q m bs ns sp X vB vN tB tN ∧ Keeps (KF C) w w' := by
  refine (h.rig.st.left_bad hs h.rig.hp).mono ?_
  rintro e w' ⟨rfl, x1, x2⟩
  exact ⟨rfl, h.calm x2 x1, x2⟩
theorem Ap.quiet (h : Ap w C r p q m bs ns sp X vB vN tB tN) (k : Keeps (fun _ => False) w w') : Ap w' C r p q m bs ns sp X vB vN tB tN :=
  h.calm (k.mono fun _ _ f => f.elim) (h.rig.st.quiet k)
theorem Ap.state (h : Ap w C r p q m bs ns sp X vB vN tB tN) : Calls Tryz.prog 18 #[.pointer (some ⟨C.t, 0, none⟩)] w fun e w' => e = .returned (.int .i64 (sp : Nat)) ∧ Ap w' C r p q m bs ns sp X vB vN tB tN ∧ Keeps (KF C) w w' := by
  refine h.rig.st.state.mono ?_
  rintro e w' ⟨rfl, x1, x2⟩
  exact ⟨rfl, h.quiet x2, x2.mono fun _ _ f => f.elim⟩
theorem tells_start (G : Geom) (hg : GeoOk G) : Tells (onesB G.data) G.data G.blocks 0 [] ∧ Tells (zeros 512) 0 G.n 1 [] := by
  have h1 := hg.n2
  refine ⟨⟨List.nodup_nil, (fun x h => by cases h), fun i h1 h2 => ?_⟩, ⟨List.nodup_nil, (fun x h => by cases h), fun i _ h2 => ?_⟩⟩
  · rw [bitOf_ones _ _ (by unfold Geom.data; omega)]; simp; omega
  · rw [bitOf_zeros]; simp
theorem Ap.start (h : Rig w C r p q m (onesB C.G.data) (zeros 512) 0 X) : Ap w C r p q m (onesB C.G.data) (zeros 512) 0 X (.slice none 0 0) (.slice none 0 0) [] [] :=
  ⟨h, ⟨IntRow.nil _ _, (fun g e => by cases e), (tells_start C.G h.st.geo).1⟩, ⟨IntRow.nil _ _, (fun g e => by cases e), (tells_start C.G h.st.geo).2⟩, fun g e => (by cases e), fun h => absurd rfl h⟩
end

/-- Where PoolApart's round begins. -/
structure PaInv (w0 : World) (C : TxC) (r p q m s7 s13 : Nat) (bs ns : List UInt8) (sp : Nat) (X : Nat → Prop) (vB vN : Value) (tB tN : List Nat) (W : World) : Prop where
  ap : Ap W C r p q m bs ns sp X vB vN tB tN
  x7 : X s7
  x13 : X s13
  b7 : Blk W s7 (.cells #[.int .i64 C.G.s, .int .i64 C.G.lg, .int .i64 C.G.n] 31 (0, 0))
  b13 : Blk W s13 (.cells #[vB, vN] 51 (0, 0))
  k : Keeps (fun _ => False) w0 W
  lo : ∀ i, X i ∨ KF C i → w0.heap.size ≤ i
section
variable {w w0 w' : World} {C : TxC} {r p q m s7 s13 : Nat} {bs ns : List UInt8} {sp : Nat} {X : Nat → Prop} {vB vN : Value} {tB tN : List Nat}
theorem PaInv.calm (h : PaInv w0 C r p q m s7 s13 bs ns sp X vB vN tB tN w) (k : Keeps (KF C) w w') (h' : Ap w' C r p q m bs ns sp X vB vN tB tN) : PaInv w0 C r p q m s7 s13 bs ns sp X vB vN tB tN w' :=
  ⟨h', h.x7, h.x13, k.blk h.b7 (h.ap.rig.st.notF h.x7), k.blk h.b13 (h.ap.rig.st.notF h.x13), h.k.trans k (fun i hi e => by have := h.lo i (.inr e); omega), h.lo⟩
/-- Behind an act, and its answer stored. -/
theorem PaInv.act (h : PaInv w0 C r p q m s7 s13 bs ns 0 X vB vN tB tN w) (h7 : s7 ≠ s13) (hr : s13 ≠ r ∧ s13 ≠ p ∧ s13 ≠ q) {e : Ending} (hp : ActPost w C r p q m X vB vN e w') :
    ∃ vB' vN' tB' tN' bs' ns' sp' X', e = .returned (.tuple #[.agg #[vB', vN'], .bool true]) ∧ (∃ a b c d, vB' = .slice a tB'.length b ∧ vN' = .slice c tN'.length d) ∧ Blk w' s13 (.cells #[vB, vN] 51 (0, 0)) ∧ Blk w' s7 (.cells #[.int .i64 C.G.s, .int .i64 C.G.lg, .int .i64 C.G.n] 31 (0, 0)) ∧ Keeps (fun i => w0.heap.size ≤ i) w w' ∧
      PaInv w0 C r p q m s7 s13 bs' ns' sp' X' vB' vN' tB' tN' ((w'.setCell ⟨s13, 0, none⟩ vB').setCell ⟨s13, 1, none⟩ vN') := by
  obtain ⟨vB', vN', tB', tN', bs', ns', sp', X', rfl, y1, y2, y3, y4, y5, y6⟩ := hp
  have hno : ∀ {b : Nat} {cs : Array Value} {T : TypeId}, X b → Blk w b (.cells cs T (0, 0)) → T ≠ 3 → ¬ OwnG C vB vN b := fun hb hB hT f => by
    rcases f with f | f | f
    · exact h.ap.rig.st.notF hb f
    · exact own_ne h.ap.kB.row hB hT f
    · exact own_ne h.ap.kN.row hB hT f
  have b13 := y6.blk h.b13 (hno h.x13 h.b13 (by decide))
  have b7 := y6.blk h.b7 (hno h.x7 h.b7 (by decide))
  have kS : Keeps (· = s13) w' ((w'.setCell ⟨s13, 0, none⟩ vB').setCell ⟨s13, 1, none⟩ vN') := ((Keeps.refl (· = s13) w').setCell (p := ⟨s13, 0, none⟩) (.inl rfl) _).setCell (p := ⟨s13, 1, none⟩) (.inl rfl) _
  have bS := (b13.setCell 0 vB').setCell 1 vN'
  simp at bS
  obtain ⟨a, b, eB⟩ := own_shape y1.kB.row
  obtain ⟨c, d, eN⟩ := own_shape y1.kN.row
  have hlow : Keeps (fun i => w0.heap.size ≤ i) w w' := y6.mono fun i _ f => by
    rcases f with f | f | f
    · exact h.lo i (.inr f)
    · exact h.lo i (.inl (h.ap.kB.z i f))
    · exact h.lo i (.inl (h.ap.kN.z i f))
  have hkz := h.k.size
  have hsz := kS.size
  refine ⟨vB', vN', tB', tN', bs', ns', sp', X', rfl, ⟨a, b, c, d, eB, eN⟩, b13, b7, hlow, ⟨y1.grow kS (fun i hi e => ?_) (fun i h => h) (fun i hi => ⟨by have := y1.rig.st.lt i hi; omega, .inl hi⟩), y2 _ h.x7, y2 _ h.x13, kS.blk b7 (fun e => h7 e), bS, ?_, fun i hi => ?_⟩⟩
  · subst e
    exact ⟨y2 _ h.x13, hr.1, hr.2.1, hr.2.2, own_ne y1.kB.row b13 (by decide), own_ne y1.kN.row b13 (by decide)⟩
  · have hx13 := h.lo s13 (.inl h.x13)
    exact (h.k.trans hlow (fun i hi e => by omega)).trans kS (fun i hi e => by omega)
  · rcases hi with hi | hi
    · rcases y3 i hi with hj | hj
      · exact h.lo i (.inl hj)
      · omega
    · exact h.lo i (.inr hi)
end
end Go.Vk

namespace Go.Vk
open Go.RowKit Go.Proofs

theorem PoolSt.kf_lt {w : World} {C : TxC} {bs ns : List UInt8} {sp : Nat} {X : Nat → Prop} (h : PoolSt w C bs ns sp X) {i : Nat} (hi : KF C i) : i < w.heap.size := by
  obtain ⟨M, ⟨own, xc, h1, _⟩, _⟩ := h.rep
  rcases hi with hi | rfl | rfl
  · exact h1.hd.lt i hi
  · exact h1.ht.lt
  · exact h1.hx.hm.lt
set_option maxRecDepth 100000 in
set_option maxHeartbeats 16000000 in
theorem poolApart_w (w : World) (a b c : Int) (va : Value) (acts : List ActR) (hva : ArgActs w va acts) : Calls Tryz.prog 4 #[.agg #[.int .i64 a, .int .i64 b, .int .i64 c], va] w fun e w' => e = .returned (.bool true) ∧ Keeps (fun _ => False) w w' := by
  have hS := fun w => lsuper_w w a b c
  have hF := fun w => fresh_w w a b c
  have hkA : Keeps (fun _ => False) w (w.alloc (.cells #[.int .i64 a, .int .i64 b, .int .i64 c] 23 (0, 0))) := (Keeps.refl _ w).alloc _
  have hg4 := gLog_b b
  have hg5 := gSecs_b a b c
  unfold gLeast at hg5
  obtain ⟨aA, cA, rfl, hcA⟩ := hva
  obtain ⟨n, hn⟩ : ∃ n, acts.length = n := ⟨_, rfl⟩
  rw [hn]
  replace hS := hid hS; replace hF := hid hF; replace hkA := hid hkA; replace hg4 := hid hg4; replace hg5 := hid hg5; replace hcA := hid hcA; replace hn := hid hn
  go_enter Tryz.func4, Tryz.ntmps4
  go_upto_region 4 with (go_at_call 14; refine (hF.out _).mono ?_; rintro e w1 ⟨C, r, p, q, m, X, rfl, g1, g2, g3, hR, hlo, k1⟩; have gA := k1.blk (Blk.new w _) (fun f => f); replace gA := hid gA; replace hR := hid hR; replace hlo := hid hlo; replace k1 := hid (hkA.out.step k1))
  have hsz : ∀ i, X i ∨ KF C i → w.heap.size ≤ i := fun i hi => by have := hlo.out i hi; rw [World.size_alloc] at this; omega
  have a0 := gA.out.cell 0
  have a1 := gA.out.cell 1
  have a2 := gA.out.cell 2
  simp at a0 a1 a2
  have hgeo := hR.out.st.geo
  have hsp : ∀ w, Calls Tryz.prog 15 #[.agg #[.int .i64 C.G.s, .int .i64 C.G.lg, .int .i64 C.G.n], .bool false] w fun e w' => e = .returned (.tuple #[.int .i64 (C.G.data : Nat), .int .i64 (C.G.blocks : Nat)]) ∧ Keeps (fun _ => False) w w' := fun w => by
    have h5 := hg5.out
    have h4 := hg4.out
    exact span_w w C.G hgeo (by rw [g1, g2]; omega) (by rw [g1]; omega) false
  have hSu : ∀ w, Calls Tryz.prog 16 #[.agg #[.int .i64 a, .int .i64 b, .int .i64 c]] w fun e w' => e = .returned (.agg #[.int .i64 C.G.s, .int .i64 C.G.lg, .int .i64 C.G.n]) ∧ Keeps (fun _ => False) w w' := fun w => by rw [g1, g2, g3]; exact hS.out w
  have hss : 3 + C.G.lg ≤ C.G.s ∧ C.G.s ≤ 4096 := by have := hg5.out; have := hg4.out; rw [g1, g2]; omega
  clear hS g1 g2 g3 hg4 hg5 hF hlo
  replace hsz := hid hsz; replace hgeo := hid hgeo; replace hsp := hid hsp; replace hSu := hid hSu; replace hss := hid hss
  go_upto_region 5 with (go_at_call 16; refine (hSu.out _).mono ?_; rintro e w2 ⟨rfl, k2⟩; replace k2 := hid k2)
  have A2 := (Ap.start hR.out).grow (k2.out.alloc (.cells #[.int .i64 C.G.s, .int .i64 C.G.lg, .int .i64 C.G.n] 31 (0, 0))) (fun _ _ f => f.elim) (Y := fun i => X i ∨ i = w2.heap.size) (fun i h => .inl h) (fun i h => by
    have e9 : (w2.alloc (.cells #[.int .i64 C.G.s, .int .i64 C.G.lg, .int .i64 C.G.n] 31 (0, 0))).heap.size = w2.heap.size + 1 := World.size_alloc ..
    have e10 := k2.out.size
    rcases h with h | h
    · have := hR.out.st.lt i h; exact ⟨by omega, .inl h⟩
    · exact ⟨by omega, .inr (by omega)⟩)
  have b2 := Blk.new w2 (.cells #[.int .i64 C.G.s, .int .i64 C.G.lg, .int .i64 C.G.n] 31 (0, 0))
  have kW2 : Keeps (fun _ => False) w _ := k1.out.step (k2.out.alloc (.cells #[.int .i64 C.G.s, .int .i64 C.G.lg, .int .i64 C.G.n] 31 (0, 0)))
  have hlt2 : w.heap.size ≤ w2.heap.size ∧ ∀ i, X i → i < w2.heap.size := ⟨(k1.out.step k2.out).size, fun i hi => (hR.out.quiet k2.out).st.lt i hi⟩
  refine wp_gen (fun W => Ap W C r p q m (onesB C.G.data) (zeros 512) 0 (fun i => X i ∨ i = w2.heap.size) (.slice none 0 0) (.slice none 0 0) [] [] ∧ Blk W w2.heap.size (.cells #[.int .i64 C.G.s, .int .i64 C.G.lg, .int .i64 C.G.n] 31 (0, 0)) ∧ Keeps (fun _ => False) w W) ⟨A2, b2, kW2⟩ ?_
  have hKFlt : ∀ i, KF C i → i < w2.heap.size := fun i hi => (hR.out.quiet k2.out).st.kf_lt hi
  clear A2 b2 kW2 hR k1 k2 gA a0 a1 a2 hSu hkA
  generalize hs7 : w2.heap.size = s7 at *
  clear hs7 w2
  rintro w3 ⟨A3, b3, k3⟩
  have e0 := b3.cell 0
  have e1 := b3.cell 1
  have e2 := b3.cell 2
  simp at e0 e1 e2
  have hL3 : ∀ W, Keeps (fun _ => False) w3 W → Calls Tryz.prog 20 #[.pointer (some ⟨p, 0, none⟩)] W fun e w' => e = .returned (.tuple #[.int .i64 ((C.G.blocks - C.G.data : Nat) : Int), .int .i64 (C.G.n : Int), .int .i64 0]) ∧ Ap w' C r p q m (onesB C.G.data) (zeros 512) 0 (fun i => X i ∨ i = s7) (.slice none 0 0) (.slice none 0 0) [] [] ∧ Keeps (KF C) w3 w' := fun W k => by
    refine (A3.quiet k).left.mono ?_
    rintro e w' ⟨rfl, y1, y2⟩
    exact ⟨rfl, y1, (k.mono fun _ _ f => f.elim).step y2⟩
  have hds : C.G.data ≤ C.G.blocks ∧ C.G.blocks ≤ 2048 ∧ C.G.n ≤ 1024 := by
    have h1 := hgeo.out.b1
    have h2 := hgeo.out.b2
    have h3 := hgeo.out.n2
    unfold Geom.data; omega
  have hA3 := A3
  have hlt3 : s7 < w3.heap.size := b3.lt
  have hKF7 : ¬ KF C s7 := fun e => by have := hKFlt s7 e; omega
  replace A3 := hid A3; replace b3 := hid b3; replace k3 := hid k3; replace hL3 := hid hL3; replace hA3 := hid hA3; replace hlt2 := hid hlt2; replace hKFlt := hid hKFlt
  obtain ⟨hd1, hd2, hd3⟩ := hds
  generalize hqd : C.G.data = qd at *
  generalize hqb : C.G.blocks = qb at *
  go_upto_region 10 with (first
    | (go_at_call 15; refine (hsp.out _).mono ?_; rintro e w4 ⟨rfl, k4⟩; replace k4 := hid k4)
    | (go_at_call 20; refine (hL3.out _ k4.out).mono ?_; rintro e w5 ⟨rfl, A5, k5⟩; have e2' := k5.cellF e2 hKF7; replace A5 := hid A5; replace k5 := hid k5)
    | (go_at_call 19; refine (num_w _ _).mono ?_; rintro e w' ⟨rfl, rfl⟩))
  have hX7 : ∀ i, X i → i < s7 := hlt2.out.2
  have hw7 : w.heap.size ≤ s7 := hlt2.out.1
  have k35 := k5.out.size
  have k6 : Keeps (fun _ => False) w5 (w5.alloc (.cells #[.slice none 0 0, .slice none 0 0] 51 (0, 0))) := (Keeps.refl _ w5).alloc _
  have b7' := k6.blk (k5.out.blk b3.out hKF7) (fun f => f)
  have b13 := Blk.new w5 (.cells #[.slice none 0 0, .slice none 0 0] 51 (0, 0))
  have A6 := A5.out.grow k6 (fun _ _ f => f.elim) (Y := fun i => (X i ∨ i = s7) ∨ i = w5.heap.size) (fun i h => .inl h) (fun i h => by
    have e9 : (w5.alloc (.cells #[.slice none 0 0, .slice none 0 0] 51 (0, 0))).heap.size = w5.heap.size + 1 := World.size_alloc ..
    rcases h with (h | h) | h
    · have := hX7 i h; exact ⟨by omega, .inl (.inl h)⟩
    · exact ⟨by omega, .inl (.inr h)⟩
    · exact ⟨by omega, .inr (by omega)⟩)
  have hI : PaInv w C r p q m s7 w5.heap.size (onesB qd) (zeros 512) 0 (fun i => (X i ∨ i = s7) ∨ i = w5.heap.size) (.slice none 0 0) (.slice none 0 0) [] [] (w5.alloc (.cells #[.slice none 0 0, .slice none 0 0] 51 (0, 0))) :=
    ⟨A6, .inl (.inr rfl), .inr rfl, b7', b13, (k3.out.trans k5.out (fun i hi e => by have := hsz.out i (.inr e); omega)).step k6, fun i hi => by
      rcases hi with ((hi | hi) | hi) | hi
      · exact hsz.out i (.inl hi)
      · omega
      · omega
      · exact hsz.out i (.inr hi)⟩
  have hne7 : s7 ≠ w5.heap.size := by omega
  have hr13 : w5.heap.size ≠ r ∧ w5.heap.size ≠ p ∧ w5.heap.size ≠ q := by
    have h1 := A5.out.rig.hr.lt
    have h2 := A5.out.rig.hp.lt
    have h3 := A5.out.rig.hq.lt
    omega
  refine wp_gen (fun W => ∃ X', PaInv w C r p q m s7 w5.heap.size (onesB qd) (zeros 512) 0 X' (.slice none 0 0) (.slice none 0 0) [] [] W) ⟨_, hI⟩ ?_
  clear hI A6 b13 b7' k6 A5 k5 k4 A3 b3 k3 hL3 hA3 hlt2 hKFlt hX7 hw7 e0 e1 e2 e2' k35 hsz hKF7 hsp hlt3
  generalize w5.heap.size = s13 at *
  clear w5 w4 w3 X
  rintro w6 ⟨X0, hI⟩
  replace hI := hid hI; replace hr13 := hid hr13
  go_wp2
  go_loopw [14] (fun i wr => ∃ k bs ns X vB vN tB tN, k ≤ n ∧ i = .int .i64 (k : Nat) ∧ PaInv w C r p q m s7 s13 bs ns 0 X vB vN tB tN wr) (fun i _ => n - (intOf i).toNat)
  case atStart => exact ⟨0, _, _, _, _, _, _, _, by omega, rfl, hI.out⟩
  case round =>
    obtain ⟨k, bs, ns, X, vB, vN, tB, tN, hk1, rfl, hP⟩ := hrel
    clear hI
    by_cases hlt2 : k < n ∧ k < 400
    · have hkl : k < acts.length := by have := hn.out; omega
      have hki : (k : Int) < n := by omega
      have hk4 : (k : Int) < 400 := by omega
      have hix : 0 ≤ (k : Int) ∧ (k : Int) < (n : Nat) := by omega
      obtain ⟨g, o, eA, hcel⟩ : ∃ g o, aA = some ⟨g, o, none⟩ ∧ w.cell? ⟨g, o + k * 4, none⟩ = some (.bool acts[k].dr) ∧ w.cell? ⟨g, o + k * 4 + 1, none⟩ = some (.bool acts[k].nd) ∧ w.cell? ⟨g, o + k * 4 + 2, none⟩ = some (.bool acts[k].who) ∧ w.cell? ⟨g, o + k * 4 + 3, none⟩ = some (.int .i64 acts[k].at_) := by
        rcases hcA.out with h | ⟨g, o, h1, h2⟩
        · rw [h] at hkl; cases hkl
        · exact ⟨g, o, h1, h2 k hkl⟩
      subst eA
      generalize acts[k] = ak at hcel
      obtain ⟨dr, nd, who, at_⟩ := ak
      dsimp only at hcel
      have c0 := hP.k.cellF hcel.1 (fun f => f)
      have c1 := hP.k.cellF hcel.2.1 (fun f => f)
      have c2 := hP.k.cellF hcel.2.2.1 (fun f => f)
      have c3 := hP.k.cellF hcel.2.2.2 (fun f => f)
      have r3 := hP.ap.rig.hr.cell 3
      simp at r3
      clear hcel
      replace hP := hid hP
      cases who
      case false =>
        go_upto_region 17 with fail
        have hPd : PaInv w C r p q m s7 s13 bs ns 0 X vB vN tB tN wr.drew := hP.out.calm (Keeps.refl _ _).drew (hP.out.ap.quiet (Keeps.refl _ _).drew)
        have hAc := act_w hPd.ap hss.out.1 hss.out.2 p hPd.ap.rig.hp hPd.ap.rig.xp dr nd false at_
        have e70 := hPd.b7.cell 0
        have e71 := hPd.b7.cell 1
        have e72 := hPd.b7.cell 2
        have e130 := hPd.b13.cell 0
        have e131 := hPd.b13.cell 1
        simp at e70 e71 e72 e130 e131
        replace hPd := hid hPd; replace hAc := hid hAc
        go_region_with (first | (go_at_call 21; refine hAc.out.mono ?_; intro e w2 hx; obtain ⟨vB', vN', tB', tN', bs', ns', sp', X', rfl, ⟨a', b', c', d', rfl, rfl⟩, b13, b7, klow, hP2⟩ := PaInv.act hPd.out hne7 hr13.out hx; clear hx; have d0 := b13.cell 0; have d1 := b13.cell 1; have df := b13.frz; simp at d0 d1; replace b13 := hid b13; replace b7 := hid b7; replace klow := hid klow; replace hP2 := hid hP2))
        all_goals
          refine exit_gen (fun W => PaInv w C r p q m s7 s13 bs' ns' sp' X' (.slice a' tB'.length b') (.slice c' tN'.length d') tB' tN' W) hP2.out ?_
          clear hP2 b13 b7 klow d0 d1 df hPd hAc e70 e71 e72 e130 e131 hP r3 c0 c1 c2 c3
          intro w4 hP4
          have hlB := hP4.ap.kB.tl.le
          have hlN := hP4.ap.kN.tl.le
          have hfu := hP4.ap.full
          rw [hqd, hqb] at hfu
          simp only [kHi, kLo, Bool.false_eq_true, if_false, if_true] at hlB hlN
          rw [hqd, hqb] at hlB
          by_cases hsp : sp' = 0
          · subst hsp
            have hL4 := hP4.ap.left
            rw [hqd, hqb] at hL4
            have hS4 : ∀ W, PaInv w C r p q m s7 s13 bs' ns' 0 X' (.slice a' tB'.length b') (.slice c' tN'.length d') tB' tN' W → Calls Tryz.prog 18 #[.pointer (some ⟨C.t, 0, none⟩)] W fun e w' => e = .returned (.int .i64 (0 : Nat)) ∧ PaInv w C r p q m s7 s13 bs' ns' 0 X' (.slice a' tB'.length b') (.slice c' tN'.length d') tB' tN' w' := fun W x => x.ap.state.mono fun e w' y => ⟨y.1, x.calm y.2.2 y.2.1⟩
            clear hfu
            replace hP4 := hid hP4; replace hL4 := hid hL4; replace hS4 := hid hS4
            go_upto_region 24 with (first
              | (go_at_call 20; refine hL4.out.mono ?_; rintro e w5 ⟨rfl, A5, k5⟩; have hP5 := hP4.out.calm k5 A5; have p50 := hP5.ap.rig.hp.cell 0; simp at p50; clear A5 k5; replace hP5 := hid hP5)
              | (go_at_call 18; refine (hS4.out _ hP5.out).mono ?_; rintro e w6 ⟨rfl, hP6⟩; have x72 := hP6.b7.cell 2; have x130 := hP6.b13.cell 0; have x131 := hP6.b13.cell 1; simp at x72 x130 x131; replace hP6 := hid hP6)
              | (go_at_call 19; refine (num_w _ _).mono ?_; rintro e w' ⟨rfl, rfl⟩))
            have hx1 : ((qb - qd - tB'.length : Nat) : Int) = (qb : Int) - (qd : Int) - (tB'.length : Int) := by omega
            have hx2 : ((C.G.n - tN'.length : Nat) : Int) = (C.G.n : Int) - (tN'.length : Int) := by omega
            go_wp2_with (go_at_call 19; refine (num_w _ _).mono ?_; rintro e w' ⟨rfl, rfl⟩)
            exact ⟨⟨k + 1, bs', ns', X', _, _, tB', tN', by omega, by go_num, hP6.out⟩, by simp [intOf]; omega⟩
          · have hL4 := hP4.ap.left_bad hsp
            have hS4 : ∀ W, PaInv w C r p q m s7 s13 bs' ns' sp' X' (.slice a' tB'.length b') (.slice c' tN'.length d') tB' tN' W → Calls Tryz.prog 18 #[.pointer (some ⟨C.t, 0, none⟩)] W fun e w' => e = .returned (.int .i64 (sp' : Nat)) ∧ PaInv w C r p q m s7 s13 bs' ns' sp' X' (.slice a' tB'.length b') (.slice c' tN'.length d') tB' tN' w' := fun W x => x.ap.state.mono fun e w' y => ⟨y.1, x.calm y.2.2 y.2.1⟩
            replace hfu := hfu hsp
            have hspi : ¬ (sp' : Int) = 0 := by omega
            replace hP4 := hid hP4; replace hL4 := hid hL4; replace hS4 := hid hS4; replace hfu := hid hfu
            go_upto_region 23 with (first
              | (go_at_call 20; refine hL4.out.mono ?_; rintro e w5 ⟨rfl, A5, k5⟩; have hP5 := hP4.out.calm k5 A5; have p50 := hP5.ap.rig.hp.cell 0; simp at p50; clear A5 k5; replace hP5 := hid hP5)
              | (go_at_call 18; refine (hS4.out _ hP5.out).mono ?_; rintro e w6 ⟨rfl, hP6⟩; have x72 := hP6.b7.cell 2; have x130 := hP6.b13.cell 0; have x131 := hP6.b13.cell 1; simp at x72 x130 x131; replace hP6 := hid hP6)
              | (go_at_call 19; refine (num_w _ _).mono ?_; rintro e w' ⟨rfl, rfl⟩))
            by_cases hq : (tB'.length : Int) = (qb : Int) - (qd : Int)
            · go_wp2_with (go_at_call 19; refine (num_w _ _).mono ?_; rintro e w' ⟨rfl, rfl⟩)
              go_ret
              exact ⟨rfl, hP6.out.k⟩
            · have hq2 : (tN'.length : Int) = (C.G.n : Int) := by
                rcases hfu.out with ⟨_, h⟩ | ⟨_, h⟩ <;> omega
              go_wp2_with (go_at_call 19; refine (num_w _ _).mono ?_; rintro e w' ⟨rfl, rfl⟩)
              go_ret
              exact ⟨rfl, hP6.out.k⟩
      case true =>
        go_upto_region 17 with fail
        have hPd : PaInv w C r p q m s7 s13 bs ns 0 X vB vN tB tN wr.drew := hP.out.calm (Keeps.refl _ _).drew (hP.out.ap.quiet (Keeps.refl _ _).drew)
        have hAc := act_w hPd.ap hss.out.1 hss.out.2 q hPd.ap.rig.hq hPd.ap.rig.xq dr nd true at_
        have e70 := hPd.b7.cell 0
        have e71 := hPd.b7.cell 1
        have e72 := hPd.b7.cell 2
        have e130 := hPd.b13.cell 0
        have e131 := hPd.b13.cell 1
        simp at e70 e71 e72 e130 e131
        replace hPd := hid hPd; replace hAc := hid hAc
        go_region_with (first | (go_at_call 21; refine hAc.out.mono ?_; intro e w2 hx; obtain ⟨vB', vN', tB', tN', bs', ns', sp', X', rfl, ⟨a', b', c', d', rfl, rfl⟩, b13, b7, klow, hP2⟩ := PaInv.act hPd.out hne7 hr13.out hx; clear hx; have d0 := b13.cell 0; have d1 := b13.cell 1; have df := b13.frz; simp at d0 d1; replace b13 := hid b13; replace b7 := hid b7; replace klow := hid klow; replace hP2 := hid hP2))
        all_goals
          refine exit_gen (fun W => PaInv w C r p q m s7 s13 bs' ns' sp' X' (.slice a' tB'.length b') (.slice c' tN'.length d') tB' tN' W) hP2.out ?_
          clear hP2 b13 b7 klow d0 d1 df hPd hAc e70 e71 e72 e130 e131 hP r3 c0 c1 c2 c3
          intro w4 hP4
          have hlB := hP4.ap.kB.tl.le
          have hlN := hP4.ap.kN.tl.le
          have hfu := hP4.ap.full
          rw [hqd, hqb] at hfu
          simp only [kHi, kLo, Bool.false_eq_true, if_false, if_true] at hlB hlN
          rw [hqd, hqb] at hlB
          by_cases hsp : sp' = 0
          · subst hsp
            have hL4 := hP4.ap.left
            rw [hqd, hqb] at hL4
            have hS4 : ∀ W, PaInv w C r p q m s7 s13 bs' ns' 0 X' (.slice a' tB'.length b') (.slice c' tN'.length d') tB' tN' W → Calls Tryz.prog 18 #[.pointer (some ⟨C.t, 0, none⟩)] W fun e w' => e = .returned (.int .i64 (0 : Nat)) ∧ PaInv w C r p q m s7 s13 bs' ns' 0 X' (.slice a' tB'.length b') (.slice c' tN'.length d') tB' tN' w' := fun W x => x.ap.state.mono fun e w' y => ⟨y.1, x.calm y.2.2 y.2.1⟩
            clear hfu
            replace hP4 := hid hP4; replace hL4 := hid hL4; replace hS4 := hid hS4
            go_upto_region 24 with (first
              | (go_at_call 20; refine hL4.out.mono ?_; rintro e w5 ⟨rfl, A5, k5⟩; have hP5 := hP4.out.calm k5 A5; have p50 := hP5.ap.rig.hp.cell 0; simp at p50; clear A5 k5; replace hP5 := hid hP5)
              | (go_at_call 18; refine (hS4.out _ hP5.out).mono ?_; rintro e w6 ⟨rfl, hP6⟩; have x72 := hP6.b7.cell 2; have x130 := hP6.b13.cell 0; have x131 := hP6.b13.cell 1; simp at x72 x130 x131; replace hP6 := hid hP6)
              | (go_at_call 19; refine (num_w _ _).mono ?_; rintro e w' ⟨rfl, rfl⟩))
            have hx1 : ((qb - qd - tB'.length : Nat) : Int) = (qb : Int) - (qd : Int) - (tB'.length : Int) := by omega
            have hx2 : ((C.G.n - tN'.length : Nat) : Int) = (C.G.n : Int) - (tN'.length : Int) := by omega
            go_wp2_with (go_at_call 19; refine (num_w _ _).mono ?_; rintro e w' ⟨rfl, rfl⟩)
            exact ⟨⟨k + 1, bs', ns', X', _, _, tB', tN', by omega, by go_num, hP6.out⟩, by simp [intOf]; omega⟩
          · have hL4 := hP4.ap.left_bad hsp
            have hS4 : ∀ W, PaInv w C r p q m s7 s13 bs' ns' sp' X' (.slice a' tB'.length b') (.slice c' tN'.length d') tB' tN' W → Calls Tryz.prog 18 #[.pointer (some ⟨C.t, 0, none⟩)] W fun e w' => e = .returned (.int .i64 (sp' : Nat)) ∧ PaInv w C r p q m s7 s13 bs' ns' sp' X' (.slice a' tB'.length b') (.slice c' tN'.length d') tB' tN' w' := fun W x => x.ap.state.mono fun e w' y => ⟨y.1, x.calm y.2.2 y.2.1⟩
            replace hfu := hfu hsp
            have hspi : ¬ (sp' : Int) = 0 := by omega
            replace hP4 := hid hP4; replace hL4 := hid hL4; replace hS4 := hid hS4; replace hfu := hid hfu
            go_upto_region 23 with (first
              | (go_at_call 20; refine hL4.out.mono ?_; rintro e w5 ⟨rfl, A5, k5⟩; have hP5 := hP4.out.calm k5 A5; have p50 := hP5.ap.rig.hp.cell 0; simp at p50; clear A5 k5; replace hP5 := hid hP5)
              | (go_at_call 18; refine (hS4.out _ hP5.out).mono ?_; rintro e w6 ⟨rfl, hP6⟩; have x72 := hP6.b7.cell 2; have x130 := hP6.b13.cell 0; have x131 := hP6.b13.cell 1; simp at x72 x130 x131; replace hP6 := hid hP6)
              | (go_at_call 19; refine (num_w _ _).mono ?_; rintro e w' ⟨rfl, rfl⟩))
            by_cases hq : (tB'.length : Int) = (qb : Int) - (qd : Int)
            · go_wp2_with (go_at_call 19; refine (num_w _ _).mono ?_; rintro e w' ⟨rfl, rfl⟩)
              go_ret
              exact ⟨rfl, hP6.out.k⟩
            · have hq2 : (tN'.length : Int) = (C.G.n : Int) := by
                rcases hfu.out with ⟨_, h⟩ | ⟨_, h⟩ <;> omega
              go_wp2_with (go_at_call 19; refine (num_w _ _).mono ?_; rintro e w' ⟨rfl, rfl⟩)
              go_ret
              exact ⟨rfl, hP6.out.k⟩
    · replace hP := hid hP
      by_cases hkn : k < n
      · have hki : (k : Int) < n := by omega
        have hk4 : ¬ (k : Int) < 400 := by omega
        go_wp2
        go_ret
        exact ⟨rfl, hP.out.k⟩
      · have hki : ¬ (k : Int) < n := by omega
        go_wp2
        go_ret
        exact ⟨rfl, hP.out.k⟩
end Go.Vk

namespace Go.Vk
open Go.ChangeShapes Go.WideShapes Go.RowKit Go.Proofs

theorem list_of {α : Type} (p : Nat → α → Prop) : ∀ n, (∀ i, i < n → ∃ x, p i x) → ∃ l : List α, l.length = n ∧ ∀ i (h : i < l.length), p i l[i]
  | 0, _ => ⟨[], rfl, fun i h => by cases h⟩
  | n + 1, h => by
    obtain ⟨l, h1, h2⟩ := list_of p n (fun i hi => h i (by omega))
    obtain ⟨x, hx⟩ := h n (by omega)
    refine ⟨l ++ [x], by simp [h1], fun i hi => ?_⟩
    rw [List.length_append, h1] at hi
    by_cases e : i < n
    · rw [List.getElem_append_left (by omega)]; exact h2 i (by omega)
    · have : i = n := by simp at hi; omega
      subst this
      rw [List.getElem_append_right (by omega)]
      simpa [h1] using hx
theorem add_add (b off i j : Nat) : ((⟨b, off, none⟩ : Addr).add i).add j = ⟨b, off + i + j, none⟩ := by
  unfold Addr.add
  split <;> split <;> simp_all
  all_goals omega
set_option maxRecDepth 100000 in
theorem open_acts {H : Type} {enc : TypeId × Value → H} {W : World} {base b0 : Nat} {r : Reach} {spare : Nat → Bool} {held : Bool} {v : Value} {d : DataW H} {ps : List MemPlace} (hval : Value.okWide Tryz.prog W r b0 46 v) (h : DataW.Trod enc Tryz.prog W base spare held 46 v d ps) :
    ∃ acts, ArgActs W v acts := by
  obtain ⟨a0, len, cap, rfl⟩ := okWide_slice Tryz.underlying46 hval
  obtain ⟨fuel, hf⟩ := h
  have hc4 : Tryz.prog.cellsOf 53 = 4 := by kernel_rfl
  rcases Go.Deep.open_slice Tryz.underlying46 hf with ⟨hcs, _⟩ | ⟨a, len', cap', m, n, D, Pl, hcs, hb, hl, hm, hmm, _, hx⟩
  · simp [Value.cells] at hcs
    obtain ⟨rfl, rfl, rfl⟩ := hcs
    exact ⟨[], none, 0, rfl, .inl rfl⟩
  · simp [Value.cells] at hcs
    obtain ⟨rfl, rfl, rfl⟩ := hcs
    rw [hc4] at hx
    have hlm : len ≤ m := by rw [hmm]; split <;> omega
    have hone : ∀ i, i < len → ∃ x : ActR, W.cell? ((a.add (i * 4)).add 0) = some (.bool x.dr) ∧ W.cell? ((a.add (i * 4)).add 1) = some (.bool x.nd) ∧ W.cell? ((a.add (i * 4)).add 2) = some (.bool x.who) ∧ W.cell? ((a.add (i * 4)).add 3) = some (.int .i64 x.at_) := by
      intro i hi
      obtain ⟨cs', h1, h2⟩ := hx i (by omega)
      obtain ⟨_, hl4, hcell⟩ := World.cells?_some h1
      obtain ⟨y0, y1, y2, y3, k, _, _, t0, t1, t2, t3⟩ := Go.Joins.trod_struct4 Tryz.underlying53 h2
      have e0 := hcell 0 (by omega)
      have e1 := hcell 1 (by omega)
      have e2 := hcell 2 (by omega)
      have e3 := hcell 3 (by omega)
      match cs', hl4 with
      | [c0, c1, c2, c3], _ =>
        have k1 : Tryz.prog.cellsOf 4 = 1 := by kernel_rfl
        have k3 : Tryz.prog.cellsOf 3 = 1 := by kernel_rfl
        simp only [k1, k3, List.drop_zero, List.take_succ_cons, List.take_zero, List.drop_succ_cons] at t0 t1 t2 t3
        obtain ⟨x0, g0, _⟩ := DataW.trod_bool Tryz.underlying4 t0
        obtain ⟨x1, g1, _⟩ := DataW.trod_bool Tryz.underlying4 t1
        obtain ⟨x2, g2, _⟩ := DataW.trod_bool Tryz.underlying4 t2
        obtain ⟨x3, g3, _⟩ := DataW.trod_int Tryz.underlying3 t3
        simp only [List.cons.injEq, and_true] at g0 g1 g2 g3
        subst g0 g1 g2 g3
        exact ⟨⟨x0, x1, x2, x3⟩, e0, e1, e2, e3⟩
    obtain ⟨acts, hl1, hl2⟩ := list_of _ len hone
    refine ⟨acts, some a, cap, by rw [hl1], ?_⟩
    by_cases hz : len = 0
    · left; exact List.eq_nil_of_length_eq_zero (by omega)
    · right
      obtain ⟨b, off, spot⟩ := a
      have h0 := (hl2 0 (by omega)).1
      have hsp : spot = none := by
        have := World.cell?_spot h0
        simpa [Addr.add] using this
      subst hsp
      refine ⟨b, off, rfl, fun i hi => ?_⟩
      obtain ⟨q0, q1, q2, q3⟩ := hl2 i hi
      rw [add_add] at q0 q1 q2 q3
      exact ⟨q0, q1, q2, q3⟩
end Go.Vk
