/- The walk of pack of package store: a record's bytes. The walk of changed of a transaction: what it put that differs from what is committed. A transaction and its store together, where all is well: what each step of Commit does to them. What a transaction's end leaves; the loop of Commit that lays its blocks into the overlay. Commit's middle: what holds from the list of what changed to the end. The walk of Commit of a transaction, where all is well. -/
import Derived.Test.YtceodjgajkimnaaGreatNG
import Derived.Test.YtceodjgajkimnaaGreatMV
import Derived.Test.YtceodjgajkimnaaGreatNJ
set_option linter.unusedVariables false

namespace Go.Vk
open Go.RowKit Go.Proofs

/-- The head of a record: how many blocks, and the first k of their numbers. -/
def headB (ks : List Nat) (k : Nat) : List UInt8 := leBytes ks.length 2 ++ (ks.take k).flatMap (fun b => leBytes b 4)
/-- The record with the first k of its contents. -/
def bodyB (ks : List Nat) (ov : Nat → Option (List UInt8)) (k : Nat) : List UInt8 := headB ks ks.length ++ (ks.take k).flatMap (fun b => (ov b).getD [])
def packB (ks : List Nat) (ov : Nat → Option (List UInt8)) : List UInt8 := bodyB ks ov ks.length
theorem headB_snoc (ks : List Nat) (k : Nat) (h : k < ks.length) : headB ks (k + 1) = headB ks k ++ leBytes ks[k] 4 := by
  unfold headB
  rw [List.take_add_one, List.getElem?_eq_getElem h, Option.toList_some, List.flatMap_append, List.flatMap_singleton, List.append_assoc]
theorem bodyB_snoc (ks : List Nat) (ov : Nat → Option (List UInt8)) (k : Nat) (h : k < ks.length) : bodyB ks ov (k + 1) = bodyB ks ov k ++ (ov ks[k]).getD [] := by
  unfold bodyB
  rw [List.take_add_one, List.getElem?_eq_getElem h, Option.toList_some, List.flatMap_append, List.flatMap_singleton, List.append_assoc]
theorem headB_len (ks : List Nat) : ∀ k, k ≤ ks.length → (headB ks k).length = 2 + 4 * k
  | 0, _ => by simp [headB, length_leBytes]
  | k + 1, h => by
    rw [headB_snoc ks k (by omega), List.length_append, headB_len ks k (by omega), length_leBytes]; omega
theorem bodyB_len (ks : List Nat) (ov : Nat → Option (List UInt8)) (hov : ∀ b ∈ ks, ((ov b).getD []).length = 512) : ∀ k, k ≤ ks.length → (bodyB ks ov k).length = 2 + 4 * ks.length + 512 * k
  | 0, _ => by simp [bodyB, headB_len]
  | k + 1, h => by
    rw [bodyB_snoc ks ov k (by omega), List.length_append, bodyB_len ks ov hov k (by omega), hov _ (List.getElem_mem _)]; omega
structure PkRel (w2 : World) (v : Value) (xs : List UInt8) (wr : World) : Prop where
  row : wr.ownsRow w2.heap.size 5 1 v xs.length (xs.map B)
  k : Keeps (fun _ => False) w2 wr
theorem PkRel.step {w2 wr w1 w3 : World} {v : Value} {xs ys : List UInt8} {g' cap' m : Nat} (h : PkRel w2 v xs wr) (k1 : Keeps (fun _ => False) wr w1) (hm : m = ys.length) (hrow : w3.ownsRow 0 5 1 (.slice (some ⟨g', 0, none⟩) (xs.length + m) cap') (xs.length + m) (xs.map B ++ ys.map B))
    (hgr : w1.grownBy w3 v.ownBlock) (hor : v.ownBlock = some g' ∧ w3.heap.size = w1.heap.size ∨ g' = w1.heap.size) : PkRel w2 (.slice (some ⟨g', 0, none⟩) (xs.length + m) cap') (xs ++ ys) w3 := by
  subst hm
  have hlo : ∀ g, v.ownBlock = some g → w2.heap.size ≤ g := fun g e => by
    rcases h.row.2 with ⟨rfl, _⟩ | ⟨g1, cap, cur, rfl, hb, _⟩
    · cases e
    · have : g1 = g := Option.some.inj e
      omega
  have s1 := h.k.size
  have s2 := k1.size
  refine ⟨?_, (h.k.step k1).grown hgr (fun g e => .inr (hlo g e))⟩
  have := own_hi (lo' := w2.heap.size) hrow (by rcases hor with ⟨e, _⟩ | e; exact hlo g' e; omega)
  simpa using this
theorem pkStart (w2 : World) (a b : UInt8) : PkRel w2 (.slice (some ⟨w2.heap.size, 0, none⟩) 2 2) [a, b] (w2.alloc (.cells #[B a, B b] 5 (0, 0))) := by
  refine ⟨⟨rfl, .inr ⟨w2.heap.size, 2, #[B a, B b], rfl, Nat.le_refl _, Blk.new _ _, Nat.le_refl 2, by unfold maxLen; decide, rfl, rfl⟩⟩, (Keeps.refl _ _).alloc _⟩
section
variable {w : World} {m clock : Nat} {es : List OEnt}
theorem cells_new (wr : World) (T : TypeId) (l : List Value) : ∀ j u, l[j]? = some u → (wr.alloc (.cells l.toArray T (0, 0))).cell? ((⟨wr.heap.size, 0, none⟩ : Addr).add j) = some u := fun j u hj => by
  rw [Addr.add_lit, (Blk.new wr (.cells l.toArray T (0, 0))).cell, Nat.zero_add]
  simpa using hj
def PackPost (w : World) (es : List OEnt) (e : Ending) (w' : World) : Prop := ∃ g cap ks, e = .returned (.slice (some ⟨g, 0, none⟩) (packB ks (ovOf es)).length cap) ∧ (packB ks (ovOf es)).length ≤ cap ∧ ks.Perm (es.map (·.key)) ∧ (packB ks (ovOf es)).length = 2 + 516 * es.length ∧ w.heap.size ≤ g ∧ g < w'.heap.size ∧ (∀ j (hj : j < (packB ks (ovOf es)).length), w'.cell? ⟨g, j, none⟩ = some (B (packB ks (ovOf es))[j])) ∧ Keeps (fun _ => False) w w'
theorem pack_fin {w2 W : World} {v : Value} {ks : List Nat} (k2 : Keeps (fun _ => False) w w2) (hp : ks.Perm (es.map (·.key))) (hl : ∀ e ∈ es, e.data.length = 512) (hR : PkRel w2 v (bodyB ks (ovOf es) ks.length) W) : PackPost w es (.returned v) W := by
  have hkl := hp.length_eq
  rw [List.length_map] at hkl
  have hov : ∀ b ∈ ks, ((ovOf es b).getD []).length = 512 := fun b hb => by
    obtain ⟨e, he, hke⟩ := List.mem_map.1 (hp.mem_iff.1 hb)
    cases hf : es.find? (·.key == b) with
    | none => have := List.find?_eq_none.1 hf e he; simp [hke] at this
    | some q => rw [ovOf_some hf]; exact hl q (List.mem_of_find?_eq_some hf)
  have hlen := bodyB_len ks (ovOf es) hov ks.length (Nat.le_refl _)
  have hle : (packB ks (ovOf es)).length = 2 + 516 * es.length := by unfold packB; rw [hlen, hkl]; omega
  rcases hR.row.2 with ⟨_, h0⟩ | ⟨g, cap, cur, rfl, hb, hh, hn, rest⟩
  · rw [hlen] at h0; omega
  · refine ⟨g, cap, ks, rfl, hn, hp, hle, Nat.le_trans k2.size hb, ?_, fun j hj => ?_, k2.step hR.k⟩
    · exact (Array.getElem?_eq_some_iff.1 hh).1
    · exact own_cell hR.row j (B (packB ks (ovOf es))[j]) (by rw [List.getElem?_map]; unfold packB at hj ⊢; rw [List.getElem?_eq_getElem hj]; rfl)
set_option maxRecDepth 100000 in
set_option maxHeartbeats 4000000 in
theorem pack_w (h : MapAt w m es clock) (h1 : 1 ≤ es.length) (hl : es.length ≤ 16) (hkb : ∀ e ∈ es, e.key < 65536) : Calls Tryz.prog 69 #[.map (some m)] w (PackPost w es) := by
  obtain ⟨i0, hi, hz0, hz1, hz2⟩ := info_parts info5
  have hNum := numbers_w h (by omega)
  have hfin := fun w2 W v ks k2 hp hR => pack_fin (w := w) (w2 := w2) (W := W) (v := v) (ks := ks) (es := es) k2 hp (fun e he => (h.ok e he).len) hR
  unfold NumPost at hNum
  generalize hPost : PackPost w es = Post at *
  replace h := hid h; replace hi := hid hi; replace hz0 := hid hz0; replace hz1 := hid hz1; replace hz2 := hid hz2; replace hNum := hid hNum; replace hfin := hid hfin; replace hkb := hid hkb; replace hPost := hid hPost
  go_enter Tryz.func69, Tryz.ntmps69
  go_upto_region 2 with (go_at_call 120; refine hNum.out.mono ?_; rintro e w2 ⟨v, ks, rfl, hrow, hlo, hp, k2⟩; obtain ⟨av, nv, cv, hv⟩ : ∃ a n c, v = .slice a n c := (by obtain ⟨a, c, e⟩ := own_shape hrow; exact ⟨a, _, c, e⟩); replace hrow := hid hrow; replace hlo := hid hlo; replace hp := hid hp; replace k2 := hid k2; subst hv)
  have hkk : ks.length = es.length := by
    have h1 := hp.out.length_eq
    rw [List.length_map] at h1
    exact h1
  rcases hrow.out.shape with ⟨_, rfl⟩ | ⟨gk, ck, hsl, _, _, hcs⟩
  · exact absurd hkk (by simp; omega)
  · obtain ⟨hsa, hsn, hsc⟩ : av = some ⟨gk, 0, none⟩ ∧ nv = ks.length ∧ cv = ck := by injection hsl with e1 e2 e3; exact ⟨e1, e2, e3⟩
    subst hsa hsc
    obtain ⟨n, hn⟩ : ∃ n, ks.length = n := ⟨_, rfl⟩
    rw [hn] at hsn
    subst hsn
    have hnv : nv ≤ 16 ∧ ks.length ≤ 16 := by omega
    have hmem : ∀ k (hk : k < ks.length), ks[k] < 65536 ∧ ∃ e, es.find? (·.key == ks[k]) = some e := fun k hk => by
      obtain ⟨e, he, hke⟩ := List.mem_map.1 (hp.out.mem_iff.1 (List.getElem_mem hk))
      refine ⟨by rw [← hke]; exact hkb.out e he, ?_⟩
      cases hq : es.find? (·.key == ks[k]) with
      | some e => exact ⟨e, rfl⟩
      | none => have := List.find?_eq_none.1 hq e he; simp [hke] at this
    have hb1 : IntKind.u8.wrap ((nv : Nat) : Int) = ((leByte nv 0).toNat : Nat) := by rw [leByte_toNat, IntKind.wrap_u8']; simp
    have hb2 : IntKind.u8.wrap (((nv : Nat) : Int) / 256) = ((leByte nv 1).toNat : Nat) := by rw [leByte_toNat, IntKind.wrap_u8']; omega
    have hst : PkRel w2 (.slice (some ⟨w2.heap.size, 0, none⟩) 2 2) (headB ks 0) (w2.alloc (.cells #[B (leByte nv 0), B (leByte nv 1)] 5 (0, 0))) := by
      have e : headB ks 0 = [leByte nv 0, leByte nv 1] := by unfold headB; rw [hn]; rfl
      rw [e]; exact pkStart _ _ _
    have hbl := bodyB_len ks (ovOf es) (fun b hb => by
      obtain ⟨j, hj, e⟩ := List.getElem_of_mem hb
      obtain ⟨_, q, hq⟩ := hmem j hj
      rw [e] at hq
      rw [ovOf_some hq]; exact (h.out.ok q (List.mem_of_find?_eq_some hq)).len)
    have hfn := fun W v => hfin.out w2 W v ks k2.out hp.out
    have hM2 : ∀ W, Keeps (fun _ => False) w2 W → MapAt W m es clock := fun W k => h.out.keeps (k2.out.step k) (fun _ _ f => f)
    unfold B at hst
    clear hfin hsl
    replace hst := hid hst; replace hfn := hid hfn; replace hM2 := hid hM2; replace hbl := hid hbl; replace hmem := hid hmem; replace hrow := hid hrow; replace hlo := hid hlo; replace hp := hid hp; replace k2 := hid k2; replace hn := hid hn; replace hkk := hid hkk; replace hcs := hid hcs
    go_wp2
    go_loopw [4, 21] (fun v i wr => ∃ k : Nat, k ≤ nv ∧ i = .int .i64 k ∧ PkRel w2 v (headB ks k) wr) (fun _ i _ => nv - (RowKit.intOf i).toNat)
    case atStart => exact ⟨0, by omega, rfl, hst.out⟩
    case round =>
      obtain ⟨k, hk1, rfl, hR⟩ := hrel
      clear hst
      by_cases hkc : k < nv
      · have hki : (k : Int) < nv := by omega
        have hix : 0 ≤ (k : Int) ∧ (k : Int) < (nv : Nat) := by omega
        have hkl : k < ks.length := by rw [hn.out]; exact hkc
        have hck := hR.k.cellF (hcs.out k hkl) (fun f => f)
        have hsn := headB_snoc ks k hkl
        have hln := headB_len ks k (by omega)
        have hbd := (hmem.out k hkl).1
        generalize ks[k] = b at *
        have hw0 : IntKind.u8.wrap ((b : Nat) : Int) = ((leByte b 0).toNat : Nat) := by rw [leByte_toNat, IntKind.wrap_u8']; simp
        have hw1 : IntKind.u8.wrap (((b : Nat) : Int) / 256) = ((leByte b 1).toNat : Nat) := by rw [leByte_toNat, IntKind.wrap_u8']; omega
        have hw2 : IntKind.u8.wrap (((b : Nat) : Int) / 65536) = ((leByte b 2).toNat : Nat) := by rw [leByte_toNat, IntKind.wrap_u8']; omega
        have hw3 : IntKind.u8.wrap (((b : Nat) : Int) / 16777216) = ((leByte b 3).toNat : Nat) := by rw [leByte_toNat, IntKind.wrap_u8']; omega
        have hstep := fun w3 g' cap' => hR.step (w1 := wr.alloc (.cells #[B (leByte b 0), B (leByte b 1), B (leByte b 2), B (leByte b 3)] 5 (0, 0))) (w3 := w3) (ys := leBytes b 4) (g' := g') (cap' := cap') (m := 4) ((Keeps.refl _ _).alloc _) (by rw [length_leBytes])
        rw [← hsn] at hstep
        have hrow1 := own_lo (lo' := 0) hR.row (Nat.zero_le _)
        have hys : (leBytes b 4).map B = [B (leByte b 0), B (leByte b 1), B (leByte b 2), B (leByte b 3)] := rfl
        rw [hys] at hstep
        have hbn : (headB ks k).length ≤ 66 := by omega
        generalize (headB ks k).length = hlx at *
        generalize headB ks k = cur at *
        generalize hc2 : headB ks (k + 1) = cur2 at *
        replace hc2 := hid hc2
        generalize leByte b 0 = y0 at *
        generalize leByte b 1 = y1 at *
        generalize leByte b 2 = y2 at *
        generalize leByte b 3 = y3 at *
        clear hys hcs hmem hsn hln
        unfold B at hstep
        replace hR := hid hR; replace hstep := hid hstep
        go_wp2_with (at_builtin; refine wpList_appendV rfl _ _ 57 rfl 5 i0 (.int .u8 0) 1 1 und22 hi.out hz0.out hz1.out hz2.out rfl (by decide) _ _ _ rfl (hrow1.alloc _) ⟨wr.heap.size, 0, none⟩ 4 4 [.int .u8 (y0.toNat : Nat), .int .u8 (y1.toNat : Nat), .int .u8 (y2.toNat : Nat), .int .u8 (y3.toNat : Nat)] rfl rfl ?c1 ?c2 (by omega) ?c3 ?c4 ?_)
        case c1 =>
          exact cells_new _ _ _
        case c2 => intro u hu; simp at hu; rcases hu with rfl | rfl | rfl | rfl <;> rfl
        case c3 => unfold maxLen; omega
        case c4 => omega
        intro g' cap' w3 hrow3 hgr3 hor
        have hF := hstep.out w3 g' cap' hrow3 hgr3 (by rw [World.size_alloc]; exact hor)
        clear hrow3 hgr3 hor hrow1
        replace hF := hid hF
        go_wp2
        exact ⟨⟨k + 1, by omega, by go_num, by rw [hc2.out]; exact hF.out⟩, by simp [RowKit.intOf]; omega⟩
      · have hki : ¬ (k : Int) < nv := by omega
        have hke : k = ks.length := by rw [hn.out]; omega
        have e0 : headB ks k = bodyB ks (ovOf es) 0 := by rw [hke]; simp [bodyB]
        have hR0 := hR
        rw [e0] at hR0
        clear hR hke e0
        replace hR0 := hid hR0
        go_wp2
        go_loopw [4, 42] (fun v i wr => ∃ k : Nat, k ≤ nv ∧ i = .int .i64 k ∧ PkRel w2 v (bodyB ks (ovOf es) k) wr) (fun _ i _ => nv - (RowKit.intOf i).toNat)
        case atStart => exact ⟨0, by omega, rfl, hR0.out⟩
        case round =>
          clear hki hR0
          obtain ⟨k, hk1, rfl, hR⟩ := hrel
          by_cases hkc : k < nv
          · have hki : (k : Int) < nv := by omega
            have hix : 0 ≤ (k : Int) ∧ (k : Int) < (nv : Nat) := by omega
            have hkl : k < ks.length := by rw [hn.out]; exact hkc
            have hck := hR.k.cellF (hcs.out k hkl) (fun f => f)
            obtain ⟨hbd, e, hf⟩ := hmem.out k hkl
            have hM := hM2.out wr hR.k
            have hlk := hM.look1 hf
            have hoe := hM.ok e (List.mem_of_find?_eq_some hf)
            have hsn := bodyB_snoc ks (ovOf es) k hkl
            rw [ovOf_some hf] at hsn
            have hln := hbl.out k (by omega)
            generalize ks[k] = b at *
            have hstep := fun w3 g' cap' => hR.step (w1 := wr) (w3 := w3) (ys := e.data) (g' := g') (cap' := cap') (m := 512) (Keeps.refl _ _) hoe.len.symm
            rw [show (some e.data).getD [] = e.data from rfl] at hsn
            rw [← hsn] at hstep
            have hrow1 := own_lo (lo' := 0) hR.row (Nat.zero_le _)
            have hnews : ∀ (j : Nat) (u : Value), (e.data.map B)[j]? = some u → wr.cell? ((⟨e.blk, 0, none⟩ : Addr).add j) = some u := by
              have := bytesT_range (T := 5) hoe.blk 0 512
              rw [List.drop_zero, List.take_left' hoe.len] at this
              exact this
            have hnl : (e.data.map B).length = 512 * 1 := by rw [List.length_map, hoe.len]
            have hn1 : ∀ u ∈ e.data.map B, u.oneCell' = true := B_one _
            have hbn : (bodyB ks (ovOf es) k).length ≤ 9000 := by omega
            unfold OEnt.val at hlk
            generalize (bodyB ks (ovOf es) k).length = hlx at *
            generalize bodyB ks (ovOf es) k = cur at *
            generalize hc2 : bodyB ks (ovOf es) (k + 1) = cur2 at *
            replace hc2 := hid hc2
            generalize e.data.map B = news at *
            generalize e.cap = ec at *
            generalize e.blk = eb at *
            clear hcs hmem hsn hln hoe hM
            replace hR := hid hR; replace hstep := hid hstep; replace hnews := hid hnews; replace hnl := hid hnl; replace hn1 := hid hn1; replace hf := hid hf
            go_wp2_with (at_builtin; refine wpList_appendV rfl _ _ 57 rfl 5 i0 (.int .u8 0) 1 1 und22 hi.out hz0.out hz1.out hz2.out rfl (by decide) _ _ _ rfl hrow1 ⟨eb, 0, none⟩ 512 ec news rfl hnl.out hnews.out hn1.out (by omega) ?c3 ?c4 ?_)
            case c3 => unfold maxLen; omega
            case c4 => omega
            intro g' cap' w3 hrow3 hgr3 hor
            have hF := hstep.out w3 g' cap' hrow3 hgr3 hor
            clear hrow3 hgr3 hor hrow1
            replace hF := hid hF
            go_wp2
            exact ⟨⟨k + 1, by omega, by go_num, by rw [hc2.out]; exact hF.out⟩, by simp [RowKit.intOf]; omega⟩
          · have hki : ¬ (k : Int) < nv := by omega
            have hke : k = ks.length := by rw [hn.out]; omega
            rw [hke] at hR
            have hF := hfn.out _ _ hR
            clear hke
            replace hF := hid hF; replace hR := hid hR
            go_wp2
            exact hF.out
end
end Go.Vk

namespace Go.Vk
open Go.RowKit Go.Proofs

def chOv (D : DM) (ov own : Nat → Option (List UInt8)) (home k : Nat) : Option (List UInt8) := (own k).bind fun x => if cmtB D ov home k = x then none else some x
theorem cmtB_readedN (D : DM) (ov : Nat → Option (List UInt8)) (home k j : Nat) : cmtB (D.readedN j) ov home k = cmtB D ov home k := by unfold cmtB; rw [readedN_now]
theorem rest_keys {l : List Ent} {seen : Array Nat} {x : Ent} (hx : x ∈ restOf l seen) (hk : (l.map (·.1)).Nodup) (hb : (l.map (·.2.2)).Nodup) (k : Nat) : k ∈ (restOf l (seen.push x.2.2)).map (·.1) ↔ k ∈ (restOf l seen).map (·.1) ∧ k ≠ x.1 := by
  rw [restOf_push]
  constructor
  · intro h
    obtain ⟨y, hy, rfl⟩ := List.mem_map.1 h
    obtain ⟨h1, h2⟩ := List.mem_filter.1 hy
    refine ⟨List.mem_map.2 ⟨y, h1, rfl⟩, fun e => ?_⟩
    rw [nodup_map_inj hk (mem_restOf h1).1 (mem_restOf hx).1 e] at h2
    simp at h2
  · rintro ⟨h, hne⟩
    obtain ⟨y, hy, rfl⟩ := List.mem_map.1 h
    refine List.mem_map.2 ⟨y, List.mem_filter.2 ⟨hy, ?_⟩, rfl⟩
    by_cases e : y.2.2 = x.2.2
    · exact absurd (congrArg (·.1) (nodup_map_inj hb (mem_restOf hy).1 (mem_restOf hx).1 e)) hne
    · simpa using e
def FromOwn (own lst : List OEnt) : Prop := ∀ e ∈ lst, ∃ q ∈ own, q.key = e.key ∧ q.blk = e.blk ∧ q.cap = e.cap ∧ q.data = e.data
structure ChRel (w : World) (C : TxC) (D : DM) (own : List OEnt) (xc r ml : Nat) (lst : List OEnt) (lc : Nat) (seen : Array Nat) (D' : DM) (wr : World) : Prop where
  hr : Blk wr r (iterO C.mx xc seen)
  hm : MapAt wr ml lst lc
  hd : DiskRep wr C.d D' C.F
  k : Keeps (· ∈ C.F) w wr
  hj : ∃ j, D' = D.readedN j
  sub : FromOwn own lst
  len : lst.length + (restOf (own.map OEnt.ent) seen).length ≤ own.length
  val : ∀ k, ovOf lst k = if k ∈ (restOf (own.map OEnt.ent) seen).map (·.1) then none else chOv D (ovOf C.ov) (ovOf own) C.G.home k
def ChPost (w : World) (C : TxC) (D : DM) (own : List OEnt) (e : Ending) (w' : World) : Prop :=
  ∃ ml lst lc j, e = .returned (.tuple #[.map (some ml), .int .i64 0]) ∧ w.heap.size ≤ ml ∧ MapAt w' ml lst lc ∧ (∀ k, ovOf lst k = chOv D (ovOf C.ov) (ovOf own) C.G.home k) ∧ FromOwn own lst ∧ lst.length ≤ own.length ∧ DiskRep w' C.d (D.readedN j) C.F ∧ Keeps (· ∈ C.F) w w'
section
variable {w : World} {C : TxC} {D : DM} {own : List OEnt} {xc sp : Nat} {X : Nat → Prop} {en : Bool}
theorem ChRel.done {r ml lc : Nat} {lst : List OEnt} {seen : Array Nat} {D' : DM} {wr : World} (h : ChRel w C D own xc r ml lst lc seen D' wr) (hml : w.heap.size ≤ ml) (hd : restOf (own.map OEnt.ent) seen = []) : ChPost w C D own (.returned (.tuple #[.map (some ml), .int .i64 0])) wr := by
  obtain ⟨j, rfl⟩ := h.hj
  have hl := h.len
  refine ⟨ml, lst, lc, j, rfl, hml, h.hm, fun k => ?_, h.sub, ?_, h.hd, h.k⟩
  · rw [h.val k, hd, if_neg (by simp)]
  · rw [hd] at hl; simpa using hl
theorem FromOwn.put {lst : List OEnt} (h : FromOwn own lst) {q : OEnt} (hq : q ∈ own) (lc : Nat) : FromOwn own (putE lst lc q.key q.blk q.cap q.data) := fun e he => by
  rcases putE_mem he with h1 | ⟨h1, h2, h3, h4, _⟩
  · exact h e h1
  · exact ⟨q, hq, h1.symm, h2.symm, h3.symm, h4.symm⟩
/-- What a look at one entry comes to. -/
def ChLook (w : World) (C : TxC) (D : DM) (own : List OEnt) (xc r ml : Nat) (lst : List OEnt) (lc : Nat) (seen : Array Nat) (q : OEnt) (e : Ending) (w2 : World) : Prop :=
  ∃ g kk, e = .returned (.tuple #[.slice (some ⟨g, 0, none⟩) 512 (512 + kk), .int .i64 0]) ∧
    (Calls Tryz.prog 118 #[.slice (some ⟨g, 0, none⟩) 512 (512 + kk), .slice (some ⟨q.blk, 0, none⟩) 512 q.cap] w2 fun e w3 => e = .returned (.bool (decide (cmtB D (ovOf C.ov) C.G.home q.key = q.data))) ∧ w2 = w3) ∧
    (cmtB D (ovOf C.ov) C.G.home q.key = q.data → ∃ D2, ChRel w C D own xc r ml lst lc (seen.push q.born) D2 w2) ∧
    (cmtB D (ovOf C.ov) C.G.home q.key ≠ q.data → ∃ w3 l2 c2 D2, (Instr.mapUpdate 104 (.map (some ml)) (.int .i64 q.key) (.slice (some ⟨q.blk, 0, none⟩) 512 q.cap)).run Tryz.prog w2 = .ok () w3 ∧ ChRel w C D own xc r ml l2 c2 (seen.push q.born) D2 w3)
theorem ChRel.look (h : TxAt w C D own xc sp en X) (hb : D.burnt = false) {r ml lc : Nat} {lst : List OEnt} {seen : Array Nat} {D' : DM} {wr w' : World} (hR : ChRel w C D own xc r ml lst lc seen D' wr) (hml : w.heap.size ≤ ml) (hrr : w.heap.size ≤ r) (hrm : r ≠ ml)
    {q : OEnt} (hq : q.ent ∈ restOf (own.map OEnt.ent) seen) (hqo : q ∈ own) (hr' : Blk w' r (iterO C.mx xc (seen.push q.born))) (hk' : Keeps (· = r) wr w') :
    w'.cell? ⟨C.t, 0, none⟩ = some (.pointer (some ⟨C.sb, 0, none⟩)) ∧ Calls Tryz.prog 102 #[.pointer (some ⟨C.sb, 0, none⟩), .int .i64 q.key] w' (ChLook w C D own xc r ml lst lc seen q) := by
  obtain ⟨j, hj⟩ := hR.hj
  have hFl := h.hd.lt
  have hrF : r ∉ C.F := fun e => by have := hFl r e; omega
  have hmF : ml ∉ C.F := fun e => by have := hFl ml e; omega
  have K : Keeps (· ∈ C.F) w w' := hR.k.trans hk' (fun i hi e => by subst e; omega)
  have ht := K.blk h.ht h.tF
  have hs := K.blk h.hs h.sF
  have ho := h.ho.keeps K h.oF
  have hd : DiskRep w' C.d D' C.F := hR.hd.keeps hk' (fun i hi e => hrF (e ▸ hi))
  have hlt : ∀ i ∈ mapFoot ml lst, i = ml ∨ (i < w.heap.size ∧ i ∉ C.F) := fun i hi => by
    simp only [mapFoot, List.mem_cons, List.mem_map] at hi
    rcases hi with rfl | ⟨e, he, rfl⟩
    · exact .inl rfl
    · obtain ⟨p, hp, _, hpb, _⟩ := hR.sub e he
      have hx : p.blk ∈ mapFoot C.mx own := by simp [mapFoot]; exact .inr ⟨p, hp, rfl⟩
      rw [hpb] at hx
      exact .inr ⟨h.hx.lt _ hx, h.xF _ hx⟩
  have hm : MapAt w' ml lst lc := hR.hm.keeps hk' (fun i hi e => by
    rcases hlt i hi with x | x
    · exact hrm (e.symm.trans x)
    · omega)
  have c0 := ht.cell 0
  simp at c0
  have hnj : D'.n = D.n := by rw [hj]; exact readedN_n _ _
  have hbj : D'.burnt = false := by rw [hj, readedN_burnt]; exact hb
  have hkb := h.kb q hqo
  have hgn := h.gn
  refine ⟨c0, (committed_w hs hd ho hbj q.key hkb (by omega) (by rw [hnj]; exact h.n2) h.sF).mono ?_⟩
  rintro e w2 ⟨g, kk, rfl, hg, hB, hD2, k2⟩
  rw [hj, cmtB_readedN] at hB
  have K2 : Keeps (· ∈ C.F) w w2 := K.step k2
  have hx2 := h.hx.keeps K2 h.xF
  have hqk := hx2.ok q hqo
  have hm2 : MapAt w2 ml lst lc := hm.keeps k2 (fun i hi e => by
    rcases hlt i hi with x | x
    · exact hmF (x ▸ e)
    · exact x.2 e)
  have hr2 : Blk w2 r (iterO C.mx xc (seen.push q.born)) := k2.blk hr' hrF
  have hj2 : ∃ i, cmtD D' (ovOf C.ov) q.key = D.readedN i := by
    unfold cmtD
    split
    · exact ⟨j, hj⟩
    · exact ⟨j + 1, by rw [hj]; rfl⟩
  have hcl : (cmtB D (ovOf C.ov) C.G.home q.key).length = 512 := by
    unfold cmtB
    cases hf' : C.ov.find? (·.key == q.key) with
    | some e => rw [ovOf_some hf']; exact (h.ho.ok e (List.mem_of_find?_eq_some hf')).len
    | none => rw [ovOf_none hf']; exact h.hd.now_length _ (by omega)
  have hkn : ((own.map OEnt.ent).map (·.1)).Nodup := by simpa [List.map_map, Function.comp_def, OEnt.ent] using h.hx.keys
  have hbn : ((own.map OEnt.ent).map (·.2.2)).Nodup := by simpa [List.map_map, Function.comp_def, OEnt.ent] using h.hx.borns
  have hrest : ∀ k, k ∈ (restOf (own.map OEnt.ent) (seen.push q.born)).map (·.1) ↔ k ∈ (restOf (own.map OEnt.ent) seen).map (·.1) ∧ k ≠ q.key := rest_keys hq hkn hbn
  have hlen := restOf_lt hq
  have hqin : q.key ∈ (restOf (own.map OEnt.ent) seen).map (·.1) := List.mem_map.2 ⟨_, hq, rfl⟩
  have hown : ovOf own q.key = some q.data := by
    refine ovOf_some (e := q) ?_
    cases hf : own.find? (·.key == q.key) with
    | none => have := List.find?_eq_none.1 hf q hqo; simp at this
    | some p => rw [nodup_map_inj h.hx.keys (List.mem_of_find?_eq_some hf) hqo (by simpa using List.find?_some hf)]
  have hch : chOv D (ovOf C.ov) (ovOf own) C.G.home q.key = if cmtB D (ovOf C.ov) C.G.home q.key = q.data then none else some q.data := by
    unfold chOv; rw [hown]; rfl
  refine ⟨g, kk, rfl, ?_, fun heq => ?_, fun hne => ?_⟩
  · refine (equal_w w2 g 0 512 (512 + kk) q.blk 0 512 q.cap _ _ hB hqk.blk (by rw [List.length_append]; omega) (by rw [List.length_append, hqk.len]; omega)).mono ?_
    rintro e w3 ⟨rfl, rfl⟩
    rw [List.drop_zero, List.take_left' hcl, List.drop_zero, List.take_left' hqk.len]
    exact ⟨rfl, rfl⟩
  · refine ⟨_, hr2, hm2, hD2, K2, hj2, hR.sub, ?_, fun k => ?_⟩
    · have h1 := hR.len
      have h2 : (restOf (own.map OEnt.ent) (seen.push q.born)).length < (restOf (own.map OEnt.ent) seen).length := hlen
      omega
    · rw [hR.val k]
      have h2 := hrest k
      by_cases hkq : k = q.key
      · subst hkq
        rw [if_pos hqin, if_neg (fun x => (h2.1 x).2 rfl), hch, if_pos heq]
      · by_cases hki : k ∈ (restOf (own.map OEnt.ent) seen).map (·.1)
        · rw [if_pos hki, if_pos (h2.2 ⟨hki, hkq⟩)]
        · rw [if_neg hki, if_neg (fun x => hki (h2.1 x).1)]
  · have hqf : q.blk ∈ mapFoot C.mx own := by simp [mapFoot]; exact .inr ⟨q, hqo, rfl⟩
    have hqlt := h.hx.lt _ hqf
    have hmb : ∀ e ∈ lst, e.blk ≠ ml := fun e he x => by
      obtain ⟨p, hp, _, hpb, _⟩ := hR.sub e he
      have hx : p.blk ∈ mapFoot C.mx own := by simp [mapFoot]; exact .inr ⟨p, hp, rfl⟩
      have := h.hx.lt _ hx
      omega
    have hup := run_put (C := { C with mx := ml }) hm2.hm hm2.keys q.key q.blk q.cap q.data
    have hks := keeps_setBlk w2 ml (mapO ((putE lst lc q.key q.blk q.cap q.data).map OEnt.ent) (putC lst lc q.key))
    refine ⟨_, _, _, _, hup, hks.blk hr2 hrm, hm2.put hqk.len hqk.cap hqk.blk (by omega) hmb, hD2.keeps hks (fun i hi e => hmF (e ▸ hi)), K2.trans hks (fun i hi e => by subst e; omega), hj2, hR.sub.put hqo lc, ?_, fun k => ?_⟩
    · rw [putE_length]
      have h1 := hR.len
      have h2 : (restOf (own.map OEnt.ent) (seen.push q.born)).length < (restOf (own.map OEnt.ent) seen).length := hlen
      unfold putLen
      split <;> omega
    · rw [ovOf_put, hR.val k]
      have h2 := hrest k
      by_cases hkq : k = q.key
      · subst hkq
        rw [if_pos rfl, if_neg (fun x => (h2.1 x).2 rfl), hch, if_neg hne]
      · rw [if_neg hkq]
        by_cases hki : k ∈ (restOf (own.map OEnt.ent) seen).map (·.1)
        · rw [if_pos hki, if_pos (h2.2 ⟨hki, hkq⟩)]
        · rw [if_neg hki, if_neg (fun x => hki (h2.1 x).1)]
set_option maxRecDepth 100000 in
set_option maxHeartbeats 4000000 in
theorem changed_w (h : TxAt w C D own xc sp en X) (hb : D.burnt = false) : Calls Tryz.prog 68 #[.pointer (some ⟨C.t, 0, none⟩)] w (ChPost w C D own) := by
  have c0 := h.ht.cell 0
  have c1 := h.ht.cell 1
  simp at c0 c1
  have hmm : ∀ w, (Instr.makeMap 104 none).run Tryz.prog w = .ok (.map (some w.heap.size)) (w.alloc (mapO [] 0)) := fun w => run_makeMap _ w
  have c1a := cell_alloc c1 (mapO [] 0)
  have hrg := run_range und138 (h.hx.hm.alloc (mapO [] 0))
  have hP : ∀ wr lst lc seen D' r ml, w.heap.size ≤ ml → ChRel w C D own xc r ml lst lc seen D' wr → restOf (own.map OEnt.ent) seen = [] → ChPost w C D own (.returned (.tuple #[.map (some ml), .int .i64 0])) wr := fun wr lst lc seen D' r ml hml hR hd => hR.done hml hd
  have hst : ChRel w C D own xc (w.heap.size + 1) w.heap.size [] 0 #[] D ((w.alloc (mapO [] 0)).alloc (iterO C.mx xc #[])) :=
    { hr := by have := Blk.new (w.alloc (mapO [] 0)) (iterO C.mx xc #[]); rw [World.size_alloc] at this; exact this
      hm := (MapAt.new w).keeps ((Keeps.refl (fun _ => False) _).alloc _) (fun _ _ f => f)
      hd := h.hd.keeps (((Keeps.refl (fun _ => False) _).alloc _).alloc _) (fun _ _ f => f)
      k := ((Keeps.refl _ _).alloc _).alloc _
      hj := ⟨0, rfl⟩
      sub := fun e he => by cases he
      len := by
        have e0 : restOf (own.map OEnt.ent) #[] = own.map OEnt.ent := by simp [restOf]
        rw [e0]; simp
      val := fun k => by
        have e0 : restOf (own.map OEnt.ent) #[] = own.map OEnt.ent := by simp [restOf]
        rw [e0]
        split
        · rfl
        · rename_i hn
          have : own.find? (·.key == k) = none := by
            rw [List.find?_eq_none]
            intro e he hk
            exact hn (List.mem_map.2 ⟨e.ent, List.mem_map.2 ⟨e, he, rfl⟩, (by simpa using hk : e.key = k)⟩)
          unfold chOv
          rw [ovOf_none this]; rfl }
  have hbn : ((own.map OEnt.ent).map (·.2.2)).Nodup := by simpa [List.map_map, Function.comp_def, OEnt.ent] using h.hx.borns
  have hck : ∀ x ∈ own.map OEnt.ent, x.2.2 < xc := fun x hx => by obtain ⟨e, he, rfl⟩ := List.mem_map.1 hx; exact h.hx.clk e he
  have hmx : ∀ wr lst lc seen D' r ml, ChRel w C D own xc r ml lst lc seen D' wr → Blk wr C.mx (mapO (own.map OEnt.ent) xc) := fun wr lst lc seen D' r ml hR => hR.k.blk h.hx.hm (h.xF _ (by simp [mapFoot]))
  have hmlt := h.hx.hm.lt
  have hlook := fun wr w' lst lc seen D' q hR hq hqo hr' hk' => ChRel.look h hb (wr := wr) (w' := w') (lst := lst) (lc := lc) (seen := seen) (D' := D') (q := q) (r := w.heap.size + 1) (ml := w.heap.size) hR (Nat.le_refl _) (by omega) (by omega) hq hqo hr' hk'
  have hP2 := fun wr lst lc seen D' hR hd => hP wr lst lc seen D' (w.heap.size + 1) w.heap.size (Nat.le_refl _) hR hd
  clear hP
  unfold ChLook at hlook
  generalize hPost : ChPost w C D own = Post at *
  replace h := hid h; replace hP2 := hid hP2; replace hst := hid hst; replace hPost := hid hPost; replace hb := hid hb; replace hbn := hid hbn; replace hck := hid hck; replace hmx := hid hmx; replace hlook := hid hlook
  go_enter Tryz.func68, Tryz.ntmps68
  go_wp2
  go_loopw [8] (fun _ wr => ∃ lst lc seen D', ChRel w C D own xc (w.heap.size + 1) w.heap.size lst lc seen D' wr) (fun _ wr => iterLeft (own.map OEnt.ent) (w.heap.size + 1) wr)
  case atStart => exact ⟨_, _, _, _, hst.out⟩
  case round =>
    obtain ⟨lst, lc, seen, D', hR⟩ := hrel
    clear hst
    have hmxr := hmx.out _ _ _ _ _ _ _ hR
    go_wp2_with (at_next; refine wpList_nextV rfl (.tmp 14) rfl (w.heap.size + 1) C.mx xc (own.map OEnt.ent) seen rfl hR.hr hmxr hck.out ?_ ?_)
    · intro hdone
      have hF := hP2.out _ _ _ _ _ hR hdone
      replace hR := hid hR; replace hF := hid hF; replace hdone := hid hdone; replace hmxr := hid hmxr
      go_wp2
      exact hF.out
    · rintro ka va ba hx w' hr' hk' hs'
      obtain ⟨q, hq, hqe⟩ := List.mem_map.1 (mem_restOf hx).1
      have ha : q.key = ka := congrArg (·.1) hqe
      have hv : q.val = va := congrArg (·.2.1) hqe
      have hbo : q.born = ba := congrArg (·.2.2) hqe
      subst ha hv hbo
      have hm' := hk'.blk hmxr (fun e => by omega)
      have hen := run_entryV (P := Tryz.prog) (x := q.ent) hr' hm' (mem_restOf hx).1 hbn.out
      replace hen : (Instr.entry (.pointer (some ⟨w.heap.size + 1, 0, none⟩))).run Tryz.prog w' = .ok (.tuple #[.int .i64 q.key, q.val]) w' := hen
      obtain ⟨hc0, hC⟩ := hlook.out wr w' lst lc seen D' q hR hx hq hr' hk'
      have hles := restOf_lt hx
      have hit : ∀ W lst lc D2, ChRel w C D own xc (w.heap.size + 1) w.heap.size lst lc (seen.push q.born) D2 W → iterLeft (own.map OEnt.ent) (w.heap.size + 1) W < iterLeft (own.map OEnt.ent) (w.heap.size + 1) wr := fun W lst lc D2 hW => by rw [iterLeft_eq hW.hr, iterLeft_eq hR.hr]; exact hles
      unfold OEnt.val at hen
      generalize q.blk = qb at *
      generalize q.cap = qc at *
      replace hR := hid hR; replace hx := hid hx; replace hq := hid hq; replace hr' := hid hr'; replace hk' := hid hk'; replace hs' := hid hs'; replace hm' := hid hm'; replace hmxr := hid hmxr; replace hC := hid hC; replace hles := hid hles; replace hit := hid hit; replace hqe := hid hqe
      by_cases hqd : cmtB D (ovOf C.ov) C.G.home q.key = q.data
      · rw [decide_eq_true hqd] at hC
        replace hqd := hid hqd
        go_wp2_with (first
          | (go_at_call 102; refine hC.out.mono ?_; rintro e w2 ⟨g, kk, rfl, hE, hA, hN⟩; replace hE := hid hE; replace hA := hid hA; clear hN)
          | (go_at_call 118; refine hE.out.mono ?_; rintro e w3 ⟨rfl, rfl⟩))
        obtain ⟨D2, hF⟩ := hA.out hqd.out
        exact ⟨⟨_, _, _, _, hF⟩, hit.out _ _ _ _ hF⟩
      · rw [decide_eq_false hqd] at hC
        replace hqd := hid hqd
        go_wp2_with (first
          | (go_at_call 102; refine hC.out.mono ?_; rintro e w2 ⟨g, kk, rfl, hE, hA, hN⟩; obtain ⟨w4, l2, c2, D2, hup, hF⟩ := hN hqd.out; replace hE := hid hE; replace hF := hid hF; clear hA hN)
          | (go_at_call 118; refine hE.out.mono ?_; rintro e w3 ⟨rfl, rfl⟩))
        exact ⟨⟨_, _, _, _, hF.out⟩, hit.out _ _ _ _ hF.out⟩
end
end Go.Vk

namespace Go.Vk
open Go.RowKit Go.Proofs

theorem nodup_len : ∀ (n : Nat) (l : List Nat), l.Nodup → (∀ x ∈ l, x < n) → l.length ≤ n
  | 0, l, _, h => by
    cases l with
    | nil => simp
    | cons a l => exact absurd (h a (by simp)) (by omega)
  | n + 1, l, hd, h => by
    by_cases hn : n ∈ l
    · have h1 := nodup_len n (l.erase n) (hd.erase n) (fun x hx => by
        obtain ⟨h2, h3⟩ := hd.mem_erase_iff.1 hx
        have := h x h3
        omega)
      rw [List.length_erase_of_mem hn] at h1
      omega
    · exact Nat.le_succ_of_le (nodup_len n l hd (fun x hx => by
        have := h x hx
        have : x ≠ n := fun e => hn (e ▸ hx)
        omega))
/-- An open transaction, its store, its log and its disk, where all is well. -/
structure Both (w : World) (C : TxC) (D : DM) (own : List OEnt) (xc sp : Nat) (en : Bool) (X : Nat → Prop) (L : LM) (N : Nat) (g : Nat → List UInt8) : Prop where
  tx : TxAt w C D own xc sp en X
  st : StO w C.sb C.d C.l C.mo C.F C.G D C.ov C.oc C.op L N g
  tl : C.t ≠ C.l
  xl : C.l ∉ mapFoot C.mx own
  Xl : ∀ k, X k → k ≠ C.l
section
variable {w w' W : World} {C : TxC} {D D' : DM} {own : List OEnt} {xc sp : Nat} {en : Bool} {X : Nat → Prop} {L L' : LM} {N : Nat} {g g' : Nat → List UInt8}
theorem Both.moved (h : Both w C D own xc sp en X L N g) (hX : ∀ i, X i → i < w.heap.size) {Gf : Nat → Prop} (kk : Keeps Gf w w') (hGf : ∀ i, Gf i → i ∈ C.F ∨ i = C.l ∨ i = C.mo) {F' : List Nat} (hF : ∀ i ∈ F', i ∈ C.F ∨ w.heap.size ≤ i) {ov' : List OEnt} {oc' : Nat}
    (hsub : ∀ k ∈ mapFoot C.mo ov', k ∈ mapFoot C.mo C.ov) (hn : D'.n = D.n) (S : StO w' C.sb C.d C.l C.mo F' C.G D' ov' oc' C.op L' N g') : Both w' { C with F := F', ov := ov', oc := oc' } D' own xc sp en X L' N g' := by
  have hT := h.tx
  have hnew : ∀ k, k < w.heap.size → k ∉ C.F → k ∉ F' := fun k h1 h2 h3 => (hF k h3).elim h2 (fun x => by omega)
  have mo_in : C.mo ∈ mapFoot C.mo C.ov := by simp [mapFoot]
  exact
    { st := S
      tl := h.tl, xl := h.xl, Xl := h.Xl
      tx :=
        { ht := kk.blk hT.ht (fun f => by rcases hGf _ f with x | x | x; exact hT.tF x; exact h.tl x; exact hT.tO (x ▸ mo_in))
          hs := S.hs, hd := S.hd, ho := S.ho
          hx := hT.hx.keeps kk (fun i hi f => by rcases hGf _ f with x | x | x; exact hT.xF i hi x; exact h.xl (x ▸ hi); exact hT.xO i hi (x ▸ mo_in))
          tF := hnew _ hT.ht.lt hT.tF
          sF := S.sF, oF := S.oF
          xF := fun k hk => hnew k (hT.hx.lt k hk) (hT.xF k hk)
          ts := hT.ts
          tO := fun x => hT.tO (hsub _ x)
          tX := hT.tX
          sO := S.sO
          sX := hT.sX
          xO := fun k hk x => hT.xO k hk (hsub _ x)
          mb := hT.mb, kb := hT.kb
          gn := by rw [hn]; exact hT.gn
          n2 := by rw [hn]; exact hT.n2
          xX := fun k hk => by
            obtain ⟨x1, x2, x3, x4, x5⟩ := hT.xX k hk
            exact ⟨x1, x2, hnew k (hX k hk) x3, fun x => x4 (hsub _ x), x5⟩ } }
theorem Both.reads (h : Both w C D own xc sp en X L N g) (hX : ∀ i, X i → i < w.heap.size) (kk : Keeps (· ∈ C.F) w w') (j : Nat) (hd : DiskRep w' C.d (D.readedN j) C.F) : Both w' C (D.readedN j) own xc sp en X L N g := by
  have S := h.st.disk (W := w') (D' := D.readedN j) (F' := C.F) (g' := g) ⟨hd, fun _ hk => .inl hk, kk⟩ (h.st.is.readedN j) h.st.an (by rw [readedN_writes]; exact h.st.wb)
  exact h.moved hX kk (fun i f => .inl f) (fun i hi => .inl hi) (fun k hk => hk) (readedN_n _ _) S
theorem Both.calm (h : Both w C D own xc sp en X L N g) (hX : ∀ i, X i → i < w.heap.size) (kk : Keeps (fun _ => False) w w') : Both w' C D own xc sp en X L N g := by
  have S := h.st.disk (W := w') (D' := D) (F' := C.F) (g' := g) ⟨h.st.hd.keeps kk (fun _ _ f => f), fun _ hk => .inl hk, kk.mono fun _ _ f => f.elim⟩ h.st.is h.st.an h.st.wb
  exact h.moved hX kk (fun i f => f.elim) (fun i hi => .inl hi) (fun k hk => hk) rfl S
theorem Both.live (h : Both w C D own xc sp en X L N g) : goneB D C.G.life = false := by unfold goneB; rw [h.st.is.burnt, h.st.is.lf]; simp
end
section
variable {w : World} {sb d l mo : Nat} {F : List Nat} {G : Geom} {D : DM} {ov : List OEnt} {oc : Nat} {op : Bool} {L : LM} {N : Nat} {g : Nat → List UInt8}
theorem StO.append (h : StO w sb d l mo F G D ov oc op L N g) (gr cd : Nat) (data : List UInt8) (hd : ∀ j (hj : j < data.length), w.cell? ⟨gr, j, none⟩ = some (B data[j])) (hgr : gr ∉ F) (hgl : gr ≠ l) (hgs : gr ≠ sb) (hd0 : 0 < data.length) (hdl : data.length ≤ 8364) (hcd : data.length ≤ cd)
    (hroom : countB data + (L.head - L.tail) ≤ L.n) (hh : L.head + 57 ≤ 1073741824) (hw : D.writes + 10017 < 1099511627776) :
    Calls Tryz.prog 72 #[.pointer (some ⟨l, 0, none⟩), .slice (some ⟨gr, 0, none⟩) data.length cd] w fun e w' => e = .returned (.int .i64 0) ∧ ∃ F' D' g', StO w' sb d l mo F' G D' ov oc op { L with head := L.head + countB data } N g' ∧ (∀ k ∈ F', k ∈ F ∨ w.heap.size ≤ k) ∧ Keeps (fun k => k ∈ F ∨ k = l) w w' ∧ D'.writes ≤ D.writes + 17 ∧ D'.n = D.n ∧ ∀ j, G.home ≤ j → g' j = g j := by
  have hlg := h.lg
  have hLn := h.Ln
  have hLf := h.Lf
  have hgb := h.gb
  have hth := h.th
  have hep := h.ep
  have hc17 : countB data ≤ 17 := by unfold countB; omega
  unfold Geom.home at hgb
  refine (lappend_w h.hl h.hd h.lF h.is h.li h.st (by omega) (by omega) h.N2 (by omega) (by omega) hth.1 (by omega) gr cd data hd hgr hgl hd0 hdl hcd hroom).mono ?_
  rintro e w' ⟨rfl, F', y1, y2, y3, y4⟩
  obtain ⟨g', i1, i2, i3⟩ := h.is.appD L (by omega) data (countB data)
  have hnew : ∀ k, k < w.heap.size → k ∉ F → k ∉ F' := fun k h1 h2 h3 => (y2 k h3).elim h2 (fun x => by omega)
  refine ⟨rfl, F', _, g', ?_, y2, y4, by rw [i2]; omega, by rw [i1.n, h.is.n], fun j hj => i3 j (by unfold Geom.home at hj; omega)⟩
  exact
    { hs := y4.blk h.hs (fun f => f.elim h.sF (fun e => h.ls e.symm))
      hl := y3
      hd := y1
      ho := h.ho.keeps y4 (fun i hi f => f.elim (h.oF i hi) (fun e => h.lO (e ▸ hi)))
      sF := hnew _ h.hs.lt h.sF
      lF := hnew _ h.hl.lt h.lF
      oF := fun k hk => hnew k (h.ho.lt k hk) (h.oF k hk)
      ls := h.ls, lO := h.lO, sO := h.sO
      is := i1
      li := h.li, st := h.st, Lf := h.Lf, Ln := h.Ln, lg := h.lg, gb := h.gb, N2 := h.N2, kb := h.kb, ol := h.ol
      an := by
        have := h.an
        unfold AnchInv at this ⊢
        rw [show ({ L with head := L.head + countB data } : LM).first = L.first from rfl, i3 L.first (by omega), i3 (L.first + 1) (by omega)]
        exact this
      th := ⟨by show L.tail ≤ L.head + _; omega, by show L.head + _ - L.tail ≤ L.n; omega⟩
      ep := h.ep
      hb := by show L.head + _ + 40 ≤ _; omega
      wb := by rw [i2]; omega }
end
end Go.Vk

namespace Go.Vk
open Go.RowKit Go.Proofs

section
variable {w : World} {t sb mx d l mo s lg n xc sp : Nat} {life : Int} {op : Bool} {es : List Ent}
theorem tendR_w (ht : Blk w t (txO sb mx sp false)) (hs : Blk w sb (storeO d l mo s lg n life op)) (hm : Blk w mx (mapO es xc)) (mt : mx ≠ t) (ms : mx ≠ sb) (ts : t ≠ sb) : Calls Tryz.prog 67 #[.pointer (some ⟨t, 0, none⟩)] w fun e w' => e = .returned (.tuple #[]) ∧ w' = endW w t sb mx xc := by
  have b1 : Blk (w.setCell ⟨t, 3, none⟩ (.bool true)) t (txO sb mx sp true) := by simpa [txO] using ht.setCell 3 (.bool true)
  have s1 := hs.setCell_ne (p := ⟨t, 3, none⟩) (fun e => ts e.symm) (.bool true)
  have b2 := b1.setCell_ne (p := ⟨sb, 9, none⟩) ts (.bool false)
  have m2 := (hm.setCell_ne (p := ⟨t, 3, none⟩) mt (.bool true)).setCell_ne (p := ⟨sb, 9, none⟩) ms (.bool false)
  have hcl := fun ty => run_clear und138 m2 ty
  have c0 := b1.cell 0
  have c1 := b2.cell 1
  have f3 := ht.frz 3
  have f9 := s1.frz 9
  have a0 := ht.cell 0
  have a1 := ht.cell 1
  have a3 := ht.cell 3
  have a9 := hs.cell 9
  have f9' := hs.frz 9
  simp at c0 c1 a0 a1 a3 a9
  clear b1 b2 m2
  replace ht := hid ht; replace hs := hid hs; replace hm := hid hm; replace mt := hid mt; replace ms := hid ms; replace s1 := hid s1
  go_enter Tryz.func67, Tryz.ntmps67
  go_wp2
  go_end0
  exact ⟨rfl, rfl⟩
theorem endW_blks (ht : Blk w t (txO sb mx sp false)) (hs : Blk w sb (storeO d l mo s lg n life op)) (hm : Blk w mx (mapO es xc)) (mt : mx ≠ t) (ms : mx ≠ sb) (ts : t ≠ sb) :
    Blk (endW w t sb mx xc) t (txO sb mx sp true) ∧ Blk (endW w t sb mx xc) sb (storeO d l mo s lg n life false) ∧ Blk (endW w t sb mx xc) mx (mapO ([].map OEnt.ent) xc) := by
  refine ⟨?_, ?_, ?_⟩
  · have := ((ht.setCell 3 (.bool true)).setCell_ne (p := ⟨sb, 9, none⟩) ts (.bool false))
    exact (keeps_setBlk _ mx (mapO [] xc)).blk (by simpa [txO] using this) (fun e => mt e.symm)
  · have := (hs.setCell_ne (p := ⟨t, 3, none⟩) (fun e => ts e.symm) (.bool true)).setCell 9 (.bool false)
    exact (keeps_setBlk _ mx (mapO [] xc)).blk (by simpa [storeO] using this) (fun e => ms e.symm)
  · have := ((hm.setCell_ne (p := ⟨t, 3, none⟩) mt (.bool true)).setCell_ne (p := ⟨sb, 9, none⟩) ms (.bool false))
    exact this.setBlk (mapO [] xc)
end
/-- An overlay whose entries are the old one's or the transaction's. -/
def OvFrom (ov own ovk : List OEnt) : Prop := ∀ e ∈ ovk, (∃ q ∈ ov, q.key = e.key ∧ q.blk = e.blk) ∨ ∃ q ∈ own, q.key = e.key ∧ q.blk = e.blk
theorem OvFrom.foot {ov own ovk : List OEnt} (h : OvFrom ov own ovk) {mo mx k : Nat} (hk : k ∈ mapFoot mo ovk) : k ∈ mapFoot mo ov ∨ (k ∈ mapFoot mx own ∧ ∃ q ∈ own, q.blk = k) := by
  simp only [mapFoot, List.mem_cons, List.mem_map] at hk ⊢
  rcases hk with rfl | ⟨e, he, rfl⟩
  · exact .inl (.inl rfl)
  · rcases h e he with ⟨q, hq, _, h2⟩ | ⟨q, hq, _, h2⟩
    · exact .inl (.inr ⟨q, hq, h2⟩)
    · exact .inr ⟨.inr ⟨q, hq, h2⟩, q, hq, h2⟩
section
variable {w w' W : World} {C : TxC} {D D' : DM} {own : List OEnt} {xc sp : Nat} {X : Nat → Prop} {L L' : LM} {N : Nat} {g g' : Nat → List UInt8}
/-- What ends the transaction, behind a loop that turned the overlay alone. -/
theorem Both.finish (h : Both W C D own xc sp false X L N g) {wr : World} (k : Keeps (· = C.mo) W wr) {ovk : List OEnt} {ock : Nat} (ho : MapAt wr C.mo ovk ock) (hsub : OvFrom C.ov own ovk) :
    Calls Tryz.prog 67 #[.pointer (some ⟨C.t, 0, none⟩)] wr fun e w' => e = .returned (.tuple #[]) ∧ Both w' { C with ov := ovk, oc := ock, op := false } D [] xc sp true X L N g ∧ Keeps (fun i => i = C.t ∨ i = C.sb ∨ i = C.mx) wr w' := by
  have hT := h.tx
  have hS := h.st
  have mo_in : C.mo ∈ mapFoot C.mo C.ov := by simp [mapFoot]
  have mx_in : C.mx ∈ mapFoot C.mx own := by simp [mapFoot]
  have mt : C.mx ≠ C.t := fun e => hT.tX (e ▸ mx_in)
  have ms : C.mx ≠ C.sb := fun e => hT.sX (e ▸ mx_in)
  have mF : C.mx ∉ C.F := hT.xF _ mx_in
  have tmo : C.t ≠ C.mo := fun e => hT.tO (e ▸ mo_in)
  have smo : C.sb ≠ C.mo := fun e => hT.sO (e ▸ mo_in)
  have xmo : C.mx ≠ C.mo := fun e => hT.xO _ mx_in (e ▸ mo_in)
  have lmo : C.l ≠ C.mo := fun e => hS.lO (e ▸ mo_in)
  have ht := k.blk hT.ht tmo
  have hs := k.blk hT.hs smo
  have hm := k.blk hT.hx.hm xmo
  refine (tendR_w ht hs hm mt ms hT.ts).mono ?_
  rintro e w' ⟨rfl, rfl⟩
  obtain ⟨e1, e2, e3⟩ := endW_blks ht hs hm mt ms hT.ts
  have hk := endW_k wr C.t C.sb C.mx xc
  have hout : ∀ i ∈ mapFoot C.mo ovk, i ≠ C.t ∧ i ≠ C.sb ∧ i ≠ C.mx ∧ i ∉ C.F ∧ i ≠ C.l := fun i hi => by
    rcases hsub.foot (mx := C.mx) hi with x | ⟨x, q, hq, hb⟩
    · exact ⟨fun e => hT.tO (e ▸ x), fun e => hT.sO (e ▸ x), fun e => hT.xO _ mx_in (e ▸ x), hS.oF i x, fun e => hS.lO (e ▸ x)⟩
    · exact ⟨fun e => hT.tX (e ▸ x), fun e => hT.sX (e ▸ x), fun e => hT.mb q hq (hb.trans e), hT.xF i x, fun e => h.xl (e ▸ x)⟩
  have hsub0 : ∀ k ∈ mapFoot C.mx [], k = C.mx := fun k hk => by simpa [mapFoot] using hk
  have hoE : MapAt (endW wr C.t C.sb C.mx xc) C.mo ovk ock := ho.keeps hk (fun i hi e => by
    obtain ⟨a1, a2, a3, _, _⟩ := hout i hi
    rcases e with e | e | e
    · exact a1 e
    · exact a2 e
    · exact a3 e)
  have hdE : DiskRep (endW wr C.t C.sb C.mx xc) C.d D C.F := (hT.hd.keeps k (fun i hi e => hT.oF _ mo_in (e ▸ hi))).keeps hk (fun i hi e => by
    rcases e with rfl | rfl | rfl
    · exact hT.tF hi
    · exact hT.sF hi
    · exact mF hi)
  have hlE : Blk (endW wr C.t C.sb C.mx xc) C.l (logO C.d L) := hk.blk (k.blk hS.hl lmo) (fun e => by
    rcases e with e | e | e
    · exact h.tl e.symm
    · exact hS.ls e
    · exact h.xl (e ▸ mx_in))
  have hkb : ∀ e ∈ ovk, e.key < C.G.blocks := fun e he => by
    rcases hsub e he with ⟨q, hq, h1, _⟩ | ⟨q, hq, h1, _⟩
    · rw [← h1]; exact hS.kb q hq
    · rw [← h1]; exact hT.kb q hq
  refine ⟨rfl, ?_, hk⟩
  exact
    { tl := h.tl
      xl := fun x => h.xl (by rw [hsub0 _ x]; exact mx_in)
      Xl := h.Xl
      tx :=
        { ht := e1, hs := e2, hd := hdE, ho := hoE
          hx := ⟨e3, (fun _ he => by cases he), List.nodup_nil, List.nodup_nil, (fun _ he => by cases he)⟩
          tF := hT.tF, sF := hT.sF
          oF := fun i hi => (hout i hi).2.2.2.1
          xF := fun i hi => by rw [hsub0 i hi]; exact mF
          ts := hT.ts
          tO := fun x => (hout _ x).1 rfl
          tX := fun x => mt (hsub0 _ x).symm
          sO := fun x => (hout _ x).2.1 rfl
          sX := fun x => ms (hsub0 _ x).symm
          xO := fun i hi x => (hout _ x).2.2.1 (hsub0 i hi)
          mb := fun e he => by cases he
          kb := fun e he => by cases he
          gn := hT.gn, n2 := hT.n2
          xX := fun i hi => by
            obtain ⟨x1, x2, x3, x4, x5⟩ := hT.xX i hi
            refine ⟨x1, x2, x3, fun x => ?_, fun x => x5 (by rw [hsub0 i x]; exact mx_in)⟩
            rcases hsub.foot (mx := C.mx) x with y | ⟨y, _⟩
            · exact x4 y
            · exact x5 y }
      st :=
        { hS with
          hs := e2, hl := hlE, hd := hdE, ho := hoE
          oF := fun i hi => (hout i hi).2.2.2.1
          lO := fun x => (hout _ x).2.2.2.2 rfl
          sO := fun x => (hout _ x).2.1 rfl
          kb := hkb
          ol := by
            have := nodup_len C.G.blocks (ovk.map (·.key)) ho.keys (fun x hx => by obtain ⟨e, he, rfl⟩ := List.mem_map.1 hx; exact hkb e he)
            rw [List.length_map] at this
            have h1 := hS.gb
            have h2 := hS.N2
            show ovk.length ≤ 2048
            omega } }
/-- Where the loop stands. -/
structure LpRel (W : World) (C : TxC) (own lst : List OEnt) (ml lc r : Nat) (ovk : List OEnt) (ock : Nat) (seen : Array Nat) (wr : World) : Prop where
  hr : Blk wr r (iterO ml lc seen)
  ho : MapAt wr C.mo ovk ock
  k : Keeps (· = C.mo) W wr
  sub : OvFrom C.ov own ovk
  val : ∀ b, ovOf ovk b = if b ∈ (restOf (lst.map OEnt.ent) seen).map (·.1) then ovOf C.ov b else (ovOf lst b).or (ovOf C.ov b)
theorem LpRel.step (h : Both W C D own xc sp false X L N g) {lst : List OEnt} {ml lc r : Nat} (hM : MapAt W ml lst lc) (hF : FromOwn own lst) (hr : W.heap.size ≤ r) {ovk : List OEnt} {ock : Nat} {seen : Array Nat} {wr : World} (hR : LpRel W C own lst ml lc r ovk ock seen wr)
    {q : OEnt} (hq : q.ent ∈ restOf (lst.map OEnt.ent) seen) (hql : q ∈ lst) {w' : World} (hr' : Blk w' r (iterO ml lc (seen.push q.born))) (hk' : Keeps (· = r) wr w') :
    w'.cell? ⟨C.t, 0, none⟩ = some (.pointer (some ⟨C.sb, 0, none⟩)) ∧ w'.cell? ⟨C.sb, 8, none⟩ = some (.map (some C.mo)) ∧
    ∃ w3 o3 c3, (Instr.mapUpdate 104 (.map (some C.mo)) (.int .i64 q.key) (.slice (some ⟨q.blk, 0, none⟩) 512 q.cap)).run Tryz.prog w' = .ok () w3 ∧ LpRel W C own lst ml lc r o3 c3 (seen.push q.born) w3 := by
  have hT := h.tx
  have hmo : C.mo < W.heap.size := hT.ho.hm.lt
  have mo_in : C.mo ∈ mapFoot C.mo C.ov := by simp [mapFoot]
  have K : Keeps (· = C.mo) W w' := hR.k.trans hk' (fun i hi e => by subst e; omega)
  have ht := K.blk hT.ht (fun e => hT.tO (e ▸ mo_in))
  have hs := K.blk hT.hs (fun e => hT.sO (e ▸ mo_in))
  have c0 := ht.cell 0
  have c8 := hs.cell 8
  simp at c0 c8
  obtain ⟨p, hp, p1, p2, p3, p4⟩ := hF q hql
  have hpin : p.blk ∈ mapFoot C.mx own := by simp [mapFoot]; exact .inr ⟨p, hp, rfl⟩
  have hqmo : q.blk ≠ C.mo := fun e => hT.xO _ hpin (by rw [p2, e]; exact mo_in)
  have hqk : q.ok w' := by
    have h1 := hM.ok q hql
    exact ⟨h1.len, K.blk h1.blk hqmo, h1.cap⟩
  have hfoot : ∀ i ∈ mapFoot C.mo ovk, i < W.heap.size := fun i hi => by
    rcases hR.sub.foot (mx := C.mx) hi with x | ⟨x, _⟩
    · exact hT.ho.lt i x
    · exact hT.hx.lt i x
  have ho : MapAt w' C.mo ovk ock := hR.ho.keeps hk' (fun i hi e => by have := hfoot i hi; omega)
  have hmb : ∀ e ∈ ovk, e.blk ≠ C.mo := fun e he x => by
    have h1 := (ho.ok e he).blk
    have h2 := ho.hm
    rw [x] at h1
    unfold Blk at h1 h2
    rw [h1] at h2
    simp [bytesO, mapO] at h2
  have hup := run_put (C := { C with mx := C.mo }) ho.hm ho.keys q.key q.blk q.cap q.data
  have hks := keeps_setBlk w' C.mo (mapO ((putE ovk ock q.key q.blk q.cap q.data).map OEnt.ent) (putC ovk ock q.key))
  have hrm : r ≠ C.mo := by omega
  have hkn : ((lst.map OEnt.ent).map (·.1)).Nodup := by simpa [List.map_map, Function.comp_def, OEnt.ent] using hM.keys
  have hbn : ((lst.map OEnt.ent).map (·.2.2)).Nodup := by simpa [List.map_map, Function.comp_def, OEnt.ent] using hM.borns
  have hrest : ∀ k, k ∈ (restOf (lst.map OEnt.ent) (seen.push q.born)).map (·.1) ↔ k ∈ (restOf (lst.map OEnt.ent) seen).map (·.1) ∧ k ≠ q.key := rest_keys hq hkn hbn
  have hov : ovOf lst q.key = some q.data := by
    refine ovOf_some (e := q) ?_
    cases hf : lst.find? (·.key == q.key) with
    | none => have := List.find?_eq_none.1 hf q hql; simp at this
    | some p => rw [nodup_map_inj hM.keys (List.mem_of_find?_eq_some hf) hql (by simpa using List.find?_some hf)]
  refine ⟨c0, c8, _, _, _, hup, hks.blk hr' hrm, ho.put hqk.len hqk.cap hqk.blk hqmo hmb, K.trans hks (fun i hi e => e), fun e he => ?_, fun b => ?_⟩
  · rcases putE_mem he with h1 | ⟨h1, h2, _⟩
    · exact hR.sub e h1
    · exact .inr ⟨p, hp, p1.trans h1.symm, p2.trans h2.symm⟩
  · rw [ovOf_put, hR.val b]
    have h2 := hrest b
    by_cases hkq : b = q.key
    · subst hkq
      rw [if_pos rfl, if_neg (fun x => (h2.1 x).2 rfl), hov]; rfl
    · rw [if_neg hkq]
      by_cases hki : b ∈ (restOf (lst.map OEnt.ent) seen).map (·.1)
      · rw [if_pos hki, if_pos (h2.2 ⟨hki, hkq⟩)]
      · rw [if_neg hki, if_neg (fun x => hki (h2.1 x).1)]
end
end Go.Vk

namespace Go.Vk
open Go.RowKit Go.Proofs

/-- What a commit leaves. -/
def CmPost (w : World) (C : TxC) (D : DM) (own : List OEnt) (xc : Nat) (X : Nat → Prop) (L : LM) (N : Nat) (e : Ending) (w' : World) : Prop :=
  e = .returned (.int .i64 0) ∧ ∃ F' ov' oc' D' L' g', Both w' { C with F := F', ov := ov', oc := oc', op := false } D' [] xc 0 true X L' N g' ∧ (∀ i ∈ F', i ∈ C.F ∨ w.heap.size ≤ i) ∧ (∀ i ∈ mapFoot C.mo ov', i ∈ mapFoot C.mo C.ov ∨ i ∈ mapFoot C.mx own) ∧
    Keeps (fun i => i ∈ C.F ∨ i = C.t ∨ i = C.sb ∨ i = C.mx ∨ i = C.mo ∨ i = C.l) w w' ∧ L'.head ≤ L.head + 17 ∧ D'.writes ≤ D.writes + 2100 ∧ ∀ b, b < C.G.blocks → cmtB D' (ovOf ov') C.G.home b = (ovOf own b).getD (cmtB D (ovOf C.ov) C.G.home b)
structure Mid (w : World) (C : TxC) (D : DM) (own : List OEnt) (xc : Nat) (X : Nat → Prop) (L : LM) (N : Nat) (W : World) (F1 : List Nat) (ov1 : List OEnt) (D1 : DM) (L1 : LM) (g1 : Nat → List UInt8) (ml : Nat) (lst : List OEnt) (lc hB wB : Nat) : Prop where
  B : Both W { C with F := F1, ov := ov1 } D1 own xc 0 false X L1 N g1
  X : ∀ i, X i → i < W.heap.size
  M : MapAt W ml lst lc
  mlo : w.heap.size ≤ ml
  fr : FromOwn own lst
  val : ∀ k, ovOf lst k = chOv D (ovOf C.ov) (ovOf own) C.G.home k
  len : lst.length ≤ own.length
  F : ∀ i ∈ F1, i ∈ C.F ∨ w.heap.size ≤ i
  mF : ml ∉ F1
  ovs : ∀ e ∈ ov1, e ∈ C.ov
  old : C.l < w.heap.size ∧ C.mo < w.heap.size ∧ C.t < w.heap.size ∧ C.sb < w.heap.size ∧ C.mx < w.heap.size ∧ ∀ i ∈ C.F, i < w.heap.size
  k : Keeps (fun i => i ∈ C.F ∨ i = C.l ∨ i = C.mo) w W
  hd : L1.head ≤ L.head + hB
  wr : D1.writes ≤ D.writes + wB
  cm : ∀ b, b < C.G.blocks → cmtB D1 (ovOf ov1) C.G.home b = cmtB D (ovOf C.ov) C.G.home b
section
variable {w W W' : World} {C : TxC} {D D1 : DM} {own ov1 lst : List OEnt} {xc lc ml hB wB : Nat} {X : Nat → Prop} {L L1 : LM} {N : Nat} {g g1 : Nat → List UInt8} {F1 : List Nat}
theorem Mid.start (h : Both w C D own xc 0 false X L N g) (hX : ∀ i, X i → i < w.heap.size) {n : Nat} {e : Ending} (hc : ChPost (w.drewN n) C D own e W) : ∃ ml lst lc j, e = .returned (.tuple #[.map (some ml), .int .i64 0]) ∧ Mid w C D own xc X L N W C.F C.ov (D.readedN j) L g ml lst lc 0 0 := by
  obtain ⟨ml, lst, lc, j, rfl, h1, h2, h3, h4, h5, h6, h7⟩ := hc
  have k0 : Keeps (· ∈ C.F) w W := (((Keeps.refl (fun _ => False) w).drewN n).mono fun _ _ f => f.elim).step h7
  have hsz : (w.drewN n).heap.size = w.heap.size := rfl
  rw [hsz] at h1
  refine ⟨ml, lst, lc, j, rfl, ?_⟩
  exact
    { B := h.reads hX k0 j h6
      X := fun i hi => Nat.lt_of_lt_of_le (hX i hi) k0.size
      M := h2, mlo := h1, fr := h4, val := h3, len := h5
      F := fun i hi => .inl hi
      mF := fun x => by have := h.tx.hd.lt _ x; omega
      ovs := fun e he => he
      old := ⟨h.st.hl.lt, h.tx.ho.hm.lt, h.tx.ht.lt, h.tx.hs.lt, h.tx.hx.hm.lt, h.tx.hd.lt⟩
      k := k0.mono fun _ _ f => .inl f
      hd := Nat.le_refl _
      wr := by rw [readedN_writes]; exact Nat.le_refl _
      cm := fun b _ => cmtB_readedN _ _ _ _ _ }
theorem Mid.ovfoot (h : Mid w C D own xc X L N W F1 ov1 D1 L1 g1 ml lst lc hB wB) : ∀ i ∈ mapFoot C.mo ov1, i ∈ mapFoot C.mo C.ov := fun i hi => by
  simp only [mapFoot, List.mem_cons, List.mem_map] at hi ⊢
  rcases hi with rfl | ⟨e, he, rfl⟩
  · exact .inl rfl
  · exact .inr ⟨e, h.ovs e he, rfl⟩
/-- The list's blocks are its map and the transaction's own. -/
theorem Mid.foot (h : Mid w C D own xc X L N W F1 ov1 D1 L1 g1 ml lst lc hB wB) : ∀ i ∈ mapFoot ml lst, i ∉ F1 ∧ i ≠ C.l ∧ i ≠ C.mo := fun i hi => by
  obtain ⟨o1, o2, o3, o4, o5, o6⟩ := h.old
  have hm := h.mlo
  simp only [mapFoot, List.mem_cons, List.mem_map] at hi
  rcases hi with rfl | ⟨e, he, rfl⟩
  · exact ⟨h.mF, by omega, by omega⟩
  · obtain ⟨p, hp, _, hpb, _⟩ := h.fr e he
    have hx : p.blk ∈ mapFoot C.mx own := by simp [mapFoot]; exact .inr ⟨p, hp, rfl⟩
    rw [hpb] at hx
    exact ⟨h.B.tx.xF _ hx, fun x => h.B.xl (x ▸ hx), fun x => h.B.tx.xO _ hx (by rw [x]; simp [mapFoot])⟩
theorem Mid.calm (h : Mid w C D own xc X L N W F1 ov1 D1 L1 g1 ml lst lc hB wB) (kk : Keeps (fun _ => False) W W') : Mid w C D own xc X L N W' F1 ov1 D1 L1 g1 ml lst lc hB wB :=
  { h with
    B := h.B.calm h.X kk
    X := fun i hi => Nat.lt_of_lt_of_le (h.X i hi) kk.size
    M := h.M.keeps kk (fun _ _ f => f)
    k := h.k.step (kk.mono fun _ _ f => f.elim) }
theorem ovOf_keys {ov : List OEnt} (b : Nat) : b ∈ ov.map (·.key) ↔ ∃ x, ovOf ov b = some x := by
  constructor
  · intro hb
    obtain ⟨e, he, hk⟩ := List.mem_map.1 hb
    cases hf : ov.find? (·.key == b) with
    | none => have := List.find?_eq_none.1 hf e he; simp [hk] at this
    | some q => exact ⟨_, ovOf_some hf⟩
  · rintro ⟨x, hx⟩
    cases hf : ov.find? (·.key == b) with
    | none => rw [ovOf_none hf] at hx; cases hx
    | some q => exact List.mem_map.2 ⟨q, List.mem_of_find?_eq_some hf, by simpa using List.find?_some hf⟩
theorem Mid.ck (h : Mid w C D own xc X L N W F1 ov1 D1 L1 g1 ml lst lc hB wB) (hc : CkPost W C.sb C.d C.l C.mo F1 C.G D1 ov1 C.oc C.op L1 N g1 W') : ∃ F2 D2 g2, Mid w C D own xc X L N W' F2 [] D2 (trimL L1) g2 ml lst lc hB (wB + 2049) ∧ ∀ i ∈ F2, i ∈ F1 ∨ W.heap.size ≤ i := by
  obtain ⟨F2, D2, g2, S, h2, h3, h4, h5⟩ := hc
  have hol : ov1.length ≤ 2048 := h.B.st.ol
  have hmlt := h.M.hm.lt
  have hsubn : ∀ k ∈ mapFoot C.mo [], k ∈ mapFoot C.mo ov1 := fun k hk => by
    have : k = C.mo := by simpa [mapFoot] using hk
    simp [mapFoot, this]
  have hn : D2.n = D1.n := by rw [S.is.n, h.B.st.is.n]
  have hw := h.wr
  have hksz := h.k.size
  refine ⟨F2, D2, g2, ?_, h2⟩
  exact
    { h with
      B := h.B.moved h.X h3 (fun i f => f) h2 hsubn hn S
      X := fun i hi => Nat.lt_of_lt_of_le (h.X i hi) h3.size
      M := h.M.keeps h3 (fun i hi f => by
        obtain ⟨a1, a2, a3⟩ := h.foot i hi
        rcases f with f | f | f
        · exact a1 f
        · exact a2 f
        · exact a3 f)
      F := fun i hi => (h2 i hi).elim (h.F i) (fun x => .inr (by omega))
      mF := fun x => (h2 _ x).elim h.mF (fun y => by omega)
      ovs := fun e he => by cases he
      k := h.k.trans h3 (fun i hi f => by
        rcases f with f | f | f
        · exact (h.F i f).elim .inl (fun x => by omega)
        · exact .inr (.inl f)
        · exact .inr (.inr f))
      hd := by
        have : (trimL L1).head = L1.head := by unfold trimL; split <;> rfl
        rw [this]; exact h.hd
      wr := by omega
      cm := fun b hb => by
        rw [← h.cm b hb]
        have hgb : C.G.home + C.G.blocks ≤ N := h.B.st.gb
        have e1 : D2.now (C.G.home + b) = g2 (C.G.home + b) := S.is.now _ (by omega)
        have e2 : D1.now (C.G.home + b) = g1 (C.G.home + b) := h.B.st.is.now _ (by omega)
        have e3 := h5 (C.G.home + b) (by omega) (by omega)
        unfold cmtB
        rw [show ovOf [] b = none from rfl, Option.getD_none, e1, e3, e2]
        unfold homeG
        rw [Nat.add_sub_cancel_left]
        by_cases hk : b ∈ ov1.map (·.key)
        · rw [if_pos ⟨by omega, hk⟩]
        · rw [if_neg (fun x => hk x.2)]
          have : ovOf ov1 b = none := by
            cases hq : ovOf ov1 b with
            | none => rfl
            | some x => exact absurd ((ovOf_keys b).2 ⟨x, hq⟩) hk
          rw [this]; rfl }
theorem Mid.app (h : Mid w C D own xc X L N W F1 ov1 D1 L1 g1 ml lst lc hB wB) (gr cd : Nat) (data : List UInt8) (hd : ∀ j (hj : j < data.length), W.cell? ⟨gr, j, none⟩ = some (Go.Vk.B data[j])) (hgr : gr ∉ F1) (hgw : w.heap.size ≤ gr) (hd0 : 0 < data.length) (hdl : data.length ≤ 8364) (hcd : data.length ≤ cd)
    (hroom : countB data + (L1.head - L1.tail) ≤ L1.n) (hh : L.head + hB + 57 ≤ 1073741824) (hw : D.writes + wB + 10017 < 1099511627776) :
    Calls Tryz.prog 72 #[.pointer (some ⟨C.l, 0, none⟩), .slice (some ⟨gr, 0, none⟩) data.length cd] W fun e w' => e = .returned (.int .i64 0) ∧ ∃ F2 D2 L2 g2, Mid w C D own xc X L N w' F2 ov1 D2 L2 g2 ml lst lc (hB + 17) (wB + 17) := by
  obtain ⟨o1, o2, o3, o4, o5, o6⟩ := h.old
  have hhd := h.hd
  have hwr := h.wr
  have hc17 : countB data ≤ 17 := by unfold countB; omega
  have hksz := h.k.size
  have hmlt := h.M.hm.lt
  refine (h.B.st.append gr cd data hd hgr (fun e => by dsimp only at e; omega) (fun e => by dsimp only at e; omega) hd0 hdl hcd hroom (by omega) (by omega)).mono ?_
  rintro e w' ⟨rfl, F2, D2, g2, S, h2, h3, h4, h5, h6⟩
  refine ⟨rfl, F2, D2, { L1 with head := L1.head + countB data }, g2, ?_⟩
  exact
    { h with
      B := h.B.moved h.X h3 (fun i f => f.elim .inl (fun x => .inr (.inl x))) h2 (fun k hk => hk) h5 S
      X := fun i hi => Nat.lt_of_lt_of_le (h.X i hi) h3.size
      M := h.M.keeps h3 (fun i hi f => by
        obtain ⟨a1, a2, a3⟩ := h.foot i hi
        rcases f with f | f
        · exact a1 f
        · exact a2 f)
      F := fun i hi => (h2 i hi).elim (h.F i) (fun x => .inr (by omega))
      mF := fun x => (h2 _ x).elim h.mF (fun y => by omega)
      k := h.k.trans h3 (fun i hi f => by
        rcases f with f | f
        · exact (h.F i f).elim .inl (fun x => by omega)
        · exact .inr (.inl f))
      hd := by show L1.head + countB data ≤ _; omega
      wr := by omega
      cm := fun b hb => by
        rw [← h.cm b hb]
        have hgb : C.G.home + C.G.blocks ≤ N := h.B.st.gb
        have e1 : D2.now (C.G.home + b) = g2 (C.G.home + b) := S.is.now _ (by omega)
        have e2 : D1.now (C.G.home + b) = g1 (C.G.home + b) := h.B.st.is.now _ (by omega)
        unfold cmtB
        rw [e1, e2, h6 _ (by show C.G.home ≤ _; omega)] }
theorem Mid.lp (h : Mid w C D own xc X L N W F1 ov1 D1 L1 g1 ml lst lc hB wB) : LpRel W { C with F := F1, ov := ov1 } own lst ml lc W.heap.size ov1 C.oc #[] (W.alloc (iterO ml lc #[])) where
  hr := Blk.new _ _
  ho := h.B.tx.ho.keeps ((Keeps.refl (fun _ => False) W).alloc _) (fun _ _ f => f)
  k := (Keeps.refl _ _).alloc _
  sub := fun e he => .inl ⟨e, he, rfl, rfl⟩
  val := fun b => by
    have e0 : restOf (lst.map OEnt.ent) #[] = lst.map OEnt.ent := by simp [restOf]
    rw [e0]
    split
    · rfl
    · rename_i hn
      have : ovOf lst b = none := by
        cases hq : ovOf lst b with
        | none => rfl
        | some x =>
          obtain ⟨e, he, hk⟩ := List.mem_map.1 ((ovOf_keys b).2 ⟨x, hq⟩)
          exact absurd (List.mem_map.2 ⟨e.ent, List.mem_map.2 ⟨e, he, rfl⟩, hk⟩) hn
      rw [this]; rfl
theorem Mid.post (h : Mid w C D own xc X L N W F1 ov1 D1 L1 g1 ml lst lc hB wB) (hb : hB ≤ 17) (hwb : wB ≤ 2100) {wr w' : World} (kl : Keeps (· = C.mo) W wr) {ovk : List OEnt} {ock : Nat} (sub : OvFrom ov1 own ovk) (hv : ∀ b, ovOf ovk b = (ovOf lst b).or (ovOf ov1 b))
    (hF : Both w' { C with F := F1, ov := ovk, oc := ock, op := false } D1 [] xc 0 true X L1 N g1) (hk : Keeps (fun i => i = C.t ∨ i = C.sb ∨ i = C.mx) wr w') : CmPost w C D own xc X L N (.returned (.int .i64 0)) w' := by
  have hhd := h.hd
  have hwr := h.wr
  have hG : ∀ i, i < w.heap.size → i ∈ C.F ∨ i = C.l ∨ i = C.mo → i ∈ C.F ∨ i = C.t ∨ i = C.sb ∨ i = C.mx ∨ i = C.mo ∨ i = C.l := fun i _ f => by
    rcases f with f | f | f
    · exact .inl f
    · exact .inr (.inr (.inr (.inr (.inr f))))
    · exact .inr (.inr (.inr (.inr (.inl f))))
  refine ⟨rfl, F1, ovk, ock, D1, L1, g1, hF, h.F, fun i hi => ?_, ((h.k.mono hG).step (kl.mono fun i _ f => .inr (.inr (.inr (.inr (.inl f)))))).step (hk.mono fun i _ f => ?_), by omega, by omega, fun b hb => ?_⟩
  · rcases sub.foot (mx := C.mx) hi with x | ⟨x, _⟩
    · exact .inl (h.ovfoot i x)
    · exact .inr x
  · rcases f with f | f | f
    · exact .inr (.inl f)
    · exact .inr (.inr (.inl f))
    · exact .inr (.inr (.inr (.inl f)))
  · have hcm := h.cm b hb
    rw [← hcm]
    have hv2 := hv b
    rw [h.val b] at hv2
    unfold chOv at hv2
    rw [← hcm] at hv2
    cases ho : ovOf own b with
    | none =>
      rw [ho] at hv2
      have : ovOf ovk b = ovOf ov1 b := hv2
      unfold cmtB
      rw [this]; rfl
    | some x =>
      rw [ho] at hv2
      replace hv2 : ovOf ovk b = (if cmtB D1 (ovOf ov1) C.G.home b = x then none else some x).or (ovOf ov1 b) := hv2
      by_cases hx : cmtB D1 (ovOf ov1) C.G.home b = x
      · rw [if_pos hx] at hv2
        have hv3 : ovOf ovk b = ovOf ov1 b := hv2
        have : cmtB D1 (ovOf ovk) C.G.home b = cmtB D1 (ovOf ov1) C.G.home b := by unfold cmtB; rw [hv3]
        rw [this, hx]; rfl
      · rw [if_neg hx] at hv2
        have hv3 : ovOf ovk b = some x := hv2
        unfold cmtB
        rw [hv3]; rfl
end
end Go.Vk

namespace Go.Vk
open Go.RowKit Go.Proofs

/-- A record's bytes, ready to be appended. -/
structure RecAt (w W : World) (F1 : List Nat) (gr cap n : Nat) (data : List UInt8) : Prop where
  cells : ∀ j (hj : j < data.length), W.cell? ⟨gr, j, none⟩ = some (B data[j])
  gF : gr ∉ F1
  lo : w.heap.size ≤ gr
  hi : gr < W.heap.size
  len : data.length = n
  cap : n ≤ cap
section
variable {w W W' : World} {C : TxC} {D D1 : DM} {own ov1 lst : List OEnt} {xc lc ml hB wB : Nat} {X : Nat → Prop} {L L1 : LM} {N : Nat} {g g1 : Nat → List UInt8} {F1 : List Nat}
theorem RecAt.calm {gr cap n : Nat} {data : List UInt8} (h : RecAt w W F1 gr cap n data) (kk : Keeps (fun _ => False) W W') : RecAt w W' F1 gr cap n data :=
  { h with
    cells := fun j hj => kk.cellF (h.cells j hj) (fun f => f)
    hi := Nat.lt_of_lt_of_le h.hi kk.size }
theorem Mid.cells (h : Mid w C D own xc X L N W F1 ov1 D1 L1 g1 ml lst lc hB wB) : W.cell? ⟨C.t, 0, none⟩ = some (.pointer (some ⟨C.sb, 0, none⟩)) ∧ W.cell? ⟨C.sb, 1, none⟩ = some (.pointer (some ⟨C.l, 0, none⟩)) ∧ ∀ ty, (Builtin.len_ #[104] ty #[.map (some ml)]).run Tryz.prog W = .ok (.int .i64 lst.length) W := by
  have c0 := h.B.tx.ht.cell 0
  have c1 := h.B.st.hs.cell 1
  simp at c0 c1
  refine ⟨c0, c1, fun ty => ?_⟩
  have := run_len_map (P := Tryz.prog) W 104 ty ml _ _ (by kernel_rfl) h.M.hm
  rw [this]; simp [goInt]
theorem Mid.end0 (h : Mid w C D own xc X L N W F1 ov1 D1 L1 g1 ml lst lc hB wB) (hb : hB ≤ 17) (hwb : wB ≤ 2100) (h0 : lst = []) : Calls Tryz.prog 67 #[.pointer (some ⟨C.t, 0, none⟩)] W fun e w' => e = .returned (.tuple #[]) ∧ CmPost w C D own xc X L N (.returned (.int .i64 0)) w' := by
  refine (h.B.finish (wr := W) (Keeps.refl _ _) h.B.tx.ho (fun e he => .inl ⟨e, he, rfl, rfl⟩)).mono ?_
  rintro e w' ⟨rfl, hF, hk⟩
  exact ⟨rfl, h.post hb hwb (Keeps.refl _ _) (fun e he => .inl ⟨e, he, rfl, rfl⟩) (fun b => by rw [h0]; rfl) hF hk⟩
theorem Mid.pack (h : Mid w C D own xc X L N W F1 ov1 D1 L1 g1 ml lst lc hB wB) (h1 : 1 ≤ lst.length) (hl : own.length ≤ 16) : Calls Tryz.prog 69 #[.map (some ml)] W fun e W' => ∃ gr cap n data, e = .returned (.slice (some ⟨gr, 0, none⟩) n cap) ∧ n = 2 + 516 * lst.length ∧ RecAt w W' F1 gr cap n data ∧ Mid w C D own xc X L N W' F1 ov1 D1 L1 g1 ml lst lc hB wB := by
  have hlen := h.len
  have hgb := h.B.st.gb
  have hN2 := h.B.st.N2
  refine (pack_w h.M h1 (by omega) (fun e he => ?_)).mono ?_
  · obtain ⟨p, hp, hk, _⟩ := h.fr e he
    have := h.B.tx.kb p hp
    rw [hk] at this
    omega
  · rintro e W' ⟨gr, cap, ks, rfl, y1, y2, y3, y4, y5, y6, y7⟩
    have hks := h.k.size
    refine ⟨gr, cap, _, packB ks (ovOf lst), rfl, y3, ⟨y6, fun x => ?_, by omega, y5, rfl, y1⟩, h.calm y7⟩
    have := h.B.st.hd.lt _ x
    omega
theorem Mid.room (h : Mid w C D own xc X L N W F1 ov1 D1 L1 g1 ml lst lc hB wB) : Calls Tryz.prog 70 #[.pointer (some ⟨C.l, 0, none⟩)] W fun e W' => e = .returned (.tuple #[.int .i64 ((L1.n : Int) - ((L1.head : Int) - (L1.tail : Int))), .int .i64 0]) ∧ ∃ m, W' = W.drewN m := by
  have S := h.B.st
  have h1 := S.Ln
  have h2 := S.lg
  have h3 := S.hb
  exact lroom_w S.hl S.hd S.is S.li S.st (by omega) S.th.1 (by omega)
theorem Mid.check (h : Mid w C D own xc X L N W F1 ov1 D1 L1 g1 ml lst lc hB wB) (hw : D.writes + wB + 20000 < 1099511627776) {gr cap n : Nat} {data : List UInt8} (hr : RecAt w W F1 gr cap n data) : Calls Tryz.prog 71 #[.pointer (some ⟨C.sb, 0, none⟩)] W fun e W' => e = .returned (.int .i64 0) ∧ ∃ F2 D2 g2, Mid w C D own xc X L N W' F2 [] D2 (trimL L1) g2 ml lst lc hB (wB + 2049) ∧ RecAt w W' F2 gr cap n data := by
  have hwr := h.wr
  obtain ⟨o1, o2, o3, o4, o5, o6⟩ := h.old
  have hlo := hr.lo
  have hhi := hr.hi
  refine (checkpoint_ok h.B.st (by omega)).mono ?_
  rintro e W' ⟨rfl, hc⟩
  obtain ⟨F2, D2, g2, S, h2, h3, h4, h5⟩ := id hc
  obtain ⟨F3, D3, g3, hM, hF3⟩ := h.ck hc
  exact ⟨rfl, F3, D3, g3, hM, { hr with
    cells := fun j hj => h3.cellG (hr.cells j hj) (fun f => by
      rcases f with f | f | f
      · exact hr.gF f
      · dsimp only at f; omega
      · dsimp only at f; omega)
    gF := fun x => (hF3 _ x).elim hr.gF (fun y => by omega)
    hi := Nat.lt_of_lt_of_le hr.hi h3.size }⟩
theorem Mid.appd (h : Mid w C D own xc X L N W F1 ov1 D1 L1 g1 ml lst lc hB wB) {gr cap n : Nat} {data : List UInt8} (hr : RecAt w W F1 gr cap n data) (hn : 0 < n ∧ n ≤ 8364) (hroom : (n + 491) / 492 + (L1.head - L1.tail) ≤ L1.n) (hh : L.head + hB + 57 ≤ 1073741824) (hw : D.writes + wB + 10017 < 1099511627776) :
    Calls Tryz.prog 72 #[.pointer (some ⟨C.l, 0, none⟩), .slice (some ⟨gr, 0, none⟩) n cap] W fun e w' => e = .returned (.int .i64 0) ∧ ∃ F2 D2 L2 g2, Mid w C D own xc X L N w' F2 ov1 D2 L2 g2 ml lst lc (hB + 17) (wB + 17) := by
  have hl := hr.len
  subst hl
  exact h.app gr cap data hr.cells hr.gF hr.lo hn.1 hn.2 hr.cap (by unfold countB; exact hroom) hh hw
theorem Mid.done (h : Mid w C D own xc X L N W F1 ov1 D1 L1 g1 ml lst lc hB wB) (hb : hB ≤ 17) (hwb : wB ≤ 2100) {ovk : List OEnt} {ock : Nat} {seen : Array Nat} {wr : World} (hR : LpRel W { C with F := F1, ov := ov1 } own lst ml lc W.heap.size ovk ock seen wr) (hd : restOf (lst.map OEnt.ent) seen = []) : Calls Tryz.prog 67 #[.pointer (some ⟨C.t, 0, none⟩)] wr fun e w' => e = .returned (.tuple #[]) ∧ CmPost w C D own xc X L N (.returned (.int .i64 0)) w' := by
  refine (h.B.finish hR.k hR.ho hR.sub).mono ?_
  rintro e w' ⟨rfl, hF, hk⟩
  exact ⟨rfl, h.post hb hwb hR.k hR.sub (fun b => by rw [hR.val b, hd]; rfl) hF hk⟩
set_option maxRecDepth 100000 in
set_option maxHeartbeats 4000000 in
theorem commit_w (h : Both w C D own xc 0 false X L N g) (hX : ∀ i, X i → i < w.heap.size) (hcnt : own.length ≤ 16) (hh : L.head + 100 ≤ 1073741824) (hw : D.writes + 40000 < 1099511627776) :
    Calls Tryz.prog 36 #[.pointer (some ⟨C.t, 0, none⟩)] w (CmPost w C D own xc X L N) := by
  have hSt := state_w h.tx.ht h.tx.hs h.tx.hd
  have hE : txState D C.G.life 0 false = 0 := by unfold txState; rw [h.live]; rfl
  rw [hE] at hSt
  have hCh : ∀ n, Calls Tryz.prog 68 #[.pointer (some ⟨C.t, 0, none⟩)] (w.drewN n) fun e W => ∃ ml lst lc j, e = .returned (.tuple #[.map (some ml), .int .i64 0]) ∧ Mid w C D own xc X L N W C.F C.ov (D.readedN j) L g ml lst lc 0 0 := fun n => (changed_w (h.calm hX ((Keeps.refl _ _).drewN n)).tx h.st.is.burnt).mono (fun e W hc => Mid.start h hX hc)
  have hLn : L.n = C.G.lg := h.st.Ln
  have hlg := h.st.lg
  have hth := h.st.th
  generalize hPost : CmPost w C D own xc X L N = Post at *
  have hPc : ∀ e w', CmPost w C D own xc X L N e w' → Post e w' := fun e w' x => by rw [← hPost]; exact x
  replace h := hid h; replace hX := hid hX; replace hSt := hid hSt; replace hE := hid hE; replace hCh := hid hCh; replace hPost := hid hPost; replace hPc := hid hPc
  go_enter Tryz.func36, Tryz.ntmps36
  go_upto_region 5 with (first
    | (go_at_call 18; refine hSt.out.mono ?_; rintro e w1 ⟨rfl, m, rfl⟩)
    | (go_at_call 68; refine (hCh.out _).mono ?_; rintro e W ⟨ml, lst, lc, j, rfl, hM⟩; replace hM := hid hM))
  clear hCh hSt
  obtain ⟨c0, c1, clen⟩ := hM.out.cells
  have hlen := hM.out.len
  obtain ⟨ln, hln⟩ : ∃ ln, lst.length = ln := ⟨_, rfl⟩
  rw [hln] at clen hlen
  by_cases hl0 : ln = 0
  · have hEnd := hM.out.end0 (by omega) (by omega) (List.eq_nil_of_length_eq_zero (hln.trans hl0))
    subst hl0
    replace hEnd := hid hEnd; replace hln := hid hln
    go_wp2_with (go_at_call 67; refine hEnd.out.mono ?_; rintro e w4 ⟨rfl, hF⟩; replace hF := hid (hPc.out _ _ hF))
    exact hF.out
  · have hPk := hM.out.pack (by omega) hcnt
    rw [hln] at hPk
    have hnz : ¬ (ln : Int) = 0 := by omega
    replace hPk := hid hPk; replace hln := hid hln; replace c0 := hid c0; replace c1 := hid c1
    go_upto_region 11 with (go_at_call 69; refine hPk.out.mono ?_; rintro e W2 ⟨gr, cap, n, data, rfl, hn, hRec, hM2⟩; replace hn := hid hn; replace hRec := hid hRec; replace hM2 := hid hM2)
    clear hPk clen c0 c1 hM
    obtain ⟨c0, c1, _⟩ := hM2.out.cells
    have hRm := hM2.out.room
    have hnb : 0 < n ∧ n ≤ 8364 := by have := hn.out; omega
    obtain ⟨c, hc⟩ : ∃ c, (n + 491) / 492 = c := ⟨_, rfl⟩
    have hx1 : ((n : Int) + 491) / 492 = (c : Int) := by omega
    have hx2 : ((n : Int) + 492 - 1) / 492 = (c : Int) := by omega
    have hc17 : c ≤ 17 := by omega
    have hrmv : ∃ rm : Int, (L.n : Int) - ((L.head : Int) - (L.tail : Int)) = rm ∧ -1073741824 ≤ rm ∧ rm ≤ 4096 ∧ (¬ rm < (c : Int) → c + (L.head - L.tail) ≤ L.n) := ⟨_, rfl, by omega, by omega, by omega⟩
    obtain ⟨rm, hrm, hrb, hrb2, hroom⟩ := hrmv
    rw [hrm] at hRm
    replace hRm := hid hRm; replace hx1 := hid hx1; replace hx2 := hid hx2; replace hc := hid hc; replace hn := hid hn; replace hrm := hid hrm; replace hroom := hid hroom
    go_upto_region 12 with (go_at_call 70; refine hRm.out.mono ?_; rintro e W3 ⟨rfl, m, rfl⟩)
    have hM3 := hM2.out.calm ((Keeps.refl _ _).drewN m)
    have hR3 := hRec.out.calm ((Keeps.refl (fun _ => False) _).drewN m)
    generalize W2.drewN m = W3 at *
    clear hRm c0 c1
    obtain ⟨c0, c1, _⟩ := hM3.cells
    have hq1 : ((n : Int) + 491) / 492 = (c : Int) := hx1.out
    by_cases hlt : rm < (c : Int)
    · have hCk := hM3.check (by omega) hR3
      have htl : (trimL L).n = L.n ∧ (trimL L).tail = (trimL L).head := by
        unfold trimL
        split
        · exact ⟨rfl, by assumption⟩
        · exact ⟨rfl, rfl⟩
      have hroom2 : c + ((trimL L).head - (trimL L).tail) ≤ (trimL L).n := by rw [htl.1, htl.2, hLn]; omega
      replace hM3 := hid hM3; replace hR3 := hid hR3; replace hCk := hid hCk; replace htl := hid htl; replace hroom2 := hid hroom2
      go_upto_region 18 with (go_at_call 71; refine hCk.out.mono ?_; rintro e W4 ⟨rfl, F4, D4, g4, hM4, hR4⟩; replace hM4 := hid hM4; replace hR4 := hid hR4)
      clear c0 c1
      obtain ⟨c0, c1, _⟩ := (hM4.out).cells
      have hAp := (hM4.out).appd (hR4.out) hnb (by rw [hc.out]; exact hroom2.out) (by omega) (by omega)
      replace hAp := hid hAp
      go_upto_region 21 with (go_at_call 72; refine hAp.out.mono ?_; rintro e W5 ⟨rfl, F5, D5, L5, g5, hM5⟩; replace hM5 := hid hM5)
      have hrg := run_range und138 hM5.out.M.hm
      have hst := hM5.out.lp
      have hB5 := hM5.out.B
      have hbn : ((lst.map OEnt.ent).map (·.2.2)).Nodup := by simpa [List.map_map, Function.comp_def, OEnt.ent] using hM5.out.M.borns
      have hck : ∀ x ∈ lst.map OEnt.ent, x.2.2 < lc := fun x hx => by obtain ⟨e, he, rfl⟩ := List.mem_map.1 hx; exact hM5.out.M.clk e he
      have hmlt := hM5.out.M.hm.lt
      have hmmo := (hM5.out.foot ml (by simp [mapFoot])).2.2
      have hDn := fun ovk ock seen wr => hM5.out.done (by omega) (by omega) (ovk := ovk) (ock := ock) (seen := seen) (wr := wr)
      replace hst := hid hst; replace hB5 := hid hB5; replace hbn := hid hbn; replace hck := hid hck; replace hmmo := hid hmmo; replace hDn := hid hDn
      go_wp2
      go_loopw [10] (fun _ wr => ∃ ovk ock seen, LpRel W5 _ own lst ml lc W5.heap.size ovk ock seen wr) (fun _ wr => iterLeft (lst.map OEnt.ent) W5.heap.size wr)
      case atStart => exact ⟨_, _, _, hst.out⟩
      case round =>
        obtain ⟨ovk, ock, seen, hR⟩ := hrel
        clear hst
        have hmb := hR.k.blk hM5.out.M.hm hmmo.out
        go_wp2_with (at_next; refine wpList_nextV rfl (.tmp 74) rfl W5.heap.size ml lc (lst.map OEnt.ent) seen rfl hR.hr hmb hck.out ?_ ?_)
        · intro hdone
          have hEnd := hDn.out _ _ _ _ hR hdone
          replace hR := hid hR; replace hEnd := hid hEnd; replace hdone := hid hdone; replace hmb := hid hmb
          go_wp2_with (go_at_call 67; refine hEnd.out.mono ?_; rintro e w4 ⟨rfl, hF⟩; replace hF := hid (hPc.out _ _ hF))
          exact hF.out
        · rintro ka va ba hx w' hr' hk' hs'
          obtain ⟨q, hq, hqe⟩ := List.mem_map.1 (mem_restOf hx).1
          have ha : q.key = ka := congrArg (·.1) hqe
          have hv : q.val = va := congrArg (·.2.1) hqe
          have hbo : q.born = ba := congrArg (·.2.2) hqe
          subst ha hv hbo
          have hm' := hk'.blk hmb (fun e => by omega)
          have hen := run_entryV (P := Tryz.prog) (x := q.ent) hr' hm' (mem_restOf hx).1 hbn.out
          replace hen : (Instr.entry (.pointer (some ⟨W5.heap.size, 0, none⟩))).run Tryz.prog w' = .ok (.tuple #[.int .i64 q.key, q.val]) w' := hen
          obtain ⟨hc0, hc8, w3, o3, c3, hup, hF⟩ := LpRel.step hB5.out hM5.out.M hM5.out.fr (Nat.le_refl _) hR hx hq hr' hk'
          have hles := restOf_lt hx
          have hit : iterLeft (lst.map OEnt.ent) W5.heap.size w3 < iterLeft (lst.map OEnt.ent) W5.heap.size wr := by rw [iterLeft_eq hF.hr, iterLeft_eq hR.hr]; exact hles
          unfold OEnt.val at hen
          generalize q.blk = qb at *
          generalize q.cap = qc at *
          replace hR := hid hR; replace hx := hid hx; replace hq := hid hq; replace hr' := hid hr'; replace hk' := hid hk'; replace hs' := hid hs'; replace hm' := hid hm'; replace hmb := hid hmb; replace hles := hid hles; replace hit := hid hit; replace hqe := hid hqe; replace hF := hid hF
          go_wp2
          exact ⟨⟨_, _, _, hF.out⟩, hit.out⟩
    · have hroom2 := hroom.out (by omega)
      replace hM3 := hid hM3; replace hR3 := hid hR3; replace hroom2 := hid hroom2
      go_upto_region 18 with fail
      clear c0 c1
      obtain ⟨c0, c1, _⟩ := (hM3.out).cells
      have hAp := (hM3.out).appd (hR3.out) hnb (by rw [hc.out]; exact hroom2.out) (by omega) (by omega)
      replace hAp := hid hAp
      go_upto_region 21 with (go_at_call 72; refine hAp.out.mono ?_; rintro e W5 ⟨rfl, F5, D5, L5, g5, hM5⟩; replace hM5 := hid hM5)
      have hrg := run_range und138 hM5.out.M.hm
      have hst := hM5.out.lp
      have hB5 := hM5.out.B
      have hbn : ((lst.map OEnt.ent).map (·.2.2)).Nodup := by simpa [List.map_map, Function.comp_def, OEnt.ent] using hM5.out.M.borns
      have hck : ∀ x ∈ lst.map OEnt.ent, x.2.2 < lc := fun x hx => by obtain ⟨e, he, rfl⟩ := List.mem_map.1 hx; exact hM5.out.M.clk e he
      have hmlt := hM5.out.M.hm.lt
      have hmmo := (hM5.out.foot ml (by simp [mapFoot])).2.2
      have hDn := fun ovk ock seen wr => hM5.out.done (by omega) (by omega) (ovk := ovk) (ock := ock) (seen := seen) (wr := wr)
      replace hst := hid hst; replace hB5 := hid hB5; replace hbn := hid hbn; replace hck := hid hck; replace hmmo := hid hmmo; replace hDn := hid hDn
      go_wp2
      go_loopw [10] (fun _ wr => ∃ ovk ock seen, LpRel W5 _ own lst ml lc W5.heap.size ovk ock seen wr) (fun _ wr => iterLeft (lst.map OEnt.ent) W5.heap.size wr)
      case atStart => exact ⟨_, _, _, hst.out⟩
      case round =>
        obtain ⟨ovk, ock, seen, hR⟩ := hrel
        clear hst
        have hmb := hR.k.blk hM5.out.M.hm hmmo.out
        go_wp2_with (at_next; refine wpList_nextV rfl (.tmp 74) rfl W5.heap.size ml lc (lst.map OEnt.ent) seen rfl hR.hr hmb hck.out ?_ ?_)
        · intro hdone
          have hEnd := hDn.out _ _ _ _ hR hdone
          replace hR := hid hR; replace hEnd := hid hEnd; replace hdone := hid hdone; replace hmb := hid hmb
          go_wp2_with (go_at_call 67; refine hEnd.out.mono ?_; rintro e w4 ⟨rfl, hF⟩; replace hF := hid (hPc.out _ _ hF))
          exact hF.out
        · rintro ka va ba hx w' hr' hk' hs'
          obtain ⟨q, hq, hqe⟩ := List.mem_map.1 (mem_restOf hx).1
          have ha : q.key = ka := congrArg (·.1) hqe
          have hv : q.val = va := congrArg (·.2.1) hqe
          have hbo : q.born = ba := congrArg (·.2.2) hqe
          subst ha hv hbo
          have hm' := hk'.blk hmb (fun e => by omega)
          have hen := run_entryV (P := Tryz.prog) (x := q.ent) hr' hm' (mem_restOf hx).1 hbn.out
          replace hen : (Instr.entry (.pointer (some ⟨W5.heap.size, 0, none⟩))).run Tryz.prog w' = .ok (.tuple #[.int .i64 q.key, q.val]) w' := hen
          obtain ⟨hc0, hc8, w3, o3, c3, hup, hF⟩ := LpRel.step hB5.out hM5.out.M hM5.out.fr (Nat.le_refl _) hR hx hq hr' hk'
          have hles := restOf_lt hx
          have hit : iterLeft (lst.map OEnt.ent) W5.heap.size w3 < iterLeft (lst.map OEnt.ent) W5.heap.size wr := by rw [iterLeft_eq hF.hr, iterLeft_eq hR.hr]; exact hles
          unfold OEnt.val at hen
          generalize q.blk = qb at *
          generalize q.cap = qc at *
          replace hR := hid hR; replace hx := hid hx; replace hq := hid hq; replace hr' := hid hr'; replace hk' := hid hk'; replace hs' := hid hs'; replace hm' := hid hm'; replace hmb := hid hmb; replace hles := hid hles; replace hit := hid hit; replace hqe := hid hqe; replace hF := hid hF
          go_wp2
          exact ⟨⟨_, _, _, hF.out⟩, hit.out⟩
end
end Go.Vk
