/- slices.Sort at ints: the shelf's contract, laid at this program by the kit's lay-shelf and lay-plain. The walk of numbers of package store: a map's keys, sorted. The walk of home of package store, where all is well. The walk of Checkpoint of package store, where all is well. -/
import Derived.Test.YtceodjgajkimnaaGreatNF
import Derived.Test.YtceodjgajkimnaaGreatML
import Derived.Test.YtceodjgajkimnaaGreatMH
import Derived.Test.YtceodjgajkimnaaGreatMK
import Derived.Shelf.Sort.Plain
import Derived.Shelf.Slices.In.SortNone
import Derived.Sort.OwnSortedInts
set_option linter.unusedVariables false

namespace Go.Proofs
open Go.Shelf
def Vk.lays189_ren : Go.Shelf.Ren := ⟨fun | 189 => 136 | 125 => 174 | 257 => 173 | 128 => 204 | 129 => 205 | 294 => 195 | 295 => 196 | 296 => 197 | 297 => 198 | 298 => 199 | 299 => 200 | 216 => 201 | 300 => 202 | 301 => 203 | 328 => 212 | 329 => 213 | 330 => 214 | 331 => 215 | 332 => 216 | 215 => 217 | 343 => 220 | n => n, fun | 28 => 49 | 3 => 3 | 46 => 129 | 0 => 0 | 51 => 252 | 53 => 254 | 4 => 4 | 183 => 244 | 182 => 243 | 131 => 249 | 5 => 5 | 9 => 9 | 218 => 268 | 222 => 272 | 228 => 276 | 229 => 28 | n => n, fun | n => n⟩
theorem Vk.lays189 : Go.Proofs.Lays.n189 Tryz.prog Vk.lays189_ren := {
  mixed := by kernel_rfl
  f125 := Tryz.func174.trans (congrArg some (by kernel_rfl))
  f128 := Tryz.func204.trans (congrArg some (by kernel_rfl))
  f129 := Tryz.func205.trans (congrArg some (by kernel_rfl))
  f189 := Tryz.func136.trans (congrArg some (by kernel_rfl))
  f215 := Tryz.func217.trans (congrArg some (by kernel_rfl))
  f216 := Tryz.func201.trans (congrArg some (by kernel_rfl))
  f257 := Tryz.func173.trans (congrArg some (by kernel_rfl))
  f294 := Tryz.func195.trans (congrArg some (by kernel_rfl))
  f295 := Tryz.func196.trans (congrArg some (by kernel_rfl))
  f296 := Tryz.func197.trans (congrArg some (by kernel_rfl))
  f297 := Tryz.func198.trans (congrArg some (by kernel_rfl))
  f298 := Tryz.func199.trans (congrArg some (by kernel_rfl))
  f299 := Tryz.func200.trans (congrArg some (by kernel_rfl))
  f300 := Tryz.func202.trans (congrArg some (by kernel_rfl))
  f301 := Tryz.func203.trans (congrArg some (by kernel_rfl))
  f328 := Tryz.func212.trans (congrArg some (by kernel_rfl))
  f329 := Tryz.func213.trans (congrArg some (by kernel_rfl))
  f330 := Tryz.func214.trans (congrArg some (by kernel_rfl))
  f331 := Tryz.func215.trans (congrArg some (by kernel_rfl))
  f332 := Tryz.func216.trans (congrArg some (by kernel_rfl))
  f343 := Tryz.func220.trans (congrArg some (by kernel_rfl))
  t0 := Tryz.underlying0
  a0 := Tryz.isAgg0
  z0 := Tryz.sizeOf0
  v0 := Tryz.zeroValue0
  t3 := Tryz.underlying3
  a3 := Tryz.isAgg3
  z3 := Tryz.sizeOf3
  v3 := Tryz.zeroValue3
  t4 := Tryz.underlying4
  a4 := Tryz.isAgg4
  z4 := Tryz.sizeOf4
  v4 := Tryz.zeroValue4
  t5 := Tryz.underlying5
  a5 := Tryz.isAgg5
  z5 := Tryz.sizeOf5
  v5 := Tryz.zeroValue5
  t9 := Tryz.underlying9
  a9 := Tryz.isAgg9
  z9 := Tryz.sizeOf9
  v9 := Tryz.zeroValue9
  t28 := Tryz.underlying49
  a28 := Tryz.isAgg49
  z28 := Tryz.sizeOf49
  v28 := Tryz.zeroValue49
  t46 := Tryz.underlying129
  a46 := Tryz.isAgg129
  z46 := Tryz.sizeOf129
  v46 := Tryz.zeroValue129
  t51 := Tryz.underlying252
  a51 := Tryz.isAgg252
  z51 := Tryz.sizeOf252
  v51 := Tryz.zeroValue252
  t53 := Tryz.underlying254
  a53 := Tryz.isAgg254
  z53 := Tryz.sizeOf254
  v53 := Tryz.zeroValue254
  t131 := Tryz.underlying249
  a131 := Tryz.isAgg249
  z131 := Tryz.sizeOf249
  v131 := Tryz.zeroValue249
  t182 := Tryz.underlying243
  a182 := Tryz.isAgg243
  z182 := Tryz.sizeOf243
  v182 := Tryz.zeroValue243
  t183 := Tryz.underlying244
  a183 := Tryz.isAgg244
  z183 := Tryz.sizeOf244
  v183 := Tryz.zeroValue244
  t218 := Tryz.underlying268
  a218 := Tryz.isAgg268
  z218 := Tryz.sizeOf268
  v218 := Tryz.zeroValue268
  t222 := Tryz.underlying272
  a222 := Tryz.isAgg272
  z222 := Tryz.sizeOf272
  v222 := Tryz.zeroValue272
  t228 := Tryz.underlying276
  a228 := Tryz.isAgg276
  z228 := Tryz.sizeOf276
  v228 := Tryz.zeroValue276
  t229 := Tryz.underlying28
  a229 := Tryz.isAgg28
  z229 := Tryz.sizeOf28
  v229 := Tryz.zeroValue28 }
open Go.Sort Go.RowKit in
theorem Vk.slices_Sort_int (blk off cap : Nat) (zs : List Int) (w : World) (hH : Holds (Value.int .i64) w blk off zs.toArray) (hblk : blk < w.heap.size) (hsz : zs.length < 4611686018427387904) :
    Calls Tryz.prog 136 #[.slice (some ⟨blk, off, none⟩) zs.length cap] w fun e w' =>
      e = .returned (.tuple #[]) ∧ ∃ n os, w' = grow (putRow (Value.int .i64) (Sort.ahead w n) blk off (zs.mergeSort fun x y => decide (x ≤ y)).toArray) os := Any.slices_Sort_int Vk.lays189 blk off cap zs w hH hblk hsz
open Go.RowKit Go.Sort in
/-- .. and plain. (LAID: no walk: one application.) -/
theorem Vk.slices_Sort_int_none (p : Option Addr) (cap : Nat) (w : World) :
    Calls Tryz.prog 136 #[.slice p 0 cap] w fun e w' => e = .returned (.tuple #[]) ∧ w' = w := Any.slices_Sort_int_none Vk.lays189 p cap w
end Go.Proofs

namespace Go.Vk
open Go.RowKit Go.Proofs

theorem perm_left {x : Ent} : ∀ {l : List Ent}, (l.map (·.2.2)).Nodup → x ∈ l → l.Perm (x :: l.filter fun y => !(y.2.2 == x.2.2))
  | [], _, h => by cases h
  | y :: l, hn, h => by
    rw [List.map_cons, List.nodup_cons] at hn
    rcases List.mem_cons.1 h with e | e
    · subst e
      have : (x :: l).filter (fun y => !(y.2.2 == x.2.2)) = l := by
        rw [List.filter_cons_of_neg (by simp)]
        rw [List.filter_eq_self]
        intro y hy
        have : y.2.2 ≠ x.2.2 := fun e => hn.1 (e ▸ List.mem_map.2 ⟨y, hy, rfl⟩)
        simp [this]
      rw [this]
    · have hne : y.2.2 ≠ x.2.2 := fun e' => hn.1 (e' ▸ List.mem_map.2 ⟨x, e, rfl⟩)
      rw [List.filter_cons_of_pos (by simp [hne])]
      exact ((perm_left hn.2 e).cons y).trans (List.Perm.swap _ _ _)
theorem restOf_push (l : List Ent) (seen : Array Nat) (b : Nat) : restOf l (seen.push b) = (restOf l seen).filter fun y => !(y.2.2 == b) := by
  simp only [restOf, List.filter_filter]
  refine List.filter_congr fun y _ => ?_
  rw [Bool.eq_iff_iff]
  simp
  exact And.comm
/-- Where the collecting stands. -/
structure NumRel (w : World) (m clock r : Nat) (es : List OEnt) (v : Value) (ks : List Nat) (seen : Array Nat) (wr : World) : Prop where
  hm : Blk wr m (mapO (es.map OEnt.ent) clock)
  hr : Blk wr r (iterO m clock seen)
  row : IntRow wr 0 v ks
  lo : ∀ g, v.ownBlock = some g → w.heap.size < g
  k : Keeps (fun _ => False) w wr
  p : (ks ++ (restOf (es.map OEnt.ent) seen).map (·.1)).Perm (es.map (·.key))
section
variable {w : World} {m clock : Nat} {es : List OEnt}
theorem holds_of_row {W : World} {g n cap : Nat} {ks : List Nat} (h : IntRow W 0 (.slice (some ⟨g, 0, none⟩) n cap) ks) (hn : n = ks.length) : Sort.Holds (Value.int .i64) W g 0 (ks.map Int.ofNat).toArray ∧ g < W.heap.size ∧
    ∀ n' os (ts : List Int), ts.length = ks.length → (Sort.grow (Sort.putRow (Value.int .i64) (Sort.ahead W n') g 0 ts.toArray) os).ownsRow 0 3 1 (.slice (some ⟨g, 0, none⟩) n cap) n (ts.map (Value.int .i64)) := by
  subst hn
  unfold IntRow at h
  rcases h.2 with ⟨h1, _⟩ | ⟨g', cap', cur, e, _, hb, h1, h2, h3, h4⟩
  · cases h1
  · injection e with e1 _ e3
    injection e1 with e1
    injection e1 with e1
    subst e1 e3
    have ht : cur.toList.take (ks.map Int.ofNat).length = (ks.map Int.ofNat).map (Value.int .i64) := by
      rw [List.length_map, List.map_map]
      rw [Nat.mul_one] at h4
      rw [h4]
      exact List.map_congr_left fun _ _ => rfl
    refine ⟨holds_of_blockI hb ht, ?_, fun n' os ts hl => ?_⟩
    · exact (Array.getElem?_eq_some_iff.1 hb).1
    · have := ownsRow_sortedI (w := W) (n := n') (os := os) (ss := ks.map Int.ofNat) (ts := ts) (base := 0) (e := 3) (by rw [List.length_map]; exact hl) (Nat.zero_le _) hb (by rw [List.length_map]; exact h1) h2 h3
      rw [List.length_map] at this
      exact this
def NumPost (w : World) (es : List OEnt) (e : Ending) (w' : World) : Prop := ∃ v ks, e = .returned v ∧ IntRow w' 0 v ks ∧ (∀ g, v.ownBlock = some g → w.heap.size ≤ g) ∧ ks.Perm (es.map (·.key)) ∧ Keeps (fun _ => False) w w'
theorem sort_w {r : Nat} {v : Value} {ks : List Nat} {seen : Array Nat} {wr : World} (h : NumRel w m clock r es v ks seen wr) (hd : restOf (es.map OEnt.ent) seen = []) (hl : es.length ≤ 4096) : ∃ a n cap, v = .slice a n cap ∧ Calls Tryz.prog 136 #[v] wr fun e w' => e = .returned (.tuple #[]) ∧ NumPost w es (.returned v) w' := by
  have hp := h.p
  rw [hd, List.map_nil, List.append_nil] at hp
  have hk := hp.length_eq
  rw [List.length_map] at hk
  rcases h.row.shape with ⟨rfl, rfl⟩ | ⟨g, cap, rfl, h1, h2, h3⟩
  · refine ⟨none, 0, 0, rfl, (Go.Proofs.Vk.slices_Sort_int_none none 0 wr).mono ?_⟩
    rintro e w' ⟨rfl, rfl⟩
    exact ⟨rfl, _, _, rfl, h.row, (fun g e => by cases e), hp, h.k⟩
  · obtain ⟨a1, a2, a3⟩ := holds_of_row h.row rfl
    refine ⟨_, _, _, rfl, ?_⟩
    have := Go.Proofs.Vk.slices_Sort_int g 0 cap (ks.map Int.ofNat) wr a1 a2 (by rw [List.length_map]; omega)
    rw [List.length_map] at this
    refine this.mono ?_
    rintro e w' ⟨rfl, n, os, rfl⟩
    have hpm : ((ks.map Int.ofNat).mergeSort fun x y => decide (x ≤ y)).Perm (ks.map Int.ofNat) := List.mergeSort_perm _ _
    have hrow := a3 n os ((ks.map Int.ofNat).mergeSort fun x y => decide (x ≤ y)) (by rw [hpm.length_eq, List.length_map])
    obtain ⟨ts, hts⟩ : ∃ ts : List Nat, ((ks.map Int.ofNat).mergeSort fun x y => decide (x ≤ y)) = ts.map Int.ofNat := by
      refine ⟨((ks.map Int.ofNat).mergeSort fun x y => decide (x ≤ y)).map Int.toNat, ?_⟩
      rw [List.map_map]
      symm
      have : ∀ z ∈ ((ks.map Int.ofNat).mergeSort fun x y => decide (x ≤ y)), (Int.ofNat ∘ Int.toNat) z = z := fun z hz => by
        obtain ⟨k, _, rfl⟩ := List.mem_map.1 (hpm.mem_iff.1 hz)
        simp
      calc _ = ((ks.map Int.ofNat).mergeSort fun x y => decide (x ≤ y)).map id := List.map_congr_left this
        _ = _ := List.map_id _
    rw [hts] at hpm hrow
    have hpt : ts.Perm ks := by
      have := hpm.map Int.toNat
      simpa [List.map_map, Function.comp_def] using this
    refine ⟨rfl, _, ts, rfl, ?_, (fun g' e => Nat.le_of_lt (h.lo g' e)), hpt.trans hp, h.k.grown (grownBy_sortedI (n := n) (os := os) _) (fun k e => .inr (by have := h.lo g rfl; have : g = k := Option.some.inj e; omega))⟩
    unfold IntRow
    rw [hpt.length_eq, hts]
    rw [List.map_map] at hrow
    exact hrow
set_option maxRecDepth 100000 in
set_option maxHeartbeats 2000000 in
theorem numbers_w (h : MapAt w m es clock) (hl : es.length ≤ 4096) : Calls Tryz.prog 120 #[.map (some m)] w (NumPost w es) := by
  obtain ⟨i0, hi0, hz0, hz1, hz2⟩ := info_parts infoInt
  have hrg := run_range und138 h.hm
  have hbn : ((es.map OEnt.ent).map (·.2.2)).Nodup := by
    have := h.borns
    simpa [List.map_map, Function.comp_def, OEnt.ent] using this
  have hck : ∀ x ∈ es.map OEnt.ent, x.2.2 < clock := fun x hx => by obtain ⟨e, he, rfl⟩ := List.mem_map.1 hx; exact h.clk e he
  have hkk : (es.map OEnt.ent).map (·.1) = es.map (·.key) := by simp [List.map_map, Function.comp_def, OEnt.ent]
  have hst : NumRel w m clock w.heap.size es (.slice none 0 0) [] #[] (w.alloc (iterO m clock #[])) :=
    ⟨h.hm.alloc _, Blk.new _ _, World.ownsRow_nil _ _ _ _, (fun g e => by cases e), (Keeps.refl _ _).alloc _, by
      have : restOf (es.map OEnt.ent) #[] = es.map OEnt.ent := by simp [restOf]
      rw [this, List.nil_append, hkk]⟩
  have hsort := fun r v ks seen wr (hR : NumRel w m clock r es v ks seen wr) hd => sort_w hR hd hl
  generalize hr : w.heap.size = r at hst
  have hnum : ∀ W v, NumPost w es (.returned v) W → NumPost w es (.returned v) W := fun _ _ x => x
  generalize NumPost w es = Post at *
  replace h := hid h; replace hl := hid hl; replace hi0 := hid hi0; replace hz0 := hid hz0; replace hz1 := hid hz1; replace hz2 := hid hz2; replace hbn := hid hbn; replace hck := hid hck; replace hkk := hid hkk; replace hst := hid hst; replace hsort := hid hsort; replace hr := hid hr; replace hnum := hid hnum
  go_enter Tryz.func120, Tryz.ntmps120
  go_wp2
  rw [hr.out]
  go_loopw [3] (fun v' wr => ∃ v ks seen, v = v' ∧ NumRel w m clock r es v ks seen wr) (fun _ wr => iterLeft (es.map OEnt.ent) r wr)
  case atStart => exact ⟨_, _, _, rfl, hst.out⟩
  case round =>
    obtain ⟨v, ks, seen, rfl, hR⟩ := hrel
    clear hst
    go_wp2_with (at_next; refine wpList_nextV rfl (.tmp 6) rfl r m clock (es.map OEnt.ent) seen rfl hR.hr hR.hm hck.out ?_ ?_)
    · intro hdone
      obtain ⟨a, n, cap, rfl, hS⟩ := hsort.out _ _ _ _ _ hR hdone
      replace hR := hid hR; replace hS := hid hS; replace hdone := hid hdone
      go_wp2_with (go_at_call 136; refine hS.out.mono ?_; rintro e w5 ⟨rfl, hF⟩; replace hF := hid hF)
      exact hF.out
    · rintro ka va ba hx w' hr' hk' hs'
      obtain ⟨q, hq, hqe⟩ := List.mem_map.1 (mem_restOf hx).1
      have ha : q.key = ka := congrArg (·.1) hqe
      have hm' := hk'.blk hR.hm (fun e => by have h1 := hR.hm; have h2 := hR.hr; rw [e] at h1; unfold Blk at h1 h2; rw [h2] at h1; cases h1)
      have hen := run_entryV (P := Tryz.prog) (x := (ka, va, ba)) hr' hm' (mem_restOf hx).1 hbn.out
      have hrow' : IntRow w' 0 v ks := hR.row.keeps hk' (fun g e => by have := hR.lo g e; have := hr.out; omega)
      have hkl : ks.length ≤ 4096 := by
        have h1 := hR.p.length_eq
        simp only [List.length_append, List.length_map] at h1
        have := hl.out
        omega
      have hfin : ∀ g' cap' w3, w3.ownsRow 0 3 1 (.slice (some ⟨g', 0, none⟩) (ks.length + 1) cap') (ks.length + 1) (ks.map natV ++ [.int .i64 ka]) → (w'.alloc (.cells #[.int .i64 ka] 3 (0, 0))).grownBy w3 v.ownBlock → (v.ownBlock = some g' ∧ w3.heap.size = (w'.alloc (.cells #[.int .i64 ka] 3 (0, 0))).heap.size ∨ g' = (w'.alloc (.cells #[.int .i64 ka] 3 (0, 0))).heap.size) →
          NumRel w m clock r es (.slice (some ⟨g', 0, none⟩) (ks.length + 1) cap') (ks ++ [ka]) (seen.push ba) w3 := by
        intro g' cap' w3 hrow3 hgr3 hor
        have hA : Keeps (· = r) wr (w'.alloc (.cells #[.int .i64 ka] 3 (0, 0))) := hk'.alloc _
        have hAs := hA.size
        have hks := hR.k.size
        have k3 : Keeps (fun i => i = r ∨ v.ownBlock = some i) wr w3 := (hA.mono fun _ _ e => .inl e).grown hgr3 (fun k e => .inl (.inr e))
        have hmr : m ≠ r := fun e => by have h1 := hR.hm; have h2 := hR.hr; rw [e] at h1; unfold Blk at h1 h2; rw [h2] at h1; cases h1
        have hmlt := h.out.hm.lt
        have hrr := hr.out
        have kg : Keeps (fun i => v.ownBlock = some i) w' w3 := ((Keeps.refl (fun i => v.ownBlock = some i) w').alloc _).grown hgr3 (fun k e => .inl e)
        refine ⟨kg.blk hm' (fun e => by have := hR.lo m e; omega), kg.blk hr' (fun e => by have := hR.lo r e; omega), ?_, fun g e => ?_, hR.k.trans k3 (fun i hi e => ?_), ?_⟩
        · unfold IntRow
          rw [natV_snoc, List.length_append, List.length_singleton]
          exact hrow3
        · have hge : g' = g := Option.some.inj e
          rcases hor with ⟨x, _⟩ | x
          · have := hR.lo g' x; omega
          · rw [← hge, x, World.size_alloc]; omega
        · rcases e with e | e
          · have := hi; omega
          · have := hR.lo i e; omega
        · rw [restOf_push, List.append_assoc]
          have hnd : ((restOf (es.map OEnt.ent) seen).map (·.2.2)).Nodup := hbn.out.sublist ((List.filter_sublist).map _)
          have hp2 := (perm_left hnd hx).map (·.1)
          exact (hp2.symm.append_left ks).trans hR.p
      have hles := restOf_lt hx
      have hrow2 := hrow'
      unfold IntRow at hrow2
      generalize ks.length = nk at hrow2 hfin hkl
      replace hR := hid hR; replace hx := hid hx; replace hr' := hid hr'; replace hk' := hid hk'; replace hs' := hid hs'; replace hm' := hid hm'; replace hrow' := hid hrow'; replace hfin := hid hfin; replace hles := hid hles
      go_wp2_with (at_builtin; refine wpList_appendV rfl _ _ 49 rfl 3 i0 (.int .i64 0) 1 8 undInts hi0.out hz0.out hz1.out hz2.out rfl (by decide) _ _ _ rfl (hrow2.alloc _) ⟨w'.heap.size, 0, none⟩ 1 1 [.int .i64 ka] rfl rfl ?c1 ?c2 (by omega) ?c3 ?c4 ?_)
      case c2 => rfl
      case c3 => unfold maxLen; omega
      case c4 => omega
      intro g' cap' w3 hrow3 hgr3 hor
      have hF := hfin.out g' cap' w3 hrow3 hgr3 (by rw [World.size_alloc]; exact hor)
      clear hrow3 hgr3 hor hrow2
      replace hF := hid hF
      go_wp2
      exact ⟨⟨_, _, _, rfl, hF.out⟩, by rw [iterLeft_eq hF.out.hr, iterLeft_eq hR.out.hr]; exact hles.out⟩
end
end Go.Vk

namespace Go.Vk
open Go.RowKit Go.Proofs

theorem MapAt.look1 {w : World} {m : Nat} {es : List OEnt} {clock k : Nat} {e : OEnt} (h : MapAt w m es clock) (hf : es.find? (·.key == k) = some e) :
    (Instr.lookup 104 (.map (some m)) (.int .i64 k) false).run Tryz.prog w = .ok e.val w := by
  have := run_lookup (k := k) und138 undInt h.hm (zero22 w)
  rw [look_oents, hf] at this
  exact this
/-- The sectors with these blocks brought home. -/
def homeG (g : Nat → List UInt8) (home : Nat) (ov : Nat → Option (List UInt8)) (done : List Nat) (j : Nat) : List UInt8 := if home ≤ j ∧ j - home ∈ done then (ov (j - home)).getD (g j) else g j
theorem homeG_snoc (g : Nat → List UInt8) (home : Nat) (ov : Nat → Option (List UInt8)) (done : List Nat) (b j : Nat) : homeG g home ov (done ++ [b]) j = if j = home + b then (ov b).getD (g j) else homeG g home ov done j := by
  unfold homeG
  by_cases e : j = home + b
  · subst e
    rw [if_pos ⟨by omega, by rw [Nat.add_sub_cancel_left]; exact List.mem_append_right _ (List.mem_singleton.2 rfl)⟩, if_pos rfl, Nat.add_sub_cancel_left]
  · rw [if_neg e]
    have : (home ≤ j ∧ j - home ∈ done ++ [b]) ↔ (home ≤ j ∧ j - home ∈ done) := ⟨fun x => ⟨x.1, (List.mem_append.1 x.2).elim id (fun y => absurd (List.mem_singleton.1 y) (by omega))⟩, fun x => ⟨x.1, List.mem_append_left _ x.2⟩⟩
    simp only [this]
theorem homeG_perm {g : Nat → List UInt8} {home : Nat} {ov : Nat → Option (List UInt8)} {a b : List Nat} (h : a.Perm b) (j : Nat) : homeG g home ov a j = homeG g home ov b j := by
  unfold homeG
  simp only [h.mem_iff]
def HomeRel (w : World) (d : Nat) (F : List Nat) (D : DM) (N : Nat) (life : Int) (g : Nat → List UInt8) (home : Nat) (ov : List OEnt) (done : List Nat) (wr : World) : Prop :=
  ∃ F' D', DAt w d F D' F' wr ∧ Is D' N life (homeG g home (ovOf ov) done) ∧ D'.writes ≤ D.writes + done.length
section
variable {w : World} {sb d l mo : Nat} {F : List Nat} {G : Geom} {D : DM} {ov : List OEnt} {oc : Nat} {N : Nat} {life : Int} {g : Nat → List UInt8} {op : Bool}
theorem home_step (hs : Blk w sb (storeO d l mo G.s G.lg G.n G.life op)) (h : DiskRep w d D F) (ho : MapAt w mo ov oc) (sF : sb ∉ F) (oF : ∀ k ∈ mapFoot mo ov, k ∉ F) (hI : Is D N life g) (hN : N ≤ 2048) (hw : D.writes + 3000 < 1099511627776)
    (hk : ∀ e ∈ ov, e.key < G.blocks) (hgb : G.home + G.blocks ≤ N) (hol : ov.length ≤ 2048) :
    (∀ W, Keeps (· ∈ F) w W → W.cell? ⟨sb, 0, none⟩ = some (.pointer (some ⟨d, 0, none⟩)) ∧ W.cell? ⟨sb, 3, none⟩ = some (.int .i64 (G.home : Nat)) ∧ W.cell? ⟨sb, 8, none⟩ = some (.map (some mo))) ∧
    (∀ (ks : List Nat), ks.Perm (ov.map (·.key)) → ∀ k (hkl : k < ks.length) W, HomeRel w d F D N life g G.home ov (ks.take k) W → ∃ bk bc, (Instr.lookup 104 (.map (some mo)) (.int .i64 ks[k]) false).run Tryz.prog W.drew = .ok (.slice (some ⟨bk, 0, none⟩) 512 bc) W.drew ∧ Keeps (· ∈ F) w W ∧ ks[k] ≤ 2048 ∧
      Calls Tryz.prog 110 #[.pointer (some ⟨d, 0, none⟩), .int .i64 ((G.home + ks[k] : Nat) : Int), .slice (some ⟨bk, 0, none⟩) 512 bc] W.drew fun e w' => e = .returned (.int .i64 0) ∧ Keeps (· ∈ F) w w' ∧ HomeRel w d F D N life g G.home ov (ks.take (k + 1)) w') ∧
    (∀ (ks : List Nat), ks.Perm (ov.map (·.key)) → ∀ W, HomeRel w d F D N life g G.home ov ks W → ∃ F' D', DAt w d F D' F' W ∧ Is D' N life (homeG g G.home (ovOf ov) (ov.map (·.key))) ∧ D'.writes ≤ D.writes + ov.length) ∧ (∀ W (ks : List Nat), Keeps (fun _ => False) w W → HomeRel w d F D N life g G.home ov (ks.take 0) W) := by
  have hcell : ∀ W, Keeps (· ∈ F) w W → W.cell? ⟨sb, 0, none⟩ = some (.pointer (some ⟨d, 0, none⟩)) ∧ W.cell? ⟨sb, 3, none⟩ = some (.int .i64 (G.home : Nat)) ∧ W.cell? ⟨sb, 8, none⟩ = some (.map (some mo)) := fun W k => by
    have hB := k.blk hs sF
    have q0 := hB.cell 0
    have q3 := hB.cell 3
    have q8 := hB.cell 8
    simp at q0 q8
    exact ⟨q0, q3, q8⟩
  have hmm : ∀ i ∈ mapFoot mo ov, ¬ i ∈ F := oF
  have hstep : ∀ (ks : List Nat), ks.Perm (ov.map (·.key)) → ∀ k (hkl : k < ks.length) W, HomeRel w d F D N life g G.home ov (ks.take k) W → ∃ bk bc, (Instr.lookup 104 (.map (some mo)) (.int .i64 ks[k]) false).run Tryz.prog W.drew = .ok (.slice (some ⟨bk, 0, none⟩) 512 bc) W.drew ∧ Keeps (· ∈ F) w W ∧ ks[k] ≤ 2048 ∧
      Calls Tryz.prog 110 #[.pointer (some ⟨d, 0, none⟩), .int .i64 ((G.home + ks[k] : Nat) : Int), .slice (some ⟨bk, 0, none⟩) 512 bc] W.drew fun e w' => e = .returned (.int .i64 0) ∧ Keeps (· ∈ F) w w' ∧ HomeRel w d F D N life g G.home ov (ks.take (k + 1)) w' := by
    rintro ks hp k hkl W ⟨F', D', hD, hI', hw'⟩
    have hmem : ks[k] ∈ ov.map (·.key) := hp.mem_iff.1 (List.getElem_mem _)
    obtain ⟨e, hf⟩ : ∃ e, ov.find? (·.key == ks[k]) = some e := by
      cases hq : ov.find? (·.key == ks[k]) with
      | some e => exact ⟨e, rfl⟩
      | none =>
        obtain ⟨e, he, hke⟩ := List.mem_map.1 hmem
        have := List.find?_eq_none.1 hq e he
        simp [hke] at this
    have he := List.mem_of_find?_eq_some hf
    have hek : e.key = ks[k] := by simpa using List.find?_some hf
    have hkd : Keeps (fun _ => False) W W.drew := (Keeps.refl _ _).drew
    have hoW : MapAt W.drew mo ov oc := ho.keeps (hD.keeps.step (hkd.mono fun _ _ f => f.elim)) hmm
    have hlk := hoW.look1 hf
    have hov : ovOf ov ks[k] = some e.data := ovOf_some hf
    have hoe := hoW.ok e he
    have hkb := hk e he
    rw [hek] at hkb
    have hkl2 : (ks.take k).length = k := List.length_take_of_le (by omega)
    have hkk := hp.length_eq
    rw [List.length_map] at hkk
    rw [hkl2] at hw'
    refine ⟨e.blk, e.cap, hlk, hD.keeps, by omega, ?_⟩
    have hDd : DiskRep W.drew d D' F' := hD.rep.keeps hkd (fun _ _ f => f)
    have hwr := write_ok hDd hI'.burnt ((G.home + ks[k] : Nat) : Int) (by omega) (by rw [hI'.n]; omega) (by omega) e.blk 0 e.cap 5 (e.data ++ zeros (e.cap - 512)) hoe.blk (by rw [List.length_append, hoe.len]; omega)
    rw [Int.toNat_natCast, List.drop_zero, List.take_left' hoe.len] at hwr
    refine hwr.mono ?_
    rintro r w' ⟨rfl, F2, y1, y2, y3⟩
    have hD2 : DAt W.drew d F' _ F2 w' := ⟨y1, y3, y2⟩
    have hDt : DAt w d F D' F' W.drew := ⟨hDd, hD.sub, hD.keeps.step (hkd.mono fun _ _ f => f.elim)⟩
    have hDD := hDt.trans hD2
    refine ⟨rfl, hDD.keeps, F2, _, hDD, ?_, ?_⟩
    · have h1 := hI'.wrote (G.home + ks[k]) hoe.len
      refine h1.congr fun j _ => ?_
      rw [List.take_add_one, List.getElem?_eq_getElem hkl]
      show _ = homeG g G.home (ovOf ov) (ks.take k ++ [ks[k]]) j
      rw [homeG_snoc, hov]
      rfl
    · rw [spent_writes]
      show D'.writes + 1 ≤ _
      rw [List.length_take_of_le (by omega)]
      omega
  have hdone : ∀ (ks : List Nat), ks.Perm (ov.map (·.key)) → ∀ W, HomeRel w d F D N life g G.home ov ks W → ∃ F' D', DAt w d F D' F' W ∧ Is D' N life (homeG g G.home (ovOf ov) (ov.map (·.key))) ∧ D'.writes ≤ D.writes + ov.length := by
    rintro ks hp W ⟨F', D', y1, y2, y3⟩
    have hkk := hp.length_eq
    rw [List.length_map] at hkk
    exact ⟨F', D', y1, y2.congr fun j _ => homeG_perm hp j, by omega⟩
  have hst : ∀ W (ks : List Nat), Keeps (fun _ => False) w W → HomeRel w d F D N life g G.home ov (ks.take 0) W := fun W ks k => ⟨F, D, ⟨h.keeps k (fun _ _ f => f), fun _ hk => .inl hk, k.mono fun _ _ f => f.elim⟩, by
    refine hI.congr fun j _ => ?_
    simp [homeG], by simp⟩
  exact ⟨hcell, hstep, hdone, hst⟩
set_option maxRecDepth 100000 in
set_option maxHeartbeats 4000000 in
theorem home_ok (hs : Blk w sb (storeO d l mo G.s G.lg G.n G.life op)) (h : DiskRep w d D F) (ho : MapAt w mo ov oc) (sF : sb ∉ F) (oF : ∀ k ∈ mapFoot mo ov, k ∉ F) (hI : Is D N life g) (hN : N ≤ 2048) (hw : D.writes + 3000 < 1099511627776)
    (hk : ∀ e ∈ ov, e.key < G.blocks) (hgb : G.home + G.blocks ≤ N) (hol : ov.length ≤ 2048) :
    Calls Tryz.prog 123 #[.pointer (some ⟨sb, 0, none⟩)] w fun e w' => e = .returned (.int .i64 0) ∧ ∃ F' D', DAt w d F D' F' w' ∧ Is D' N life (homeG g G.home (ovOf ov) (ov.map (·.key))) ∧ D'.writes ≤ D.writes + ov.length := by
  have c8 := hs.cell 8
  simp at c8
  have hNum := numbers_w ho (by omega)
  have hFl := h.lt
  have hh : G.home ≤ 2048 := by omega
  have hAll : ∀ w2, Keeps (fun _ => False) w w2 → _ := fun w2 k2 => home_step (k2.blk hs (fun f => f)) (h.keeps k2 (fun _ _ f => f)) (ho.keeps k2 (fun _ _ f => f)) sF oF hI hN hw hk hgb hol
  have hfin : ∀ w2, Keeps (fun _ => False) w w2 → ∀ W, (∃ F' D', DAt w2 d F D' F' W ∧ Is D' N life (homeG g G.home (ovOf ov) (ov.map (·.key))) ∧ D'.writes ≤ D.writes + ov.length) → ∃ F' D', DAt w d F D' F' W ∧ Is D' N life (homeG g G.home (ovOf ov) (ov.map (·.key))) ∧ D'.writes ≤ D.writes + ov.length := by
    rintro w2 k2 W ⟨F', D', y1, y2, y3⟩
    have h0 : DAt w d F D F w2 := ⟨h.keeps k2 (fun _ _ f => f), fun _ hk => .inl hk, k2.mono fun _ _ f => f.elim⟩
    exact ⟨F', D', h0.trans y1, y2, y3⟩
  unfold NumPost at hNum
  generalize G.home = hm at *
  replace hs := hid hs; replace h := hid h; replace ho := hid ho; replace sF := hid sF; replace oF := hid oF; replace hI := hid hI; replace hw := hid hw; replace hk := hid hk; replace hNum := hid hNum; replace hFl := hid hFl; replace hAll := hid hAll; replace hfin := hid hfin; replace hgb := hid hgb
  go_enter Tryz.func123, Tryz.ntmps123
  go_upto_region 2 with (go_at_call 120; refine hNum.out.mono ?_; rintro e w2 ⟨v, ks, rfl, hrow, hlo, hp, k2⟩; obtain ⟨av, nv, cv, hv⟩ : ∃ a n c, v = .slice a n c := (by obtain ⟨a, c, e⟩ := own_shape hrow; exact ⟨a, _, c, e⟩); replace hrow := hid hrow; replace hlo := hid hlo; replace hp := hid hp; replace k2 := hid k2; subst hv)
  obtain ⟨hcell, hstep, hdone, hst⟩ := hAll.out w2 k2.out
  have hf2 := hfin.out w2 k2.out
  clear hfin hAll
  rcases hrow.out.shape with ⟨hnil, rfl⟩ | ⟨gk, ck, hsl, _, _, hcs⟩
  · cases hnil
    have hF := hf2 w2 (hdone [] hp.out w2 (hst w2 [] (Keeps.refl _ _)))
    clear c8 hcell hstep hdone hst hf2
    replace hF := hid hF
    go_loopw [12] (fun i wr => i = .int .i64 (0 : Nat) ∧ wr = w2) (fun _ _ => 0)
    case atStart => exact ⟨rfl, rfl⟩
    case round =>
      obtain ⟨rfl, rfl⟩ := hrel
      go_wp2
      go_ret
      exact ⟨rfl, hF.out⟩
  · obtain ⟨hsa, hsn, hsc⟩ : av = some ⟨gk, 0, none⟩ ∧ nv = ks.length ∧ cv = ck := by injection hsl with e1 e2 e3; exact ⟨e1, e2, e3⟩
    subst hsa hsc
    obtain ⟨n, hn⟩ : ∃ n, ks.length = n := ⟨_, rfl⟩
    rw [hn] at hsn
    subst hsn
    have hst0 := hst w2 ks (Keeps.refl _ _)
    have hgF : gk ∉ F := fun e => by have := hFl.out _ e; have := hlo.out gk rfl; omega
    have hkk : ks.length ≤ 2048 := by
      have h1 := hp.out.length_eq
      rw [List.length_map] at h1
      omega
    have hnv : nv ≤ 2048 := by rw [← hn]; exact hkk
    have hres := fun W hH => hf2 W (hdone ks hp.out W hH)
    have hk0 : Keeps (· ∈ F) w2 w2 := Keeps.refl _ _
    have hstp := hstep ks hp.out
    clear c8 hst hstep hf2 hdone hsl
    replace hcell := hid hcell; replace hstp := hid hstp; replace hst0 := hid hst0; replace hgF := hid hgF; replace hkk := hid hkk; replace hres := hid hres; replace hk0 := hid hk0; replace hn := hid hn; replace hcs := hid hcs
    go_wp2
    go_loopw [12] (fun i wr => ∃ k : Nat, k ≤ nv ∧ i = .int .i64 k ∧ HomeRel w2 d F D N life g hm ov (ks.take k) wr ∧ Keeps (· ∈ F) w2 wr) (fun i _ => nv - (RowKit.intOf i).toNat)
    case atStart => exact ⟨0, by omega, rfl, hst0.out, hk0.out⟩
    case round =>
      obtain ⟨k, hk1, rfl, hH, hK⟩ := hrel
      clear hst0 hk0
      by_cases hkc : k < nv
      · have hki : (k : Int) < nv := by omega
        have hix : 0 ≤ (k : Int) ∧ (k : Int) < (nv : Nat) := by omega
        have hkl : k < ks.length := by rw [hn.out]; exact hkc
        obtain ⟨bk, bc, hlk, _, hbk, hWr⟩ := hstp.out k hkl wr hH
        obtain ⟨q0, q3, q8⟩ := hcell.out wr hK
        have hck := hK.cellF (hcs.out k hkl) hgF.out
        generalize ks[k] = b at *
        have hwr2 : IntKind.i64.wrap ((hm : Int) + (b : Int)) = (hm : Int) + (b : Int) := by rw [IntKind.wrap_i64]; omega
        have hcast : ((hm + b : Nat) : Int) = (hm : Int) + (b : Int) := by omega
        rw [hcast] at hWr
        have q0d : wr.drew.cell? ⟨sb, 0, none⟩ = some (.pointer (some ⟨d, 0, none⟩)) := q0
        have q3d : wr.drew.cell? ⟨sb, 3, none⟩ = some (.int .i64 hm) := q3
        have q8d : wr.drew.cell? ⟨sb, 8, none⟩ = some (.map (some mo)) := q8
        replace hH := hid hH; replace hK := hid hK; replace hWr := hid hWr; replace hcast := hid hcast
        go_upto_region 4 with fail
        go_region_held3 (fun W => W.cell? ⟨sb, 0, none⟩ = some (.pointer (some ⟨d, 0, none⟩)) ∧ W.cell? ⟨sb, 3, none⟩ = some (.int .i64 hm) ∧ W.cell? ⟨sb, 8, none⟩ = some (.map (some mo))) (first | with_reducible exact ⟨q0d, q3d, q8d⟩ | with_reducible exact hq) (first
          | (go_at_call 110; refine hWr.out.mono ?_; rintro e w3 ⟨rfl, hK3, hH3⟩; have hq := hcell.out w3 hK3; replace hK3 := hid hK3; replace hH3 := hid hH3))
        have hi1 : IntKind.i64.wrap ((k : Int) + 1) = (k : Int) + 1 := by rw [IntKind.wrap_i64]; omega
        rename_i hHeld
        clear hHeld
        go_wp2
        exact ⟨⟨k + 1, by omega, by go_num, hH3.out, hK3.out⟩, by simp [RowKit.intOf]; omega⟩
      · have hki : ¬ (k : Int) < nv := by omega
        have hke : k = ks.length := by rw [hn.out]; omega
        rw [hke, List.take_length] at hH
        have hF := hres.out wr hH
        clear hke
        replace hF := hid hF; replace hH := hid hH; replace hK := hid hK
        go_wp2
        go_ret
        exact ⟨rfl, hF.out⟩
end
end Go.Vk

namespace Go.Vk
open Go.RowKit Go.Proofs

/-- A store, its log and its disk, where all is well. -/
structure StO (w : World) (sb d l mo : Nat) (F : List Nat) (G : Geom) (D : DM) (ov : List OEnt) (oc : Nat) (op : Bool) (L : LM) (N : Nat) (g : Nat → List UInt8) : Prop where
  hs : Blk w sb (storeO d l mo G.s G.lg G.n G.life op)
  hl : Blk w l (logO d L)
  hd : DiskRep w d D F
  ho : MapAt w mo ov oc
  sF : sb ∉ F
  lF : l ∉ F
  oF : ∀ k ∈ mapFoot mo ov, k ∉ F
  ls : l ≠ sb
  lO : l ∉ mapFoot mo ov
  sO : sb ∉ mapFoot mo ov
  is : Is D N G.life g
  li : L.life = G.life
  st : L.started = true
  Lf : L.first = 1
  Ln : L.n = G.lg
  lg : 18 ≤ G.lg ∧ G.lg ≤ 256
  gb : G.home + G.blocks ≤ N
  N2 : N ≤ 2048
  kb : ∀ e ∈ ov, e.key < G.blocks
  ol : ov.length ≤ 2048
  an : AnchInv g L
  th : L.tail ≤ L.head ∧ L.head - L.tail ≤ L.n
  ep : 1 ≤ L.epoch ∧ L.epoch < 2147483648
  hb : L.head + 40 ≤ 1073741824
  wb : D.writes + 10000 < 1099511627776
/-- What a checkpoint leaves. -/
def CkPost (w : World) (sb d l mo : Nat) (F : List Nat) (G : Geom) (D : DM) (ov : List OEnt) (oc : Nat) (op : Bool) (L : LM) (N : Nat) (g : Nat → List UInt8) (w' : World) : Prop :=
  ∃ F' D' g', StO w' sb d l mo F' G D' [] oc op (trimL L) N g' ∧ (∀ k ∈ F', k ∈ F ∨ w.heap.size ≤ k) ∧ Keeps (fun i => i ∈ F ∨ i = l ∨ i = mo) w w' ∧ D'.writes ≤ D.writes + ov.length + 1 ∧ ∀ j, G.home ≤ j → j < N → g' j = homeG g G.home (ovOf ov) (ov.map (·.key)) j
def ckG (g : Nat → List UInt8) (home : Nat) (ov : List OEnt) (k : Nat) (j : Nat) : List UInt8 := if k ≤ 1 then g j else homeG g home (ovOf ov) (ov.map (·.key)) j
def CkRel (w : World) (sb d l mo : Nat) (F : List Nat) (G : Geom) (D : DM) (ov : List OEnt) (oc : Nat) (op : Bool) (L : LM) (N : Nat) (g : Nat → List UInt8) (k : Nat) (W : World) : Prop :=
  ∃ F' D' g', StO W sb d l mo F' G D' ov oc op (if k ≤ 2 then L else trimL L) N g' ∧ (∀ i ∈ F', i ∈ F ∨ w.heap.size ≤ i) ∧ Keeps (fun i => i ∈ F ∨ i = l) w W ∧ D'.writes ≤ D.writes + (if k ≤ 1 then 0 else ov.length) + (if k ≤ 2 then 0 else 1) ∧ ∀ j, G.home ≤ j → j < N → g' j = ckG g G.home ov k j
theorem homeG_lo (g : Nat → List UInt8) (home : Nat) (ov : Nat → Option (List UInt8)) (done : List Nat) (j : Nat) (h : j < home) : homeG g home ov done j = g j := by
  unfold homeG; rw [if_neg (fun x => by omega)]
theorem AnchInv.congr {g g' : Nat → List UInt8} {L : LM} (h : AnchInv g L) (h1 : g' L.first = g L.first) (h2 : g' (L.first + 1) = g (L.first + 1)) : AnchInv g' L := by
  unfold AnchInv at *
  rw [h1, h2]; exact h
section
variable {w W W' : World} {sb d l mo : Nat} {F F' : List Nat} {G : Geom} {D D' : DM} {ov : List OEnt} {oc : Nat} {op : Bool} {L : LM} {N : Nat} {g g' : Nat → List UInt8}
theorem StO.disk (h : StO w sb d l mo F G D ov oc op L N g) (hD : DAt w d F D' F' W) (hI : Is D' N G.life g') (ha : AnchInv g' L) (hw : D'.writes + 10000 < 1099511627776) : StO W sb d l mo F' G D' ov oc op L N g' :=
  { h with
    hs := hD.blk h.hs h.sF
    hl := hD.blk h.hl h.lF
    hd := hD.rep
    ho := h.ho.keeps hD.keeps h.oF
    sF := hD.out_of h.sF h.hs.lt
    lF := hD.out_of h.lF h.hl.lt
    oF := fun k hk => hD.out_of (h.oF k hk) (h.ho.lt k hk)
    is := hI
    an := ha
    wb := hw }
theorem CkRel.sync (h0 : StO w sb d l mo F G D ov oc op L N g) (hw : D.writes + 20000 < 1099511627776) (h : CkRel w sb d l mo F G D ov oc op L N g 0 W) : Calls Tryz.prog 80 #[.pointer (some ⟨l, 0, none⟩)] W fun e w' => e = .returned (.int .i64 0) ∧ CkRel w sb d l mo F G D ov oc op L N g 1 w' := by
  obtain ⟨F', D', g', hS, h2, h3, h4, h5⟩ := h
  simp only [Nat.zero_le, if_true] at hS h4
  refine (lsync_w hS.hl hS.hd hS.is hS.li hS.st).mono ?_
  rintro e w' ⟨rfl, F2, hD⟩
  refine ⟨rfl, F2, D'.flushed, g', ?_, fun i hi => (hD.sub i hi).elim (h2 i) (fun x => .inr (by have := h3.size; omega)), h3.trans hD.keeps (fun i hi e => (h2 i e).elim .inl (fun x => by omega)), ?_, fun j hj hjN => by have := h5 j hj hjN; unfold ckG at *; simpa using this⟩
  · rw [if_pos (by decide)]
    exact hS.disk hD hS.is.flushed hS.an (by rw [flushed_writes]; exact hS.wb)
  · rw [flushed_writes]; exact h4
theorem CkRel.home (h0 : StO w sb d l mo F G D ov oc op L N g) (hw : D.writes + 20000 < 1099511627776) (h : CkRel w sb d l mo F G D ov oc op L N g 1 W) : Calls Tryz.prog 123 #[.pointer (some ⟨sb, 0, none⟩)] W fun e w' => e = .returned (.int .i64 0) ∧ CkRel w sb d l mo F G D ov oc op L N g 2 w' := by
  obtain ⟨F', D', g', hS, h2, h3, h4, h5⟩ := h
  rw [if_pos (by decide)] at hS
  have h4' : D'.writes ≤ D.writes := by simpa using h4
  refine (home_ok hS.hs hS.hd hS.ho hS.sF hS.oF hS.is hS.N2 (by omega) hS.kb hS.gb hS.ol).mono ?_
  rintro e w' ⟨rfl, F2, D2, hD, hI2, hw2⟩
  have hol := hS.ol
  have hf := hS.Lf
  refine ⟨rfl, F2, D2, homeG g' G.home (ovOf ov) (ov.map (·.key)), ?_, fun i hi => (hD.sub i hi).elim (h2 i) (fun x => .inr (by have := h3.size; omega)), h3.trans hD.keeps (fun i hi e => (h2 i e).elim .inl (fun x => by omega)), ?_, fun j hj hjN => ?_⟩
  · rw [if_pos (by decide)]
    refine hS.disk hD hI2 (hS.an.congr (homeG_lo _ _ _ _ _ ?_) (homeG_lo _ _ _ _ _ ?_)) (by omega)
    · unfold Geom.home; omega
    · unfold Geom.home; omega
  · rw [if_neg (by decide), if_pos (by decide)]; omega
  · have := h5 j hj hjN
    unfold ckG at *
    rw [if_pos (by decide)] at this
    rw [if_neg (by decide)]
    unfold homeG
    rw [this]
theorem CkRel.trim (h0 : StO w sb d l mo F G D ov oc op L N g) (hw : D.writes + 20000 < 1099511627776) (h : CkRel w sb d l mo F G D ov oc op L N g 2 W) : Calls Tryz.prog 124 #[.pointer (some ⟨l, 0, none⟩)] W fun e w' => e = .returned (.int .i64 0) ∧ CkRel w sb d l mo F G D ov oc op L N g 3 w' := by
  obtain ⟨F', D', g', hS, h2, h3, h4, h5⟩ := h
  rw [if_pos (by decide)] at hS
  rw [if_neg (by decide), if_pos (by decide)] at h4
  have hol := hS.ol
  have hgb := hS.gb
  have hf := hS.Lf
  have hln := hS.Ln
  have hlg := hS.lg
  have hep := hS.ep
  have hth := hS.th
  have hhb := hS.hb
  have hN1 : L.first + 1 < N := by unfold Geom.home at hgb; omega
  obtain ⟨g2, i1, i2, i3, i4⟩ := hS.is.trimD L hN1 hS.an hth.1 hep.1 hep.2 (by omega)
  refine (ltrim_w hS.hl hS.hd hS.lF hS.is hS.li hS.st hN1 hS.N2 (by omega) hS.an hth.1 hep.1 hep.2 (by omega)).mono ?_
  rintro e w' ⟨rfl, F2, y1, y2, y3, y4⟩
  have hsz := h3.size
  have e1 : (trimL L).first = L.first ∧ (trimL L).n = L.n ∧ (trimL L).life = L.life ∧ (trimL L).started = L.started ∧ (trimL L).head = L.head ∧ (trimL L).epoch = L.epoch ∧ (trimL L).tail = L.head := by
    unfold trimL
    split
    · exact ⟨rfl, rfl, rfl, rfl, rfl, rfl, by assumption⟩
    · exact ⟨rfl, rfl, rfl, rfl, rfl, rfl, rfl⟩
  obtain ⟨a1, a2, a3, a4, a5, a6, a7⟩ := e1
  have hnew : ∀ i, i < W.heap.size → i ∉ F' → i ∉ F2 := fun i hi hn hm => (y2 i hm).elim hn (fun x => by omega)
  refine ⟨rfl, F2, Go.Vk.trimD D' L, g2, ?_, fun i hi => (y2 i hi).elim (h2 i) (fun x => .inr (by omega)), h3.trans y4 (fun i hi e => e.elim (fun x => (h2 i x).elim .inl (fun z => by omega)) .inr), ?_, fun j hj hjN => ?_⟩
  · rw [if_neg (by decide)]
    exact
      { hs := y4.blk hS.hs (fun f => f.elim hS.sF (fun e => hS.ls e.symm))
        hl := y3
        hd := y1
        ho := hS.ho.keeps y4 (fun i hi f => f.elim (hS.oF i hi) (fun e => hS.lO (e ▸ hi)))
        sF := hnew sb hS.hs.lt hS.sF
        lF := hnew l hS.hl.lt hS.lF
        oF := fun k hk => hnew k (hS.ho.lt k hk) (hS.oF k hk)
        ls := hS.ls, lO := hS.lO, sO := hS.sO
        is := i1
        li := by rw [a3]; exact hS.li
        st := by rw [a4]; exact hS.st
        Lf := by rw [a1]; exact hf
        Ln := by rw [a2]; exact hln
        lg := hlg, gb := hgb, N2 := hS.N2, kb := hS.kb, ol := hol
        an := i3
        th := by rw [a7, a5, a2]; omega
        ep := by rw [a6]; exact hep
        hb := by rw [a5]; exact hhb
        wb := by omega }
  · rw [if_neg (by decide), if_neg (by decide)]; omega
  · have := h5 j hj hjN
    unfold ckG at *
    rw [if_neg (by decide)] at this ⊢
    rw [← this]
    unfold Geom.home at hj
    exact i2 j (by omega) (by omega)
theorem StO.ov0 (h : StO w sb d l mo F G D ov oc op L N g) (hm : Blk W mo (mapO [] oc)) (k : Keeps (· = mo) w W) : StO W sb d l mo F G D [] oc op L N g :=
  { h with
    hs := k.blk h.hs (fun e => h.sO (by simp [mapFoot, e]))
    hl := k.blk h.hl (fun e => h.lO (by simp [mapFoot, e]))
    hd := h.hd.keeps k (fun i hi e => h.oF mo (by simp [mapFoot]) (e ▸ hi))
    ho := ⟨hm, (fun _ he => by cases he), List.nodup_nil, List.nodup_nil, (fun _ he => by cases he)⟩
    oF := fun k hk => h.oF k (by have : k = mo := by simpa [mapFoot] using hk
                                 simp [mapFoot, this])
    lO := fun hk => h.lO (by have : l = mo := by simpa [mapFoot] using hk
                             simp [mapFoot, this])
    sO := fun hk => h.sO (by have : sb = mo := by simpa [mapFoot] using hk
                             simp [mapFoot, this])
    kb := fun e he => by cases he
    ol := by simp }
def ckFuns (l sb : Nat) : List Value := [.func (.func 80) #[.pointer (some ⟨l, 0, none⟩)] #[], .func (.func 123) #[.pointer (some ⟨sb, 0, none⟩)] #[], .func (.func 124) #[.pointer (some ⟨l, 0, none⟩)] #[]]
set_option maxRecDepth 100000 in
set_option maxHeartbeats 4000000 in
theorem checkpoint_ok (h : StO w sb d l mo F G D ov oc op L N g) (hw : D.writes + 20000 < 1099511627776) : Calls Tryz.prog 71 #[.pointer (some ⟨sb, 0, none⟩)] w fun e w' => e = .returned (.int .i64 0) ∧ CkPost w sb d l mo F G D ov oc op L N g w' := by
  have hmf : ∀ (fn : Fn) (first cap : Array Value) (w : World), (Instr.makeFunc fn first cap).run Tryz.prog w = .ok (.func fn first cap) w := fun _ _ _ _ => rfl
  have c1 := h.hs.cell 1
  simp at c1
  have hgo := gone_w h.hs h.hd
  have hli : goneB D G.life = false := by unfold goneB; rw [h.is.burnt, h.is.lf]; simp
  rw [hli] at hgo
  have hFl := h.hd.lt
  replace h := hid h; replace hw := hid hw; replace hgo := hid hgo; replace hli := hid hli; replace hFl := hid hFl
  go_enter Tryz.func71, Tryz.ntmps71
  go_upto_region 3 with (go_at_call 50; refine hgo.out.mono ?_; rintro e w1 ⟨rfl, m, rfl⟩)
  have c1d : (w.drewN m).drew.cell? ⟨sb, 1, none⟩ = some (.pointer (some ⟨l, 0, none⟩)) := c1
  have c1e : (w.drewN (m + 1)).cell? ⟨sb, 1, none⟩ = some (.pointer (some ⟨l, 0, none⟩)) := c1
  go_region_held3 (fun W => W.cell? ⟨sb, 1, none⟩ = some (.pointer (some ⟨l, 0, none⟩))) (first | with_reducible exact c1d | with_reducible exact c1e | exact cell_alloc c1e _ | exact cell_alloc c1 _) (fail)
  all_goals
    have kA : Keeps (fun _ => False) w ((w.drewN (m + 1)).alloc (.cells (ckFuns l sb).toArray 40 (0, 0))) := ((Keeps.refl (fun _ => False) w).drewN (m + 1)).alloc _
    have bA := Blk.new (w.drewN (m + 1)) (.cells (ckFuns l sb).toArray 40 (0, 0))
    refine exit_gen (fun W => Keeps (fun _ => False) w W ∧ Blk W w.heap.size (.cells (ckFuns l sb).toArray 40 (0, 0))) ⟨kA, bA⟩ ?_
    clear c1 c1d c1e kA bA
    rintro w2 ⟨k2, b2⟩
    have hfbF : w.heap.size ∉ F := fun e => by have := hFl.out _ e; omega
    have hlt := h.out.hl.lt
    have hfl : w.heap.size ≠ l := by omega
    have h2 : StO w2 sb d l mo F G D ov oc op L N g := h.out.disk ⟨h.out.hd.keeps k2 (fun _ _ f => f), fun _ hk => .inl hk, k2.mono fun _ _ f => f.elim⟩ h.out.is h.out.an h.out.wb
    have r0 : CkRel w2 sb d l mo F G D ov oc op L N g 0 w2 := ⟨F, D, g, by rw [if_pos (by decide)]; exact h2, fun _ hk => .inl hk, Keeps.refl _ _, by simp, fun j _ _ => by simp [ckG]⟩
    have hS1 := fun W hW => CkRel.sync (W := W) h2 hw.out hW
    have hS2 := fun W hW => CkRel.home (W := W) h2 hw.out hW
    have hS3 := fun W hW => CkRel.trim (W := W) h2 hw.out hW
    have hfb : ∀ k W, CkRel w2 sb d l mo F G D ov oc op L N g k W → Blk W w.heap.size (.cells (ckFuns l sb).toArray 40 (0, 0)) := fun k W hW => by
      obtain ⟨F', D', g', _, _, k3, _⟩ := hW
      exact k3.blk b2 (fun f => f.elim hfbF (fun e => hfl e))
    have hfin : ∀ W, CkRel w2 sb d l mo F G D ov oc op L N g 3 W → W.cell? ⟨sb, 8, none⟩ = some (.map (some mo)) ∧ (∀ ty, (Builtin.clear_ #[104] ty #[.map (some mo)]).run Tryz.prog W = .ok (.tuple #[]) (W.setBlk mo (mapO [] oc))) ∧ CkPost w sb d l mo F G D ov oc op L N g (W.setBlk mo (mapO [] oc)) := by
      rintro W ⟨F', D', g', hS, q2, q3, q4, q5⟩
      rw [if_neg (by decide)] at hS
      have c8 := hS.hs.cell 8
      simp at c8
      have kc := keeps_setBlk W mo (mapO [] oc)
      have hsz := k2.size
      refine ⟨c8, fun ty => run_clear und138 hS.ho.hm ty, F', D', g', hS.ov0 (hS.ho.hm.setBlk _) kc, fun i hi => (q2 i hi).elim .inl (fun x => .inr (by omega)), ((k2.mono fun _ _ f => f.elim).step (q3.mono fun _ _ f => f.elim .inl (fun x => .inr (.inl x)))).step (kc.mono fun _ _ e => .inr (.inr e)), ?_, fun j hj hjN => ?_⟩
      · rw [if_neg (by decide), if_neg (by decide)] at q4; exact q4
      · have := q5 j hj hjN
        unfold ckG at this
        rw [if_neg (by decide)] at this
        exact this
    have hcf1 : ∀ w0, (callFunc 80 #[.pointer (some ⟨l, 0, none⟩)]).run Tryz.prog w0 = .ok (.enter 80 #[.pointer (some ⟨l, 0, none⟩)]) w0 := fun w0 => by kernel_rfl
    have hcf2 : ∀ w0, (callFunc 123 #[.pointer (some ⟨sb, 0, none⟩)]).run Tryz.prog w0 = .ok (.enter 123 #[.pointer (some ⟨sb, 0, none⟩)]) w0 := fun w0 => by kernel_rfl
    have hcf3 : ∀ w0, (callFunc 124 #[.pointer (some ⟨l, 0, none⟩)]).run Tryz.prog w0 = .ok (.enter 124 #[.pointer (some ⟨l, 0, none⟩)]) w0 := fun w0 => by kernel_rfl
    clear hmf
    generalize hPost : CkPost w sb d l mo F G D ov oc op L N g = Post at *
    generalize w.heap.size = fb at *
    clear hlt
    replace k2 := hid k2; replace b2 := hid b2; replace hfbF := hid hfbF; replace hfl := hid hfl; replace h2 := hid h2; replace r0 := hid r0; replace hS1 := hid hS1; replace hS2 := hid hS2; replace hS3 := hid hS3; replace hfb := hid hfb; replace hfin := hid hfin; replace hPost := hid hPost
    go_wp2
    go_loopw [22] (fun i wr => ∃ k : Nat, k ≤ 3 ∧ i = .int .i64 k ∧ CkRel w2 sb d l mo F G D ov oc op L N g k wr) (fun i _ => 3 - (RowKit.intOf i).toNat)
    case atStart => exact ⟨0, by omega, rfl, r0.out⟩
    case round =>
      obtain ⟨k, hk, rfl, hR⟩ := hrel
      have hB := hfb.out k wr hR
      clear r0
      have h4 : k = 0 ∨ k = 1 ∨ k = 2 ∨ k = 3 := by omega
      rcases h4 with rfl | rfl | rfl | rfl
      · have hv := hB.cell 0
        simp [ckFuns] at hv
        have hC := hS1.out wr hR
        replace hR := hid hR; replace hB := hid hB; replace hC := hid hC
        go_wp2_with (go_at_call 80; refine hC.out.mono ?_; rintro e w8 ⟨rfl, hp8⟩; replace hp8 := hid hp8)
        exact ⟨⟨1, by omega, by go_num, hp8.out⟩, by simp [RowKit.intOf]⟩
      · have hv := hB.cell 1
        simp [ckFuns] at hv
        have hC := hS2.out wr hR
        replace hR := hid hR; replace hB := hid hB; replace hC := hid hC
        go_wp2_with (go_at_call 123; refine hC.out.mono ?_; rintro e w8 ⟨rfl, hp8⟩; replace hp8 := hid hp8)
        exact ⟨⟨2, by omega, by go_num, hp8.out⟩, by simp [RowKit.intOf]⟩
      · have hv := hB.cell 2
        simp [ckFuns] at hv
        have hC := hS3.out wr hR
        replace hR := hid hR; replace hB := hid hB; replace hC := hid hC
        go_wp2_with (go_at_call 124; refine hC.out.mono ?_; rintro e w8 ⟨rfl, hp8⟩; replace hp8 := hid hp8)
        exact ⟨⟨3, by omega, by go_num, hp8.out⟩, by simp [RowKit.intOf]⟩
      · obtain ⟨d8, hcl, hF⟩ := hfin.out wr hR
        replace hR := hid hR; replace hB := hid hB; replace hF := hid hF
        go_wp2
        go_ret
        exact ⟨rfl, by rw [hPost.out]; exact hF.out⟩
end
end Go.Vk
