/- append of one byte onto a byte row of the program's own, the whole block told. The walk of padded of the law. -/
import Derived.Test.YtceodjgajkimnaaGreatMA
import Derived.Test.YtceodjgajkimnaaGreatMB
import Derived.Test.YtceodjgajkimnaaGreatMP
set_option linter.unusedVariables false

namespace Go.Vk
open Go.RowKit

/-- A byte row of the program's own: all of its block is bytes. -/
def BFull (w : World) (lo : Nat) (v : Value) (l : List UInt8) : Prop :=
  (v = .slice none 0 0 ∧ l = []) ∨ ∃ g k, v = .slice (some ⟨g, 0, none⟩) l.length (l.length + k) ∧ lo ≤ g ∧ l.length + k ≤ maxLen ∧ ∃ rest : List UInt8, rest.length = k ∧ Blk w g (bytesO (l ++ rest))
section
variable {P : Program} {w : World}
theorem zeroCells_B (n : Nat) : Builtin.zeroCells (Value.int .u8 0).cells n = ((zeros n).map B).toArray := by
  apply Array.ext'
  apply List.ext_getElem
  · simp [Builtin.zeroCells, zeros, Value.cells]
  · intro j h1 h2
    have e0 : j % 1 = 0 := Nat.mod_one j
    simp [Builtin.zeroCells, zeros, Value.cells, B, e0]
theorem run_appendB (t ty e : TypeId) (i : TypeInfo) (ht : P.underlying t = some (.slice e)) (he : e = 5) (hi : P.info? e = some i) (hz : i.zero = some (.int .u8 0)) (hsize : i.size = 1) (hby : i.bytes = 1)
    (lo : Nat) (hlo : lo ≤ w.heap.size) (v : Value) (l : List UInt8) (h : BFull w lo v l) (hl : l.length ≤ 4096) (a : Addr) (c : Nat) (y : UInt8) (hy : w.cell? (a.add 0) = some (B y)) :
    ∃ v' w', (Builtin.append_ #[t, t] ty #[v, .slice (some a) 1 c]).run P w = .ok v' w' ∧ BFull w' lo v' (l ++ [y]) ∧ w.grownBy w' v.ownBlock := by
  have hnews : ∀ j u, [B y][j]? = some u → w.cell? (a.add j) = some u := by
    intro j u hj
    match j, hj with
    | 0, hj => simp at hj; subst hj; exact hy
  have grown : ∀ (old : Nat), old < l.length + 1 → ∀ (row : Option Nat),
      BFull (w.drew.alloc (.cells ((l.map B).toArray ++ [B y].toArray ++ Builtin.zeroCells (Value.int .u8 0).cells (grownCap w (l.length + 1) old e - (l.length + 1))) e)) lo
        (.slice (some ⟨w.heap.size, 0, none⟩) (l.length + 1) (grownCap w (l.length + 1) old e)) (l ++ [y]) ∧
      w.grownBy (w.drew.alloc (.cells ((l.map B).toArray ++ [B y].toArray ++ Builtin.zeroCells (Value.int .u8 0).cells (grownCap w (l.length + 1) old e - (l.length + 1))) e)) row := by
    intro old _ row
    have hge := grownCap_ge w (l.length + 1) old e
    have hh := (Blk.new w.drew (.cells ((l.map B).toArray ++ [B y].toArray ++ Builtin.zeroCells (Value.int .u8 0).cells (grownCap w (l.length + 1) old e - (l.length + 1))) e))
    refine ⟨.inr ⟨w.heap.size, grownCap w (l.length + 1) old e - (l.length + 1), ?_, hlo, (by have := grownCap_le_maxLen w (l.length + 1) old e (by unfold maxLen; omega); simp; omega), zeros (grownCap w (l.length + 1) old e - (l.length + 1)), length_zeros _, ?_⟩, ⟨rfl, rfl, rfl, by simp, fun k hk _ => Below.heap_alloc w.drew _ k hk⟩⟩
    · rw [List.length_append, List.length_singleton]
      congr 1
      omega
    · have e2 : bytesO (l ++ [y] ++ zeros (grownCap w (l.length + 1) old e - (l.length + 1))) = .cells ((l.map B).toArray ++ [B y].toArray ++ Builtin.zeroCells (Value.int .u8 0).cells (grownCap w (l.length + 1) old e - (l.length + 1))) e (0, 0) := by
        rw [zeroCells_B, he]
        simp [bytesO]
      rw [e2]
      exact hh
  rcases h with ⟨rfl, rfl⟩ | ⟨g, k, rfl, hg0, hmx, rest, hk, hg⟩
  · have hr := run_append_nil (P := P) w t ty e i (.int .u8 0) ht hi hz a 1 c [B y] (by rw [hsize]; rfl) hnews (by omega) (by omega) (by rw [hby]; omega)
    have hgr := grown 0 (by simp) (Value.ownBlock (.slice none 0 0))
    simp only [List.map_nil, List.length_nil, Nat.zero_add, List.nil_append, Array.empty_append] at hgr ⊢
    exact ⟨_, _, hr, hgr.1, hgr.2⟩
  · by_cases hroom : l.length + 1 ≤ l.length + k
    · have hcs : ((l ++ rest).map B).toArray.size = l.length + k := by simp [hk]
      have hr := run_append_room (P := P) w t ty e i ht hi g l.length (l.length + k) ((l ++ rest).map B).toArray (by rw [he]; exact hg) a 1 c [B y] (by rw [hsize]; rfl) hnews (by intro u hu; simp at hu; subst hu; rfl) hroom (by rw [hsize, hcs]; simp; omega)
      refine ⟨_, _, hr, .inr ⟨g, k - 1, ?_, hg0, (by simp; omega), rest.drop 1, by simp [hk], ?_⟩, ⟨rfl, rfl, rfl, by simp [World.setRow], fun k _ hk => setRow_other w g k _ (fun e => hk (by simp [Value.ownBlock, e]))⟩⟩
      · rw [List.length_append, List.length_singleton]
        congr 1
        omega
      · have := setRow_heap w g ((l ++ rest).map B).toArray (((l ++ rest).map B).toArray.toList.take (l.length * i.size) ++ [B y] ++ ((l ++ rest).map B).toArray.toList.drop (l.length * i.size + [B y].length)).toArray 5 (0, 0) hg
        have e3 : ((((l ++ rest).map B).toArray.toList.take (l.length * i.size) ++ [B y] ++ ((l ++ rest).map B).toArray.toList.drop (l.length * i.size + [B y].length)).toArray) = ((l ++ [y] ++ rest.drop 1).map B).toArray := by
          rw [hsize]
          simp [List.take_append, List.drop_append, List.map_drop]
        rw [e3] at this ⊢
        exact this
    · have hk0 : k = 0 := by omega
      have holds : ∀ j u, (l.map B)[j]? = some u → w.cell? ((⟨g, 0, none⟩ : Addr).add j) = some u := fun j u hj => by
        have e1 : (⟨g, 0, none⟩ : Addr).add j = ⟨g, j, none⟩ := by unfold Addr.add; split <;> simp_all
        rw [e1]
        have := hg.cell j
        rw [this]
        have hjl : j < l.length := by have := (List.getElem?_eq_some_iff.1 hj).1; simpa using this
        simp [List.getElem?_append_left, hjl] at hj ⊢
        exact hj
      have hr := run_append_grow (P := P) w t ty e i (.int .u8 0) ht hi hz ⟨g, 0, none⟩ l.length (l.length + k) (l.map B) (by rw [hsize]; simp) holds a 1 c [B y] (by rw [hsize]; rfl) hnews (by omega) (by omega) (growslice_fits (by omega) (by rw [hby]; omega))
      have hgr := grown (l.length + k) (by omega) (Value.ownBlock (.slice (some ⟨g, 0, none⟩) l.length (l.length + k)))
      exact ⟨_, _, hr, hgr.1, hgr.2⟩
variable {ops : Array Oper} {rest : List Oper} {o : Oper} {a : Act} {K : Act → World → Prop} {Q : Exit → Act → World → Prop}
theorem wpList_appendB (hgd : o.guard = none) (s x : Operand) (t : TypeId) (ho : o.op = .call { callee := .builtin .append, args := #[s, x], argTypes := #[t, t] })
    (e : TypeId) (i : TypeInfo) (ht : P.underlying t = some (.slice e)) (he : e = 5) (hi : P.info? e = some i) (hz : i.zero = some (.int .u8 0)) (hsize : i.size = 1) (hby : i.bytes = 1)
    (lo : Nat) (hlo : lo ≤ w.heap.size) (v : Value) (l : List UInt8) (hs : a.eval s = v) (h : BFull w lo v l) (hl : l.length ≤ 4096) (ad : Addr) (c : Nat) (y : UInt8) (hx : a.eval x = .slice (some ad) 1 c) (hy : w.cell? (ad.add 0) = some (B y))
    (hK : ∀ v' w', BFull w' lo v' (l ++ [y]) → w.grownBy w' v.ownBlock → wpList P ops Q rest (a.put o.dst v') w') :
    wpList P ops Q (o :: rest) a w :=
  wpList_plain hgd fun _ hKK => by
    obtain ⟨v', w', hr, h2, h3⟩ := run_appendB (P := P) t o.type e i ht he hi hz hsize hby lo hlo v l h hl ad c y hy
    unfold Oper.wp execOp
    simp only [ho, resolve, invoke, builtin, Sem.run_bind, Sem.run_pure, Result.andThen_ok, List.map_toArray, List.map_cons, List.map_nil, hs, hx, hr]
    exact hKK _ _ (hK v' w' h2 h3)
theorem BFull.alloc {lo : Nat} {v : Value} {l : List UInt8} (h : BFull w lo v l) (o : Obj) : BFull (w.alloc o) lo v l := by
  rcases h with h | ⟨g, k, e, h1, hmx, rest, h2, h3⟩
  · exact .inl h
  · exact .inr ⟨g, k, e, h1, hmx, rest, h2, h3.alloc o⟩
end
end Go.Vk

namespace Go.Vk
open Go.RowKit Go.Proofs

/-- 512 bytes of the data, zeros behind. -/
def padL (l : List UInt8) : List UInt8 := (l ++ zeros 512).take 512
theorem padL_length (l : List UInt8) : (padL l).length = 512 := by simp [padL, length_zeros]
theorem padL_lo (l : List UInt8) (k : Nat) (hk : k < 512) (h : k < l.length) : (padL l)[k]'(by rw [padL_length]; exact hk) = l[k] := by
  unfold padL
  rw [List.getElem_take, List.getElem_append_left h]
theorem padL_hi (l : List UInt8) (k : Nat) (hk : k < 512) (h : ¬ k < l.length) : (padL l)[k]'(by rw [padL_length]; exact hk) = 0 := by
  unfold padL
  rw [List.getElem_take, List.getElem_append_right (by omega)]
  unfold zeros
  rw [List.getElem_replicate]
theorem BFull.lt {w : World} {lo : Nat} {v : Value} {l : List UInt8} (h : BFull w lo v l) {g : Nat} (e : v.ownBlock = some g) : lo ≤ g ∧ g < w.heap.size := by
  rcases h with ⟨rfl, _⟩ | ⟨g1, k, rfl, h1, _, rest, h2, h3⟩
  · cases e
  · have : g1 = g := Option.some.inj e
    subst this
    exact ⟨h1, h3.lt⟩
set_option maxRecDepth 100000 in
set_option maxHeartbeats 1000000 in
theorem padded_w (w : World) (v : Value) (l : List UInt8) (h : ByteSl w v l) :
    Calls Tryz.prog 170 #[v] w fun e w' => ∃ g k rest, e = .returned (.slice (some ⟨g, 0, none⟩) 512 (512 + k)) ∧ w.heap.size ≤ g ∧ (rest.length = k ∧ 512 + k ≤ maxLen) ∧ Blk w' g (bytesO (padL l ++ rest)) ∧ Keeps (fun _ => False) w w' := by
  obtain ⟨a0, c0, rfl, h⟩ := h
  obtain ⟨i0, hi, hz0, hz1, hz2⟩ := info_parts info5
  obtain ⟨n, hn⟩ : ∃ n, l.length = n := ⟨_, rfl⟩
  rw [hn]
  have hcel : ∀ wr, Keeps (fun _ => False) w wr → ∀ k (hk : k < l.length), ∃ g0 o0, a0 = some ⟨g0, o0, none⟩ ∧ wr.cell? ⟨g0, o0 + k, none⟩ = some (.int .u8 (l[k].toNat : Nat)) := fun wr kk k hk => by
    rcases h with h | ⟨g0, o0, e0, h⟩
    · rw [h] at hk; cases hk
    · exact ⟨g0, o0, e0, kk.cellF (h k hk) (fun f => f)⟩
  have hpl := padL_length l
  have hsn : ∀ k (hk : k < (padL l).length), (padL l).take (k + 1) = (padL l).take k ++ [(padL l)[k]] := fun k hk => by rw [List.take_add_one, List.getElem?_eq_getElem hk]; rfl
  have hsl : ∀ k (_ : k < 512) (h : k < l.length), (padL l).take (k + 1) = (padL l).take k ++ [l[k]] := fun k hk h => by rw [hsn k (by omega), padL_lo l k hk h]
  have hsh : ∀ k (_ : k < 512), ¬ k < l.length → (padL l).take (k + 1) = (padL l).take k ++ [0] := fun k hk h => by rw [hsn k (by omega), padL_hi l k hk h]
  clear hsn
  have htl : ∀ k, ((padL l).take k).length ≤ 512 := fun k => by rw [List.length_take]; omega
  have hfin : ∀ W v, BFull W w.heap.size v ((padL l).take 512) → ∃ g k rest, v = .slice (some ⟨g, 0, none⟩) 512 (512 + k) ∧ w.heap.size ≤ g ∧ (rest.length = k ∧ 512 + k ≤ maxLen) ∧ Blk W g (bytesO (padL l ++ rest)) := fun W v hB => by
    rw [List.take_of_length_le (by omega)] at hB
    rcases hB with ⟨_, h2⟩ | ⟨g, k, e, h1, hmx, rest, h2, h3⟩
    · have := hpl; rw [h2] at this; cases this
    · rw [hpl] at e hmx
      exact ⟨g, k, rest, e, h1, ⟨h2, hmx⟩, h3⟩
  have hnil : BFull w w.heap.size (.slice none 0 0) ((padL l).take 0) := .inl ⟨rfl, rfl⟩
  have hk0 := Keeps.refl (fun _ => False) w
  generalize padL l = L at *
  replace h := hid h; replace hi := hid hi; replace hz0 := hid hz0; replace hz1 := hid hz1; replace hz2 := hid hz2; replace hn := hid hn; replace hcel := hid hcel; replace hsl := hid hsl; replace hsh := hid hsh; replace hpl := hid hpl; replace htl := hid htl; replace hfin := hid hfin; replace hnil := hid hnil; replace hk0 := hid hk0
  go_enter Tryz.func170, Tryz.ntmps170
  go_wp2
  go_loopw [3, 4] (fun v i wr => ∃ k : Nat, k ≤ 512 ∧ i = .int .i64 k ∧ BFull wr w.heap.size v (L.take k) ∧ Keeps (fun _ => False) w wr) (fun _ i _ => 512 - (intOf i).toNat)
  case atStart => exact ⟨0, by omega, rfl, hnil.out, hk0.out⟩
  case round =>
    obtain ⟨k, hk1, rfl, hown, hk2⟩ := hrel
    by_cases hlt2 : k < 512
    · have hki : (k : Int) < 512 := by omega
      have htk := htl.out k
      by_cases hkn : k < n
      · have hkni : (k : Int) < n := by omega
        have hix : 0 ≤ (k : Int) ∧ (k : Int) < (n : Nat) := by omega
        have hkl : k < l.length := by have := hn.out; omega
        obtain ⟨g0, o0, rfl, hc⟩ := hcel.out wr hk2 k hkl
        have hs := hsl.out k hlt2 hkl
        generalize l[k] = y at hc hs
        generalize L.take k = cur at hown hs htk
        clear hcel
        replace hk2 := hid hk2; replace hs := hid hs
        go_wp2_with (at_builtin; refine wpList_appendB rfl _ _ 57 rfl 5 i0 und22 rfl hi.out hz0.out hz1.out hz2.out w.heap.size ?c0 _ _ rfl (hown.alloc _) (by omega) ⟨wr.heap.size, 0, none⟩ 1 y rfl ?c1 ?_)
        case c0 => have := hk2.out.size; simp; omega
        case c1 => exact cell_one_new _ _ _ 0 _ rfl
        · intro v' w1 hown' hgrow
          have hk3 := (hk2.out.alloc _).grown hgrow (fun k hk => .inr (hown.lt hk).1)
          rw [← hs.out] at hown'
          replace hown' := hid hown'; replace hk3 := hid hk3; replace hgrow := hid hgrow; replace hown := hid hown
          clear hc
          go_wp2
          exact ⟨⟨k + 1, by omega, by go_num, hown'.out, hk3.out⟩, by simp [intOf]; omega⟩
      · have hkni : ¬ (k : Int) < n := by omega
        have hkl : ¬ k < l.length := by have := hn.out; omega
        have hs := hsh.out k hlt2 hkl
        generalize L.take k = cur at hown hs htk
        clear hcel
        replace hk2 := hid hk2; replace hs := hid hs
        go_wp2_with (at_builtin; refine wpList_appendB rfl _ _ 57 rfl 5 i0 und22 rfl hi.out hz0.out hz1.out hz2.out w.heap.size ?c0 _ _ rfl (hown.alloc _) (by omega) ⟨wr.heap.size, 0, none⟩ 1 0 rfl ?c1 ?_)
        case c0 => have := hk2.out.size; simp; omega
        case c1 => first | rfl | exact cell_one_new _ _ _ 0 _ rfl
        · intro v' w1 hown' hgrow
          have hk3 := (hk2.out.alloc _).grown hgrow (fun k hk => .inr (hown.lt hk).1)
          rw [← hs.out] at hown'
          replace hown' := hid hown'; replace hk3 := hid hk3; replace hgrow := hid hgrow; replace hown := hid hown
          go_wp2
          exact ⟨⟨k + 1, by omega, by go_num, hown'.out, hk3.out⟩, by simp [intOf]; omega⟩
    · have hki : ¬ (k : Int) < 512 := by omega
      obtain rfl : k = 512 := by omega
      obtain ⟨g, kk, rest, rfl, f1, f2, f3⟩ := hfin.out wr _ hown
      replace hk2 := hid hk2; replace hown := hid hown; replace f3 := hid f3
      go_wp2
      go_ret
      refine ⟨g, kk, ?_⟩
      first | exact ⟨rest, rfl, f1, f2, f3.out, hk2.out⟩ | exact ⟨rfl, f1, rest, f2, f3.out, hk2.out⟩
end Go.Vk
