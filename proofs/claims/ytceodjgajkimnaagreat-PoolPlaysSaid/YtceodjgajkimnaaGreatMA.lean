/- Base words of these proofs: what a block of the heap holds, what a step leaves alone, byte rows. Maps keyed by ints: what a block of entries holds, and what each operation on it does. Over any program. Rows of bytes: copy, make, slices that read as bytes. Over any program. append onto a row of the program's own, telling too where the answer lies: in the same block, or in a new one. Over any program. Lists of bytes cut into sectors of 512. Whole arrays and structs by value, out of and into a block, by the block's whole row. Over any program. Bytes in blocks of any type: copy, append onto a full slice. Over any program. Two rows of bytes as arrays: what '==' says. Over any program. -/
import Derived.WalkKit
import Derived.WalkSpells
import Derived.WalkLawsBesides
import Derived.MapKept
import Derived.Maps.RangeRun
import Derived.Laws.CopyOwn
import Derived.Laws.AppendOwn
import Derived.Deep.MidRow
import Derived.ChangeKeysEq
import Derived.Laws.Cover3
set_option linter.unusedVariables false

namespace Go.Vk
open Go.RowKit


theorem hid {p : Prop} (h : p) : Hid p := h

/-- Block b holds o. -/
def Blk (w : World) (b : Nat) (o : Obj) : Prop := w.heap[b]? = some o

theorem Blk.lt {w : World} {b : Nat} {o : Obj} (h : Blk w b o) : b < w.heap.size := by
  unfold Blk at h
  rcases Nat.lt_or_ge b w.heap.size with h' | h'
  · exact h'
  · rw [Array.getElem?_eq_none h'] at h; cases h
theorem Blk.inj {w : World} {b : Nat} {o o' : Obj} (h : Blk w b o) (h' : Blk w b o') : o = o' := by
  unfold Blk at h h'; rw [h] at h'; exact Option.some.inj h'
theorem Blk.cell {w : World} {b : Nat} {cs : Array Value} {T : TypeId} {fr : Nat × Nat} (h : Blk w b (.cells cs T fr)) (i : Nat) : w.cell? ⟨b, i, none⟩ = cs[i]? := by
  unfold Blk at h; simp [World.cell?, h]
theorem Blk.frz {w : World} {b : Nat} {cs : Array Value} {T : TypeId} (h : Blk w b (.cells cs T (0, 0))) (i : Nat) : w.frozen? ⟨b, i, none⟩ = false := by
  unfold Blk at h; simp [World.frozen?, h]
theorem Blk.alloc {w : World} {b : Nat} {o : Obj} (h : Blk w b o) (o' : Obj) : Blk (w.alloc o') b o := by
  have := h.lt
  unfold Blk at *
  show (w.heap.push o')[b]? = _
  rw [Array.getElem?_push, if_neg (by omega)]; exact h
theorem Blk.new (w : World) (o : Obj) : Blk (w.alloc o) w.heap.size o := by
  show (w.heap.push o)[w.heap.size]? = _
  simp
theorem Blk.drew {w : World} {b : Nat} {o : Obj} (h : Blk w b o) : Blk w.drew b o := h
theorem Blk.setCell_ne {w : World} {b : Nat} {o : Obj} (h : Blk w b o) {p : Addr} (hne : b ≠ p.block) (v : Value) : Blk (w.setCell p v) b o := by
  unfold Blk at *
  simp only [World.setCell, Array.getElem?_modify]
  rw [if_neg (by omega)]; exact h
theorem Blk.setCell {w : World} {b : Nat} {cs : Array Value} {T : TypeId} {fr : Nat × Nat} (h : Blk w b (.cells cs T fr)) (i : Nat) (v : Value) :
    Blk (w.setCell ⟨b, i, none⟩ v) b (.cells (cs.setIfInBounds i v) T fr) := by
  unfold Blk at *
  simp [World.setCell, Array.getElem?_modify, h]

/-- From w to w' only blocks of F (and new ones) have turned. -/
structure Keeps (F : Nat → Prop) (w w' : World) : Prop where
  os : w'.os = w.os
  tape : w'.tape = w.tape
  output : w'.output = w.output
  size : w.heap.size ≤ w'.heap.size
  block : ∀ k, k < w.heap.size → ¬ F k → w'.heap[k]? = w.heap[k]?

theorem Keeps.refl (F : Nat → Prop) (w : World) : Keeps F w w := ⟨rfl, rfl, rfl, Nat.le_refl _, fun _ _ _ => rfl⟩
theorem Keeps.trans {F G : Nat → Prop} {a b c : World} (h : Keeps F a b) (k : Keeps G b c) (hG : ∀ i, i < a.heap.size → G i → F i) : Keeps F a c :=
  ⟨k.os.trans h.os, k.tape.trans h.tape, k.output.trans h.output, Nat.le_trans h.size k.size,
   fun i hi hf => (k.block i (Nat.lt_of_lt_of_le hi h.size) (fun g => hf (hG i hi g))).trans (h.block i hi hf)⟩
theorem Keeps.mono {F G : Nat → Prop} {a b : World} (h : Keeps F a b) (hG : ∀ i, i < a.heap.size → F i → G i) : Keeps G a b :=
  ⟨h.os, h.tape, h.output, h.size, fun i hi hf => h.block i hi (fun f => hf (hG i hi f))⟩
theorem Keeps.step {F : Nat → Prop} {a b c : World} (h : Keeps F a b) (k : Keeps F b c) : Keeps F a c := h.trans k (fun _ _ e => e)
theorem Keeps.alloc {F : Nat → Prop} {a b : World} (h : Keeps F a b) (o : Obj) : Keeps F a (b.alloc o) :=
  ⟨h.os, h.tape, h.output, by rw [World.size_alloc]; have := h.size; omega, fun i hi hf => by
    have h1 := h.block i hi hf
    have h2 := h.size
    rw [← h1]
    show (b.heap.push o)[i]? = _
    rw [Array.getElem?_push, if_neg (by omega)]⟩
theorem Keeps.drew {F : Nat → Prop} {a b : World} (h : Keeps F a b) : Keeps F a b.drew := ⟨h.os, h.tape, h.output, h.size, h.block⟩
theorem Keeps.setCell {F : Nat → Prop} {a b : World} (h : Keeps F a b) {p : Addr} (hp : F p.block ∨ a.heap.size ≤ p.block) (v : Value) : Keeps F a (b.setCell p v) :=
  ⟨h.os, h.tape, h.output, by rw [World.size_setCell]; exact h.size, fun i hi hf => by
    have h1 := h.block i hi hf
    rw [← h1]
    simp only [World.setCell, Array.getElem?_modify]
    rw [if_neg]
    intro e
    rcases hp with hp | hp
    · exact hf (e ▸ hp)
    · omega⟩
theorem Keeps.grown {F : Nat → Prop} {a b c : World} (h : Keeps F a b) {row : Option Nat} (hg : b.grownBy c row) (hr : ∀ k, row = some k → F k ∨ a.heap.size ≤ k) : Keeps F a c :=
  ⟨hg.os.trans h.os, hg.tape.trans h.tape, hg.output.trans h.output, Nat.le_trans h.size hg.size, fun i hi hf => by
    rw [hg.block i (Nat.lt_of_lt_of_le hi h.size) (fun e => by rcases hr i e.symm with x | x; exact hf x; omega)]
    exact h.block i hi hf⟩
theorem Keeps.blk {F : Nat → Prop} {w w' : World} (h : Keeps F w w') {b : Nat} {o : Obj} (hb : Blk w b o) (hf : ¬ F b) : Blk w' b o := by
  have := h.block b hb.lt hf
  unfold Blk at *
  rw [this]; exact hb
theorem Keeps.below {F : Nat → Prop} {w w' : World} (h : Keeps F w w') {n : Nat} (hn : n ≤ w.heap.size) (hF : ∀ k, F k → n ≤ k) : Below n w w' :=
  ⟨h.os, h.tape, h.output, h.size, fun k hk => h.block k (by omega) (fun f => by have := hF k f; omega)⟩

theorem cell_alloc {w : World} {a : Addr} {v : Value} (h : w.cell? a = some v) (o : Obj) : (w.alloc o).cell? a = some v := by
  rw [World.cell?_alloc_lt w o a (World.block_lt_of_cell? w a h)]; exact h
theorem cell_setCell_ne {w : World} {a p : Addr} {v : Value} (h : w.cell? a = some v) (hne : a.block ≠ p.block) (u : Value) : (w.setCell p u).cell? a = some v := by
  rw [World.cell?_setCell_other _ _ _ _ (fun e => hne (by rw [e]))]; exact h
theorem cell_grown {w w' : World} {a : Addr} {v : Value} {row : Option Nat} (h : w.cell? a = some v) (hg : w.grownBy w' row) (hne : some a.block ≠ row) : w'.cell? a = some v := hg.cell h hne
theorem Blk.grown {w w' : World} {b : Nat} {o : Obj} {row : Option Nat} (h : Blk w b o) (hg : w.grownBy w' row) (hne : some b ≠ row) : Blk w' b o := by
  unfold Blk; rw [hg.block b h.lt hne]; exact h

/-- A byte as a cell. -/
def B (x : UInt8) : Value := .int .u8 x.toNat
/-- A row of bytes as a block. -/
def bytesO (bs : List UInt8) : Obj := .cells (bs.map B).toArray 5 (0, 0)

end Go.Vk

namespace Go.Vk
open Go.RowKit Go.MapKept

/-- Entries: key, value, stamp. -/
abbrev Ent := Nat × Value × Nat
def ent (x : Ent) : MapEntry := ⟨.int .i64 x.1, x.2.1, x.2.2⟩
def mapO (l : List Ent) (clock : Nat) : Obj := .map (l.map ent).toArray clock

/-- What lies at a key. -/
def look (l : List Ent) (k : Nat) : Option Value := (l.find? (·.1 == k)).map (·.2.1)
/-- A store at a key that is there. -/
def setAt (l : List Ent) (k : Nat) (v : Value) : List Ent := l.map fun x => if x.1 == k then (x.1, v, x.2.2) else x

theorem look_none {l : List Ent} {k : Nat} : look l k = none ↔ ∀ x ∈ l, x.1 ≠ k := by simp [look]
theorem isKey_ents (l : List Ent) : ∀ x ∈ (l.map ent), IsKey (.int .i64) x.key := by
  intro x hx
  obtain ⟨y, _, rfl⟩ := List.mem_map.1 hx
  simp [ent, IsKey]

theorem findNow_ents (k : Nat) : ∀ (l : List Ent) (i : Nat), Instr.findNow (.int .i64) (.int .i64 k) (l.map ent) i =
    some ((l.findIdx? (·.1 == k)).bind fun j => (look l k).map fun v => (i + j, v))
  | [], i => by simp [Instr.findNow]
  | x :: l, i => by
    have ih := findNow_ents k l (i + 1)
    by_cases h : x.1 = k
    · simp [Instr.findNow, ent, Instr.sameNow, h, List.findIdx?_cons, look]
    · have h' : ((k : Int) == (x.1 : Int)) = false := by simp; omega
      have h2 : (x.1 == k) = false := by simp [h]
      have e1 : Instr.findNow (.int .i64) (.int .i64 k) (((x :: l)).map ent) i = Instr.findNow (.int .i64) (.int .i64 k) (l.map ent) (i + 1) := by
        simp [Instr.findNow, ent, Instr.sameNow, h']
      rw [e1, ih]
      have e2 : look (x :: l) k = look l k := by simp [look, h2]
      rw [e2, List.findIdx?_cons, h2]
      cases l.findIdx? (fun x => x.1 == k) with
      | none => simp
      | some j => cases look l k <;> simp; omega

section
variable {P : Program} {w : World} {T K E : TypeId} {m k clock : Nat} {l : List Ent}

theorem run_lookup (hT : P.underlying T = some (.map K E)) (hK : P.underlying K = some (.int .i64)) (hb : Blk w m (mapO l clock)) {z : Value} (hz : (zeroValue E).run P w = .ok z w) :
    (Instr.lookup T (.map (some m)) (.int .i64 k) false).run P w = .ok ((look l k).getD z) w := by
  have hb : w.heap[m]? = some (.map (l.map ent).toArray clock) := hb
  have hf := findNow_ents k l 0
  have hkey : IsKey (.int .i64) (.int .i64 (k : Int)) := by simp [IsKey]
  have hlook : look l k = none → (l.findIdx? (·.1 == k)) = none := fun h => by
    rw [List.findIdx?_eq_none_iff]; intro x hx; simp; exact look_none.1 h x hx
  cases hl : look l k with
  | none =>
    rw [hlook hl] at hf
    simp [Instr.lookup, run_underlying hT, MapKept.run_getObj_map hb, MapKept.run_checkKey hK hkey, MapKept.run_findKey hK hf, hz, Result.andThen]
  | some v =>
    cases hi : l.findIdx? (·.1 == k) with
    | none =>
      rw [List.findIdx?_eq_none_iff] at hi
      have : look l k = none := look_none.2 (fun x hx => by simpa using hi x hx)
      rw [hl] at this; cases this
    | some j =>
      rw [hi, hl] at hf
      simp [Instr.lookup, run_underlying hT, MapKept.run_getObj_map hb, MapKept.run_checkKey hK hkey, MapKept.run_findKey hK hf, Result.andThen]

theorem run_lookup_ok (hT : P.underlying T = some (.map K E)) (hK : P.underlying K = some (.int .i64)) (hb : Blk w m (mapO l clock)) {z : Value} (hz : (zeroValue E).run P w = .ok z w) :
    (Instr.lookup T (.map (some m)) (.int .i64 k) true).run P w = .ok (.tuple #[(look l k).getD z, .bool (look l k).isSome]) w := by
  have hb : w.heap[m]? = some (.map (l.map ent).toArray clock) := hb
  have hf := findNow_ents k l 0
  have hkey : IsKey (.int .i64) (.int .i64 (k : Int)) := by simp [IsKey]
  have hlook : look l k = none → (l.findIdx? (·.1 == k)) = none := fun h => by
    rw [List.findIdx?_eq_none_iff]; intro x hx; simp; exact look_none.1 h x hx
  cases hl : look l k with
  | none =>
    rw [hlook hl] at hf
    simp [Instr.lookup, run_underlying hT, MapKept.run_getObj_map hb, MapKept.run_checkKey hK hkey, MapKept.run_findKey hK hf, hz, Result.andThen]
  | some v =>
    cases hi : l.findIdx? (·.1 == k) with
    | none =>
      rw [List.findIdx?_eq_none_iff] at hi
      have : look l k = none := look_none.2 (fun x hx => by simpa using hi x hx)
      rw [hl] at this; cases this
    | some j =>
      rw [hi, hl] at hf
      simp [Instr.lookup, run_underlying hT, MapKept.run_getObj_map hb, MapKept.run_checkKey hK hkey, MapKept.run_findKey hK hf, Result.andThen]

/-- A whole block turned. -/
def _root_.Go.World.setBlk (w : World) (b : Nat) (o : Obj) : World := { w with heap := w.heap.setIfInBounds b o }

theorem Blk.setBlk {w : World} {b : Nat} {o : Obj} (h : Blk w b o) (o' : Obj) : Blk (w.setBlk b o') b o' := by
  have := h.lt
  simp [Blk, World.setBlk, this]
theorem Blk.setBlk_ne {w : World} {b b' : Nat} {o : Obj} (h : Blk w b o) (hne : b ≠ b') (o' : Obj) : Blk (w.setBlk b' o') b o := by
  unfold Blk at *
  simp [World.setBlk, Ne.symm hne, h]
theorem keeps_setBlk (w : World) (b : Nat) (o : Obj) : Keeps (· = b) w (w.setBlk b o) :=
  ⟨rfl, rfl, rfl, by simp [World.setBlk], fun k _ hk => by simp [World.setBlk, Ne.symm hk]⟩

theorem cell_setBlk_ne {w : World} {a : Addr} {v : Value} (h : w.cell? a = some v) {b : Nat} (hne : a.block ≠ b) (o : Obj) : (w.setBlk b o).cell? a = some v := by
  have e : (w.setBlk b o).heap[a.block]? = w.heap[a.block]? := by simp [World.setBlk, Ne.symm hne]
  rw [World.cell?_of_block e]; exact h
theorem modify_ents (l : List Ent) (k : Nat) (v : Value) (hk : (l.map (·.1)).Nodup) (j : Nat) (hj : l.findIdx? (·.1 == k) = some j) (f : MapEntry → MapEntry)
    (hf : ∀ x : Ent, x.1 = k → f (ent x) = ent (x.1, v, x.2.2)) : (l.map ent).toArray.modify j f = ((setAt l k v).map ent).toArray := by
  apply Array.ext'
  apply List.ext_getElem?
  intro i
  rw [List.findIdx?_eq_some_iff_getElem] at hj
  obtain ⟨hlt, h1, h2⟩ := hj
  have h1 : l[j].1 = k := by simpa using h1
  simp only [Array.getElem?_toList, Array.getElem?_modify, List.getElem?_toArray, List.getElem?_map, setAt]
  by_cases hij : j = i
  · subst hij
    simp [List.getElem?_eq_getElem hlt, h1, hf _ h1]
  · rw [if_neg hij]
    rcases Nat.lt_or_ge i l.length with hi | hi
    · have hne : l[i].1 ≠ k := by
        intro e
        have h3 := (List.pairwise_iff_getElem.1 hk)
        rcases Nat.lt_or_gt_of_ne hij with h4 | h4
        · exact h3 j i (by simpa using hlt) (by simpa using hi) h4 (by simp [e, h1])
        · exact h3 i j (by simpa using hi) (by simpa using hlt) h4 (by simp [e, h1])
      simp [List.getElem?_eq_getElem hi, hne]
    · simp [List.getElem?_eq_none hi]

theorem run_update_old (hT : P.underlying T = some (.map K E)) (hK : P.underlying K = some (.int .i64)) (hb : Blk w m (mapO l clock)) (hk : (l.map (·.1)).Nodup)
    {u : Value} (hl : look l k = some u) (v : Value) :
    (Instr.mapUpdate T (.map (some m)) (.int .i64 k) v).run P w = .ok () (w.setBlk m (mapO (setAt l k v) clock)) := by
  have hb : w.heap[m]? = some (.map (l.map ent).toArray clock) := hb
  have hf := findNow_ents k l 0
  have hkey : IsKey (.int .i64) (.int .i64 (k : Int)) := by simp [IsKey]
  cases hi : l.findIdx? (·.1 == k) with
  | none =>
    rw [List.findIdx?_eq_none_iff] at hi
    have : look l k = none := look_none.2 (fun x hx => by simpa using hi x hx)
    rw [hl] at this; cases this
  | some j =>
    rw [hi, hl] at hf
    have hj : (l.map ent).toArray[j]? = some (ent (l[j]'(by rw [List.findIdx?_eq_some_iff_getElem] at hi; exact hi.1))) := by
      have := (List.findIdx?_eq_some_iff_getElem.1 hi).1
      simp [List.getElem?_eq_getElem this]
    have hjk : (l[j]'(by rw [List.findIdx?_eq_some_iff_getElem] at hi; exact hi.1)).1 = k := by
      have := (List.findIdx?_eq_some_iff_getElem.1 hi).2.1
      simpa using this
    have hmod := modify_ents l k v hk j hi (fun e => { e with key := .int .i64 k, val := v }) (fun x hx => by simp [ent, hx])
    simp only [Instr.mapUpdate, Sem.run_bind, run_underlying hT, Result.andThen, MapKept.run_getObj_map hb, MapKept.run_checkKey hK hkey, MapKept.run_findKey hK hf, Option.map_some, Option.bind_some, Nat.zero_add]
    rw [hj]
    simp only [Option.map_some, Option.getD_some, ent, hjk, MapKept.run_keyThatStays hkey, MapKept.run_setObj_map _ hb]
    rw [hmod]
    rfl

theorem run_update_new (hT : P.underlying T = some (.map K E)) (hK : P.underlying K = some (.int .i64)) (hb : Blk w m (mapO l clock)) (hl : look l k = none) (v : Value) :
    (Instr.mapUpdate T (.map (some m)) (.int .i64 k) v).run P w = .ok () (w.setBlk m (mapO (l ++ [(k, v, clock)]) (clock + 1))) := by
  have hb : w.heap[m]? = some (.map (l.map ent).toArray clock) := hb
  have hf := findNow_ents k l 0
  have hkey : IsKey (.int .i64) (.int .i64 (k : Int)) := by simp [IsKey]
  have hi : (l.findIdx? (·.1 == k)) = none := by
    rw [List.findIdx?_eq_none_iff]; intro x hx; simp; exact look_none.1 hl x hx
  rw [hi] at hf
  simp [Instr.mapUpdate, run_underlying hT, MapKept.run_getObj_map hb, MapKept.run_checkKey hK hkey, MapKept.run_findKey hK hf, MapKept.run_setObj_map _ hb, Result.andThen, World.setBlk, mapO, ent]

theorem run_clear (hT : P.underlying T = some (.map K E)) (hb : Blk w m (mapO l clock)) (ty : TypeId) :
    (Builtin.clear_ #[T] ty #[.map (some m)]).run P w = .ok (.tuple #[]) (w.setBlk m (mapO [] clock)) := by
  have hb : w.heap[m]? = some (.map (l.map ent).toArray clock) := hb
  simp [Builtin.clear_, run_underlying hT, MapKept.run_getObj_map hb, MapKept.run_setObj_map _ hb, Result.andThen, World.setBlk, mapO]
end

/-! ### Ranging over a map whose round leaves the map as it is -/
/-- What an iterator over the map has yet to tell. -/
def restOf (l : List Ent) (seen : Array Nat) : List Ent := l.filter fun x => !seen.contains x.2.2
def iterO (m clock : Nat) (seen : Array Nat) : Obj := .mapIter (some m) clock seen clock

theorem restOf_lt {l : List Ent} {seen : Array Nat} {x : Ent} (hx : x ∈ restOf l seen) : (restOf l (seen.push x.2.2)).length < (restOf l seen).length := by
  have e : restOf l (seen.push x.2.2) = (restOf l seen).filter fun y => !(y.2.2 == x.2.2) := by
    simp only [restOf, List.filter_filter]
    refine List.filter_congr fun y _ => ?_
    rw [Bool.eq_iff_iff]
    simp
    exact And.comm
  rw [e]
  have hle := List.length_filter_le (fun y : Ent => !(y.2.2 == x.2.2)) (restOf l seen)
  rcases Nat.lt_or_eq_of_le hle with h | h
  · exact h
  · rw [List.length_filter_eq_length_iff] at h
    have := h x hx
    simp at this

def iterLeft (l : List Ent) (r : Nat) (w : World) : Nat := match w.heap[r]? with | some (.mapIter _ _ seen _) => (restOf l seen).length | _ => 0
theorem iterLeft_eq {l : List Ent} {r m clock : Nat} {w : World} {seen : Array Nat} (h : Blk w r (iterO m clock seen)) : iterLeft l r w = (restOf l seen).length := by
  unfold Blk iterO at h
  simp [iterLeft, h]
theorem mem_restOf {l : List Ent} {seen : Array Nat} {x : Ent} (h : x ∈ restOf l seen) : x ∈ l ∧ x.2.2 ∉ seen := by
  simpa [restOf] using h

section
variable {P : Program} {w : World} {T K E : TypeId} {m clock r : Nat} {l : List Ent} {ops : Array Oper} {rest : List Oper} {o : Oper} {a : Act} {Q : Exit → Act → World → Prop}

theorem run_range (hT : P.underlying T = some (.map K E)) (hb : Blk w m (mapO l clock)) :
    (Instr.range T (.map (some m))).run P w = .ok (.pointer (some ⟨w.heap.size, 0, none⟩)) (w.alloc (iterO m clock #[])) := by
  have hb : w.heap[m]? = some (.map (l.map ent).toArray clock) := hb
  simp [Instr.range, run_underlying hT, MapKept.run_getObj_map hb, Result.andThen, iterO]

/-- One step of the iteration: over, or one of the entries that are left, whichever. -/
theorem wpList_nextV (hg : o.guard = none) (it : Operand) (hop : o.op = Op.next it false) (r m clock : Nat) (l : List Ent) (seen : Array Nat) (hit : a.eval it = .pointer (some ⟨r, 0, none⟩))
    (hr : Blk w r (iterO m clock seen)) (hb : Blk w m (mapO l clock)) (hc : ∀ x ∈ l, x.2.2 < clock)
    (hDone : restOf l seen = [] → wpList P ops Q rest (a.put o.dst (.tuple #[.bool false])) w)
    (hMore : ∀ x : Ent, x ∈ restOf l seen → ∀ w' : World, Blk w' r (iterO m clock (seen.push x.2.2)) → Keeps (· = r) w w' → w'.heap.size = w.heap.size →
      wpList P ops Q rest (a.put o.dst (.tuple #[.bool true, .int .i64 x.1, x.2.1])) w') : wpList P ops Q (o :: rest) a w := by
  refine wpList_plain hg fun K' hK' => ?_
  have hb' : w.heap[m]? = some (.map (l.map ent).toArray clock) := hb
  have hr' : w.heap[r]? = some (.mapIter (some m) clock seen clock) := hr
  unfold Oper.wp
  have hL : (leftOf (l.map ent).toArray seen).toList = (restOf l seen).map ent := by
    simp only [leftOf, restOf, List.filter_toArray, List.filter_map]
    congr 1
  rcases run_next_at (P := P) w o.type r m clock clock seen _ clock hr' hb' (by intro x hx; simp at hx; obtain ⟨k, v, b, hy, rfl⟩ := hx; exact hc _ hy) (Nat.le_refl _) with ⟨h0, hrun⟩ | ⟨e, he, w1, hw1, hrun⟩
  · simp [execOp, hop, hit, hrun, Result.andThen]
    refine hK' _ _ (hDone ?_)
    have := congrArg List.length hL
    simp [h0] at this
    exact List.eq_nil_of_length_eq_zero this.symm
  · rw [hL] at he
    obtain ⟨x, hx, rfl⟩ := List.mem_map.1 he
    simp [execOp, hop, hit, hrun, Result.andThen]
    have hlt : r < w.heap.size := hr.lt
    have hw : w1.heap = w.heap := by rcases hw1 with rfl | rfl <;> rfl
    refine hK' _ _ (hMore x hx _ ?_ ?_ ?_)
    · show (w1.heap.setIfInBounds r _)[r]? = _
      rw [hw]; simp [hlt, iterO, ent]
    · rcases hw1 with rfl | rfl
      · exact keeps_setBlk _ _ _
      · exact (Keeps.refl _ _).drew.trans (keeps_setBlk w.drew r _) (fun _ _ h => h)
    · show (w1.heap.setIfInBounds r _).size = _
      rw [hw]; simp

theorem run_entryV {x : Ent} {seen : Array Nat} (hr : Blk w r (iterO m clock (seen.push x.2.2))) (hb : Blk w m (mapO l clock)) (hx : x ∈ l) (hn : (l.map (·.2.2)).Nodup) :
    (Instr.entry (.pointer (some ⟨r, 0, none⟩))).run P w = .ok (.tuple #[.int .i64 x.1, x.2.1]) w := by
  have hb' : w.heap[m]? = some (.map (l.map ent).toArray clock) := hb
  have hr' : w.heap[r]? = some (.mapIter (some m) clock (seen.push (ent x).born) clock) := hr
  exact run_entry_at w r m clock seen _ clock (ent x) hr' hb' (by simp; exact ⟨_, _, _, hx, rfl⟩) (by simpa [Function.comp_def, ent] using hn)
end
end Go.Vk

namespace Go.Vk
open Go.RowKit

theorem length_B (bs : List UInt8) : (bs.map B).length = bs.length := by simp
theorem B_one (bs : List UInt8) : ∀ v ∈ bs.map B, v.oneCell' = true := by
  intro v hv
  obtain ⟨x, _, rfl⟩ := List.mem_map.1 hv
  rfl
theorem bytes_cell {w : World} {b : Nat} {bs : List UInt8} (h : Blk w b (bytesO bs)) (i : Nat) (hi : i < bs.length) : w.cell? ⟨b, i, none⟩ = some (B bs[i]) := by
  have := h.cell i
  simpa [List.getElem?_eq_getElem hi] using this

/-- A new row of n zero bytes. -/
def zeros (n : Nat) : List UInt8 := List.replicate n 0
theorem length_zeros (n : Nat) : (zeros n).length = n := by simp [zeros]
theorem run_makeB {P : Program} {t e : TypeId} {i : TypeInfo} (ht : P.underlying t = some (.slice e)) (he : e = 5) (hi : P.info? e = some i) (hz : i.zero = some (.int .u8 0)) (hs : i.size = 1) (hb : i.bytes = 1)
    (n : Nat) (hn : n ≤ 281474976710656) (w : World) :
    (Instr.makeSlice t (.int .i64 n) (.int .i64 n)).run P w = .ok (.slice (some ⟨w.heap.size, 0, none⟩) n n) (w.alloc (bytesO (zeros n))) := by
  have h := run_make (P := P) w t e i _ ht hi hz .i64 .i64 n n (by omega) (by omega) (by rw [hb]; omega) (by omega)
  rw [h]
  subst he
  have e1 : madeCells (Value.int .u8 0).cells ((n : Int).toNat * i.size) = ((zeros n).map B).toArray := by
    rw [hs]
    apply Array.ext'
    apply List.ext_getElem
    · simp [madeCells, zeros]
    · intro j h1 h2
      have e0 : j % 1 = 0 := Nat.mod_one j
      simp [madeCells, zeros, Value.cells, B, e0]
  rw [e1]
  simp [bytesO]

/-- Bytes src[off2 ..] laid over cur[off ..], n of them. -/
def lay (cur : List UInt8) (off : Nat) (src : List UInt8) : List UInt8 := cur.take off ++ (src ++ cur.drop (off + src.length))
theorem length_lay {cur : List UInt8} {off : Nat} {src : List UInt8} (h : off + src.length ≤ cur.length) : (lay cur off src).length = cur.length := by
  simp [lay]; omega
theorem lay_all {cur src : List UInt8} (h : src.length = cur.length) : lay cur 0 src = src := by simp [lay, h]

section
variable {P : Program} {w : World} {ops : Array Oper} {rest : List Oper} {o : Oper} {a : Act} {Q : Exit → Act → World → Prop}

theorem wpList_moveV (hgd : o.guard = none) (x : Operand) (ho : o.op = .move x) (h : wpList P ops Q rest (a.put o.dst (a.eval x)) w) : wpList P ops Q (o :: rest) a w := by
  refine wpList_plain hgd fun K hK => ?_
  unfold Oper.wp
  simp [execOp, ho]
  exact hK _ _ h

theorem wpList_copyB (hgd : o.guard = none) (d s : Operand) (dT sT : TypeId)
    (ho : o.op = .call { callee := .builtin .copy, args := #[d, s], argTypes := #[dT, sT] }) (elem : TypeId) (hu : P.underlying dT = some (.slice elem)) (hsz : (P.info? elem).map (·.size) = some 1)
    (g off dLen dCap g2 off2 sLen sCap : Nat) (hd : a.eval d = .slice (some ⟨g, off, none⟩) dLen dCap) (hs : a.eval s = .slice (some ⟨g2, off2, none⟩) sLen sCap)
    (cur src : List UInt8) (hg : Blk w g (bytesO cur)) (hg2 : Blk w g2 (bytesO src)) (hfit : off + dLen ≤ cur.length) (hfit2 : off2 + sLen ≤ src.length)
    (h : ∀ w', Blk w' g (bytesO (lay cur off ((src.drop off2).take (Nat.min sLen dLen)))) → Keeps (· = g) w w' → w'.heap.size = w.heap.size → wpList P ops Q rest (a.put o.dst (goInt (Nat.min sLen dLen : Nat))) w') :
    wpList P ops Q (o :: rest) a w := by
  have hn : ((src.drop off2).take (Nat.min sLen dLen)).length = Nat.min sLen dLen := by
    simp only [List.length_take, List.length_drop]
    have : Nat.min sLen dLen ≤ sLen := Nat.min_le_left _ _
    omega
  have hm : Nat.min sLen dLen ≤ dLen := Nat.min_le_right _ _
  have hk : ((src.drop off2).take (Nat.min sLen dLen)).map B = (((src.map B).drop off2).take (Nat.min sLen dLen)) := by simp [List.map_take, List.map_drop]
  refine wpList_copy_own hgd d s dT sT ho elem hu hsz g off dLen dCap ⟨g2, off2, none⟩ sLen sCap hd hs (cur.map B).toArray _ hg (((src.drop off2).take (Nat.min sLen dLen)).map B) (by rw [length_B, hn]) ?_ ?_ (B_one _) ?_
  · intro j v hj
    have hjl : j < Nat.min sLen dLen := by
      have := (List.getElem?_eq_some_iff.1 hj).1
      rwa [length_B, hn] at this
    have hms : Nat.min sLen dLen ≤ sLen := Nat.min_le_left _ _
    rw [Addr.add_lit, hg2.cell]
    rw [hk] at hj
    simp only [List.getElem?_take, List.getElem?_drop, hjl, if_true] at hj
    simpa using hj
  · simp only [length_B, hn, List.size_toArray]; omega
  · have e1 : (((src.drop off2).take (Nat.min sLen dLen)).map B).length = Nat.min sLen dLen := by rw [length_B, hn]
    rw [e1]
    refine h _ ?_ ?_ ?_
    · have := setRow_heap w g (cur.map B).toArray ((cur.map B).toArray.toList.take off ++ ((((src.drop off2).take (Nat.min sLen dLen)).map B) ++ (cur.map B).toArray.toList.drop (off + Nat.min sLen dLen))).toArray _ (0, 0) hg
      unfold Blk
      rw [this]
      simp [bytesO, lay, List.map_take, List.map_drop, hn]
    · exact ⟨rfl, rfl, rfl, by simp [World.setRow], fun k _ hkk => setRow_other w g k _ hkk⟩
    · simp [World.setRow]
end
end Go.Vk

namespace Go.Vk
open Go.RowKit

section
variable {P : Program} {w : World}

theorem run_appendV (t ty e : TypeId) (i : TypeInfo) (z : Value) (size bytes : Nat) (ht : P.underlying t = some (.slice e)) (hi : P.info? e = some i) (hz : i.zero = some z)
    (hsize : i.size = size) (hby : i.bytes = bytes) (hzs : z.cells.size = size) (hsz : 0 < size)
    (v : Value) (n : Nat) (xs : List Value) (hown : w.ownsRow 0 e size v n xs)
    (a : Addr) (m c : Nat) (news : List Value) (hl : news.length = m * size) (hnews : ∀ j u, news[j]? = some u → w.cell? (a.add j) = some u) (h1 : ∀ u ∈ news, u.oneCell' = true)
    (hm : 0 < m) (h63 : n + m ≤ maxLen) (hbytes : (n + m) * bytes ≤ 140737488355328) :
    ∃ g' cap' w', (Builtin.append_ #[t, t] ty #[v, .slice (some a) m c]).run P w = .ok (.slice (some ⟨g', 0, none⟩) (n + m) cap') w' ∧
      w'.ownsRow 0 e size (.slice (some ⟨g', 0, none⟩) (n + m) cap') (n + m) (xs ++ news) ∧ w.grownBy w' v.ownBlock ∧ (v.ownBlock = some g' ∧ w'.heap.size = w.heap.size ∨ g' = w.heap.size) := by
  subst hsize
  subst hby
  have hsmall : n + m ≤ 9223372036854775807 := by simp only [maxLen] at h63; omega
  have hlen : (xs ++ news).length = (n + m) * i.size := by rw [List.length_append, hown.1, hl, Nat.add_mul]
  have grown : ∀ (old : Nat), old < n + m → ∀ (row : Option Nat),
      (w.drew.alloc (.cells (xs.toArray ++ news.toArray ++ Builtin.zeroCells z.cells (grownCap w (n + m) old e - (n + m))) e)).ownsRow 0 e i.size
        (.slice (some ⟨w.heap.size, 0, none⟩) (n + m) (grownCap w (n + m) old e)) (n + m) (xs ++ news) ∧
      w.grownBy (w.drew.alloc (.cells (xs.toArray ++ news.toArray ++ Builtin.zeroCells z.cells (grownCap w (n + m) old e - (n + m))) e)) row := by
    intro old _ row
    have hge := grownCap_ge w (n + m) old e
    have hcm : grownCap w (n + m) old e ≤ maxLen := grownCap_le_maxLen w (n + m) old e h63
    have hh := (Blk.new w.drew (.cells (xs.toArray ++ news.toArray ++ Builtin.zeroCells z.cells (grownCap w (n + m) old e - (n + m))) e))
    refine ⟨⟨hlen, .inr ⟨w.heap.size, _, _, rfl, Nat.zero_le _, hh, hge, hcm, ?_, ?_⟩⟩, ⟨rfl, rfl, rfl, by simp, fun k hk _ => Below.heap_alloc w.drew _ k hk⟩⟩
    · simp only [Array.size_append, List.size_toArray, size_zeroCells, hzs, hown.1, hl, ← Nat.add_mul]
      congr 1
      omega
    · simp only [Array.toList_append, List.append_assoc]
      rw [← List.append_assoc, ← hlen]
      exact List.take_left
  rcases hown.2 with ⟨rfl, rfl⟩ | ⟨g, cap, cur, rfl, hbg, hg, hnc, hcm, hcs, htake⟩
  · have hx : xs = [] := List.eq_nil_of_length_eq_zero (by simpa using hown.1)
    subst hx
    have hr := run_append_nil (P := P) w t ty e i z ht hi hz a m c news hl hnews (by omega) (by omega) (by have hb := hbytes; simp only [Nat.zero_add] at hb; omega)
    have hgr := grown 0 (by omega) (Value.ownBlock (.slice none 0 0))
    simp only [Nat.zero_add, List.nil_append, Array.empty_append] at hgr ⊢
    exact ⟨_, _, _, hr, hgr.1, hgr.2, .inr rfl⟩
  · by_cases hroom : n + m ≤ cap
    · have hfit : n * i.size + news.length ≤ cur.size := by rw [hl, hcs, ← Nat.add_mul]; exact Nat.mul_le_mul_right _ hroom
      have hr := run_append_room (P := P) w t ty e i ht hi g n cap cur hg a m c news hl hnews h1 hroom hfit
      refine ⟨_, _, _, hr, ⟨hlen, .inr ⟨g, cap, _, rfl, hbg, setRow_heap w g cur _ e _ hg, hroom, hcm, ?_, ?_⟩⟩, ⟨rfl, rfl, rfl, by simp [World.setRow], fun k _ hk => setRow_other w g k _ (fun e => hk (by simp [Value.ownBlock, e]))⟩, .inl ⟨rfl, by simp [World.setRow]⟩⟩
      · simp only [List.size_toArray, List.length_append, List.length_take, List.length_drop, Array.length_toList]
        omega
      · rw [htake, ← hlen]
        exact List.take_left
    · have holds : ∀ j u, xs[j]? = some u → w.cell? ((⟨g, 0, none⟩ : Addr).add j) = some u := hown.cells (g := g) rfl
      have hr := run_append_grow (P := P) w t ty e i z ht hi hz ⟨g, 0, none⟩ n cap xs hown.1 holds a m c news hl hnews (by omega) (by omega) (growslice_fits (by omega) hbytes)
      have hgr := grown cap (by omega) (Value.ownBlock (.slice (some ⟨g, 0, none⟩) n cap))
      exact ⟨_, _, _, hr, hgr.1, hgr.2, .inr rfl⟩

variable {ops : Array Oper} {rest : List Oper} {o : Oper} {a : Act} {K : Act → World → Prop} {Q : Exit → Act → World → Prop}
theorem wp_appendV (s x : Operand) (t : TypeId)
    (ho : o.op = .call { callee := .builtin .append, args := #[s, x], argTypes := #[t, t] })
    (e : TypeId) (i : TypeInfo) (z : Value) (size bytes : Nat) (ht : P.underlying t = some (.slice e)) (hi : P.info? e = some i) (hz : i.zero = some z)
    (hsize : i.size = size) (hby : i.bytes = bytes) (hzs : z.cells.size = size) (hsz : 0 < size)
    (v : Value) (n : Nat) (xs : List Value) (hs : a.eval s = v) (hown : w.ownsRow 0 e size v n xs)
    (ad : Addr) (m c : Nat) (news : List Value) (hx : a.eval x = .slice (some ad) m c) (hl : news.length = m * size) (hnews : ∀ j u, news[j]? = some u → w.cell? (ad.add j) = some u) (h1 : ∀ u ∈ news, u.oneCell' = true)
    (hm : 0 < m) (h63 : n + m ≤ maxLen) (hbytes : (n + m) * bytes ≤ 140737488355328)
    (h : ∀ g' cap' w', w'.ownsRow 0 e size (.slice (some ⟨g', 0, none⟩) (n + m) cap') (n + m) (xs ++ news) → w.grownBy w' v.ownBlock → (v.ownBlock = some g' ∧ w'.heap.size = w.heap.size ∨ g' = w.heap.size) → K (a.put o.dst (.slice (some ⟨g', 0, none⟩) (n + m) cap')) w') : o.wp P a w K Q := by
  obtain ⟨g', cap', w', hr, h2, h3, h4⟩ := run_appendV (P := P) t o.type e i z size bytes ht hi hz hsize hby hzs hsz v n xs hown ad m c news hl hnews h1 hm h63 hbytes
  unfold Oper.wp execOp
  simp only [ho, resolve, invoke, builtin, Sem.run_bind, Sem.run_pure, Result.andThen_ok, List.map_toArray, List.map_cons, List.map_nil, hs, hx, hr]
  exact h g' cap' w' h2 h3 h4

theorem wpList_appendV (hgd : o.guard = none) (s x : Operand) (t : TypeId)
    (ho : o.op = .call { callee := .builtin .append, args := #[s, x], argTypes := #[t, t] })
    (e : TypeId) (i : TypeInfo) (z : Value) (size bytes : Nat) (ht : P.underlying t = some (.slice e)) (hi : P.info? e = some i) (hz : i.zero = some z)
    (hsize : i.size = size) (hby : i.bytes = bytes) (hzs : z.cells.size = size) (hsz : 0 < size)
    (v : Value) (n : Nat) (xs : List Value) (hs : a.eval s = v) (hown : w.ownsRow 0 e size v n xs)
    (ad : Addr) (m c : Nat) (news : List Value) (hx : a.eval x = .slice (some ad) m c) (hl : news.length = m * size) (hnews : ∀ j u, news[j]? = some u → w.cell? (ad.add j) = some u) (h1 : ∀ u ∈ news, u.oneCell' = true)
    (hm : 0 < m) (h63 : n + m ≤ maxLen) (hbytes : (n + m) * bytes ≤ 140737488355328)
    (h : ∀ g' cap' w', w'.ownsRow 0 e size (.slice (some ⟨g', 0, none⟩) (n + m) cap') (n + m) (xs ++ news) → w.grownBy w' v.ownBlock → (v.ownBlock = some g' ∧ w'.heap.size = w.heap.size ∨ g' = w.heap.size) → wpList P ops Q rest (a.put o.dst (.slice (some ⟨g', 0, none⟩) (n + m) cap')) w') :
    wpList P ops Q (o :: rest) a w :=
  wpList_plain hgd fun _ hK => wp_appendV s x t ho e i z size bytes ht hi hz hsize hby hzs hsz v n xs hs hown ad m c news hx hl hnews h1 hm h63 hbytes fun g' c' w' h2 h3 h4 => hK _ _ (h g' c' w' h2 h3 h4)
end
end Go.Vk

namespace Go.Vk

/-- n sectors, one behind the other. -/
def secs (n : Nat) (f : Nat → List UInt8) : List UInt8 := (List.range n).flatMap f

theorem secs_succ (n : Nat) (f : Nat → List UInt8) : secs (n + 1) f = secs n f ++ f n := by simp [secs, List.range_succ]
theorem secs_congr {n : Nat} {f g : Nat → List UInt8} (h : ∀ k, k < n → f k = g k) : secs n f = secs n g := by
  unfold secs
  rw [List.flatMap_def, List.flatMap_def, List.map_congr_left (fun k hk => h k (List.mem_range.1 hk))]
theorem length_secs {n : Nat} {f : Nat → List UInt8} (h : ∀ k, k < n → (f k).length = 512) : (secs n f).length = 512 * n := by
  induction n with
  | zero => simp [secs]
  | succ n ih => rw [secs_succ, List.length_append, ih (fun k hk => h k (by omega)), h n (by omega)]; omega
theorem drop_secs {n : Nat} {f : Nat → List UInt8} (h : ∀ k, k < n → (f k).length = 512) {k : Nat} (hk : k < n) : ((secs n f).drop (512 * k)).take 512 = f k := by
  induction n with
  | zero => omega
  | succ n ih =>
    have hl := length_secs (n := n) (f := f) (fun k hk => h k (by omega))
    rw [secs_succ]
    by_cases e : k = n
    · subst e
      rw [← hl, List.drop_left, ← h k (by omega), List.take_length]
    · rw [List.drop_append_of_le_length (by omega), List.take_append_of_le_length (by rw [List.length_drop]; omega)]
      exact ih (fun k hk => h k (by omega)) (by omega)
theorem secs_of {n : Nat} {l : List UInt8} (h : l.length = 512 * n) : secs n (fun k => (l.drop (512 * k)).take 512) = l := by
  induction n generalizing l with
  | zero => simp [secs]; exact List.eq_nil_of_length_eq_zero (by simpa using h)
  | succ n ih =>
    rw [secs_succ]
    have h1 : secs n (fun k => (l.drop (512 * k)).take 512) = l.take (512 * n) := by
      rw [← ih (l := l.take (512 * n)) (by rw [List.length_take]; omega)]
      refine secs_congr fun k hk => ?_
      rw [List.drop_take, List.take_take]
      congr 1
      omega
    rw [h1]
    have h2 : (l.drop (512 * n)).take 512 = l.drop (512 * n) := List.take_of_length_le (by rw [List.length_drop]; omega)
    rw [h2, List.take_append_drop]
theorem lay_secs {n : Nat} {f : Nat → List UInt8} (h : ∀ k, k < n → (f k).length = 512) {k : Nat} (hk : k < n) {b : List UInt8} (hb : b.length = 512) :
    lay (secs n f) (512 * k) b = secs n (fun j => if j = k then b else f j) := by
  induction n with
  | zero => omega
  | succ n ih =>
    have hl := length_secs (n := n) (f := f) (fun k hk => h k (by omega))
    rw [secs_succ, secs_succ]
    by_cases e : k = n
    · subst e
      have h1 : secs k (fun j => if j = k then b else f j) = secs k f := secs_congr fun j hj => by rw [if_neg (by omega)]
      rw [h1, if_pos rfl]
      unfold lay
      rw [← hl, List.take_left, List.drop_of_length_le (by rw [List.length_append, hb, h k (by omega)]; omega), List.append_nil]
    · rw [if_neg (by omega), ← ih (fun k hk => h k (by omega)) (by omega)]
      unfold lay
      rw [List.take_append_of_le_length (by omega), List.drop_append_of_le_length (by omega)]
      simp
end Go.Vk

namespace Go.Vk
open Go.RowKit

/-- vs laid over cs from o on. -/
def layV (cs : List Value) (o : Nat) (vs : List Value) : List Value := cs.take o ++ (vs ++ cs.drop (o + vs.length))

theorem layV_get (cs : List Value) (o : Nat) (vs : List Value) (h : o ≤ cs.length) (j : Nat) : (layV cs o vs)[j]? = if j < o then cs[j]? else if j < o + vs.length then vs[j - o]? else cs[j]? := by
  unfold layV
  have l1 : (cs.take o).length = o := by simp; omega
  rw [List.getElem?_append, l1]
  split
  · rename_i h1; simp [h1]
  · rw [List.getElem?_append]
    split
    · rw [if_pos (by omega)]
    · rw [if_neg (by omega), List.getElem?_drop]; congr 1; omega
theorem layV_all {cs vs : List Value} (h : vs.length = cs.length) : layV cs 0 vs = vs := by simp [layV, h]

theorem blk_setCells (b : Nat) (T : TypeId) : ∀ (vs : List Value) (o : Nat) (w : World) (cs : List Value), Blk w b (.cells cs.toArray T (0, 0)) → o + vs.length ≤ cs.length →
    Blk (w.setCells b o vs) b (.cells (layV cs o vs).toArray T (0, 0)) ∧ Keeps (· = b) w (w.setCells b o vs) ∧ (w.setCells b o vs).heap.size = w.heap.size
  | [], o, w, cs, h, hl => by
    refine ⟨?_, Keeps.refl _ _, rfl⟩
    simp only [World.setCells, layV, List.length_nil, Nat.add_zero, List.nil_append, List.take_append_drop]
    exact h
  | v :: r, o, w, cs, h, hl => by
    have hlt : o < cs.length := by simp at hl; omega
    have h1 := h.setCell o v
    have k1 : Keeps (· = b) w (w.setCell ⟨b, o, none⟩ v) := (Keeps.refl (· = b) w).setCell (.inl rfl) v
    have e1 : cs.toArray.setIfInBounds o v = (cs.set o v).toArray := by simp
    rw [e1] at h1
    obtain ⟨g1, g2, g3⟩ := blk_setCells b T r (o + 1) _ (cs.set o v) h1 (by simp at hl ⊢; omega)
    have e2 : layV (cs.set o v) (o + 1) r = layV cs o (v :: r) := by
      apply List.ext_getElem?
      intro j
      have hs : (cs.set o v)[j]? = if o = j then some v else cs[j]? := by rw [List.getElem?_set]; simp [hlt]
      rw [layV_get _ _ _ (by simp; omega), layV_get _ _ _ (by omega), hs]
      simp only [List.length_cons]
      by_cases c1 : j < o
      · rw [if_pos (by omega), if_pos c1, if_neg (by omega)]
      · rw [if_neg c1]
        by_cases c2 : j = o
        · subst c2
          rw [if_pos (by omega), if_pos rfl, if_pos (by omega), Nat.sub_self]; rfl
        · rw [if_neg (by omega : ¬ j < o + 1)]
          by_cases c3 : j < o + (r.length + 1)
          · rw [if_pos (by omega), if_pos c3, show j - o = (j - (o + 1)) + 1 by omega, List.getElem?_cons_succ]
          · rw [if_neg (by omega), if_neg c3, if_neg (by omega)]
    refine ⟨?_, k1.step g2, ?_⟩
    · rw [← e2]; exact g1
    · rw [World.setCells, g3, World.size_setCell]

section
variable {P : Program} {w : World} {ops : Array Oper} {rest : List Oper} {op : Oper} {a : Act} {Q : Exit → Act → World → Prop}

theorem wpList_exec (hgd : op.guard = none) (v : Value) (w' : World) (hr : (execOp a.eval op).run P w = .ok (.value v) w') (h : wpList P ops Q rest (a.put op.dst v) w') : wpList P ops Q (op :: rest) a w := by
  refine wpList_plain hgd fun K hK => ?_
  unfold Oper.wp
  rw [hr]
  exact hK _ _ h

theorem wpList_build (hgd : op.guard = none) (t : TypeId) (parts : Array (Nat × Operand)) (ho : op.op = .build t parts) (v : Value) (w' : World)
    (hr : (Instr.build t (parts.map fun (i, x) => (i, a.eval x))).run P w = .ok v w') (h : wpList P ops Q rest (a.put op.dst v) w') : wpList P ops Q (op :: rest) a w := by
  refine wpList_plain hgd fun K hK => ?_
  unfold Oper.wp
  simp only [execOp, ho, Sem.run_bind, hr, Result.andThen_ok, Sem.run_pure]
  exact hK _ _ h

theorem wpList_allocV (hgd : op.guard = none) (t : TypeId) (ho : op.op = .alloc t) (v : Value) (w' : World)
    (hr : (Instr.alloc t true (.tuple #[])).run P w = .ok v w') (h : wpList P ops Q rest (a.put op.dst v) w') : wpList P ops Q (op :: rest) a w := by
  refine wpList_plain hgd fun K hK => ?_
  unfold Oper.wp
  simp only [execOp, ho, Sem.run_bind, hr, Result.andThen_ok, Sem.run_pure]
  exact hK _ _ h

theorem wpList_storeA (hgd : op.guard = none) (ty : TypeId) (x y : Operand) (ho : op.op = .store ty x y)
    (b o : Nat) (T : TypeId) (cs vs : List Value) (hx : a.eval x = .pointer (some ⟨b, o, none⟩)) (hy : a.eval y = .agg vs.toArray)
    (hb : Blk w b (.cells cs.toArray T (0, 0))) (hl : o + vs.length ≤ cs.length) (hi : (P.info? ty).map (·.size) = some vs.length) (h1 : ∀ v ∈ vs, v.oneCell' = true)
    (h : ∀ w', Blk w' b (.cells (layV cs o vs).toArray T (0, 0)) → Keeps (· = b) w w' → w'.heap.size = w.heap.size → wpList P ops Q rest (a.put op.dst undef) w') :
    wpList P ops Q (op :: rest) a w := by
  have e := blk_setCells b T vs o w cs hb hl
  refine wpList_store_mid hgd ty x y ho b o vs.toArray hx hy ?_ (by simpa using hi) (all_oneCell_toArray h1) ?_
  · intro j hj
    refine ⟨?_, hb.frz _⟩
    rw [hb.cell]
    have : o + j < cs.length := by simp at hj; omega
    simp [this]
  · exact h _ e.1 e.2.1 e.2.2

theorem range_of_blk {b : Nat} {T : TypeId} {cs : List Value} (hb : Blk w b (.cells cs.toArray T (0, 0))) (o n : Nat) : w.rangeAt b o ((cs.drop o).take n) := by
  intro j v hv
  rw [hb.cell]
  rw [List.getElem?_take] at hv
  split at hv
  · rw [List.getElem?_drop] at hv; simpa using hv
  · cases hv

theorem wpList_loadA (hgd : op.guard = none) (ty : TypeId) (x : Operand) (ho : op.op = .load ty x)
    (b o : Nat) (T : TypeId) (cs : List Value) (n : Nat) (d : TypeDesc) (hx : a.eval x = .pointer (some ⟨b, o, none⟩))
    (hb : Blk w b (.cells cs.toArray T (0, 0))) (hl : o + n ≤ cs.length) (hu : P.underlying ty = some d) (hd : d.isRow = true) (hi : (P.info? ty).map (·.size) = some n)
    (h : wpList P ops Q rest (a.put op.dst (.agg ((cs.drop o).take n).toArray)) w) :
    wpList P ops Q (op :: rest) a w :=
  wpList_load_mid hgd ty x ho b o hx ((cs.drop o).take n) d (range_of_blk hb o n) hu hd (by rw [hi]; simp; omega) h
end

theorem results_blk {P : Program} {fn : Func} {p : Tmp} {ty : TypeId} (h : fn.results = #[.cell p ty]) (tmps : Array Value) (w : World) (g : Nat) (T : TypeId) (cs : List Value) (d : TypeDesc)
    (hp : tmps.getD p undef = .pointer (some ⟨g, 0, none⟩)) (hg : Blk w g (.cells cs.toArray T (0, 0)))
    (hu : P.underlying ty = some d) (hd : d.isRow = true) (hi : (P.info? ty).map (·.size) = some cs.length) :
    (results fn tmps).run P w = .ok (.agg cs.toArray) w :=
  results_cell_row h tmps w g T cs.toArray (0, 0) d hp hg hu (by cases d <;> simp_all [TypeDesc.isRow]) (by simpa using hi)

end Go.Vk

namespace Go.Vk
open Go.RowKit

theorem Keeps.fresh {F G : Nat → Prop} {w a b : World} (h : Keeps G w a) (k : Keeps F a b) (hF : ∀ i, F i → w.heap.size ≤ i) : Keeps G w b :=
  ⟨k.os.trans h.os, k.tape.trans h.tape, k.output.trans h.output, Nat.le_trans h.size k.size, fun i hi hg => by
    rw [k.block i (Nat.lt_of_lt_of_le hi h.size) (fun f => by have := hF i f; omega)]; exact h.block i hi hg⟩

/-- A row of bytes as a block of that type. -/
def bytesT (T : TypeId) (bs : List UInt8) : Obj := .cells (bs.map B).toArray T (0, 0)
theorem bytesT_u8 (bs : List UInt8) : bytesT 5 bs = bytesO bs := rfl
theorem bytesT_cell {w : World} {b : Nat} {T : TypeId} {bs : List UInt8} (h : Blk w b (bytesT T bs)) (i : Nat) (hi : i < bs.length) : w.cell? ⟨b, i, none⟩ = some (B bs[i]) := by
  have := h.cell i
  simpa [List.getElem?_eq_getElem hi] using this
theorem bytesT_set (T : TypeId) (bs : List UInt8) (i : Nat) (x : UInt8) : Obj.cells ((bs.map B).toArray.setIfInBounds i (B x)) T (0, 0) = bytesT T (bs.set i x) := by
  simp [bytesT, List.map_set]
theorem bytesT_range {w : World} {b : Nat} {T : TypeId} {bs : List UInt8} (h : Blk w b (bytesT T bs)) (off n : Nat) : ∀ j v, (((bs.drop off).take n).map B)[j]? = some v → w.cell? ((⟨b, off, none⟩ : Addr).add j) = some v := by
  intro j v hj
  have hk : ((bs.drop off).take n).map B = (((bs.map B).drop off).take n) := by simp [List.map_take, List.map_drop]
  rw [hk, List.getElem?_take] at hj
  split at hj
  · rw [Addr.add_lit, h.cell]
    rw [List.getElem?_drop] at hj
    simpa using hj
  · cases hj

section
variable {P : Program} {w : World} {ops : Array Oper} {rest : List Oper} {o : Oper} {a : Act} {K : Act → World → Prop} {Q : Exit → Act → World → Prop}

theorem wpList_copyT (hgd : o.guard = none) (d s : Operand) (dT sT : TypeId)
    (ho : o.op = .call { callee := .builtin .copy, args := #[d, s], argTypes := #[dT, sT] }) (elem : TypeId) (hu : P.underlying dT = some (.slice elem)) (hsz : (P.info? elem).map (·.size) = some 1)
    (T T2 : TypeId) (g off dLen dCap g2 off2 sLen sCap : Nat) (hd : a.eval d = .slice (some ⟨g, off, none⟩) dLen dCap) (hs : a.eval s = .slice (some ⟨g2, off2, none⟩) sLen sCap)
    (cur src : List UInt8) (hg : Blk w g (bytesT T cur)) (hg2 : Blk w g2 (bytesT T2 src)) (hfit : off + dLen ≤ cur.length) (hfit2 : off2 + sLen ≤ src.length)
    (h : ∀ w', Blk w' g (bytesT T (lay cur off ((src.drop off2).take (Nat.min sLen dLen)))) → Keeps (· = g) w w' → w'.heap.size = w.heap.size → wpList P ops Q rest (a.put o.dst (goInt (Nat.min sLen dLen : Nat))) w') :
    wpList P ops Q (o :: rest) a w := by
  have hn : ((src.drop off2).take (Nat.min sLen dLen)).length = Nat.min sLen dLen := by
    simp only [List.length_take, List.length_drop]
    have : Nat.min sLen dLen ≤ sLen := Nat.min_le_left _ _
    omega
  have hm : Nat.min sLen dLen ≤ dLen := Nat.min_le_right _ _
  refine wpList_copy_own hgd d s dT sT ho elem hu hsz g off dLen dCap ⟨g2, off2, none⟩ sLen sCap hd hs (cur.map B).toArray _ hg (((src.drop off2).take (Nat.min sLen dLen)).map B) (by rw [length_B, hn]) (bytesT_range hg2 off2 _) ?_ (B_one _) ?_
  · simp only [length_B, hn, List.size_toArray]; omega
  · have e1 : (((src.drop off2).take (Nat.min sLen dLen)).map B).length = Nat.min sLen dLen := by rw [length_B, hn]
    rw [e1]
    refine h _ ?_ ?_ ?_
    · have := setRow_heap w g (cur.map B).toArray ((cur.map B).toArray.toList.take off ++ ((((src.drop off2).take (Nat.min sLen dLen)).map B) ++ (cur.map B).toArray.toList.drop (off + Nat.min sLen dLen))).toArray _ (0, 0) hg
      unfold Blk
      rw [this]
      simp [bytesT, lay, List.map_take, List.map_drop, hn]
    · exact ⟨rfl, rfl, rfl, by simp [World.setRow], fun k _ hkk => setRow_other w g k _ hkk⟩
    · simp [World.setRow]

theorem run_appendG (t ty e : TypeId) (i : TypeInfo) (ht : P.underlying t = some (.slice e)) (he : e = 5) (hi : P.info? e = some i) (hz : i.zero = some (.int .u8 0)) (hsize : i.size = 1) (hby : i.bytes = 1)
    (T T2 : TypeId) (g off n c g2 off2 m c2 : Nat) (xs ys : List UInt8) (hg : Blk w g (bytesT T xs)) (hg2 : Blk w g2 (bytesT T2 ys)) (hfit : off + n ≤ xs.length) (hfit2 : off2 + m ≤ ys.length) (hc : c < n + m) (hl : n + m ≤ 1048576) (_ : c ≤ 1048576) :
    ∃ cap k w', (Builtin.append_ #[t, t] ty #[.slice (some ⟨g, off, none⟩) n c, .slice (some ⟨g2, off2, none⟩) m c2]).run P w = .ok (.slice (some ⟨w.heap.size, 0, none⟩) (n + m) cap) w' ∧
      n + m ≤ cap ∧ cap = n + m + k ∧ Blk w' w.heap.size (bytesO ((xs.drop off).take n ++ (ys.drop off2).take m ++ zeros k)) ∧ Keeps (fun _ => False) w w' ∧ w'.heap.size = w.heap.size + 1 := by
  have l1 : ((xs.drop off).take n).length = n := by simp; omega
  have l2 : ((ys.drop off2).take m).length = m := by simp; omega
  have hr := run_append_grow (P := P) w t ty e i (.int .u8 0) ht hi hz ⟨g, off, none⟩ n c (((xs.drop off).take n).map B) (by rw [length_B, l1, hsize]; omega) (bytesT_range hg off n) ⟨g2, off2, none⟩ m c2 (((ys.drop off2).take m).map B) (by rw [length_B, l2, hsize]; omega) (bytesT_range hg2 off2 m) hc (by omega)
    (growslice_fits (by omega) (by rw [hby]; omega))
  have hge := grownCap_ge w (n + m) c e
  refine ⟨_, grownCap w (n + m) c e - (n + m), _, hr, hge, by omega, ?_, ⟨rfl, rfl, rfl, by simp, fun q hq _ => Below.heap_alloc w.drew _ q hq⟩, by simp⟩
  have hb := Blk.new w.drew (.cells ((((xs.drop off).take n).map B).toArray ++ (((ys.drop off2).take m).map B).toArray ++ Builtin.zeroCells (Value.int .u8 0).cells (grownCap w (n + m) c e - (n + m))) e (0, 0))
  subst he
  have e1 : Builtin.zeroCells (Value.int .u8 0).cells (grownCap w (n + m) c 5 - (n + m)) = ((zeros (grownCap w (n + m) c 5 - (n + m))).map B).toArray := by
    apply Array.ext'
    apply List.ext_getElem
    · simp [Builtin.zeroCells, zeros, Value.cells]
    · intro j h1 h2
      have e0 : j % 1 = 0 := Nat.mod_one j
      simp [Builtin.zeroCells, zeros, Value.cells, B, e0]
  rw [e1] at hb
  have e2 : bytesO ((xs.drop off).take n ++ (ys.drop off2).take m ++ zeros (grownCap w (n + m) c 5 - (n + m))) = .cells ((((xs.drop off).take n).map B).toArray ++ (((ys.drop off2).take m).map B).toArray ++ ((zeros (grownCap w (n + m) c 5 - (n + m))).map B).toArray) 5 (0, 0) := by
    simp [bytesO]
  rw [e2, e1]
  exact hb

theorem wp_appendG (s x : Operand) (t : TypeId) (ho : o.op = .call { callee := .builtin .append, args := #[s, x], argTypes := #[t, t] })
    (e : TypeId) (i : TypeInfo) (ht : P.underlying t = some (.slice e)) (he : e = 5) (hi : P.info? e = some i) (hz : i.zero = some (.int .u8 0)) (hsize : i.size = 1) (hby : i.bytes = 1)
    (T T2 : TypeId) (g off n c g2 off2 m c2 : Nat) (hs : a.eval s = .slice (some ⟨g, off, none⟩) n c) (hx : a.eval x = .slice (some ⟨g2, off2, none⟩) m c2)
    (xs ys : List UInt8) (hg : Blk w g (bytesT T xs)) (hg2 : Blk w g2 (bytesT T2 ys)) (hfit : off + n ≤ xs.length) (hfit2 : off2 + m ≤ ys.length) (hc : c < n + m) (hl : n + m ≤ 1048576) (hcl : c ≤ 1048576)
    (h : ∀ cap k w', cap = n + m + k → Blk w' w.heap.size (bytesO ((xs.drop off).take n ++ (ys.drop off2).take m ++ zeros k)) → Keeps (fun _ => False) w w' → w'.heap.size = w.heap.size + 1 →
      K (a.put o.dst (.slice (some ⟨w.heap.size, 0, none⟩) (n + m) cap)) w') : o.wp P a w K Q := by
  obtain ⟨cap, k, w', hr, h2, h3, h4, h5, h6⟩ := run_appendG (P := P) t o.type e i ht he hi hz hsize hby T T2 g off n c g2 off2 m c2 xs ys hg hg2 hfit hfit2 hc hl hcl
  unfold Oper.wp execOp
  simp only [ho, resolve, invoke, builtin, Sem.run_bind, Sem.run_pure, Result.andThen_ok, List.map_toArray, List.map_cons, List.map_nil, hs, hx, hr]
  exact h cap k w' h3 h4 h5 h6
end
end Go.Vk

namespace Go.Vk
open Go.RowKit

section
variable {P : Program} (w : World)

theorem plain_int {e : TypeId} {k' : IntKind} (he : P.underlying e = some (.int k')) : P.plainKey e = true := by simp [Program.plainKey, he]

theorem run_equalIn_bytes (d : Nat) {t e : TypeId} {n : Nat} {k' : IntKind} (ht : P.underlying t = some (.array n e)) (he : P.underlying e = some (.int k')) (hs : (P.info? e).map (·.size) = some 1) (xs ys : List UInt8) (hx : xs.length = n) (hy : ys.length = n) :
    (Op.equalIn (d + 2) t (.agg (xs.map B).toArray) (.agg (ys.map B).toArray)).run P w = .ok (decide (xs = ys)) w := by
  have hsz : (sizeOf e).run P w = .ok 1 w := by
    cases hq : P.info? e with
    | none => simp [hq] at hs
    | some i => simp only [hq, Option.map_some, Option.some.injEq] at hs; simp [sizeOf, typeInfo, hq, hs]
  rw [show d + 2 = (d + 1) + 1 from rfl]
  have hD : ∀ x y : UInt8, (Op.equalIn (d + 1) e (B x) (B y)).run P w = .ok (decide (x = y)) w := fun x y => by
    have := run_equalIn_int (P := P) w d e .u8 k' (x.toNat : Int) (y.toNat : Int) he
    unfold B
    rw [this]
    congr 1
    rw [Bool.eq_iff_iff]
    simp only [beq_iff_eq, decide_eq_true_eq]
    exact ⟨fun h => UInt8.toNat_inj.1 (by exact_mod_cast h), fun h => by rw [h]⟩
  generalize d + 1 = D at hD ⊢
  simp only [Op.equalIn, Sem.run_bind, run_underlying ht, hsz, Result.andThen_ok]
  simp only [Std.Legacy.Range.forIn_eq_forIn_range', Std.Legacy.Range.size, Nat.sub_zero, Nat.add_one_sub_one, Nat.div_one, Nat.mul_one]
  have key : ∀ m k, k + m = n → (forIn (m := Sem) (List.range' k m) ((none : Option Bool), PUnit.unit) fun i r => do
      let a ← part e (xs.map B).toArray i
      let b ← part e (ys.map B).toArray i
      let r ← Op.equalIn D e a b
      if (!r) = true then pure (ForInStep.done (some false, PUnit.unit)) else pure (ForInStep.yield (none, PUnit.unit))).run P w =
        .ok ((if xs.drop k = ys.drop k then none else some false), PUnit.unit) w := by
    intro m
    induction m with
    | zero =>
      intro k hk
      have e1 : xs.drop k = [] := List.drop_eq_nil_of_le (by omega)
      have e2 : ys.drop k = [] := List.drop_eq_nil_of_le (by omega)
      simp [e1, e2]
    | succ m ih =>
      intro k hk
      have h1 : k < xs.length := by omega
      have h2 : k < ys.length := by omega
      have p1 := run_part_plain (P := P) w (plain_int he) (xs := (xs.map B).toArray) (off := k) (v := B xs[k]) (by simp [h1])
      have p2 := run_part_plain (P := P) w (plain_int he) (xs := (ys.map B).toArray) (off := k) (v := B ys[k]) (by simp [h2])
      rw [List.range'_succ, List.forIn_cons]
      simp only [Sem.run_bind, p1, p2, hD, Result.andThen_ok]
      rw [List.drop_eq_getElem_cons h1, List.drop_eq_getElem_cons h2]
      by_cases hh : xs[k] = ys[k]
      · simp only [hh, decide_true, Bool.not_true, Bool.false_eq_true, if_false, Sem.run_pure, Result.andThen_ok]
        rw [ih (k + 1) (by omega)]
        simp only [List.cons.injEq, true_and]
      · rw [if_neg (fun e => hh (List.cons.inj e).1)]
        simp only [hh, decide_false, Bool.not_false, if_true, Sem.run_pure, Result.andThen_ok]
  have := key n 0 (by omega)
  rw [this]
  by_cases hh : xs = ys
  · simp [hh]
  · simp [hh]

theorem run_neq_bytes {t e : TypeId} {n : Nat} {k' : IntKind} (ht : P.underlying t = some (.array n e)) (he : P.underlying e = some (.int k')) (hs : (P.info? e).map (·.size) = some 1) (xs ys : List UInt8) (hx : xs.length = n) (hy : ys.length = n) :
    (binOp .neq t (.agg (xs.map B).toArray) (.agg (ys.map B).toArray)).run P w = .ok (.bool (!decide (xs = ys))) w := by
  rw [run_neq_struct, run_equalIn_bytes w 9998 ht he hs xs ys hx hy]
  rfl
end
end Go.Vk
