/- Bytes appended onto a row with room; the walk of put of package wal. The walk of lay of package wal: a piece of a record into the ring. The walk of Append of package wal, where all is well. The walks of Room, Sync and Trim of package wal, where all is well. Plain: a new store's disk is well, its anchors are those of its log, and few writes were made. -/
import Derived.Test.YtceodjgajkimnaaGreatMV
import Derived.Test.YtceodjgajkimnaaGreatMD
import Derived.Test.YtceodjgajkimnaaGreatME
import Derived.Test.YtceodjgajkimnaaGreatMG
import Derived.Test.YtceodjgajkimnaaGreatML
set_option linter.unusedVariables false

namespace Go.Vk
open Go.RowKit Go.Proofs

/-- A byte row in block g, with room behind it. -/
def BRoom (w : World) (g : Nat) (l : List UInt8) (k : Nat) : Prop := ∃ rest : List UInt8, rest.length = k ∧ Blk w g (bytesO (l ++ rest))
section
variable {P : Program} {w : World}
theorem run_appendS (t ty e : TypeId) (i : TypeInfo) (ht : P.underlying t = some (.slice e)) (he : e = 5) (hi : P.info? e = some i) (hsize : i.size = 1)
    (g : Nat) (l : List UInt8) (k cap : Nat) (h : BRoom w g l k) (hcap : cap = l.length + k) (a : Addr) (c : Nat) (ys : List UInt8) (hy : ∀ j (h : j < ys.length), w.cell? (a.add j) = some (B ys[j])) (hr : ys.length ≤ k) :
    ∃ w', (Builtin.append_ #[t, t] ty #[.slice (some ⟨g, 0, none⟩) l.length cap, .slice (some a) ys.length c]).run P w = .ok (.slice (some ⟨g, 0, none⟩) (l.length + ys.length) cap) w' ∧ BRoom w' g (l ++ ys) (k - ys.length) ∧ Keeps (· = g) w w' := by
  obtain ⟨rest, hk, hg⟩ := h
  subst hcap
  have hcs : ((l ++ rest).map B).toArray.size = l.length + k := by simp [hk]
  have hnews : ∀ j u, (ys.map B)[j]? = some u → w.cell? (a.add j) = some u := fun j u hj => by
    rw [List.getElem?_map] at hj
    cases hq : ys[j]? with
    | none => rw [hq] at hj; cases hj
    | some y =>
      obtain ⟨h1, h2⟩ := List.getElem?_eq_some_iff.1 hq
      rw [hq] at hj
      have : B y = u := by simpa using hj
      rw [hy j h1, h2, this]
  have hr' := run_append_room (P := P) w t ty e i ht hi g l.length (l.length + k) ((l ++ rest).map B).toArray (by rw [he]; exact hg) a ys.length c (ys.map B) (by rw [hsize]; simp) hnews (fun u hu => B_one _ u hu) (by omega) (by rw [hsize, hcs]; simp; omega)
  refine ⟨_, hr', ⟨rest.drop ys.length, by simp [hk], ?_⟩, ⟨rfl, rfl, rfl, by simp [World.setRow], fun k _ hk => setRow_other w g k _ (fun e => hk e)⟩⟩
  have := setRow_heap w g ((l ++ rest).map B).toArray (((l ++ rest).map B).toArray.toList.take (l.length * i.size) ++ ys.map B ++ ((l ++ rest).map B).toArray.toList.drop (l.length * i.size + (ys.map B).length)).toArray 5 (0, 0) hg
  have e3 : ((((l ++ rest).map B).toArray.toList.take (l.length * i.size) ++ ys.map B ++ ((l ++ rest).map B).toArray.toList.drop (l.length * i.size + (ys.map B).length)).toArray) = ((l ++ ys ++ rest.drop ys.length).map B).toArray := by
    rw [hsize]
    simp [List.take_append, List.drop_append, List.map_drop]
  rw [e3] at this ⊢
  exact this
variable {ops : Array Oper} {rest : List Oper} {o : Oper} {a : Act} {K : Act → World → Prop} {Q : Exit → Act → World → Prop}
theorem wpList_appendS (hgd : o.guard = none) (s x : Operand) (t : TypeId) (ho : o.op = .call { callee := .builtin .append, args := #[s, x], argTypes := #[t, t] })
    (e : TypeId) (i : TypeInfo) (ht : P.underlying t = some (.slice e)) (he : e = 5) (hi : P.info? e = some i) (hsize : i.size = 1)
    (g n cap : Nat) (l : List UInt8) (k : Nat) (hs : a.eval s = .slice (some ⟨g, 0, none⟩) n cap) (hn : n = l.length) (h : BRoom w g l k) (hcap : cap = l.length + k) (ad : Addr) (c m : Nat) (ys : List UInt8) (hm : m = ys.length) (hx : a.eval x = .slice (some ad) m c) (hy : ∀ j (h : j < ys.length), w.cell? (ad.add j) = some (B ys[j])) (hr : ys.length ≤ k)
    (hK : ∀ w', BRoom w' g (l ++ ys) (k - ys.length) → Keeps (· = g) w w' → wpList P ops Q rest (a.put o.dst (.slice (some ⟨g, 0, none⟩) (l.length + ys.length) cap)) w') :
    wpList P ops Q (o :: rest) a w :=
  wpList_plain hgd fun _ hKK => by
    obtain ⟨w', hr', h2, h3⟩ := run_appendS (P := P) (w := w) t o.type e i ht he hi hsize g l k cap h hcap ad c ys hy hr
    subst hn hm
    unfold Oper.wp execOp
    simp only [ho, resolve, invoke, builtin, Sem.run_bind, Sem.run_pure, Result.andThen_ok, List.map_toArray, List.map_cons, List.map_nil, hs, hx, hr']
    exact hKK _ _ (hK w' h2 h3)
theorem BRoom.keeps {Gf : Nat → Prop} {w' : World} {g k : Nat} {l : List UInt8} (h : BRoom w g l k) (kk : Keeps Gf w w') (hG : ¬ Gf g) : BRoom w' g l k := by
  obtain ⟨rest, h1, h2⟩ := h
  exact ⟨rest, h1, kk.blk h2 hG⟩
end
section
variable {w : World}
set_option maxHeartbeats 1000000 in
set_option maxRecDepth 100000 in
theorem lput_w (g : Nat) (l : List UInt8) (k cap : Nat) (h : BRoom w g l k) (hcap : cap = l.length + k) (v n : Nat) (hn : n ≤ 8) (hv : v < 4611686018427387904) (hr : n ≤ k) :
    Calls Tryz.prog 158 #[.slice (some ⟨g, 0, none⟩) l.length cap, .int .i64 v, .int .i64 n] w fun e w' => e = .returned (.slice (some ⟨g, 0, none⟩) (l.length + n) cap) ∧ BRoom w' g (l ++ leBytes v n) (k - n) ∧ Keeps (· = g) w w' := by
  obtain ⟨i0, hi, hz0, hz1, hz2⟩ := info_parts info5
  obtain ⟨L, hL⟩ : ∃ L, l.length = L := ⟨_, rfl⟩
  have h0 : BRoom w g (l ++ leBytes v 0) (k - 0) := by simpa [leBytes] using h
  have hk0 := Keeps.refl (· = g) w
  rw [hL]
  rw [hL] at hcap
  have hv0 : (v : Int) = ((v / 2 ^ (8 * 0) : Nat) : Int) := by simp
  have hst : ∀ j, ((v / 2 ^ (8 * j) : Nat) : Int) / 256 = ((v / 2 ^ (8 * (j + 1)) : Nat) : Int) := fun j => by
    rw [show 8 * (j + 1) = 8 * j + 8 by omega, Nat.pow_add, ← Nat.div_div_eq_div_mul]; omega
  have hby : ∀ j, IntKind.u8.wrap ((v / 2 ^ (8 * j) : Nat) : Int) = ((leByte v j).toNat : Nat) := fun j => by
    rw [leByte_toNat, IntKind.wrap_u8']; omega
  have hlt : ∀ j, v / 2 ^ (8 * j) ≤ v := fun j => Nat.div_le_self _ _
  replace h := hid h; replace hi := hid hi; replace hz0 := hid hz0; replace hz1 := hid hz1; replace hz2 := hid hz2; replace hL := hid hL; replace hcap := hid hcap; replace h0 := hid h0; replace hk0 := hid hk0; replace hst := hid hst; replace hby := hid hby; replace hlt := hid hlt; replace hv := hid hv; replace hv0 := hid hv0
  go_enter Tryz.func158, Tryz.ntmps158
  go_wp2
  go_loopw [0, 1, 8] (fun s x c wr => ∃ j : Nat, j ≤ n ∧ c = .int .i64 j ∧ x = .int .i64 (v / 2 ^ (8 * j) : Nat) ∧ s = .slice (some ⟨g, 0, none⟩) (L + j) cap ∧ BRoom wr g (l ++ leBytes v j) (k - j) ∧ Keeps (· = g) w wr) (fun _ _ c _ => n - (intOf c).toNat)
  case atStart => exact ⟨0, by omega, rfl, by rw [← hv0.out], rfl, h0.out, hk0.out⟩
  case round =>
    obtain ⟨j, hj1, rfl, rfl, rfl, hB, hk⟩ := hrel
    clear h0 hk0 h
    by_cases hlt2 : j < n
    · have hki : (j : Int) < n := by omega
      have hb1 := hby.out j
      have hs1 := hst.out j
      have hx1 := hlt.out j
      have hv' := hv.out
      have hle : (l ++ leBytes v j).length = L + j := by rw [List.length_append, length_leBytes, hL.out]
      have hsn : l ++ leBytes v j ++ [leByte v j] = l ++ leBytes v (j + 1) := by rw [leBytes_succ, List.append_assoc]
      generalize v / 2 ^ (8 * j) = x at *
      generalize hx2 : v / 2 ^ (8 * (j + 1)) = x2 at *
      generalize leByte v j = y at *
      generalize l ++ leBytes v j = cur at *
      replace hB := hid hB; replace hk := hid hk; replace hle := hid hle; replace hsn := hid hsn; replace hv' := hid hv'; replace hx1 := hid hx1; replace hx2 := hid hx2
      have hBa : BRoom (wr.alloc (.cells #[B y] 5 (0, 0))) g cur (k - j) := hB.out.keeps ((Keeps.refl (fun _ => False) wr).alloc _) (fun f => f)
      have hka : Keeps (· = g) w (wr.alloc (.cells #[B y] 5 (0, 0))) := hk.out.alloc _
      have hyc : (wr.alloc (.cells #[B y] 5 (0, 0))).cell? ⟨wr.heap.size, 0, none⟩ = some (B y) := by simp
      unfold B at hBa hka hyc
      replace hBa := hid hBa; replace hka := hid hka; replace hyc := hid hyc
      go_wp2_with (at_builtin; refine wpList_appendS rfl _ _ 57 rfl 5 i0 und22 rfl hi.out hz1.out g (L + j) cap cur (k - j) rfl ?c0 hBa.out ?c1 ⟨wr.heap.size, 0, none⟩ 1 1 [y] rfl rfl ?c2 ?c3 ?_)
      case c0 => exact hle.out.symm
      case c1 => rw [hle.out, hcap.out]; omega
      case c2 =>
        intro j' hj'
        have : j' = 0 := by simp at hj'; omega
        subst this
        rw [show (⟨wr.heap.size, 0, none⟩ : Addr).add 0 = ⟨wr.heap.size, 0, none⟩ by unfold Addr.add; split <;> simp_all]
        exact hyc.out
      case c3 => simp; omega
      · intro w2 hB2 hk2
        rw [hsn.out] at hB2
        have hk3 := hka.out.step hk2
        have hB3 : BRoom w2 g (l ++ leBytes v (j + 1)) (k - (j + 1)) := by
          rw [show k - (j + 1) = k - j - 1 by omega]; exact hB2
        rw [hle.out]
        clear hB2 hk2
        replace hB3 := hid hB3; replace hk3 := hid hk3
        go_wp2
        exact ⟨⟨j + 1, by omega, by go_num, by rw [hx2.out], by rw [Nat.add_assoc], hB3.out, hk3.out⟩, by simp [intOf]; omega⟩
    · have hki : ¬ (j : Int) < n := by omega
      obtain rfl : j = n := by omega
      replace hB := hid hB; replace hk := hid hk
      go_wp2
      go_ret
      exact ⟨rfl, hB.out, hk.out⟩
end
end Go.Vk

namespace Go.Vk
open Go.RowKit Go.Proofs

theorem run_makeC {P : Program} {t e : TypeId} {i : TypeInfo} (ht : P.underlying t = some (.slice e)) (he : e = 5) (hi : P.info? e = some i) (hz : i.zero = some (.int .u8 0)) (hs : i.size = 1) (hb : i.bytes = 1)
    (m n : Nat) (hm : m ≤ n) (hn : n ≤ 281474976710656) (w : World) :
    (Instr.makeSlice t (.int .i64 m) (.int .i64 n)).run P w = .ok (.slice (some ⟨w.heap.size, 0, none⟩) m n) (w.alloc (bytesO (zeros n))) := by
  have h := run_make (P := P) w t e i _ ht hi hz .i64 .i64 m n (by omega) (by omega) (by rw [hb]; omega) (by omega)
  rw [h]
  subst he
  have e1 : madeCells (Value.int .u8 0).cells ((n : Int).toNat * i.size) = ((zeros n).map B).toArray := by
    rw [hs]
    apply Array.ext'
    apply List.ext_getElem
    · simp [madeCells, zeros]
    · intro j h1 h2
      have e0 : j % 1 = 0 := Nat.mod_one j
      simp [madeCells, zeros, Value.cells, B, e0]
  rw [e1]
  simp [bytesO]
theorem mk504 (w : World) : (Instr.makeSlice 57 (.int .i64 0) (.int .i64 504)).run Tryz.prog w = .ok (.slice (some ⟨w.heap.size, 0, none⟩) 0 504) (w.alloc (bytesO (zeros 504))) := by
  obtain ⟨i, h1, h2, h3, h4⟩ := info_parts info5
  exact run_makeC und22 rfl h1 h2 h3 h4 0 504 (by omega) (by omega) w
/-- The body of a sector of the ring. -/
def lpieceB (e pos i c : Nat) (data : List UInt8) : List UInt8 := leBytes e 4 ++ leBytes pos 4 ++ leBytes i 2 ++ leBytes c 2 ++ data
theorem lpieceB_length (e pos i c : Nat) (data : List UInt8) : (lpieceB e pos i c data).length = 12 + data.length := by
  unfold lpieceB
  simp only [List.length_append, length_leBytes]
/-- The sector that is laid over what lies there. -/
def laidS (old body : List UInt8) : List UInt8 := layB (turnOf (old.getD 0 0) (old.getD 511 0)) body
def layD (D : DM) (L : LM) (e pos i c : Nat) (data : List UInt8) : DM := (D.readed.wrote (L.first + 2 + pos % L.n) (laidS (D.now (L.first + 2 + pos % L.n)) (lpieceB e pos i c data))).spent
def lpieceV (e pos i c : Nat) (v : Value) : Value := .agg #[.int .i64 e, .int .i64 pos, .int .i64 i, .int .i64 c, v]
section
variable {w : World} {d l : Nat} {D : DM} {F : List Nat} {L : LM}
def LayPost (w : World) (d : Nat) (F : List Nat) (D' : DM) (e : Ending) (w' : World) : Prop := e = .returned (.int .i64 0) ∧ ∃ F', DAt w d F D' F' w'
set_option maxRecDepth 100000 in
set_option maxHeartbeats 4000000 in
theorem llay_w (hl : Blk w l (logO d L)) (h : DiskRep w d D F) (hlF : l ∉ F) (hb : D.burnt = false) (h1 : 1 ≤ L.n) (hf : L.first + 2 + L.n ≤ D.n) (hn : D.n ≤ 2048) (hw : D.writes < 1099511627776)
    (e pos i c : Nat) (he : e < 4294967296) (hp : pos < 4294967296) (hi : i < 65536) (hc : c < 65536) (a : Addr) (cd : Nat) (data : List UInt8) (hd : ∀ j (hj : j < data.length), w.cell? (a.add j) = some (B data[j])) (hdl : data.length ≤ 492) :
    Calls Tryz.prog 125 #[.pointer (some ⟨l, 0, none⟩), lpieceV e pos i c (.slice (some a) data.length cd)] w (LayPost w d F (layD D L e pos i c data)) := by
  have hmk := mk504
  obtain ⟨i0, hi0, hz0, hz1, hz2⟩ := info_parts info5
  have hmod : pos % L.n < L.n := Nat.mod_lt _ (by omega)
  have hk : L.first + 2 + pos % L.n < D.n := by omega
  have hll := hl.lt
  have hFl := h.lt
  obtain ⟨n, hnn⟩ : ∃ n, data.length = n := ⟨_, rfl⟩
  have kA : Keeps (fun _ => False) w (w.alloc (.cells #[.int .i64 e, .int .i64 pos, .int .i64 i, .int .i64 c, .slice (some a) n cd] 176 (0, 0))) := (Keeps.refl _ w).alloc _
  have bx := Blk.new w (.cells #[.int .i64 e, .int .i64 pos, .int .i64 i, .int .i64 c, .slice (some a) n cd] 176 (0, 0))
  have kB : Keeps (fun _ => False) w ((w.alloc (.cells #[.int .i64 e, .int .i64 pos, .int .i64 i, .int .i64 c, .slice (some a) n cd] 176 (0, 0))).alloc (bytesO (zeros 504))) := kA.alloc _
  have bb : BRoom ((w.alloc (.cells #[.int .i64 e, .int .i64 pos, .int .i64 i, .int .i64 c, .slice (some a) n cd] 176 (0, 0))).alloc (bytesO (zeros 504))) (w.heap.size + 1) [] 504 := ⟨zeros 504, length_zeros _, by
    have := Blk.new (w.alloc (.cells #[.int .i64 e, .int .i64 pos, .int .i64 i, .int .i64 c, .slice (some a) n cd] 176 (0, 0))) (bytesO (zeros 504))
    rw [World.size_alloc] at this
    simpa using this⟩
  have bx1 := bx.alloc (bytesO (zeros 504))
  rw [hnn]
  -- the four numbers
  have hP1 : ∀ W, BRoom W (w.heap.size + 1) [] 504 → Calls Tryz.prog 158 #[.slice (some ⟨w.heap.size + 1, 0, none⟩) 0 504, .int .i64 e, .int .i64 4] W fun r w' => r = .returned (.slice (some ⟨w.heap.size + 1, 0, none⟩) 4 504) ∧ BRoom w' (w.heap.size + 1) (leBytes e 4) 500 ∧ Keeps (· = w.heap.size + 1) W w' := fun W hW => lput_w (w.heap.size + 1) [] 504 504 hW rfl e 4 (by omega) (by omega) (by omega)
  have hP2 : ∀ W, BRoom W (w.heap.size + 1) (leBytes e 4) 500 → Calls Tryz.prog 158 #[.slice (some ⟨w.heap.size + 1, 0, none⟩) 4 504, .int .i64 pos, .int .i64 4] W fun r w' => r = .returned (.slice (some ⟨w.heap.size + 1, 0, none⟩) 8 504) ∧ BRoom w' (w.heap.size + 1) (leBytes e 4 ++ leBytes pos 4) 496 ∧ Keeps (· = w.heap.size + 1) W w' := fun W hW => by
    have := lput_w (w.heap.size + 1) (leBytes e 4) 500 504 hW (by rw [length_leBytes]) pos 4 (by omega) (by omega) (by omega)
    rwa [length_leBytes] at this
  have hP3 : ∀ W, BRoom W (w.heap.size + 1) (leBytes e 4 ++ leBytes pos 4) 496 → Calls Tryz.prog 158 #[.slice (some ⟨w.heap.size + 1, 0, none⟩) 8 504, .int .i64 i, .int .i64 2] W fun r w' => r = .returned (.slice (some ⟨w.heap.size + 1, 0, none⟩) 10 504) ∧ BRoom w' (w.heap.size + 1) (leBytes e 4 ++ leBytes pos 4 ++ leBytes i 2) 494 ∧ Keeps (· = w.heap.size + 1) W w' := fun W hW => by
    have hx : (leBytes e 4 ++ leBytes pos 4).length = 8 := by rw [List.length_append, length_leBytes, length_leBytes]
    have := lput_w (w.heap.size + 1) (leBytes e 4 ++ leBytes pos 4) 496 504 hW (by rw [hx]) i 2 (by omega) (by omega) (by omega)
    rwa [hx] at this
  have hP4 : ∀ W, BRoom W (w.heap.size + 1) (leBytes e 4 ++ leBytes pos 4 ++ leBytes i 2) 494 → Calls Tryz.prog 158 #[.slice (some ⟨w.heap.size + 1, 0, none⟩) 10 504, .int .i64 c, .int .i64 2] W fun r w' => r = .returned (.slice (some ⟨w.heap.size + 1, 0, none⟩) 12 504) ∧ BRoom w' (w.heap.size + 1) (leBytes e 4 ++ leBytes pos 4 ++ leBytes i 2 ++ leBytes c 2) 492 ∧ Keeps (· = w.heap.size + 1) W w' := fun W hW => by
    have hx : (leBytes e 4 ++ leBytes pos 4 ++ leBytes i 2).length = 10 := by simp only [List.length_append, length_leBytes]
    have := lput_w (w.heap.size + 1) (leBytes e 4 ++ leBytes pos 4 ++ leBytes i 2) 494 504 hW (by rw [hx]) c 2 (by omega) (by omega) (by omega)
    rwa [hx] at this
  have hx12 : (leBytes e 4 ++ leBytes pos 4 ++ leBytes i 2 ++ leBytes c 2).length = 12 := by simp only [List.length_append, length_leBytes]
  have hpb : leBytes e 4 ++ leBytes pos 4 ++ leBytes i 2 ++ leBytes c 2 ++ data = lpieceB e pos i c data := rfl
  have hpl := lpieceB_length e pos i c data
  rw [hnn] at hpl
  unfold layD laidS
  generalize lpieceB e pos i c data = body at *
  generalize leBytes e 4 ++ leBytes pos 4 ++ leBytes i 2 ++ leBytes c 2 = b12 at *
  generalize leBytes e 4 ++ leBytes pos 4 ++ leBytes i 2 = b10 at *
  generalize leBytes e 4 ++ leBytes pos 4 = b8 at *
  generalize leBytes e 4 = b4 at *
  have hcell : ∀ W, Keeps (· = w.heap.size + 1) ((w.alloc (.cells #[.int .i64 e, .int .i64 pos, .int .i64 i, .int .i64 c, .slice (some a) n cd] 176 (0, 0))).alloc (bytesO (zeros 504))) W → W.cell? ⟨w.heap.size, 0, none⟩ = some (.int .i64 e) ∧ W.cell? ⟨w.heap.size, 1, none⟩ = some (.int .i64 pos) ∧ W.cell? ⟨w.heap.size, 2, none⟩ = some (.int .i64 i) ∧ W.cell? ⟨w.heap.size, 3, none⟩ = some (.int .i64 c) ∧ W.cell? ⟨w.heap.size, 4, none⟩ = some (.slice (some a) n cd) := fun W k => by
    have hB := k.blk bx1 (by omega)
    have q0 := hB.cell 0
    have q1 := hB.cell 1
    have q2 := hB.cell 2
    have q3 := hB.cell 3
    have q4 := hB.cell 4
    simp at q0 q1 q2 q3 q4
    exact ⟨q0, q1, q2, q3, q4⟩
  generalize hWB : (w.alloc (.cells #[.int .i64 e, .int .i64 pos, .int .i64 i, .int .i64 c, .slice (some a) n cd] 176 (0, 0))).alloc (bytesO (zeros 504)) = wB at *
  have kk0 := Keeps.refl (· = w.heap.size + 1) wB
  have c00 := (hcell wB kk0).1
  unfold lpieceV
  generalize hPost : LayPost w d F _ = Post at *
  replace hl := hid hl; replace h := hid h; replace hlF := hid hlF; replace hb := hid hb; replace hf := hid hf; replace hd := hid hd; replace hnn := hid hnn; replace kA := hid kA; replace bx := hid bx; replace kB := hid kB; replace bb := hid bb; replace bx1 := hid bx1; replace hP1 := hid hP1; replace hP2 := hid hP2; replace hP3 := hid hP3; replace hP4 := hid hP4; replace hx12 := hid hx12; replace hpb := hid hpb; replace hcell := hid hcell; replace hWB := hid hWB; replace kk0 := hid kk0; replace hFl := hid hFl; replace hPost := hid hPost; replace hi0 := hid hi0; replace hz0 := hid hz0; replace hz1 := hid hz1; replace hz2 := hid hz2; replace hpl := hid hpl; replace hk := hid hk; replace hw := hid hw
  go_enter Tryz.func125, Tryz.ntmps125
  go_upto_region 2 with fail
  rw [hWB.out]
  go_upto_region 6 with (first
    | (go_at_call 158; first
        | (refine (hP1.out _ bb.out).mono ?_; rintro r w2 ⟨rfl, bb2, k2⟩; replace k2 := hid k2; obtain ⟨_, c01, _⟩ := hcell.out _ k2.out; replace bb2 := hid bb2; clear hP1)
        | (refine (hP2.out _ bb2.out).mono ?_; rintro r w3 ⟨rfl, bb3, k3⟩; replace k3 := hid (k2.out.step k3); obtain ⟨_, _, c02, _⟩ := hcell.out _ k3.out; replace bb3 := hid bb3; clear hP2)
        | (refine (hP3.out _ bb3.out).mono ?_; rintro r w4 ⟨rfl, bb4, k4⟩; replace k4 := hid (k3.out.step k4); obtain ⟨_, _, _, c03, _⟩ := hcell.out _ k4.out; replace bb4 := hid bb4; clear hP3)
        | (refine (hP4.out _ bb4.out).mono ?_; rintro r w5 ⟨rfl, bb5, k5⟩; replace k5 := hid (k4.out.step k5); obtain ⟨_, c51, _, _, c54⟩ := hcell.out _ k5.out; replace bb5 := hid bb5)))
  have kw5 : Keeps (fun _ => False) w w5 := kB.out.trans k5.out (fun i hi e => by omega)
  have hd5 : ∀ j (hj : j < data.length), w5.cell? (a.add j) = some (B data[j]) := fun j hj => kw5.cell (hd.out j hj)
  have bx5 := (k5.out.blk bx1.out (by omega : ¬ w.heap.size = w.heap.size + 1))
  clear c00 hP4 bb2 bb3 bb4 k2 k3 k4
  replace kw5 := hid kw5; replace hd5 := hid hd5; replace bx5 := hid bx5
  go_upto_region 7 with (at_builtin; refine wpList_appendS rfl _ _ 57 rfl 5 i0 und22 rfl hi0.out hz1.out (w.heap.size + 1) 12 504 b12 492 rfl ?c0 bb5.out ?c1 a cd n data ?c2 rfl ?c3 ?c4 ?_)
  case c0 => exact hx12.out.symm
  case c1 => rw [hx12.out]
  case c2 => exact hnn.out.symm
  case c3 => exact hd5.out
  case c4 => have := hnn.out; omega
  intro w6 hB6 hk6
  rw [hpb.out, hnn.out] at hB6
  rw [hx12.out, hnn.out]
  have bx6 := hk6.blk bx5.out (by omega : ¬ w.heap.size = w.heap.size + 1)
  have kw6 : Keeps (fun _ => False) w w6 := kw5.out.trans hk6 (fun i hi e => by omega)
  have c61 := bx6.cell 1
  simp at c61
  have hl6 := kw6.blk hl.out (fun f => f)
  have l60 := hl6.cell 0
  simp at l60
  have hd6 := h.out.keeps kw6 (fun _ _ f => f)
  obtain ⟨rest, hrest, hBb⟩ := hB6
  have hsz6 := kw6.size
  have hD0 := hd6.now_length (L.first + 2 + pos % L.n) hk.out
  have hAt : ∀ W, Blk W l (logO d L) → Calls Tryz.prog 159 #[.pointer (some ⟨l, 0, none⟩), .int .i64 pos] W fun r w' => r = .returned (.int .i64 (L.first + 2 + pos % L.n : Nat)) ∧ ∃ m, w' = W.drewN m := fun W hW => at_w hW pos h1 (by have := hf.out; omega) (by have := hf.out; omega)
  generalize L.first + 2 + pos % L.n = kx at *
  have hRd : ∀ m, Calls Tryz.prog 142 #[.pointer (some ⟨d, 0, none⟩), .int .i64 kx] (w6.drewN m) fun r w' => ∃ b, r = .returned (.tuple #[.slice (some ⟨b, 0, none⟩) 512 512, .int .i64 0]) ∧ w'.cell? ⟨l, 0, none⟩ = some (.pointer (some ⟨d, 0, none⟩)) ∧ w'.cell? ⟨w.heap.size, 1, none⟩ = some (.int .i64 pos) ∧
      Calls Tryz.prog 160 #[.slice (some ⟨b, 0, none⟩) 512 512, .slice (some ⟨w.heap.size + 1, 0, none⟩) (12 + n) 504] w' fun r w8 => ∃ g, r = .returned (.tuple #[.slice (some ⟨g, 0, none⟩) 512 512, .int .i64 0]) ∧ w8.cell? ⟨l, 0, none⟩ = some (.pointer (some ⟨d, 0, none⟩)) ∧ w8.cell? ⟨w.heap.size, 1, none⟩ = some (.int .i64 pos) ∧ Blk w8 l (logO d L) ∧
        ∀ m, Calls Tryz.prog 110 #[.pointer (some ⟨d, 0, none⟩), .int .i64 kx, .slice (some ⟨g, 0, none⟩) 512 512] (w8.drewN m) fun r w9 => r = .returned (.int .i64 0) ∧ Post (.returned (.int .i64 0)) w9 ∧ w9.cell? ⟨l, 0, none⟩ = some (.pointer (some ⟨d, 0, none⟩)) ∧ w9.cell? ⟨w.heap.size, 1, none⟩ = some (.int .i64 pos) := by
    intro m
    have km : Keeps (fun _ => False) w6 (w6.drewN m) := (Keeps.refl (fun _ => False) w6).drewN m
    have hdm := hd6.keeps km (fun _ _ f => f)
    have := read_ok hdm hb.out (kx : Int) (by omega) (by have := hk.out; omega)
    rw [Int.toNat_natCast] at this
    refine this.mono ?_
    rintro r w7 ⟨b, rfl, hb1, hB1, hD7, k7⟩
    have hl7 := k7.blk (km.blk hl6 (fun f => f)) hlF.out
    have bx7 := k7.blk (km.blk bx6 (fun f => f)) (fun f => by have := hFl.out _ f; omega)
    have bb7 := k7.blk (km.blk hBb (fun f => f)) (fun f => by have := hFl.out _ f; omega)
    have hs7 := k7.size
    have hsm := km.size
    refine ⟨b, rfl, by have := hl7.cell 0; simpa using this, by have := bx7.cell 1; simpa using this, ?_⟩
    refine (seal_w w7 b 512 5 (D.now kx) hB1 hD0 (w.heap.size + 1) 0 (12 + n) 504 5 (body ++ rest) bb7 (by rw [List.length_append, hpl.out]; omega) (by have := hnn.out; omega)).mono ?_
    rintro r w8 ⟨g, hg, rfl, hG, k8⟩
    rw [List.drop_zero, List.take_left' hpl.out] at hG
    have hl8 := k8.blk hl7 (fun f => f)
    have bx8 := k8.blk bx7 (fun f => f)
    have hs8 := k8.size
    refine ⟨g, rfl, by have := hl8.cell 0; simpa using this, by have := bx8.cell 1; simpa using this, hl8, fun m => ?_⟩
    have km8 : Keeps (fun _ => False) w8 (w8.drewN m) := (Keeps.refl (fun _ => False) w8).drewN m
    have hD8 := hD7.keeps (k8.step km8) (fun _ _ f => f)
    have hw2 := write_ok hD8 hb.out (kx : Int) (by omega) (by have := hk.out; show (kx : Int) < (D.n : Nat); omega) hw.out g 0 512 238 _ (km8.blk hG (fun f => f)) (by rw [length_layB]; omega)
    rw [Int.toNat_natCast, List.drop_zero, List.take_of_length_le (by rw [length_layB]; omega)] at hw2
    refine hw2.mono ?_
    rintro r w9 ⟨rfl, F', y1, y2, y3⟩
    have hs9 : (w8.drewN m).heap.size = w8.heap.size := rfl
    have hs10 : (w6.drewN m).heap.size = w6.heap.size := rfl
    refine ⟨rfl, ?_, by have := (y2.blk (km8.blk hl8 (fun f => f)) hlF.out).cell 0; simpa using this, by have := (y2.blk (km8.blk bx8 (fun f => f)) (fun f => by have := hFl.out _ f; omega)).cell 1; simpa using this⟩
    rw [← hPost.out]
    exact ⟨rfl, F', y1, fun k hk' => (y3 k hk').elim .inl (fun x => .inr (by omega)), (((kw6.step km).mono fun _ _ f => f.elim).step k7).step ((k8.step km8).mono fun _ _ f => f.elim) |>.step y2⟩
  have l60d : w6.drew.cell? ⟨l, 0, none⟩ = some (.pointer (some ⟨d, 0, none⟩)) := l60
  have c61d : w6.drew.cell? ⟨w.heap.size, 1, none⟩ = some (.int .i64 pos) := c61
  have hl6d : Blk w6.drew l (logO d L) := hl6
  clear c51 c54 hd5 bb5
  replace bx6 := hid bx6; replace kw6 := hid kw6; replace hl6 := hid hl6; replace hd6 := hid hd6; replace hBb := hid hBb; replace hrest := hid hrest; replace hAt := hid hAt; replace hRd := hid hRd; replace hl6d := hid hl6d; replace hD0 := hid hD0
  go_upto_region 7 with fail
  go_region_held3 (fun W => W.cell? ⟨l, 0, none⟩ = some (.pointer (some ⟨d, 0, none⟩)) ∧ W.cell? ⟨w.heap.size, 1, none⟩ = some (.int .i64 pos)) (first | with_reducible exact ⟨l60d, c61d⟩ | with_reducible exact ⟨m1, m2⟩ | with_reducible exact ⟨r1, r2⟩) (first
    | (go_at_call 159; refine (hAt.out _ hl6d.out).mono ?_; rintro r w7 ⟨rfl, m, rfl⟩; have m1 : (w6.drewN (1 + m)).cell? ⟨l, 0, none⟩ = some (.pointer (some ⟨d, 0, none⟩)) := l60; have m2 : (w6.drewN (1 + m)).cell? ⟨w.heap.size, 1, none⟩ = some (.int .i64 pos) := c61; have hRm := hRd.out (1 + m); replace hRm := hid hRm)
    | (go_at_call 142; refine hRm.out.mono ?_; rintro r w7 ⟨b, rfl, r1, r2, hSe⟩; replace hSe := hid hSe))
  rename_i hHeld
  clear hHeld m1 m2
  go_upto_region 13 with (go_at_call 160; refine hSe.out.mono ?_; rintro r w8 ⟨g, rfl, s1, s2, hl8, hWr⟩; replace hl8 := hid hl8; replace hWr := hid hWr)
  have s1d : w8.drew.cell? ⟨l, 0, none⟩ = some (.pointer (some ⟨d, 0, none⟩)) := s1
  have s2d : w8.drew.cell? ⟨w.heap.size, 1, none⟩ = some (.int .i64 pos) := s2
  have hl8d : Blk w8.drew l (logO d L) := hl8.out
  replace hl8d := hid hl8d
  go_region_held3 (fun W => W.cell? ⟨l, 0, none⟩ = some (.pointer (some ⟨d, 0, none⟩)) ∧ W.cell? ⟨w.heap.size, 1, none⟩ = some (.int .i64 pos)) (first | with_reducible exact ⟨s1d, s2d⟩ | with_reducible exact ⟨m1, m2⟩ | with_reducible exact ⟨t1, t2⟩) (first
    | (go_at_call 159; refine (hAt.out _ hl8d.out).mono ?_; rintro r w9 ⟨rfl, m', rfl⟩; have m1 : (w8.drewN (1 + m')).cell? ⟨l, 0, none⟩ = some (.pointer (some ⟨d, 0, none⟩)) := s1; have m2 : (w8.drewN (1 + m')).cell? ⟨w.heap.size, 1, none⟩ = some (.int .i64 pos) := s2; have hWm := hWr.out (1 + m'); replace hWm := hid hWm)
    | (go_at_call 110; refine hWm.out.mono ?_; rintro r w9 ⟨rfl, hF, t1, t2⟩; replace hF := hid hF))
  rename_i hHeld
  clear hHeld
  go_wp2
  exact hF.out
end
end Go.Vk

namespace Go.Vk
open Go.RowKit Go.Proofs

def partB (data : List UInt8) (k : Nat) : List UInt8 := (data.drop (k * 492)).take 492
def countB (data : List UInt8) : Nat := (data.length + 491) / 492
def appD (D : DM) (L : LM) (data : List UInt8) : Nat → DM
  | 0 => D
  | k + 1 => layD (appD D L data k) L L.epoch (L.head + k) k (countB data) (partB data k)
theorem partB_length (data : List UInt8) (k : Nat) : (partB data k).length = min 492 (data.length - k * 492) := by
  unfold partB; rw [List.length_take, List.length_drop]
theorem Keeps.cellG {w w' : World} {Gf : Nat → Prop} (k : Keeps Gf w w') {a : Addr} {v : Value} (h : w.cell? a = some v) (hG : ¬ Gf a.block) : w'.cell? a = some v := by
  have hlt := World.block_lt_of_cell? w _ h
  rw [← h]
  unfold World.cell?
  rw [k.block a.block hlt hG]
theorem laidS_length (old body : List UInt8) : (laidS old body).length = 512 := length_layB _ _
theorem Is.layD {D : DM} {N : Nat} {life : Int} {g : Nat → List UInt8} (h : Is D N life g) (L : LM) (e pos i c : Nat) (data : List UInt8) : ∃ s, Is (layD D L e pos i c data) N life (fun j => if j = L.first + 2 + pos % L.n then s else g j) ∧ (Go.Vk.layD D L e pos i c data).writes = D.writes + 1 := by
  refine ⟨_, h.readed.wrote _ (laidS_length _ _), ?_⟩
  unfold Go.Vk.layD
  rw [spent_writes]; rfl
theorem Is.appD {D : DM} {N : Nat} {life : Int} {g : Nat → List UInt8} (h : Is D N life g) (L : LM) (h1 : 1 ≤ L.n) (data : List UInt8) : ∀ k, ∃ g', Is (appD D L data k) N life g' ∧ (appD D L data k).writes = D.writes + k ∧ ∀ j, ¬ (L.first + 2 ≤ j ∧ j < L.first + 2 + L.n) → g' j = g j
  | 0 => ⟨g, h, rfl, fun _ _ => rfl⟩
  | k + 1 => by
    obtain ⟨g', h2, h3, h4⟩ := Is.appD h L h1 data k
    obtain ⟨s, h5, h6⟩ := h2.layD L L.epoch (L.head + k) k (countB data) (partB data k)
    refine ⟨_, h5, by show (Go.Vk.layD _ _ _ _ _ _ _).writes = _; rw [h6, h3]; omega, fun j hj => ?_⟩
    have : ¬ j = L.first + 2 + (L.head + k) % L.n := fun e => hj (by have := Nat.mod_lt (L.head + k) (show L.n > 0 by omega); omega)
    rw [if_neg this]
    exact h4 j hj
section
variable {w : World} {d l : Nat} {D : DM} {F : List Nat} {L : LM} {N : Nat} {life : Int} {g : Nat → List UInt8}
set_option maxRecDepth 100000 in
set_option maxHeartbeats 4000000 in
theorem lappend_w (hl : Blk w l (logO d L)) (h : DiskRep w d D F) (hlF : l ∉ F) (hI : Is D N life g) (hli : L.life = life) (hs : L.started = true) (h1 : 1 ≤ L.n) (hf : L.first + 2 + L.n ≤ N) (hN : N ≤ 2048) (hw : D.writes + 20 < 1099511627776)
    (hep : L.epoch < 4294967296) (ht : L.tail ≤ L.head) (hh : L.head + 20 ≤ 1073741824) (gr cd : Nat) (data : List UInt8) (hd : ∀ j (hj : j < data.length), w.cell? ⟨gr, j, none⟩ = some (B data[j])) (hgr : gr ∉ F) (hgl : gr ≠ l) (hd0 : 0 < data.length) (hdl : data.length ≤ 8364) (hcd : data.length ≤ cd)
    (hroom : countB data + (L.head - L.tail) ≤ L.n) :
    Calls Tryz.prog 72 #[.pointer (some ⟨l, 0, none⟩), .slice (some ⟨gr, 0, none⟩) data.length cd] w (LPost w d l F 0 (appD D L data (countB data)) { L with head := L.head + countB data }) := by
  have hR := ready_w hl h
  have hrE : readyE D L = 0 := by
    unfold readyE aliveE
    rw [if_neg (show ¬ (D.burnt = true ∨ D.life ≠ L.life) by rw [hI.burnt, hI.lf, hli]; simp)]
    simp [hs]
  rw [hrE] at hR
  have hFr := fun m => free_w (w := w.drewN m) (hl.drewN m) ht (by omega) (by omega)
  obtain ⟨n, hn⟩ : ∃ n, data.length = n := ⟨_, rfl⟩
  obtain ⟨c, hc⟩ : ∃ c, countB data = c := ⟨_, rfl⟩
  have hcn : c = (n + 491) / 492 := by rw [← hc, ← hn]; rfl
  have hc17 : 1 ≤ c ∧ c ≤ 17 ∧ c * 492 ≤ n + 491 ∧ n ≤ c * 492 := by omega
  rw [hc] at hroom ⊢
  rw [hn] at hd0 hdl hcd ⊢
  have hll := hl.lt
  have hFl := h.lt
  have hgrl : gr < w.heap.size := World.block_lt_of_cell? w _ (hd 0 (by omega))
  have hq1 : ((n : Int) + 491) / 492 = (c : Int) := by omega
  have hq2 : ((n : Int) + 492 - 1) / 492 = (c : Int) := by omega
  have hfr : (c : Int) ≤ (L.n : Int) - ((L.head : Int) - (L.tail : Int)) := by omega
  have hA := hI.appD L h1 data
  have hstep : ∀ k F' W, k < c → DAt w d F (appD D L data k) F' W → Blk W l (logO d L) → ∀ cap, Calls Tryz.prog 125 #[.pointer (some ⟨l, 0, none⟩), lpieceV L.epoch (L.head + k) k c (.slice (some ⟨gr, k * 492, none⟩) (min n ((k + 1) * 492) - k * 492) cap)] W fun e w' => e = .returned (.int .i64 0) ∧ (∃ F', DAt w d F (appD D L data (k + 1)) F' w') ∧ Blk w' l (logO d L) := by
    intro k F' W hk hD hB cap
    obtain ⟨g', b1, b2, b3⟩ := hA k
    have hpl := partB_length data k
    rw [hn] at hpl
    have hle : min n ((k + 1) * 492) - k * 492 = (partB data k).length := by rw [hpl]; omega
    rw [hle]
    have hlF' : l ∉ F' := hD.out_of hlF hll
    have hcell : ∀ j (hj : j < (partB data k).length), W.cell? ((⟨gr, k * 492, none⟩ : Addr).add j) = some (B (partB data k)[j]) := fun j hj => by
      rw [show (⟨gr, k * 492, none⟩ : Addr).add j = ⟨gr, k * 492 + j, none⟩ by unfold Addr.add; split <;> simp_all]
      rw [hpl] at hj
      have hjn : k * 492 + j < data.length := by omega
      have := hD.keeps.cellG (hd (k * 492 + j) hjn) hgr
      rw [this]
      have e : (partB data k)[j] = data[k * 492 + j] := by simp [partB]
      rw [e]
    refine (llay_w hB hD.rep hlF' b1.burnt h1 (by rw [b1.n]; exact hf) (by rw [b1.n]; exact hN) (by rw [b2]; omega) L.epoch (L.head + k) k c hep (by omega) (by omega) (by omega) ⟨gr, k * 492, none⟩ cap (partB data k) hcell (by rw [hpl]; omega)).mono ?_
    rintro e w' ⟨rfl, F2, h2⟩
    refine ⟨rfl, ⟨F2, ?_⟩, h2.blk hB hlF'⟩
    have := hD.trans h2
    rw [← hc] at this
    exact this
  have hfin : ∀ F' W, DAt w d F (appD D L data c) F' W → Blk W l (logO d L) → LPost w d l F 0 (appD D L data c) { L with head := L.head + c } (.returned (.int .i64 (0 : Nat))) (W.setCell ⟨l, 7, none⟩ (.int .i64 (L.head + c : Nat))) := by
    intro F' W hD hB
    have hlF' : l ∉ F' := hD.out_of hlF hll
    have kk : Keeps (· = l) W (W.setCell ⟨l, 7, none⟩ (.int .i64 (L.head + c : Nat))) := (Keeps.refl (· = l) W).setCell (p := ⟨l, 7, none⟩) (.inl rfl) _
    refine ⟨rfl, F', hD.rep.keeps kk (fun i hi e => hlF' (e ▸ hi)), hD.sub, ?_, (hD.keeps.mono fun _ _ f => .inl f).step (kk.mono fun _ _ f => .inr f)⟩
    have := hB.setCell 7 (.int .i64 (L.head + c : Nat))
    simpa [logO] using this
  have h0 : DAt w d F (appD D L data 0) F w := DAt.refl h
  generalize hPost : LPost w d l F 0 (appD D L data c) { L with head := L.head + c } = Post at *
  have c7 := hl.cell 7
  simp at c7
  have hb0 : ∀ k, k < c → 0 ≤ (k : Int) * 492 ∧ (k : Int) * 492 ≤ n := fun k hk => by omega
  have hw1 : ∀ k, k < c → IntKind.i64.wrap ((k : Int) * 492) = (k : Int) * 492 := fun k hk => by rw [IntKind.wrap_i64]; omega
  have hdr := fun m => h.drewN m
  clear hcn
  replace hl := hid hl; replace h := hid h; replace hlF := hid hlF; replace hI := hid hI; replace hd := hid hd; replace hgr := hid hgr; replace hR := hid hR; replace hFr := hid hFr; replace hn := hid hn; replace hc := hid hc; replace hA := hid hA; replace hstep := hid hstep; replace hfin := hid hfin; replace hPost := hid hPost; replace h0 := hid h0; replace hFl := hid hFl; replace hdr := hid hdr; replace hf := hid hf; replace hw := hid hw; replace hq1 := hid hq1; replace hq2 := hid hq2
  go_enter Tryz.func72, Tryz.ntmps72
  go_upto_region 5 with (first
    | (go_at_call 121; refine hR.out.mono ?_; rintro e w1 ⟨rfl, m, rfl⟩))
  first | rw [hq1.out] | rw [hq2.out]
  go_upto_region 14 with (first
    | (go_at_call 122; refine (hFr.out _).mono ?_; rintro e w2 ⟨rfl, m2, rfl⟩))
  have hlm : ∀ W, Keeps (fun _ => False) w W → DAt w d F (appD D L data 0) F W := fun W k => ⟨h.out.keeps k (fun _ _ f => f), fun _ hk => .inl hk, k.mono fun _ _ f => f.elim⟩
  have hlb : ∀ W, Keeps (fun _ => False) w W → Blk W l (logO d L) := fun W k => k.blk hl.out (fun f => f)
  clear c7 h0
  replace hlm := hid hlm; replace hlb := hid hlb
  go_wp2
  go_loopw [42] (fun i wr => ∃ k : Nat, k ≤ c ∧ i = .int .i64 k ∧ Blk wr l (logO d L) ∧ ∃ F', DAt w d F (appD D L data k) F' wr) (fun i _ => c - (intOf i).toNat)
  case atStart => exact ⟨0, by omega, rfl, hlb.out _ ((Keeps.refl _ _).drewN _), F, hlm.out _ ((Keeps.refl _ _).drewN _)⟩
  case round =>
    obtain ⟨k, hk1, rfl, hB, F', hD⟩ := hrel
    have d4 := hB.cell 4
    have d7 := hB.cell 7
    have df := hB.frz 7
    simp at d4 d7
    by_cases hkc : k < c
    · have hki : (k : Int) < c := by omega
      have hx1 : (k : Int) * 492 ≤ n := by omega
      have hx2 : IntKind.i64.wrap ((k : Int) * 492) = (k : Int) * 492 := by rw [IntKind.wrap_i64]; omega
      have hx3 : IntKind.i64.wrap (((k : Int) + 1) * 492) = ((k : Int) + 1) * 492 := by rw [IntKind.wrap_i64]; omega
      have hx4 : IntKind.i64.wrap ((L.head : Int) + (k : Int)) = (L.head : Int) + (k : Int) := by rw [IntKind.wrap_i64]; omega
      have hS := hstep.out k F' wr.drew hkc (by
        have kd : Keeps (fun _ => False) wr wr.drew := (Keeps.refl _ _).drew
        exact ⟨hD.rep.keeps kd (fun _ _ f => f), hD.sub, hD.keeps.step (kd.mono fun _ _ f => f.elim)⟩) hB.drew
      have hx5 : (if ((k : Int) + 1) * 492 < (n : Int) then ((k : Int) + 1) * 492 else (n : Int)) = ((min n ((k + 1) * 492) : Nat) : Int) := by split <;> omega
      generalize min n ((k + 1) * 492) = mx at hx5 hS
      have d4d : wr.drew.cell? ⟨l, 4, none⟩ = some (.int .i64 L.epoch) := d4
      have d7d : wr.drew.cell? ⟨l, 7, none⟩ = some (.int .i64 L.head) := d7
      have hcast : (L.head : Int) + (k : Int) = ((L.head + k : Nat) : Int) := by omega
      unfold lpieceV at hS
      rw [← hcast] at hS
      replace hB := hid hB; replace hD := hid hD; replace hS := hid hS; replace hx5 := hid hx5; replace hcast := hid hcast
      go_upto_region 17 with fail
      rw [hx5.out, Int.toNat_natCast]
      go_region_held3 (fun W => W.cell? ⟨l, 4, none⟩ = some (.int .i64 L.epoch) ∧ W.cell? ⟨l, 7, none⟩ = some (.int .i64 L.head)) (first | with_reducible exact ⟨d4d, d7d⟩ | with_reducible exact ⟨e4, e7⟩) (first
        | (go_at_call 125; refine (hS.out (cd - k * 492)).mono ?_; rintro e w3 ⟨rfl, ⟨F3, hD3⟩, hB3⟩; have e4 := hB3.cell 4; have e7 := hB3.cell 7; simp at e4 e7; replace hD3 := hid hD3; replace hB3 := hid hB3))
      rename_i hHeld
      clear hHeld
      go_wp2
      exact ⟨⟨k + 1, by omega, by go_num, hB3.out, F3, hD3.out⟩, by simp [intOf]; omega⟩
    · have hki : ¬ (k : Int) < c := by omega
      obtain rfl : k = c := by omega
      have hF := hfin.out F' wr hD hB
      have hx6 : IntKind.i64.wrap ((L.head : Int) + (k : Int)) = (L.head : Int) + (k : Int) := by rw [IntKind.wrap_i64]; omega
      have hcast : ((L.head + k : Nat) : Int) = (L.head : Int) + (k : Int) := by omega
      rw [hcast] at hF
      replace hB := hid hB; replace hD := hid hD; replace hF := hid hF; replace hcast := hid hcast
      go_wp2
      exact hF.out
end
end Go.Vk

namespace Go.Vk
open Go.RowKit Go.Proofs

/-- No anchor is newer than the tail. -/
def AnchInv (g : Nat → List UInt8) (L : LM) : Prop := max (anchorN (g L.first)) (anchorN (g (L.first + 1))) ≤ L.epoch * 4294967296 + L.tail
def trimD (D : DM) (L : LM) : DM := if L.tail = L.head then D.flushed else (anchorM D.flushed L.first L.epoch L.head).2
def trimL (L : LM) : LM := if L.tail = L.head then L else { L with tail := L.head }
theorem turnOf_lt (a b : UInt8) : (turnOf a b).toNat < 3 := by
  unfold turnOf
  by_cases h0 : a.toNat ≠ 0 ∧ b.toNat ≠ 0
  · rw [if_pos h0]; decide
  · rw [if_neg h0]
    by_cases h1 : a.toNat ≠ 1 ∧ b.toNat ≠ 1
    · rw [if_pos h1]; decide
    · rw [if_neg h1]
      by_cases h2 : a.toNat ≠ 2 ∧ b.toNat ≠ 2
      · rw [if_pos h2]; decide
      · exfalso; omega
theorem anchorN_renew (s1 s2 : List UInt8) (no : Nat) (h1 : 1 ≤ no) (h2 : no < 9223372036854775808) : anchorN (renewS s1 s2 no) = no := by
  unfold renewS anchorN
  rw [anchorOf_layB _ no (turnOf_lt _ _) h1 h2]
theorem Is.trimD {D : DM} {N : Nat} {life : Int} {g : Nat → List UInt8} (h : Is D N life g) (L : LM) (hf : L.first + 1 < N) (hi : AnchInv g L) (ht : L.tail ≤ L.head) (he : 1 ≤ L.epoch) (he2 : L.epoch < 2147483648) (hh : L.head < 4294967296) :
    ∃ g', Is (trimD D L) N life g' ∧ (∀ j, j ≠ L.first → j ≠ L.first + 1 → g' j = g j) ∧ AnchInv g' (trimL L) ∧ (Go.Vk.trimD D L).writes ≤ D.writes + 1 := by
  unfold Go.Vk.trimD trimL
  by_cases e : L.tail = L.head
  · rw [if_pos e, if_pos e]
    exact ⟨g, h.flushed, fun _ _ _ => rfl, hi, by rw [flushed_writes]; omega⟩
  · rw [if_neg e, if_neg e]
    have hlt : L.tail < L.head := by omega
    obtain ⟨i1, i2⟩ := Nat.max_le.1 hi
    have hE : ∃ E, L.epoch * 4294967296 = E := ⟨_, rfl⟩
    have hb : 1 ≤ L.epoch * 4294967296 + L.head ∧ L.epoch * 4294967296 + L.head < 9223372036854775808 := by omega
    obtain ⟨E, hE⟩ := hE
    have hno := anchorN_renew (g L.first) (g (L.first + 1)) (L.epoch * 4294967296 + L.head) hb.1 hb.2
    have hns : ¬ L.epoch * 4294967296 + L.head ≤ max (anchorN (g L.first)) (anchorN (g (L.first + 1))) := by
      rw [hE] at i1 i2 ⊢
      omega
    obtain ⟨D', e1, e2⟩ := h.flushed.anchorM L.first L.epoch L.head hf hns
    have hst := (h.flushed.wf.anchorM L.first L.epoch L.head).writes
    rw [flushed_writes, e1] at hst
    rw [e1]
    have hto := renewTo_le (g L.first) (g (L.first + 1))
    have hi2 : ∀ s, anchorN s ≤ L.epoch * 4294967296 + L.tail → anchorN s ≤ L.epoch * 4294967296 + L.head := fun s hs => by
      rw [hE] at hs ⊢
      omega
    refine ⟨_, e2, fun j h1 h2 => if_neg (by omega), ?_, hst⟩
    show max (anchorN (if L.first = L.first + renewTo (g L.first) (g (L.first + 1)) then renewS (g L.first) (g (L.first + 1)) (L.epoch * 4294967296 + L.head) else g L.first)) (anchorN (if L.first + 1 = L.first + renewTo (g L.first) (g (L.first + 1)) then renewS (g L.first) (g (L.first + 1)) (L.epoch * 4294967296 + L.head) else g (L.first + 1))) ≤ L.epoch * 4294967296 + L.head
    by_cases hz : renewTo (g L.first) (g (L.first + 1)) = 0
    · rw [if_pos (by rw [hz]; rfl), if_neg (by omega), hno]
      exact Nat.max_le.2 ⟨Nat.le_refl _, hi2 _ i2⟩
    · rw [if_neg (by omega), if_pos (by omega), hno]
      exact Nat.max_le.2 ⟨hi2 _ i1, Nat.le_refl _⟩
section
variable {w : World} {d l : Nat} {D : DM} {F : List Nat} {L : LM} {N : Nat} {life : Int} {g : Nat → List UInt8}
theorem Is.ready (hI : Is D N life g) (hli : L.life = life) (hs : L.started = true) : readyE D L = 0 := by
  unfold readyE aliveE
  rw [if_neg (show ¬ (D.burnt = true ∨ D.life ≠ L.life) by rw [hI.burnt, hI.lf, hli]; simp)]
  simp [hs]
theorem lroom_w (hl : Blk w l (logO d L)) (h : DiskRep w d D F) (hI : Is D N life g) (hli : L.life = life) (hs : L.started = true) (hn : L.n ≤ 2048) (ht : L.tail ≤ L.head) (hh : L.head ≤ 4294967295) :
    Calls Tryz.prog 70 #[.pointer (some ⟨l, 0, none⟩)] w fun e w' => e = .returned (.tuple #[.int .i64 ((L.n : Int) - ((L.head : Int) - (L.tail : Int))), .int .i64 0]) ∧ ∃ m, w' = w.drewN m := by
  have hR := ready_w hl h
  rw [hI.ready hli hs] at hR
  have hFr := fun m => free_w (w := w.drewN m) (hl.drewN m) ht hh hn
  replace hl := hid hl; replace h := hid h; replace hI := hid hI; replace hR := hid hR; replace hFr := hid hFr
  go_enter Tryz.func70, Tryz.ntmps70
  go_wp2_with (first
    | (go_at_call 121; refine hR.out.mono ?_; rintro e w1 ⟨rfl, m, rfl⟩)
    | (go_at_call 122; refine (hFr.out _).mono ?_; rintro e w2 ⟨rfl, m2, rfl⟩))
  go_ret2
  exact ⟨rfl, _, rfl⟩
theorem lsync_w (hl : Blk w l (logO d L)) (h : DiskRep w d D F) (hI : Is D N life g) (hli : L.life = life) (hs : L.started = true) :
    Calls Tryz.prog 80 #[.pointer (some ⟨l, 0, none⟩)] w fun e w' => e = .returned (.int .i64 0) ∧ ∃ F', DAt w d F D.flushed F' w' := by
  have hR := ready_w hl h
  rw [hI.ready hli hs] at hR
  have c0 := hl.cell 0
  simp at c0
  have hFl : ∀ m, Calls Tryz.prog 111 #[.pointer (some ⟨d, 0, none⟩)] (w.drewN m) fun e w' => e = .returned (.int .i64 0) ∧ ∃ F', DAt w d F D.flushed F' w' := fun m => by
    refine (flush_ok (h.drewN m) hI.burnt).mono ?_
    rintro e w' ⟨rfl, F', y1, y2, y3⟩
    exact ⟨rfl, F', y1, y3, ((Keeps.refl (· ∈ F) w).drewN m).step y2⟩
  replace hl := hid hl; replace h := hid h; replace hI := hid hI; replace hR := hid hR; replace hFl := hid hFl
  go_enter Tryz.func80, Tryz.ntmps80
  go_wp2_with (first
    | (go_at_call 121; refine hR.out.mono ?_; rintro e w1 ⟨rfl, m, rfl⟩)
    | (go_at_call 111; refine (hFl.out _).mono ?_; rintro e w2 ⟨rfl, hF⟩; replace hF := hid hF))
  go_ret
  exact ⟨rfl, hF.out⟩
set_option maxHeartbeats 1000000 in
theorem ltrim_w (hl : Blk w l (logO d L)) (h : DiskRep w d D F) (hlF : l ∉ F) (hI : Is D N life g) (hli : L.life = life) (hs : L.started = true) (hf : L.first + 1 < N) (hN : N ≤ 2048) (hw : D.writes < 1099511627776) (hi : AnchInv g L) (ht : L.tail ≤ L.head) (he : 1 ≤ L.epoch) (he2 : L.epoch < 2147483648) (hh : L.head < 4294967296) :
    Calls Tryz.prog 124 #[.pointer (some ⟨l, 0, none⟩)] w (LPost w d l F 0 (trimD D L) (trimL L)) := by
  have hS := lsync_w hl h hI hli hs
  have hll := hl.lt
  have hA : ∀ F' W, DAt w d F D.flushed F' W → Blk W l (logO d L) → ¬ L.tail = L.head → Calls Tryz.prog 156 #[.pointer (some ⟨l, 0, none⟩), .int .i64 L.epoch, .int .i64 L.head] W fun e w' => e = .returned (.int .i64 0) ∧ (w'.cell? ⟨l, 4, none⟩ = some (.int .i64 L.epoch) ∧ w'.cell? ⟨l, 7, none⟩ = some (.int .i64 L.head)) ∧ LPost w d l F 0 (trimD D L) (trimL L) (.returned (.int .i64 0)) w' := by
    intro F' W hD hB hne
    obtain ⟨D', e1, e2⟩ := hI.flushed.anchorM L.first L.epoch L.head hf (by unfold AnchInv at hi; omega)
    have hfn : D.flushed.n = N := hI.flushed.n
    have := anchor_w hB hD.rep (hD.out_of hlF hll) (by rw [hfn]; exact hf) (by rw [hfn]; exact hN) (by rw [flushed_writes]; exact hw) L.epoch L.head he he2 hh
    rw [e1, if_pos rfl] at this
    refine this.mono ?_
    rintro e w' ⟨rfl, F2, y1, y2, y3, y4⟩
    refine ⟨rfl, ⟨by have := y3.cell 4; simpa using this, by have := y3.cell 7; simpa using this⟩, rfl, F2, ?_, fun k hk => (y2 k hk).elim (fun x => hD.sub k x) (fun x => .inr (by have := hD.keeps.size; omega)), ?_, ?_⟩
    · unfold trimD
      rw [if_neg hne, e1]
      exact y1
    · unfold trimL
      rw [if_neg hne]
      exact y3
    · exact (hD.keeps.mono fun _ _ f => .inl f).trans y4 (fun i hi' f => f.elim (fun x => (hD.sub i x).elim .inl (fun z => by omega)) .inr)
  have hE : ∀ F' W, DAt w d F D.flushed F' W → Blk W l (logO d L) → L.tail = L.head → LPost w d l F 0 (trimD D L) (trimL L) (.returned (.int .i64 0)) W := by
    intro F' W hD hB he
    unfold trimD trimL
    rw [if_pos he, if_pos he]
    exact ⟨rfl, F', hD.rep, hD.sub, hB, hD.keeps.mono fun _ _ f => .inl f⟩
  have hdr : ∀ F' W k, DAt w d F D.flushed F' W → DAt w d F D.flushed F' (W.drewN k) := fun F' W k hD => by
    have kd : Keeps (fun _ => False) W (W.drewN k) := (Keeps.refl _ _).drewN k
    exact ⟨hD.rep.keeps kd (fun _ _ f => f), hD.sub, hD.keeps.step (kd.mono fun _ _ f => f.elim)⟩
  generalize LPost w d l F 0 (trimD D L) (trimL L) = Post at *
  have hcell : ∀ F' W, DAt w d F D.flushed F' W → Blk W l (logO d L) := fun F' W hD => hD.blk hl hlF
  have hcc : ∀ F' W, DAt w d F D.flushed F' W → W.cell? ⟨l, 4, none⟩ = some (.int .i64 L.epoch) ∧ W.cell? ⟨l, 6, none⟩ = some (.int .i64 L.tail) ∧ W.cell? ⟨l, 7, none⟩ = some (.int .i64 L.head) := fun F' W hD => by
    have hB := hcell F' W hD
    have q4 := hB.cell 4
    have q6 := hB.cell 6
    have q7 := hB.cell 7
    simp at q4 q6 q7
    exact ⟨q4, q6, q7⟩
  by_cases he' : L.tail = L.head
  · have hei : (L.tail : Int) = L.head := by omega
    replace hl := hid hl; replace h := hid h; replace hlF := hid hlF; replace hI := hid hI; replace hi := hid hi; replace hS := hid hS; replace hA := hid hA; replace hE := hid hE; replace hdr := hid hdr; replace hcell := hid hcell; replace hcc := hid hcc; replace he' := hid he'; replace ht := hid ht
    go_enter Tryz.func124, Tryz.ntmps124
    go_upto_region 2 with (go_at_call 80; refine hS.out.mono ?_; rintro e w2 ⟨rfl, F', hD⟩; obtain ⟨q4, q6, q7⟩ := hcc.out _ _ hD; replace hD := hid hD)
    go_quiet (fail)
    go_wp2
    exact (hE.out F' _ (hdr.out _ _ _ hD.out) (hcell.out _ _ (hdr.out _ _ _ hD.out)) he'.out)
  · have hei : ¬ (L.tail : Int) = L.head := by omega
    replace hl := hid hl; replace h := hid h; replace hlF := hid hlF; replace hI := hid hI; replace hi := hid hi; replace hS := hid hS; replace hA := hid hA; replace hE := hid hE; replace hdr := hid hdr; replace hcell := hid hcell; replace hcc := hid hcc; replace he' := hid he'; replace ht := hid ht
    go_enter Tryz.func124, Tryz.ntmps124
    go_upto_region 2 with (go_at_call 80; refine hS.out.mono ?_; rintro e w2 ⟨rfl, F', hD⟩; obtain ⟨q4, q6, q7⟩ := hcc.out _ _ hD; replace hD := hid hD)
    go_quiet (fail)
    have hD2 := hdr.out _ _ nq hD.out
    have hD3 := hdr.out _ _ 1 hD2
    obtain ⟨q4, q6, q7⟩ := hcc.out _ _ hD2
    have hAn := hA.out F' (w2.drewN nq).drew hD3 (hcell.out _ _ hD3) he'.out
    have q4d : (w2.drewN nq).drew.cell? ⟨l, 4, none⟩ = some (.int .i64 L.epoch) := q4
    have q7d : (w2.drewN nq).drew.cell? ⟨l, 7, none⟩ = some (.int .i64 L.head) := q7
    replace hD2 := hid hD2; replace hD3 := hid hD3; replace hAn := hid hAn
    go_upto_region 4 with fail
    go_region_held3 (fun W => W.cell? ⟨l, 4, none⟩ = some (.int .i64 L.epoch) ∧ W.cell? ⟨l, 7, none⟩ = some (.int .i64 L.head)) (first | with_reducible exact ⟨q4d, q7d⟩ | with_reducible exact hcs) (first
      | (go_at_call 156; refine hAn.out.mono ?_; rintro e w3 ⟨rfl, hcs, hF⟩; replace hF := hid hF))
    rename_i hHeld
    clear hHeld
    go_wp2
    exact hF.out
end
end Go.Vk

namespace Go.Vk
open Go.RowKit Go.Proofs

/-- The log of a new store. -/
def newL (l : Nat) (life : Int) : LM := ⟨1, l, life, 2, 1, 0, 0, true⟩
theorem new_calm {s l n : Nat} (hp : PlanOk s l n) (h2 : s ≤ 2048) : ∃ g, Is (newD s l n) s (wrap64 ((fmtD s l n).life + 1)) g ∧ AnchInv g (newL l (wrap64 ((fmtD s l n).life + 1))) ∧ (newD s l n).writes ≤ 10000 := by
  obtain ⟨life, e, hI⟩ := fmt_ok hp h2
  have hp' := hp
  unfold PlanOk at hp'
  have hO : Is (openD (fmtD s l n) l) s (wrap64 (life + 1)) (fmtG s l n) := ((hI.readed.took.readed.readed).readedN l).flushed
  have g1 : fmtG s l n 1 = firstAnchor := rfl
  have g2 : fmtG s l n 2 = zeros 512 := fmtG_ge (Nat.le_refl _)
  have ha : anchorN firstAnchor = 4294967296 := by
    have : anchorOf firstAnchor = some (4294967296, []) := anchorOf_layB 1 4294967296 (by decide) (by decide) (by decide)
    unfold anchorN; rw [this]
  obtain ⟨D', e2, h3⟩ := hO.anchorM 1 2 0 (by omega) (by rw [g1, g2, anchorN_zeros, ha]; decide)
  have ed : newD s l n = D' := by unfold newD; rw [e2]
  have hw : D'.writes ≤ 10000 := by
    have hst := (hO.wf.anchorM 1 2 0).writes
    rw [e2] at hst
    have hs := okRun_steps_fmt (Is.new s (by omega) h2).took.wf s l n
    have hw := hs.writes
    have hn : (DM.new s).took.n = s := (Is.new s (by omega) h2).took.n
    rw [hn] at hw
    have h0 : (DM.new s).took.writes = 0 := rfl
    rw [h0] at hw
    have h4 : (openD (fmtD s l n) l).writes = (fmtD s l n).writes := by
      unfold openD
      rw [flushed_writes, readedN_writes]; rfl
    rw [h4] at hst
    have h5 : (fmtD s l n).writes = (okRun (fmtSteps s l n) (DM.new s).took).2.writes := rfl
    rw [← h5] at hw
    replace hst : D'.writes ≤ (fmtD s l n).writes + 1 := hst
    omega
  rw [ed]
  have hlf : (fmtD s l n).life = life := hI.lf
  refine ⟨_, by rw [hlf]; exact h3, ?_, hw⟩
  have hno := anchorN_renew (fmtG s l n 1) (fmtG s l n (1 + 1)) (2 * 4294967296 + 0) (by decide) (by decide)
  have hr := renewTo_le (fmtG s l n 1) (fmtG s l n (1 + 1))
  have a1 : anchorN (fmtG s l n 1) ≤ 2 * 4294967296 + 0 := by rw [g1, ha]; decide
  have a2 : anchorN (fmtG s l n (1 + 1)) ≤ 2 * 4294967296 + 0 := by
    show anchorN (fmtG s l n 2) ≤ _
    rw [g2, anchorN_zeros]; decide
  show max (anchorN (if 1 = 1 + renewTo (fmtG s l n 1) (fmtG s l n (1 + 1)) then renewS (fmtG s l n 1) (fmtG s l n (1 + 1)) (2 * 4294967296 + 0) else fmtG s l n 1)) (anchorN (if 1 + 1 = 1 + renewTo (fmtG s l n 1) (fmtG s l n (1 + 1)) then renewS (fmtG s l n 1) (fmtG s l n (1 + 1)) (2 * 4294967296 + 0) else fmtG s l n (1 + 1))) ≤ 2 * 4294967296 + 0
  by_cases hz : renewTo (fmtG s l n 1) (fmtG s l n (1 + 1)) = 0
  · rw [if_pos (by rw [hz]), if_neg (by omega), hno]
    exact Nat.max_le.2 ⟨Nat.le_refl _, a2⟩
  · rw [if_neg (by omega), if_pos (by omega), hno]
    exact Nat.max_le.2 ⟨a1, Nat.le_refl _⟩
end Go.Vk
