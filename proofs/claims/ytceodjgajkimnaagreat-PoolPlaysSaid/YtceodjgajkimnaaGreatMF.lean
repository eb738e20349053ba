/- Rows of records; the ring's model. The walk of ring of package wal. The walk of top of package wal. The walks of row and, where the log is empty, of scan of package wal. The walk of Open of package wal, where all is well. -/
import Derived.Test.YtceodjgajkimnaaGreatME
import Derived.RangeFuncNested
import Derived.RangeFuncLeaves
import Derived.RangeFuncBound
import Derived.WalkMore
set_option linter.unusedVariables false

namespace Go.Vk
open Go.RowKit Go.Proofs

/-- n records, one behind the other. -/
def recs (n : Nat) (f : Nat → List Value) : List Value := (List.range n).flatMap f
theorem recs_succ (n : Nat) (f : Nat → List Value) : recs (n + 1) f = recs n f ++ f n := by simp [recs, List.range_succ]
theorem recs_congr {n : Nat} {f g : Nat → List Value} (h : ∀ k, k < n → f k = g k) : recs n f = recs n g := by
  unfold recs
  rw [List.flatMap_def, List.flatMap_def, List.map_congr_left (fun k hk => h k (List.mem_range.1 hk))]
theorem length_recs {n m : Nat} {f : Nat → List Value} (h : ∀ k, k < n → (f k).length = m) : (recs n f).length = m * n := by
  induction n with
  | zero => rfl
  | succ n ih => rw [recs_succ, List.length_append, ih (fun k hk => h k (by omega)), h n (by omega), Nat.mul_succ]
theorem recs_split {n m : Nat} (f : Nat → List Value) : recs (n + 1 + m) f = recs n f ++ (f n ++ recs m (fun k => f (n + 1 + k))) := by
  induction m with
  | zero => rw [Nat.add_zero, recs_succ]; simp [recs]
  | succ m ih => rw [← Nat.add_assoc, recs_succ, ih, recs_succ]; simp
theorem layV_recs {n m : Nat} {f : Nat → List Value} (h : ∀ k, k < n → (f k).length = m) {k : Nat} (hk : k < n) {vs : List Value} (hv : vs.length = m) :
    layV (recs n f) (m * k) vs = recs n (fun j => if j = k then vs else f j) := by
  obtain ⟨r, rfl⟩ : ∃ r, n = k + 1 + r := ⟨n - (k + 1), by omega⟩
  rw [recs_split, recs_split]
  have hl : (recs k f).length = m * k := length_recs (fun j hj => h j (by omega))
  have e1 : recs k (fun j => if j = k then vs else f j) = recs k f := recs_congr (fun j hj => if_neg (by omega))
  have e2 : recs r (fun j => if k + 1 + j = k then vs else f (k + 1 + j)) = recs r (fun j => f (k + 1 + j)) := recs_congr (fun j hj => if_neg (by omega))
  rw [e1, e2, if_pos rfl]
  unfold layV
  rw [List.take_left' hl, hv]
  congr 1
  congr 1
  rw [← List.drop_drop, List.drop_left' hl, List.drop_left' (h k (by omega))]
theorem recs_get {n m : Nat} {f : Nat → List Value} (h : ∀ k, k < n → (f k).length = m) {k : Nat} (hk : k < n) {j : Nat} (hj : j < m) : (recs n f)[m * k + j]? = (f k)[j]? := by
  obtain ⟨r, rfl⟩ : ∃ r, n = k + 1 + r := ⟨n - (k + 1), by omega⟩
  rw [recs_split]
  have hl : (recs k f).length = m * k := length_recs (fun j hj => h j (by omega))
  rw [List.getElem?_append_right (by omega), hl, Nat.add_sub_cancel_left, List.getElem?_append_left (by rw [h k (by omega)]; exact hj)]

/-- What a sealed sector's body says, if it is a piece. -/
def pieceBody (s : List UInt8) : Option (List UInt8) := match openS s with
  | none => none
  | some b => if b.length < 12 then none else some b
structure Piece where
  epoch : Nat
  position : Nat
  index : Nat
  count : Nat
  data : List UInt8
def Piece.none : Piece := ⟨0, 0, 0, 0, []⟩
def pieceOf (s : List UInt8) : Piece := match pieceBody s with
  | .none => Piece.none
  | some b => ⟨leVal (b.take 4), leVal ((b.drop 4).take 4), leVal ((b.drop 8).take 2), leVal ((b.drop 10).take 2), b.drop 12⟩
def pieceD (s : List UInt8) (b : Nat) : Value := match pieceBody s with
  | .none => .slice none 0 0
  | some body => .slice (some ⟨b, if body.length = 12 then 7 else 19, none⟩) (body.length - 12) (body.length - 12)
/-- A piece as the cells of a record. -/
def pieceV (s : List UInt8) (b : Nat) : List Value := [.int .i64 (pieceOf s).epoch, .int .i64 (pieceOf s).position, .int .i64 (pieceOf s).index, .int .i64 (pieceOf s).count, pieceD s b]
def zeroPiece : List Value := [.int .i64 0, .int .i64 0, .int .i64 0, .int .i64 0, .slice none 0 0]
theorem pieceV_none {s : List UInt8} (h : pieceBody s = none) (b : Nat) : pieceV s b = zeroPiece := by
  unfold pieceV pieceD pieceOf
  rw [h]; rfl
theorem length_pieceV (s : List UInt8) (b : Nat) : (pieceV s b).length = 5 := rfl
def ringK (f : Nat → List UInt8) (bs : Nat → Nat) (k : Nat) (j : Nat) : List Value := if j < k then pieceV (f j) (bs j) else zeroPiece
theorem length_ringK (f : Nat → List UInt8) (bs : Nat → Nat) (k j : Nat) : (ringK f bs k j).length = 5 := by unfold ringK; split <;> rfl
def ringO (f : Nat → List UInt8) (bs : Nat → Nat) (n k : Nat) : Obj := .cells (recs n (ringK f bs k)).toArray 176 (0, 0)
theorem ringK_step (f : Nat → List UInt8) (bs : Nat → Nat) (n k b : Nat) (hk : k < n) :
    recs n (fun j => if j = k then pieceV (f k) b else ringK f bs k j) = recs n (ringK f (fun j => if j = k then b else bs j) (k + 1)) := by
  refine recs_congr fun j hj => ?_
  unfold ringK
  dsimp only
  by_cases h1 : j = k
  · subst h1; simp
  · rw [if_neg h1]
    by_cases h2 : j < k
    · rw [if_pos h2, if_pos (by omega), if_neg h1]
    · rw [if_neg h2, if_neg (by omega)]
def DM.readedN (D : DM) : Nat → DM
  | 0 => D
  | k + 1 => (DM.readedN D k).readed
theorem readedN_now (D : DM) (k j : Nat) : (D.readedN k).now j = D.now j := by
  induction k with
  | zero => rfl
  | succ k ih => exact ih
theorem readedN_n (D : DM) (k : Nat) : (D.readedN k).n = D.n := by
  induction k with
  | zero => rfl
  | succ k ih => exact ih
theorem readedN_burnt (D : DM) (k : Nat) : (D.readedN k).burnt = D.burnt := by
  induction k with
  | zero => rfl
  | succ k ih => exact ih
theorem readedN_writes (D : DM) (k : Nat) : (D.readedN k).writes = D.writes := by
  induction k with
  | zero => rfl
  | succ k ih => exact ih
theorem readedN_life (D : DM) (k : Nat) : (D.readedN k).life = D.life := by
  induction k with
  | zero => rfl
  | succ k ih => exact ih
end Go.Vk

namespace Go.Vk
open Go.RowKit Go.Proofs

theorem und183 : Tryz.prog.underlying 228 = some (.slice 176) := by kernel_rfl
theorem info204 : (Tryz.prog.info? 176).map (fun i => (i.zero, i.size, i.bytes)) = some (some (.agg zeroPiece.toArray), 5, 56) := by kernel_rfl
theorem run_makeRecs {P : Program} {t e : TypeId} {i : TypeInfo} {z : List Value} {b : Nat} (ht : P.underlying t = some (.slice e)) (hi : P.info? e = some i) (hz : i.zero = some (.agg z.toArray)) (hs : i.size = z.length) (hb : i.bytes = b)
    (n : Nat) (hn : n * b ≤ 140737488355328) (hn2 : n ≤ 1048576) (w : World) :
    (Instr.makeSlice t (.int .i64 n) (.int .i64 n)).run P w = .ok (.slice (some ⟨w.heap.size, 0, none⟩) n n) (w.alloc (.cells (recs n (fun _ => z)).toArray e (0, 0))) := by
  have h := run_make (P := P) w t e i _ ht hi hz .i64 .i64 n n (by omega) (by omega) (by
    rw [hb]
    have e : ((n * b : Nat) : Int) = (b : Int) * (n : Int) := by rw [Nat.mul_comm]; exact Int.natCast_mul b n
    omega) (by omega)
  rw [h]
  have hl := length_recs (n := n) (f := fun _ => z) (m := z.length) (fun _ _ => rfl)
  have e1 : madeCells (Value.agg z.toArray).cells ((n : Int).toNat * i.size) = (recs n (fun _ => z)).toArray := by
    rw [hs, Int.toNat_natCast]
    apply Array.ext'
    apply List.ext_getElem
    · rw [hl]; simp [madeCells, Nat.mul_comm]
    · intro j h1 h2
      rw [hl] at h2
      have hz0 : 0 < z.length := Nat.pos_of_ne_zero (fun e => by rw [e] at h2; omega)
      have hq : j / z.length < n := Nat.div_lt_of_lt_mul h2
      have hr : j % z.length < z.length := Nat.mod_lt _ hz0
      have hg := recs_get (n := n) (f := fun _ => z) (m := z.length) (fun _ _ => rfl) hq hr
      rw [Nat.div_add_mod] at hg
      have hg2 : (recs n (fun _ => z))[j]? = some (z[j % z.length]'hr) := by rw [hg]; exact List.getElem?_eq_getElem hr
      rw [List.getElem?_eq_some_iff] at hg2
      obtain ⟨_, hg3⟩ := hg2
      rw [hg3]
      simp [madeCells, Value.cells, hr]
  rw [e1]
  simp

theorem mkRing (n : Nat) (hn : n ≤ 1048576) (w : World) : (Instr.makeSlice 228 (.int .i64 n) (.int .i64 n)).run Tryz.prog w = .ok (.slice (some ⟨w.heap.size, 0, none⟩) n n) (w.alloc (.cells (recs n (fun _ => zeroPiece)).toArray 176 (0, 0))) := by
  obtain ⟨i, h1, h2, h3, h4⟩ := info_parts info204
  exact run_makeRecs und183 h1 h2 h3 h4 n (by omega) hn w
theorem openV_none {s : List UInt8} (h : openS s = none) (b : Nat) : openV s b = .tuple #[.slice none 0 0, .int .i64 30] := by unfold openV; rw [h]
theorem openV_some {s body : List UInt8} (h : openS s = some body) (b : Nat) : openV s b = .tuple #[.slice (some ⟨b, if body.length = 0 then 0 else 7, none⟩) body.length body.length, .int .i64 0] := by unfold openV; rw [h]

theorem sub_take (s : List UInt8) {a n N i : Nat} (h : a + n ≤ N) : (((s.drop i).take N).drop a).take n = (s.drop (i + a)).take n := by
  rw [List.drop_take, List.take_take, List.drop_drop, Nat.min_eq_left (by omega)]
theorem pieceV_some {s body : List UInt8} (hs : s.length = 512) (hop : openS s = some body) (hpb : pieceBody s = some body) {M : Nat} (hM : body.length = M + 12) (b : Nat) :
    pieceV s b = [.int .i64 (leVal ((s.drop 7).take 4) : Nat), .int .i64 (leVal ((s.drop 11).take 4) : Nat), .int .i64 (leVal ((s.drop 15).take 2) : Nat), .int .i64 (leVal ((s.drop 17).take 2) : Nat), .slice (some ⟨b, if M = 0 then 7 else 19, none⟩) M M] := by
  obtain ⟨h1, h2⟩ := openS_length hs hop
  unfold pieceV pieceD pieceOf
  rw [hpb]
  dsimp only
  rw [hM, Nat.add_sub_cancel]
  have e0 : body.take 4 = (s.drop 7).take 4 := by
    have := sub_take s (a := 0) (n := 4) (N := body.length) (i := 7) (by omega)
    rwa [← h2] at this
  have e1 : (body.drop 4).take 4 = (s.drop 11).take 4 := by
    have := sub_take s (a := 4) (n := 4) (N := body.length) (i := 7) (by omega)
    rwa [← h2] at this
  have e2 : (body.drop 8).take 2 = (s.drop 15).take 2 := by
    have := sub_take s (a := 8) (n := 2) (N := body.length) (i := 7) (by omega)
    rwa [← h2] at this
  have e3 : (body.drop 10).take 2 = (s.drop 17).take 2 := by
    have := sub_take s (a := 10) (n := 2) (N := body.length) (i := 7) (by omega)
    rwa [← h2] at this
  rw [e0, e1, e2, e3]
  congr 5
  by_cases hm : M = 0
  · subst hm; rfl
  · rw [if_neg hm, if_neg (by omega)]

theorem inb_gen {Q : Exit → Act → World → Prop} {i : Nat} {e : Exit} {a : Act} {w : World} (S : World → Prop) (hS : S w) (h : ∀ w', S w' → Exit.inBlock i Q e a w') : Exit.inBlock i Q e a w := h w hS

/-- The ring as it lies in memory: of each sector what it says. -/
structure RingAt (w : World) (g : Nat) (f : Nat → List UInt8) (bs : Nat → Nat) (n k lo : Nat) : Prop where
  row : Blk w g (ringO f bs n k)
  data : ∀ j, j < k → pieceBody (f j) ≠ none → Blk w (bs j) (bytesT 238 (f j)) ∧ lo ≤ bs j ∧ bs j ≠ g
theorem RingAt.keeps {w w' : World} {g : Nat} {f : Nat → List UInt8} {bs : Nat → Nat} {n k lo : Nat} {G : Nat → Prop} (h : RingAt w g f bs n k lo) (kk : Keeps G w w') (hg : ¬ G g) (hG : ∀ i, lo ≤ i → ¬ G i) : RingAt w' g f bs n k lo :=
  ⟨kk.blk h.row hg, fun j hj hp => ⟨kk.blk (h.data j hj hp).1 (hG _ (h.data j hj hp).2.1), (h.data j hj hp).2⟩⟩
theorem RingAt.skip {w : World} {g : Nat} {f : Nat → List UInt8} {bs : Nat → Nat} {n k lo : Nat} (h : RingAt w g f bs n k lo) (hp : pieceBody (f k) = none) : RingAt w g f bs n (k + 1) lo := by
  refine ⟨?_, fun j hj hq => ?_⟩
  · have e : recs n (ringK f bs (k + 1)) = recs n (ringK f bs k) := recs_congr fun j hj => by
      unfold ringK
      by_cases h1 : j = k
      · subst h1; rw [if_pos (by omega), if_neg (by omega), pieceV_none hp]
      · by_cases h2 : j < k
        · rw [if_pos (by omega), if_pos h2]
        · rw [if_neg (by omega), if_neg h2]
    unfold ringO
    rw [e]
    exact h.row
  · by_cases h1 : j = k
    · subst h1; exact (hq hp).elim
    · exact h.data j (by omega) hq
theorem RingAt.put {w : World} {g : Nat} {f : Nat → List UInt8} {bs : Nat → Nat} {n k lo b : Nat} (h : RingAt w g f bs n k lo) (hk : k < n) (hb : Blk w b (bytesT 238 (f k))) (hlo : lo ≤ b) (hne : b ≠ g) :
    RingAt (w.setCells g (5 * k) (pieceV (f k) b)) g f (fun j => if j = k then b else bs j) n (k + 1) lo ∧ Keeps (· = g) w (w.setCells g (5 * k) (pieceV (f k) b)) := by
  have hs := blk_setCells g 176 (pieceV (f k) b) (5 * k) w (recs n (ringK f bs k)) h.row (by rw [length_recs (m := 5) (fun j _ => length_ringK f bs k j), length_pieceV]; omega)
  rw [layV_recs (fun j _ => length_ringK f bs k j) hk (length_pieceV _ _), ringK_step f bs n k b hk] at hs
  refine ⟨⟨hs.1, fun j hj hq => ?_⟩, hs.2.1⟩
  by_cases h1 : j = k
  · subst h1
    rw [if_pos rfl]
    exact ⟨hs.2.1.blk hb hne, hlo, hne⟩
  · rw [if_neg h1]
    have := h.data j (by omega) hq
    exact ⟨hs.2.1.blk this.1 this.2.2, this.2⟩
theorem RingAt.drew {w : World} {g : Nat} {f : Nat → List UInt8} {bs : Nat → Nat} {n k lo : Nat} (h : RingAt w g f bs n k lo) : RingAt w.drew g f bs n k lo := ⟨h.row, h.data⟩
def RingPost (w : World) (d : Nat) (D : DM) (F : List Nat) (f n : Nat) (e : Ending) (w' : World) : Prop :=
  ∃ g bs, e = .returned (.tuple #[.slice (some ⟨g, 0, none⟩) n n, .int .i64 0]) ∧ w.heap.size ≤ g ∧ RingAt w' g (fun j => D.now (f + 2 + j)) bs n n w.heap.size ∧ DiskRep w' d (D.readedN n) F ∧ Keeps (· ∈ F) w w'

section
variable {w : World} {d l : Nat} {D : DM} {F : List Nat} {L : LM}
set_option maxHeartbeats 2000000 in
set_option maxRecDepth 100000 in
theorem ring_w (hl : Blk w l (logO d L)) (h : DiskRep w d D F) (hlF : l ∉ F) (hb : D.burnt = false) (hn1 : 1 ≤ L.n) (hn2 : L.n ≤ 256) (hf : L.first + 2 + L.n ≤ D.n) (hn : D.n ≤ 2048) :
    Calls Tryz.prog 185 #[.pointer (some ⟨l, 0, none⟩)] w (RingPost w d D F L.first L.n) := by
  have c2 := hl.cell 2
  simp at c2
  have hlt := h.lt
  have hll := hl.lt
  have hmk := mkRing L.n (by omega)
  have hP : ∀ g bs W, w.heap.size ≤ g → RingAt W g (fun j => D.now (L.first + 2 + j)) bs L.n L.n w.heap.size → DiskRep W d (D.readedN L.n) F → Keeps (· ∈ F) w W →
      RingPost w d D F L.first L.n (.returned (.tuple #[.slice (some ⟨g, 0, none⟩) L.n L.n, .int .i64 0])) W := fun g bs W x1 x2 x3 x4 => ⟨g, bs, rfl, x1, x2, x3, x4⟩
  generalize RingPost w d D F L.first L.n = Post at hP ⊢
  have hz : ringO (fun j => D.now (L.first + 2 + j)) (fun _ => 0) L.n 0 = .cells (recs L.n (fun _ => zeroPiece)).toArray 176 (0, 0) := rfl
  have h1 : RingAt (w.alloc (.cells (recs L.n (fun _ => zeroPiece)).toArray 176 (0, 0))) w.heap.size (fun j => D.now (L.first + 2 + j)) (fun _ => 0) L.n 0 w.heap.size :=
    ⟨Blk.new w _, fun j hj => by omega⟩
  have hsl : ∀ j, j < L.n → (D.now (L.first + 2 + j)).length = 512 := fun j hj => h.now_length _ (by omega)
  have h2 : DiskRep (w.alloc (.cells (recs L.n (fun _ => zeroPiece)).toArray 176 (0, 0))) d (D.readedN 0) F := h.keeps ((Keeps.refl (fun _ => False) w).alloc _) (fun _ _ f => f)
  have h3 := hl.alloc (.cells (recs L.n (fun _ => zeroPiece)).toArray 176 (0, 0))
  have h4 := (Keeps.refl (· ∈ F) w).alloc (.cells (recs L.n (fun _ => zeroPiece)).toArray 176 (0, 0))
  have h5 := And.intro h1 (And.intro h2 (And.intro h3 h4))
  clear h1 h2 h3 h4 hz
  have hgl : l ≠ w.heap.size := by omega
  have hgF : w.heap.size ∉ F := fun hm => by have := hlt _ hm; omega
  replace hl := hid hl; replace h := hid h; replace hlt := hid hlt; replace hll := hid hll; replace hP := hid hP; replace h5 := hid h5; replace hb := hid hb; replace hgl := hid hgl; replace hgF := hid hgF; replace hsl := hid hsl
  go_enter Tryz.func185, Tryz.ntmps185
  go_upto_region 2 with fail
  refine wp_gen (fun W => RingAt W w.heap.size (fun j => D.now (L.first + 2 + j)) (fun _ => 0) L.n 0 w.heap.size ∧ DiskRep W d (D.readedN 0) F ∧ Blk W l (logO d L) ∧ Keeps (· ∈ F) w W) h5.out ?_
  clear h5 hmk c2
  rintro w2 ⟨hR, hD, hl2, hk⟩
  have hge : w.heap.size ≤ w.heap.size := Nat.le_refl _
  generalize hgg : w.heap.size = g at hR hgl hgF hge ⊢
  replace hR := hid hR; replace hD := hid hD; replace hl2 := hid hl2; replace hk := hid hk; replace hgg := hid hgg; replace hge := hid hge
  go_wp2
  go_loopw [5, 17] (fun _ i wr => ∃ (k : Nat) (bs : Nat → Nat), k ≤ L.n ∧ i = .int .i64 k ∧ RingAt wr g (fun j => D.now (L.first + 2 + j)) bs L.n k g ∧ DiskRep wr d (D.readedN k) F ∧ Blk wr l (logO d L) ∧ Keeps (· ∈ F) w wr) (fun _ i _ => L.n - (intOf i).toNat)
  case atStart => exact ⟨0, _, by omega, rfl, hR.out, hD.out, hl2.out, hk.out⟩
  case round =>
    obtain ⟨k, bs, hk1, rfl, hR7, hD7, hl7, hk7⟩ := hrel
    clear hR hD hl2 hk
    by_cases hlt2 : k < L.n
    · have c0 := hl7.cell 0
      simp at c0
      have c0d : wr.drew.cell? ⟨l, 0, none⟩ = some (.pointer (some ⟨d, 0, none⟩)) := c0
      have hAt := at_w hl7.drew k hn1 (by omega) (by omega)
      rw [Nat.mod_eq_of_lt hlt2] at hAt
      have hRd := fun m => read_ok (hD7.drewN m) ((readedN_burnt D k).trans hb.out) ((L.first : Int) + 2 + (k : Int)) (by omega) (by rw [readedN_n]; omega)
      rw [show ((L.first : Int) + 2 + (k : Int)).toNat = L.first + 2 + k by omega, readedN_now] at hRd
      have hldN : ∀ m, Blk (wr.drewN m) l (logO d L) := fun m => hl7
      replace hR7 := hid hR7; replace hD7 := hid hD7; replace hl7 := hid hl7; replace hk7 := hid hk7; replace hAt := hid hAt; replace hRd := hid hRd; replace hldN := hid hldN
      go_upto_region 5 with fail
      go_region_held3 (fun W => W.cell? ⟨l, 0, none⟩ = some (.pointer (some ⟨d, 0, none⟩))) (first | with_reducible exact c0d | with_reducible exact q0 | with_reducible exact q1 | with_reducible exact r0) (first
        | (go_at_call 159; refine hAt.out.mono ?_; rintro e w8 ⟨rfl, m, rfl⟩; have q0 : (wr.drew.drewN m).cell? ⟨l, 0, none⟩ = some (.pointer (some ⟨d, 0, none⟩)) := c0d; have q1 : (wr.drewN (1 + m)).cell? ⟨l, 0, none⟩ = some (.pointer (some ⟨d, 0, none⟩)) := c0d)
        | (go_at_call 142; refine (hRd.out _).mono ?_; rintro e w9 ⟨b9, rfl, hb9, hB9, hD9, k9⟩; have hl9 := k9.blk (hldN.out _) hlF; have r0 := hl9.cell 0; simp at r0; replace hD9 := hid hD9; replace k9 := hid k9; replace hB9 := hid hB9; replace hl9 := hid hl9; replace hb9 := hid hb9))
      all_goals
        have hkw9 : Keeps (· ∈ F) wr w9 := ((Keeps.refl (· ∈ F) wr).drewN (1 + m)).step k9.out
        have hgn : ∀ i, g ≤ i → i ∉ F := fun i hi hm => by have := hlt.out i hm; have := hgg.out; omega
        have hR9 := hR7.out.keeps hkw9 hgF.out hgn
        have hk9 := hk7.out.step hkw9
        have hlg := hR7.out.row.lt
        have hb9g : g < b9 := Nat.lt_of_lt_of_le hlg hb9.out
        have hs9 := hsl.out k hlt2
        have hOp := open_w w9 b9 512 5 (D.now (L.first + 2 + k)) hB9.out hs9
        have hD9' : DiskRep w9 d (D.readedN (k + 1)) F := hD9.out
        have hk9s := hkw9.size
        clear hD7 hk7 hR7 hkw9 hD9 k9 hl7 hRd hAt hldN q0 q1 r0 c0 c0d
        replace hR9 := hid hR9; replace hk9 := hid hk9; replace hOp := hid hOp; replace hD9' := hid hD9'; replace hs9 := hid hs9; replace hgn := hid hgn; replace hlg := hid hlg
        cases hop : openS (D.now (L.first + 2 + k)) with
        | none =>
          have hpb : pieceBody (D.now (L.first + 2 + k)) = none := by unfold pieceBody; rw [hop]
          simp only [openV_none hop] at hOp
          replace hop := hid hop; replace hpb := hid hpb; replace hOp := hid hOp
          go_wp2_with (go_at_call 208; refine hOp.out.mono ?_; rintro e w10 ⟨b10, hb10, hB10, k10, rfl⟩; replace hb10 := hid hb10; replace hB10 := hid hB10; replace k10 := hid k10)
          have hR10 := (hR9.out.keeps k10.out (fun f => f) (fun _ _ f => f)).skip hpb.out
          have hk10 := hk9.out.trans k10.out (fun _ _ f => f.elim)
          exact ⟨⟨k + 1, bs, by omega, by go_num, hR10, hD9'.out.keeps k10.out (fun _ _ f => f), hk10.blk hl.out hlF, hk10⟩, by simp [intOf]; omega⟩
        | some body =>
          by_cases h12 : body.length < 12
          · have hpb : pieceBody (D.now (L.first + 2 + k)) = none := by unfold pieceBody; rw [hop]; dsimp only; rw [if_pos h12]
            simp only [openV_some hop] at hOp
            have h12' : ¬ (12 : Int) ≤ (body.length : Int) := by omega
            generalize (if body.length = 0 then 0 else 7) = off0 at hOp
            replace hop := hid hop; replace hpb := hid hpb; replace hOp := hid hOp; replace h12 := hid h12
            go_wp2_with (go_at_call 208; refine hOp.out.mono ?_; rintro e w10 ⟨b10, hb10, hB10, k10, rfl⟩; replace hb10 := hid hb10; replace hB10 := hid hB10; replace k10 := hid k10)
            have hR10 := (hR9.out.keeps k10.out (fun f => f) (fun _ _ f => f)).skip hpb.out
            have hk10 := hk9.out.trans k10.out (fun _ _ f => f.elim)
            exact ⟨⟨k + 1, bs, by omega, by go_num, hR10, hD9'.out.keeps k10.out (fun _ _ f => f), hk10.blk hl.out hlF, hk10⟩, by simp [intOf]; omega⟩
          · have hpb : pieceBody (D.now (L.first + 2 + k)) = some body := by unfold pieceBody; rw [hop]; dsimp only; rw [if_neg h12]
            simp only [openV_some hop] at hOp
            rw [if_neg (show ¬ body.length = 0 by omega)] at hOp
            have h12' : (12 : Int) ≤ (body.length : Int) := by omega
            replace hop := hid hop; replace hpb := hid hpb; replace hOp := hid hOp; replace h12 := hid h12
            go_upto_region 10 with (go_at_call 208; refine hOp.out.mono ?_; rintro e w10 ⟨b10, hb10, hB10, k10, rfl⟩; replace hb10 := hid hb10; replace hB10 := hid hB10; replace k10 := hid k10)
            obtain ⟨M, hM⟩ : ∃ M, body.length = M + 12 := ⟨body.length - 12, by have := h12.out; omega⟩
            have hM504 : M + 12 ≤ 504 := by rw [← hM]; exact (openS_length hs9.out hop.out).1
            have hpv := pieceV_some hs9.out hop.out hpb.out hM b10
            have hR10 := hR9.out.keeps k10.out (fun f => f) (fun _ _ f => f)
            have hgb : g < b10 := by have := hb10.out; have := hlg.out; omega
            have hpt := hR10.put hlt2 hB10.out (by omega) (show b10 ≠ g by omega)
            have hk10 := hk9.out.trans k10.out (fun _ _ f => f.elim)
            have hD10 := hD9'.out.keeps k10.out (fun _ _ f => f)
            rw [hpv] at hpt
            generalize hs' : D.now (L.first + 2 + k) = s at *
            have hB : Blk w10.drew b10 (bytesT 238 s) := hB10.out.drew
            have hN1 : Calls Tryz.prog 209 #[.slice (some ⟨b10, 7, none⟩) body.length body.length, .int .i64 4] w10.drew _ := wal_number_w w10.drew b10 7 body.length body.length _ s hB 4 (by omega) (by omega) (by have := hs9.out; omega) (by omega)
            have hN2 : Calls Tryz.prog 209 #[.slice (some ⟨b10, 11, none⟩) (body.length - 4) (body.length - 4), .int .i64 4] w10.drew _ := wal_number_w w10.drew b10 11 (body.length - 4) (body.length - 4) _ s hB 4 (by omega) (by omega) (by have := hs9.out; omega) (by omega)
            have hN3 : Calls Tryz.prog 209 #[.slice (some ⟨b10, 15, none⟩) (body.length - 8) (body.length - 8), .int .i64 2] w10.drew _ := wal_number_w w10.drew b10 15 (body.length - 8) (body.length - 8) _ s hB 2 (by omega) (by omega) (by have := hs9.out; omega) (by omega)
            have hN4 : Calls Tryz.prog 209 #[.slice (some ⟨b10, 17, none⟩) (body.length - 10) (body.length - 10), .int .i64 2] w10.drew _ := wal_number_w w10.drew b10 17 (body.length - 10) (body.length - 10) _ s hB 2 (by omega) (by omega) (by have := hs9.out; omega) (by omega)
            generalize leVal ((s.drop 7).take 4) = v1 at hpt hN1
            generalize leVal ((s.drop 11).take 4) = v2 at hpt hN2
            generalize leVal ((s.drop 15).take 2) = v3 at hpt hN3
            generalize leVal ((s.drop 17).take 2) = v4 at hpt hN4
            clear hpv hB hk9 hD9' hR9 hOp hs9
            generalize body.length = N at *
            have hN4' : (4 : Int) ≤ (N : Int) := by omega
            have hN8' : (8 : Int) ≤ (N : Int) := by omega
            have hN10' : (10 : Int) ≤ (N : Int) := by omega
            have hne4 : ¬ N ≤ 4 := by omega
            have hne8 : ¬ N ≤ 8 := by omega
            have hne10 : ¬ N ≤ 10 := by omega
            have hMN : M = N - 12 := by omega
            subst hMN
            have hcs : ∀ i, i < 5 → ∃ v, w10.cell? ⟨g, k * 5 + i, none⟩ = some v := fun i hi => by
              have hc := hR10.row.cell (5 * k + i)
              have hl5 := length_recs (n := L.n) (f := ringK (fun j => D.now (L.first + 2 + j)) bs k) (m := 5) (fun j _ => length_ringK _ bs k j)
              rw [List.getElem?_toArray, List.getElem?_eq_getElem (by rw [hl5]; omega)] at hc
              rw [Nat.mul_comm k 5]
              exact ⟨_, hc⟩
            obtain ⟨y0, hy0⟩ := hcs 0 (by decide)
            obtain ⟨y1, hy1⟩ := hcs 1 (by decide)
            obtain ⟨y2, hy2⟩ := hcs 2 (by decide)
            obtain ⟨y3, hy3⟩ := hcs 3 (by decide)
            obtain ⟨y4, hy4⟩ := hcs 4 (by decide)
            rw [Nat.add_zero] at hy0
            have hyf : ∀ i, w10.frozen? ⟨g, i, none⟩ = false := hR10.row.frz
            clear hcs
            have hki : (k : Int) < (L.n : Int) := by omega
            rw [Nat.mul_comm 5 k] at hpt
            have hR11 := hpt.1.drew
            have hk11 := hk10.fresh hpt.2.drew (fun i hi => by rw [hi, hgg.out]; exact Nat.le_refl _)
            have hD11 := hD10.keeps hpt.2.drew (fun i hi hg => hgF.out (hg ▸ hi))
            have hF5 := And.intro hR11 (And.intro hD11 hk11)
            clear hR11 hk11 hD11 hpt
            by_cases hM0 : N ≤ 12
            · obtain rfl : N = 12 := by omega
              replace hF5 := hid hF5; replace hM := hid hM; replace hk10 := hid hk10; replace hD10 := hid hD10; replace hR10 := hid hR10; replace hN1 := hid hN1; replace hN2 := hid hN2; replace hN3 := hid hN3; replace hN4 := hid hN4; replace hM504 := hid hM504; replace hs' := hid hs'
              go_region_held3 (fun _ => True) (trivial) (first
                | (go_at_call_of 209 (Addr.mk b10 7 none); refine hN1.out.mono ?_; rintro e w' ⟨rfl, rfl⟩)
                | (go_at_call_of 209 (Addr.mk b10 11 none); refine hN2.out.mono ?_; rintro e w' ⟨rfl, rfl⟩)
                | (go_at_call_of 209 (Addr.mk b10 15 none); refine hN3.out.mono ?_; rintro e w' ⟨rfl, rfl⟩)
                | (go_at_call_of 209 (Addr.mk b10 17 none); refine hN4.out.mono ?_; rintro e w' ⟨rfl, rfl⟩))
              all_goals
                refine inb_gen (fun W => RingAt W g (fun j => D.now (L.first + 2 + j)) (fun j => if j = k then b10 else bs j) L.n (k + 1) g ∧ DiskRep W d (D.readedN (k + 1)) F ∧ Keeps (· ∈ F) w W) hF5.out ?_
                rintro W ⟨hRW, hDW, hKW⟩
                replace hRW := hid hRW; replace hDW := hid hDW; replace hKW := hid hKW
                go_wp2
                exact ⟨⟨k + 1, _, by omega, by go_num, hRW.out, hDW.out, hKW.out.blk hl.out hlF, hKW.out⟩, by simp [intOf]; omega⟩
            · have hq1 : ¬ N = 4 := by omega
              have hq2 : ¬ N = 8 := by omega
              have hq3 : ¬ N = 10 := by omega
              have hq4 : ¬ N = 12 := by omega
              rw [if_neg (show ¬ N - 12 = 0 by omega)] at hF5
              replace hF5 := hid hF5; replace hM := hid hM; replace hk10 := hid hk10; replace hD10 := hid hD10; replace hR10 := hid hR10; replace hN1 := hid hN1; replace hN2 := hid hN2; replace hN3 := hid hN3; replace hN4 := hid hN4; replace hM504 := hid hM504; replace hs' := hid hs'
              go_region_held3 (fun _ => True) (trivial) (first
                | (go_at_call_of 209 (Addr.mk b10 7 none); refine hN1.out.mono ?_; rintro e w' ⟨rfl, rfl⟩)
                | (go_at_call_of 209 (Addr.mk b10 11 none); refine hN2.out.mono ?_; rintro e w' ⟨rfl, rfl⟩)
                | (go_at_call_of 209 (Addr.mk b10 15 none); refine hN3.out.mono ?_; rintro e w' ⟨rfl, rfl⟩)
                | (go_at_call_of 209 (Addr.mk b10 17 none); refine hN4.out.mono ?_; rintro e w' ⟨rfl, rfl⟩))
              all_goals
                refine inb_gen (fun W => RingAt W g (fun j => D.now (L.first + 2 + j)) (fun j => if j = k then b10 else bs j) L.n (k + 1) g ∧ DiskRep W d (D.readedN (k + 1)) F ∧ Keeps (· ∈ F) w W) hF5.out ?_
                rintro W ⟨hRW, hDW, hKW⟩
                replace hRW := hid hRW; replace hDW := hid hDW; replace hKW := hid hKW
                go_wp2
                exact ⟨⟨k + 1, _, by omega, by go_num, hRW.out, hDW.out, hKW.out.blk hl.out hlF, hKW.out⟩, by simp [intOf]; omega⟩
    · obtain rfl : k = L.n := by omega
      have hR7' : RingAt wr g (fun j => D.now (L.first + 2 + j)) bs L.n L.n w.heap.size := by rw [hgg.out]; exact hR7
      have hX := hP.out g bs wr (by rw [hgg.out]; exact Nat.le_refl _) hR7' hD7 hk7
      replace hX := hid hX; replace hR7 := hid hR7; replace hR7' := hid hR7'; replace hD7 := hid hD7; replace hl7 := hid hl7; replace hk7 := hid hk7
      go_wp2
      exact hX.out
end
end Go.Vk

namespace Go.Vk
open Go.RowKit Go.Proofs

/-- The greatest epoch that the first k sectors of the ring say, or e. -/
def topK (f : Nat → List UInt8) (e : Nat) : Nat → Nat
  | 0 => e
  | k + 1 => if (pieceOf (f k)).epoch ≤ 1073741824 then max (topK f e k) (pieceOf (f k)).epoch else topK f e k
theorem topK_le (f : Nat → List UInt8) (e : Nat) (he : e ≤ 1073741824) (k : Nat) : topK f e k ≤ 1073741824 := by
  induction k with
  | zero => exact he
  | succ k ih => unfold topK; split <;> omega
theorem le_topK (f : Nat → List UInt8) (e : Nat) (k : Nat) : e ≤ topK f e k := by
  induction k with
  | zero => exact Nat.le_refl _
  | succ k ih => unfold topK; split <;> omega
theorem topK_same (f : Nat → List UInt8) (e : Nat) (k : Nat) (h : ∀ j, j < k → (pieceOf (f j)).epoch ≤ e) : topK f e k = e := by
  induction k with
  | zero => rfl
  | succ k ih =>
    have h1 := h k (by omega)
    have h2 := ih (fun j hj => h j (by omega))
    unfold topK
    rw [h2]
    split <;> omega
theorem RingAt.get {w : World} {g : Nat} {f : Nat → List UInt8} {bs : Nat → Nat} {n lo : Nat} (h : RingAt w g f bs n n lo) {k : Nat} (hk : k < n) {j : Nat} (hj : j < 5) : w.cell? ⟨g, k * 5 + j, none⟩ = (pieceV (f k) (bs k))[j]? := by
  have hc := h.row.cell (5 * k + j)
  rw [List.getElem?_toArray, recs_get (fun j _ => length_ringK f bs n j) hk hj] at hc
  rw [Nat.mul_comm k 5, hc]
  unfold ringK
  rw [if_pos hk]
theorem pieceD_slice (s : List UInt8) (b : Nat) : ∃ a, pieceD s b = .slice a (pieceOf s).data.length (pieceOf s).data.length := by
  unfold pieceD pieceOf
  cases pieceBody s with
  | none => exact ⟨_, rfl⟩
  | some x => exact ⟨some ⟨b, if x.length = 12 then 7 else 19, none⟩, by simp⟩
theorem leVal_take_lt (s : List UInt8) (n : Nat) : leVal (s.take n) < 2 ^ (8 * n) := Nat.lt_of_lt_of_le (leVal_lt _) (Nat.pow_le_pow_right (by decide) (by rw [List.length_take]; omega))
theorem epoch_lt (s : List UInt8) : (pieceOf s).epoch < 4294967296 := by
  unfold pieceOf
  cases pieceBody s with
  | none => decide
  | some x => exact leVal_take_lt x 4

section
variable {w : World}
set_option maxHeartbeats 1000000 in
theorem top_w (g : Nat) (f : Nat → List UInt8) (bs : Nat → Nat) (n lo e : Nat) (h : RingAt w g f bs n n lo) (hlt : ∀ j, j < n → pieceBody (f j) ≠ none → bs j < w.heap.size) (hn : n ≤ 256) (he : e ≤ 1073741824) :
    Calls Tryz.prog 186 #[.int .i64 e, .slice (some ⟨g, 0, none⟩) n n] w fun r w' => r = .returned (.int .i64 (topK f e n : Nat)) ∧ Keeps (fun _ => False) w w' := by
  have hk := Keeps.refl (fun _ => False) w
  have hte := topK_le f e he
  replace h := hid h; replace hlt := hid hlt; replace hk := hid hk; replace hte := hid hte
  go_enter Tryz.func186, Tryz.ntmps186
  go_wp2
  go_loopw [0, 9] (fun m i wr => ∃ k : Nat, k ≤ n ∧ i = .int .i64 k ∧ m = .int .i64 (topK f e k : Nat) ∧ Keeps (fun _ => False) w wr) (fun _ i _ => n - (intOf i).toNat)
  case atStart => exact ⟨0, by omega, rfl, rfl, hk.out⟩
  case round =>
    obtain ⟨k, hk1, rfl, rfl, hk7⟩ := hrel
    clear hk
    by_cases hlt2 : k < n
    · have hR7 := h.out.keeps hk7 (fun f => f) (fun _ _ f => f)
      have y0 := hR7.get hlt2 (j := 0) (by decide)
      have y1 := hR7.get hlt2 (j := 1) (by decide)
      have y2 := hR7.get hlt2 (j := 2) (by decide)
      have y3 := hR7.get hlt2 (j := 3) (by decide)
      have y4 := hR7.get hlt2 (j := 4) (by decide)
      obtain ⟨a, ha⟩ := pieceD_slice (f k) (bs k)
      unfold pieceV at y0 y1 y2 y3 y4
      rw [ha] at y4
      simp only [List.getElem?_cons_zero, List.getElem?_cons_succ, Nat.add_zero] at y0 y1 y2 y3 y4
      have hT : topK f e (k + 1) = if (pieceOf (f k)).epoch ≤ 1073741824 then max (topK f e k) (pieceOf (f k)).epoch else topK f e k := rfl
      have hE := epoch_lt (f k)
      have hb1 := hte.out k
      generalize (pieceOf (f k)).epoch = p0 at y0 hT hE
      generalize (pieceOf (f k)).position = p1 at y1
      generalize (pieceOf (f k)).index = p2 at y2
      generalize (pieceOf (f k)).count = p3 at y3
      generalize (pieceOf (f k)).data.length = p4 at y4
      generalize htk : topK f e k = t at hT hb1 ⊢
      generalize htk1 : topK f e (k + 1) = t1 at hT
      have hki : (k : Int) < (n : Int) := by omega
      have hal := hk7.alloc (.cells #[.int .i64 p0, .int .i64 p1, .int .i64 p2, .int .i64 p3, .slice a p4 p4] 176 (0, 0))
      clear ha
      by_cases hp : p0 ≤ 1073741824
      · rw [if_pos hp] at hT
        have hp' : (p0 : Int) ≤ 1073741824 := by omega
        replace hR7 := hid hR7; replace hk7 := hid hk7; replace hT := hid hT; replace hE := hid hE; replace hb1 := hid hb1; replace htk := hid htk; replace htk1 := hid htk1; replace hal := hid hal; replace hp := hid hp
        go_wp2
        exact ⟨⟨k + 1, by omega, by go_num, by rw [htk1.out, hT.out]; congr 1; split <;> omega, hal.out⟩, by simp [intOf]; omega⟩
      · rw [if_neg hp] at hT
        have hp' : ¬ (p0 : Int) ≤ 1073741824 := by omega
        replace hR7 := hid hR7; replace hk7 := hid hk7; replace hT := hid hT; replace hE := hid hE; replace hb1 := hid hb1; replace htk := hid htk; replace htk1 := hid htk1; replace hal := hid hal; replace hp := hid hp
        go_wp2
        exact ⟨⟨k + 1, by omega, by go_num, by rw [htk1.out, hT.out], hal.out⟩, by simp [intOf]; omega⟩
    · obtain rfl : k = n := by omega
      replace hk7 := hid hk7
      go_wp2
      go_ret
      exact ⟨rfl, hk7.out⟩
end
end Go.Vk

namespace Go.Vk
open Go.RowKit Go.Proofs

section
variable {w : World} {d l : Nat} {D : DM} {F : List Nat} {L : LM}

theorem row_w (w : World) (l g n : Nat) : Calls Tryz.prog 210 #[.pointer (some ⟨l, 0, none⟩), .slice (some ⟨g, 0, none⟩) n n] w fun e w' =>
    e = .returned (.func (.func 219) #[] #[.pointer (some ⟨w.heap.size, 0, none⟩), .pointer (some ⟨w.heap.size + 1, 0, none⟩)]) ∧
      w' = (w.alloc (.cells #[.pointer (some ⟨l, 0, none⟩)] 122 (0, 0))).alloc (.cells #[.slice (some ⟨g, 0, none⟩) n n] 228 (0, 0)) := by
  have hmf : ∀ (fn : Fn) (first cap : Array Value) (w : World), (Instr.makeFunc fn first cap).run Tryz.prog w = .ok (.func fn first cap) w := fun _ _ _ _ => rfl
  go_enter Tryz.func210, Tryz.ntmps210
  go_wp2
  go_ret
  exact ⟨rfl, rfl⟩

/-- No row begins at the tail. -/
def RowStops (L : LM) (f : Nat → List UInt8) : Prop := (pieceOf (f (L.tail % L.n))).epoch ≠ L.epoch ∨ (pieceOf (f (L.tail % L.n))).position ≠ L.tail ∨ (pieceOf (f (L.tail % L.n))).data.length = 0

theorem row1_stop (y : Value) (b1 b2 g lo : Nat) (f : Nat → List UInt8) (bs : Nat → Nat) (h1 : Blk w b1 (.cells #[.pointer (some ⟨l, 0, none⟩)] 122 (0, 0))) (h2 : Blk w b2 (.cells #[.slice (some ⟨g, 0, none⟩) L.n L.n] 228 (0, 0)))
    (hl : Blk w l (logO d L)) (hR : RingAt w g f bs L.n L.n lo) (hn1 : 1 ≤ L.n) (hn2 : L.n ≤ 256) (ht : L.tail ≤ 1073741824) (hs : RowStops L f) :
    Calls Tryz.prog 219 #[y, .pointer (some ⟨b1, 0, none⟩), .pointer (some ⟨b2, 0, none⟩)] w fun e w' => e = .returned (.tuple #[]) ∧ Keeps (fun _ => False) w w' := by
  have q1 := h1.cell 0
  have q2 := h2.cell 0
  have c2 := hl.cell 2
  have c4 := hl.cell 4
  have c6 := hl.cell 6
  simp at q1 q2 c2 c4 c6
  have hk : L.tail % L.n < L.n := Nat.mod_lt _ (by omega)
  have y0 := hR.get hk (j := 0) (by decide)
  have y1 := hR.get hk (j := 1) (by decide)
  have y2 := hR.get hk (j := 2) (by decide)
  have y3 := hR.get hk (j := 3) (by decide)
  have y4 := hR.get hk (j := 4) (by decide)
  obtain ⟨a, ha⟩ := pieceD_slice (f (L.tail % L.n)) (bs (L.tail % L.n))
  unfold RowStops at hs
  unfold pieceV at y0 y1 y2 y3 y4
  rw [ha] at y4
  simp only [List.getElem?_cons_zero, List.getElem?_cons_succ, Nat.add_zero] at y0 y1 y2 y3 y4
  clear ha
  generalize (pieceOf (f (L.tail % L.n))).epoch = p0 at y0 hs
  generalize (pieceOf (f (L.tail % L.n))).position = p1 at y1 hs
  generalize (pieceOf (f (L.tail % L.n))).index = p2 at y2
  generalize (pieceOf (f (L.tail % L.n))).count = p3 at y3
  generalize (pieceOf (f (L.tail % L.n))).data.length = p4 at y4 hs
  have hne : ((L.n : Int) == 0) = false := by simp; omega
  have hn0a : ¬ (L.n : Int) = 0 := by omega
  have hn0b : ¬ L.n = 0 := by omega
  have hm0 : (L.tail : Int) % (L.n : Int) = ((L.tail % L.n : Nat) : Int) := by simp
  have hm0t : (L.tail : Int).tmod (L.n : Int) = ((L.tail % L.n : Nat) : Int) := by rw [Int.tmod_eq_emod_of_nonneg (by omega)]; exact hm0
  generalize L.tail % L.n = m at y0 y1 y2 y3 y4 hk hm0 hm0t
  have hm00 : (0 : Int) ≤ (m : Int) := by omega
  have hmi : (m : Int) < (L.n : Int) := by omega
  have hkk := Keeps.refl (fun _ => False) w
  replace h1 := hid h1; replace h2 := hid h2; replace hl := hid hl; replace hR := hid hR; replace hkk := hid hkk; replace hs := hid hs
  go_enter Tryz.func219, Tryz.ntmps219
  go_wp2
  go_loopw [4] (fun p wr => p = .int .i64 L.tail ∧ wr = w) (fun _ _ => 0)
  case atStart => exact ⟨rfl, rfl⟩
  case round =>
    obtain ⟨rfl, rfl⟩ := hrel
    go_upto_region 2 with fail
    go_region_held3 (fun W => W.cell? ⟨b1, 0, none⟩ = some (.pointer (some ⟨l, 0, none⟩)) ∧ W.cell? ⟨b2, 0, none⟩ = some (.slice (some ⟨g, 0, none⟩) L.n L.n) ∧ W.cell? ⟨l, 2, none⟩ = some (.int .i64 L.n) ∧ W.cell? ⟨g, m * 5, none⟩ = some (.int .i64 p0) ∧ W.cell? ⟨g, m * 5 + 1, none⟩ = some (.int .i64 p1) ∧ W.cell? ⟨g, m * 5 + 2, none⟩ = some (.int .i64 p2) ∧ W.cell? ⟨g, m * 5 + 3, none⟩ = some (.int .i64 p3) ∧ W.cell? ⟨g, m * 5 + 4, none⟩ = some (.slice a p4 p4)) (go_keep) (fail)
    all_goals
      refine exit_gen (fun W => Blk W wr.heap.size (.cells #[.int .i64 p0, .int .i64 p1, .int .i64 p2, .int .i64 p3, .slice a p4 p4] 176 (0, 0)) ∧ Keeps (fun _ => False) wr W) ⟨(Blk.new wr _).drew, (hkk.out.alloc _).drew⟩ ?_
      clear hm0 hm0t
      rintro W ⟨hv, hkW⟩
      have v0 := hv.cell 0
      have v1 := hv.cell 1
      have v2 := hv.cell 2
      have v3 := hv.cell 3
      have v4 := hv.cell 4
      simp at v0 v1 v2 v3 v4
      have r1 := hkW.cell q1
      have r4 := hkW.cell c4
      clear q1 q2 c2 c4 c6 y0 y1 y2 y3 y4
      generalize wr.heap.size = v at v0 v1 v2 v3 v4 hv ⊢
      by_cases hA : p0 = L.epoch
      · subst hA
        by_cases hB : p1 = L.tail
        · subst hB
          have hC : p4 = 0 := by
            rcases hs.out with e | e | e
            · exact (e rfl).elim
            · exact (e rfl).elim
            · exact e
          subst hC
          replace hv := hid hv; replace hkW := hid hkW
          go_upto_region 3 with fail
          go_quiet (fail)
          go_wp2
          exact bodyPost_ret (v := .tuple #[]) (by simp [results, Tryz.results219, go_sem]) rfl ⟨rfl, hkW.out.drewN _⟩
        · have hB' : ((p1 : Int) != (L.tail : Int)) = true := by simp; omega
          replace hv := hid hv; replace hkW := hid hkW; replace hB := hid hB
          go_upto_region 3 with fail
          go_quiet (fail)
          go_wp2
          exact bodyPost_ret (v := .tuple #[]) (by simp [results, Tryz.results219, go_sem]) rfl ⟨rfl, hkW.out.drewN _⟩
      · have hA' : ((p0 : Int) != (L.epoch : Int)) = true := by simp; omega
        replace hv := hid hv; replace hkW := hid hkW; replace hA := hid hA
        go_upto_region 3 with fail
        go_quiet (fail)
        go_wp2
        exact bodyPost_ret (v := .tuple #[]) (by simp [results, Tryz.results219, go_sem]) rfl ⟨rfl, hkW.out.drewN _⟩
end

theorem keeps_grownBy {w w' : World} (k : Keeps (fun _ => False) w w') : w.grownBy w' none :=
  ⟨k.os, k.tape, k.output, k.size, fun i hi _ => k.block i hi (fun f => f)⟩

section
variable {w : World} {d l : Nat} {L : LM}
set_option maxRecDepth 100000 in
set_option maxHeartbeats 2000000 in
theorem scan_empty (hl : Blk w l (logO d L)) (g lo : Nat) (f : Nat → List UInt8) (bs : Nat → Nat) (hR : RingAt w g f bs L.n L.n lo) (hgl : l ≠ g) (hbl : ∀ j, j < L.n → pieceBody (f j) ≠ none → bs j ≠ l) (hn1 : 1 ≤ L.n) (hn2 : L.n ≤ 256) (ht : L.tail ≤ 1073741824) (hs : RowStops L f) :
    Calls Tryz.prog 187 #[.pointer (some ⟨l, 0, none⟩), .slice (some ⟨g, 0, none⟩) L.n L.n] w fun e w' => e = .returned (.slice none 0 0) ∧ Blk w' l (logO d { L with head := L.tail }) ∧ Keeps (· = l) w w' := by
  have hll := hl.lt
  have c6 := hl.cell 6
  have c7 := hl.cell 7
  have cf := hl.frz
  simp at c6 c7
  replace hl := hid hl; replace hR := hid hR; replace hs := hid hs; replace hbl := hid hbl; replace hll := hid hll
  refine (callsIn_wide (n := 3)).1 (callsIn_of_wp_marks Tryz.func187 rfl trivial ?_ rfl)
  simp only [Tryz.ntmps187, List.size_toArray, List.length_cons, List.length_nil, Nat.reduceAdd, Nat.reduceSub, Array.replicate_succ, Array.replicate_zero, List.push_toArray, List.append_toArray, List.nil_append, List.cons_append]
  refine wpIn_wide.2 ?_
  go_upto_region 1 with fail
  apply wp_scope_straight
  go_upto_region 3 with fail
  have hk1 := (((Keeps.refl (fun _ => False) w).alloc (.cells #[.pointer (some ⟨l, 0, none⟩)] 122 (0, 0))).alloc (.cells #[.slice none 0 0] 66 (0, 0))).alloc (.cells #[.slice none 0 0] 57 (0, 0))
  have hx0 := ((Blk.new w (.cells #[.pointer (some ⟨l, 0, none⟩)] 122 (0, 0))).alloc (.cells #[.slice none 0 0] 66 (0, 0))).alloc (.cells #[.slice none 0 0] 57 (0, 0))
  have hx1 := (Blk.new (w.alloc (.cells #[.pointer (some ⟨l, 0, none⟩)] 122 (0, 0))) (.cells #[.slice none 0 0] 66 (0, 0))).alloc (.cells #[.slice none 0 0] 57 (0, 0))
  rw [World.size_alloc] at hx1
  refine wp_gen (fun W => Blk W w.heap.size (.cells #[.pointer (some ⟨l, 0, none⟩)] 122 (0, 0)) ∧ Blk W (w.heap.size + 1) (.cells #[.slice none 0 0] 66 (0, 0)) ∧ Keeps (fun _ => False) w W) ⟨hx0, hx1, hk1⟩ ?_
  clear hx0 hx1 hk1
  rintro w1 ⟨hx0, hx1, hk1⟩
  have hl1 := hk1.blk hl.out (fun f => f)
  have hR1 := hR.out.keeps hk1 (fun f => f) (fun _ _ f => f)
  have hbxl : l < w.heap.size := hll.out
  clear c6 c7 cf
  generalize w.heap.size = bx at hx0 hx1 hbxl ⊢
  have x0 := hx0.cell 0
  have c6 := hl1.cell 6
  have c7 := hl1.cell 7
  have cf := hl1.frz
  simp at x0 c6 c7
  have hne : (⟨bx, 0, none⟩ : Addr) ≠ ⟨l, 7, none⟩ := by intro e; injection e with e1; omega
  have hl2 : Blk (w1.drew.setCell ⟨l, 7, none⟩ (.int .i64 L.tail)) l (logO d { L with head := L.tail }) := hl1.drew.setCell 7 (.int .i64 L.tail)
  have hx0' : Blk (w1.drew.setCell ⟨l, 7, none⟩ (.int .i64 L.tail)) bx (.cells #[.pointer (some ⟨l, 0, none⟩)] 122 (0, 0)) := hx0.drew.setCell_ne (p := ⟨l, 7, none⟩) (by show bx ≠ l; omega) _
  have hx1' : Blk (w1.drew.setCell ⟨l, 7, none⟩ (.int .i64 L.tail)) (bx + 1) (.cells #[.slice none 0 0] 66 (0, 0)) := hx1.drew.setCell_ne (p := ⟨l, 7, none⟩) (by show bx + 1 ≠ l; omega) _
  have hk2 : Keeps (· = l) w (w1.drew.setCell ⟨l, 7, none⟩ (.int .i64 L.tail)) := ((hk1.mono (G := (· = l)) (fun _ _ f => f.elim)).drew).setCell (p := ⟨l, 7, none⟩) (.inl rfl) _
  have hR2 : RingAt (w1.drew.setCell ⟨l, 7, none⟩ (.int .i64 L.tail)) g f bs L.n L.n lo :=
    ⟨hR1.row.drew.setCell_ne (p := ⟨l, 7, none⟩) (by show g ≠ l; omega) _, fun j hj hp => ⟨(hR1.data j hj hp).1.drew.setCell_ne (p := ⟨l, 7, none⟩) (hbl.out j hj hp) _, (hR1.data j hj hp).2⟩⟩
  have x0d : w1.drew.cell? ⟨bx, 0, none⟩ = some (.pointer (some ⟨l, 0, none⟩)) := x0
  have c6d : w1.drew.cell? ⟨l, 6, none⟩ = some (.int .i64 L.tail) := c6
  have x0e := hx0'.cell 0
  have c6e := hl2.cell 6
  simp at x0e c6e
  replace hx0 := hid hx0; replace hx1 := hid hx1; replace hk1 := hid hk1; replace hl1 := hid hl1; replace hR1 := hid hR1; replace hl2 := hid hl2; replace hx0' := hid hx0'; replace hx1' := hid hx1'; replace hk2 := hid hk2; replace hR2 := hid hR2
  go_region_held3 (fun W => W.cell? ⟨bx, 0, none⟩ = some (.pointer (some ⟨l, 0, none⟩)) ∧ W.cell? ⟨l, 6, none⟩ = some (.int .i64 L.tail)) (first | with_reducible exact ⟨x0d, c6d⟩ | exact ⟨x0e, c6e⟩) (fail)
  refine exit_gen (fun W => Blk W bx (.cells #[.pointer (some ⟨l, 0, none⟩)] 122 (0, 0)) ∧ Blk W (bx + 1) (.cells #[.slice none 0 0] 66 (0, 0)) ∧ Blk W l (logO d { L with head := L.tail }) ∧ RingAt W g f bs L.n L.n lo ∧ Keeps (· = l) w W) ⟨hx0'.out, hx1'.out, hl2.out, hR2.out, hk2.out⟩ ?_
  clear hx0 hx1 hk1 hl1 hR1 hl2 hx0' hx1' hk2 hR2 x0 c6 c7 cf hne x0d c6d x0e c6e
  rename_i hHeld
  clear hHeld
  clear w1
  rintro w2 ⟨y0, y1, hl3, hR3, hk3⟩
  have h5 := And.intro ((y0.alloc (.cells #[.int .i64 0] 3 (0, 0))).alloc (.cells #[.int .i64 0] 3 (0, 0))) (And.intro ((y1.alloc (.cells #[.int .i64 0] 3 (0, 0))).alloc (.cells #[.int .i64 0] 3 (0, 0))) (And.intro ((hl3.alloc (.cells #[.int .i64 0] 3 (0, 0))).alloc (.cells #[.int .i64 0] 3 (0, 0)))
    (And.intro ((hR3.keeps (((Keeps.refl (fun _ => False) w2).alloc (.cells #[.int .i64 0] 3 (0, 0))).alloc (.cells #[.int .i64 0] 3 (0, 0))) (fun f => f) (fun _ _ f => f))) ((hk3.alloc (.cells #[.int .i64 0] 3 (0, 0))).alloc (.cells #[.int .i64 0] 3 (0, 0))))))
  replace h5 := hid h5
  clear y0 y1 hl3 hR3 hk3
  go_wp2_with fail
  apply wp_label
  go_upto_region 6 with fail
  refine wp_gen (fun W => Blk W bx (.cells #[.pointer (some ⟨l, 0, none⟩)] 122 (0, 0)) ∧ Blk W (bx + 1) (.cells #[.slice none 0 0] 66 (0, 0)) ∧ Blk W l (logO d { L with head := L.tail }) ∧ RingAt W g f bs L.n L.n lo ∧ Keeps (· = l) w W) h5.out ?_
  clear h5
  rintro w4 ⟨y0, y1, hl4, hR4, hk4⟩
  have x0 := y0.cell 0
  simp at x0
  have hrow := row_w w4 l g L.n
  replace y0 := hid y0; replace y1 := hid y1; replace hl4 := hid hl4; replace hR4 := hid hR4; replace hk4 := hid hk4; replace hrow := hid hrow
  go_wp2_with (go_at_call 210; refine hrow.out.mono ?_; rintro e w5 ⟨rfl, hw5⟩; replace hw5 := hid hw5)
  have hws : w5 = (w4.alloc (.cells #[.pointer (some ⟨l, 0, none⟩)] 122 (0, 0))).alloc (.cells #[.slice (some ⟨g, 0, none⟩) L.n L.n] 228 (0, 0)) := hw5.out
  have z1 : Blk w5 w4.heap.size (.cells #[.pointer (some ⟨l, 0, none⟩)] 122 (0, 0)) := by rw [hws]; exact (Blk.new _ _).alloc _
  have z2 : Blk w5 (w4.heap.size + 1) (.cells #[.slice (some ⟨g, 0, none⟩) L.n L.n] 228 (0, 0)) := by
    rw [hws]
    have := Blk.new (w4.alloc (.cells #[.pointer (some ⟨l, 0, none⟩)] 122 (0, 0))) (.cells #[.slice (some ⟨g, 0, none⟩) L.n L.n] 228 (0, 0))
    rwa [World.size_alloc] at this
  have k5 : Keeps (fun _ => False) w4 w5 := by rw [hws]; exact ((Keeps.refl _ w4).alloc _).alloc _
  have hl5 := k5.blk hl4.out (fun f => f)
  have hy5 := k5.blk y1.out (fun f => f)
  have hR5 := hR4.out.keeps k5 (fun f => f) (fun _ _ f => f)
  have hk5 := hk4.out.trans k5 (fun _ _ f => f.elim)
  clear hws k5 y0 y1 hl4 hR4 hk4 hw5 hrow x0
  have hseq : SeqStopsK (α := Empty) Fence.wide (3 - 1) Tryz.prog 219 #[.pointer (some ⟨w4.heap.size, 0, none⟩), .pointer (some ⟨w4.heap.size + 1, 0, none⟩)] (fun x => x.elim) (fun _ _ => True) (fun _ => True) (fun _ => False) 0 w5 := by
    intro l' J Jx W hW hJ hJx hY h0
    have kW : Keeps (fun _ => False) w5 W := ⟨hW.os, hW.tape, hW.output, hW.size, fun i hi _ => hW.block i hi⟩
    have hr := row1_stop (w := W) (d := d) (l := l) (L := { L with head := L.tail }) (.func (.yield l') #[] #[]) w4.heap.size (w4.heap.size + 1) g lo f bs (kW.blk z1 (fun f => f)) (kW.blk z2 (fun f => f)) (kW.blk hl5 (fun f => f)) (hR5.keeps kW (fun f => f) (fun _ _ f => f)) hn1 hn2 ht hs.out
    refine callsIn_wide.2 (hr.mono ?_)
    rintro e W' ⟨rfl, kW'⟩
    exact ⟨⟨_, rfl⟩, .inl ⟨[], trivial, hJ [] W W' none h0 (keeps_grownBy kW') (fun r e => by cases e)⟩⟩
  refine (wpIn_wide (n := 3)).1 (wpIn_rangeFunc_ownH (F := Fence.wide) (α := Empty) rfl (by decide) (gf := 219) (lb := #[.pointer (some ⟨w4.heap.size, 0, none⟩), .pointer (some ⟨w4.heap.size + 1, 0, none⟩)]) rfl trivial (fun args w => by kernel_rfl)
    hseq (fun _ _ => trivial) (fun _ _ _ _ _ _ _ _ => trivial) (Below.refl _ _) (fun x => x.elim)
    (fun _ W => Keeps (fun _ => False) w5 W) (fun _ _ _ => False) ?hI (fun _ _ _ _ _ h _ _ => h.elim) (Keeps.refl _ _) (fun _ _ _ => False) (fun x => x.elim) (fun _ _ x => x.elim) (fun _ _ x => x.elim) ?done (fun _ _ _ _ _ h => h.elim))
  case hI =>
    intro _ W W' row h hg hr
    exact h.grown hg (fun k hk => .inr (hr k hk).1)
  case done =>
    rintro D xs W hD _ kW hDef
    have hlW := kW.blk hl5 (fun f => f)
    have hkW := hk5.trans kW (fun _ _ f => f.elim)
    have hyW := kW.blk hy5 (fun f => f)
    have yc := hyW.cell 0
    simp at yc
    have hDw : w.heap.size ≤ D := Nat.le_trans hk5.size hD
    have hll5 := hl5.lt
    have hlD : l ≠ D := by omega
    clear hseq z1 z2 hR5
    replace hlW := hid hlW; replace hkW := hid hkW; replace hyW := hid hyW; replace hDef := hid hDef; replace hl5 := hid hl5; replace hy5 := hid hy5; replace hk5 := hid hk5; replace kW := hid kW
    dsimp only
    go_wp2
    refine ⟨by simp, .inl ⟨_, _, rfl, run_takeDeferred hDef.out, ?_⟩⟩
    have hkD : Keeps (· = D) W (W.putObj D (.deferred none)) :=
      ⟨rfl, rfl, rfl, by simp [World.putObj], fun k _ hkk => World.putObj_heap_other hkk⟩
    exact ⟨_, results_tmp rfl _ _ _, rfl, hkD.blk hlW.out hlD, hkW.out.fresh hkD (fun i hi => by rw [hi]; exact hDw)⟩
end
end Go.Vk

namespace Go.Vk
open Go.RowKit Go.Proofs

theorem and_mask32 (x : Nat) (h : x < 9223372036854775808) : bits .and .i64 (x : Int) 4294967295 = ((x % 4294967296 : Nat) : Int) := by
  have := bits_mask .i64 63 (by decide) (fun n a b => wrap_small (by omega) (by omega)) 32 (by decide) (x : Int) (by omega) (by omega)
  rw [show ((2 : Int) ^ 32 - 1) = 4294967295 by decide, show ((2 : Int) ^ 32) = 4294967296 by decide] at this
  rw [this]; omega

/-- The pair of anchors holds, bare of data, with that epoch and tail. -/
structure PairOk (s1 s2 : List UInt8) (ep tl : Nat) : Prop where
  no : max (anchorN s1) (anchorN s2) = ep * 4294967296 + tl
  ep1 : 1 ≤ ep
  ep2 : ep ≤ 1073741824
  tl2 : tl ≤ 1073741824
  bare : (if slotOf (anchorN s1) (anchorN s2) = 0 then anchorData s1 else anchorData s2) = []

theorem newestV_ok {s1 s2 : List UInt8} {ep tl : Nat} (h : PairOk s1 s2 ep tl) (b1 b2 : Nat) : ∃ sl a, newestV s1 s2 b1 b2 = .tuple #[.int .i64 sl, .int .i64 (ep * 4294967296 + tl : Nat), .slice a 0 0, .int .i64 0] := by
  have hno := h.no
  have hb := h.bare
  have he := h.ep1
  unfold newestV
  obtain ⟨a1, ha1⟩ := anchorD_slice s1 b1
  obtain ⟨a2, ha2⟩ := anchorD_slice s2 b2
  rw [ha1, ha2, ← hno]
  have hcs : slotOf (anchorN s1) (anchorN s2) = -1 ∧ max (anchorN s1) (anchorN s2) = 0 ∨ slotOf (anchorN s1) (anchorN s2) = 0 ∧ max (anchorN s1) (anchorN s2) = anchorN s1 ∨ slotOf (anchorN s1) (anchorN s2) = 1 ∧ max (anchorN s1) (anchorN s2) = anchorN s2 := by
    unfold slotOf
    split
    · rename_i h; left; exact ⟨rfl, by rw [h.1, h.2]; rfl⟩
    · split
      · rename_i h h'; right; right; exact ⟨rfl, by omega⟩
      · rename_i h h'; right; left; exact ⟨rfl, by omega⟩
  rcases hcs with ⟨e1, e2⟩ | ⟨e1, e2⟩ | ⟨e1, e2⟩
  · omega
  · rw [e1, if_pos rfl] at hb
    rw [e1, if_neg (by decide), if_pos rfl, e2, hb]
    exact ⟨_, _, rfl⟩
  · rw [e1, if_neg (by decide)] at hb
    rw [e1, if_neg (by decide), if_neg (by decide), e2, hb]
    exact ⟨_, _, rfl⟩

def WalOpenPost (w : World) (d : Nat) (F : List Nat) (D' : DM) (L' : LM) (Rec : World → Value → Prop) (e : Ending) (w' : World) : Prop :=
  ∃ l v F', e = .returned (.tuple #[.pointer (some ⟨l, 0, none⟩), v, .int .i64 0]) ∧ w.heap.size ≤ l ∧ Blk w' l (logO d L') ∧ Rec w' v ∧ DAt w d F D' F' w' ∧ l ∉ F'

section
variable {w : World} {d : Nat} {D : DM} {F : List Nat}
set_option maxHeartbeats 2000000 in
set_option maxRecDepth 100000 in
theorem walOpen_ok (h : DiskRep w d D F) (hb : D.burnt = false) (f n : Nat) (h1 : 18 ≤ n) (h2 : n ≤ 256) (h3 : f + 2 + n ≤ D.n) (h4 : D.n ≤ 2048)
    (ep tl : Nat) (hp : PairOk (D.now f) (D.now (f + 1)) ep tl) (htop : topK (fun j => D.now (f + 2 + j)) ep n ≠ 1073741824)
    (hd : Nat) (Rec : World → Value → Prop) (hst : ∀ W W' v, Rec W v → Keeps (· ∈ F) W W' → Rec W' v)
    (hscan : ∀ W l g bs lo, Blk W l (logO d ⟨f, n, D.took.life, ep, topK (fun j => D.now (f + 2 + j)) ep n, tl, 0, false⟩) → RingAt W g (fun j => D.now (f + 2 + j)) bs n n lo → l ≠ g → (∀ j, j < n → pieceBody (D.now (f + 2 + j)) ≠ none → bs j ≠ l) →
      Calls Tryz.prog 187 #[.pointer (some ⟨l, 0, none⟩), .slice (some ⟨g, 0, none⟩) n n] W fun e w' => ∃ v, e = .returned v ∧ Rec w' v ∧ Blk w' l (logO d ⟨f, n, D.took.life, ep, topK (fun j => D.now (f + 2 + j)) ep n, tl, hd, false⟩) ∧ Keeps (· = l) W w') :
    Calls Tryz.prog 146 #[.pointer (some ⟨d, 0, none⟩), .int .i64 f, .int .i64 n] w
      (WalOpenPost w d F (D.took.readed.readed.readedN n).flushed ⟨f, n, D.took.life, ep, topK (fun j => D.now (f + 2 + j)) ep n, tl, hd, false⟩ Rec) := by
  have hpl := place_ok h hb f n h1 h2 h3 h4
  have hT := take_w h
  have hlife : wrap64 (D.life + 1) = D.took.life := rfl
  have hbt : D.took.burnt = false := hb
  have hnt : D.took.n = D.n := rfl
  have hnow : ∀ k, D.took.now k = D.now k := fun k => rfl
  rw [hlife] at hT
  generalize D.took = D1 at *
  have hlt := h.lt
  have hsl : ∀ k, k < D.n → (D.now k).length = 512 := fun k hk => h.now_length k hk
  have htl := topK_le (fun j => D.now (f + 2 + j)) ep hp.ep2 n
  have hle := le_topK (fun j => D.now (f + 2 + j)) ep n
  have hPo : ∀ W l v F', w.heap.size ≤ l → Blk W l (logO d ⟨f, n, D1.life, ep, topK (fun j => D.now (f + 2 + j)) ep n, tl, hd, false⟩) → Rec W v → DAt w d F (D1.readed.readed.readedN n).flushed F' W → l ∉ F' →
      WalOpenPost w d F (D1.readed.readed.readedN n).flushed ⟨f, n, D1.life, ep, topK (fun j => D.now (f + 2 + j)) ep n, tl, hd, false⟩ Rec (.returned (.tuple #[.pointer (some ⟨l, 0, none⟩), v, .int .i64 0])) W :=
    fun W l v F' x1 x2 x3 x4 x5 => ⟨l, v, F', rfl, x1, x2, x3, x4, x5⟩
  generalize WalOpenPost w d F (D1.readed.readed.readedN n).flushed ⟨f, n, D1.life, ep, topK (fun j => D.now (f + 2 + j)) ep n, tl, hd, false⟩ Rec = Post at hPo ⊢
  replace h := hid h; replace hpl := hid hpl; replace hT := hid hT; replace hbt := hid hbt; replace hnt := hid hnt; replace hnow := hid hnow; replace hlife := hid hlife; replace hlt := hid hlt; replace hsl := hid hsl; replace hscan := hid hscan; replace hst := hid hst; replace hPo := hid hPo; replace hp := hid hp; replace htop := hid htop; replace hb := hid hb; replace htl := hid htl; replace hle := hid hle
  go_enter Tryz.func146, Tryz.ntmps146
  go_upto_region 5 with (first
    | (go_at_call 155; refine hpl.out.mono ?_; rintro e w2 ⟨rfl, rfl⟩)
    | (go_at_call 108; refine hT.out.mono ?_; rintro e w2 ⟨rfl, hD2, k2⟩; replace hD2 := hid hD2; replace k2 := hid k2))
  have h5 : DiskRep (w2.alloc (logO d ⟨f, n, D1.life, 0, 0, 0, 0, false⟩)) d D1 F ∧ Blk (w2.alloc (logO d ⟨f, n, D1.life, 0, 0, 0, 0, false⟩)) w2.heap.size (logO d ⟨f, n, D1.life, 0, 0, 0, 0, false⟩) ∧ Keeps (· ∈ F) w (w2.alloc (logO d ⟨f, n, D1.life, 0, 0, 0, 0, false⟩)) :=
    ⟨hD2.out.keeps ((Keeps.refl (fun _ => False) w2).alloc _) (fun _ _ f => f), Blk.new _ _, k2.out.alloc _⟩
  have hlF : w2.heap.size ∉ F := fun hm => by have := hlt.out _ hm; have := k2.out.size; omega
  have hge : w.heap.size ≤ w2.heap.size := k2.out.size
  clear hD2 k2
  refine wp_gen (fun W => DiskRep W d D1 F ∧ Blk W w2.heap.size (logO d ⟨f, n, D1.life, 0, 0, 0, 0, false⟩) ∧ Keeps (· ∈ F) w W) h5 ?_
  clear h5
  rintro w3 ⟨hD3, hl3, hk3⟩
  generalize w2.heap.size = l at hl3 hlF hge ⊢
  clear w2
  have hpr := lpair_ok hl3 hD3 hlF hbt.out (by show f + 1 < _; rw [hnt.out]; omega) (by rw [hnt.out]; exact h4)
  unfold LPairPost at hpr
  dsimp only at hpr
  rw [hnow.out, hnow.out] at hpr
  have hNw := fun W (b1 b2 : Nat) x1 x2 => newest_w W b1 512 5 (D.now f) x1 (hsl.out f (by omega)) b2 512 5 (D.now (f + 1)) x2 (hsl.out (f + 1) (by omega))
  unfold NewestPost at hNw
  have hNV := fun b1 b2 => newestV_ok hp.out b1 b2
  replace hD3 := hid hD3; replace hl3 := hid hl3; replace hk3 := hid hk3; replace hpr := hid hpr; replace hlF := hid hlF; replace hge := hid hge; replace hNw := hid hNw; replace hNV := hid hNV
  go_upto_region 8 with (go_at_call 183; refine hpr.out.mono ?_; rintro e w4 ⟨b1, b2, rfl, hb1, hb2, hB1, hB2, hD4, k4⟩; replace hb1 := hid hb1; replace hb2 := hid hb2; replace hB1 := hid hB1; replace hB2 := hid hB2; replace hD4 := hid hD4; replace k4 := hid k4)
  have hl4 := k4.out.blk hl3.out hlF.out
  have hk4 := hk3.out.step k4.out
  have hno : ep * 4294967296 + tl < 9223372036854775808 := by have := hp.out.ep2; have := hp.out.tl2; omega
  have hand := and_mask32 _ hno
  have hsh : ((ep * 4294967296 + tl : Nat) : Int) / 4294967296 = (ep : Int) := by have := hp.out.tl2; omega
  rw [show (ep * 4294967296 + tl) % 4294967296 = tl by have := hp.out.tl2; omega] at hand
  have hep1 : (1 : Int) ≤ (ep : Int) := by have := hp.out.ep1; omega
  have hep2 : (ep : Int) ≤ 1073741824 := by have := hp.out.ep2; omega
  have htl2 : (tl : Int) ≤ 1073741824 := by have := hp.out.tl2; omega
  generalize ep * 4294967296 + tl = no at hand hsh hno hNV
  clear hl3 hk3 k4
  replace hl4 := hid hl4; replace hk4 := hid hk4
  go_upto_region 11 with (go_at_call 184; refine (hNw.out _ _ _ hB1.out hB2.out).mono ?_; rintro e w5 ⟨c1, c2, -, -, -, -, k5, rfl⟩; obtain ⟨sl, a, hva⟩ := hNV.out c1 c2; rw [hva]; clear hva; replace k5 := hid k5)
  have hl5 := k5.out.blk hl4.out (fun f => f)
  have hk5 := hk4.out.trans k5.out (fun _ _ f => f.elim)
  have hD5 := hD4.out.keeps k5.out (fun _ _ f => f)
  have p4 := hl5.cell 4
  have p6 := hl5.cell 6
  have pf := hl5.frz
  simp at p4 p6
  have hl6 : Blk ((w5.setCell ⟨l, 4, none⟩ (.int .i64 ep)).setCell ⟨l, 6, none⟩ (.int .i64 tl)) l (logO d ⟨f, n, D1.life, ep, 0, tl, 0, false⟩) := (hl5.setCell 4 _).setCell 6 _
  have hge' : w.heap.size ≤ l := hge.out
  have hk6 : Keeps (· ∈ F) w ((w5.setCell ⟨l, 4, none⟩ (.int .i64 ep)).setCell ⟨l, 6, none⟩ (.int .i64 tl)) := (hk5.setCell (p := ⟨l, 4, none⟩) (.inr hge') _).setCell (p := ⟨l, 6, none⟩) (.inr hge') _
  have hD6 : DiskRep ((w5.setCell ⟨l, 4, none⟩ (.int .i64 ep)).setCell ⟨l, 6, none⟩ (.int .i64 tl)) d D1.readed.readed F := hD5.keeps (((Keeps.refl (· = l) w5).setCell (p := ⟨l, 4, none⟩) (.inl rfl) _).setCell (p := ⟨l, 6, none⟩) (.inl rfl) _) (fun i hi e => hlF.out (e ▸ hi))
  replace hl5 := hid hl5; replace hk5 := hid hk5; replace hD5 := hid hD5; replace hl6 := hid hl6; replace hk6 := hid hk6; replace hD6 := hid hD6
  go_upto_region 14 with fail
  refine wp_gen (fun W => DiskRep W d D1.readed.readed F ∧ Blk W l (logO d ⟨f, n, D1.life, ep, 0, tl, 0, false⟩) ∧ Keeps (· ∈ F) w W) ⟨hD6.out, hl6.out, hk6.out⟩ ?_
  clear hl4 hk4 hD4 hB1 hB2 hb1 hb2 k5 hl5 hk5 hD5 hl6 hk6 hD6 p4 p6 pf hNw hNV hpr hand hsh
  rintro w6 ⟨hD6, hl6, hk6⟩
  have hfun : (fun j => D1.readed.readed.now (f + 2 + j)) = (fun j => D.now (f + 2 + j)) := funext fun j => hnow.out _
  have hrg := ring_w hl6 hD6 hlF.out hbt.out (by show 1 ≤ n; omega) (by show n ≤ 256; omega) (by show f + 2 + n ≤ _; have := hnt.out; show f + 2 + n ≤ D1.n; omega) (by have := hnt.out; show D1.n ≤ 2048; omega)
  unfold RingPost at hrg
  dsimp only at hrg
  rw [hfun] at hrg
  have hbN : (D1.readed.readed.readedN n).burnt = false := (readedN_burnt _ _).trans hbt.out
  clear hfun
  have htl' := htl.out
  have hle' := hle.out
  have htop' := htop.out
  have hll6 := hl6.lt
  generalize hT' : topK (fun j => D.now (f + 2 + j)) ep n = T at hscan hPo htl' hle' htop'
  clear htl hle htop
  have hTi : ((T : Int) == 1073741824) = false := by simp; omega
  replace hrg := hid hrg; replace hbN := hid hbN; replace htl' := hid htl'; replace hle' := hid hle'; replace htop' := hid htop'; replace hll6 := hid hll6; replace hl6 := hid hl6; replace hk6 := hid hk6; replace hD6 := hid hD6; replace hT' := hid hT'
  go_upto_region 17 with (go_at_call 185; refine hrg.out.mono ?_; rintro e w7 ⟨g, bs, rfl, hg7, hR7, hD7, k7⟩; replace hg7 := hid hg7; replace hR7 := hid hR7; replace hD7 := hid hD7; replace k7 := hid k7)
  have hl7 := k7.out.blk hl6.out hlF.out
  have hk7 := hk6.out.step k7.out
  have htp := top_w g _ bs n _ ep hR7.out (fun j hj hp => ((hR7.out.data j hj hp).1).lt) h2 hp.out.ep2
  rw [hT'.out] at htp
  have hgl : g ≠ l := by have := hg7.out; have := hll6.out; omega
  have hbl : ∀ j, j < n → pieceBody (D.now (f + 2 + j)) ≠ none → bs j ≠ l := fun j hj hp => by have := (hR7.out.data j hj hp).2.1; have := hll6.out; omega
  have p4 := hl7.cell 4
  simp at p4
  clear k7 hg7 hk6 hD6 hl6 hrg
  replace hl7 := hid hl7; replace hk7 := hid hk7; replace htp := hid htp; replace hbl := hid hbl
  go_upto_region 18 with (go_at_call 186; refine htp.out.mono ?_; rintro e w8 ⟨rfl, k8⟩; have hl8 := k8.blk hl7.out (fun f => f); have p5 := hl8.cell 5; have pf := hl8.frz; simp at p5; replace hl8 := hid hl8; replace k8 := hid k8)
  have hl9 : Blk (w8.setCell ⟨l, 5, none⟩ (.int .i64 T)) l (logO d ⟨f, n, D1.life, ep, T, tl, 0, false⟩) := hl8.out.setCell 5 _
  have hks : Keeps (· = l) w7 (w8.setCell ⟨l, 5, none⟩ (.int .i64 T)) := (k8.out.mono (G := (· = l)) (fun _ _ f => f.elim)).setCell (p := ⟨l, 5, none⟩) (.inl rfl) _
  have hD9 : DiskRep (w8.setCell ⟨l, 5, none⟩ (.int .i64 T)) d (D1.readed.readed.readedN n) F := hD7.out.keeps hks (fun i hi e => hlF.out (e ▸ hi))
  have hR9 : RingAt (w8.setCell ⟨l, 5, none⟩ (.int .i64 T)) g (fun j => D.now (f + 2 + j)) bs n n w6.heap.size := hR7.out.keeps hks hgl (fun i hi e => by have := hll6.out; omega)
  have hk9 : Keeps (· ∈ F) w (w8.setCell ⟨l, 5, none⟩ (.int .i64 T)) := hk7.out.fresh hks (fun i hi => by rw [hi]; exact hge.out)
  refine wp_gen (fun W => Blk W l (logO d ⟨f, n, D1.life, ep, T, tl, 0, false⟩) ∧ DiskRep W d (D1.readed.readed.readedN n) F ∧ RingAt W g (fun j => D.now (f + 2 + j)) bs n n w6.heap.size ∧ Keeps (· ∈ F) w W) ⟨hl9, hD9, hR9, hk9⟩ ?_
  clear hl9 hks hD9 hR9 hk9 hl7 hk7 hR7 hD7 htp hl8 k8 p4 p5 pf
  rintro w9 ⟨hl9, hD9, hR9, hk9⟩
  have hsc := hscan.out w9 l g bs _ hl9 hR9 (Ne.symm hgl) hbl.out
  have p5 := hl9.cell 5
  simp at p5
  replace hl9 := hid hl9; replace hD9 := hid hD9; replace hR9 := hid hR9; replace hk9 := hid hk9; replace hsc := hid hsc
  go_upto_region 21 with (go_at_call 187; refine hsc.out.mono ?_; rintro e w10 ⟨v, rfl, hv, hl10, k10⟩; replace hv := hid hv; replace hl10 := hid hl10; replace k10 := hid k10)
  have hD10 : DiskRep w10 d (D1.readed.readed.readedN n) F := hD9.out.keeps k10.out (fun i hi e => hlF.out (e ▸ hi))
  have hk10 : Keeps (· ∈ F) w w10 := hk9.out.fresh k10.out (fun i hi => by rw [hi]; exact hge.out)
  have hA10 : DAt w d F (D1.readed.readed.readedN n) F w10 := ⟨hD10, fun _ hk => .inl hk, hk10⟩
  have hfl := flush_ok hD10 hbN.out
  replace hD10 := hid hD10; replace hk10 := hid hk10; replace hA10 := hid hA10; replace hfl := hid hfl
  go_wp2_with (go_at_call 111; refine hfl.out.mono ?_; rintro e w11 ⟨rfl, hp11⟩; replace hp11 := hid hp11)
  obtain ⟨F11, hA11⟩ := DAt.of hp11.out
  have hX := hPo.out w11 l v F11 hge.out (hA11.blk hl10.out hlF.out) (hst.out _ _ _ hv.out hA11.keeps) (hA10.out.trans hA11) (hA11.out_of hlF.out hl10.out.lt)
  go_ret3
  exact hX
end
end Go.Vk
