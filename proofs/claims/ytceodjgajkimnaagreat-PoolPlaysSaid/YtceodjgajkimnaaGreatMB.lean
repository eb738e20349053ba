/- The disk: its model (plain lists), and how it lies in memory. What a write does to the disk in memory. The disk in the midst of a flush. The walks of the small calls of package disk. The walks of now, Read, home of package disk. The walk of Read of package disk. The walk of Write of package disk. The walks of settle and Flush of package disk. The walks of New, Counts, Fuse of package disk. -/
import Derived.Test.YtceodjgajkimnaaGreatMA
import Derived.Laws.AppendOwn
import Derived.Test.YtceodjgajkimnaaGreatProg
import Derived.Deep.QuietTactic
import Derived.BigQuiet
import Derived.Deep.RegionHeld3
import Derived.Deep.CutRange
import Derived.Maps.RangeWalk
set_option linter.unusedVariables false

namespace Go.Vk
open Go.RowKit

/-- The model of a disk. -/
structure DM where
  dur : List UInt8
  pend : Nat → List (List UInt8)
  fused : Bool
  left : Int
  life : Int
  reads : Int
  writes : Nat
  flushes : Int
  refused : Int
  pending : Int

def DM.n (D : DM) : Nat := D.dur.length / 512
def DM.home (D : DM) (k : Nat) : List UInt8 := (D.dur.drop (512 * k)).take 512
def DM.now (D : DM) (k : Nat) : List UInt8 := (D.pend k).getLast?.getD (D.home k)
def DM.spent (D : DM) : DM := if D.fused then { D with left := D.left - 1 } else D
def DM.wrote (D : DM) (k : Nat) (bs : List UInt8) : DM :=
  { D with pend := fun j => if j = k then D.pend k ++ [bs] else D.pend j, writes := D.writes + 1, pending := wrap64 (D.pending + 1) }
def DM.settled (D : DM) : DM := { D with pend := fun _ => [], pending := 0 }
def DM.flushed (D : DM) : DM := ({ D with dur := secs D.n D.now, pend := fun _ => [], pending := 0, flushes := wrap64 (D.flushes + 1) }).spent
def DM.readed (D : DM) : DM := { D with reads := wrap64 (D.reads + 1) }
def DM.took (D : DM) : DM := { D with life := wrap64 (D.life + 1) }
def DM.burnt (D : DM) : Bool := D.fused && (D.left == 0)

/-- One entry of the map of pending writes: the sector, the stamp, the array of its slices (block, room), the slices' blocks with their bytes. -/
structure PEnt where
  key : Nat
  born : Nat
  arr : Nat
  cap : Nat
  secs : List (Nat × List UInt8)

def secV (s : Nat × List UInt8) : Value := .slice (some ⟨s.1, 0, none⟩) 512 512
def PEnt.val (p : PEnt) : Value := .slice (some ⟨p.arr, 0, none⟩) p.secs.length p.cap
def PEnt.ent (p : PEnt) : Ent := (p.key, p.val, p.born)
def PEnt.foot (p : PEnt) : List Nat := p.arr :: p.secs.map (·.1)
def PEnt.ok (w : World) (p : PEnt) : Prop :=
  p.secs ≠ [] ∧ w.ownsRow 0 57 1 p.val p.secs.length (p.secs.map secV) ∧ ∀ s ∈ p.secs, s.2.length = 512 ∧ Blk w s.1 (bytesO s.2)

def pendOf (ps : List PEnt) (k : Nat) : List (List UInt8) := ((ps.find? (·.key == k)).map (fun p => p.secs.map (·.2))).getD []

def diskO (dur n m : Nat) (D : DM) : Obj :=
  .cells #[.slice (some ⟨dur, 0, none⟩) n n, .map (some m), .bool D.fused, .int .i64 D.left, .int .i64 D.life, .int .i64 D.reads, .int .i64 D.writes, .int .i64 D.flushes, .int .i64 D.refused, .int .i64 D.pending] 164 (0, 0)

structure DiskAt (w : World) (d : Nat) (D : DM) (dur m : Nat) (ps : List PEnt) (clock : Nat) : Prop where
  hd : Blk w d (diskO dur D.dur.length m D)
  hdur : Blk w dur (bytesO D.dur)
  hm : Blk w m (mapO (ps.map PEnt.ent) clock)
  hp : ∀ p ∈ ps, p.ok w
  hk : (ps.map (·.key)).Nodup
  hb : (ps.map (·.born)).Nodup
  hc : ∀ p ∈ ps, p.born < clock
  hn : ∀ p ∈ ps, p.key < D.n
  hlen : D.dur.length = 512 * D.n
  hmax : D.n ≤ 2048
  hpos : 1 ≤ D.n
  hpend : D.pend = pendOf ps
  hpw : ∀ p ∈ ps, p.secs.length ≤ D.writes
  hleft : 0 ≤ D.left ∧ D.left ≤ 9223372036854775807

def diskFoot (d dur m : Nat) (ps : List PEnt) : List Nat := d :: dur :: m :: ps.flatMap PEnt.foot

/-- The disk at block d is the model D; it lies in the blocks F. -/
def DiskRep (w : World) (d : Nat) (D : DM) (F : List Nat) : Prop :=
  ∃ dur m ps clock, DiskAt w d D dur m ps clock ∧ F = diskFoot d dur m ps ∧ F.Nodup

theorem ownsRow_blk {w w' : World} {e : TypeId} {size : Nat} {v : Value} {n : Nat} {xs : List Value} (h : w.ownsRow 0 e size v n xs)
    (hk : ∀ g, v.ownBlock = some g → w'.heap[g]? = w.heap[g]?) : w'.ownsRow 0 e size v n xs := by
  obtain ⟨h1, h2⟩ := h
  refine ⟨h1, ?_⟩
  rcases h2 with h2 | ⟨g, cap, cur, hv, hg, hh, r⟩
  · exact .inl h2
  · exact .inr ⟨g, cap, cur, hv, hg, by rw [hk g (by rw [hv]; rfl)]; exact hh, r⟩

theorem PEnt.ok.keep {w w' : World} {p : PEnt} (h : p.ok w) (hk : ∀ k ∈ p.foot, w'.heap[k]? = w.heap[k]?) : p.ok w' := by
  obtain ⟨h1, h2, h3⟩ := h
  refine ⟨h1, ownsRow_blk h2 (fun g hg => hk g ?_), fun s hs => ⟨(h3 s hs).1, ?_⟩⟩
  · simp [PEnt.val, Value.ownBlock] at hg; simp [PEnt.foot, hg]
  · have := (h3 s hs).2
    unfold Blk at *
    rw [hk s.1 (by simp [PEnt.foot]; exact .inr ⟨_, hs⟩)]; exact this

section
variable {w : World} {d : Nat} {D : DM} {dur m : Nat} {ps : List PEnt} {clock : Nat}
theorem DiskAt.c0 (h : DiskAt w d D dur m ps clock) : w.cell? ⟨d, 0, none⟩ = some (.slice (some ⟨dur, 0, none⟩) D.dur.length D.dur.length) := by simpa [diskO] using h.hd.cell 0
theorem DiskAt.c1 (h : DiskAt w d D dur m ps clock) : w.cell? ⟨d, 1, none⟩ = some (.map (some m)) := by simpa [diskO] using h.hd.cell 1
theorem DiskAt.c2 (h : DiskAt w d D dur m ps clock) : w.cell? ⟨d, 2, none⟩ = some (.bool D.fused) := by simpa [diskO] using h.hd.cell 2
theorem DiskAt.c3 (h : DiskAt w d D dur m ps clock) : w.cell? ⟨d, 3, none⟩ = some (.int .i64 D.left) := by simpa [diskO] using h.hd.cell 3
theorem DiskAt.c4 (h : DiskAt w d D dur m ps clock) : w.cell? ⟨d, 4, none⟩ = some (.int .i64 D.life) := by simpa [diskO] using h.hd.cell 4
theorem DiskAt.c5 (h : DiskAt w d D dur m ps clock) : w.cell? ⟨d, 5, none⟩ = some (.int .i64 D.reads) := by simpa [diskO] using h.hd.cell 5
theorem DiskAt.c6 (h : DiskAt w d D dur m ps clock) : w.cell? ⟨d, 6, none⟩ = some (.int .i64 D.writes) := by simpa [diskO] using h.hd.cell 6
theorem DiskAt.c7 (h : DiskAt w d D dur m ps clock) : w.cell? ⟨d, 7, none⟩ = some (.int .i64 D.flushes) := by simpa [diskO] using h.hd.cell 7
theorem DiskAt.c8 (h : DiskAt w d D dur m ps clock) : w.cell? ⟨d, 8, none⟩ = some (.int .i64 D.refused) := by simpa [diskO] using h.hd.cell 8
theorem DiskAt.c9 (h : DiskAt w d D dur m ps clock) : w.cell? ⟨d, 9, none⟩ = some (.int .i64 D.pending) := by simpa [diskO] using h.hd.cell 9
theorem DiskAt.fz (h : DiskAt w d D dur m ps clock) (i : Nat) : w.frozen? ⟨d, i, none⟩ = false := h.hd.frz i
theorem DiskAt.keep {w' : World} (h : DiskAt w d D dur m ps clock) (hk : ∀ k ∈ diskFoot d dur m ps, w'.heap[k]? = w.heap[k]?) : DiskAt w' d D dur m ps clock := by
  refine { h with hd := ?_, hdur := ?_, hm := ?_, hp := ?_ }
  · have := h.hd; unfold Blk at *; rw [hk d (by simp [diskFoot])]; exact this
  · have := h.hdur; unfold Blk at *; rw [hk dur (by simp [diskFoot])]; exact this
  · have := h.hm; unfold Blk at *; rw [hk m (by simp [diskFoot])]; exact this
  · exact fun p hp => (h.hp p hp).keep (fun k hkk => hk k (by simp [diskFoot]; exact .inr (.inr (.inr ⟨p, hp, hkk⟩))))
theorem DiskAt.alloc (h : DiskAt w d D dur m ps clock) (hl : ∀ k ∈ diskFoot d dur m ps, k < w.heap.size) (o : Obj) : DiskAt (w.alloc o) d D dur m ps clock :=
  h.keep fun k hk => by
    have := hl k hk
    show (w.heap.push o)[k]? = _
    rw [Array.getElem?_push, if_neg (by omega)]
theorem DiskAt.lt (h : DiskAt w d D dur m ps clock) : ∀ k ∈ diskFoot d dur m ps, k < w.heap.size := by
  intro k hk
  simp only [diskFoot, List.mem_cons, List.mem_flatMap] at hk
  rcases hk with rfl | rfl | rfl | ⟨p, hp, hk⟩
  · exact h.hd.lt
  · exact h.hdur.lt
  · exact h.hm.lt
  · obtain ⟨_, h2, h3⟩ := h.hp p hp
    simp only [PEnt.foot, List.mem_cons, List.mem_map] at hk
    rcases hk with rfl | ⟨s, hs, rfl⟩
    · exact (h2.lt p.arr rfl).2
    · exact (h3 s hs).2.lt
/-- A store into one cell of the disk's own block that turns its model's numbers alone. -/
theorem DiskAt.set {D' : DM} (h : DiskAt w d D dur m ps clock) (hF : (diskFoot d dur m ps).Nodup) (i : Nat) (v : Value)
    (hO : Blk (w.setCell ⟨d, i, none⟩ v) d (diskO dur D'.dur.length m D')) (h1 : D'.dur = D.dur) (h2 : D'.pend = D.pend) (hw : D.writes ≤ D'.writes) (h3 : 0 ≤ D'.left ∧ D'.left ≤ 9223372036854775807) :
    DiskAt (w.setCell ⟨d, i, none⟩ v) d D' dur m ps clock := by
  have hn : D'.n = D.n := by simp [DM.n, h1]
  have hF' := (List.nodup_cons.1 hF).1
  have hne : ∀ k ∈ (dur :: m :: ps.flatMap PEnt.foot), k ≠ d := fun k hk e => hF' (e ▸ hk)
  have hs : ∀ k, k ≠ d → (w.setCell ⟨d, i, none⟩ v).heap[k]? = w.heap[k]? := fun k hk => by
    simp only [World.setCell, Array.getElem?_modify]
    rw [if_neg (by omega)]
  refine ⟨hO, ?_, ?_, ?_, h.hk, h.hb, h.hc, ?_, ?_, ?_, ?_, ?_, fun p hp => Nat.le_trans (h.hpw p hp) hw, h3⟩
  · rw [h1]; exact h.hdur.setCell_ne (hne dur (by simp)) v
  · exact h.hm.setCell_ne (hne m (by simp)) v
  · exact fun p hp => (h.hp p hp).keep (fun k hk => hs k (hne k (by simp; exact .inr (.inr ⟨p, hp, hk⟩))))
  · rw [hn]; exact h.hn
  · rw [hn, h1]; exact h.hlen
  · rw [hn]; exact h.hmax
  · rw [hn]; exact h.hpos
  · rw [h2]; exact h.hpend
end

theorem DiskRep.keep {w w' : World} {d : Nat} {D : DM} {F : List Nat} (h : DiskRep w d D F) (hk : ∀ k ∈ F, w'.heap[k]? = w.heap[k]?) : DiskRep w' d D F := by
  obtain ⟨dur, m, ps, clock, h1, rfl, h3⟩ := h
  exact ⟨dur, m, ps, clock, h1.keep hk, rfl, h3⟩
theorem DiskRep.lt {w : World} {d : Nat} {D : DM} {F : List Nat} (h : DiskRep w d D F) : ∀ k ∈ F, k < w.heap.size := by
  obtain ⟨dur, m, ps, clock, h1, rfl, h3⟩ := h
  exact h1.lt
theorem DiskRep.keeps {w w' : World} {d : Nat} {D : DM} {F : List Nat} {G : Nat → Prop} (h : DiskRep w d D F) (k : Keeps G w w') (hG : ∀ i ∈ F, ¬ G i) : DiskRep w' d D F :=
  h.keep fun i hi => k.block i (h.lt i hi) (hG i hi)

/-- The slice that lies at a sector: of its last pending write, or of what lasts. -/
def nowV (dur : Nat) (n : Nat) (ps : List PEnt) (k : Nat) : Value :=
  match ps.find? (·.key == k) with
  | some p => ((p.secs.map secV).getLast?).getD (.slice none 0 0)
  | none => .slice (some ⟨dur, 512 * k, none⟩) 512 (n - 512 * k)

/-- It reads as the model's bytes. -/
theorem DiskAt.nowB {w : World} {d : Nat} {D : DM} {dur m : Nat} {ps : List PEnt} {clock : Nat} (h : DiskAt w d D dur m ps clock) (k : Nat) (hk : k < D.n) :
    ∃ g off c src, nowV dur D.dur.length ps k = .slice (some ⟨g, off, none⟩) 512 c ∧ Blk w g (bytesO src) ∧ off + 512 ≤ src.length ∧ (src.drop off).take 512 = D.now k ∧ g ∈ diskFoot d dur m ps := by
  unfold nowV DM.now
  rw [h.hpend]
  unfold pendOf
  cases hf : ps.find? (·.key == k) with
  | none =>
    have := h.hlen
    exact ⟨dur, 512 * k, _, D.dur, rfl, h.hdur, by omega, rfl, by simp [diskFoot]⟩
  | some p =>
    have hp := List.mem_of_find?_eq_some hf
    obtain ⟨p1, p2, p3⟩ := h.hp p hp
    have hs : p.secs.getLast p1 ∈ p.secs := List.getLast_mem p1
    refine ⟨(p.secs.getLast p1).1, 0, 512, (p.secs.getLast p1).2, ?_, (p3 _ hs).2, by rw [(p3 _ hs).1]; omega, ?_, ?_⟩
    · show (p.secs.map secV).getLast?.getD (Value.slice none 0 0) = _
      rw [List.getLast?_map, List.getLast?_eq_some_getLast p1]; rfl
    · simp only [Option.map_some, Option.getD_some]
      rw [List.getLast?_map, List.getLast?_eq_some_getLast p1]
      simp only [Option.map_some, Option.getD_some, List.drop_zero]
      rw [← (p3 _ hs).1, List.take_length]
    · simp only [diskFoot, List.mem_cons, List.mem_flatMap]
      exact .inr (.inr (.inr ⟨p, hp, by simp [PEnt.foot]; exact .inr ⟨_, hs⟩⟩))

theorem DM.now_length {w : World} {d : Nat} {D : DM} {dur m : Nat} {ps : List PEnt} {clock : Nat} (h : DiskAt w d D dur m ps clock) (k : Nat) (hk : k < D.n) : (D.now k).length = 512 := by
  obtain ⟨g, off, c, src, _, _, h3, h4, _⟩ := h.nowB k hk
  rw [← h4, List.length_take, List.length_drop]; omega

/-- What a call leaves of a disk that lay in F. -/
def DPost (w : World) (d : Nat) (F : List Nat) (D' : DM) (w' : World) : Prop :=
  ∃ F', DiskRep w' d D' F' ∧ Keeps (· ∈ F) w w' ∧ ∀ k ∈ F', k ∈ F ∨ w.heap.size ≤ k

theorem DPost.refl {w : World} {d : Nat} {D : DM} {F : List Nat} (h : DiskRep w d D F) : DPost w d F D w := ⟨F, h, .refl _ _, fun _ hk => .inl hk⟩

end Go.Vk

namespace Go.Vk
open Go.RowKit

def pv (ps : List PEnt) (k : Nat) : Value := match ps.find? (·.key == k) with | some p => p.val | none => .slice none 0 0
def pxs (ps : List PEnt) (k : Nat) : List Value := match ps.find? (·.key == k) with | some p => p.secs.map secV | none => []
def updP (ps : List PEnt) (clock k arr cap : Nat) (s : Nat × List UInt8) : List PEnt :=
  match ps.find? (·.key == k) with
  | some _ => ps.map fun p => if p.key == k then { p with arr := arr, cap := cap, secs := p.secs ++ [s] } else p
  | none => ps ++ [⟨k, clock, arr, cap, [s]⟩]
def updC (ps : List PEnt) (clock k : Nat) : Nat := match ps.find? (·.key == k) with | some _ => clock | none => clock + 1

theorem nodup_map_inj {α β : Type} {f : α → β} : ∀ {l : List α}, (l.map f).Nodup → ∀ {x y : α}, x ∈ l → y ∈ l → f x = f y → x = y
  | [], _, _, _, h, _, _ => by cases h
  | a :: l, hn, x, y, hx, hy, e => by
    simp only [List.map_cons, List.nodup_cons, List.mem_map] at hn
    rcases List.mem_cons.1 hx with rfl | hx' <;> rcases List.mem_cons.1 hy with rfl | hy'
    · rfl
    · exact absurd ⟨y, hy', e.symm⟩ hn.1
    · exact absurd ⟨x, hx', e⟩ hn.1
    · exact nodup_map_inj hn.2 hx' hy' e

theorem look_ents (ps : List PEnt) (k : Nat) : look (ps.map PEnt.ent) k = (ps.find? (·.key == k)).map (·.val) := by
  simp [look, List.find?_map, Function.comp_def, PEnt.ent]

section
variable {P : Program} {w W : World} {d : Nat} {D : DM} {dur m : Nat} {ps : List PEnt} {clock : Nat} {T K E : TypeId}

theorem run_pv (hT : P.underlying T = some (.map K E)) (hK : P.underlying K = some (.int .i64)) (hz : ∀ w, (zeroValue E).run P w = .ok (.slice none 0 0) w) (k : Nat)
    (hb : Blk W m (mapO (ps.map PEnt.ent) clock)) : (Instr.lookup T (.map (some m)) (.int .i64 k) false).run P W = .ok (pv ps k) W := by
  have := run_lookup hT hK hb (hz W) (k := k)
  rw [this, look_ents]
  unfold pv
  cases ps.find? (·.key == k) <;> rfl

theorem DiskAt.pv_own (h : DiskAt w d D dur m ps clock) (k : Nat) : w.ownsRow 0 57 1 (pv ps k) (pxs ps k).length (pxs ps k) := by
  unfold pv pxs
  cases hf : ps.find? (·.key == k) with
  | none => exact World.ownsRow_nil w 0 _ 1
  | some p =>
    have := (h.hp p (List.mem_of_find?_eq_some hf)).2.1
    simpa using this

theorem DiskAt.pxs_le (h : DiskAt w d D dur m ps clock) (k : Nat) : (pxs ps k).length ≤ D.writes := by
  unfold pxs
  cases hf : ps.find? (·.key == k) with
  | none => simp
  | some p => simpa using h.hpw p (List.mem_of_find?_eq_some hf)

theorem run_upd (hT : P.underlying T = some (.map K E)) (hK : P.underlying K = some (.int .i64)) (hk : (ps.map (·.key)).Nodup) (k arr cap : Nat) (s : Nat × List UInt8)
    (hb : Blk W m (mapO (ps.map PEnt.ent) clock)) :
    (Instr.mapUpdate T (.map (some m)) (.int .i64 k) (.slice (some ⟨arr, 0, none⟩) ((pxs ps k).length + 1) cap)).run P W =
      .ok () (W.setBlk m (mapO ((updP ps clock k arr cap s).map PEnt.ent) (updC ps clock k))) := by
  have hk' : ((ps.map PEnt.ent).map (·.1)).Nodup := by simpa [Function.comp_def, PEnt.ent] using hk
  cases hf : ps.find? (·.key == k) with
  | none =>
    have hl : look (ps.map PEnt.ent) k = none := by rw [look_ents, hf]; rfl
    rw [run_update_new hT hK hb hl]
    simp [updP, updC, pxs, hf, PEnt.ent, PEnt.val]
  | some p =>
    have hl : look (ps.map PEnt.ent) k = some p.val := by rw [look_ents, hf]; rfl
    have hpk : p.key = k := by simpa using List.find?_some hf
    rw [run_update_old hT hK hb hk' hl]
    have e : setAt (ps.map PEnt.ent) k (.slice (some ⟨arr, 0, none⟩) ((pxs ps k).length + 1) cap) = (updP ps clock k arr cap s).map PEnt.ent := by
      simp only [setAt, updP, hf, List.map_map]
      refine List.map_congr_left fun q hq => ?_
      by_cases hqk : q.key = k
      · have hqp : q = p := nodup_map_inj hk hq (List.mem_of_find?_eq_some hf) (hqk.trans hpk.symm)
        subst hqp
        simp [PEnt.ent, hqk, PEnt.val, pxs, hf]
      · simp [PEnt.ent, hqk]
    rw [e]
    simp [updC, hf]
end

theorem map_upd {l : List PEnt} {k : Nat} (h : ∀ q ∈ l, q.key ≠ k) (f : PEnt → PEnt) : (l.map fun q => if q.key == k then f q else q) = l := by
  have : (l.map fun q => if q.key == k then f q else q) = l.map id := List.map_congr_left fun q hq => by simp [h q hq]
  simpa using this

/-- The disk behind a write: put together from what the walk has seen of the world W. -/
theorem DiskAt.wrote {w W : World} {d : Nat} {D : DM} {dur m : Nat} {ps : List PEnt} {clock : Nat} (h : DiskAt w d D dur m ps clock) (hF : (diskFoot d dur m ps).Nodup) (k : Nat) (hk : k < D.n)
    (arr cap own : Nat) (bs : List UInt8) (hbs : bs.length = 512)
    (hd : Blk W d (diskO dur D.dur.length m (D.wrote k bs)))
    (hm : Blk W m (mapO ((updP ps clock k arr cap (own, bs)).map PEnt.ent) (updC ps clock k)))
    (hrow : W.ownsRow 0 57 1 (.slice (some ⟨arr, 0, none⟩) ((pxs ps k).length + 1) cap) ((pxs ps k).length + 1) (pxs ps k ++ [secV (own, bs)]))
    (hown : Blk W own (bytesO bs)) (hnew : w.heap.size ≤ own) (harr : (pv ps k).ownBlock = some arr ∨ w.heap.size ≤ arr) (hne : own ≠ arr)
    (hfr : ∀ i, i < w.heap.size → i ≠ d → i ≠ m → some i ≠ (pv ps k).ownBlock → W.heap[i]? = w.heap[i]?) :
    ∃ F', DiskRep W d (D.wrote k bs) F' ∧ ∀ i ∈ F', i ∈ diskFoot d dur m ps ∨ w.heap.size ≤ i := by
  have hn' : (D.wrote k bs).n = D.n := rfl
  have hlt := h.lt
  have hFd : d ∉ dur :: m :: ps.flatMap PEnt.foot := (List.nodup_cons.1 hF).1
  have hF1 := (List.nodup_cons.1 hF).2
  have hFu : dur ∉ m :: ps.flatMap PEnt.foot := (List.nodup_cons.1 hF1).1
  have hF2 := (List.nodup_cons.1 hF1).2
  have hFm : m ∉ ps.flatMap PEnt.foot := (List.nodup_cons.1 hF2).1
  have hF3 := (List.nodup_cons.1 hF2).2
  have hmem : ∀ p ∈ ps, ∀ i ∈ p.foot, i ∈ diskFoot d dur m ps := fun p hp i hi => by
    simp only [diskFoot, List.mem_cons, List.mem_flatMap]; exact .inr (.inr (.inr ⟨p, hp, hi⟩))
  have hmem' : ∀ p ∈ ps, ∀ i ∈ p.foot, i ≠ d ∧ i ≠ m ∧ i < w.heap.size := fun p hp i hi => by
    have h1 : i ∈ ps.flatMap PEnt.foot := List.mem_flatMap.2 ⟨p, hp, hi⟩
    refine ⟨fun e => hFd (by rw [← e]; simp only [List.mem_cons]; exact .inr (.inr h1)), fun e => hFm (e ▸ h1), hlt i (hmem p hp i hi)⟩
  have hdur : Blk W dur (bytesO D.dur) := by
    have e := hfr dur (hlt dur (by simp [diskFoot])) (fun e => hFd (by simp [e])) (fun e => hFu (by simp [e])) (fun e => by
      unfold pv at e
      cases hf : ps.find? (·.key == k) with
      | none => rw [hf] at e; cases e
      | some p =>
        rw [hf] at e
        have e : dur = p.arr := Option.some.inj e
        exact hFu (List.mem_cons_of_mem _ (List.mem_flatMap.2 ⟨p, List.mem_of_find?_eq_some hf, by rw [e]; simp [PEnt.foot]⟩)))
    unfold Blk; rw [e]; exact h.hdur
  cases hf : ps.find? (·.key == k) with
  | none =>
    have hpv : (pv ps k).ownBlock = none := by simp [pv, hf, Value.ownBlock]
    have hxs : pxs ps k = [] := by simp [pxs, hf]
    have hup : updP ps clock k arr cap (own, bs) = ps ++ [⟨k, clock, arr, cap, [(own, bs)]⟩] := by simp [updP, hf]
    have huc : updC ps clock k = clock + 1 := by simp [updC, hf]
    have harr : w.heap.size ≤ arr := by rcases harr with e | e; rw [hpv] at e; cases e; exact e
    have hkey : ∀ p ∈ ps, p.key ≠ k := fun p hp e => by
      have := List.find?_eq_none.1 hf p hp
      simp [e] at this
    rw [hup, huc] at hm
    rw [hxs] at hrow
    refine ⟨diskFoot d dur m (ps ++ [⟨k, clock, arr, cap, [(own, bs)]⟩]), ⟨dur, m, _, clock + 1, ⟨hd, hdur, hm, ?_, ?_, ?_, ?_, ?_, h.hlen, h.hmax, h.hpos, ?_, ?_, h.hleft⟩, rfl, ?_⟩, ?_⟩
    · intro p hp
      rcases List.mem_append.1 hp with hp | hp
      · refine (h.hp p hp).keep fun i hi => ?_
        obtain ⟨a1, a2, a3⟩ := hmem' p hp i hi
        exact hfr i a3 a1 a2 (by rw [hpv]; simp)
      · rw [List.mem_singleton] at hp
        subst hp
        exact ⟨by simp, by simpa [PEnt.val] using hrow, fun s hs => by rw [List.mem_singleton] at hs; subst hs; exact ⟨hbs, hown⟩⟩
    · rw [List.map_append, List.nodup_append]
      exact ⟨h.hk, by simp, fun a ha b hb => by
        obtain ⟨p, hp, rfl⟩ := List.mem_map.1 ha
        simp at hb; subst hb; exact hkey p hp⟩
    · rw [List.map_append, List.nodup_append]
      exact ⟨h.hb, by simp, fun a ha b hb => by
        obtain ⟨p, hp, rfl⟩ := List.mem_map.1 ha
        simp at hb; subst hb; have := h.hc p hp; omega⟩
    · intro p hp
      rcases List.mem_append.1 hp with hp | hp
      · have := h.hc p hp; omega
      · rw [List.mem_singleton] at hp; subst hp; exact Nat.lt_succ_self _
    · intro p hp
      rw [hn']
      rcases List.mem_append.1 hp with hp | hp
      · exact h.hn p hp
      · rw [List.mem_singleton] at hp; subst hp; exact hk
    · funext j
      show (if j = k then D.pend k ++ [bs] else D.pend j) = _
      rw [h.hpend]
      simp only [pendOf, List.find?_append]
      by_cases hj : j = k
      · subst hj; simp [hf]
      · have : ¬ k = j := fun e => hj e.symm
        simp [hj, this]
    · intro p hp
      show p.secs.length ≤ D.writes + 1
      rcases List.mem_append.1 hp with hp | hp
      · have := h.hpw p hp; omega
      · rw [List.mem_singleton] at hp; subst hp; simp
    · have hnw : ∀ i, w.heap.size ≤ i → i ∉ diskFoot d dur m ps := fun i hi hm => by have := hlt i hm; omega
      have e : diskFoot d dur m (ps ++ [⟨k, clock, arr, cap, [(own, bs)]⟩]) = diskFoot d dur m ps ++ [arr, own] := by simp [diskFoot, PEnt.foot]
      rw [e, List.nodup_append]
      refine ⟨hF, by simp; exact fun e => hne e.symm, fun a ha b hb e => ?_⟩
      subst e
      simp at hb
      rcases hb with rfl | rfl
      · exact hnw _ harr ha
      · exact hnw _ hnew ha
    · intro i hi
      have e : diskFoot d dur m (ps ++ [⟨k, clock, arr, cap, [(own, bs)]⟩]) = diskFoot d dur m ps ++ [arr, own] := by simp [diskFoot, PEnt.foot]
      rw [e] at hi
      rcases List.mem_append.1 hi with hi | hi
      · exact .inl hi
      · simp at hi; rcases hi with rfl | rfl <;> exact .inr (by assumption)
  | some p =>
    have hpm := List.mem_of_find?_eq_some hf
    have hpk : p.key = k := by simpa using List.find?_some hf
    have hpv : (pv ps k).ownBlock = some p.arr := by simp [pv, hf, PEnt.val, Value.ownBlock]
    have hxs : pxs ps k = p.secs.map secV := by simp [pxs, hf]
    have huc : updC ps clock k = clock := by simp [updC, hf]
    obtain ⟨l1, l2, hps⟩ := List.append_of_mem hpm
    have hk0 := h.hk
    rw [hps, List.map_append, List.map_cons, List.nodup_append, List.nodup_cons] at hk0
    have hl1 : ∀ q ∈ l1, q.key ≠ k := fun q hq e => hk0.2.2 q.key (List.mem_map.2 ⟨q, hq, rfl⟩) p.key (by simp) (by rw [e, hpk])
    have hl2 : ∀ q ∈ l2, q.key ≠ k := fun q hq e => hk0.2.1.1 (by rw [hpk, ← e]; exact List.mem_map.2 ⟨q, hq, rfl⟩)
    have hup : updP ps clock k arr cap (own, bs) = l1 ++ { p with arr := arr, cap := cap, secs := p.secs ++ [(own, bs)] } :: l2 := by
      have : updP ps clock k arr cap (own, bs) = ps.map fun q => if q.key == k then { q with arr := arr, cap := cap, secs := q.secs ++ [(own, bs)] } else q := by simp [updP, hf]
      rw [this, hps, List.map_append, List.map_cons, map_upd hl1 (fun q => { q with arr := arr, cap := cap, secs := q.secs ++ [(own, bs)] }), map_upd hl2 (fun q => { q with arr := arr, cap := cap, secs := q.secs ++ [(own, bs)] })]
      simp [hpk]
    rw [hup, huc] at hm
    rw [hxs] at hrow
    have hq12 : ∀ q, q ∈ l1 ∨ q ∈ l2 → q ∈ ps := fun q hq => by rw [hps]; rcases hq with hq | hq <;> simp [hq]
    -- the foot of ps, parted
    have hfl : ps.flatMap PEnt.foot = l1.flatMap PEnt.foot ++ (p.arr :: p.secs.map (·.1)) ++ l2.flatMap PEnt.foot := by rw [hps]; simp [PEnt.foot]
    have hF4 := hF3
    rw [hfl, List.nodup_append, List.nodup_append, List.nodup_cons] at hF4
    have harr_ne : ∀ q, q ∈ l1 ∨ q ∈ l2 → ∀ i ∈ q.foot, i ≠ p.arr := fun q hq i hi e => by
      subst e
      rcases hq with hq | hq
      · exact hF4.1.2.2 _ (List.mem_flatMap.2 ⟨q, hq, hi⟩) p.arr (by simp) rfl
      · exact hF4.2.2 p.arr (by simp) p.arr (List.mem_flatMap.2 ⟨q, hq, hi⟩) rfl
    refine ⟨diskFoot d dur m (l1 ++ { p with arr := arr, cap := cap, secs := p.secs ++ [(own, bs)] } :: l2), ⟨dur, m, _, clock, ⟨hd, hdur, hm, ?_, ?_, ?_, ?_, ?_, h.hlen, h.hmax, h.hpos, ?_, ?_, h.hleft⟩, rfl, ?_⟩, ?_⟩
    · intro q hq
      have hold : (q ∈ l1 ∨ q ∈ l2) → q.ok W := fun hq => (h.hp q (hq12 q hq)).keep fun i hi => by
        obtain ⟨a1, a2, a3⟩ := hmem' q (hq12 q hq) i hi
        exact hfr i a3 a1 a2 (by rw [hpv]; intro e; exact harr_ne q hq i hi (Option.some.inj e))
      rcases List.mem_append.1 hq with hq | hq
      · exact hold (.inl hq)
      · rcases List.mem_cons.1 hq with rfl | hq
        · refine ⟨by simp, ?_, fun s hs => ?_⟩
          · simpa [PEnt.val] using hrow
          · rcases List.mem_append.1 hs with hs | hs
            · have h0 := (h.hp p hpm).2.2 s hs
              refine ⟨h0.1, ?_⟩
              have hi : s.1 ∈ p.foot := by simp [PEnt.foot]; exact .inr ⟨_, hs⟩
              obtain ⟨a1, a2, a3⟩ := hmem' p hpm s.1 hi
              have : s.1 ≠ p.arr := fun e => hF4.1.2.1.1 (by rw [← e]; exact List.mem_map.2 ⟨s, hs, rfl⟩)
              unfold Blk
              rw [hfr s.1 a3 a1 a2 (by rw [hpv]; intro e; exact this (Option.some.inj e))]
              exact h0.2
            · rw [List.mem_singleton] at hs; subst hs; exact ⟨hbs, hown⟩
        · exact hold (.inr hq)
    · have := h.hk; rw [hps] at this; simpa using this
    · have := h.hb; rw [hps] at this; simpa using this
    · intro q hq
      rcases List.mem_append.1 hq with hq | hq
      · exact h.hc q (hq12 q (.inl hq))
      · rcases List.mem_cons.1 hq with rfl | hq
        · exact h.hc p hpm
        · exact h.hc q (hq12 q (.inr hq))
    · intro q hq
      rcases List.mem_append.1 hq with hq | hq
      · exact h.hn q (hq12 q (.inl hq))
      · rcases List.mem_cons.1 hq with rfl | hq
        · exact h.hn p hpm
        · exact h.hn q (hq12 q (.inr hq))
    · funext j
      show (if j = k then D.pend k ++ [bs] else D.pend j) = _
      rw [h.hpend]
      have hfind : ∀ j, ps.find? (·.key == j) = (l1.find? (·.key == j)).or ((p :: l2).find? (·.key == j)) := fun j => by rw [hps, List.find?_append]
      have hl1n : l1.find? (·.key == k) = none := List.find?_eq_none.2 fun q hq => by simp [hl1 q hq]
      simp only [pendOf, List.find?_append]
      by_cases hj : j = k
      · subst hj
        rw [hf, hl1n]
        simp [hpk]
      · rw [hfind j]
        have : ¬ p.key = j := fun e => hj (e.symm.trans hpk)
        simp [hj, this]
    · intro q hq
      show q.secs.length ≤ D.writes + 1
      rcases List.mem_append.1 hq with hq | hq
      · have := h.hpw q (hq12 q (.inl hq)); omega
      · rcases List.mem_cons.1 hq with rfl | hq
        · have := h.hpw p hpm; simp; omega
        · have := h.hpw q (hq12 q (.inr hq)); omega
    · have hperm : (diskFoot d dur m (l1 ++ { p with arr := arr, cap := cap, secs := p.secs ++ [(own, bs)] } :: l2)).Perm (arr :: own :: (d :: dur :: m :: (l1.flatMap PEnt.foot ++ p.secs.map (·.1) ++ l2.flatMap PEnt.foot))) := by
        simp only [diskFoot, List.flatMap_append, List.flatMap_cons, PEnt.foot, List.map_append, List.map_cons, List.map_nil, List.append_assoc, List.cons_append, List.nil_append]
        generalize l1.flatMap PEnt.foot = A
        generalize p.secs.map (·.1) = B
        generalize l2.flatMap PEnt.foot = C
        rw [List.perm_iff_count]
        intro a
        simp only [List.count_cons, List.count_append]
        omega
      rw [hperm.nodup_iff]
      have hperm0 : (diskFoot d dur m ps).Perm (p.arr :: (d :: dur :: m :: (l1.flatMap PEnt.foot ++ p.secs.map (·.1) ++ l2.flatMap PEnt.foot))) := by
        simp only [diskFoot, hfl]
        rw [List.perm_iff_count]
        intro a
        simp only [List.count_cons, List.count_append]
        omega
      have hN := hperm0.nodup_iff.1 hF
      have hN' := List.nodup_cons.1 hN
      have hin : ∀ i ∈ (d :: dur :: m :: (l1.flatMap PEnt.foot ++ p.secs.map (·.1) ++ l2.flatMap PEnt.foot)), i < w.heap.size := fun i hi => hlt i (hperm0.mem_iff.2 (List.mem_cons_of_mem _ hi))
      rw [List.nodup_cons, List.nodup_cons]
      refine ⟨?_, fun hi => by have := hin own hi; omega, hN'.2⟩
      intro hi
      rcases List.mem_cons.1 hi with e | hi
      · exact hne e.symm
      · rcases harr with e | e
        · rw [hpv] at e; have := Option.some.inj e; subst this; exact hN'.1 hi
        · have := hin arr hi; omega
    · intro i hi
      simp only [diskFoot, List.flatMap_append, List.flatMap_cons, PEnt.foot, List.map_append, List.map_cons, List.map_nil, List.mem_cons, List.mem_append, List.not_mem_nil, or_false] at hi
      have hgo : i ∈ (d :: dur :: m :: ps.flatMap PEnt.foot) ∨ i = arr ∨ i = own := by
        rw [hfl]
        simp only [List.mem_cons, List.mem_append]
        rcases hi with h | h | h | h | (h | h | h) | h
        · exact .inl (.inl h)
        · exact .inl (.inr (.inl h))
        · exact .inl (.inr (.inr (.inl h)))
        · exact .inl (.inr (.inr (.inr (.inl (.inl h)))))
        · exact .inr (.inl h)
        · exact .inl (.inr (.inr (.inr (.inl (.inr (.inr h))))))
        · exact .inr (.inr h)
        · exact .inl (.inr (.inr (.inr (.inr h))))
      rcases hgo with h | rfl | rfl
      · exact .inl h
      · rcases harr with e | e
        · rw [hpv] at e; have := Option.some.inj e; subst this
          exact .inl (hmem p hpm _ (by simp [PEnt.foot]))
        · exact .inr e
      · exact .inr hnew
theorem pv_mem {d dur m : Nat} {ps : List PEnt} {k i : Nat} (h : (pv ps k).ownBlock = some i) : i ∈ ps.flatMap PEnt.foot := by
  unfold pv at h
  cases hf : ps.find? (·.key == k) with
  | none => rw [hf] at h; cases h
  | some p =>
    rw [hf] at h
    have : p.arr = i := Option.some.inj h
    exact List.mem_flatMap.2 ⟨p, List.mem_of_find?_eq_some hf, by rw [← this]; simp [PEnt.foot]⟩

theorem DiskAt.write_end {w w4 : World} {d : Nat} {D : DM} {dur m : Nat} {ps : List PEnt} {clock : Nat} (h : DiskAt w d D dur m ps clock) (hF : (diskFoot d dur m ps).Nodup) (k : Nat) (hk : k < D.n)
    (arr cap own : Nat) (bs : List UInt8) (hbs : bs.length = 512)
    (hd : Blk w4 d (diskO dur D.dur.length m D))
    (hm : Blk w4 m (mapO ((updP ps clock k arr cap (own, bs)).map PEnt.ent) (updC ps clock k)))
    (hrow : w4.ownsRow 0 57 1 (.slice (some ⟨arr, 0, none⟩) ((pxs ps k).length + 1) cap) ((pxs ps k).length + 1) (pxs ps k ++ [secV (own, bs)]))
    (hown : Blk w4 own (bytesO bs)) (hnew : w.heap.size ≤ own) (harr : (pv ps k).ownBlock = some arr ∨ w.heap.size ≤ arr) (hne : own ≠ arr)
    (hK : Keeps (fun i => i = m ∨ some i = (pv ps k).ownBlock) w w4) :
    ∃ F', DiskRep ((w4.setCell ⟨d, 6, none⟩ (.int .i64 ((D.writes : Int) + 1))).setCell ⟨d, 9, none⟩ (.int .i64 (wrap64 (D.pending + 1)))) d (D.wrote k bs) F' ∧
      (∀ i ∈ F', i ∈ diskFoot d dur m ps ∨ w.heap.size ≤ i) ∧ Keeps (· ∈ diskFoot d dur m ps) w ((w4.setCell ⟨d, 6, none⟩ (.int .i64 ((D.writes : Int) + 1))).setCell ⟨d, 9, none⟩ (.int .i64 (wrap64 (D.pending + 1)))) := by
  have hFd : d ∉ dur :: m :: ps.flatMap PEnt.foot := (List.nodup_cons.1 hF).1
  have hdm : m ≠ d := fun e => hFd (by simp [e])
  have hd2 := h.hd.lt
  have hda : d ≠ arr := fun e => by
    rcases harr with q | q
    · exact hFd (by simp only [List.mem_cons]; exact .inr (.inr (e ▸ pv_mem (d := d) (dur := dur) (m := m) q)))
    · omega
  have hdo : own ≠ d := fun e => by omega
  have hKd : Keeps (· = d) w4 ((w4.setCell ⟨d, 6, none⟩ (.int .i64 ((D.writes : Int) + 1))).setCell ⟨d, 9, none⟩ (.int .i64 (wrap64 (D.pending + 1)))) :=
    ((Keeps.refl (· = d) w4).setCell (p := ⟨d, 6, none⟩) (.inl rfl) _).setCell (p := ⟨d, 9, none⟩) (.inl rfl) _
  have hd' := (hd.setCell 6 (.int .i64 ((D.writes : Int) + 1))).setCell 9 (.int .i64 (wrap64 (D.pending + 1)))
  generalize (w4.setCell ⟨d, 6, none⟩ (.int .i64 ((D.writes : Int) + 1))).setCell ⟨d, 9, none⟩ (.int .i64 (wrap64 (D.pending + 1))) = W at hKd hd' ⊢
  obtain ⟨F', hR, hF'⟩ := h.wrote hF k hk arr cap own bs hbs (W := W) hd' (hKd.blk hm (by omega)) (ownsRow_blk hrow (fun g hg => by
      have e : arr = g := Option.some.inj hg
      subst e
      refine hKd.block _ ?_ (Ne.symm hda)
      exact (hrow.lt arr rfl).2)) (hKd.blk hown hdo) hnew harr hne (fun i hi h1 h2 h3 => by
      have e1 := hK.block i hi (fun f => by rcases f with f | f; exact h2 f; exact h3 f)
      have e2 := hKd.block i (Nat.lt_of_lt_of_le hi hK.size) h1
      rw [e2, e1])
  refine ⟨F', hR, hF', (hK.mono (G := (· ∈ diskFoot d dur m ps)) fun i _ f => ?_).trans hKd (fun i _ e => by subst e; simp [diskFoot])⟩
  rcases f with rfl | f
  · simp [diskFoot]
  · simp only [diskFoot, List.mem_cons]; exact .inr (.inr (.inr (pv_mem (d := d) (dur := dur) (m := m) f.symm)))
end Go.Vk

namespace Go.Vk
open Go.RowKit

/-- The content in the midst of a flush: of the sectors whose stamps are seen, what was written. -/
def flushTo (D : DM) (ps : List PEnt) (seen : Array Nat) : List UInt8 :=
  secs D.n fun k => if ∃ p ∈ ps, p.key = k ∧ p.born ∈ seen then D.now k else D.home k
def DM.mid (D : DM) (ps : List PEnt) (seen : Array Nat) : DM := { D with dur := flushTo D ps seen }

section
variable {w : World} {d : Nat} {D : DM} {dur m : Nat} {ps : List PEnt} {clock : Nat}

theorem DiskAt.home_length (h : DiskAt w d D dur m ps clock) {k : Nat} (hk : k < D.n) : (D.home k).length = 512 := by
  have := h.hlen
  unfold DM.home
  rw [List.length_take, List.length_drop]; omega

theorem DiskAt.turn_dur (h : DiskAt w d D dur m ps clock) (hF : (diskFoot d dur m ps).Nodup) {w' : World} (hk : Keeps (· = dur) w w') {b : List UInt8} (hb : Blk w' dur (bytesO b)) (hl : b.length = D.dur.length) :
    DiskAt w' d { D with dur := b } dur m ps clock := by
  have hFd : d ∉ dur :: m :: ps.flatMap PEnt.foot := (List.nodup_cons.1 hF).1
  have hFu := (List.nodup_cons.1 (List.nodup_cons.1 hF).2).1
  have hn : ({ D with dur := b } : DM).n = D.n := by simp [DM.n, hl]
  refine ⟨?_, hb, hk.blk h.hm (fun e => hFu (by simp [← e])), ?_, h.hk, h.hb, h.hc, ?_, ?_, ?_, ?_, h.hpend, h.hpw, h.hleft⟩
  · have := hk.blk h.hd (fun e => hFd (by simp [← e]))
    show Blk w' d (diskO dur b.length m { D with dur := b })
    rw [hl]; exact this
  · intro p hp
    refine (h.hp p hp).keep fun i hi => ?_
    have hm : i ∈ ps.flatMap PEnt.foot := List.mem_flatMap.2 ⟨p, hp, hi⟩
    exact hk.block i (h.lt i (by simp only [diskFoot, List.mem_cons]; exact .inr (.inr (.inr hm)))) (fun e => hFu (by rw [← e]; exact List.mem_cons_of_mem _ hm))
  · rw [hn]; exact h.hn
  · rw [hn]; show b.length = _; rw [hl]; exact h.hlen
  · rw [hn]; exact h.hmax
  · rw [hn]; exact h.hpos

theorem DiskAt.mid_length (h : DiskAt w d D dur m ps clock) (seen : Array Nat) : (flushTo D ps seen).length = D.dur.length := by
  rw [h.hlen]
  refine length_secs fun k hk => ?_
  split
  · exact DM.now_length h k hk
  · exact h.home_length hk
theorem DiskAt.mid_n (h : DiskAt w d D dur m ps clock) (seen : Array Nat) : (D.mid ps seen).n = D.n := by
  simp [DM.n, DM.mid, h.mid_length]

theorem DiskAt.mid_start (h : DiskAt w d D dur m ps clock) : D.mid ps #[] = D := by
  have : flushTo D ps #[] = D.dur := by
    unfold flushTo
    rw [← secs_of h.hlen]
    refine secs_congr fun k _ => ?_
    simp [DM.home]
  simp [DM.mid, this]

theorem DiskAt.now_key (h : DiskAt w d D dur m ps clock) {p : PEnt} (hp : p ∈ ps) (b : List UInt8) : ({ D with dur := b } : DM).now p.key = D.now p.key := by
  have hf : ps.find? (·.key == p.key) = some p := by
    cases e : ps.find? (·.key == p.key) with
    | none => have := List.find?_eq_none.1 e p hp; simp at this
    | some q => rw [nodup_map_inj h.hk (List.mem_of_find?_eq_some e) hp (by simpa using List.find?_some e)]
  have hne := (h.hp p hp).1
  unfold DM.now
  show ((D.pend p.key).getLast?).getD _ = _
  rw [h.hpend]
  simp only [pendOf, hf, Option.map_some, Option.getD_some]
  rw [List.getLast?_map, List.getLast?_eq_some_getLast hne]
  rfl

theorem DiskAt.mid_step (h : DiskAt w d D dur m ps clock) {p : PEnt} (hp : p ∈ ps) (seen : Array Nat) :
    lay (flushTo D ps seen) (512 * p.key) (D.now p.key) = flushTo D ps (seen.push p.born) := by
  unfold flushTo
  rw [lay_secs (fun k hk => by
    split
    · exact DM.now_length h k hk
    · exact h.home_length hk) (h.hn p hp) (DM.now_length h _ (h.hn p hp))]
  refine secs_congr fun k _ => ?_
  by_cases hk : k = p.key
  · subst hk
    rw [if_pos rfl, if_pos ⟨p, hp, rfl, by simp⟩]
  · rw [if_neg hk]
    refine ite_congr (propext ⟨fun ⟨q, hq, h1, h2⟩ => ⟨q, hq, h1, by simp [h2]⟩, fun ⟨q, hq, h1, h2⟩ => ⟨q, hq, h1, ?_⟩⟩) (fun _ => rfl) (fun _ => rfl)
    rcases Array.mem_push.1 h2 with h2 | h2
    · exact h2
    · exact absurd (h1.symm.trans (congrArg PEnt.key (nodup_map_inj h.hb hq hp h2))) hk

theorem DiskAt.mid_end (h : DiskAt w d D dur m ps clock) (seen : Array Nat) (hs : restOf (ps.map PEnt.ent) seen = []) : flushTo D ps seen = secs D.n D.now := by
  unfold flushTo
  refine secs_congr fun k _ => ?_
  split
  · rfl
  · rename_i hne
    have : ps.find? (·.key == k) = none := List.find?_eq_none.2 fun p hp e => by
      refine hne ⟨p, hp, by simpa using e, ?_⟩
      have hm : p.ent ∈ ps.map PEnt.ent := List.mem_map.2 ⟨p, hp, rfl⟩
      have := List.filter_eq_nil_iff.1 hs p.ent hm
      simpa [PEnt.ent] using this
    unfold DM.now
    rw [h.hpend]
    simp [pendOf, this]
end
end Go.Vk

namespace Go.Vk
open Go.RowKit Go.Proofs

section
variable {w : World} {d : Nat} {D : DM} {F : List Nat}

theorem burnt_w (h : DiskRep w d D F) : Calls Tryz.prog 94 #[.pointer (some ⟨d, 0, none⟩)] w fun e w' => e = .returned (.bool D.burnt) ∧ w = w' := by
  obtain ⟨dur, m, ps, clock, h1, rfl, h3⟩ := h
  have c2 := h1.c2
  have c3 := h1.c3
  have hb : D.burnt = (D.fused && (D.left == 0)) := rfl
  cases hf : D.fused
  all_goals
    rw [hf] at c2 hb
    replace hb := hid hb
    clear h1 h3 hf
    go_enter Tryz.func94, Tryz.ntmps94
    go_wp2
    go_ret
    exact ⟨by rw [hb.out]; first | rfl | simp, rfl⟩

theorem sectors_w (h : DiskRep w d D F) : Calls Tryz.prog 107 #[.pointer (some ⟨d, 0, none⟩)] w fun e w' => e = .returned (.int .i64 D.n) ∧ w = w' := by
  obtain ⟨dur, m, ps, clock, h1, rfl, h3⟩ := h
  have c0 := h1.c0
  have hn := h1.hlen
  have hm := h1.hmax
  generalize hL : D.dur.length = L at c0 hn
  have hl : L ≤ 1048576 := by omega
  have hq : ((L : Int) / 512) = D.n := by omega
  replace hq := hid hq
  clear h1 h3 hL hn hm
  go_enter Tryz.func107, Tryz.ntmps107
  go_wp2
  go_ret
  exact ⟨by rw [← hq.out]; rfl, rfl⟩

theorem life_w (h : DiskRep w d D F) : Calls Tryz.prog 95 #[.pointer (some ⟨d, 0, none⟩)] w fun e w' => e = .returned (.int .i64 D.life) ∧ w = w' := by
  obtain ⟨dur, m, ps, clock, h1, rfl, h3⟩ := h
  have c4 := h1.c4
  clear h1 h3
  go_enter Tryz.func95, Tryz.ntmps95
  go_wp2
  go_ret
  exact ⟨rfl, rfl⟩

theorem take_w (h : DiskRep w d D F) : Calls Tryz.prog 108 #[.pointer (some ⟨d, 0, none⟩)] w fun e w' =>
    e = .returned (.int .i64 (wrap64 (D.life + 1))) ∧ DiskRep w' d D.took F ∧ Keeps (· ∈ F) w w' := by
  obtain ⟨dur, m, ps, clock, h1, rfl, h3⟩ := h
  have c4 := h1.c4
  have fz := h1.fz
  replace h1 := hid h1; replace h3 := hid h3
  go_enter Tryz.func108, Tryz.ntmps108
  go_wp2
  go_ret
  refine ⟨rfl, ⟨dur, m, ps, clock, h1.out.set h3.out 4 _ ?_ rfl rfl (Nat.le_refl _) h1.out.hleft, rfl, h3.out⟩, (Keeps.refl _ _).setCell (.inl (by simp [diskFoot])) _⟩
  exact h1.out.hd.setCell 4 _

theorem spend_w (h : DiskRep w d D F) (hl : D.fused = true → 0 < D.left) : Calls Tryz.prog 153 #[.pointer (some ⟨d, 0, none⟩)] w fun e w' =>
    e = .returned (.tuple #[]) ∧ DiskRep w' d D.spent F ∧ Keeps (· ∈ F) w w' := by
  obtain ⟨dur, m, ps, clock, h1, rfl, h3⟩ := h
  have c2 := h1.c2
  have c3 := h1.c3
  have fz := h1.fz
  have hb := h1.hleft
  have hs : D.fused = false → D.spent = D := fun e => by simp [DM.spent, e]
  have hs' : D.fused = true → D.spent = { D with left := D.left - 1 } := fun e => by simp [DM.spent, e]
  replace h1 := hid h1; replace h3 := hid h3
  by_cases hf : D.fused = true
  · rw [hf] at c2
    have hl := hl hf
    have hs := hs' hf
    clear hs'
    replace hf := hid hf; replace hs := hid hs
    go_enter Tryz.func153, Tryz.ntmps153
    go_wp2
    go_end0
    refine ⟨rfl, ⟨dur, m, ps, clock, ?_, rfl, h3.out⟩, (Keeps.refl _ _).setCell (.inl (by simp [diskFoot])) _⟩
    rw [hs.out]
    refine h1.out.set h3.out 3 _ ?_ rfl rfl (Nat.le_refl _) ⟨?_, ?_⟩
    · exact h1.out.hd.setCell 3 _
    · show 0 ≤ D.left - 1; omega
    · show D.left - 1 ≤ _; omega
  · have hf : D.fused = false := by simpa using hf
    rw [hf] at c2
    have hs := hs hf
    clear hs' hl
    replace hf := hid hf; replace hs := hid hs
    go_enter Tryz.func153, Tryz.ntmps153
    go_wp2
    go_end0
    exact ⟨rfl, ⟨dur, m, ps, clock, by rw [hs.out]; exact h1.out, rfl, h3.out⟩, Keeps.refl _ _⟩

theorem there_dead (h : DiskRep w d D F) (hb : D.burnt = true) (k : Int) : Calls Tryz.prog 152 #[.pointer (some ⟨d, 0, none⟩), .int .i64 k] w fun e w' =>
    e = .returned (.int .i64 3) ∧ w = w' := by
  replace h := hid h
  go_enter Tryz.func152, Tryz.ntmps152
  go_wp2_with (go_at_call 94; refine (burnt_w h.out).mono ?_; rintro e w' ⟨rfl, rfl⟩)
  go_ret
  exact ⟨rfl, rfl⟩

theorem there_ok (h : DiskRep w d D F) (hb : D.burnt = false) (k : Int) (h0 : 0 ≤ k) (h1 : k < D.n) : Calls Tryz.prog 152 #[.pointer (some ⟨d, 0, none⟩), .int .i64 k] w fun e w' =>
    e = .returned (.int .i64 0) ∧ w = w' := by
  replace h := hid h
  have hk : decide (k < 0) = false := by simpa using h0
  go_enter Tryz.func152, Tryz.ntmps152
  go_wp2_with (first | (go_at_call 94; refine (burnt_w h.out).mono ?_; rintro e w' ⟨rfl, rfl⟩) | (go_at_call 107; refine (sectors_w h.out).mono ?_; rintro e w' ⟨rfl, rfl⟩))
  go_ret
  exact ⟨rfl, rfl⟩
end
end Go.Vk

namespace Go.Vk
open Go.RowKit Go.Proofs

theorem und124 : (Tryz.prog).underlying 162 = some (.map 3 66) := Tryz.underlying162
theorem undInt : (Tryz.prog).underlying 3 = some (.int .i64) := Tryz.underlying3
theorem zero33 (w : World) : (zeroValue 66).run Tryz.prog w = .ok (.slice none 0 0) w := by kernel_rfl

section
variable {w : World} {d : Nat} {D : DM} {F : List Nat} {dur m : Nat} {ps : List PEnt} {clock : Nat}

theorem home_w (h : DiskAt w d D dur m ps clock) (k : Int) (h0 : 0 ≤ k) (hk : k < D.n) :
    Calls Tryz.prog 137 #[.pointer (some ⟨d, 0, none⟩), .int .i64 k] w fun e w' => e = .returned (.slice (some ⟨dur, 512 * k.toNat, none⟩) 512 (D.dur.length - 512 * k.toNat)) ∧ w = w' := by
  obtain ⟨k, rfl⟩ := Int.eq_ofNat_of_zero_le h0
  have hc := h.c0
  have hl := h.hlen
  have hm := h.hmax
  have hk2 : 512 * k + 512 ≤ D.dur.length := by omega
  have hn : D.dur.length ≤ 1048576 := by omega
  generalize D.dur.length = L at hc hk2 hn
  clear h hl hm hk h0
  go_enter Tryz.func137, Tryz.ntmps137
  go_wp2
  go_ret
  have e1 : k * 512 = 512 * k := Nat.mul_comm _ _
  have e2 : (k + 1) * 512 - 512 * k = 512 := by omega
  refine ⟨?_, rfl⟩
  show Ending.returned (Value.slice (some ⟨dur, k * 512, none⟩) ((k + 1) * 512 - k * 512) (L - k * 512)) = _
  rw [e1, e2]; rfl

/-- What the map of pending writes answers. -/
theorem pend_look (k : Nat) : look (ps.map PEnt.ent) k = (ps.find? (·.key == k)).map (·.val) := by
  simp [look, List.find?_map, Function.comp_def, PEnt.ent]

theorem now_w (h : DiskAt w d D dur m ps clock) (k : Int) (h0 : 0 ≤ k) (hk : k < D.n) :
    Calls Tryz.prog 154 #[.pointer (some ⟨d, 0, none⟩), .int .i64 k] w fun e w' => e = .returned (nowV dur D.dur.length ps k.toNat) ∧ w = w' := by
  obtain ⟨k, rfl⟩ := Int.eq_ofNat_of_zero_le h0
  have hc := h.c1
  have hl := run_lookup und124 undInt h.hm (zero33 w) (k := k)
  rw [pend_look] at hl
  unfold nowV
  rw [Int.toNat_natCast]
  cases hf : ps.find? (·.key == k) with
  | none =>
    rw [hf] at hl
    replace hl : (Instr.lookup 162 (.map (some m)) (.int .i64 k) false).run Tryz.prog w = .ok (.slice none 0 0) w := hl
    replace h := hid h; replace hf := hid hf
    go_enter Tryz.func154, Tryz.ntmps154
    go_wp2_with (go_at_call 137; refine (home_w h.out _ (by omega) (by omega)).mono ?_; rintro e w' ⟨rfl, rfl⟩)
    go_ret
    exact ⟨rfl, rfl⟩
  | some p =>
    rw [hf] at hl
    replace hl : (Instr.lookup 162 (.map (some m)) (.int .i64 k) false).run Tryz.prog w = .ok p.val w := hl
    have hp := h.hp p (List.mem_of_find?_eq_some hf)
    obtain ⟨p1, p2, p3⟩ := hp
    obtain ⟨j, hj⟩ : ∃ j, p.secs.length = j + 1 := ⟨p.secs.length - 1, by have := List.length_pos_iff.2 p1; omega⟩
    have hmax : j + 1 ≤ 9223372036854775807 := by
      obtain ⟨_, q⟩ := p2
      unfold maxLen at q
      rcases q with ⟨q, _⟩ | ⟨g, cap, cur, hv, _, _, q1, q2, _⟩
      · cases q
      · omega
    have hcell := p2.cells (g := p.arr) rfl j (secV (p.secs.getLast p1)) (by
      rw [List.getElem?_map, List.getElem?_eq_getElem (by omega)]
      simp [List.getLast_eq_getElem, hj])
    rw [Addr.add_lit, Nat.zero_add] at hcell
    have hlast : ((p.secs.map secV).getLast?).getD (.slice none 0 0) = secV (p.secs.getLast p1) := by
      rw [List.getLast?_map, List.getLast?_eq_some_getLast p1]; rfl
    simp only [hlast]
    unfold PEnt.val at hl
    rw [hj] at hl
    generalize p.secs.getLast p1 = s at *
    clear hf p1 p2 p3 h hlast hj
    unfold secV at *
    go_enter Tryz.func154, Tryz.ntmps154
    go_wp2
    go_ret
    exact ⟨rfl, rfl⟩
theorem now_b (h : DiskAt w d D dur m ps clock) (k : Int) (h0 : 0 ≤ k) (hk : k < D.n) :
    Calls Tryz.prog 154 #[.pointer (some ⟨d, 0, none⟩), .int .i64 k] w fun e w' => ∃ g off c src, e = .returned (.slice (some ⟨g, off, none⟩) 512 c) ∧ w = w' ∧
      Blk w g (bytesO src) ∧ off + 512 ≤ src.length ∧ (src.drop off).take 512 = D.now k.toNat ∧ g ∈ diskFoot d dur m ps := by
  obtain ⟨g, off, c, src, hv, h1, h2, h3, h4⟩ := h.nowB k.toNat (by omega)
  exact (now_w h k h0 hk).mono fun e w' ⟨he, hw⟩ => ⟨g, off, c, src, he.trans (by rw [hv]), hw, h1, h2, h3, h4⟩

end
end Go.Vk

namespace Go.Vk
open Go.RowKit Go.Proofs

theorem und22 : (Tryz.prog).underlying 57 = some (.slice 5) := Tryz.underlying57
theorem info5 : ((Tryz.prog).info? 5).map (fun i => (i.zero, i.size, i.bytes)) = some (some (.int .u8 0), 1, 1) := by kernel_rfl
theorem size5 : ((Tryz.prog).info? 5).map (·.size) = some 1 := by kernel_rfl
theorem mkB (n : Nat) (hn : n ≤ 281474976710656) (w : World) : (Instr.makeSlice 57 (.int .i64 n) (.int .i64 n)).run Tryz.prog w = .ok (.slice (some ⟨w.heap.size, 0, none⟩) n n) (w.alloc (bytesO (zeros n))) := by
  obtain ⟨i, h1, h2, h3, h4⟩ := info_parts info5
  exact run_makeB und22 rfl h1 h2 h3 h4 n hn w
theorem mk512 (w : World) : (Instr.makeSlice 57 (.int .i64 512) (.int .i64 512)).run Tryz.prog w = .ok (.slice (some ⟨w.heap.size, 0, none⟩) 512 512) (w.alloc (bytesO (zeros 512))) := mkB 512 (by omega) w

section
variable {w : World} {d : Nat} {D : DM} {F : List Nat}

theorem read_dead (h : DiskRep w d D F) (hb : D.burnt = true) (k : Int) :
    Calls Tryz.prog 142 #[.pointer (some ⟨d, 0, none⟩), .int .i64 k] w fun e w' => e = .returned (.tuple #[.slice none 0 0, .int .i64 3]) ∧ w = w' := by
  replace h := hid h
  go_enter Tryz.func142, Tryz.ntmps142
  go_wp2_with (go_at_call 152; refine (there_dead h.out hb _).mono ?_; rintro e w' ⟨rfl, rfl⟩)
  go_ret2
  exact ⟨rfl, rfl⟩

theorem read_ok (h : DiskRep w d D F) (hb : D.burnt = false) (k : Int) (h0 : 0 ≤ k) (hk : k < D.n) :
    Calls Tryz.prog 142 #[.pointer (some ⟨d, 0, none⟩), .int .i64 k] w fun e w' => ∃ b, e = .returned (.tuple #[.slice (some ⟨b, 0, none⟩) 512 512, .int .i64 0]) ∧
      w.heap.size ≤ b ∧ Blk w' b (bytesO (D.now k.toNat)) ∧ DiskRep w' d D.readed F ∧ Keeps (· ∈ F) w w' := by
  have hth := there_ok h hb k h0 hk
  obtain ⟨dur, m, ps, clock, h1, rfl, h3⟩ := h
  have c5 := h1.c5
  have fz := h1.fz
  have hmk := mk512
  replace h1 := hid h1; replace h3 := hid h3; replace hth := hid hth
  go_enter Tryz.func142, Tryz.ntmps142
  go_wp2_with (go_at_call 152; refine hth.out.mono ?_; rintro e w' ⟨rfl, rfl⟩)
  go_wp2_with fail
  have h1' := (h1.out.set h3.out (D' := D.readed) 5 (.int .i64 (wrap64 (D.reads + 1))) (h1.out.hd.setCell 5 _) rfl rfl (Nat.le_refl _) h1.out.hleft)
  have h2' := h1'.alloc h1'.lt (bytesO (zeros 512))
  have hz := Blk.new (w.setCell ⟨d, 5, none⟩ (.int .i64 (wrap64 (D.reads + 1)))) (bytesO (zeros 512))
  have hk2 : Keeps (· ∈ diskFoot d dur m ps) w ((w.setCell ⟨d, 5, none⟩ (.int .i64 (wrap64 (D.reads + 1)))).alloc (bytesO (zeros 512))) := ((Keeps.refl _ _).setCell (.inl (by simp [diskFoot])) _).alloc _
  rw [World.size_setCell] at hz
  have hlt := h1'.lt
  replace h1' := hid h1'; replace hlt := hid hlt
  refine (now_b h2' k h0 hk).mono ?_
  rintro e w' ⟨g, off, c, src, rfl, rfl, hg, hlen, hnow, hmem⟩
  generalize hw2 : (w.setCell ⟨d, 5, none⟩ (.int .i64 (wrap64 (D.reads + 1)))).alloc (bytesO (zeros 512)) = w2 at *
  replace h2' := hid h2'; replace hz := hid hz; replace hk2 := hid hk2; replace hg := hid hg; replace hnow := hid hnow; replace hmem := hid hmem; replace hw2 := hid hw2
  dsimp only
  go_step
  refine wpList_copyB rfl (.tmp 24) (.tmp 27) 57 57 rfl 5 und22 size5 _ _ _ _ _ _ _ _ rfl rfl _ _ hz.out hg.out (by rw [length_zeros]; omega) hlen ?_
  intro w3 hb3 hk3 hs3
  have e1 : lay (zeros 512) 0 ((src.drop off).take (Nat.min 512 512)) = D.now k.toNat := by
    have hn : (src.drop off).take 512 = D.now k.toNat := hnow.out
    rw [show Nat.min 512 512 = 512 from rfl, hn]
    refine lay_all ?_
    rw [← hn, List.length_take, List.length_drop, length_zeros]; omega
  rw [e1] at hb3
  replace hb3 := hid hb3; replace hk3 := hid hk3; replace e1 := hid e1
  go_wp2
  go_ret2
  refine ⟨w.heap.size, rfl, Nat.le_refl _, hb3.out, ?_, ?_⟩
  · refine ⟨dur, m, ps, clock, h2'.out.keep fun i hi => ?_, rfl, h3.out⟩
    have := hlt.out i hi
    rw [World.size_setCell] at this
    refine hk3.out.block i ?_ (by omega)
    rw [← hw2.out, World.size_alloc, World.size_setCell]; omega
  · exact hk2.out.trans hk3.out (fun i hi e => by omega)
end
end Go.Vk

namespace Go.Vk
open Go.RowKit Go.Proofs

theorem und33 : (Tryz.prog).underlying 66 = some (.slice 57) := Tryz.underlying66
theorem info22 : ((Tryz.prog).info? 57).map (fun i => (i.zero, i.size, i.bytes)) = some (some (.slice none 0 0), 1, 24) := by kernel_rfl

section
variable {w : World} {d : Nat} {D : DM} {F : List Nat}

theorem write_dead (h : DiskRep w d D F) (hb : D.burnt = true) (k : Int) (v : Value) :
    Calls Tryz.prog 110 #[.pointer (some ⟨d, 0, none⟩), .int .i64 k, v] w fun e w' => e = .returned (.int .i64 3) ∧ w = w' := by
  replace h := hid h
  go_enter Tryz.func110, Tryz.ntmps110
  go_wp2_with (go_at_call 152; refine (there_dead h.out hb _).mono ?_; rintro e w' ⟨rfl, rfl⟩)
  go_ret
  exact ⟨rfl, rfl⟩

set_option maxRecDepth 100000 in
set_option maxHeartbeats 1000000 in
theorem write_ok (h : DiskRep w d D F) (hb : D.burnt = false) (k : Int) (h0 : 0 ≤ k) (hk : k < D.n) (hw : D.writes < 1099511627776)
    (g off c : Nat) (T2 : TypeId) (src : List UInt8) (hg : Blk w g (bytesT T2 src)) (hlen : off + 512 ≤ src.length) :
    Calls Tryz.prog 110 #[.pointer (some ⟨d, 0, none⟩), .int .i64 k, .slice (some ⟨g, off, none⟩) 512 c] w fun e w' => e = .returned (.int .i64 0) ∧
      DPost w d F (D.wrote k.toNat ((src.drop off).take 512)).spent w' := by
  have hth := there_ok h hb k h0 hk
  obtain ⟨dur, m, ps, clock, h1, rfl, h3⟩ := h
  have hmk := mk512
  obtain ⟨k, rfl⟩ := Int.eq_ofNat_of_zero_le h0
  replace h1 := hid h1; replace h3 := hid h3; replace hth := hid hth; replace hg := hid hg
  go_enter Tryz.func110, Tryz.ntmps110
  go_upto_region 8 with (first | (go_at_call 152; refine hth.out.mono ?_; rintro e w' ⟨rfl, rfl⟩))
  go_step
  refine wpList_moveV rfl _ rfl ?_
  refine wpList_moveV rfl _ rfl ?_
  have hz := Blk.new w (bytesO (zeros 512))
  have hgl := hg.out.lt
  refine wpList_copyT rfl (.tmp 28) (.tmp 29) 57 57 rfl 5 und22 size5 5 T2 _ _ _ _ _ _ _ _ rfl rfl _ _ hz (hg.out.alloc _) (by rw [length_zeros]; omega) hlen ?_
  intro w2 hb2 hk2 hs2
  have e1 : lay (zeros 512) 0 ((src.drop off).take (Nat.min 512 512)) = (src.drop off).take 512 := by
    rw [show Nat.min 512 512 = 512 from rfl]
    refine lay_all ?_
    rw [List.length_take, List.length_drop, length_zeros]; omega
  rw [e1] at hb2
  have hk2' : Keeps (fun _ => False) w w2 := ((Keeps.refl (fun _ => False) w).alloc (bytesO (zeros 512))).trans hk2 (fun i hi e => by omega)
  rw [World.size_alloc] at hs2
  have h2 : DiskAt w2 d D dur m ps clock := h1.out.keep (fun i hi => hk2'.block i (h1.out.lt i hi) (fun f => f))
  have hbl : ((src.drop off).take 512).length = 512 := by rw [List.length_take, List.length_drop]; omega
  generalize hbs0 : (src.drop off).take 512 = bs at hb2 hbl
  generalize hown : w.heap.size = own at hb2 hk2 hs2 hgl ⊢
  clear hz e1 hk2 hmk hgl
  obtain ⟨i22, hi22, hz22, hs22, hb22⟩ := info_parts info22
  have c1 := h2.c1
  have hd2 := h2.hd.lt
  have hl1 := run_pv und124 undInt zero33 k (h2.hm.drew)
  have hl2 := fun o => run_pv und124 undInt zero33 k (h2.hm.alloc o).drew
  have hrow := h2.pv_own k
  have hle := h2.pxs_le k
  have hmd : m ≠ d := fun e => (List.nodup_cons.1 h3.out).1 (by simp [e])
  have hpd : some d ≠ (pv ps k).ownBlock := fun e => (List.nodup_cons.1 h3.out).1 (by simp only [List.mem_cons]; exact .inr (.inr (pv_mem (d := d) (dur := dur) (m := m) e.symm)))
  have hpm : some m ≠ (pv ps k).ownBlock := fun e => (List.nodup_cons.1 (List.nodup_cons.1 (List.nodup_cons.1 h3.out).2).2).1 (pv_mem (d := d) (dur := dur) (m := m) e.symm)
  have hpo : some own ≠ (pv ps k).ownBlock := fun e => by
    have := h1.out.lt own (by simp only [diskFoot, List.mem_cons]; exact .inr (.inr (.inr (pv_mem (d := d) (dur := dur) (m := m) e.symm))))
    omega
  have hom : own ≠ m := fun e => by have := h1.out.hm.lt; omega
  have hup := fun (W : World) (arr cap : Nat) (hb : Blk W m (mapO (ps.map PEnt.ent) clock)) => run_upd (W := W) und124 undInt h2.hk k arr cap (own, bs) hb
  generalize hV : pv ps k = V at hl1 hl2 hrow hpd hpm hpo
  generalize hX : pxs ps k = X at hrow hle hup
  replace hbs0 := hid hbs0; replace hpo := hid hpo; replace hom := hid hom; replace hs2 := hid hs2; replace hb2 := hid hb2; replace hk2' := hid hk2'; replace h2 := hid h2; replace hown := hid hown; replace hbl := hid hbl; replace hrow := hid hrow; replace hle := hid hle; replace hpd := hid hpd; replace hpm := hid hpm; replace hV := hid hV; replace hX := hid hX; replace hup := hid hup
  go_wp2_with fail
  go_frame
  go_region_held3 (fun W => W.cell? ⟨d, 1, none⟩ = some (.map (some m))) (first | assumption | exact cell_alloc (by assumption) _ | exact cell_grown (by assumption) (by assumption) hpd.out | exact cell_setBlk_ne (by assumption) (Ne.symm hmd) _) (first | (rw [if_pos (by rfl)]; refine wp_appendV (.tmp 41) (.tmp 43) 66 rfl 57 i22 (.slice none 0 0) 1 24 und33 hi22 hz22 hs22 hb22 rfl (by omega) V X.length X rfl (World.ownsRow.alloc (World.ownsRow.drew hrow.out) _) ⟨w2.heap.size, 0, none⟩ 1 1 [.slice (some ⟨own, 0, none⟩) 512 512] rfl rfl (cell_one_new _ _ _) (fun u hu => by simp at hu; subst hu; rfl) (by omega) (by have := hle.out; unfold maxLen; omega) (by have := hle.out; omega) ?_; intro g' cap' w3 hrow3 hgr3 hw3; have hm3 : Blk w3 m (mapO (ps.map PEnt.ent) clock) := Blk.grown ((h2.out.hm.drew).alloc _) hgr3 hpm.out; have hup3 := hup.out w3 g' cap' hm3; replace hrow3 := hid hrow3; replace hw3 := hid hw3))
  all_goals
    have hwo : w.heap.size ≤ own := by rw [hown.out]; exact Nat.le_refl _
    have h4d : Blk (w3.setBlk m (mapO ((updP ps clock k g' cap' (own, bs)).map PEnt.ent) (updC ps clock k))) d (diskO dur D.dur.length m D) := (Blk.grown ((h2.out.hd.alloc _).drew) hgr3 hpd.out).setBlk_ne (Ne.symm hmd) _
    have h4m := hm3.setBlk (mapO ((updP ps clock k g' cap' (own, bs)).map PEnt.ent) (updC ps clock k))
    have hgm : g' ≠ m := fun e => by
      obtain ⟨_, q⟩ := hrow3.out
      rcases q with ⟨q, _⟩ | ⟨g2, _, _, hv, _, hh, _⟩
      · cases q
      · have e2 : g2 = g' := by injection hv with e1; injection e1 with e1; injection e1 with e1; exact e1.symm
        rw [e2, e] at hh
        have := Blk.inj hm3 hh
        cases this
    have h4row := ownsRow_blk (w' := w3.setBlk m (mapO ((updP ps clock k g' cap' (own, bs)).map PEnt.ent) (updC ps clock k))) hrow3.out (fun g2 hg2 => by
      have e2 : g' = g2 := Option.some.inj hg2
      subst e2
      simp [World.setBlk, Ne.symm hgm])
    have h4own : Blk (w3.setBlk m (mapO ((updP ps clock k g' cap' (own, bs)).map PEnt.ent) (updC ps clock k))) own (bytesO bs) := (Blk.grown ((hb2.out.alloc _).drew) hgr3 hpo.out).setBlk_ne hom.out _
    have h4k : Keeps (fun i => i = m ∨ some i = V.ownBlock) w (w3.setBlk m (mapO ((updP ps clock k g' cap' (own, bs)).map PEnt.ent) (updC ps clock k))) :=
      (((hk2'.out.mono (fun _ _ f => f.elim)).alloc _).drew.grown hgr3 (fun i hi => .inl (.inr hi.symm))).trans (keeps_setBlk _ _ _) (fun i _ e => .inl e)
    have harr : (pv ps k).ownBlock = some g' ∨ w.heap.size ≤ g' := by
      rw [hV.out]
      rcases hw3.out with e | e
      · exact .inl e.1
      · right; rw [e]; show _ ≤ (w2.alloc _).heap.size; rw [World.size_alloc, hs2.out, hown.out]; omega
    have hne : own ≠ g' := fun e => by
      rcases hw3.out with e2 | e2
      · exact hpo.out (by rw [e2.1, e])
      · have : g' = w2.heap.size + 1 := by rw [e2]; show (w2.alloc _).heap.size = _; rw [World.size_alloc]
        have := hs2.out; omega
    clear hup3 hm3 hrow3 hgr3 hw3
    rename_i hHeld
    clear hHeld
    generalize w3.setBlk m (mapO ((updP ps clock k g' cap' (own, bs)).map PEnt.ent) (updC ps clock k)) = w4 at h4d h4m h4row h4own h4k ⊢
    have c6 : w4.cell? ⟨d, 6, none⟩ = some (.int .i64 D.writes) := by simpa [diskO] using h4d.cell 6
    have c9 : w4.cell? ⟨d, 9, none⟩ = some (.int .i64 D.pending) := by simpa [diskO] using h4d.cell 9
    have fz : ∀ i, w4.frozen? ⟨d, i, none⟩ = false := h4d.frz
    replace h4d := hid h4d; replace h4m := hid h4m; replace h4row := hid h4row; replace h4own := hid h4own; replace h4k := hid h4k; replace harr := hid harr; replace hne := hid hne
    clear hl1 hl2 c1
    go_wp2_with fail
    have hX' := hX.out
    have hV' := hV.out
    subst hX' hV'
    obtain ⟨F', e1, e2, e3⟩ := h1.out.write_end h3.out k (by omega) g' cap' own bs hbl.out h4d.out h4m.out h4row.out h4own.out hwo harr.out hne.out h4k.out
    refine (spend_w e1 (fun hf => ?_)).mono ?_
    · have hb' : (D.fused && (D.left == 0)) = false := hb
      have hf' : D.fused = true := hf
      have hl := h1.out.hleft
      show 0 < D.left
      rw [hf'] at hb'
      simp at hb'
      omega
    rintro e w6 ⟨rfl, e4, e5⟩
    replace e1 := hid e1; replace e2 := hid e2; replace e3 := hid e3; replace e4 := hid e4; replace e5 := hid e5
    go_wp2
    go_ret
    refine ⟨rfl, F', ?_, e3.out.trans e5.out (fun i hi f => ?_), e2.out⟩
    · rw [Int.toNat_natCast, hbs0.out]; exact e4.out
    · rcases e2.out i f with h | h
      · exact h
      · omega
end
end Go.Vk

namespace Go.Vk
open Go.RowKit Go.Proofs

section
variable {w : World} {d : Nat} {D : DM} {dur m : Nat} {ps : List PEnt} {clock : Nat}

theorem settle_w (h : DiskAt w d D dur m ps clock) (hF : (diskFoot d dur m ps).Nodup) : Calls Tryz.prog 139 #[.pointer (some ⟨d, 0, none⟩)] w fun e w' =>
    e = .returned (.tuple #[]) ∧ DiskAt w' d D.settled dur m [] clock ∧ Keeps (fun i => i = d ∨ i = m) w w' ∧ w'.heap.size = w.heap.size := by
  have c1 := h.c1
  have fz := h.fz
  have hcl := fun ty => run_clear und124 h.hm ty
  have hFd : d ∉ dur :: m :: ps.flatMap PEnt.foot := (List.nodup_cons.1 hF).1
  have hdm : m ≠ d := fun e => hFd (by simp [e])
  have hdd : dur ≠ d := fun e => hFd (by simp [e])
  have hdu : dur ≠ m := fun e => (List.nodup_cons.1 (List.nodup_cons.1 hF).2).1 (by simp [e])
  have h1c := cell_setBlk_ne h.c1 (Ne.symm hdm) (mapO [] clock)
  have h9c := cell_setBlk_ne h.c9 (Ne.symm hdm) (mapO [] clock)
  have hd1 := h.hd.setBlk_ne (Ne.symm hdm) (mapO [] clock)
  have hf1 := hd1.frz
  replace h := hid h; replace hF := hid hF; replace hd1 := hid hd1
  go_enter Tryz.func139, Tryz.ntmps139
  go_wp2
  go_end0
  have hk : Keeps (fun i => i = d ∨ i = m) w ((w.setBlk m (mapO [] clock)).setCell ⟨d, 9, none⟩ (.int .i64 0)) :=
    ((keeps_setBlk w m (mapO [] clock)).mono (fun _ _ e => .inr e)).setCell (.inl (.inl rfl)) _
  refine ⟨rfl, ⟨?_, ?_, ?_, ?_, ?_, ?_, ?_, ?_, h.out.hlen, h.out.hmax, h.out.hpos, ?_, ?_, h.out.hleft⟩, hk, ?_⟩
  · exact hd1.out.setCell 9 _
  · exact hk.blk h.out.hdur (fun e => by omega)
  · exact (h.out.hm.setBlk (mapO [] clock)).setCell_ne hdm _
  all_goals first | (intro p hp; cases hp; done) | rfl | (simp; done) | (simp [World.setBlk]; done)

structure FlushRel (w : World) (d : Nat) (D : DM) (dur m : Nat) (ps : List PEnt) (clock r : Nat) (wr : World) (seen : Array Nat) : Prop where
  hD : DiskAt wr d (D.mid ps seen) dur m ps clock
  hr : Blk wr r (iterO m clock seen)
  hk : Keeps (· = dur) w wr

theorem flush_dead {F : List Nat} (h : DiskRep w d D F) (hb : D.burnt = true) : Calls Tryz.prog 111 #[.pointer (some ⟨d, 0, none⟩)] w fun e w' => e = .returned (.int .i64 3) ∧ w = w' := by
  replace h := hid h
  go_enter Tryz.func111, Tryz.ntmps111
  go_wp2_with (go_at_call 94; refine (burnt_w h.out).mono ?_; rintro e w' ⟨rfl, rfl⟩)
  go_ret
  exact ⟨rfl, rfl⟩

set_option maxHeartbeats 1000000 in
theorem flush_ok {F : List Nat} (h : DiskRep w d D F) (hb : D.burnt = false) : Calls Tryz.prog 111 #[.pointer (some ⟨d, 0, none⟩)] w fun e w' =>
    e = .returned (.int .i64 0) ∧ DPost w d F D.flushed w' := by
  have hbu := burnt_w h
  obtain ⟨dur, m, ps, clock, h1, rfl, h3⟩ := h
  have c1 := h1.c1
  have hrg := run_range und124 h1.hm
  replace h1 := hid h1; replace h3 := hid h3; replace hbu := hid hbu
  go_enter Tryz.func111, Tryz.ntmps111
  go_wp2_with (go_at_call 94; refine hbu.out.mono ?_; rintro e w' ⟨rfl, rfl⟩)
  try go_frame
  have hlt := h1.out.lt
  have hatS : FlushRel w d D dur m ps clock w.heap.size (w.alloc (iterO m clock #[])) #[] :=
    ⟨by rw [h1.out.mid_start]; exact h1.out.alloc hlt _, Blk.new _ _, (Keeps.refl _ _).alloc _⟩
  have hrF : ∀ i ∈ diskFoot d dur m ps, i ≠ w.heap.size := fun i hi e => by have := hlt i hi; omega
  generalize hr : w.heap.size = r at *
  replace hlt := hid hlt; replace hrF := hid hrF; replace hr := hid hr
  go_loopw [3] (fun _ wr => ∃ seen, FlushRel w d D dur m ps clock r wr seen) (fun _ wr => iterLeft (ps.map PEnt.ent) r wr)
  case atStart => exact ⟨_, hatS⟩
  case round =>
    obtain ⟨seen, hL⟩ := hrel
    clear hatS
    go_wp2_with (at_next; refine wpList_nextV rfl (.tmp 10) rfl r m clock (ps.map PEnt.ent) seen rfl hL.hr hL.hD.hm (fun x hx => by obtain ⟨p, hp, rfl⟩ := List.mem_map.1 hx; exact h1.out.hc p hp) ?_ ?_)
    · intro hdone
      have hS := settle_w hL.hD h3.out
      replace hdone := hid hdone; replace hL := hid hL; replace hS := hid hS
      go_wp2_with fail
      refine hS.out.mono ?_
      rintro e w5 ⟨rfl, h5, k5, s5⟩
      have c7 := h5.c7
      have fz := h5.fz
      replace h5 := hid h5; replace k5 := hid k5
      go_wp2_with fail
      have hN : (diskFoot d dur m []).Nodup := by
        have := h3.out
        simp only [diskFoot, List.nodup_cons, List.mem_cons, not_or, List.flatMap_nil] at this ⊢
        exact ⟨⟨this.1.1, this.1.2.1, by simp⟩, ⟨this.2.1.1, by simp⟩, by simp, by simp⟩
      have h6 := h5.out.set hN (D' := { (D.mid ps seen).settled with flushes := wrap64 ((D.mid ps seen).settled.flushes + 1) }) 7 (.int .i64 (wrap64 ((D.mid ps seen).settled.flushes + 1))) (h5.out.hd.setCell 7 _) rfl rfl (Nat.le_refl _) h5.out.hleft
      have e6 : ({ (D.mid ps seen).settled with flushes := wrap64 ((D.mid ps seen).settled.flushes + 1) } : DM).spent = D.flushed := by
        have := h1.out.mid_end seen hdone.out
        simp only [DM.flushed, DM.settled, DM.mid, this]
      refine (spend_w ⟨dur, m, [], clock, h6, rfl, hN⟩ (fun hf => ?_)).mono ?_
      · have hb' : (D.fused && (D.left == 0)) = false := hb
        have hf' : D.fused = true := hf
        have hl := h1.out.hleft
        show 0 < D.left
        rw [hf'] at hb'
        simp at hb'
        omega
      rintro e w8 ⟨rfl, h8, k8⟩
      rw [e6] at h8
      replace h6 := hid h6; replace h8 := hid h8; replace k8 := hid k8
      go_wp2
      go_ret
      refine ⟨rfl, diskFoot d dur m [], h8.out, ?_, fun i hi => .inl ?_⟩
      · have hsub : ∀ i, i ∈ diskFoot d dur m [] → i ∈ diskFoot d dur m ps := fun i e => by
          simp only [diskFoot, List.mem_cons, List.flatMap_nil, List.not_mem_nil, or_false] at e
          simp only [diskFoot, List.mem_cons]
          rcases e with e | e | e
          · exact .inl e
          · exact .inr (.inl e)
          · exact .inr (.inr (.inl e))
        have kA := hL.out.hk.mono (G := (· ∈ diskFoot d dur m ps)) (fun i _ e => by subst e; simp [diskFoot])
        have kB := k5.out.mono (G := (· ∈ diskFoot d dur m ps)) (fun i _ e => by rcases e with rfl | rfl <;> simp [diskFoot])
        have kC := (Keeps.refl (· ∈ diskFoot d dur m ps) w5).setCell (p := ⟨d, 7, none⟩) (.inl (by simp [diskFoot])) (.int .i64 (wrap64 ((D.mid ps seen).settled.flushes + 1)))
        have kD := k8.out.mono (G := (· ∈ diskFoot d dur m ps)) (fun i _ e => hsub i e)
        exact ((kA.step kB).step kC).step kD
      · simp only [diskFoot, List.mem_cons, List.flatMap_nil, List.not_mem_nil, or_false] at hi
        simp only [diskFoot, List.mem_cons]
        rcases hi with e | e | e
        · exact .inl e
        · exact .inr (.inl e)
        · exact .inr (.inr (.inl e))
    · rintro a v b hx w' hr' hk' hs'
      obtain ⟨p, hp, hpe⟩ := List.mem_map.1 (mem_restOf hx).1
      have ha : p.key = a := congrArg (·.1) hpe
      have hv : p.val = v := congrArg (·.2.1) hpe
      have hbo : p.born = b := congrArg (·.2.2) hpe
      subst ha hv hbo
      have h' : DiskAt w' d (D.mid ps seen) dur m ps clock := hL.hD.keep fun i hi => hk'.block i (hL.hD.lt i hi) (hrF.out i hi)
      have hen := run_entryV (P := Tryz.prog) (x := p.ent) hr' h'.hm (mem_restOf hx).1 (by simpa [Function.comp_def, PEnt.ent] using h1.out.hb)
      have hkn : (p.key : Int) < (D.mid ps seen).n := by rw [h1.out.mid_n]; exact_mod_cast h1.out.hn p hp
      have hnow := h1.out.now_key hp (flushTo D ps seen)
      replace hen : (Instr.entry (.pointer (some ⟨r, 0, none⟩))).run Tryz.prog w' = .ok (.tuple #[.int .i64 p.key, p.val]) w' := hen
      replace hL := hid hL; replace hx := hid hx; replace h' := hid h'; replace hr' := hid hr'; replace hk' := hid hk'; replace hs' := hid hs'; replace hnow := hid hnow
      go_wp2_with fail
      refine (home_w h'.out p.key (by omega) hkn).mono ?_
      rintro e w6 ⟨rfl, rfl⟩
      go_wp2_with fail
      refine (now_b h'.out p.key (by omega) hkn).mono ?_
      rintro e w6 ⟨g, off, c, src, rfl, rfl, hg, hlen, hnw, hmem⟩
      dsimp only
      go_step
      have hdl : (D.mid ps seen).dur.length = D.dur.length := h1.out.mid_length seen
      have hl1 := h1.out.hlen
      have hl2 := h1.out.hn p hp
      refine wpList_copyB rfl (.tmp 17) (.tmp 20) 57 57 rfl 5 und22 size5 _ _ _ _ _ _ _ _ rfl rfl _ _ h'.out.hdur hg (by rw [hdl]; omega) hlen ?_
      intro w7 hb7 hk7 hs7
      have e7 : lay (D.mid ps seen).dur (512 * p.key) ((src.drop off).take (Nat.min 512 512)) = flushTo D ps (seen.push p.born) := by
        rw [show Nat.min 512 512 = 512 from rfl, hnw, Int.toNat_natCast]
        show lay (flushTo D ps seen) _ ((D.mid ps seen).now p.key) = _
        rw [show (D.mid ps seen).now p.key = D.now p.key from hnow.out, h1.out.mid_step hp]
      rw [e7] at hb7
      have h7 : DiskAt w7 d (D.mid ps (seen.push p.born)) dur m ps clock := by
        have := h'.out.turn_dur h3.out hk7 hb7 (by rw [h1.out.mid_length]; exact (h1.out.mid_length seen).symm)
        exact this
      have hr7 : Blk w7 r (iterO m clock (seen.push p.born)) := hk7.blk hr'.out (fun e => hrF.out dur (by simp [diskFoot]) e.symm)
      have hk8 : Keeps (· = dur) w w7 := by
        have h1k : Keeps (· = dur) w w' := hL.out.hk.trans hk'.out (fun i hi e => by subst e; have := hr.out; omega)
        exact h1k.trans hk7 (fun _ _ e => e)
      replace h7 := hid h7; replace hr7 := hid hr7; replace hk8 := hid hk8; replace hb7 := hid hb7; replace hk7 := hid hk7; replace e7 := hid e7
      go_wp2
      go_roundw
      case rel =>
        have hfin : ∃ seen, FlushRel w d D dur m ps clock r w7 seen := ⟨_, h7.out, hr7.out, hk8.out⟩
        first | exact hfin | ((repeat apply Exists.intro); exact ⟨hfin, rfl⟩)
      case measure => rw [iterLeft_eq hr7.out, iterLeft_eq hL.out.hr]; exact restOf_lt hx.out
end
end Go.Vk

namespace Go.Vk
open Go.RowKit Go.Proofs

def DM.new (n : Nat) : DM := { dur := zeros (512 * n), pend := fun _ => [], fused := false, left := 0, life := 1, reads := 0, writes := 0, flushes := 0, refused := 0, pending := 0 }

theorem newDisk {w : World} {n : Nat} (h1 : 1 ≤ n) (h2 : n ≤ 2048) :
    DiskRep (((w.alloc (bytesO (zeros (512 * n)))).alloc (mapO [] 0)).alloc (diskO w.heap.size (512 * n) (w.heap.size + 1) (DM.new n))) (w.heap.size + 2) (DM.new n) [w.heap.size + 2, w.heap.size, w.heap.size + 1] := by
  have hl : (DM.new n).dur.length = 512 * n := length_zeros _
  have hn : (DM.new n).n = n := by simp only [DM.n, hl]; omega
  have b0 := ((Blk.new w (bytesO (zeros (512 * n)))).alloc (mapO [] 0)).alloc (diskO w.heap.size (512 * n) (w.heap.size + 1) (DM.new n))
  have b1 := (Blk.new (w.alloc (bytesO (zeros (512 * n)))) (mapO [] 0)).alloc (diskO w.heap.size (512 * n) (w.heap.size + 1) (DM.new n))
  have b2 := Blk.new ((w.alloc (bytesO (zeros (512 * n)))).alloc (mapO [] 0)) (diskO w.heap.size (512 * n) (w.heap.size + 1) (DM.new n))
  simp only [World.size_alloc] at b1 b2
  refine ⟨w.heap.size, w.heap.size + 1, [], 0, ⟨?_, b0, b1, ?_, ?_, ?_, ?_, ?_, ?_, ?_, ?_, ?_, ?_, ?_⟩, rfl, ?_⟩
  · rw [hl]; exact b2
  · intro p hp; cases hp
  · exact List.nodup_nil
  · exact List.nodup_nil
  · intro p hp; cases hp
  · intro p hp; cases hp
  · rw [hl, hn]
  · rw [hn]; exact h2
  · rw [hn]; exact h1
  · rfl
  · intro p hp; cases hp
  · exact ⟨Int.le_refl _, by show (0 : Int) ≤ _; omega⟩
  · simp

theorem new_ok (n : Nat) (h1 : 1 ≤ n) (h2 : n ≤ 2048) (w : World) : Calls Tryz.prog 61 #[.int .i64 n] w fun e w' => ∃ d F, e = .returned (.tuple #[.pointer (some ⟨d, 0, none⟩), .int .i64 0]) ∧
    DiskRep w' d (DM.new n) F ∧ Keeps (fun _ => False) w w' ∧ ∀ k ∈ F, w.heap.size ≤ k := by
  have hmk : ∀ w, (Instr.makeSlice 57 (.int .i64 ((n : Int) * 512)) (.int .i64 ((n : Int) * 512))).run Tryz.prog w = .ok (.slice (some ⟨w.heap.size, 0, none⟩) (512 * n) (512 * n)) (w.alloc (bytesO (zeros (512 * n)))) := fun w => by
    have := mkB (512 * n) (by omega) w
    rwa [show ((512 * n : Nat) : Int) = (n : Int) * 512 by omega] at this
  have hmm : ∀ w, (Instr.makeMap 162 none).run Tryz.prog w = .ok (.map (some w.heap.size)) (w.alloc (mapO [] 0)) := fun w => run_makeMap _ w
  go_enter Tryz.func61, Tryz.ntmps61
  go_wp2
  go_ret2
  exact ⟨_, _, rfl, newDisk h1 h2, (((Keeps.refl _ _).alloc _).alloc _).alloc _, by simp⟩

theorem counts_w {w : World} {d : Nat} {D : DM} {F : List Nat} (h : DiskRep w d D F) : Calls Tryz.prog 81 #[.pointer (some ⟨d, 0, none⟩)] w fun e w' =>
    e = .returned (.agg #[.int .i64 D.reads, .int .i64 D.writes, .int .i64 D.flushes, .int .i64 D.refused, .int .i64 D.pending]) ∧ Keeps (fun _ => False) w w' := by
  obtain ⟨dur, m, ps, clock, h1, rfl, h3⟩ := h
  have c5 := h1.c5
  have c6 := h1.c6
  have c7 := h1.c7
  have c8 := h1.c8
  have c9 := h1.c9
  have hd := h1.hd.lt
  clear h1 h3
  go_enter Tryz.func81, Tryz.ntmps81
  go_wp2
  exact bodyPost_ret (v := .agg #[.int .i64 D.reads, .int .i64 D.writes, .int .i64 D.flushes, .int .i64 D.refused, .int .i64 D.pending]) (by simp [results, Tryz.results81, go_sem]) rfl ⟨rfl, (Keeps.refl _ _).alloc _⟩

end Go.Vk
