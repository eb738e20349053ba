/- The walk of zeroed of package store, and the closures of Format. The disk's model by itself: what is kept from step to step. The closures of Format of package store. The walk of Format of package store, where the geometry is right. Plain laws of bytes: sealed sectors, superblocks. Plain laws of a disk without a fuse: what stands in its sectors behind each step. A map of blocks, a store, as they lie in memory; the closure of Open of package store. The walk of Open of package store, where the log is empty and all is well. The walk of bytes.Clone; a look-up in a map of blocks. -/
import Derived.Test.YtceodjgajkimnaaGreatMF
import Derived.Test.YtceodjgajkimnaaGreatMC
set_option linter.unusedVariables false

namespace Go.Vk
open Go.RowKit Go.Proofs

theorem zeroRun_n (c : Nat) : ∀ (D : DM) (a : Nat), (D.zeroRun a c).2.n = D.n := by
  induction c with
  | zero => intro D a; rfl
  | succ c ih =>
    intro D a
    cases hb : D.burnt with
    | true => rw [zeroRun_dead _ _ _ hb]
    | false => rw [zeroRun_step _ _ _ hb, ih, wr_n]
theorem zeroRun_writes (c : Nat) : ∀ (D : DM) (a : Nat), (D.zeroRun a c).2.writes ≤ D.writes + c := by
  induction c with
  | zero => intro D a; exact Nat.le_refl _
  | succ c ih =>
    intro D a
    cases hb : D.burnt with
    | true => rw [zeroRun_dead _ _ _ hb]; exact Nat.le_add_right _ _
    | false => rw [zeroRun_step _ _ _ hb]; have := ih (D.wrote a (zeros 512)).spent (a + 1); rw [wr_writes] at this; omega

section
variable {w : World} {d : Nat} {D : DM} {F : List Nat}
set_option maxHeartbeats 1000000 in
theorem zeroed_w (h : DiskRep w d D F) (f : Nat) (h3 : f ≤ D.n) (h4 : D.n ≤ 2048) (hw : D.writes < 1099511620000) :
    Calls Tryz.prog 113 #[.pointer (some ⟨d, 0, none⟩), .int .i64 f] w fun e w' =>
      e = .returned (.int .i64 ((D.zeroRun f (D.n - f)).1 : Nat)) ∧ DPost w d F (D.zeroRun f (D.n - f)).2 w' := by
  have hmk := mk512
  generalize hn : D.n = N at h3 h4 ⊢
  have hX : ∀ W c D', c = (D.zeroRun f (N - f)).1 → D' = (D.zeroRun f (N - f)).2 → DPost w d F D' W →
      (Ending.returned (.int .i64 (c : Nat)) = .returned (.int .i64 ((D.zeroRun f (N - f)).1 : Nat)) ∧ DPost w d F (D.zeroRun f (N - f)).2 W) := by
    rintro W c D' rfl rfl h
    exact ⟨rfl, h⟩
  have hlt := h.lt
  have hA : DAt w d F D F (w.alloc (bytesO (zeros 512))) := ⟨h.keeps ((Keeps.refl (fun _ => False) w).alloc _) (fun _ _ f => f), fun _ hk => .inl hk, (Keeps.refl _ w).alloc _⟩
  have hZ := Blk.new w (bytesO (zeros 512))
  have hzF : w.heap.size ∉ F := fun hm => by have := hlt _ hm; omega
  generalize hx : D.zeroRun f (N - f) = x at hX
  have h5 := And.intro hA hZ
  replace h := hid h; replace hX := hid hX; replace hx := hid hx; replace hlt := hid hlt; replace hzF := hid hzF; replace h5 := hid h5
  go_enter Tryz.func113, Tryz.ntmps113
  go_upto_region 2 with fail
  refine wp_gen (fun W => DAt w d F D F W ∧ Blk W w.heap.size (bytesO (zeros 512))) h5.out ?_
  clear h5 hA hZ
  rintro w5 ⟨hA, hz⟩
  have hge : w.heap.size ≤ w.heap.size := Nat.le_refl _
  generalize hzz : w.heap.size = z at hz hzF hge ⊢
  replace hA := hid hA; replace hz := hid hz; replace hge := hid hge; replace hzz := hid hzz
  go_wp2
  go_loopw [6] (fun i wr => ∃ (k : Nat) (Dk : DM) (Fk : List Nat), f + k ≤ N ∧ i = .int .i64 (f + k : Nat) ∧ Dk.zeroRun (f + k) (N - f - k) = x ∧ Dk.n = N ∧ Dk.writes ≤ D.writes + k ∧ DAt w d F Dk Fk wr ∧ Blk wr z (bytesO (zeros 512)) ∧ z ∉ Fk) (fun i _ => N - (intOf i).toNat)
  case atStart => exact ⟨0, D, F, by omega, rfl, by rw [← hx.out, Nat.add_zero, Nat.sub_zero], hn, Nat.le_add_right _ _, hA.out, hz.out, hzF.out⟩
  case round =>
    obtain ⟨k, Dk, Fk, hk, rfl, hrun, hnk, hwk, hA7, hz7, hzF7⟩ := hrel
    clear hA hz
    have hcast : ((f + k : Nat) : Int) = (f : Int) + (k : Int) := by omega
    have hS := sectors_w hA7.rep
    rw [hnk] at hS
    by_cases hlk : f + k < N
    · obtain ⟨c, hc⟩ : ∃ c, N - f - k = c + 1 := ⟨N - f - k - 1, by omega⟩
      rw [hc] at hrun
      cases hbk : Dk.burnt with
      | true =>
        rw [zeroRun_dead _ _ _ hbk] at hrun
        have hXX := hX.out wr 3 Dk (by rw [← hrun]) (by rw [← hrun]) hA7.post
        have hW := write_dead hA7.rep hbk ((f + k : Nat) : Int) (.slice (some ⟨z, 0, none⟩) 512 512)
        replace hrun := hid hrun; replace hA7 := hid hA7; replace hz7 := hid hz7; replace hW := hid hW; replace hXX := hid hXX; replace hcast := hid hcast; replace hS := hid hS
        go_wp2_with (first
          | (go_at_call 107; refine hS.out.mono ?_; rintro e w8 ⟨rfl, rfl⟩)
          | (go_at_call 110; refine hW.out.mono ?_; rintro e w8 ⟨rfl, rfl⟩))
        go_ret
        exact hXX.out
      | false =>
        rw [zeroRun_step _ _ _ hbk] at hrun
        have hW := write_ok hA7.rep hbk ((f + k : Nat) : Int) (by omega) (by rw [hnk]; omega) (by omega) z 0 512 5 (zeros 512) hz7 (by rw [length_zeros]; decide)
        rw [List.drop_zero, List.take_of_length_le (by rw [length_zeros]; decide), Int.toNat_natCast] at hW
        replace hrun := hid hrun; replace hA7 := hid hA7; replace hz7 := hid hz7; replace hW := hid hW; replace hcast := hid hcast; replace hS := hid hS
        go_wp2_with (first
          | (go_at_call 107; refine hS.out.mono ?_; rintro e w8 ⟨rfl, rfl⟩)
          | (go_at_call 110; refine hW.out.mono ?_; rintro e w8 ⟨rfl, hp8⟩; replace hp8 := hid hp8))
        obtain ⟨F8, hA8⟩ := DAt.of hp8.out
        have hzl := hz7.out.lt
        refine ⟨⟨k + 1, (Dk.wrote (f + k) (zeros 512)).spent, F8, by omega, by go_num, ?_, by rw [wr_n]; exact hnk, by rw [wr_writes]; omega, hA7.out.trans hA8, hA8.blk hz7.out hzF7, hA8.out_of hzF7 hzl⟩, ?_⟩
        · rw [← hrun.out, show N - f - (k + 1) = c by omega]; rfl
        · simp [intOf]; omega
    · have hk2 : N - f - k = 0 := by omega
      rw [hk2] at hrun
      have hrun' : x = (0, Dk) := hrun.symm
      have hXX := hX.out wr 0 Dk (by rw [hrun']) (by rw [hrun']) hA7.post
      have hle : (N : Int) ≤ (f : Int) + (k : Int) := by omega
      replace hrun := hid hrun; replace hA7 := hid hA7; replace hz7 := hid hz7; replace hXX := hid hXX; replace hcast := hid hcast; replace hS := hid hS; replace hrun' := hid hrun'; replace hk2 := hid hk2; replace hlk := hid hlk
      go_wp2_with (go_at_call 107; refine hS.out.mono ?_; rintro e w8 ⟨rfl, rfl⟩)
      go_ret
      exact hXX.out
end
end Go.Vk

namespace Go.Vk
open Go.RowKit

/-- Whole sectors. -/
structure DM.Wf (D : DM) : Prop where
  len : D.dur.length = 512 * D.n
  pos : 1 ≤ D.n
  max : D.n ≤ 2048
  pend : ∀ k, ∀ b ∈ D.pend k, b.length = 512

theorem DiskRep.wf {w : World} {d : Nat} {D : DM} {F : List Nat} (h : DiskRep w d D F) : D.Wf := by
  obtain ⟨dur, m, ps, clock, h1, rfl, h3⟩ := h
  refine ⟨h1.hlen, h1.hpos, h1.hmax, fun k b hb => ?_⟩
  rw [h1.hpend] at hb
  unfold pendOf at hb
  cases hf : ps.find? (·.key == k) with
  | none => rw [hf] at hb; cases hb
  | some p =>
    rw [hf] at hb
    simp only [Option.map_some, Option.getD_some, List.mem_map] at hb
    obtain ⟨s, hs, rfl⟩ := hb
    exact ((h1.hp p (List.mem_of_find?_eq_some hf)).2.2 s hs).1
theorem DM.Wf.home_length {D : DM} (h : D.Wf) {k : Nat} (hk : k < D.n) : (D.home k).length = 512 := by
  unfold DM.home
  rw [List.length_take, List.length_drop, h.len]; omega
theorem DM.Wf.now_length {D : DM} (h : D.Wf) {k : Nat} (hk : k < D.n) : (D.now k).length = 512 := by
  unfold DM.now
  cases hp : (D.pend k).getLast? with
  | none => exact h.home_length hk
  | some b => exact h.pend k b (List.mem_of_getLast? hp)
theorem DM.Wf.flushed_n {D : DM} (h : D.Wf) : D.flushed.n = D.n := by
  unfold DM.flushed
  rw [spent_n]
  have hl := length_secs (n := D.n) (f := D.now) (fun k hk => h.now_length hk)
  show (secs D.n D.now).length / 512 = D.n
  rw [hl]; omega

/-- A step that keeps the disk whole, and writes no more than c times. -/
structure Steps (D D' : DM) (c : Nat) : Prop where
  wf : D'.Wf
  n : D'.n = D.n
  writes : D'.writes ≤ D.writes + c
theorem Steps.refl {D : DM} (h : D.Wf) (c : Nat) : Steps D D c := ⟨h, rfl, Nat.le_add_right _ _⟩
theorem Steps.trans {A B C : DM} {a b c : Nat} (h : Steps A B a) (k : Steps B C b) (hc : a + b ≤ c) : Steps A C c := ⟨k.wf, k.n.trans h.n, by have := h.writes; have := k.writes; omega⟩
theorem Steps.mono {A B : DM} {a b : Nat} (h : Steps A B a) (hab : a ≤ b) : Steps A B b := ⟨h.wf, h.n, by have := h.writes; omega⟩

theorem DM.Wf.spent {D : DM} (h : D.Wf) : D.spent.Wf := by
  unfold DM.spent
  split
  · exact ⟨h.len, h.pos, h.max, h.pend⟩
  · exact h
theorem DM.Wf.wrote {D : DM} (h : D.Wf) (k : Nat) {bs : List UInt8} (hb : bs.length = 512) : Steps D (D.wrote k bs).spent 1 := by
  refine ⟨DM.Wf.spent ⟨h.len, h.pos, h.max, fun j b hj => ?_⟩, wr_n _ _ _, by rw [wr_writes]; exact Nat.le_refl _⟩
  unfold DM.wrote at hj
  dsimp only at hj
  split at hj
  · rcases List.mem_append.1 hj with e | e
    · exact h.pend k b e
    · rw [List.mem_singleton.1 e]; exact hb
  · exact h.pend j b hj
theorem DM.Wf.flushed {D : DM} (h : D.Wf) : Steps D D.flushed 0 := by
  refine ⟨?_, h.flushed_n, by rw [flushed_writes]; exact Nat.le_refl _⟩
  have hl := length_secs (n := D.n) (f := D.now) (fun k hk => h.now_length hk)
  unfold DM.flushed
  refine DM.Wf.spent ⟨?_, ?_, ?_, fun k b hb => by cases hb⟩
  · show (secs D.n D.now).length = 512 * ((secs D.n D.now).length / 512)
    rw [hl]; omega
  · show 1 ≤ (secs D.n D.now).length / 512
    rw [hl]; have := h.pos; omega
  · show (secs D.n D.now).length / 512 ≤ 2048
    rw [hl]; have := h.max; omega
theorem DM.Wf.readed {D : DM} (h : D.Wf) : Steps D D.readed 0 := ⟨⟨h.len, h.pos, h.max, h.pend⟩, rfl, Nat.le_refl _⟩
theorem DM.Wf.took {D : DM} (h : D.Wf) : Steps D D.took 0 := ⟨⟨h.len, h.pos, h.max, h.pend⟩, rfl, Nat.le_refl _⟩
theorem DM.Wf.wr {D : DM} (h : D.Wf) (k : Nat) {bs : List UInt8} (hb : bs.length = 512) : Steps D (D.wr k bs).2 1 := by
  unfold DM.wr
  split
  · exact Steps.refl h 1
  · exact h.wrote k hb
theorem DM.Wf.fl {D : DM} (h : D.Wf) : Steps D D.fl.2 0 := by
  unfold DM.fl
  split
  · exact Steps.refl h 0
  · exact h.flushed
theorem DM.Wf.zeroRun (c : Nat) : ∀ {D : DM} (_ : D.Wf) (a : Nat), Steps D (D.zeroRun a c).2 c := by
  induction c with
  | zero => intro D h a; exact Steps.refl h 0
  | succ c ih =>
    intro D h a
    cases hb : D.burnt with
    | true => rw [zeroRun_dead _ _ _ hb]; exact Steps.refl h _
    | false =>
      rw [zeroRun_step _ _ _ hb]
      have h1 := h.wrote a (length_zeros 512)
      exact h1.trans (ih h1.wf (a + 1)) (by omega)
theorem DM.Wf.anchorM {D : DM} (h : D.Wf) (f e t : Nat) : Steps D (anchorM D f e t).2 1 := by
  unfold Go.Vk.anchorM
  split
  · exact Steps.refl h 1
  · split
    · exact (h.readed.trans (c := 0) h.readed.wf.readed (by omega)).mono (by omega)
    · have h1 := h.readed.trans (c := 0) h.readed.wf.readed (by omega)
      have h2 := h1.trans (c := 1) (h1.wf.wrote (f + renewTo (D.now f) (D.now (f + 1))) (renewS_length (D.now f) (D.now (f + 1)) (e * 4294967296 + t))) (by omega)
      exact h2.trans h2.wf.fl (by omega)
theorem okThen_steps {D : DM} {x : Nat × DM} {g : DM → Nat × DM} {a b c : Nat} (h : Steps D x.2 a) (k : x.1 = 0 → Steps x.2 (g x.2).2 b) (hc : a + b ≤ c) : Steps D (okThen x g).2 c := by
  unfold okThen
  split
  · rename_i e
    exact h.trans (k e) hc
  · exact h.mono (by omega)
theorem DM.Wf.walFormatM {D : DM} (h : D.Wf) (f n : Nat) : Steps D (walFormatM D f n).2 (n + 3) := by
  unfold Go.Vk.walFormatM
  split
  · exact Steps.refl h _
  · have h1 := h.took.trans (c := n + 2) (DM.Wf.zeroRun (n + 2) h.took.wf f) (by omega)
    have h2 := okThen_steps (c := n + 2) h1 (g := DM.fl) (b := 0) (fun _ => h1.wf.fl) (by omega)
    exact okThen_steps h2 (b := 1) (fun _ => h2.wf.anchorM f 1 0) (by omega)

/-- Steps one behind another, as far as all goes well. -/
def okRun : List (DM → Nat × DM) → DM → Nat × DM
  | [], D => (0, D)
  | f :: fs, D => okThen (f D) (okRun fs)
theorem okRun_go {f : DM → Nat × DM} {fs : List (DM → Nat × DM)} {D : DM} (h : (f D).1 = 0) : okRun (f :: fs) D = okRun fs (f D).2 := by
  show okThen (f D) (okRun fs) = _
  unfold okThen
  rw [if_pos h]
theorem okRun_stop {f : DM → Nat × DM} {fs : List (DM → Nat × DM)} {D : DM} (h : (f D).1 ≠ 0) : okRun (f :: fs) D = f D := by
  show okThen (f D) (okRun fs) = _
  unfold okThen
  rw [if_neg h]
def fmtW : DM → Nat × DM := fun D => D.wr 0 (zeros 512)
def fmtZ : DM → Nat × DM := fun D => D.zeroRun 1 (D.n - 1)
def fmtL (l : Nat) : DM → Nat × DM := fun D => walFormatM D 1 l
def fmtS (s l n : Nat) : DM → Nat × DM := fun D => D.wr 0 (encSuper s l n)
def fmtSteps (s l n : Nat) : List (DM → Nat × DM) := [fmtW, DM.fl, fmtZ, DM.fl, fmtL l, fmtS s l n, DM.fl]
end Go.Vk

namespace Go.Vk
open Go.RowKit Go.Proofs

theorem length_encSuper (s l n : Nat) : (encSuper s l n).length = 512 := by
  rw [encSuper_eq]
  unfold sealedRow
  rw [length_lay (by rw [length_leBytes, length_encK]; decide), length_encK]

section
variable {w : World} {d : Nat} {D : DM} {F : List Nat}
def StepPost (w : World) (d : Nat) (F : List Nat) (x : Nat × DM) (e : Ending) (w' : World) : Prop := e = .returned (.int .i64 (x.1 : Nat)) ∧ DPost w d F x.2 w'

theorem fmt1_w (h : DiskRep w d D F) (hn : 1 ≤ D.n) (hw : D.writes < 1099511627776) (b2 b7 z : Nat) (T : TypeId) (src : List UInt8) (hl : src.length = 512)
    (h2 : Blk w b2 (.cells #[.pointer (some ⟨d, 0, none⟩)] 35 (0, 0))) (h7 : Blk w b7 (.cells #[.slice (some ⟨z, 0, none⟩) 512 512] 57 (0, 0))) (hz : Blk w z (bytesT T src)) :
    Calls Tryz.prog 109 #[.pointer (some ⟨b2, 0, none⟩), .pointer (some ⟨b7, 0, none⟩)] w (StepPost w d F (D.wr 0 src)) := by
  have q2 := h2.cell 0
  have q7 := h7.cell 0
  simp at q2 q7
  have hW := writeT_w h 0 hn hw z 0 512 T src hz (by rw [hl]; decide)
  rw [List.drop_zero, List.take_of_length_le (by rw [hl]; decide)] at hW
  unfold StepPost
  replace h := hid h; replace h2 := hid h2; replace h7 := hid h7; replace hz := hid hz; replace hW := hid hW
  go_enter Tryz.func109, Tryz.ntmps109
  go_wp2_with (go_at_call 110; refine hW.out.mono ?_; rintro e w2 ⟨rfl, hp⟩; replace hp := hid hp)
  go_ret
  exact ⟨rfl, hp.out⟩
theorem fmt4_w (h : DiskRep w d D F) (hn : 1 ≤ D.n) (hw : D.writes < 1099511627776) (b2 b7 z : Nat) (T : TypeId) (src : List UInt8) (hl : src.length = 512)
    (h2 : Blk w b2 (.cells #[.pointer (some ⟨d, 0, none⟩)] 35 (0, 0))) (h7 : Blk w b7 (.cells #[.slice (some ⟨z, 0, none⟩) 512 512] 57 (0, 0))) (hz : Blk w z (bytesT T src)) :
    Calls Tryz.prog 116 #[.pointer (some ⟨b2, 0, none⟩), .pointer (some ⟨b7, 0, none⟩)] w (StepPost w d F (D.wr 0 src)) := by
  have q2 := h2.cell 0
  have q7 := h7.cell 0
  simp at q2 q7
  have hW := writeT_w h 0 hn hw z 0 512 T src hz (by rw [hl]; decide)
  rw [List.drop_zero, List.take_of_length_le (by rw [hl]; decide)] at hW
  unfold StepPost
  replace h := hid h; replace h2 := hid h2; replace h7 := hid h7; replace hz := hid hz; replace hW := hid hW
  go_enter Tryz.func116, Tryz.ntmps116
  go_wp2_with (go_at_call 110; refine hW.out.mono ?_; rintro e w2 ⟨rfl, hp⟩; replace hp := hid hp)
  go_ret
  exact ⟨rfl, hp.out⟩
theorem fmt2_w (h : DiskRep w d D F) (hn : 1 ≤ D.n) (hn2 : D.n ≤ 2048) (hw : D.writes < 1099511620000) (b2 : Nat)
    (h2 : Blk w b2 (.cells #[.pointer (some ⟨d, 0, none⟩)] 35 (0, 0))) :
    Calls Tryz.prog 112 #[.pointer (some ⟨b2, 0, none⟩)] w (StepPost w d F (D.zeroRun 1 (D.n - 1))) := by
  have q2 := h2.cell 0
  simp at q2
  have hW := zeroed_w h 1 hn hn2 hw
  rw [show ((1 : Nat) : Int) = 1 from rfl] at hW
  unfold StepPost
  replace h := hid h; replace h2 := hid h2; replace hW := hid hW
  go_enter Tryz.func112, Tryz.ntmps112
  go_wp2_with (go_at_call 113; refine hW.out.mono ?_; rintro e w2 ⟨rfl, hp⟩; replace hp := hid hp)
  go_ret
  exact ⟨rfl, hp.out⟩
theorem fmt3_w (h : DiskRep w d D F) (hn2 : D.n ≤ 2048) (hw : D.writes < 1099511620000) (b2 b3 s l n : Nat) (h1 : 18 ≤ l) (h1' : l ≤ 256) (h3' : 1 + 2 + l ≤ D.n)
    (h2 : Blk w b2 (.cells #[.pointer (some ⟨d, 0, none⟩)] 35 (0, 0))) (h3 : Blk w b3 (superO s l n)) :
    Calls Tryz.prog 114 #[.pointer (some ⟨b2, 0, none⟩), .pointer (some ⟨b3, 0, none⟩)] w (StepPost w d F (walFormatM D 1 l)) := by
  have q2 := h2.cell 0
  have q3 := h3.cell 1
  simp at q2 q3
  have hW := walFormat_w h 1 l h1 h1' h3' hn2 hw
  rw [show ((1 : Nat) : Int) = 1 from rfl] at hW
  unfold StepPost
  replace h := hid h; replace h2 := hid h2; replace h3 := hid h3; replace hW := hid hW
  go_enter Tryz.func114, Tryz.ntmps114
  go_wp2_with (go_at_call 115; refine hW.out.mono ?_; rintro e w2 ⟨rfl, hp⟩; replace hp := hid hp)
  go_ret
  exact ⟨rfl, hp.out⟩
end
end Go.Vk

namespace Go.Vk
open Go.RowKit Go.Proofs

def fmtFuns (d b2 b3 b5 b7 : Nat) : List Value :=
  [.func (.func 109) #[] #[.pointer (some ⟨b2, 0, none⟩), .pointer (some ⟨b7, 0, none⟩)], .func (.func 111) #[.pointer (some ⟨d, 0, none⟩)] #[],
   .func (.func 112) #[] #[.pointer (some ⟨b2, 0, none⟩)], .func (.func 111) #[.pointer (some ⟨d, 0, none⟩)] #[],
   .func (.func 114) #[] #[.pointer (some ⟨b2, 0, none⟩), .pointer (some ⟨b3, 0, none⟩)],
   .func (.func 116) #[] #[.pointer (some ⟨b2, 0, none⟩), .pointer (some ⟨b5, 0, none⟩)], .func (.func 111) #[.pointer (some ⟨d, 0, none⟩)] #[]]
/-- What Format's steps hold. -/
structure FmtEnv (W : World) (d b2 b3 b5 b7 zb g sb s l n : Nat) : Prop where
  h2 : Blk W b2 (.cells #[.pointer (some ⟨d, 0, none⟩)] 35 (0, 0))
  h3 : Blk W b3 (superO s l n)
  h5 : Blk W b5 (.cells #[.slice (some ⟨g, 0, none⟩) 512 512] 57 (0, 0))
  h7 : Blk W b7 (.cells #[.slice (some ⟨zb, 0, none⟩) 512 512] 57 (0, 0))
  hz : Blk W zb (bytesO (zeros 512))
  hg : Blk W g (bytesO (encSuper s l n))
  hs : Blk W sb (.cells (fmtFuns d b2 b3 b5 b7).toArray 40 (0, 0))
def fmtBlocks (b2 b3 b5 b7 zb g sb : Nat) : List Nat := [b2, b3, b5, b7, zb, g, sb]
theorem FmtEnv.keeps {W W' : World} {d b2 b3 b5 b7 zb g sb s l n : Nat} {G : Nat → Prop} (h : FmtEnv W d b2 b3 b5 b7 zb g sb s l n) (k : Keeps G W W') (hG : ∀ b ∈ fmtBlocks b2 b3 b5 b7 zb g sb, ¬ G b) : FmtEnv W' d b2 b3 b5 b7 zb g sb s l n :=
  ⟨k.blk h.h2 (hG _ (by simp [fmtBlocks])), k.blk h.h3 (hG _ (by simp [fmtBlocks])), k.blk h.h5 (hG _ (by simp [fmtBlocks])), k.blk h.h7 (hG _ (by simp [fmtBlocks])), k.blk h.hz (hG _ (by simp [fmtBlocks])), k.blk h.hg (hG _ (by simp [fmtBlocks])), k.blk h.hs (hG _ (by simp [fmtBlocks]))⟩
theorem FmtEnv.lt {W : World} {d b2 b3 b5 b7 zb g sb s l n : Nat} (h : FmtEnv W d b2 b3 b5 b7 zb g sb s l n) : ∀ b ∈ fmtBlocks b2 b3 b5 b7 zb g sb, b < W.heap.size := by
  intro b hb
  simp only [fmtBlocks, List.mem_cons, List.not_mem_nil, or_false] at hb
  rcases hb with rfl | rfl | rfl | rfl | rfl | rfl | rfl
  all_goals first | exact h.h2.lt | exact h.h3.lt | exact h.h5.lt | exact h.h7.lt | exact h.hz.lt | exact h.hg.lt | exact h.hs.lt

section
variable {w : World} {d : Nat} {D : DM} {F : List Nat}
set_option maxHeartbeats 2000000 in
theorem format_ok (h : DiskRep w d D F) (hb : D.burnt = false) (s l n : Nat) (hp : PlanOk s l n) (hs : s = D.n) (hw : D.writes < 1099511500000) :
    Calls Tryz.prog 62 #[.pointer (some ⟨d, 0, none⟩), .agg #[.int .i64 s, .int .i64 l, .int .i64 n]] w fun e w' =>
      e = .returned (.int .i64 ((okRun (fmtSteps s l n) D.took).1 : Nat)) ∧ DPost w d F (okRun (fmtSteps s l n) D.took).2 w' := by
  have hmf : ∀ (fn : Fn) (first cap : Array Value) (w : World), (Instr.makeFunc fn first cap).run Tryz.prog w = .ok (.func fn first cap) w := fun _ _ _ _ => rfl
  have hmk := mk512
  have hE := fun W => encSuper_ok W s l n hp
  have hlt := h.lt
  have hwf := h.wf
  have hBu : ∀ W, Keeps (fun _ => False) w W → Calls Tryz.prog 94 #[.pointer (some ⟨d, 0, none⟩)] W fun e w' => e = .returned (.bool D.burnt) ∧ W = w' := fun W k => burnt_w (h.keeps k (fun _ _ f => f))
  rw [hb] at hBu
  have hB1 := hBu ((w.alloc (.cells #[.pointer (some ⟨d, 0, none⟩)] 35 (0, 0))).alloc (superO s l n)) (((Keeps.refl _ w).alloc _).alloc _)
  unfold superO at hB1
  replace h := hid h; replace hE := hid hE; replace hlt := hid hlt; replace hwf := hid hwf; replace hBu := hid hBu; replace hB1 := hid hB1; replace hs := hid hs
  go_enter Tryz.func62, Tryz.ntmps62
  go_upto_region 6 with (first
    | (go_at_call 94; refine hB1.out.mono ?_; rintro e w2 ⟨rfl, rfl⟩)
    | (go_at_call 106; refine (hE.out _).mono ?_; rintro e w3 ⟨g, hg, rfl, hG, k3⟩; replace hg := hid hg; replace hG := hid hG; replace k3 := hid k3))
  have hbs : ∀ W b o, Blk W b o → Blk (W.alloc (.cells #[.slice (some ⟨g, 0, none⟩) 512 512] 57 (0, 0))) b o := fun W b o h => h.alloc _
  have kA : Keeps (fun _ => False) w ((w.alloc (.cells #[.pointer (some ⟨d, 0, none⟩)] 35 (0, 0))).alloc (superO s l n)) := ((Keeps.refl _ w).alloc _).alloc _
  have e2 := (Blk.new w (.cells #[.pointer (some ⟨d, 0, none⟩)] 35 (0, 0))).alloc (superO s l n)
  have e3 := Blk.new (w.alloc (.cells #[.pointer (some ⟨d, 0, none⟩)] 35 (0, 0))) (superO s l n)
  rw [World.size_alloc] at e3
  have k3' : Keeps (fun _ => False) ((w.alloc (.cells #[.pointer (some ⟨d, 0, none⟩)] 35 (0, 0))).alloc (superO s l n)) w3 := k3.out
  have f2 := k3'.blk e2 (fun f => f)
  have f3 := k3'.blk e3 (fun f => f)
  have fk := kA.step k3'
  have hg' : w.heap.size + 1 + 1 ≤ g := by have := hg.out; simpa using this
  clear k3 kA e2 e3 k3' hg
  have f5 := Blk.new w3 (.cells #[.slice (some ⟨g, 0, none⟩) 512 512] 57 (0, 0))
  refine wp_gen (fun W => Blk W w.heap.size (.cells #[.pointer (some ⟨d, 0, none⟩)] 35 (0, 0)) ∧ Blk W (w.heap.size + 1) (superO s l n) ∧ Blk W w3.heap.size (.cells #[.slice (some ⟨g, 0, none⟩) 512 512] 57 (0, 0)) ∧ Blk W g (bytesO (encSuper s l n)) ∧ Keeps (fun _ => False) w W) ⟨f2.alloc _, f3.alloc _, f5, hG.out.alloc _, fk.alloc _⟩ ?_
  have hg3 : w.heap.size ≤ w3.heap.size := fk.size
  clear f2 f3 fk f5 hG hbs
  rintro w4 ⟨a2, a3, a5, ag, ak⟩
  generalize w3.heap.size = b5 at a5 hg3 ⊢
  clear w3
  have hD4 := h.out.keeps ak (fun _ _ f => f)
  have hS := fun m => sectors_w (hD4.drewN m)
  rw [← hs.out] at hS
  have q2 := a2.cell 0
  have q3 := a3.cell 0
  simp at q2 q3
  replace a2 := hid a2; replace a3 := hid a3; replace a5 := hid a5; replace ag := hid ag; replace ak := hid ak; replace hD4 := hid hD4; replace hS := hid hS
  go_quiet (first | (go_at_call 107; exact (hS.out _).mono (fun e w' h => ⟨h.1, _, h.2.symm⟩)))
  have hT := take_w (hD4.out.drewN nq)
  have q2' : (w4.drewN nq).cell? ⟨w.heap.size, 0, none⟩ = some (.pointer (some ⟨d, 0, none⟩)) := q2
  replace hT := hid hT
  go_upto_region 10 with (go_at_call 108; refine hT.out.mono ?_; rintro e w5 ⟨rfl, hD5, k5⟩; replace hD5 := hid hD5; replace k5 := hid k5)
  have hnF : ∀ i, w.heap.size ≤ i → i ∉ F := fun i hi hm => by have := hlt.out i hm; omega
  have kk : Keeps (· ∈ F) w w5 := ((ak.out.mono (G := (· ∈ F)) (fun _ _ f => f.elim)).drewN nq).step k5.out
  have kd : ∀ b o, Blk w4 b o → b ∉ F → Blk ((w5.alloc (bytesO (zeros 512))).alloc (.cells #[.slice (some ⟨w5.heap.size, 0, none⟩) 512 512] 57 (0, 0))) b o := fun b o h hb => ((k5.out.blk (h.drewN nq) hb).alloc _).alloc _
  have hz5 := (Blk.new w5 (bytesO (zeros 512))).alloc (.cells #[.slice (some ⟨w5.heap.size, 0, none⟩) 512 512] 57 (0, 0))
  have h75 := Blk.new (w5.alloc (bytesO (zeros 512))) (.cells #[.slice (some ⟨w5.heap.size, 0, none⟩) 512 512] 57 (0, 0))
  rw [World.size_alloc] at h75
  have hA5 : DAt w d F D.took F ((w5.alloc (bytesO (zeros 512))).alloc (.cells #[.slice (some ⟨w5.heap.size, 0, none⟩) 512 512] 57 (0, 0))) := ⟨hD5.out.keeps (((Keeps.refl (fun _ => False) w5).alloc _).alloc _) (fun _ _ f => f), fun _ hk => .inl hk, (kk.alloc _).alloc _⟩
  have h6 := And.intro (kd _ _ a2.out (hnF _ (Nat.le_refl _))) (And.intro (kd _ _ a3.out (hnF _ (by omega))) (And.intro (kd _ _ a5.out (hnF _ hg3)) (And.intro (kd _ _ ag.out (hnF _ (by omega))) (And.intro hz5 (And.intro h75 hA5)))))
  have hz5s : w.heap.size ≤ w5.heap.size := kk.size
  clear kk kd hz5 h75 hA5 a2 a3 a5 ag ak hD4 hS q2 q3 q2' hT hD5 k5 hE hBu hB1
  refine wp_gen (fun W => Blk W w.heap.size (.cells #[.pointer (some ⟨d, 0, none⟩)] 35 (0, 0)) ∧ Blk W (w.heap.size + 1) (superO s l n) ∧ Blk W b5 (.cells #[.slice (some ⟨g, 0, none⟩) 512 512] 57 (0, 0)) ∧ Blk W g (bytesO (encSuper s l n)) ∧ Blk W w5.heap.size (bytesO (zeros 512)) ∧ Blk W (w5.heap.size + 1) (.cells #[.slice (some ⟨w5.heap.size, 0, none⟩) 512 512] 57 (0, 0)) ∧ DAt w d F D.took F W) h6 ?_
  clear h6
  rintro w6 ⟨a2, a3, a5, ag, az, a7, aA⟩
  have q2 := a2.cell 0
  simp at q2
  replace a2 := hid a2; replace a3 := hid a3; replace a5 := hid a5; replace ag := hid ag; replace az := hid az; replace a7 := hid a7; replace aA := hid aA; replace hnF := hid hnF
  go_upto_region 11 with fail
  have hE : FmtEnv (w6.alloc (.cells (fmtFuns d w.heap.size (w.heap.size + 1) b5 (w5.heap.size + 1)).toArray 40 (0, 0))) d w.heap.size (w.heap.size + 1) b5 (w5.heap.size + 1) w5.heap.size g w6.heap.size s l n :=
    ⟨a2.out.alloc _, a3.out.alloc _, a5.out.alloc _, a7.out.alloc _, az.out.alloc _, ag.out.alloc _, Blk.new _ _⟩
  have hAA : DAt w d F D.took F (w6.alloc (.cells (fmtFuns d w.heap.size (w.heap.size + 1) b5 (w5.heap.size + 1)).toArray 40 (0, 0))) := ⟨aA.out.rep.keeps ((Keeps.refl (fun _ => False) w6).alloc _) (fun _ _ f => f), aA.out.sub, aA.out.keeps.alloc _⟩
  have hsb : w.heap.size ≤ w6.heap.size := aA.out.keeps.size
  have h7 := And.intro hE hAA
  clear hE hAA a2 a3 a5 ag az a7 aA q2
  refine wp_gen (fun W => FmtEnv W d w.heap.size (w.heap.size + 1) b5 (w5.heap.size + 1) w5.heap.size g w6.heap.size s l n ∧ DAt w d F D.took F W) h7 ?_
  clear h7
  have hnb : ∀ b ∈ fmtBlocks w.heap.size (w.heap.size + 1) b5 (w5.heap.size + 1) w5.heap.size g w6.heap.size, b ∉ F := by
    intro b hb
    refine hnF.out b ?_
    simp only [fmtBlocks, List.mem_cons, List.not_mem_nil, or_false] at hb
    rcases hb with rfl | rfl | rfl | rfl | rfl | rfl | rfl <;> omega
  generalize w5.heap.size + 1 = b7 at hnb ⊢
  generalize w5.heap.size = zb at hnb ⊢
  generalize w6.heap.size = sb at hnb ⊢
  clear w4
  rintro w7 ⟨hE, hA⟩
  have hwf1 : Steps D D.took 0 := hwf.out.took
  obtain ⟨x, hx⟩ : ∃ x, okRun (fmtSteps s l n) D.took = x := ⟨_, rfl⟩
  have hX : ∀ W c D', c = x.1 → D' = x.2 → DPost w d F D' W →
      (Ending.returned (.int .i64 (c : Nat)) = .returned (.int .i64 ((okRun (fmtSteps s l n) D.took).1 : Nat)) ∧ DPost w d F (okRun (fmtSteps s l n) D.took).2 W) := by
    rintro W c D' rfl rfl h
    rw [hx]
    exact ⟨rfl, h⟩
  obtain ⟨D1, hD1⟩ : ∃ D1, D.took = D1 := ⟨_, rfl⟩
  rw [hD1] at hA hwf1 hx
  have hl1 : 18 ≤ l := by unfold PlanOk at hp; omega
  have hl2 : l ≤ 256 := by unfold PlanOk at hp; omega
  have hl3' : 3 + l ≤ s := by unfold PlanOk at hp; omega
  clear hmf hmk
  replace hE := hid hE; replace hA := hid hA; replace hX := hid hX; replace hx := hid hx; replace hwf1 := hid hwf1; replace hnb := hid hnb; replace hD1 := hid hD1
  go_wp2
  go_loopw [43] (fun i wr => ∃ (k : Nat) (Dk : DM) (Fk : List Nat), k ≤ 7 ∧ i = .int .i64 k ∧ okRun ((fmtSteps s l n).drop k) Dk = x ∧ Steps D1 Dk (k * 5000) ∧ DAt w d F Dk Fk wr ∧ FmtEnv wr d w.heap.size (w.heap.size + 1) b5 b7 zb g sb s l n ∧ ∀ b ∈ fmtBlocks w.heap.size (w.heap.size + 1) b5 b7 zb g sb, b ∉ Fk) (fun i _ => 7 - (intOf i).toNat)
  case atStart => exact ⟨0, D1, F, by omega, rfl, hx.out, Steps.refl hwf1.out.wf _, hA.out, hE.out, hnb.out⟩
  case round =>
    obtain ⟨k, Dk, Fk, hk, rfl, hrun, hS7, hA7, hE7, hnb⟩ := hrel
    clear hE hA
    have hwk := hS7.wf
    have hnk : Dk.n = s := by rw [hS7.n, hwf1.out.n, hs.out]
    have hn1 := hwk.pos
    have hn2 := hwk.max
    have hl3 : 1 + 2 + l ≤ Dk.n := by omega
    have hwr : Dk.writes < 1099511600000 := by have := hS7.writes; have := hwf1.out.writes; omega
    have hcf1 : ∀ w0, (callFunc 109 #[.pointer (some ⟨w.heap.size, 0, none⟩), .pointer (some ⟨b7, 0, none⟩)]).run Tryz.prog w0 = .ok (.enter 109 #[.pointer (some ⟨w.heap.size, 0, none⟩), .pointer (some ⟨b7, 0, none⟩)]) w0 := fun w0 => by kernel_rfl
    have hcf2 : ∀ w0, (callFunc 112 #[.pointer (some ⟨w.heap.size, 0, none⟩)]).run Tryz.prog w0 = .ok (.enter 112 #[.pointer (some ⟨w.heap.size, 0, none⟩)]) w0 := fun w0 => by kernel_rfl
    have hcf3 : ∀ w0, (callFunc 114 #[.pointer (some ⟨w.heap.size, 0, none⟩), .pointer (some ⟨w.heap.size + 1, 0, none⟩)]).run Tryz.prog w0 = .ok (.enter 114 #[.pointer (some ⟨w.heap.size, 0, none⟩), .pointer (some ⟨w.heap.size + 1, 0, none⟩)]) w0 := fun w0 => by kernel_rfl
    have hcf4 : ∀ w0, (callFunc 116 #[.pointer (some ⟨w.heap.size, 0, none⟩), .pointer (some ⟨b5, 0, none⟩)]).run Tryz.prog w0 = .ok (.enter 116 #[.pointer (some ⟨w.heap.size, 0, none⟩), .pointer (some ⟨b5, 0, none⟩)]) w0 := fun w0 => by kernel_rfl
    have hcf5 : ∀ w0, (callFunc 111 #[.pointer (some ⟨d, 0, none⟩)]).run Tryz.prog w0 = .ok (.enter 111 #[.pointer (some ⟨d, 0, none⟩)]) w0 := fun w0 => by kernel_rfl
    by_cases h7 : k < 7
    · have h7' : k = 0 ∨ k = 1 ∨ k = 2 ∨ k = 3 ∨ k = 4 ∨ k = 5 ∨ k = 6 := by omega
      clear h7 hk
      rcases h7' with rfl | rfl | rfl | rfl | rfl | rfl | rfl
      · have hst : Steps Dk (fmtW Dk).2 5000 := (hwk.wr 0 (length_zeros 512)).mono (by omega)
        have hrun' : okRun (fmtW :: [DM.fl, fmtZ, DM.fl, (fmtL l), (fmtS s l n), DM.fl]) Dk = x := hrun
        have hC : Calls Tryz.prog 109 #[.pointer (some ⟨w.heap.size, 0, none⟩), .pointer (some ⟨b7, 0, none⟩)] wr (fun e w' => e = .returned (.int .i64 ((fmtW Dk).1 : Nat)) ∧ DPost wr d Fk (fmtW Dk).2 w') := fmt1_w hA7.rep hn1 (by omega) _ _ _ _ _ (length_zeros 512) hE7.h2 hE7.h7 hE7.hz
        have hgo := @okRun_go fmtW [DM.fl, fmtZ, DM.fl, (fmtL l), (fmtS s l n), DM.fl] Dk
        have hsp := @okRun_stop fmtW [DM.fl, fmtZ, DM.fl, (fmtL l), (fmtS s l n), DM.fl] Dk
        rw [hrun'] at hgo hsp
        generalize hy : fmtW Dk = y at hC hgo hsp hst
        have hv := hE7.hs.cell 0
        simp [fmtFuns] at hv
        by_cases hc0 : y.1 = 0
        · have hg0 := hgo hc0
          rw [hc0] at hC
          replace hA7 := hid hA7; replace hE7 := hid hE7; replace hC := hid hC; replace hg0 := hid hg0; replace hst := hid hst; replace hrun := hid hrun; replace hrun' := hid hrun'; replace hsp := hid hsp; replace hgo := hid hgo; replace hS7 := hid hS7; replace hnb := hid hnb; replace hc0 := hid hc0; replace hy := hid hy
          go_wp2_with (go_at_call 109; refine hC.out.mono ?_; rintro e w8 ⟨rfl, hp8⟩; replace hp8 := hid hp8)
          obtain ⟨F8, hA8⟩ := DAt.of hp8.out
          refine ⟨⟨1, y.2, F8, by omega, by go_num, hg0.out.symm, hS7.out.trans hst.out (by omega), hA7.out.trans hA8, hE7.out.keeps hA8.keeps hnb.out, fun b hb => hA8.out_of (hnb.out b hb) (hE7.out.lt b hb)⟩, ?_⟩
          simp [intOf]
        · have hg0 := hsp hc0
          have hci : ((y.1 : Int) != 0) = true := by simp; exact hc0
          replace hA7 := hid hA7; replace hE7 := hid hE7; replace hC := hid hC; replace hg0 := hid hg0; replace hst := hid hst; replace hrun := hid hrun; replace hrun' := hid hrun'; replace hsp := hid hsp; replace hgo := hid hgo; replace hS7 := hid hS7; replace hnb := hid hnb; replace hc0 := hid hc0; replace hy := hid hy
          go_wp2_with (go_at_call 109; refine hC.out.mono ?_; rintro e w8 ⟨rfl, hp8⟩; replace hp8 := hid hp8)
          go_ret
          obtain ⟨F8, hA8⟩ := DAt.of hp8.out
          exact hX.out _ _ _ (by rw [hg0.out]) (by rw [hg0.out]) (hA7.out.trans hA8).post
      · have hst : Steps Dk (DM.fl Dk).2 5000 := hwk.fl.mono (by omega)
        have hrun' : okRun (DM.fl :: [fmtZ, DM.fl, (fmtL l), (fmtS s l n), DM.fl]) Dk = x := hrun
        have hC : Calls Tryz.prog 111 #[.pointer (some ⟨d, 0, none⟩)] wr (fun e w' => e = .returned (.int .i64 ((DM.fl Dk).1 : Nat)) ∧ DPost wr d Fk (DM.fl Dk).2 w') := flushT_w hA7.rep
        have hgo := @okRun_go DM.fl [fmtZ, DM.fl, (fmtL l), (fmtS s l n), DM.fl] Dk
        have hsp := @okRun_stop DM.fl [fmtZ, DM.fl, (fmtL l), (fmtS s l n), DM.fl] Dk
        rw [hrun'] at hgo hsp
        generalize hy : DM.fl Dk = y at hC hgo hsp hst
        have hv := hE7.hs.cell 1
        simp [fmtFuns] at hv
        by_cases hc0 : y.1 = 0
        · have hg0 := hgo hc0
          rw [hc0] at hC
          replace hA7 := hid hA7; replace hE7 := hid hE7; replace hC := hid hC; replace hg0 := hid hg0; replace hst := hid hst; replace hrun := hid hrun; replace hrun' := hid hrun'; replace hsp := hid hsp; replace hgo := hid hgo; replace hS7 := hid hS7; replace hnb := hid hnb; replace hc0 := hid hc0; replace hy := hid hy
          go_wp2_with (go_at_call 111; refine hC.out.mono ?_; rintro e w8 ⟨rfl, hp8⟩; replace hp8 := hid hp8)
          obtain ⟨F8, hA8⟩ := DAt.of hp8.out
          refine ⟨⟨2, y.2, F8, by omega, by go_num, hg0.out.symm, hS7.out.trans hst.out (by omega), hA7.out.trans hA8, hE7.out.keeps hA8.keeps hnb.out, fun b hb => hA8.out_of (hnb.out b hb) (hE7.out.lt b hb)⟩, ?_⟩
          simp [intOf]
        · have hg0 := hsp hc0
          have hci : ((y.1 : Int) != 0) = true := by simp; exact hc0
          replace hA7 := hid hA7; replace hE7 := hid hE7; replace hC := hid hC; replace hg0 := hid hg0; replace hst := hid hst; replace hrun := hid hrun; replace hrun' := hid hrun'; replace hsp := hid hsp; replace hgo := hid hgo; replace hS7 := hid hS7; replace hnb := hid hnb; replace hc0 := hid hc0; replace hy := hid hy
          go_wp2_with (go_at_call 111; refine hC.out.mono ?_; rintro e w8 ⟨rfl, hp8⟩; replace hp8 := hid hp8)
          go_ret
          obtain ⟨F8, hA8⟩ := DAt.of hp8.out
          exact hX.out _ _ _ (by rw [hg0.out]) (by rw [hg0.out]) (hA7.out.trans hA8).post
      · have hst : Steps Dk (fmtZ Dk).2 5000 := (DM.Wf.zeroRun _ hwk 1).mono (by have := hwk.max; omega)
        have hrun' : okRun (fmtZ :: [DM.fl, (fmtL l), (fmtS s l n), DM.fl]) Dk = x := hrun
        have hC : Calls Tryz.prog 112 #[.pointer (some ⟨w.heap.size, 0, none⟩)] wr (fun e w' => e = .returned (.int .i64 ((fmtZ Dk).1 : Nat)) ∧ DPost wr d Fk (fmtZ Dk).2 w') := fmt2_w hA7.rep hn1 hn2 (by omega) _ hE7.h2
        have hgo := @okRun_go fmtZ [DM.fl, (fmtL l), (fmtS s l n), DM.fl] Dk
        have hsp := @okRun_stop fmtZ [DM.fl, (fmtL l), (fmtS s l n), DM.fl] Dk
        rw [hrun'] at hgo hsp
        generalize hy : fmtZ Dk = y at hC hgo hsp hst
        have hv := hE7.hs.cell 2
        simp [fmtFuns] at hv
        by_cases hc0 : y.1 = 0
        · have hg0 := hgo hc0
          rw [hc0] at hC
          replace hA7 := hid hA7; replace hE7 := hid hE7; replace hC := hid hC; replace hg0 := hid hg0; replace hst := hid hst; replace hrun := hid hrun; replace hrun' := hid hrun'; replace hsp := hid hsp; replace hgo := hid hgo; replace hS7 := hid hS7; replace hnb := hid hnb; replace hc0 := hid hc0; replace hy := hid hy
          go_wp2_with (go_at_call 112; refine hC.out.mono ?_; rintro e w8 ⟨rfl, hp8⟩; replace hp8 := hid hp8)
          obtain ⟨F8, hA8⟩ := DAt.of hp8.out
          refine ⟨⟨3, y.2, F8, by omega, by go_num, hg0.out.symm, hS7.out.trans hst.out (by omega), hA7.out.trans hA8, hE7.out.keeps hA8.keeps hnb.out, fun b hb => hA8.out_of (hnb.out b hb) (hE7.out.lt b hb)⟩, ?_⟩
          simp [intOf]
        · have hg0 := hsp hc0
          have hci : ((y.1 : Int) != 0) = true := by simp; exact hc0
          replace hA7 := hid hA7; replace hE7 := hid hE7; replace hC := hid hC; replace hg0 := hid hg0; replace hst := hid hst; replace hrun := hid hrun; replace hrun' := hid hrun'; replace hsp := hid hsp; replace hgo := hid hgo; replace hS7 := hid hS7; replace hnb := hid hnb; replace hc0 := hid hc0; replace hy := hid hy
          go_wp2_with (go_at_call 112; refine hC.out.mono ?_; rintro e w8 ⟨rfl, hp8⟩; replace hp8 := hid hp8)
          go_ret
          obtain ⟨F8, hA8⟩ := DAt.of hp8.out
          exact hX.out _ _ _ (by rw [hg0.out]) (by rw [hg0.out]) (hA7.out.trans hA8).post
      · have hst : Steps Dk (DM.fl Dk).2 5000 := hwk.fl.mono (by omega)
        have hrun' : okRun (DM.fl :: [(fmtL l), (fmtS s l n), DM.fl]) Dk = x := hrun
        have hC : Calls Tryz.prog 111 #[.pointer (some ⟨d, 0, none⟩)] wr (fun e w' => e = .returned (.int .i64 ((DM.fl Dk).1 : Nat)) ∧ DPost wr d Fk (DM.fl Dk).2 w') := flushT_w hA7.rep
        have hgo := @okRun_go DM.fl [(fmtL l), (fmtS s l n), DM.fl] Dk
        have hsp := @okRun_stop DM.fl [(fmtL l), (fmtS s l n), DM.fl] Dk
        rw [hrun'] at hgo hsp
        generalize hy : DM.fl Dk = y at hC hgo hsp hst
        have hv := hE7.hs.cell 3
        simp [fmtFuns] at hv
        by_cases hc0 : y.1 = 0
        · have hg0 := hgo hc0
          rw [hc0] at hC
          replace hA7 := hid hA7; replace hE7 := hid hE7; replace hC := hid hC; replace hg0 := hid hg0; replace hst := hid hst; replace hrun := hid hrun; replace hrun' := hid hrun'; replace hsp := hid hsp; replace hgo := hid hgo; replace hS7 := hid hS7; replace hnb := hid hnb; replace hc0 := hid hc0; replace hy := hid hy
          go_wp2_with (go_at_call 111; refine hC.out.mono ?_; rintro e w8 ⟨rfl, hp8⟩; replace hp8 := hid hp8)
          obtain ⟨F8, hA8⟩ := DAt.of hp8.out
          refine ⟨⟨4, y.2, F8, by omega, by go_num, hg0.out.symm, hS7.out.trans hst.out (by omega), hA7.out.trans hA8, hE7.out.keeps hA8.keeps hnb.out, fun b hb => hA8.out_of (hnb.out b hb) (hE7.out.lt b hb)⟩, ?_⟩
          simp [intOf]
        · have hg0 := hsp hc0
          have hci : ((y.1 : Int) != 0) = true := by simp; exact hc0
          replace hA7 := hid hA7; replace hE7 := hid hE7; replace hC := hid hC; replace hg0 := hid hg0; replace hst := hid hst; replace hrun := hid hrun; replace hrun' := hid hrun'; replace hsp := hid hsp; replace hgo := hid hgo; replace hS7 := hid hS7; replace hnb := hid hnb; replace hc0 := hid hc0; replace hy := hid hy
          go_wp2_with (go_at_call 111; refine hC.out.mono ?_; rintro e w8 ⟨rfl, hp8⟩; replace hp8 := hid hp8)
          go_ret
          obtain ⟨F8, hA8⟩ := DAt.of hp8.out
          exact hX.out _ _ _ (by rw [hg0.out]) (by rw [hg0.out]) (hA7.out.trans hA8).post
      · have hst : Steps Dk ((fmtL l) Dk).2 5000 := (hwk.walFormatM 1 l).mono (by omega)
        have hrun' : okRun ((fmtL l) :: [(fmtS s l n), DM.fl]) Dk = x := hrun
        have hC : Calls Tryz.prog 114 #[.pointer (some ⟨w.heap.size, 0, none⟩), .pointer (some ⟨w.heap.size + 1, 0, none⟩)] wr (fun e w' => e = .returned (.int .i64 (((fmtL l) Dk).1 : Nat)) ∧ DPost wr d Fk ((fmtL l) Dk).2 w') := fmt3_w hA7.rep hn2 (by omega) _ _ s l n hl1 hl2 hl3 hE7.h2 hE7.h3
        have hgo := @okRun_go (fmtL l) [(fmtS s l n), DM.fl] Dk
        have hsp := @okRun_stop (fmtL l) [(fmtS s l n), DM.fl] Dk
        rw [hrun'] at hgo hsp
        generalize hy : fmtL l Dk = y at hC hgo hsp hst
        have hv := hE7.hs.cell 4
        simp [fmtFuns] at hv
        by_cases hc0 : y.1 = 0
        · have hg0 := hgo hc0
          rw [hc0] at hC
          replace hA7 := hid hA7; replace hE7 := hid hE7; replace hC := hid hC; replace hg0 := hid hg0; replace hst := hid hst; replace hrun := hid hrun; replace hrun' := hid hrun'; replace hsp := hid hsp; replace hgo := hid hgo; replace hS7 := hid hS7; replace hnb := hid hnb; replace hc0 := hid hc0; replace hy := hid hy
          go_wp2_with (go_at_call 114; refine hC.out.mono ?_; rintro e w8 ⟨rfl, hp8⟩; replace hp8 := hid hp8)
          obtain ⟨F8, hA8⟩ := DAt.of hp8.out
          refine ⟨⟨5, y.2, F8, by omega, by go_num, hg0.out.symm, hS7.out.trans hst.out (by omega), hA7.out.trans hA8, hE7.out.keeps hA8.keeps hnb.out, fun b hb => hA8.out_of (hnb.out b hb) (hE7.out.lt b hb)⟩, ?_⟩
          simp [intOf]
        · have hg0 := hsp hc0
          have hci : ((y.1 : Int) != 0) = true := by simp; exact hc0
          replace hA7 := hid hA7; replace hE7 := hid hE7; replace hC := hid hC; replace hg0 := hid hg0; replace hst := hid hst; replace hrun := hid hrun; replace hrun' := hid hrun'; replace hsp := hid hsp; replace hgo := hid hgo; replace hS7 := hid hS7; replace hnb := hid hnb; replace hc0 := hid hc0; replace hy := hid hy
          go_wp2_with (go_at_call 114; refine hC.out.mono ?_; rintro e w8 ⟨rfl, hp8⟩; replace hp8 := hid hp8)
          go_ret
          obtain ⟨F8, hA8⟩ := DAt.of hp8.out
          exact hX.out _ _ _ (by rw [hg0.out]) (by rw [hg0.out]) (hA7.out.trans hA8).post
      · have hst : Steps Dk ((fmtS s l n) Dk).2 5000 := (hwk.wr 0 (length_encSuper s l n)).mono (by omega)
        have hrun' : okRun ((fmtS s l n) :: [DM.fl]) Dk = x := hrun
        have hC : Calls Tryz.prog 116 #[.pointer (some ⟨w.heap.size, 0, none⟩), .pointer (some ⟨b5, 0, none⟩)] wr (fun e w' => e = .returned (.int .i64 (((fmtS s l n) Dk).1 : Nat)) ∧ DPost wr d Fk ((fmtS s l n) Dk).2 w') := fmt4_w hA7.rep hn1 (by omega) _ _ _ _ _ (length_encSuper s l n) hE7.h2 hE7.h5 hE7.hg
        have hgo := @okRun_go (fmtS s l n) [DM.fl] Dk
        have hsp := @okRun_stop (fmtS s l n) [DM.fl] Dk
        rw [hrun'] at hgo hsp
        generalize hy : fmtS s l n Dk = y at hC hgo hsp hst
        have hv := hE7.hs.cell 5
        simp [fmtFuns] at hv
        by_cases hc0 : y.1 = 0
        · have hg0 := hgo hc0
          rw [hc0] at hC
          replace hA7 := hid hA7; replace hE7 := hid hE7; replace hC := hid hC; replace hg0 := hid hg0; replace hst := hid hst; replace hrun := hid hrun; replace hrun' := hid hrun'; replace hsp := hid hsp; replace hgo := hid hgo; replace hS7 := hid hS7; replace hnb := hid hnb; replace hc0 := hid hc0; replace hy := hid hy
          go_wp2_with (go_at_call 116; refine hC.out.mono ?_; rintro e w8 ⟨rfl, hp8⟩; replace hp8 := hid hp8)
          obtain ⟨F8, hA8⟩ := DAt.of hp8.out
          refine ⟨⟨6, y.2, F8, by omega, by go_num, hg0.out.symm, hS7.out.trans hst.out (by omega), hA7.out.trans hA8, hE7.out.keeps hA8.keeps hnb.out, fun b hb => hA8.out_of (hnb.out b hb) (hE7.out.lt b hb)⟩, ?_⟩
          simp [intOf]
        · have hg0 := hsp hc0
          have hci : ((y.1 : Int) != 0) = true := by simp; exact hc0
          replace hA7 := hid hA7; replace hE7 := hid hE7; replace hC := hid hC; replace hg0 := hid hg0; replace hst := hid hst; replace hrun := hid hrun; replace hrun' := hid hrun'; replace hsp := hid hsp; replace hgo := hid hgo; replace hS7 := hid hS7; replace hnb := hid hnb; replace hc0 := hid hc0; replace hy := hid hy
          go_wp2_with (go_at_call 116; refine hC.out.mono ?_; rintro e w8 ⟨rfl, hp8⟩; replace hp8 := hid hp8)
          go_ret
          obtain ⟨F8, hA8⟩ := DAt.of hp8.out
          exact hX.out _ _ _ (by rw [hg0.out]) (by rw [hg0.out]) (hA7.out.trans hA8).post
      · have hst : Steps Dk (DM.fl Dk).2 5000 := hwk.fl.mono (by omega)
        have hrun' : okRun (DM.fl :: []) Dk = x := hrun
        have hC : Calls Tryz.prog 111 #[.pointer (some ⟨d, 0, none⟩)] wr (fun e w' => e = .returned (.int .i64 ((DM.fl Dk).1 : Nat)) ∧ DPost wr d Fk (DM.fl Dk).2 w') := flushT_w hA7.rep
        have hgo := @okRun_go DM.fl [] Dk
        have hsp := @okRun_stop DM.fl [] Dk
        rw [hrun'] at hgo hsp
        generalize hy : DM.fl Dk = y at hC hgo hsp hst
        have hv := hE7.hs.cell 6
        simp [fmtFuns] at hv
        by_cases hc0 : y.1 = 0
        · have hg0 := hgo hc0
          rw [hc0] at hC
          replace hA7 := hid hA7; replace hE7 := hid hE7; replace hC := hid hC; replace hg0 := hid hg0; replace hst := hid hst; replace hrun := hid hrun; replace hrun' := hid hrun'; replace hsp := hid hsp; replace hgo := hid hgo; replace hS7 := hid hS7; replace hnb := hid hnb; replace hc0 := hid hc0; replace hy := hid hy
          go_wp2_with (go_at_call 111; refine hC.out.mono ?_; rintro e w8 ⟨rfl, hp8⟩; replace hp8 := hid hp8)
          obtain ⟨F8, hA8⟩ := DAt.of hp8.out
          refine ⟨⟨7, y.2, F8, by omega, by go_num, hg0.out.symm, hS7.out.trans hst.out (by omega), hA7.out.trans hA8, hE7.out.keeps hA8.keeps hnb.out, fun b hb => hA8.out_of (hnb.out b hb) (hE7.out.lt b hb)⟩, ?_⟩
          simp [intOf]
        · have hg0 := hsp hc0
          have hci : ((y.1 : Int) != 0) = true := by simp; exact hc0
          replace hA7 := hid hA7; replace hE7 := hid hE7; replace hC := hid hC; replace hg0 := hid hg0; replace hst := hid hst; replace hrun := hid hrun; replace hrun' := hid hrun'; replace hsp := hid hsp; replace hgo := hid hgo; replace hS7 := hid hS7; replace hnb := hid hnb; replace hc0 := hid hc0; replace hy := hid hy
          go_wp2_with (go_at_call 111; refine hC.out.mono ?_; rintro e w8 ⟨rfl, hp8⟩; replace hp8 := hid hp8)
          go_ret
          obtain ⟨F8, hA8⟩ := DAt.of hp8.out
          exact hX.out _ _ _ (by rw [hg0.out]) (by rw [hg0.out]) (hA7.out.trans hA8).post
    · obtain rfl : k = 7 := by omega
      have hxe : x = (0, Dk) := hrun.symm
      have hXX := hX.out wr 0 Dk (by rw [hxe]) (by rw [hxe]) hA7.post
      replace hA7 := hid hA7; replace hE7 := hid hE7; replace hrun := hid hrun; replace hS7 := hid hS7; replace hnb := hid hnb; replace hxe := hid hxe; replace hXX := hid hXX
      go_wp2
      go_ret
      exact hXX.out
end
end Go.Vk

namespace Go.Vk
open Go.RowKit

theorem drop_lay_end {cur src : List UInt8} {off : Nat} (h : off ≤ cur.length) (k : Nat) : (lay cur off src).drop (off + src.length + k) = cur.drop (off + src.length + k) := by
  unfold lay
  have l1 : (cur.take off).length = off := by rw [List.length_take]; omega
  rw [← List.drop_drop, ← List.drop_drop, List.drop_left' l1, List.drop_left, List.drop_drop]
theorem drop_lay_at {cur src : List UInt8} {off : Nat} (h : off ≤ cur.length) : (lay cur off src).drop off = src ++ cur.drop (off + src.length) := by
  unfold lay
  exact List.drop_left' (by rw [List.length_take]; omega)
theorem take_lay {cur src : List UInt8} {off k : Nat} (h : off ≤ cur.length) (hk : k ≤ off) : (lay cur off src).take k = cur.take k := by
  unfold lay
  have l1 : (cur.take off).length = off := by rw [List.length_take]; omega
  rw [List.take_append_of_le_length (by omega), List.take_take, Nat.min_eq_left hk]
theorem getD_take (s : List UInt8) {i k : Nat} (h : i < k) : (s.take k).getD i 0 = s.getD i 0 := by
  rw [List.getD_eq_getElem?_getD, List.getD_eq_getElem?_getD, List.getElem?_take, if_pos h]
theorem getD_lay {cur src : List UInt8} {off i : Nat} (h : off ≤ cur.length) (hi : i < off) : (lay cur off src).getD i 0 = cur.getD i 0 := by
  rw [← getD_take _ hi, take_lay h (Nat.le_refl _), getD_take _ hi]

theorem leVal_leBytes (v n : Nat) (h : v < 2 ^ (8 * n)) : leVal (leBytes v n) = v := by
  have key : ∀ n, leVal (leBytes v n) = v % 2 ^ (8 * n) := by
    intro n
    induction n with
    | zero => simp [leBytes, leVal, Nat.mod_one]
    | succ n ih =>
      rw [leBytes_succ, leVal_snoc, ih, length_leBytes, leByte_toNat, Nat.mul_succ, Nat.pow_add, Nat.mod_mul]
  rw [key, Nat.mod_eq_of_lt h]

/-- A sealed sector opens to its body. -/
theorem open_layB (t : UInt8) (body : List UInt8) (ht : t.toNat < 3) (hb : body.length ≤ 504) : openS (layB t body) = some body := by
  have hz0 : (((((zeros 512).set 0 t).set 511 t).set 1 (UInt8.ofNat body.length)).set 2 (UInt8.ofNat (body.length / 256))).length = 512 := by simp only [List.length_set, length_zeros]
  have hZ : ∀ i, i < 3 → (layB t body).getD i 0 = (((((zeros 512).set 0 t).set 511 t).set 1 (UInt8.ofNat body.length)).set 2 (UInt8.ofNat (body.length / 256))).getD i 0 := by
    intro i hi
    unfold layB
    rw [getD_lay (by rw [length_layRow]; decide) hi]
    unfold layRow
    rw [getD_lay (by rw [hz0]; decide) (by omega)]
  have h0 : (layB t body).getD 0 0 = t := by
    rw [hZ 0 (by decide), List.getD_eq_getElem?_getD, List.getElem?_set_ne (by decide), List.getElem?_set_ne (by decide), List.getElem?_set_ne (by decide), List.getElem?_set_self (by rw [length_zeros]; decide)]
    rfl
  have h1 : (layB t body).getD 1 0 = UInt8.ofNat body.length := by
    rw [hZ 1 (by decide), List.getD_eq_getElem?_getD, List.getElem?_set_ne (by decide), List.getElem?_set_self (by simp only [List.length_set, length_zeros]; decide)]
    rfl
  have h2 : (layB t body).getD 2 0 = UInt8.ofNat (body.length / 256) := by
    rw [hZ 2 (by decide), List.getD_eq_getElem?_getD, List.getElem?_set_self (by simp only [List.length_set, length_zeros]; decide)]
    rfl
  have hl : bodyLen (layB t body) = body.length := by
    unfold bodyLen
    rw [h1, h2, UInt8.toNat_ofNat', UInt8.toNat_ofNat']
    omega
  have hd : ((layB t body).drop 7).take body.length = body := by
    have e1 : (layB t body).drop 7 = (layRow t body).drop 7 := by
      unfold layB
      have := drop_lay_end (cur := layRow t body) (src := leBytes (crc (((layRow t body).drop 1).take 2 ++ ((layRow t body).drop 7).take 504)) 4) (off := 3) (by rw [length_layRow]; decide) 0
      rw [length_leBytes] at this
      exact this
    rw [e1]
    unfold layRow
    rw [drop_lay_at (by rw [hz0]; decide), List.take_of_length_le (l := body) hb]
    exact List.take_left
  unfold openS
  rw [hl, hd, h0, if_neg]
  rintro (e | e | e)
  · omega
  · omega
  · exact e rfl
theorem drop_take_swap (s : List UInt8) (a b : Nat) : (s.drop a).take b = (s.take (a + b)).drop a := by rw [List.drop_take, Nat.add_sub_cancel_left]
theorem take_sealed {bs : List UInt8} (h : bs.length = 512) {k : Nat} (hk : k ≤ 508) : (sealedRow bs).take k = bs.take k := by
  unfold sealedRow
  rw [h]
  exact take_lay (by omega) hk
theorem encSuper_ok' {s l n : Nat} (h : PlanOk s l n) : SuperOk (encSuper s l n) := by
  have hb : s ≤ 2048 ∧ l ≤ 256 ∧ n ≤ 1024 := by unfold PlanOk at h; omega
  have l0 : (lay (zeros 512) 0 magic).length = 512 := length_encK s l n 0
  have l1 : (lay (lay (zeros 512) 0 magic) 8 (leBytes s 4)).length = 512 := length_encK s l n 1
  have l2 : (lay (lay (lay (zeros 512) 0 magic) 8 (leBytes s 4)) 12 (leBytes l 4)).length = 512 := length_encK s l n 2
  have l3 : (encK s l n 3).length = 512 := length_encK s l n 3
  have e3 : encK s l n 3 = lay (lay (lay (lay (zeros 512) 0 magic) 8 (leBytes s 4)) 12 (leBytes l 4)) 16 (leBytes n 4) := rfl
  have hs : supS (encSuper s l n) = s := by
    unfold supS
    rw [encSuper_eq, drop_take_swap, take_sealed l3 (by decide), e3, take_lay (by rw [l2]; decide) (by decide), take_lay (by rw [l1]; decide) (by decide), ← drop_take_swap, drop_lay_at (by rw [l0]; decide), List.take_left' (length_leBytes s 4), leVal_leBytes _ _ (by omega)]
  have hl : supL (encSuper s l n) = l := by
    unfold supL
    rw [encSuper_eq, drop_take_swap, take_sealed l3 (by decide), e3, take_lay (by rw [l2]; decide) (by decide), ← drop_take_swap, drop_lay_at (by rw [l1]; decide), List.take_left' (length_leBytes l 4), leVal_leBytes _ _ (by omega)]
  have hn : supN (encSuper s l n) = n := by
    unfold supN
    rw [encSuper_eq, drop_take_swap, take_sealed l3 (by decide), e3, ← drop_take_swap, drop_lay_at (by rw [l2]; decide), List.take_left' (length_leBytes n 4), leVal_leBytes _ _ (by omega)]
  unfold SuperOk
  rw [hs, hl, hn]
  exact ⟨hb.1, hb.2.1, hb.2.2, h, rfl⟩
theorem sup_enc {s l n : Nat} (h : PlanOk s l n) : supS (encSuper s l n) = s ∧ supL (encSuper s l n) = l ∧ supN (encSuper s l n) = n := by
  have hb : s ≤ 2048 ∧ l ≤ 256 ∧ n ≤ 1024 := by unfold PlanOk at h; omega
  have l0 : (lay (zeros 512) 0 magic).length = 512 := length_encK s l n 0
  have l1 : (lay (lay (zeros 512) 0 magic) 8 (leBytes s 4)).length = 512 := length_encK s l n 1
  have l2 : (lay (lay (lay (zeros 512) 0 magic) 8 (leBytes s 4)) 12 (leBytes l 4)).length = 512 := length_encK s l n 2
  have l3 : (encK s l n 3).length = 512 := length_encK s l n 3
  have e3 : encK s l n 3 = lay (lay (lay (lay (zeros 512) 0 magic) 8 (leBytes s 4)) 12 (leBytes l 4)) 16 (leBytes n 4) := rfl
  refine ⟨?_, ?_, ?_⟩
  · unfold supS
    rw [encSuper_eq, drop_take_swap, take_sealed l3 (by decide), e3, take_lay (by rw [l2]; decide) (by decide), take_lay (by rw [l1]; decide) (by decide), ← drop_take_swap, drop_lay_at (by rw [l0]; decide), List.take_left' (length_leBytes s 4), leVal_leBytes _ _ (by omega)]
  · unfold supL
    rw [encSuper_eq, drop_take_swap, take_sealed l3 (by decide), e3, take_lay (by rw [l2]; decide) (by decide), ← drop_take_swap, drop_lay_at (by rw [l1]; decide), List.take_left' (length_leBytes l 4), leVal_leBytes _ _ (by omega)]
  · unfold supN
    rw [encSuper_eq, drop_take_swap, take_sealed l3 (by decide), e3, ← drop_take_swap, drop_lay_at (by rw [l2]; decide), List.take_left' (length_leBytes n 4), leVal_leBytes _ _ (by omega)]

set_option maxRecDepth 100000 in
/-- A sector of zeros is none that is sealed. -/
theorem open_zeros : openS (zeros 512) = none := by kernel_rfl
theorem anchorN_zeros : anchorN (zeros 512) = 0 := by unfold anchorN anchorOf; rw [open_zeros]
theorem pieceOf_zeros : pieceOf (zeros 512) = Piece.none := by unfold pieceOf pieceBody; rw [open_zeros]
/-- An anchor says its number. -/
theorem anchorOf_layB (t : UInt8) (no : Nat) (ht : t.toNat < 3) (h1 : 1 ≤ no) (h2 : no < 9223372036854775808) : anchorOf (layB t (leBytes no 8)) = some (no, []) := by
  have hl := length_leBytes no 8
  unfold anchorOf
  rw [open_layB t _ ht (by rw [hl]; decide)]
  dsimp only
  rw [List.take_of_length_le (by rw [hl]; decide), leVal_leBytes _ _ (by omega), List.drop_of_length_le (by rw [hl]; decide), if_neg (by omega)]
end Go.Vk

namespace Go.Vk
open Go.RowKit

/-- A disk without a fuse, with these sectors. -/
structure Is (D : DM) (N : Nat) (life : Int) (g : Nat → List UInt8) : Prop where
  wf : D.Wf
  calm : D.fused = false
  n : D.n = N
  lf : D.life = life
  now : ∀ j, j < N → D.now j = g j
theorem Is.burnt {D : DM} {N : Nat} {life : Int} {g : Nat → List UInt8} (h : Is D N life g) : D.burnt = false := by unfold DM.burnt; rw [h.calm]; rfl
theorem Is.congr {D : DM} {N : Nat} {life : Int} {g g' : Nat → List UInt8} (h : Is D N life g) (e : ∀ j, j < N → g j = g' j) : Is D N life g' := ⟨h.wf, h.calm, h.n, h.lf, fun j hj => (h.now j hj).trans (e j hj)⟩
theorem spent_calm {D : DM} (h : D.fused = false) : D.spent = D := by unfold DM.spent; rw [h]; rfl
theorem now_wrote (D : DM) (k j : Nat) (bs : List UInt8) : (D.wrote k bs).now j = if j = k then bs else D.now j := by
  unfold DM.now DM.wrote
  dsimp only
  split
  · rw [List.getLast?_append]; rfl
  · rfl
theorem Is.wrote {D : DM} {N : Nat} {life : Int} {g : Nat → List UInt8} (h : Is D N life g) (k : Nat) {bs : List UInt8} (hb : bs.length = 512) : Is (D.wrote k bs).spent N life (fun j => if j = k then bs else g j) := by
  have hc : (D.wrote k bs).fused = false := h.calm
  refine ⟨(h.wf.wrote k hb).wf, ?_, (h.wf.wrote k hb).n.trans h.n, ?_, fun j hj => ?_⟩
  · rw [spent_calm hc]; exact hc
  · rw [spent_calm hc]; exact h.lf
  · rw [spent_calm hc, now_wrote, h.now j hj]
theorem Is.wr {D : DM} {N : Nat} {life : Int} {g : Nat → List UInt8} (h : Is D N life g) (k : Nat) {bs : List UInt8} (hb : bs.length = 512) : ∃ D', D.wr k bs = (0, D') ∧ Is D' N life (fun j => if j = k then bs else g j) := by
  refine ⟨_, ?_, h.wrote k hb⟩
  unfold DM.wr
  rw [h.burnt]; rfl
theorem Is.flushed {D : DM} {N : Nat} {life : Int} {g : Nat → List UInt8} (h : Is D N life g) : Is D.flushed N life g := by
  have hl := fun k hk => h.wf.now_length (k := k) hk
  refine ⟨h.wf.flushed.wf, ?_, h.wf.flushed_n.trans h.n, ?_, fun j hj => ?_⟩
  · unfold DM.flushed; rw [spent_calm (by exact h.calm)]; exact h.calm
  · unfold DM.flushed; rw [spent_calm (by exact h.calm)]; exact h.lf
  · unfold DM.flushed
    rw [spent_calm (by exact h.calm)]
    show ((secs D.n D.now).drop (512 * j)).take 512 = g j
    rw [drop_secs hl (by rw [h.n]; exact hj), h.now j hj]
theorem Is.fl {D : DM} {N : Nat} {life : Int} {g : Nat → List UInt8} (h : Is D N life g) : ∃ D', D.fl = (0, D') ∧ Is D' N life g := by
  refine ⟨_, ?_, h.flushed⟩
  unfold DM.fl
  rw [h.burnt]; rfl
theorem Is.readed {D : DM} {N : Nat} {life : Int} {g : Nat → List UInt8} (h : Is D N life g) : Is D.readed N life g := ⟨h.wf.readed.wf, h.calm, h.n, h.lf, h.now⟩
theorem Is.readedN {D : DM} {N : Nat} {life : Int} {g : Nat → List UInt8} (h : Is D N life g) (k : Nat) : Is (D.readedN k) N life g := by
  induction k with
  | zero => exact h
  | succ k ih => exact ih.readed
theorem Is.took {D : DM} {N : Nat} {life : Int} {g : Nat → List UInt8} (h : Is D N life g) : Is D.took N (wrap64 (life + 1)) g := ⟨h.wf.took.wf, h.calm, h.n, by show wrap64 (D.life + 1) = _; rw [h.lf], h.now⟩
theorem Is.zeroRun {N : Nat} {life : Int} (c : Nat) : ∀ {D : DM} {g : Nat → List UInt8} (_ : Is D N life g) (a : Nat), ∃ D', D.zeroRun a c = (0, D') ∧ Is D' N life (fun j => if a ≤ j ∧ j < a + c then zeros 512 else g j) := by
  induction c with
  | zero => intro D g h a; exact ⟨D, rfl, h.congr fun j _ => by rw [if_neg (by omega)]⟩
  | succ c ih =>
    intro D g h a
    rw [zeroRun_step _ _ _ h.burnt]
    obtain ⟨D', h1, h2⟩ := ih (h.wrote a (length_zeros 512)) (a + 1)
    refine ⟨D', h1, h2.congr fun j _ => ?_⟩
    by_cases e : j = a
    · subst e; rw [if_neg (by omega), if_pos rfl, if_pos (by omega)]
    · by_cases e2 : a + 1 ≤ j ∧ j < a + 1 + c
      · rw [if_pos e2, if_pos (by omega)]
      · rw [if_neg e2, if_neg e, if_neg (by omega)]
theorem Is.anchorM {D : DM} {N : Nat} {life : Int} {g : Nat → List UInt8} (h : Is D N life g) (f e t : Nat) (hf : f + 1 < N) (hs : ¬ e * 4294967296 + t ≤ max (anchorN (g f)) (anchorN (g (f + 1)))) :
    ∃ D', Go.Vk.anchorM D f e t = (0, D') ∧ Is D' N life (fun j => if j = f + renewTo (g f) (g (f + 1)) then renewS (g f) (g (f + 1)) (e * 4294967296 + t) else g j) := by
  unfold Go.Vk.anchorM
  rw [h.burnt, if_neg (by decide), h.now f (by omega), h.now (f + 1) hf, if_neg hs]
  exact (h.readed.readed.wrote _ (renewS_length _ _ _)).fl
theorem okThen_ok {x : Nat × DM} {D : DM} {f : DM → Nat × DM} (h : x = (0, D)) : okThen x f = f D := by rw [h]; rfl

/-- The first anchor's sector. -/
def firstAnchor : List UInt8 := layB 1 (leBytes 4294967296 8)
theorem renew_zeros : renewTo (zeros 512) (zeros 512) = 0 ∧ renewS (zeros 512) (zeros 512) 4294967296 = firstAnchor := by
  have hs : slotOf (anchorN (zeros 512)) (anchorN (zeros 512)) = -1 := by rw [anchorN_zeros]; rfl
  have ho : renewOld (zeros 512) (zeros 512) = zeros 512 := by unfold renewOld; rw [hs, if_neg (by decide)]
  refine ⟨by unfold renewTo; rw [hs, if_neg (by decide)], ?_⟩
  unfold renewS firstAnchor
  rw [ho]
  have e1 : (zeros 512).getD 0 0 = 0 := by rw [List.getD_eq_getElem?_getD]; unfold zeros; rw [List.getElem?_replicate]; rfl
  have e2 : (zeros 512).getD 511 0 = 0 := by rw [List.getD_eq_getElem?_getD]; unfold zeros; rw [List.getElem?_replicate]; rfl
  rw [e1, e2]
  rfl
theorem Is.walFormat {D : DM} {N : Nat} {life : Int} {g : Nat → List UInt8} (h : Is D N life g) (f n : Nat) (hf : f + 2 + n ≤ N) :
    ∃ D', walFormatM D f n = (0, D') ∧ Is D' N (wrap64 (life + 1)) (fun j => if j = f then firstAnchor else if f ≤ j ∧ j < f + (n + 2) then zeros 512 else g j) := by
  unfold walFormatM
  rw [h.burnt, if_neg (by decide)]
  obtain ⟨D1, e1, h1⟩ := Is.zeroRun (n + 2) h.took f
  rw [e1]
  obtain ⟨D2, e2, h2⟩ := h1.fl
  rw [okThen_ok rfl, e2, okThen_ok rfl]
  have z1 : (if f ≤ f ∧ f < f + (n + 2) then zeros 512 else g f) = zeros 512 := if_pos (by omega)
  have z2 : (if f ≤ f + 1 ∧ f + 1 < f + (n + 2) then zeros 512 else g (f + 1)) = zeros 512 := if_pos (by omega)
  obtain ⟨D3, e3, h3⟩ := h2.anchorM f 1 0 (by omega) (by rw [z1, z2, anchorN_zeros]; decide)
  refine ⟨D3, e3, h3.congr fun j _ => ?_⟩
  rw [z1, z2, renew_zeros.1, Nat.add_zero]
  by_cases e : j = f
  · rw [if_pos e, if_pos e]; exact renew_zeros.2
  · rw [if_neg e, if_neg e]
/-- What Format leaves on a disk without a fuse. -/
def fmtG (s l n : Nat) (j : Nat) : List UInt8 := if j = 0 then encSuper s l n else if j = 1 then firstAnchor else zeros 512
theorem Is.format {D : DM} {N : Nat} {life : Int} {g : Nat → List UInt8} (h : Is D N life g) (s l n : Nat) (hp : PlanOk s l n) (hs : s = N) :
    ∃ D', okRun (fmtSteps s l n) D = (0, D') ∧ Is D' N (wrap64 (life + 1)) (fmtG s l n) := by
  have hl : 3 + l ≤ N := by unfold PlanOk at hp; omega
  unfold fmtSteps
  obtain ⟨D1, e1, h1⟩ := h.wr 0 (length_zeros 512)
  obtain ⟨D2, e2, h2⟩ := h1.fl
  obtain ⟨D3, e3, h3⟩ := Is.zeroRun (D2.n - 1) h2 1
  obtain ⟨D4, e4, h4⟩ := h3.fl
  obtain ⟨D5, e5, h5⟩ := h4.walFormat 1 l (by omega)
  obtain ⟨D6, e6, h6⟩ := h5.wr 0 (length_encSuper s l n)
  obtain ⟨D7, e7, h7⟩ := h6.fl
  have hr : okRun [fmtW, DM.fl, fmtZ, DM.fl, fmtL l, fmtS s l n, DM.fl] D = (0, D7) := by
    show okThen (fmtW D) _ = _
    rw [okThen_ok (show fmtW D = (0, D1) from e1)]
    show okThen (DM.fl D1) _ = _
    rw [okThen_ok e2]
    show okThen (fmtZ D2) _ = _
    rw [okThen_ok (show fmtZ D2 = (0, D3) from e3)]
    show okThen (DM.fl D3) _ = _
    rw [okThen_ok e4]
    show okThen (fmtL l D4) _ = _
    rw [okThen_ok (show fmtL l D4 = (0, D5) from e5)]
    show okThen (fmtS s l n D5) _ = _
    rw [okThen_ok (show fmtS s l n D5 = (0, D6) from e6)]
    show okThen (DM.fl D6) _ = _
    rw [okThen_ok e7]; rfl
  refine ⟨D7, hr, h7.congr fun j hj => ?_⟩
  have hn2 := h2.n
  have hj1 : j = 0 ∨ 1 ≤ j ∧ j < 1 + (D2.n - 1) := by omega
  unfold fmtG
  by_cases j0 : j = 0
  · simp only [j0, if_true]
  · have j3 : 1 ≤ j ∧ j < 1 + (D2.n - 1) := hj1.resolve_left j0
    by_cases j1 : j = 1
    · simp only [j1, if_true]
    · simp only [j0, j1, j3, if_false, if_true, and_self, ite_self]
theorem first_pair : PairOk firstAnchor (zeros 512) 1 0 := by
  have ha : anchorOf firstAnchor = some (4294967296, []) := anchorOf_layB 1 4294967296 (by decide) (by decide) (by decide)
  have hn : anchorN firstAnchor = 4294967296 := by unfold anchorN; rw [ha]
  have hd : anchorData firstAnchor = [] := by unfold anchorData; rw [ha]
  refine ⟨?_, by decide, by decide, by decide, ?_⟩
  · rw [hn, anchorN_zeros]; rfl
  · rw [hn, anchorN_zeros, if_pos (by unfold slotOf; rw [if_neg (by omega), if_neg (by omega)])]; exact hd
end Go.Vk

namespace Go.Vk
open Go.RowKit Go.Proofs

/-- One entry of a map of blocks: the number, the stamp, the block of bytes, its room, the bytes. -/
structure OEnt where
  key : Nat
  born : Nat
  blk : Nat
  cap : Nat
  data : List UInt8
def OEnt.val (e : OEnt) : Value := .slice (some ⟨e.blk, 0, none⟩) 512 e.cap
def OEnt.ent (e : OEnt) : Ent := (e.key, e.val, e.born)
structure OEnt.ok (w : World) (e : OEnt) : Prop where
  len : e.data.length = 512
  blk : Blk w e.blk (bytesO (e.data ++ zeros (e.cap - 512)))
  cap : 512 ≤ e.cap
structure MapAt (w : World) (m : Nat) (es : List OEnt) (clock : Nat) : Prop where
  hm : Blk w m (mapO (es.map OEnt.ent) clock)
  ok : ∀ e ∈ es, e.ok w
  keys : (es.map (·.key)).Nodup
  borns : (es.map (·.born)).Nodup
  clk : ∀ e ∈ es, e.born < clock
def mapFoot (m : Nat) (es : List OEnt) : List Nat := m :: es.map (·.blk)
def ovOf (es : List OEnt) (k : Nat) : Option (List UInt8) := (es.find? (·.key == k)).map (·.data)
theorem MapAt.keep {w w' : World} {m : Nat} {es : List OEnt} {clock : Nat} (h : MapAt w m es clock) (hk : ∀ k ∈ mapFoot m es, w'.heap[k]? = w.heap[k]?) : MapAt w' m es clock := by
  refine ⟨?_, fun e he => ⟨(h.ok e he).len, ?_, (h.ok e he).cap⟩, h.keys, h.borns, h.clk⟩
  · have := h.hm; unfold Blk at *; rw [hk m (by simp [mapFoot])]; exact this
  · have := (h.ok e he).blk; unfold Blk at *; rw [hk e.blk (by simp [mapFoot]; exact .inr ⟨e, he, rfl⟩)]; exact this
theorem MapAt.lt {w : World} {m : Nat} {es : List OEnt} {clock : Nat} (h : MapAt w m es clock) : ∀ k ∈ mapFoot m es, k < w.heap.size := by
  intro k hk
  simp only [mapFoot, List.mem_cons, List.mem_map] at hk
  rcases hk with rfl | ⟨e, he, rfl⟩
  · exact h.hm.lt
  · exact (h.ok e he).blk.lt
theorem MapAt.keeps {w w' : World} {m : Nat} {es : List OEnt} {clock : Nat} {G : Nat → Prop} (h : MapAt w m es clock) (k : Keeps G w w') (hG : ∀ i ∈ mapFoot m es, ¬ G i) : MapAt w' m es clock :=
  h.keep fun i hi => k.block i (h.lt i hi) (hG i hi)
theorem MapAt.new (w : World) : MapAt (w.alloc (mapO [] 0)) w.heap.size [] 0 := ⟨Blk.new w _, (fun e he => by cases he), List.nodup_nil, List.nodup_nil, (fun e he => by cases he)⟩

/-- A store's own block. -/
def storeO (d l m s lg n : Nat) (life : Int) (op : Bool) : Obj :=
  .cells #[.pointer (some ⟨d, 0, none⟩), .pointer (some ⟨l, 0, none⟩), .int .i64 lg, .int .i64 (3 + lg : Nat), .int .i64 (s - (3 + lg) : Nat), .int .i64 n, .int .i64 (2 + n / 4 : Nat), .int .i64 life, .map (some m), .bool op] 126 (0, 0)

set_option maxRecDepth 20000 in
theorem open1_idle (p q : Addr) (w : World) :
    CallsD Tryz.prog 141 #[.pointer (some p), .pointer (some q)] .returning w fun e u' w' => e = .returned (.tuple #[]) ∧ u' = .returning ∧ w' = w := by
  have hty : (binOp BinOp.eql 20 .nilIface .nilIface).run Tryz.prog w = .ok (.bool true) w := by kernel_rfl
  refine callsD_of_wpS Tryz.func141 rfl fun c₀ cs hu => ?_
  apply wpS_seq
  apply wpS_region
  simp [wpOpsS, go_sem, recoverD, hu, Tryz.ntmps141, Exit.thenS]
  refine wpS_of_wp ?_
  go_wp2
  cases c₀
  simp_all [bodyPostS, results, Tryz.results141]
theorem demand_ok (w : World) : Calls Tryz.prog 143 #[.int .i64 0] w fun e w' => e = .returned (.tuple #[]) ∧ w = w' := by
  go_enter Tryz.func143, Tryz.ntmps143
  go_wp2
  go_end0
  exact ⟨rfl, rfl⟩
end Go.Vk

namespace Go.Vk
open Go.RowKit Go.Proofs

theorem keeps_set (W : World) (b i : Nat) (v : Value) : Keeps (· = b) W (W.setCell ⟨b, i, none⟩ v) := (Keeps.refl (· = b) W).setCell (p := ⟨b, i, none⟩) (.inl rfl) v
/-- The layout as a store holds it. -/
def layoutL (s lg n : Nat) : List Value := [.int .i64 lg, .int .i64 (3 + lg : Nat), .int .i64 (s - (3 + lg) : Nat), .int .i64 n, .int .i64 (2 + n / 4 : Nat)]
theorem layoutV_eq {s lg n : Nat} (h : PlanOk s lg n) : layoutV s lg n = .agg (layoutL s lg n).toArray := by
  unfold layoutV layoutL
  have h1 : (3 + (lg : Int)) = ((3 + lg : Nat) : Int) := by omega
  have h2 : ((s : Int) - ((3 + lg : Nat) : Int)) = ((s - (3 + lg) : Nat) : Int) := by unfold PlanOk at h; omega
  have h3 : (2 + (n : Int) / 4) = ((2 + n / 4 : Nat) : Int) := by omega
  rw [h1, h2, h3]

/-- The disk behind Open's reads, ahead of its log's Start. -/
def openD (D : DM) (lg : Nat) : DM := (D.readed.took.readed.readed.readedN lg).flushed
structure FreshOk (D : DM) (s lg n ep tl : Nat) : Prop where
  calm : D.burnt = false
  sup : SuperOk (D.now 0)
  hs : supS (D.now 0) = s
  hl : supL (D.now 0) = lg
  hn : supN (D.now 0) = n
  sz : s = D.n
  pair : PairOk (D.now 1) (D.now 2) ep tl
  top : topK (fun j => D.now (3 + j)) ep lg < 1073741824
  row : RowStops ⟨1, lg, 0, ep, 0, tl, 0, false⟩ (fun j => D.now (3 + j))
  wr : D.writes < 1099511620000
def OpenPost (w : World) (d : Nat) (F : List Nat) (D' : DM) (s lg n : Nat) (life : Int) (T : Nat) (e : Ending) (w' : World) : Prop :=
  ∃ sb l m F', e = .returned (.tuple #[.pointer (some ⟨sb, 0, none⟩), .int .i64 0]) ∧ Blk w' sb (storeO d l m s lg n life false) ∧ Blk w' l (logO d ⟨1, lg, life, T + 1, T, 0, 0, true⟩) ∧ Blk w' m (mapO [] 0) ∧
    DAt w d F D' F' w' ∧ w.heap.size ≤ sb ∧ w.heap.size ≤ l ∧ w.heap.size ≤ m ∧ (sb :: l :: m :: F').Nodup

section
variable {w : World} {d : Nat} {D : DM} {F : List Nat}
set_option maxHeartbeats 2000000 in
set_option maxRecDepth 100000 in
theorem sopen_ok (h : DiskRep w d D F) (s lg n ep tl : Nat) (hf : FreshOk D s lg n ep tl) (hst : (anchorM (openD D lg) 1 (topK (fun j => D.now (3 + j)) ep lg + 1) 0).1 = 0) :
    Calls Tryz.prog 88 #[.pointer (some ⟨d, 0, none⟩)] w
      (OpenPost w d F (anchorM (openD D lg) 1 (topK (fun j => D.now (3 + j)) ep lg + 1) 0).2 s lg n (wrap64 (D.life + 1)) (topK (fun j => D.now (3 + j)) ep lg)) := by
  have hmf : ∀ (fn : Fn) (first cap : Array Value) (w : World), (Instr.makeFunc fn first cap).run Tryz.prog w = .ok (.func fn first cap) w := fun _ _ _ _ => rfl
  have hcf : ∀ w0, (callFunc 141 #[.pointer (some ⟨w.heap.size, 0, none⟩), .pointer (some ⟨w.heap.size + 1, 0, none⟩)]).run Tryz.prog w0 = .ok (.enter 141 #[.pointer (some ⟨w.heap.size, 0, none⟩), .pointer (some ⟨w.heap.size + 1, 0, none⟩)]) w0 := fun w0 => by kernel_rfl
  have hlt := h.lt
  have hwf := h.wf
  have hP : PlanOk s lg n := by have := hf.sup.2.2.2.1; rwa [hf.hs, hf.hl, hf.hn] at this
  have hb1 : DiskRep ((w.alloc (.cells #[.pointer none] 36 (0, 0))).alloc (.cells #[.int .i64 0] 34 (0, 0))) d D F := h.keeps (((Keeps.refl (fun _ => False) w).alloc _).alloc _) (fun _ _ f => f)
  have hBu := burnt_w hb1
  rw [hf.calm] at hBu
  have hRd := read_ok hb1 hf.calm 0 (by decide) (by have := hwf.pos; omega)
  rw [show (0 : Int).toNat = 0 from rfl] at hRd
  have hDm := demand_ok
  replace h := hid h; replace hlt := hid hlt; replace hwf := hid hwf; replace hP := hid hP; replace hb1 := hid hb1; replace hBu := hid hBu; replace hRd := hid hRd; replace hf := hid hf; replace hst := hid hst; replace hDm := hid hDm
  go_enter_defers Tryz.func88, Tryz.ntmps88
  go_upto_region 6 with (first
    | (go_at_call 94; refine hBu.out.mono ?_; rintro e w2 ⟨rfl, rfl⟩)
    | (go_at_call 142; refine hRd.out.mono ?_; rintro e w3 ⟨b5, rfl, hb5, hB5, hD3, k3⟩; have r3 := k3.blk ((Blk.new (w.alloc (.cells #[.pointer none] 36 (0, 0))) (.cells #[.int .i64 0] 34 (0, 0)))) (fun hm => by have := hlt.out _ hm; simp at this; omega); have q3 := r3.cell 0; have z3 := r3.frz; simp at q3 z3; replace hb5 := hid hb5; replace hB5 := hid hB5; replace hD3 := hid hD3; replace k3 := hid k3; replace r3 := hid r3)
    | (go_at_call 143; refine (hDm.out _).mono ?_; rintro e w4 ⟨rfl, rfl⟩))
  have r2 := k3.out.blk ((Blk.new w (.cells #[.pointer none] 36 (0, 0))).alloc (.cells #[.int .i64 0] 34 (0, 0))) (fun hm => by have := hlt.out _ hm; omega)
  have hb5' : w.heap.size + 1 + 1 ≤ b5 := by have := hb5.out; simpa using this
  have kk : Keeps (· ∈ F) w w3 := (((Keeps.refl (· ∈ F) w).alloc _).alloc _).step k3.out
  have hF0 : w.heap.size ∉ F := fun hm => by have := hlt.out _ hm; omega
  have hF1 : w.heap.size + 1 ∉ F := fun hm => by have := hlt.out _ hm; omega
  have hnF : ∀ i, w.heap.size ≤ i → i ∉ F := fun i hi hm => by have := hlt.out _ hm; omega
  have hge0 : w.heap.size ≤ w.heap.size := Nat.le_refl _
  have r3' : Blk w3 (w.heap.size + 1) (.cells #[.int .i64 0] 34 (0, 0)) := by have := r3.out; rwa [World.size_alloc] at this
  have kset : ∀ W, Keeps (· = w.heap.size + 1) W (W.setCell ⟨w.heap.size + 1, 0, none⟩ (.int .i64 0)) := fun W => keeps_set W _ _ _
  have h6 := And.intro ((kset w3).blk r2 (by omega)) (And.intro (r3'.setCell 0 (.int .i64 0)) (And.intro ((kset w3).blk hB5.out (by omega)) (And.intro (hD3.out.keeps (kset w3) (fun i hi e => hF1 (e ▸ hi))) (kk.fresh (kset w3) (fun i hi => by omega)))))
  refine wp_gen (fun W => Blk W w.heap.size (.cells #[.pointer none] 36 (0, 0)) ∧ Blk W (w.heap.size + 1) (.cells #[.int .i64 0] 34 (0, 0)) ∧ Blk W b5 (bytesO (D.now 0)) ∧ DiskRep W d D.readed F ∧ Keeps (· ∈ F) w W) h6 ?_
  clear h6 r2 r3 r3' kk q3 z3 hB5 hD3 k3 hb5 kset
  have hs0 := hwf.out.now_length hwf.out.pos
  rintro w5 ⟨r2, r3, hB5, hD5, k5⟩
  have hSu := super_w w5 b5 (D.now 0) hs0 hB5 hf.out.sup
  rw [hf.out.hs, hf.out.hl, hf.out.hn] at hSu
  have hb3lt := r3.lt
  generalize hq2 : w.heap.size = b2 at *
  replace r2 := hid r2; replace r3 := hid r3; replace hB5 := hid hB5; replace hD5 := hid hD5; replace k5 := hid k5; replace hSu := hid hSu; replace hF0 := hid hF0; replace hF1 := hid hF1; replace hnF := hid hnF; replace hs0 := hid hs0; replace hq2 := hid hq2
  go_upto_region 8 with (first
    | (go_at_call 144; refine hSu.out.mono ?_; rintro e w6 ⟨rfl, k6⟩; have r36 := (k6.blk r3.out (fun f => f)).alloc (superO s lg n); have q3 := r36.cell 0; have z3 := r36.frz; unfold superO at q3 z3; simp at q3 z3; replace k6 := hid k6; replace r36 := hid r36)
    | (go_at_call 143; refine (hDm.out _).mono ?_; rintro e w4 ⟨rfl, rfl⟩))
  have k6' : Keeps (· = b2 + 1) w5 ((w6.alloc (superO s lg n)).setCell ⟨b2 + 1, 0, none⟩ (.int .i64 0)) := ((k6.out.mono (G := (· = b2 + 1)) (fun _ _ f => f.elim)).alloc _).setCell (p := ⟨b2 + 1, 0, none⟩) (.inl rfl) _
  have hb6 : b2 + 1 < w6.heap.size := Nat.lt_of_lt_of_le hb3lt k6.out.size
  have s6 := (keeps_set (w6.alloc (superO s lg n)) (b2 + 1) 0 (.int .i64 0)).blk (Blk.new w6 (superO s lg n)) (by omega)
  have h8 := And.intro (k6'.blk r2.out (by omega)) (And.intro (r36.out.setCell 0 (.int .i64 0)) (And.intro s6 (And.intro (hD5.out.keeps k6' (fun i hi e => hF1.out (e ▸ hi))) (k5.out.fresh k6' (fun i hi => by rw [hq2.out]; omega)))))
  refine wp_gen (fun W => Blk W b2 (.cells #[.pointer none] 36 (0, 0)) ∧ Blk W (b2 + 1) (.cells #[.int .i64 0] 34 (0, 0)) ∧ Blk W w6.heap.size (superO s lg n) ∧ DiskRep W d D.readed F ∧ Keeps (· ∈ F) w W) h8 ?_
  clear h8 k6' s6 r2 r3 hB5 hD5 k5 hSu r36 k6 q3 z3 hs0
  rintro w7 ⟨r2, r3, r6, hD7, k7⟩
  have h6lt := r6.lt
  generalize w6.heap.size = b6 at hb6 r6 h6lt ⊢
  clear w6
  have q6 := r6.cell 0
  have q61 := r6.cell 1
  have q62 := r6.cell 2
  simp at q6 q61 q62
  have hS := fun m => sectors_w (hD7.drewN m)
  have hDn : D.readed.n = s := hf.out.sz.symm
  rw [hDn] at hS
  replace r2 := hid r2; replace r3 := hid r3; replace r6 := hid r6; replace hD7 := hid hD7; replace k7 := hid k7; replace hS := hid hS; replace hDn := hid hDn
  go_quiet (first | (go_at_call 107; exact (hS.out _).mono (fun e w' h => ⟨h.1, _, h.2.symm⟩)))
  have hPl := plan_ok (w7.drewN nq) s lg n hP.out
  rw [layoutV_eq hP.out] at hPl
  unfold layoutL at hPl
  have hL0 : 3 + lg ≤ s := by have := hP.out; unfold PlanOk at this; omega
  generalize hv1 : 3 + lg = v1 at hPl
  generalize hv2 : s - v1 = v2 at hPl
  generalize hv3 : 2 + n / 4 = v3 at hPl
  replace hPl := hid hPl; replace hv1 := hid hv1; replace hv2 := hid hv2; replace hv3 := hid hv3; replace hL0 := hid hL0
  have q6n : (w7.drewN nq).cell? ⟨b6, 0, none⟩ = some (.int .i64 s) := q6
  have q61n : (w7.drewN nq).cell? ⟨b6, 1, none⟩ = some (.int .i64 lg) := q61
  have q62n : (w7.drewN nq).cell? ⟨b6, 2, none⟩ = some (.int .i64 n) := q62
  go_upto_region 12 with (first
    | (go_at_call 145; refine hPl.out.mono ?_; rintro e w8 ⟨rfl, k8⟩; have r38 := (k8.blk (r3.out.drewN nq) (fun f => f)).alloc (.cells #[.int .i64 lg, .int .i64 v1, .int .i64 v2, .int .i64 n, .int .i64 v3] 124 (0, 0)); have q3 := r38.cell 0; have z3 := r38.frz; simp at q3 z3; replace k8 := hid k8; replace r38 := hid r38)
    | (go_at_call 143; refine (hDm.out _).mono ?_; rintro e w4 ⟨rfl, rfl⟩))
  have k8' : Keeps (· = b2 + 1) w7 ((w8.alloc (.cells #[.int .i64 lg, .int .i64 v1, .int .i64 v2, .int .i64 n, .int .i64 v3] 124 (0, 0))).setCell ⟨b2 + 1, 0, none⟩ (.int .i64 0)) := (((((Keeps.refl (· = b2 + 1) w7).drewN nq).step (k8.out.mono (G := (· = b2 + 1)) (fun _ _ f => f.elim)))).alloc _).setCell (p := ⟨b2 + 1, 0, none⟩) (.inl rfl) _
  have hb7 : b6 < w8.heap.size := Nat.lt_of_lt_of_le h6lt k8.out.size
  have s8 := (keeps_set (w8.alloc (.cells #[.int .i64 lg, .int .i64 v1, .int .i64 v2, .int .i64 n, .int .i64 v3] 124 (0, 0))) (b2 + 1) 0 (.int .i64 0)).blk (Blk.new w8 (.cells #[.int .i64 lg, .int .i64 v1, .int .i64 v2, .int .i64 n, .int .i64 v3] 124 (0, 0))) (by omega)
  have h12 := And.intro (k8'.blk r2.out (by omega)) (And.intro (r38.out.setCell 0 (.int .i64 0)) (And.intro (k8'.blk r6.out (by omega)) (And.intro s8 (And.intro (hD7.out.keeps k8' (fun i hi e => hF1.out (e ▸ hi))) (k7.out.fresh k8' (fun i hi => by rw [hq2.out]; omega))))))
  refine wp_gen (fun W => Blk W b2 (.cells #[.pointer none] 36 (0, 0)) ∧ Blk W (b2 + 1) (.cells #[.int .i64 0] 34 (0, 0)) ∧ Blk W b6 (superO s lg n) ∧ Blk W w8.heap.size (.cells #[.int .i64 lg, .int .i64 v1, .int .i64 v2, .int .i64 n, .int .i64 v3] 124 (0, 0)) ∧ DiskRep W d D.readed F ∧ Keeps (· ∈ F) w W) h12 ?_
  clear h12 k8' s8 r2 r3 r6 hD7 k7 hS r38 k8 q3 z3 q6 q61 q62 q6n q61n q62n hPl h6lt
  clear w7
  rintro w9 ⟨r2, r3, r6, r7, hD9, k9⟩
  have h7lt := r7.lt
  generalize w8.heap.size = b7 at hb7 r7 h7lt ⊢
  clear w8
  have q61 := r6.cell 1
  simp at q61
  have hlg : 18 ≤ lg ∧ lg ≤ 256 := by have := hP.out; unfold PlanOk at this; omega
  have hsz : 1 + 2 + lg ≤ D.n ∧ D.n ≤ 2048 := by have := hP.out; unfold PlanOk at this; have := hf.out.sz; omega
  have hW : Calls Tryz.prog 146 #[.pointer (some ⟨d, 0, none⟩), .int .i64 1, .int .i64 lg] w9 (WalOpenPost w9 d F (openD D lg) ⟨1, lg, wrap64 (D.life + 1), ep, topK (fun j => D.now (3 + j)) ep lg, tl, tl, false⟩ (fun _ v => v = .slice none 0 0)) :=
    walOpen_ok hD9 hf.out.calm 1 lg hlg.1 hlg.2 hsz.1 hsz.2 ep tl hf.out.pair (by have := hf.out.top; show topK (fun j => D.now (3 + j)) ep lg ≠ 1073741824; omega) tl (fun _ v => v = .slice none 0 0) (fun _ _ _ h _ => h)
      (fun W l g bs lo hl hR hgl hbl => (scan_empty hl g lo _ bs hR hgl hbl (by show 1 ≤ lg; omega) hlg.2 (hf.out.pair.tl2) hf.out.row).mono (fun e w' h => ⟨_, h.1, rfl, h.2.1, h.2.2⟩))
  generalize hT : topK (fun j => D.now (3 + j)) ep lg = T at hW hst ⊢
  unfold WalOpenPost at hW
  replace r2 := hid r2; replace r3 := hid r3; replace r6 := hid r6; replace r7 := hid r7; replace hD9 := hid hD9; replace k9 := hid k9; replace hW := hid hW; replace hlg := hid hlg; replace hsz := hid hsz; replace hT := hid hT
  go_upto_region 14 with (first
    | (go_at_call 146; refine hW.out.mono ?_; rintro e w10 ⟨l, v, F10, rfl, hl10, hB10, rfl, hA10, hlF10⟩; have r310 := hA10.blk r3.out (hnF.out _ (by omega)); have q3 := r310.cell 0; have z3 := r310.frz; simp at q3 z3; replace hl10 := hid hl10; replace hB10 := hid hB10; replace hA10 := hid hA10; replace hlF10 := hid hlF10; replace r310 := hid r310)
    | (go_at_call 143; refine (hDm.out _).mono ?_; rintro e w4 ⟨rfl, rfl⟩))
  have hb2l : b2 + 1 < l := by have := hl10.out; omega
  have ks := keeps_set w10 (b2 + 1) 0 (.int .i64 0)
  have hA11 : DAt w d F (openD D lg) F10 (w10.setCell ⟨b2 + 1, 0, none⟩ (.int .i64 0)) := by
    have hA := DAt.trans (⟨hD9.out, fun _ hk => .inl hk, k9.out⟩ : DAt w d F D.readed F w9) hA10.out
    exact hA.step ks (fun i hi e => by
      rcases hA10.out.sub i hi with a | a
      · exact hF1.out (e ▸ a)
      · omega) (fun i hi e => by have := hq2.out; omega)
  have e7 := hA10.out.blk r7.out (hnF.out _ (by omega))
  have e2 := hA10.out.blk r2.out hF0.out
  have h14 := And.intro (ks.blk e2 (by omega)) (And.intro (r310.out.setCell 0 (.int .i64 0)) (And.intro (ks.blk e7 (by omega)) (And.intro (ks.blk hB10.out (by omega)) hA11)))
  refine wp_gen (fun W => Blk W b2 (.cells #[.pointer none] 36 (0, 0)) ∧ Blk W (b2 + 1) (.cells #[.int .i64 0] 34 (0, 0)) ∧ Blk W b7 (.cells #[.int .i64 lg, .int .i64 v1, .int .i64 v2, .int .i64 n, .int .i64 v3] 124 (0, 0)) ∧ Blk W l (logO d ⟨1, lg, wrap64 (D.life + 1), ep, T, tl, tl, false⟩) ∧ DAt w d F (openD D lg) F10 W) h14 ?_
  have hb7l : b7 < l := by have := hl10.out; omega
  have hnF2 : ∀ i, b2 ≤ i → i < w9.heap.size → i ∉ F10 := fun i hi h9 hm => by
    rcases hA10.out.sub i hm with a | a
    · exact hnF.out i hi a
    · omega
  have hF20 := hnF2 b2 (Nat.le_refl _) (by omega)
  have hF21 := hnF2 (b2 + 1) (by omega) (by omega)
  have hF27 := hnF2 b7 (by omega) h7lt
  clear h14 ks hA11 e7 e2 r2 r3 r6 r7 hD9 k9 hW q61 q3 z3 hB10 hA10 r310 hl10 h7lt hnF2
  clear w10 w9
  rintro w11 ⟨r2, r3, r7, hl, hA⟩
  have hDl := hA.rep
  have hdl : (openD D lg).life = wrap64 (D.life + 1) := by
    unfold openD DM.flushed DM.spent
    split <;> exact readedN_life _ _
  have hLf : ∀ W, Keeps (fun _ => False) w11 W → Calls Tryz.prog 95 #[.pointer (some ⟨d, 0, none⟩)] W fun e w' => e = .returned (.int .i64 (wrap64 (D.life + 1))) ∧ W = w' := fun W k => by
    have := life_w (hDl.keeps k (fun _ _ f => f))
    rwa [hdl] at this
  have kd1 : Keeps (fun _ => False) w11 w11.drew := (Keeps.refl _ _).drew
  have kd2 : Keeps (fun _ => False) w11 (w11.alloc (mapO [] 0)).drew := ((Keeps.refl _ _).alloc _).drew
  have kd3 : Keeps (fun _ => False) w11 (w11.drew.alloc (mapO [] 0)) := ((Keeps.refl _ _).drew).alloc _
  have hmm : ∀ w, (Instr.makeMap 104 none).run Tryz.prog w = .ok (.map (some w.heap.size)) (w.alloc (mapO [] 0)) := fun w => run_makeMap _ w
  have q2 := r2.cell 0
  have z2 := r2.frz
  simp at q2
  have hb2s : b2 < w11.heap.size := r2.lt
  have q7 : ∀ W, Keeps (fun _ => False) w11 W → Blk W b7 (.cells #[.int .i64 lg, .int .i64 v1, .int .i64 v2, .int .i64 n, .int .i64 v3] 124 (0, 0)) := fun W k => k.blk r7 (fun f => f)
  have p70 := r7.cell 0
  have p71 := r7.cell 1
  have p72 := r7.cell 2
  have p73 := r7.cell 3
  have p74 := r7.cell 4
  simp at p70 p71 p72 p73 p74
  have hne72 : b7 ≠ b2 := by omega
  generalize hlf : wrap64 (D.life + 1) = life at hl hLf ⊢
  replace r2 := hid r2; replace r3 := hid r3; replace r7 := hid r7; replace hl := hid hl; replace hA := hid hA; replace hDl := hid hDl; replace hdl := hid hdl; replace hLf := hid hLf; replace kd1 := hid kd1; replace kd2 := hid kd2; replace kd3 := hid kd3; replace q7 := hid q7; replace hF20 := hid hF20; replace hF21 := hid hF21; replace hF27 := hid hF27; replace hlf := hid hlf
  go_region_held3 (fun W => W.cell? ⟨b7, 0, none⟩ = some (.int .i64 lg) ∧ W.cell? ⟨b7, 1, none⟩ = some (.int .i64 v1) ∧ W.cell? ⟨b7, 2, none⟩ = some (.int .i64 v2) ∧ W.cell? ⟨b7, 3, none⟩ = some (.int .i64 n) ∧ W.cell? ⟨b7, 4, none⟩ = some (.int .i64 v3)) (first | exact ⟨cell_alloc (cell_alloc (cell_setCell_ne p70 hne72 _) _) _, cell_alloc (cell_alloc (cell_setCell_ne p71 hne72 _) _) _, cell_alloc (cell_alloc (cell_setCell_ne p72 hne72 _) _) _, cell_alloc (cell_alloc (cell_setCell_ne p73 hne72 _) _) _, cell_alloc (cell_alloc (cell_setCell_ne p74 hne72 _) _) _⟩ | go_keep) (first
    | (go_at_call 95; refine (hLf.out _ (by first | exact kd1.out | exact kd2.out | exact kd3.out)).mono ?_; rintro e w12 ⟨rfl, rfl⟩))
  all_goals
    have kS : Keeps (· = b2) w11 (((w11.setCell ⟨b2, 0, none⟩ (.pointer (some ⟨w11.heap.size + 1, 0, none⟩))).alloc (mapO [] 0)).alloc (.cells #[.pointer (some ⟨d, 0, none⟩), .pointer (some ⟨l, 0, none⟩), .int .i64 lg, .int .i64 v1, .int .i64 v2, .int .i64 n, .int .i64 v3, .int .i64 life, .map (some w11.heap.size), .bool false] 126 (0, 0))).drew :=
      (((keeps_set w11 b2 0 (.pointer (some ⟨w11.heap.size + 1, 0, none⟩))).alloc _).alloc _).drew
    have g2 : Blk (((w11.setCell ⟨b2, 0, none⟩ (.pointer (some ⟨w11.heap.size + 1, 0, none⟩))).alloc (mapO [] 0)).alloc (.cells #[.pointer (some ⟨d, 0, none⟩), .pointer (some ⟨l, 0, none⟩), .int .i64 lg, .int .i64 v1, .int .i64 v2, .int .i64 n, .int .i64 v3, .int .i64 life, .map (some w11.heap.size), .bool false] 126 (0, 0))).drew b2 (.cells #[.pointer (some ⟨w11.heap.size + 1, 0, none⟩)] 36 (0, 0)) :=
      (((r2.out.setCell 0 (.pointer (some ⟨w11.heap.size + 1, 0, none⟩))).alloc _).alloc _).drew
    have gm := (Blk.new (w11.setCell ⟨b2, 0, none⟩ (.pointer (some ⟨w11.heap.size + 1, 0, none⟩))) (mapO [] 0)).alloc (.cells #[.pointer (some ⟨d, 0, none⟩), .pointer (some ⟨l, 0, none⟩), .int .i64 lg, .int .i64 v1, .int .i64 v2, .int .i64 n, .int .i64 v3, .int .i64 life, .map (some w11.heap.size), .bool false] 126 (0, 0))
    have gs := Blk.new ((w11.setCell ⟨b2, 0, none⟩ (.pointer (some ⟨w11.heap.size + 1, 0, none⟩))).alloc (mapO [] 0)) (.cells #[.pointer (some ⟨d, 0, none⟩), .pointer (some ⟨l, 0, none⟩), .int .i64 lg, .int .i64 v1, .int .i64 v2, .int .i64 n, .int .i64 v3, .int .i64 life, .map (some w11.heap.size), .bool false] 126 (0, 0))
    rw [World.size_alloc, World.size_setCell] at gs
    rw [World.size_setCell] at gm
    have hA12 := hA.out.step kS (fun i hi e => hF20.out (e ▸ hi)) (fun i hi e => by have := hq2.out; omega)
    have hwl : w.heap.size ≤ w11.heap.size := hA.out.keeps.size
    have h12 := And.intro g2 (And.intro (kS.blk r3.out (by omega)) (And.intro gs.drew (And.intro gm.drew (And.intro (kS.blk hl.out (by omega)) hA12))))
    refine exit_gen (fun W => Blk W b2 (.cells #[.pointer (some ⟨w11.heap.size + 1, 0, none⟩)] 36 (0, 0)) ∧ Blk W (b2 + 1) (.cells #[.int .i64 0] 34 (0, 0)) ∧ Blk W (w11.heap.size + 1) (.cells #[.pointer (some ⟨d, 0, none⟩), .pointer (some ⟨l, 0, none⟩), .int .i64 lg, .int .i64 v1, .int .i64 v2, .int .i64 n, .int .i64 v3, .int .i64 life, .map (some w11.heap.size), .bool false] 126 (0, 0)) ∧ Blk W w11.heap.size (mapO [] 0) ∧ Blk W l (logO d ⟨1, lg, life, ep, T, tl, tl, false⟩) ∧ DAt w d F (openD D lg) F10 W) h12 ?_
    have hll := hl.out.lt
    have hmF : w11.heap.size ∉ F10 := fun hm => by have := hA.out.rep.lt _ hm; omega
    have hsF : w11.heap.size + 1 ∉ F10 := fun hm => by have := hA.out.rep.lt _ hm; omega
    clear kS g2 gm gs hA12 h12 r2 r3 r7 hl hA hDl hLf kd1 kd2 kd3 q7 q2 z2 p70 p71 p72 p73 p74 hmm
    rename_i hHeld
    clear hHeld
    rintro w13 ⟨r2, r3, rs, rm, hl, hA⟩
    generalize w11.heap.size = m at r2 rs rm hmF hsF hll hb2s hwl
    clear w11
    have hbo : (openD D lg).burnt = false := by
      cases hbo : (openD D lg).burnt with
      | false => rfl
      | true =>
        have := hst.out
        unfold anchorM at this
        rw [hbo, if_pos rfl] at this
        cases this
    have hno : (openD D lg).n = D.n := hA.rep.wf.pos |> fun _ => by
      have e1 : Steps D.readed.took.readed.readed (D.readed.took.readed.readed.readedN lg) 0 := ⟨by
        have := hwf.out.readed.wf.took.wf.readed.wf.readed.wf
        exact ⟨by rw [readedN_n]; exact (by
          have hd : ∀ k, (D.readed.took.readed.readed.readedN k).dur = D.readed.took.readed.readed.dur := fun k => by
            induction k with
            | zero => rfl
            | succ k ih => exact ih
          rw [hd]; exact this.len), by rw [readedN_n]; exact this.pos, by rw [readedN_n]; exact this.max, by
          have hd : ∀ k, (D.readed.took.readed.readed.readedN k).pend = D.readed.took.readed.readed.pend := fun k => by
            induction k with
            | zero => rfl
            | succ k ih => exact ih
          rw [hd]; exact this.pend⟩, readedN_n _ _, by rw [readedN_writes]; exact Nat.le_refl _⟩
      unfold openD
      rw [e1.wf.flushed_n, e1.n]; rfl
    have hwo : (openD D lg).writes < 1099511627776 := by
      unfold openD
      rw [flushed_writes, readedN_writes]
      have := hf.out.wr
      show D.writes < _
      omega
    have hTt : T < 1073741824 := by rw [← hT.out]; exact hf.out.top
    have hSt := start_w hl hA.rep hlF10.out hbo (by show (openD D lg).life = life; rw [hdl.out, hlf.out]) rfl (by show 1 + 1 < _; rw [hno]; have := hsz.out.1; omega) (by rw [hno]; exact hsz.out.2) hwo (by show T + 1 < _; omega)
    unfold LPost at hSt
    dsimp only at hSt
    have hst' := hst.out
    rw [hst', if_pos rfl] at hSt
    replace hSt := hid hSt; replace r2 := hid r2; replace r3 := hid r3; replace rs := hid rs; replace rm := hid rm; replace hl := hid hl; replace hA := hid hA; replace hbo := hid hbo; replace hno := hid hno; replace hwo := hid hwo; replace hTt := hid hTt
    go_wp2
    go_loopw [62] (fun i wr => i = .int .i64 0 ∧ wr = w13) (fun _ _ => 0)
    case atStart => exact ⟨rfl, rfl⟩
    case round =>
      obtain ⟨rfl, rfl⟩ := hrel
      go_upto_region 25 with (first
        | (go_at_call 148; refine hSt.out.mono ?_; rintro e w14 ⟨rfl, F14, hD14, hF14, hl14, k14⟩; replace hD14 := hid hD14; replace hF14 := hid hF14; replace hl14 := hid hl14; replace k14 := hid k14)
        | (go_at_call 143; refine (hDm.out _).mono ?_; rintro e w4 ⟨rfl, rfl⟩))
      have kn : ∀ b o, Blk wr b o → b ∉ F10 → b ≠ l → Blk w14 b o := fun b o h h1 h2 => k14.out.blk h (fun e => e.elim h1 h2)
      have g2 := kn _ _ r2.out hF20.out (by omega)
      have g3 := kn _ _ r3.out hF21.out (by omega)
      have gs := kn _ _ rs.out hsF (by omega)
      have gm := kn _ _ rm.out hmF (by omega)
      have hA14 : DAt w d F (anchorM (openD D lg) 1 (T + 1) 0).2 F14 w14 := ⟨hD14.out, fun k hk => by
        rcases hF14.out k hk with a | a
        · exact hA.out.sub k a
        · exact .inr (Nat.le_trans hA.out.keeps.size a), hA.out.keeps.trans k14.out (fun i hi e => by
          rcases e with e | e
          · rcases hA.out.sub i e with a | a
            · exact a
            · omega
          · have := hq2.out; omega)⟩
      have hn14 : ∀ b, b < wr.heap.size → b ∉ F10 → b ∉ F14 := fun b h1 h2 hm => by
        rcases hF14.out b hm with a | a
        · exact h2 a
        · omega
      have n2 := hn14 b2 r2.out.lt hF20.out
      have n3 := hn14 (b2 + 1) r3.out.lt hF21.out
      have ns := hn14 (m + 1) rs.out.lt hsF
      have nm := hn14 m rm.out.lt hmF
      have nl := hn14 l hl.out.lt hlF10.out
      have kS2 : Keeps (fun k => k = b2 ∨ k = b2 + 1) w14 ((w14.setCell ⟨b2, 0, none⟩ (.pointer (some ⟨m + 1, 0, none⟩))).setCell ⟨b2 + 1, 0, none⟩ (.int .i64 0)) := ((Keeps.refl _ w14).setCell (p := ⟨b2, 0, none⟩) (.inl (.inl rfl)) _).setCell (p := ⟨b2 + 1, 0, none⟩) (.inl (.inr rfl)) _
      have f2 : Blk ((w14.setCell ⟨b2, 0, none⟩ (.pointer (some ⟨m + 1, 0, none⟩))).setCell ⟨b2 + 1, 0, none⟩ (.int .i64 0)) b2 (.cells #[.pointer (some ⟨m + 1, 0, none⟩)] 36 (0, 0)) := (g2.setCell 0 (.pointer (some ⟨m + 1, 0, none⟩))).setCell_ne (p := ⟨b2 + 1, 0, none⟩) (by show b2 ≠ b2 + 1; omega) _
      have f3 : Blk ((w14.setCell ⟨b2, 0, none⟩ (.pointer (some ⟨m + 1, 0, none⟩))).setCell ⟨b2 + 1, 0, none⟩ (.int .i64 0)) (b2 + 1) (.cells #[.int .i64 0] 34 (0, 0)) := (g3.setCell_ne (p := ⟨b2, 0, none⟩) (by show b2 + 1 ≠ b2; omega) _).setCell 0 _
      have hX : OpenPost w d F (anchorM (openD D lg) 1 (T + 1) 0).2 s lg n life T (.returned (.tuple #[.pointer (some ⟨m + 1, 0, none⟩), .int .i64 0])) ((w14.setCell ⟨b2, 0, none⟩ (.pointer (some ⟨m + 1, 0, none⟩))).setCell ⟨b2 + 1, 0, none⟩ (.int .i64 0)) := by
        refine ⟨m + 1, l, m, F14, rfl, ?_, kS2.blk hl14.out (by omega), kS2.blk gm (by omega), hA14.step kS2 (fun i hi e => e.elim (fun e => n2 (e ▸ hi)) (fun e => n3 (e ▸ hi))) (fun i hi e => by have := hq2.out; omega), by omega, by have := hq2.out; omega, hwl, ?_⟩
        · have := kS2.blk gs (by omega)
          unfold storeO
          rw [hv1.out, hv2.out, hv3.out]
          exact this
        · simp only [List.nodup_cons, List.mem_cons, not_or]
          have hnd : F14.Nodup := by
            obtain ⟨dur, mm, ps, clock, h1, rfl, h3⟩ := hD14.out
            exact h3
          exact ⟨⟨by omega, by omega, ns⟩, ⟨by omega, nl⟩, nm, hnd⟩
      have c2 := g2.cell 0
      have c3 := g3.cell 0
      have z2 := g2.frz
      have z3 := g3.frz
      simp at c2 c3
      have d2 := f2.cell 0
      have d3 := f3.cell 0
      simp at d2 d3
      replace g2 := hid g2; replace g3 := hid g3; replace gs := hid gs; replace gm := hid gm; replace hA14 := hid hA14; replace hn14 := hid hn14; replace n2 := hid n2; replace n3 := hid n3; replace ns := hid ns; replace nm := hid nm; replace nl := hid nl; replace kS2 := hid kS2; replace f2 := hid f2; replace f3 := hid f3; replace hX := hid hX
      go_wp2
      refine leaves_cons (f := 141) (args := #[.pointer (some ⟨b2, 0, none⟩), .pointer (some ⟨b2 + 1, 0, none⟩)]) (by simp) (by simp [go_sem]) ?_
      refine (open1_idle ⟨b2, 0, none⟩ ⟨b2 + 1, 0, none⟩ _).mono ?_
      rintro e u' w'' ⟨rfl, rfl, rfl⟩
      simp [Leaves, settle, results, Tryz.results88, go_sem, d2, d3]
      rw [hT.out, hlf.out]
      exact hX.out
end
end Go.Vk

namespace Go.Vk
open Go.RowKit Go.Proofs

set_option maxRecDepth 100000 in
theorem clone_w (w : World) (T : TypeId) (g off n c : Nat) (src : List UInt8) (hg : Blk w g (bytesT T src)) (hlen : off + n ≤ src.length) (hn : 1 ≤ n) (hn2 : n ≤ 1048576) :
    Calls Tryz.prog 101 #[.slice (some ⟨g, off, none⟩) n c] w fun e w' => ∃ b k, w.heap.size ≤ b ∧ e = .returned (.slice (some ⟨b, 0, none⟩) n (n + k)) ∧ Blk w' b (bytesO ((src.drop off).take n ++ zeros k)) ∧ Keeps (fun _ => False) w w' := by
  have heq : ∀ w, (binOp BinOp.eql 57 (.slice (some ⟨g, off, none⟩) n c) (.slice none 0 0)).run Tryz.prog w = .ok (.bool false) w := fun w => by kernel_rfl
  obtain ⟨i5, hi5, hz5, hs5, hb5⟩ := info_parts info5
  replace hg := hid hg; replace hi5 := hid hi5; replace hz5 := hid hz5; replace hs5 := hid hs5; replace hb5 := hid hb5
  go_enter Tryz.func101, Tryz.ntmps101
  go_upto_region 3 with fail
  go_step
  refine wpList_exec rfl _ _ (by go_simp; exact ⟨rfl, rfl⟩) ?_
  simp only [Act.put, List.setIfInBounds_toArray, List.set_cons_zero, List.set_cons_succ]
  refine wpList_exec rfl _ _ (by go_simp; exact ⟨rfl, rfl⟩) ?_
  simp only [Act.put, List.setIfInBounds_toArray, List.set_cons_zero, List.set_cons_succ]
  refine wpList_plain rfl fun K hK => ?_
  refine wp_appendG (.tmp 5) (.tmp 6) 57 rfl 5 i5 und22 rfl hi5.out hz5.out hs5.out hb5.out 5 T w.heap.size 0 0 0 g off n c rfl rfl [] src (Blk.new w _) (hg.out.alloc _) (Nat.le_refl _) hlen (by omega) (by omega) (by omega) ?_
  intro cap k w2 hcap hb2 k2 hs2
  refine hK _ _ ?_
  rw [Nat.zero_add] at hcap
  simp only [List.drop_nil, List.take_nil, List.nil_append, World.size_alloc] at hb2
  have hk2 : Keeps (fun _ => False) w w2 := ((Keeps.refl (fun _ => False) w).alloc _).step k2
  have hge : w.heap.size ≤ w.heap.size + 1 := Nat.le_succ _
  simp only [Act.put, List.setIfInBounds_toArray, List.set_cons_zero, List.set_cons_succ, World.size_alloc, Nat.zero_add]
  subst hcap
  replace hb2 := hid hb2; replace hk2 := hid hk2; replace hge := hid hge
  clear k2 hs2 heq hi5 hz5 hs5 hb5 hg
  go_wp2
  go_ret
  exact ⟨w.heap.size + 1, k, hge.out, rfl, hb2.out, hk2.out⟩
end Go.Vk
