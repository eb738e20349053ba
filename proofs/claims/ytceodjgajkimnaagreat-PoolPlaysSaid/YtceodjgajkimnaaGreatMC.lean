/- The walk of Sum of package codec. The walk of Plan of package codec. The walks of the writer of package codec. The walk of EncodeSuper of package codec. The walks of the reader of package codec. The walks of bytes.Equal, fits, guarded and DecodeSuper. The walks of guarded and DecodeSuper. -/
import Derived.Test.YtceodjgajkimnaaGreatMB
import Derived.Test.YtceodjgajkimnaaGreatMA
import Derived.Deep.CutRange
import Derived.Deep.RegionHeld3
import Derived.Deep.RegionWith
import Derived.BigQuiet
import Derived.Laws.BytesArg
import Derived.Defers
import Derived.Recover
set_option linter.unusedVariables false

namespace Go.Vk
open Go.RowKit Go.Proofs

def halvesL : List Nat := [0, 274646895, 549293790, 820201905, 1098587580, 1361435347, 1640403810, 1905808397, 2197175160, 2460548119, 2722870694, 2987750089, 3280807620, 3553878443, 3811616794, 4084100981]
def tab (i : Nat) : Nat := halvesL.getD i 0
def half (r : Nat) : Nat := (r / 16) ^^^ tab (r % 16)
def crcStep (r : Nat) (x : UInt8) : Nat := half (half (r ^^^ x.toNat))
def crcReg (bs : List UInt8) : Nat := bs.foldl crcStep 4294967295
/-- The sum of a row of bytes. -/
def crc (bs : List UInt8) : Nat := 4294967295 - crcReg bs

theorem tab_lt (i : Nat) : tab i < 4294967296 := by
  have h : ∀ x ∈ halvesL, x < 4294967296 := by decide
  unfold tab
  rw [List.getD_eq_getElem?_getD]
  cases e : halvesL[i]? with
  | none => simp
  | some v => exact h v (List.mem_of_getElem? e)
theorem half_lt {r : Nat} (h : r < 4294967296) : half r < 4294967296 := Nat.xor_lt_two_pow (n := 32) (by omega) (tab_lt _)
theorem crcStep_lt {r : Nat} (h : r < 4294967296) (x : UInt8) : crcStep r x < 4294967296 :=
  half_lt (half_lt (Nat.xor_lt_two_pow (n := 32) h (by have := x.toNat_lt; omega)))
theorem crcReg_lt (bs : List UInt8) : crcReg bs < 4294967296 := by
  have : ∀ (bs : List UInt8) (r : Nat), r < 4294967296 → bs.foldl crcStep r < 4294967296 := by
    intro bs
    induction bs with
    | nil => intro r h; exact h
    | cons x bs ih => intro r h; exact ih _ (crcStep_lt h x)
  exact this bs _ (by omega)
theorem crcReg_snoc (bs : List UInt8) (x : UInt8) : crcReg (bs ++ [x]) = crcStep (crcReg bs) x := by simp [crcReg]
theorem and15 {r : Nat} (h : r < 4294967296) : bits .and .u32 (r : Int) 15 = ((r % 16 : Nat) : Int) := by
  have := u32_and_nat r 15 h (by omega)
  rw [show ((15 : Nat) : Int) = 15 from rfl] at this
  rw [this, show (15 : Nat) = 2 ^ 4 - 1 from rfl, Nat.and_two_pow_sub_one_eq_mod]
theorem xor_max {r : Nat} (h : r < 4294967296) : bits .xor .u32 IntKind.u32.max (r : Int) = ((4294967295 - r : Nat) : Int) := by
  have := u32_xor_nat 4294967295 r (by omega) h
  rw [show IntKind.u32.max = ((4294967295 : Nat) : Int) from rfl, this]
  congr 1
  apply Nat.eq_of_testBit_eq
  intro i
  rw [Nat.testBit_xor, show (4294967295 : Nat) = 2 ^ 32 - 1 from rfl, Nat.testBit_two_pow_sub_one, show 2 ^ 32 - 1 - r = 2 ^ 32 - (r + 1) by omega, Nat.testBit_two_pow_sub_succ (by omega)]
  by_cases hi : i < 32
  · simp [hi]
  · have : r.testBit i = false := Nat.testBit_lt_two_pow (Nat.lt_of_lt_of_le h (show 2 ^ 32 ≤ 2 ^ i from Nat.pow_le_pow_right (by omega) (by omega)))
    simp [hi, this]
theorem xor_half {r : Nat} (h : r < 4294967296) : bits .xor .u32 ((r : Int) / 16) (tab (r % 16) : Nat) = (half r : Nat) := by
  have := u32_xor_nat (r / 16) (tab (r % 16)) (by omega) (tab_lt _)
  rw [Int.natCast_ediv] at this
  exact this

/-- The table as cells. -/
def halvesV : List Value := halvesL.map fun x => .int .u32 (x : Nat)
theorem halvesV_one : ∀ v ∈ halvesV, v.oneCell' = true := by
  intro v hv
  obtain ⟨x, _, rfl⟩ := List.mem_map.1 hv
  rfl
theorem tabV (i : Nat) (hi : i < 16) : halvesV[i]? = some (.int .u32 ((tab i : Nat) : Int)) := by
  have h : i < halvesL.length := hi
  unfold halvesV tab
  rw [List.getElem?_map, List.getElem?_eq_getElem h, List.getD_eq_getElem?_getD, List.getElem?_eq_getElem h]
  rfl

theorem build_halves (a : Act) (w : World) : (Instr.build 266 ((#[(0, .const (.int .u32 0)), (1, .const (.int .u32 274646895)), (2, .const (.int .u32 549293790)), (3, .const (.int .u32 820201905)), (4, .const (.int .u32 1098587580)), (5, .const (.int .u32 1361435347)), (6, .const (.int .u32 1640403810)), (7, .const (.int .u32 1905808397)), (8, .const (.int .u32 2197175160)), (9, .const (.int .u32 2460548119)), (10, .const (.int .u32 2722870694)), (11, .const (.int .u32 2987750089)), (12, .const (.int .u32 3280807620)), (13, .const (.int .u32 3553878443)), (14, .const (.int .u32 3811616794)), (15, .const (.int .u32 4084100981))] : Array (Nat × Operand)).map fun (i, x) => (i, a.eval x))).run Tryz.prog w = .ok (.agg halvesV.toArray) w := by
  kernel_rfl
theorem und264 : Tryz.prog.underlying 266 = some (.array 16 252) := by kernel_rfl
theorem size264 : (Tryz.prog.info? 266).map (·.size) = some 16 := by kernel_rfl

theorem halves_w (w : World) : Calls Tryz.prog 211 #[] w fun e w' => e = .returned (.agg halvesV.toArray) ∧ Keeps (fun _ => False) w w' := by
  go_enter Tryz.func211, Tryz.ntmps211
  go_upto_region 1 with fail
  go_step
  refine wpList_build rfl _ _ rfl _ _ (build_halves _ _) ?_
  refine wpList_storeA rfl 266 (.tmp 0) (.tmp 1) rfl _ 0 266 (List.replicate 16 (.int .u32 0)) halvesV rfl rfl (Blk.new _ _) (Nat.le_refl _) size264 halvesV_one ?_
  intro w2 hb hk hs
  rw [layV_all (by decide)] at hb
  have hk2 : Keeps (fun _ => False) w w2 := ⟨hk.os, hk.tape, hk.output, by rw [hs]; simp, fun i hi _ => by
    rw [hk.block i (by simp; omega) (by omega)]; exact ((Keeps.refl (fun _ => False) w).alloc _).block i hi (fun f => f)⟩
  clear hk hs
  replace hb := hid hb; replace hk2 := hid hk2
  go_wp2
  exact bodyPost_ret (v := .agg halvesV.toArray) (results_blk rfl _ _ w.heap.size 266 halvesV _ rfl hb.out und264 rfl size264) rfl ⟨rfl, hk2.out⟩

theorem alloc264 (w : World) : (Instr.alloc 266 true (.tuple #[])).run Tryz.prog w = .ok (.pointer (some ⟨w.heap.size, 0, none⟩)) (w.alloc (.cells (List.replicate 16 (.int .u32 0)).toArray 266 (0, 0))) := by kernel_rfl

theorem sum_w (w : World) (g off c : Nat) (src : List UInt8) (hg : Blk w g (bytesO src)) (n : Nat) (hlen : off + n ≤ src.length) (hn : n ≤ 1048576) :
    Calls Tryz.prog 189 #[.slice (some ⟨g, off, none⟩) n c] w fun e w' => e = .returned (.int .i64 (crc ((src.drop off).take n) : Nat)) ∧ Keeps (fun _ => False) w w' := by
  have hhc := halves_w w
  replace hhc := hid hhc; replace hg := hid hg
  go_enter Tryz.func189, Tryz.ntmps189
  go_wp2_with fail
  refine hhc.out.mono ?_
  rintro e w' ⟨rfl, hk⟩
  dsimp only
  go_step
  refine wpList_allocV rfl _ rfl _ _ (alloc264 _) ?_
  refine wpList_storeA rfl 266 (.tmp 3) (.tmp 7) rfl _ 0 266 (List.replicate 16 (.int .u32 0)) halvesV rfl rfl (Blk.new _ _) (Nat.le_refl _) size264 halvesV_one ?_
  intro w2 hb hk2 hs
  rw [layV_all (by decide)] at hb
  have hg2 : Blk w2 g (bytesO src) := by
    have := hg.out.lt
    have := hk.size
    exact hk2.blk ((hk.blk hg.out (fun f => f)).alloc _) (by omega)
  have hk3 : Keeps (fun _ => False) w w2 := ⟨hk2.os.trans hk.os, hk2.tape.trans hk.tape, hk2.output.trans hk.output, by rw [hs]; simp; have := hk.size; omega, fun i hi _ => by
    have := hk.size
    rw [hk2.block i (by simp; omega) (by omega)]; exact (hk.alloc _).block i hi (fun f => f)⟩
  have ht : ∀ i, i < 16 → w2.cell? ⟨w'.heap.size, i, none⟩ = some (.int .u32 ((tab i : Nat) : Int)) := by
    intro i hi; rw [hb.cell]; simpa using tabV i hi
  clear hk hk2 hs hb hhc hg
  generalize w'.heap.size = tb at ht ⊢
  clear w'
  replace hg2 := hid hg2; replace hk3 := hid hk3
  go_wp2
  go_loop [4, 6, 10] (fun reg _ i => ∃ k : Nat, k ≤ n ∧ i = .int .i64 k ∧ reg = .int .u32 (crcReg ((src.drop off).take k) : Nat)) (fun _ _ i => n - (intOf i).toNat)
  case atStart => exact ⟨0, by omega, rfl, rfl⟩
  case round =>
    obtain ⟨k, hk, rfl, rfl⟩ := hrel
    by_cases hlt : k < n
    · have hcell := bytes_cell hg2.out (off + k) (by omega)
      have hsn : (src.drop off).take (k + 1) = (src.drop off).take k ++ [src[off + k]] := by
        rw [List.take_succ_eq_append_getElem (by rw [List.length_drop]; omega)]; simp
      have hR := crcReg_snoc ((src.drop off).take k) src[off + k]
      rw [← hsn] at hR
      have hr := crcReg_lt ((src.drop off).take k)
      generalize crcReg ((src.drop off).take k) = r at hR hr
      generalize hQ : crcReg ((src.drop off).take (k + 1)) = r' at hR
      generalize src[off + k] = x at hcell hR
      unfold B at hcell
      have hxl : x.toNat < 256 := x.toNat_lt
      have x1 := u32_xor_nat r x.toNat hr (by omega)
      have l1 : r ^^^ x.toNat < 4294967296 := Nat.xor_lt_two_pow (n := 32) hr (by omega)
      unfold crcStep at hR
      generalize r ^^^ x.toNat = r1 at x1 l1 hR
      have a1 := and15 l1
      have t1 := ht (r1 % 16) (by omega)
      have x2 := xor_half l1
      have b1 : r1 % 16 < 16 := by omega
      have l2 := half_lt l1
      generalize half r1 = r2 at x2 l2 hR
      generalize tab (r1 % 16) = v1 at t1 x2
      generalize r1 % 16 = q1 at a1 t1 b1
      have a2 := and15 l2
      have t2 := ht (r2 % 16) (by omega)
      have x3 := xor_half l2
      have b2 : r2 % 16 < 16 := by omega
      rw [hR] at hQ
      clear hR
      generalize half r2 = r3 at x3 hQ
      generalize tab (r2 % 16) = v2 at t2 x3
      generalize r2 % 16 = q2 at a2 t2 b2
      clear ht hsn
      replace hr := hid hr; replace l1 := hid l1; replace l2 := hid l2; replace hQ := hid hQ
      go_wp2
      go_round
      case rel => exact ⟨k + 1, by omega, by go_num, by rw [hQ.out]⟩
      case measure => simp [intOf]; omega
    · have hkn : k = n := by omega
      subst hkn
      clear ht
      have hr := crcReg_lt ((src.drop off).take k)
      have hcrc : crc ((src.drop off).take k) = 4294967295 - crcReg ((src.drop off).take k) := rfl
      generalize crcReg ((src.drop off).take k) = r at hr hcrc ⊢
      have hx := xor_max hr
      replace hcrc := hid hcrc
      go_wp2
      go_ret
      refine ⟨?_, hk3.out⟩
      rw [hcrc.out]
      show Ending.returned (.int .i64 (wrap64 ((4294967295 - r : Nat) : Int))) = _
      rw [show wrap64 ((4294967295 - r : Nat) : Int) = ((4294967295 - r : Nat) : Int) by unfold wrap64; omega]

end Go.Vk

namespace Go.Vk
open Go.RowKit Go.Proofs

/-- A geometry that Plan takes. -/
def PlanOk (s l n : Int) : Prop := 18 ≤ l ∧ l ≤ 256 ∧ 4 ≤ n ∧ n ≤ 1024 ∧ n % 4 = 0 ∧ s ≤ 2048 ∧ l + n / 4 + 6 ≤ s
instance (s l n : Int) : Decidable (PlanOk s l n) := by unfold PlanOk; infer_instance
/-- The layout. -/
def layoutV (s l n : Int) : Value := .agg #[.int .i64 l, .int .i64 (3 + l), .int .i64 (s - (3 + l)), .int .i64 n, .int .i64 (2 + n / 4)]
def noLayoutV : Value := .agg #[.int .i64 0, .int .i64 0, .int .i64 0, .int .i64 0, .int .i64 0]

theorem plan_ok (w : World) (s l n : Int) (h : PlanOk s l n) : Calls Tryz.prog 145 #[.agg #[.int .i64 s, .int .i64 l, .int .i64 n]] w fun e w' =>
    e = .returned (.tuple #[layoutV s l n, .int .i64 0]) ∧ Keeps (fun _ => False) w w' := by
  obtain ⟨h1, h2, h3, h4, h5, h6, h7⟩ := h
  have e5 : ¬ (n.tmod 4 ≠ 0) := by rw [Int.tmod_eq_emod_of_nonneg (by omega)]; omega
  go_enter Tryz.func145, Tryz.ntmps145
  go_wp2
  exact bodyPost_ret (v := .tuple #[layoutV s l n, .int .i64 0]) (by simp [results, Tryz.results145, layoutV, go_sem]) rfl ⟨rfl, (((Keeps.refl _ _).alloc _).alloc _).alloc _⟩

theorem plan_bad (w : World) (s l n : Int) (h : ¬ PlanOk s l n) : Calls Tryz.prog 145 #[.agg #[.int .i64 s, .int .i64 l, .int .i64 n]] w fun e w' =>
    e = .returned (.tuple #[noLayoutV, .int .i64 22]) ∧ Keeps (fun _ => False) w w' := by
  go_enter Tryz.func145, Tryz.ntmps145
  by_cases c1 : l < 18
  · clear h
    go_wp2
    exact bodyPost_ret (v := .tuple #[noLayoutV, .int .i64 22]) (by simp [results, Tryz.results145, noLayoutV, go_sem]) rfl ⟨rfl, ((Keeps.refl _ _).alloc _).alloc _⟩
  by_cases c2 : 256 < l
  · clear h
    go_wp2
    exact bodyPost_ret (v := .tuple #[noLayoutV, .int .i64 22]) (by simp [results, Tryz.results145, noLayoutV, go_sem]) rfl ⟨rfl, ((Keeps.refl _ _).alloc _).alloc _⟩
  by_cases c3 : n < 4
  · clear h
    go_wp2
    exact bodyPost_ret (v := .tuple #[noLayoutV, .int .i64 22]) (by simp [results, Tryz.results145, noLayoutV, go_sem]) rfl ⟨rfl, ((Keeps.refl _ _).alloc _).alloc _⟩
  by_cases c4 : 1024 < n
  · clear h
    go_wp2
    exact bodyPost_ret (v := .tuple #[noLayoutV, .int .i64 22]) (by simp [results, Tryz.results145, noLayoutV, go_sem]) rfl ⟨rfl, ((Keeps.refl _ _).alloc _).alloc _⟩
  by_cases c5 : n % 4 = 0
  rotate_left
  · clear h
    have e5 : ¬ (n.tmod 4 = 0) := by rw [Int.tmod_eq_emod_of_nonneg (by omega)]; omega
    go_wp2
    exact bodyPost_ret (v := .tuple #[noLayoutV, .int .i64 22]) (by simp [results, Tryz.results145, noLayoutV, go_sem]) rfl ⟨rfl, ((Keeps.refl _ _).alloc _).alloc _⟩
  have e5 : (n.tmod 4 = 0) := by rw [Int.tmod_eq_emod_of_nonneg (by omega)]; omega
  by_cases c6 : 2048 < s
  · clear h
    go_wp2
    exact bodyPost_ret (v := .tuple #[noLayoutV, .int .i64 22]) (by simp [results, Tryz.results145, noLayoutV, go_sem]) rfl ⟨rfl, ((Keeps.refl _ _).alloc _).alloc _⟩
  have c7 : s < 3 + l + (2 + n / 4) + 1 := by unfold PlanOk at h; omega
  clear h
  go_wp2
  exact bodyPost_ret (v := .tuple #[noLayoutV, .int .i64 22]) (by simp [results, Tryz.results145, noLayoutV, go_sem]) rfl ⟨rfl, (((Keeps.refl _ _).alloc _).alloc _).alloc _⟩
end Go.Vk

namespace Go.Vk
open Go.RowKit Go.Proofs

/-- The i-th byte of a number, the lowest first. -/
def leByte (v i : Nat) : UInt8 := UInt8.ofNat (v / 2 ^ (8 * i))
/-- A number as n bytes, the lowest first. -/
def leBytes (v n : Nat) : List UInt8 := (List.range n).map (leByte v)
theorem length_leBytes (v n : Nat) : (leBytes v n).length = n := by simp [leBytes]
theorem leBytes_succ (v n : Nat) : leBytes v (n + 1) = leBytes v n ++ [leByte v n] := by simp [leBytes, List.range_succ]
theorem leByte_toNat (v i : Nat) : (leByte v i).toNat = v / 2 ^ (8 * i) % 256 := by simp [leByte]

theorem bytes_set (bs : List UInt8) (i : Nat) (x : UInt8) : Obj.cells ((bs.map B).toArray.setIfInBounds i (B x)) 5 (0, 0) = bytesO (bs.set i x) := by
  simp [bytesO, List.map_set]
theorem lay_snoc {bs : List UInt8} {at_ : Nat} (v k : Nat) (h : at_ + (k + 1) ≤ bs.length) : lay bs at_ (leBytes v (k + 1)) = (lay bs at_ (leBytes v k)).set (at_ + k) (leByte v k) := by
  simp only [lay, leBytes_succ, length_leBytes, List.length_append, List.length_singleton]
  have l1 : (bs.take at_).length = at_ := by simp; omega
  rw [List.set_append_right _ _ (by omega), l1, Nat.add_sub_cancel_left, List.set_append_right _ _ (by rw [length_leBytes]; omega), length_leBytes, Nat.sub_self,
    List.append_assoc, List.drop_eq_getElem_cons (i := at_ + k) (by omega)]
  rfl
theorem wrap_small {n : Int} (h1 : -9223372036854775808 ≤ n) (h2 : n ≤ 9223372036854775807) : IntKind.i64.wrap n = n := by
  rw [IntKind.wrap_i64]; omega
/-- A writer. -/
def writerO (g len cap at_ : Nat) : Obj := .cells #[.slice (some ⟨g, 0, none⟩) len cap, .int .i64 at_] 201 (0, 0)

set_option maxHeartbeats 200000 in
theorem wnumber_w (w : World) (wb g cap at_ : Nat) (bs : List UInt8) (hw : Blk w wb (writerO g bs.length cap at_)) (hg : Blk w g (bytesO bs)) (hne : wb ≠ g) (n v : Nat) (hn : n ≤ 8) (hv : v < 9223372036854775808)
    (hlen : at_ + n ≤ bs.length) (hb : bs.length ≤ 1048576) :
    Calls Tryz.prog 150 #[.pointer (some ⟨wb, 0, none⟩), .int .i64 n, .int .i64 v] w fun e w' => e = .returned (.tuple #[]) ∧
      Blk w' wb (writerO g bs.length cap (at_ + n)) ∧ Blk w' g (bytesO (lay bs at_ (leBytes v n))) ∧ Keeps (fun k => k = wb ∨ k = g) w w' ∧ w'.heap.size = w.heap.size := by
  have hw0 := hw
  have hg0 := hg
  replace hw0 := hid hw0; replace hg0 := hid hg0; replace hv := hid hv
  go_enter Tryz.func150, Tryz.ntmps150
  go_wp2
  go_loopw [6, 8] (fun _ i wr => ∃ k : Nat, k ≤ n ∧ i = .int .i64 k ∧ Blk wr wb (writerO g bs.length cap at_) ∧ Blk wr g (bytesO (lay bs at_ (leBytes v k))) ∧ Keeps (fun k => k = wb ∨ k = g) w wr ∧ wr.heap.size = w.heap.size) (fun _ i _ => n - (intOf i).toNat)
  case atStart => exact ⟨0, by omega, rfl, hw, by simpa [leBytes, lay] using hg, Keeps.refl _ _, rfl⟩
  case round =>
    obtain ⟨k, hk, rfl, hw1, hg1, hk1, hs1⟩ := hrel
    clear hw hg
    have hl1 : (lay bs at_ (leBytes v k)).length = bs.length := length_lay (by rw [length_leBytes]; omega)
    have c0 := hw1.cell 0
    have c1 := hw1.cell 1
    have cf := hw1.frz
    simp at c0 c1
    replace hw1 := hid hw1; replace hk1 := hid hk1; replace hs1 := hid hs1
    by_cases hlt : k < n
    · have cg := hg1.cell (at_ + k)
      have cgf := hg1.frz
      rw [← Array.getElem?_toList, List.getElem?_map, List.getElem?_eq_getElem (by omega), Option.map_some] at cg
      generalize (lay bs at_ (leBytes v k))[at_ + k] = old at cg
      unfold B at cg
      replace hg1 := hid hg1; replace hl1 := hid hl1
      have hp0 : (0 : Int) ≤ 8 * (k : Int) := by omega
      have hp1 : (8 : Int) * (k : Int) ≤ 64 := by omega
      have hp2 : IntKind.i64.wrap (8 * (k : Int)) = 8 * (k : Int) := wrap_small (by omega) (by omega)
      have hp3 : IntKind.i64.wrap ((at_ : Int) + (k : Int)) = (at_ : Int) + (k : Int) := wrap_small (by omega) (by omega)
      have hp4 : (0 : Int) ≤ (at_ : Int) + (k : Int) := by omega
      have hp5 : (at_ : Int) + (k : Int) < (bs.length : Int) := by omega
      have hp6 : ((at_ : Int) + (k : Int)).toNat = at_ + k := by omega
      go_wp2
      go_region_held3 (fun W => W.cell? ⟨wb, 0, none⟩ = some (.slice (some ⟨g, 0, none⟩) bs.length cap) ∧ W.cell? ⟨wb, 1, none⟩ = some (.int .i64 at_)) (first | exact ⟨c0, c1⟩ | exact ⟨cell_setCell_ne c0 hne _, cell_setCell_ne c1 hne _⟩) (skip)
      have hB : Value.int IntKind.u8 (IntKind.u8.wrap ((v : Int) / 2 ^ (8 * (k : Int)).toNat)) = B (leByte v k) := by
        rw [show (8 * (k : Int)).toNat = 8 * k by omega]
        unfold B
        rw [leByte_toNat]
        congr 1
      rw [hB]
      have hw2 := (hw1.out.setCell_ne (p := ⟨g, at_ + k, none⟩) hne (B (leByte v k))).drew
      have hg2 := (hg1.out.setCell (at_ + k) (B (leByte v k))).drew
      rw [bytes_set, ← lay_snoc v k (by omega)] at hg2
      have hk2 := (hk1.out.setCell (p := ⟨g, at_ + k, none⟩) (.inl (.inr rfl)) (B (leByte v k))).drew
      have hs2 : (wr.setCell ⟨g, at_ + k, none⟩ (B (leByte v k))).drew.heap.size = w.heap.size := by rw [← hs1.out]; exact World.size_setCell _ _ _
      generalize (wr.setCell ⟨g, at_ + k, none⟩ (B (leByte v k))).drew = w2 at hw2 hg2 hk2 hs2 ⊢
      replace hw2 := hid hw2; replace hg2 := hid hg2; replace hk2 := hid hk2; replace hs2 := hid hs2
      go_wp2
      go_roundw
      case rel => exact ⟨k + 1, by omega, by go_num, hw2.out, hg2.out, hk2.out, hs2.out⟩
      case measure => simp [intOf]; omega
    · have hkn : k = n := by omega
      subst hkn
      replace hg1 := hid hg1; replace hl1 := hid hl1
      go_wp2
      go_end0
      have hw2 := hw1.out.setCell 1 (.int .i64 ((at_ : Int) + (k : Int)))
      have e1 : Obj.cells (#[Value.slice (some ⟨g, 0, none⟩) bs.length cap, .int .i64 at_].setIfInBounds 1 (.int .i64 ((at_ : Int) + (k : Int)))) 201 (0, 0) = writerO g bs.length cap (at_ + k) := by
        simp [writerO]
      rw [e1] at hw2
      exact ⟨rfl, hw2, hg1.out.setCell_ne (fun e => hne e.symm) _, hk1.out.setCell (.inl (.inl rfl)) _, by rw [World.size_setCell]; exact hs1.out⟩
/-- A row whose last four bytes are the sum of the others. -/
def sealedRow (bs : List UInt8) : List UInt8 := lay bs (bs.length - 4) (leBytes (crc (bs.take (bs.length - 4))) 4)

theorem crc_lt (bs : List UInt8) : crc bs < 4294967296 := by unfold crc; omega

theorem sealed_w (w : World) (wb g cap at_ : Nat) (bs : List UInt8) (hw : Blk w wb (writerO g bs.length cap at_)) (hg : Blk w g (bytesO bs)) (hne : wb ≠ g)
    (hlen : 4 ≤ bs.length) (hb : bs.length ≤ 1048576) (hcap : bs.length ≤ cap) (_ : cap ≤ 1048576) :
    Calls Tryz.prog 151 #[.pointer (some ⟨wb, 0, none⟩)] w fun e w' => e = .returned (.slice (some ⟨g, 0, none⟩) bs.length cap) ∧
      Blk w' g (bytesO (sealedRow bs)) ∧ Keeps (fun k => k = wb ∨ k = g) w w' := by
  have c0 := hw.cell 0
  have c1 := hw.cell 1
  have cf := hw.frz
  simp at c0 c1
  have hcrc := crc_lt (bs.take (bs.length - 4))
  have hs : sealedRow bs = lay bs (bs.length - 4) (leBytes (crc (bs.take (bs.length - 4))) 4) := rfl
  generalize sealedRow bs = S at hs ⊢
  have hn4 : (bs.length : Int) - 4 = ((bs.length - 4 : Nat) : Int) := by omega
  have hn5 : bs.length - 4 + 4 = bs.length := by omega
  generalize bs.length - 4 = n at hcrc hs hn4 hn5
  replace hw := hid hw; replace hg := hid hg; replace hs := hid hs
  go_enter Tryz.func151, Tryz.ntmps151
  go_upto_region 2 with fail
  have hw2 := hw.out.setCell 1 (.int .i64 (n : Int))
  have hg2 := hg.out.setCell_ne (p := ⟨wb, 1, none⟩) (fun e => hne e.symm) (.int .i64 (n : Int))
  have hk2 : Keeps (fun k => k = wb ∨ k = g) w _ := (Keeps.refl _ w).setCell (p := ⟨wb, 1, none⟩) (.inl (.inl rfl)) (.int .i64 (n : Int))
  generalize w.setCell ⟨wb, 1, none⟩ (.int .i64 (n : Int)) = w2 at hw2 hg2 hk2 ⊢
  have e1 : Obj.cells (#[Value.slice (some ⟨g, 0, none⟩) bs.length cap, .int .i64 at_].setIfInBounds 1 (.int .i64 (n : Int))) 201 (0, 0) = writerO g bs.length cap n := by
    simp [writerO]
  rw [e1] at hw2
  have d0 := hw2.cell 0
  have d1 := hw2.cell 1
  simp at d0 d1
  have i0 : (0 : Int) ≤ (n : Int) := by omega
  have i1 : (n : Int) ≤ (cap : Int) := by omega
  clear c0 c1 cf
  replace hw2 := hid hw2; replace hg2 := hid hg2; replace hk2 := hid hk2; replace hn4 := hid hn4; replace hn5 := hid hn5; replace e1 := hid e1
  have i2 : n ≤ 1048576 := by have := hn5.out; omega
  have hS := fun w3 h => sum_w w3 g 0 cap bs h n (by have := hn5.out; omega) i2
  rw [List.drop_zero] at hS
  have hN := fun w3 h1 h2 => wnumber_w w3 wb g cap n bs h1 h2 hne 4 (crc (bs.take n)) (by omega) (by omega) (by have := hn5.out; omega) hb
  replace hN := hid hN
  generalize hC : crc (bs.take n) = C at hcrc hs hS hN
  replace hS := hid hS; replace hC := hid hC; replace hs := hid hs
  go_region_with (first
    | (go_at_call 189; refine (hS.out w2.drew hg2.out.drew).mono ?_; rintro e w3 ⟨rfl, hk3⟩; have hw3 := hk3.blk hw2.out.drew (fun f => f); have hg3 := hk3.blk hg2.out.drew (fun f => f); have hk4 := hk2.out.drew.step (hk3.mono (fun _ _ f => f.elim)); have d30 := hw3.cell 0; have d31 := hw3.cell 1; simp at d30 d31; replace hk4 := hid hk4; replace hw3 := hid hw3; replace hg3 := hid hg3; clear hk3)
    | (go_at_call 150; refine (hN.out _ (by first | exact hw3.out | exact hw3.out.drew) (by first | exact hg3.out | exact hg3.out.drew)).mono ?_; rintro e w5 ⟨rfl, hw5, hg5, hk5, hs5⟩; have d50 := hw5.cell 0; simp at d50))
  all_goals
    have hk6 := hk4.out.step hk5
    rw [← hs.out.out] at hg5
    clear hk5 hs5 hw5
    replace hk6 := hid hk6; replace hg5 := hid hg5
    go_wp2
    go_ret
    exact ⟨rfl, hg5.out, hk6.out⟩
end Go.Vk

namespace Go.Vk
open Go.RowKit Go.Proofs

section
variable {P : Program} {w : World} {ops : Array Oper} {rest : List Oper} {o : Oper} {a : Act} {Q : Exit → Act → World → Prop}

/-- copy from a text. -/
theorem wpList_copyS (hgd : o.guard = none) (d s : Operand) (dT sT : TypeId)
    (ho : o.op = .call { callee := .builtin .copy, args := #[d, s], argTypes := #[dT, sT] }) (elem : TypeId) (hu : P.underlying dT = some (.slice elem)) (hsz : (P.info? elem).map (·.size) = some 1)
    (g off dLen dCap : Nat) (txt : ByteArray) (hd : a.eval d = .slice (some ⟨g, off, none⟩) dLen dCap) (hs : a.eval s = .string txt)
    (cur src : List UInt8) (hsrc : txt.data.toList = src) (hg : Blk w g (bytesO cur)) (hfit : off + dLen ≤ cur.length) (hle : src.length ≤ dLen)
    (h : ∀ w', Blk w' g (bytesO (lay cur off src)) → Keeps (· = g) w w' → w'.heap.size = w.heap.size → wpList P ops Q rest (a.put o.dst (goInt (src.length : Nat))) w') :
    wpList P ops Q (o :: rest) a w := by
  have hn : Nat.min txt.size dLen = src.length := by
    rw [← hsrc, ByteArray.size]
    rw [← hsrc] at hle
    exact Nat.min_eq_left hle
  have hfc : (Builtin.firstCells 1 src.length (.string txt)).run P w = .ok (src.map B).toArray w := by
    simp only [Builtin.firstCells, Sem.run_pure]
    congr 1
    apply Array.ext'
    have e : (txt.extract 0 src.length).data = txt.data := by
      rw [ByteArray.data_extract, ← hsrc]
      simp
    rw [e, Array.toList_map, hsrc]
    rfl
  have hst := run_storeCells_cells (P := P) g off (src.map B) 0 w (fun j hj => by
      rw [hg.cell]
      have : off + j < cur.length := by simp at hj; omega
      simp [this]) (fun j hj => hg.frz _) (B_one _)
  have hcopy : (Builtin.copy_ #[dT, sT] o.type #[.slice (some ⟨g, off, none⟩) dLen dCap, .string txt]).run P w = .ok (goInt (src.length : Nat)) (w.setCells g off (src.map B)) := by
    cases hq : P.info? elem with
    | none => simp [hq] at hsz
    | some i =>
      have hi : i.size = 1 := by simpa [hq] using hsz
      simp only [Nat.add_zero] at hst
      simp [Builtin.copy_, run_underlying hu, Builtin.lenOf, sizeOf, typeInfo, hq, hi, hn, hfc, hst]
  refine wpList_plain hgd fun K hK => ?_
  have hb : lay cur off src = lay cur off src := rfl
  have e := blk_setCells g 5 (src.map B) off w (cur.map B) hg (by simp; omega)
  unfold Oper.wp
  simp only [execOp, ho, resolve, invoke, builtin]
  simp [hd, hs, hcopy, Result.andThen]
  refine hK _ _ (h _ ?_ e.2.1 e.2.2)
  have := e.1
  unfold bytesO
  rw [show (lay cur off src).map B = layV (cur.map B) off (src.map B) by simp [lay, layV, List.map_take, List.map_drop]]
  exact this
end

theorem wnumber4_w (w : World) (wb g at_ : Nat) (bs : List UInt8) (v : Nat) (hb : bs.length = 512) (hw : Blk w wb (writerO g 512 512 at_)) (hg : Blk w g (bytesO bs)) (hne : wb ≠ g) (hv : v < 9223372036854775808)
    (hlen : at_ + 4 ≤ 512) :
    Calls Tryz.prog 150 #[.pointer (some ⟨wb, 0, none⟩), .int .i64 4, .int .i64 v] w fun e w' => e = .returned (.tuple #[]) ∧
      Blk w' wb (writerO g 512 512 (at_ + 4)) ∧ Blk w' g (bytesO (lay bs at_ (leBytes v 4))) ∧ Keeps (fun k => k = wb ∨ k = g) w w' := by
  have := wnumber_w w wb g 512 at_ bs (by rw [hb]; exact hw) hg hne 4 v (by omega) hv (by omega) (by omega)
  rw [hb] at this
  exact this.mono fun e w' h => ⟨h.1, h.2.1, h.2.2.1, h.2.2.2.1⟩

/-- The first bytes of a superblock. -/
def magic : List UInt8 := [118, 101, 108, 108, 117, 109, 0, 1]
/-- A superblock's sector. -/
def encSuper (s l n : Nat) : List UInt8 := sealedRow (lay (lay (lay (lay (zeros 512) 0 magic) 8 (leBytes s 4)) 12 (leBytes l 4)) 16 (leBytes n 4))

/-- The row after k numbers. -/
def encK (s l n : Nat) : Nat → List UInt8
  | 0 => lay (zeros 512) 0 magic
  | 1 => lay (lay (zeros 512) 0 magic) 8 (leBytes s 4)
  | 2 => lay (lay (lay (zeros 512) 0 magic) 8 (leBytes s 4)) 12 (leBytes l 4)
  | _ => lay (lay (lay (lay (zeros 512) 0 magic) 8 (leBytes s 4)) 12 (leBytes l 4)) 16 (leBytes n 4)
theorem encSuper_eq (s l n : Nat) : encSuper s l n = sealedRow (encK s l n 3) := rfl
theorem length_encK (s l n k : Nat) : (encK s l n k).length = 512 := by
  have h0 : (lay (zeros 512) 0 magic).length = 512 := by rw [length_lay (by simp [magic, length_zeros]), length_zeros]
  have h1 : (lay (lay (zeros 512) 0 magic) 8 (leBytes s 4)).length = 512 := by rw [length_lay (by rw [length_leBytes]; omega), h0]
  have h2 : (lay (lay (lay (zeros 512) 0 magic) 8 (leBytes s 4)) 12 (leBytes l 4)).length = 512 := by rw [length_lay (by rw [length_leBytes]; omega), h1]
  match k with
  | 0 => exact h0
  | 1 => exact h1
  | 2 => exact h2
  | k + 3 => show (lay _ 16 _).length = 512; rw [length_lay (by rw [length_leBytes]; omega), h2]

theorem ix3_0 (a b c : Value) (w : World) : (Instr.index 202 (.agg #[a, b, c]) (.int .i64 0)).run Tryz.prog w = .ok a w := by kernel_rfl
theorem ix3_1 (a b c : Value) (w : World) : (Instr.index 202 (.agg #[a, b, c]) (.int .i64 1)).run Tryz.prog w = .ok b w := by kernel_rfl
theorem ix3_2 (a b c : Value) (w : World) : (Instr.index 202 (.agg #[a, b, c]) (.int .i64 2)).run Tryz.prog w = .ok c w := by kernel_rfl

theorem encSuper_ok (w : World) (s l n : Nat) (h : PlanOk s l n) : Calls Tryz.prog 106 #[.agg #[.int .i64 s, .int .i64 l, .int .i64 n]] w fun e w' =>
    ∃ g, w.heap.size ≤ g ∧ e = .returned (.tuple #[.slice (some ⟨g, 0, none⟩) 512 512, .int .i64 0]) ∧ Blk w' g (bytesO (encSuper s l n)) ∧ Keeps (fun _ => False) w w' := by
  have hb3 : s < 4096 ∧ l < 4096 ∧ n < 4096 := by unfold PlanOk at h; omega
  obtain ⟨hbs, hbl, hbn⟩ := hb3
  have hP := fun w => plan_ok w s l n h
  unfold layoutV at hP
  have hmk := mk512
  replace hP := hid hP
  go_enter Tryz.func106, Tryz.ntmps106
  go_upto_region 5 with (go_at_call 145; refine (hP.out _).mono ?_; rintro e w2 ⟨rfl, hk2⟩; have hbx := hk2.blk (Blk.new w _) (fun f => f); have x0 := hbx.cell 0; have x1 := hbx.cell 1; have x2 := hbx.cell 2; simp at x0 x1 x2; replace hk2 := hid hk2; replace hbx := hid hbx)
  have hg3 := ((Blk.new (w2.alloc (.cells #[.int .i64 l, .int .i64 (3 + l), .int .i64 (s - (3 + l)), .int .i64 n, .int .i64 (2 + n / 4)] 124 (0, 0))) (bytesO (zeros 512))).alloc (.cells #[.slice (some ⟨w2.heap.size + 1, 0, none⟩) 512 512, .int .i64 0] 201 (0, 0)))
  have hw3 := Blk.new ((w2.alloc (.cells #[.int .i64 l, .int .i64 (3 + l), .int .i64 (s - (3 + l)), .int .i64 n, .int .i64 (2 + n / 4)] 124 (0, 0))).alloc (bytesO (zeros 512))) (.cells #[.slice (some ⟨w2.heap.size + 1, 0, none⟩) 512 512, .int .i64 0] 201 (0, 0))
  have hb3 := ((hbx.out.alloc (.cells #[.int .i64 l, .int .i64 (3 + l), .int .i64 (s - (3 + l)), .int .i64 n, .int .i64 (2 + n / 4)] 124 (0, 0))).alloc (bytesO (zeros 512))).alloc (.cells #[.slice (some ⟨w2.heap.size + 1, 0, none⟩) 512 512, .int .i64 0] 201 (0, 0))
  have hk1 : Keeps (fun _ => False) w w2 := ((Keeps.refl _ w).alloc _).trans hk2.out (fun _ _ f => f)
  have hk3 := ((hk1.alloc (.cells #[.int .i64 l, .int .i64 (3 + l), .int .i64 (s - (3 + l)), .int .i64 n, .int .i64 (2 + n / 4)] 124 (0, 0))).alloc (bytesO (zeros 512))).alloc (.cells #[.slice (some ⟨w2.heap.size + 1, 0, none⟩) 512 512, .int .i64 0] 201 (0, 0))
  generalize ((w2.alloc (.cells #[.int .i64 l, .int .i64 (3 + l), .int .i64 (s - (3 + l)), .int .i64 n, .int .i64 (2 + n / 4)] 124 (0, 0))).alloc (bytesO (zeros 512))).alloc (.cells #[.slice (some ⟨w2.heap.size + 1, 0, none⟩) 512 512, .int .i64 0] 201 (0, 0)) = w3 at hg3 hw3 hb3 hk3 ⊢
  simp only [World.size_alloc] at hg3 hw3
  have hle : w.heap.size < w2.heap.size := by have := hk2.out.size; rw [World.size_alloc] at this; omega
  have hsb : w.heap.size < w2.heap.size + 1 := by omega
  have hne : w2.heap.size + 1 + 1 ≠ w2.heap.size + 1 := by omega
  generalize hgw : w2.heap.size + 1 + 1 = wb at hw3 hne ⊢
  have hwb : w2.heap.size + 1 < wb := by omega
  clear hgw
  generalize w2.heap.size + 1 = g at hg3 hw3 hsb hne hwb ⊢
  clear hk2 hbx x0 x1 x2 hk1 hle
  generalize hsz : w.heap.size = sb at hb3 hsb ⊢
  have y0 := hw3.cell 0
  have y1 := hw3.cell 1
  have yf := hw3.frz
  simp at y0 y1
  replace hg3 := hid hg3; replace hw3 := hid hw3; replace hb3 := hid hb3; replace hk3 := hid hk3; replace hsz := hid hsz
  go_step
  iterate 5 (refine wpList_exec rfl _ _ (by go_simp; exact ⟨rfl, rfl⟩) ?_; simp only [Act.put, List.setIfInBounds_toArray, List.set_cons_zero, List.set_cons_succ])
  refine wpList_copyS rfl (.tmp 24) (.const (.string { data := #[118, 101, 108, 108, 117, 109, 0, 1] })) 57 9 rfl 5 und22 size5 g 0 512 512 _ rfl rfl (zeros 512) magic rfl hg3.out (by rw [length_zeros]; decide) (by decide) ?_
  intro w4 hg4 hk4 hs4
  have hw4 : Blk w4 wb (writerO g 512 512 0) := hk4.blk hw3.out hne
  have hb4 := hk4.blk hb3.out (fun e => by omega)
  have hk5 : Keeps (fun _ => False) w w4 := ⟨hk4.os.trans hk3.out.os, hk4.tape.trans hk3.out.tape, hk4.output.trans hk3.out.output, Nat.le_trans hk3.out.size hk4.size, fun i hi _ => by
    rw [hk4.block i (Nat.lt_of_lt_of_le hi hk3.out.size) (fun e => by have := hsz.out; omega)]; exact hk3.out.block i hi (fun f => f)⟩
  have z0 := hw4.cell 0
  have z1 := hw4.cell 1
  have zf := hw4.frz
  have x0 := hb4.cell 0
  have x1 := hb4.cell 1
  have x2 := hb4.cell 2
  simp at z0 z1 x0 x1 x2
  clear hk4 hs4 y0 y1 yf hg3 hw3 hb3 hk3 hmk hP
  clear w3
  replace hg4 := hid hg4; replace hw4 := hid hw4; replace hb4 := hid hb4; replace hk5 := hid hk5
  go_upto_region 6 with fail
  rw [show magic.length = 8 from rfl]
  have hw5 := hw4.out.setCell 1 (.int .i64 ((8 : Nat) : Int))
  have hg5 := hg4.out.setCell_ne (p := ⟨wb, 1, none⟩) (fun e => hne e.symm) (.int .i64 ((8 : Nat) : Int))
  have hb5 := hb4.out.setCell_ne (p := ⟨wb, 1, none⟩) (by show sb ≠ wb; omega) (.int .i64 ((8 : Nat) : Int))
  have hk6 : Keeps (fun _ => False) w _ := hk5.out.setCell (p := ⟨wb, 1, none⟩) (.inr (by have := hsz.out; show _ ≤ wb; omega)) (.int .i64 ((8 : Nat) : Int))
  have e1 : Obj.cells (#[Value.slice (some ⟨g, 0, none⟩) 512 512, .int .i64 (0 : Nat)].setIfInBounds 1 (.int .i64 ((8 : Nat) : Int))) 201 (0, 0) = writerO g 512 512 (8 + 4 * 0) := by
    simp [writerO]
  rw [e1] at hw5
  generalize w4.setCell ⟨wb, 1, none⟩ (.int .i64 ((8 : Nat) : Int)) = w5 at hw5 hg5 hb5 hk6 ⊢
  clear hw4 hg4 hb4 hk5 z0 z1 zf x0 x1 x2 e1
  clear w4
  have x0 := hb5.cell 0
  have x1 := hb5.cell 1
  have x2 := hb5.cell 2
  simp at x0 x1 x2
  have hF : ∀ i, (i = wb ∨ i = g) → w.heap.size ≤ i := by have := hsz.out; intro i hi; omega
  replace hw5 := hid hw5; replace hg5 := hid hg5; replace hb5 := hid hb5; replace hk6 := hid hk6; replace hF := hid hF
  go_wp2
  go_loopw [8, 35] (fun _ i wr => ∃ k : Nat, k ≤ 3 ∧ i = .int .i64 k ∧ Blk wr wb (writerO g 512 512 (8 + 4 * k)) ∧ Blk wr g (bytesO (encK s l n k)) ∧ Keeps (fun _ => False) w wr) (fun _ i _ => 3 - (intOf i).toNat)
  case atStart => exact ⟨0, by omega, rfl, hw5.out, hg5.out, hk6.out⟩
  case round =>
    obtain ⟨k, hk, rfl, hw1, hg1, hk1⟩ := hrel
    clear hw5 hg5 hb5 hk6
    replace hw1 := hid hw1; replace hg1 := hid hg1; replace hk1 := hid hk1
    by_cases hlt : k < 3
    · have : k = 0 ∨ k = 1 ∨ k = 2 := by omega
      rcases this with rfl | rfl | rfl
      · have hix := ix3_0
        go_wp2_with  fail
        have hN := wnumber4_w wr wb g _ _ s (length_encK s l n 0) hw1.out hg1.out hne (by omega) (by omega)
        refine hN.mono ?_
        rintro e w3 ⟨rfl, hw3, hg3, hk3⟩
        have hk4 := hk1.out.fresh hk3 hF.out
        clear hk3
        replace hw3 := hid hw3; replace hg3 := hid hg3; replace hk4 := hid hk4
        go_wp2
        go_roundw
        case rel =>
          have hfin : ∃ k : Nat, k ≤ 3 ∧ Value.int .i64 1 = .int .i64 k ∧ Blk w3 wb (writerO g 512 512 (8 + 4 * k)) ∧ Blk w3 g (bytesO (encK s l n k)) ∧ Keeps (fun _ => False) w w3 := ⟨1, by omega, rfl, hw3.out, hg3.out, hk4.out⟩
          first | exact hfin | ((repeat apply Exists.intro); exact ⟨hfin, rfl⟩)
        case measure => simp [intOf]
      · have hix := ix3_1
        go_wp2_with  fail
        have hN := wnumber4_w wr wb g _ _ l (length_encK s l n 1) hw1.out hg1.out hne (by omega) (by omega)
        refine hN.mono ?_
        rintro e w3 ⟨rfl, hw3, hg3, hk3⟩
        have hk4 := hk1.out.fresh hk3 hF.out
        clear hk3
        replace hw3 := hid hw3; replace hg3 := hid hg3; replace hk4 := hid hk4
        go_wp2
        go_roundw
        case rel =>
          have hfin : ∃ k : Nat, k ≤ 3 ∧ Value.int .i64 2 = .int .i64 k ∧ Blk w3 wb (writerO g 512 512 (8 + 4 * k)) ∧ Blk w3 g (bytesO (encK s l n k)) ∧ Keeps (fun _ => False) w w3 := ⟨2, by omega, rfl, hw3.out, hg3.out, hk4.out⟩
          first | exact hfin | ((repeat apply Exists.intro); exact ⟨hfin, rfl⟩)
        case measure => simp [intOf]
      · have hix := ix3_2
        go_wp2_with  fail
        have hN := wnumber4_w wr wb g _ _ n (length_encK s l n 2) hw1.out hg1.out hne (by omega) (by omega)
        refine hN.mono ?_
        rintro e w3 ⟨rfl, hw3, hg3, hk3⟩
        have hk4 := hk1.out.fresh hk3 hF.out
        clear hk3
        replace hw3 := hid hw3; replace hg3 := hid hg3; replace hk4 := hid hk4
        go_wp2
        go_roundw
        case rel =>
          have hfin : ∃ k : Nat, k ≤ 3 ∧ Value.int .i64 3 = .int .i64 k ∧ Blk w3 wb (writerO g 512 512 (8 + 4 * k)) ∧ Blk w3 g (bytesO (encK s l n k)) ∧ Keeps (fun _ => False) w w3 := ⟨3, by omega, rfl, hw3.out, hg3.out, hk4.out⟩
          first | exact hfin | ((repeat apply Exists.intro); exact ⟨hfin, rfl⟩)
        case measure => simp [intOf]
    · obtain rfl : k = 3 := by omega
      go_wp2_with fail
      refine (sealed_w wr wb g 512 _ (encK s l n 3) (by rw [length_encK]; exact hw1.out) hg1.out hne (by rw [length_encK]; omega) (by rw [length_encK]; omega) (by rw [length_encK]; decide) (by omega)).mono ?_
      rintro e w3 ⟨rfl, hg3, hk3⟩
      have hk4 := hk1.out.fresh hk3 hF.out
      rw [length_encK]
      clear hk3
      replace hg3 := hid hg3; replace hk4 := hid hk4
      go_wp2
      go_ret2
      exact ⟨g, by have := hF.out g (.inr rfl); omega, rfl, hg3.out, hk4.out⟩
theorem encSuper_bad (w : World) (s l n : Int) (h : ¬ PlanOk s l n) : Calls Tryz.prog 106 #[.agg #[.int .i64 s, .int .i64 l, .int .i64 n]] w fun e w' =>
    e = .returned (.tuple #[.slice none 0 0, .int .i64 22]) ∧ Keeps (fun _ => False) w w' := by
  have hP := fun w => plan_bad w s l n h
  unfold noLayoutV at hP
  replace hP := hid hP
  go_enter Tryz.func106, Tryz.ntmps106
  go_wp2_with (go_at_call 145; refine (hP.out _).mono ?_; rintro e w2 ⟨rfl, hk2⟩; replace hk2 := hid hk2)
  go_ret2
  exact ⟨rfl, (((Keeps.refl _ _).alloc _).step hk2.out).alloc _⟩

end Go.Vk

namespace Go.Vk
open Go.RowKit Go.Proofs

/-- A reader. -/
def readerO (g off len cap at_ : Nat) : Obj := .cells #[.slice (some ⟨g, off, none⟩) len cap, .int .i64 at_] 221 (0, 0)

theorem rtake_w (w : World) (rb g off len cap at_ n : Nat) (hw : Blk w rb (readerO g off len cap at_)) (hfit : at_ + n ≤ len) (hlc : len ≤ cap) (hl : cap ≤ 1048576) (hn : n ≠ 0) :
    Calls Tryz.prog 180 #[.pointer (some ⟨rb, 0, none⟩), .int .i64 n] w fun e w' => e = .returned (.slice (some ⟨g, off + at_, none⟩) n n) ∧
      Blk w' rb (readerO g off len cap (at_ + n)) ∧ Keeps (· = rb) w w' := by
  have c0 := hw.cell 0
  have c1 := hw.cell 1
  have cf := hw.frz
  simp at c0 c1
  have hp1 : IntKind.i64.wrap ((len : Int) - (at_ : Int)) = (len : Int) - (at_ : Int) := wrap_small (by omega) (by omega)
  have hp2 : IntKind.i64.wrap ((at_ : Int) + (n : Int)) = (at_ : Int) + (n : Int) := wrap_small (by omega) (by omega)
  have hp3 : ¬ ((len : Int) - (at_ : Int) < (n : Int)) := by omega
  have hp4 : ¬ ((n : Int) < 0) := by omega
  replace hw := hid hw
  go_enter Tryz.func180, Tryz.ntmps180
  go_wp2
  go_quiet (fail)
  have hw1 : Blk (w.drewN nq) rb (readerO g off len cap at_) := hw.out
  have hk1 : Keeps (· = rb) w (w.drewN nq) := ⟨rfl, rfl, rfl, Nat.le_refl _, fun _ _ _ => rfl⟩
  generalize w.drewN nq = w1 at hw1 hk1 ⊢
  have d0 := hw1.cell 0
  have d1 := hw1.cell 1
  have df := hw1.frz
  simp at d0 d1
  clear c0 c1 cf hw
  replace hw1 := hid hw1; replace hk1 := hid hk1
  go_upto_region 4 with fail
  have hw2 := hw1.out.setCell 1 (.int .i64 ((at_ : Int) + (n : Int)))
  have hk2 := hk1.out.setCell (p := ⟨rb, 1, none⟩) (.inl rfl) (.int .i64 ((at_ : Int) + (n : Int)))
  have e1 : Obj.cells (#[Value.slice (some ⟨g, off, none⟩) len cap, .int .i64 at_].setIfInBounds 1 (.int .i64 ((at_ : Int) + (n : Int)))) 221 (0, 0) = readerO g off len cap (at_ + n) := by
    simp [readerO]
  rw [e1] at hw2
  generalize w1.setCell ⟨rb, 1, none⟩ (.int .i64 ((at_ : Int) + (n : Int))) = w2 at hw2 hk2 ⊢
  have x0 := hw2.cell 0
  have x1 := hw2.cell 1
  simp at x0 x1
  have hp5 : IntKind.i64.wrap ((at_ : Int) + (n : Int) - (n : Int)) = (at_ : Int) := by rw [Int.add_sub_cancel]; exact wrap_small (by omega) (by omega)
  have hp6 : (0 : Int) ≤ (at_ : Int) := by omega
  have hp7 : (at_ : Int) ≤ (at_ : Int) + (n : Int) := by omega
  have hp8 : (at_ : Int) + (n : Int) ≤ (cap : Int) := by omega
  have hp9 : ((at_ : Int) + (n : Int)).toNat = at_ + n := by omega
  clear d0 d1 df hw1 hk1 e1
  replace hw2 := hid hw2; replace hk2 := hid hk2
  go_quiet (fail)
  have hw3 : Blk (w2.drewN nq) rb (readerO g off len cap (at_ + n)) := hw2.out
  have hk3 : Keeps (· = rb) w (w2.drewN nq) := ⟨hk2.out.os, hk2.out.tape, hk2.out.output, hk2.out.size, hk2.out.block⟩
  generalize w2.drewN nq = w3 at hw3 hk3 ⊢
  clear x0 x1 hw2 hk2
  replace hw3 := hid hw3; replace hk3 := hid hk3
  go_wp2
  go_ret
  exact ⟨rfl, hw3.out, hk3.out⟩

/-- The number that a row of bytes says, the lowest first. -/
def leVal : List UInt8 → Nat
  | [] => 0
  | x :: xs => x.toNat + 256 * leVal xs
theorem leVal_snoc (xs : List UInt8) (x : UInt8) : leVal (xs ++ [x]) = leVal xs + 2 ^ (8 * xs.length) * x.toNat := by
  induction xs with
  | nil => simp [leVal]
  | cons y ys ih =>
    simp only [List.cons_append, leVal, ih, List.length_cons, Nat.mul_add, Nat.pow_add]
    rw [show (2 : Nat) ^ (8 * 1) = 256 from rfl, Nat.mul_comm (2 ^ (8 * ys.length)) 256, Nat.mul_assoc]
    omega
theorem leVal_lt (xs : List UInt8) : leVal xs < 2 ^ (8 * xs.length) := by
  induction xs with
  | nil => simp [leVal]
  | cons y ys ih =>
    have := y.toNat_lt
    simp only [leVal, List.length_cons, Nat.mul_add, Nat.pow_add]
    omega
theorem or_add {v : Nat} (k : Nat) (h : v < 2 ^ k) (x : Nat) : v ||| (x * 2 ^ k) = v + 2 ^ k * x := by
  rw [Nat.mul_comm x, Nat.or_comm, ← Nat.two_pow_add_eq_or_of_lt h]; omega

theorem rnumber_w (w : World) (rb g off len cap at_ n most : Nat) (src : List UInt8) (hw : Blk w rb (readerO g off len cap at_)) (hg : Blk w g (bytesO src)) (hne : g ≠ rb) (hfit : at_ + n ≤ len) (hlc : len ≤ cap) (hl : cap ≤ 1048576) (hn : n ≠ 0) (hn7 : n ≤ 7)
    (hsrc : off + len ≤ src.length) (hm : most < 1099511627776) :
    Calls Tryz.prog 181 #[.pointer (some ⟨rb, 0, none⟩), .int .i64 n, .int .i64 most] w fun e w' =>
      e = (if leVal ((src.drop (off + at_)).take n) ≤ most then .returned (.int .i64 (leVal ((src.drop (off + at_)).take n) : Nat)) else .panicked [{ v := .iface 256 (.agg #[]), recovered := false }]) ∧
      Blk w' rb (readerO g off len cap (at_ + n)) ∧ Keeps (· = rb) w w' := by
  have hT := rtake_w w rb g off len cap at_ n hw hfit hlc hl hn
  generalize hE : (if leVal ((src.drop (off + at_)).take n) ≤ most then Ending.returned (.int .i64 (leVal ((src.drop (off + at_)).take n) : Nat)) else .panicked [{ v := .iface 256 (.agg #[]), recovered := false }]) = E
  replace hT := hid hT; replace hw := hid hw; replace hg := hid hg; replace hE := hid hE
  go_enter Tryz.func181, Tryz.ntmps181
  go_wp2_with (go_at_call 180; refine hT.out.mono ?_; rintro e w2 ⟨rfl, hw2, hk2⟩; have hg2 := hk2.blk hg.out hne; replace hw2 := hid hw2; replace hk2 := hid hk2; replace hg2 := hid hg2)
  replace hE := hE.out
  generalize hS : (src.drop (off + at_)).take n = S at hE
  replace hE := hid hE
  go_loop [7, 14] (fun v i => ∃ k : Nat, k ≤ n ∧ i = .int .i64 k ∧ v = .int .u64 (leVal (S.take k) : Nat)) (fun _ i => n - (intOf i).toNat)
  case atStart => exact ⟨0, by omega, rfl, rfl⟩
  case round =>
    obtain ⟨k, hk, rfl, rfl⟩ := hrel
    have hlS : S.length = n := by rw [← hS, List.length_take, List.length_drop]; omega
    by_cases hlt : k < n
    · have hcell := bytes_cell hg2.out (off + at_ + k) (by omega)
      have hel : src[off + at_ + k]'(by omega) = S[k]'(by omega) := by subst hS; simp
      rw [hel] at hcell
      have hsn := leVal_snoc (S.take k) (S[k]'(by omega))
      rw [← List.take_succ_eq_append_getElem (by omega)] at hsn
      have hvl := leVal_lt (S.take k)
      have hlk : (S.take k).length = k := by rw [List.length_take]; omega
      rw [hlk] at hsn hvl
      generalize hv' : leVal (S.take (k + 1)) = v' at hsn
      generalize leVal (S.take k) = v at hsn hvl
      generalize S[k]'(by omega) = x at hcell hsn
      unfold B at hcell
      have hxl := x.toNat_lt
      generalize x.toNat = y at hcell hsn hxl
      have hb1 : 2 ^ (8 * k) * y < 2 ^ 56 := by
        have h1 : 2 ^ (8 * k) * y < 2 ^ (8 * k) * 2 ^ 8 := Nat.mul_lt_mul_of_pos_left hxl (Nat.two_pow_pos _)
        rw [← Nat.pow_add] at h1
        exact Nat.lt_of_lt_of_le h1 (Nat.pow_le_pow_right (by omega) (by omega))
      have hb2 : v < 2 ^ 56 := Nat.lt_of_lt_of_le hvl (Nat.pow_le_pow_right (by omega) (by omega))
      have hor : bits .or .u64 (v : Int) (IntKind.u64.wrap ((y : Int) * 2 ^ (8 * k))) = (v' : Nat) := by
        have hc : (y : Int) * 2 ^ (8 * k) = ((y * 2 ^ (8 * k) : Nat) : Int) := by simp
        rw [Nat.mul_comm] at hb1
        have hw : IntKind.u64.wrap ((y * 2 ^ (8 * k) : Nat) : Int) = ((y * 2 ^ (8 * k) : Nat) : Int) := by
          rw [IntKind.wrap_u64]
          generalize y * 2 ^ (8 * k) = q at hb1
          omega
        rw [hc, hw, u64_or_nat _ _ (by omega) (by omega), or_add _ hvl, hsn]
      clear hb1 hb2
      replace hsn := hid hsn; replace hvl := hid hvl; replace hS := hid hS; replace hlS := hid hlS; replace hor := hid hor
      go_wp2
      go_round
      case rel => exact ⟨k + 1, by omega, by go_num, by rw [hor.out, hv']⟩
      case measure => simp [intOf]; omega
    · obtain rfl : k = n := by omega
      rw [List.take_of_length_le (by omega)]
      have hvl := leVal_lt S
      rw [hlS] at hvl
      replace hE := hE.out
      generalize leVal S = v at hvl hE ⊢
      have hv2 : v < 2 ^ 56 := Nat.lt_of_lt_of_le hvl (Nat.pow_le_pow_right (by omega) (by omega))
      by_cases hle : v ≤ most
      · rw [if_pos hle] at hE
        replace hvl := hid hvl; replace hS := hid hS; replace hlS := hid hlS; replace hE := hid hE
        go_wp2
        go_ret
        exact ⟨hE.out, hw2.out, hk2.out⟩
      · rw [if_neg hle] at hE
        replace hvl := hid hvl; replace hS := hid hS; replace hlS := hid hlS; replace hE := hid hE
        go_wp2
        exact ⟨rfl, hE.out, hw2.out, hk2.out⟩
end Go.Vk

namespace Go.Vk
open Go.RowKit Go.Proofs

theorem strOf_bytes (bs : List UInt8) : strOfNums (bs.map fun x => ((x.toNat : Nat) : Int)) = ⟨bs.toArray⟩ := by
  simp [strOfNums, Function.comp_def]

theorem run_strOf (w : World) (g off n c : Nat) (src : List UInt8) (hg : Blk w g (bytesO src)) (h : off + n ≤ src.length) :
    (convert 57 9 (.slice (some ⟨g, off, none⟩) n c)).run Tryz.prog w = .ok (.string ⟨((src.drop off).take n).toArray⟩) w := by
  have hl : ((src.drop off).take n).length = n := by simp; omega
  have := run_convert_bytes_arg (P := Tryz.prog) w 57 5 und22 (by kernel_rfl) g off n c (((src.drop off).take n).map fun x => ((x.toNat : Nat) : Int)) (by simp; omega) (fun i hi => by
    rw [bytes_cell hg (off + i) (by omega)]
    simp [B, hi, List.getD_eq_getElem?_getD, List.getElem?_drop, List.getElem?_eq_getElem (show off + i < src.length by omega)]) 9 (by kernel_rfl)
  rwa [strOf_bytes] at this

theorem equal_w (w : World) (g1 o1 n1 c1 g2 o2 n2 c2 : Nat) (xs ys : List UInt8) (h1 : Blk w g1 (bytesO xs)) (h2 : Blk w g2 (bytesO ys)) (l1 : o1 + n1 ≤ xs.length) (l2 : o2 + n2 ≤ ys.length) :
    Calls Tryz.prog 118 #[.slice (some ⟨g1, o1, none⟩) n1 c1, .slice (some ⟨g2, o2, none⟩) n2 c2] w fun e w' =>
      e = .returned (.bool (decide ((xs.drop o1).take n1 = (ys.drop o2).take n2))) ∧ w' = w := by
  have e1 := run_strOf w g1 o1 n1 c1 xs h1 l1
  have e2 := run_strOf w g2 o2 n2 c2 ys h2 l2
  generalize (xs.drop o1).take n1 = a at e1 ⊢
  generalize (ys.drop o2).take n2 = b at e2 ⊢
  clear h1 h2
  go_enter Tryz.func118, Tryz.ntmps118
  go_wp2
  go_ret
  refine ⟨?_, rfl⟩
  have : (a == b) = decide (a = b) := by rw [Bool.eq_iff_iff]; simp
  rw [← this]
  rfl

theorem fits_w (w : World) (ok : Bool) : Calls Tryz.prog 182 #[.bool ok] w fun e w' =>
    e = (if ok then .returned (.tuple #[]) else .panicked [{ v := .iface 256 (.agg #[]), recovered := false }]) ∧ w' = w := by
  cases ok
  · go_enter Tryz.func182, Tryz.ntmps182
    go_wp2
    exact ⟨rfl, rfl, rfl⟩
  · go_enter Tryz.func182, Tryz.ntmps182
    go_wp2
    go_end0
    exact ⟨rfl, rfl⟩
def supS (bs : List UInt8) : Nat := leVal ((bs.drop 8).take 4)
def supL (bs : List UInt8) : Nat := leVal ((bs.drop 12).take 4)
def supN (bs : List UInt8) : Nat := leVal ((bs.drop 16).take 4)
/-- A sector that is a superblock. -/
def SuperOk (bs : List UInt8) : Prop := supS bs ≤ 2048 ∧ supL bs ≤ 256 ∧ supN bs ≤ 1024 ∧ PlanOk (supS bs) (supL bs) (supN bs) ∧ encSuper (supS bs) (supL bs) (supN bs) = bs
instance (bs : List UInt8) : Decidable (SuperOk bs) := by unfold SuperOk; infer_instance
def superO (s l n : Nat) : Obj := .cells #[.int .i64 s, .int .i64 l, .int .i64 n] 31 (0, 0)

theorem dnum_w (w : World) (rb g at_ most : Nat) (bs : List UInt8) (hb : bs.length = 512) (hr : Blk w rb (readerO g 0 512 512 at_)) (hg : Blk w g (bytesO bs)) (hne : g ≠ rb) (hat : at_ + 4 ≤ 512) (hm : most < 1099511627776) :
    Calls Tryz.prog 181 #[.pointer (some ⟨rb, 0, none⟩), .int .i64 4, .int .i64 most] w fun e w' =>
      e = (if leVal ((bs.drop at_).take 4) ≤ most then .returned (.int .i64 (leVal ((bs.drop at_).take 4) : Nat)) else .panicked [{ v := .iface 256 (.agg #[]), recovered := false }]) ∧
      Blk w' rb (readerO g 0 512 512 (at_ + 4)) ∧ Blk w' g (bytesO bs) ∧ Keeps (· = rb) w w' := by
  have := rnumber_w w rb g 0 512 512 at_ 4 most bs hr hg hne hat (Nat.le_refl _) (by omega) (by omega) (by omega) (by omega) hm
  rw [Nat.zero_add] at this
  exact this.mono fun e w' h => ⟨h.1, h.2.1, h.2.2.blk hg hne, h.2.2⟩

theorem decSuper1_ok (w : World) (qb vb g : Nat) (bs : List UInt8) (hb : bs.length = 512) (hq : Blk w qb (.cells #[.slice (some ⟨g, 0, none⟩) 512 512] 57 (0, 0))) (hv : Blk w vb (superO 0 0 0)) (hg : Blk w g (bytesO bs))
    (h1 : qb ≠ vb) (h2 : g ≠ vb) (h : SuperOk bs) :
    Calls Tryz.prog 179 #[.pointer (some ⟨qb, 0, none⟩), .pointer (some ⟨vb, 0, none⟩)] w fun e w' =>
      e = .returned (.tuple #[]) ∧ Blk w' vb (superO (supS bs) (supL bs) (supN bs)) ∧ Keeps (· = vb) w w' := by
  have q0 := hq.cell 0
  simp at q0
  replace hq := hid hq; replace hv := hid hv; replace hg := hid hg; replace h := hid h
  go_enter Tryz.func179, Tryz.ntmps179
  go_wp2_with fail
  have hrb : w.heap.size ≠ qb ∧ w.heap.size ≠ vb ∧ g ≠ w.heap.size := by have := hq.out.lt; have := hv.out.lt; have := hg.out.lt; omega
  have hr1 := Blk.new w (.cells #[.slice (some ⟨g, 0, none⟩) 512 512, .int .i64 0] 221 (0, 0))
  have hq1 := hq.out.alloc (.cells #[.slice (some ⟨g, 0, none⟩) 512 512, .int .i64 0] 221 (0, 0))
  have hv1 := hv.out.alloc (.cells #[.slice (some ⟨g, 0, none⟩) 512 512, .int .i64 0] 221 (0, 0))
  have hg1 := hg.out.alloc (.cells #[.slice (some ⟨g, 0, none⟩) 512 512, .int .i64 0] 221 (0, 0))
  have hk1 := (Keeps.refl (· = vb) w).alloc (.cells #[.slice (some ⟨g, 0, none⟩) 512 512, .int .i64 0] 221 (0, 0))
  have hfr : ∀ i, i = w.heap.size → w.heap.size ≤ i := by intro i hi; omega
  generalize w.alloc (.cells #[.slice (some ⟨g, 0, none⟩) 512 512, .int .i64 0] 221 (0, 0)) = w1 at hr1 hq1 hv1 hg1 hk1 ⊢
  generalize hrbq : w.heap.size = rb at hrb hr1 hfr ⊢
  obtain ⟨n1, n2, n3⟩ := hrb
  refine (rtake_w w1 rb g 0 512 512 0 8 hr1 (by omega) (Nat.le_refl _) (by omega) (by omega)).mono ?_
  rintro e w2 ⟨rfl, hr2, k2⟩
  have hg2 := k2.blk hg1 n3
  have hv2 := k2.blk hv1 (fun e => n2 e.symm)
  have hq2 := k2.blk hq1 (fun e => n1 e.symm)
  have hk2 := hk1.fresh k2 (by intro i hi; have := hfr i hi; omega)
  clear k2 hr1 hg1 hv1 hq1 hk1 q0
  clear w1
  replace hr2 := hid hr2; replace hg2 := hid hg2; replace hv2 := hid hv2; replace hq2 := hid hq2; replace hk2 := hid hk2; replace hfr := hid hfr; replace hrbq := hid hrbq
  go_wp2_with fail
  refine (dnum_w w2 rb g 8 2048 bs hb hr2.out hg2.out n3 (by omega) (by omega)).mono ?_
  rintro e w3 ⟨rfl, hr3, hg3, k3⟩
  have hv3 := k3.blk hv2.out (fun e => n2 e.symm)
  have hq3 := k3.blk hq2.out (fun e => n1 e.symm)
  have hk3 := hk2.out.fresh k3 (by intro i hi; have := hfr.out i hi; have := hrbq.out; omega)
  rw [if_pos (show leVal ((bs.drop 8).take 4) ≤ 2048 from h.out.1)]
  clear k3 hr2 hg2 hv2 hq2 hk2
  clear w2
  replace hr3 := hid hr3; replace hg3 := hid hg3; replace hv3 := hid hv3; replace hq3 := hid hq3; replace hk3 := hid hk3
  go_wp2_with fail
  refine (dnum_w w3 rb g 12 256 bs hb hr3.out hg3.out n3 (by omega) (by omega)).mono ?_
  rintro e w4 ⟨rfl, hr4, hg4, k4⟩
  have hv4 := k4.blk hv3.out (fun e => n2 e.symm)
  have hq4 := k4.blk hq3.out (fun e => n1 e.symm)
  have hk4 := hk3.out.fresh k4 (by intro i hi; have := hfr.out i hi; have := hrbq.out; omega)
  rw [if_pos (show leVal ((bs.drop 12).take 4) ≤ 256 from h.out.2.1)]
  clear k4 hr3 hg3 hv3 hq3 hk3
  clear w3
  replace hr4 := hid hr4; replace hg4 := hid hg4; replace hv4 := hid hv4; replace hq4 := hid hq4; replace hk4 := hid hk4
  go_wp2_with fail
  refine (dnum_w w4 rb g 16 1024 bs hb hr4.out hg4.out n3 (by omega) (by omega)).mono ?_
  rintro e w5 ⟨rfl, hr5, hg5, k5⟩
  have hv5 := k5.blk hv4.out (fun e => n2 e.symm)
  have hq5 := k5.blk hq4.out (fun e => n1 e.symm)
  have hk5 := hk4.out.fresh k5 (by intro i hi; have := hfr.out i hi; have := hrbq.out; omega)
  rw [if_pos (show leVal ((bs.drop 16).take 4) ≤ 1024 from h.out.2.2.1)]
  clear k5 hr4 hg4 hv4 hq4 hk4 hr5
  clear w4
  have x0 := hv5.cell 0
  have x1 := hv5.cell 1
  have x2 := hv5.cell 2
  have xf := hv5.frz
  simp at x0 x1 x2
  have hS : leVal ((bs.drop 8).take 4) = supS bs := rfl
  have hL : leVal ((bs.drop 12).take 4) = supL bs := rfl
  have hN : leVal ((bs.drop 16).take 4) = supN bs := rfl
  rw [hS, hL, hN]
  clear hS hL hN
  replace hg5 := hid hg5; replace hv5 := hid hv5; replace hq5 := hid hq5; replace hk5 := hid hk5
  go_wp2_with fail
  have hv6 := ((hv5.out.setCell 0 (.int .i64 (supS bs))).setCell 1 (.int .i64 (supL bs))).setCell 2 (.int .i64 (supN bs))
  have hg6 := ((hg5.out.setCell_ne (p := ⟨vb, 0, none⟩) h2 (.int .i64 (supS bs))).setCell_ne (p := ⟨vb, 1, none⟩) h2 (.int .i64 (supL bs))).setCell_ne (p := ⟨vb, 2, none⟩) h2 (.int .i64 (supN bs))
  have hq6 := ((hq5.out.setCell_ne (p := ⟨vb, 0, none⟩) h1 (.int .i64 (supS bs))).setCell_ne (p := ⟨vb, 1, none⟩) h1 (.int .i64 (supL bs))).setCell_ne (p := ⟨vb, 2, none⟩) h1 (.int .i64 (supN bs))
  have hk6 := ((hk5.out.setCell (p := ⟨vb, 0, none⟩) (.inl rfl) (.int .i64 (supS bs))).setCell (p := ⟨vb, 1, none⟩) (.inl rfl) (.int .i64 (supL bs))).setCell (p := ⟨vb, 2, none⟩) (.inl rfl) (.int .i64 (supN bs))
  generalize ((w5.setCell ⟨vb, 0, none⟩ (.int .i64 (supS bs))).setCell ⟨vb, 1, none⟩ (.int .i64 (supL bs))).setCell ⟨vb, 2, none⟩ (.int .i64 (supN bs)) = w6 at hv6 hg6 hq6 hk6 ⊢
  have e6 : Obj.cells (((#[Value.int .i64 (0 : Nat), .int .i64 (0 : Nat), .int .i64 (0 : Nat)].setIfInBounds 0 (.int .i64 (supS bs))).setIfInBounds 1 (.int .i64 (supL bs))).setIfInBounds 2 (.int .i64 (supN bs))) 31 (0, 0) = superO (supS bs) (supL bs) (supN bs) := by
    simp [superO]
  rw [e6] at hv6
  clear e6 hv5 hg5 hq5 hk5 x0 x1 x2 xf
  clear w5
  refine (encSuper_ok w6 _ _ _ h.out.2.2.2.1).mono ?_
  rintro e w7 ⟨ge, hge, rfl, hb7, k7⟩
  have hv7 := k7.blk hv6 (fun f => f)
  have hg7 := k7.blk hg6 (fun f => f)
  have hq7 := k7.blk hq6 (fun f => f)
  have hk7 := hk6.step (k7.mono (fun _ _ f => f.elim))
  rw [h.out.2.2.2.2] at hb7
  have hE := equal_w w7 ge 0 512 512 g 0 512 512 bs bs hb7 hg7 (by omega) (by omega)
  rw [decide_eq_true (by rfl)] at hE
  have q7 := hq7.cell 0
  simp at q7
  clear k7 hv6 hg6 hq6 hk6 hge
  clear w6
  replace hv7 := hid hv7; replace hg7 := hid hg7; replace hq7 := hid hq7; replace hk7 := hid hk7; replace hE := hid hE; replace hb7 := hid hb7
  go_wp2_with (first | (go_at_call 118; refine hE.out.mono ?_; rintro e w8 ⟨rfl, rfl⟩) | (go_at_call 182; refine (fits_w _ true).mono ?_; rintro e w8 ⟨rfl, rfl⟩))
  go_end0
  exact ⟨rfl, hv7.out, hk7.out⟩
end Go.Vk

namespace Go.Vk
open Go.RowKit Go.Proofs

set_option maxRecDepth 20000 in
theorem guard_idle (p : Addr) (w : World) :
    CallsD Tryz.prog 206 #[.pointer (some p)] .returning w fun e u' w' => e = .returned (.tuple #[]) ∧ u' = .returning ∧ w' = w := by
  have hty : (binOp BinOp.eql 20 .nilIface .nilIface).run Tryz.prog w = .ok (.bool true) w := by kernel_rfl
  refine callsD_of_wpS Tryz.func206 rfl fun c₀ cs hu => ?_
  apply wpS_seq
  apply wpS_region
  simp [wpOpsS, go_sem, recoverD, hu, Tryz.ntmps206, Exit.thenS]
  refine wpS_of_wp ?_
  go_wp2
  cases c₀
  simp_all [bodyPostS, results, Tryz.results206]

set_option maxRecDepth 20000 in
theorem guard_broken (b : Nat) (x : Int) (w : World) (hb : Blk w b (.cells #[.int .i64 x] 34 (0, 0))) :
    CallsD Tryz.prog 206 #[.pointer (some ⟨b, 0, none⟩)] (.panicking [{ v := .iface 256 (.agg #[]), recovered := false }]) w fun e u' w' =>
      e = .returned (.tuple #[]) ∧ u' = .panicking [{ v := .iface 256 (.agg #[]), recovered := true }] ∧ Blk w' b (.cells #[.int .i64 6] 34 (0, 0)) ∧ Keeps (· = b) w w' := by
  have hta : ∀ w, (Instr.typeAssert (.iface 256 (.agg #[])) 20 256 true).run Tryz.prog w = .ok (.tuple #[.agg #[], .bool true]) w := by intro w; kernel_rfl
  have hb2 := hb.alloc (.cells #[] 256 (0, 0))
  have hb3 := hb2.setCell 0 (.int .i64 6)
  have hk3 := ((Keeps.refl (· = b) w).alloc (.cells #[] 256 (0, 0))).setCell (p := ⟨b, 0, none⟩) (.inl rfl) (.int .i64 6)
  have hc := hb2.cell 0
  have hz := hb2.frz 0
  simp at hc hb3
  clear hb2
  replace hb3 := hid hb3; replace hk3 := hid hk3; replace hb := hid hb
  refine callsD_of_wpS Tryz.func206 rfl fun c₀ cs hu => ?_
  apply wpS_seq
  apply wpS_region
  simp [wpOpsS, go_sem, recoverD, hu, Tryz.ntmps206, Exit.thenS]
  refine wpS_of_wp ?_
  go_wp2
  simp [bodyPostS, results, Tryz.results206]
  exact ⟨hb3.out, hk3.out⟩

set_option maxRecDepth 20000 in
/-- guarded, of a closure that returns. -/
theorem guarded_ok (w : World) (k : FuncId) (caps : Array Value) (R : World → Prop) (F : Nat → Prop) (hcf : ∀ w, (callFunc k caps).run Tryz.prog w = .ok (.enter k caps) w)
    (hin : ∀ w1, w1.heap.size = w.heap.size + 1 → Keeps (fun _ => False) w w1 → Calls Tryz.prog k caps w1 fun e w' => e = .returned (.tuple #[]) ∧ R w' ∧ Keeps F w1 w')
    (hF : ¬ F w.heap.size) (hR : ∀ w', R w' → R (w'.setCell ⟨w.heap.size, 0, none⟩ (.int .i64 0))) :
    Calls Tryz.prog 178 #[.func (.func k) #[] caps] w fun e w' => e = .returned (.int .i64 0) ∧ R w' ∧ Keeps F w w' := by
  have hmf : ∀ (fn : Fn) (first cap : Array Value) (w : World), (Instr.makeFunc fn first cap).run Tryz.prog w = .ok (.func fn first cap) w := fun _ _ _ _ => rfl
  have hin1 := hin (w.alloc (.cells #[.int .i64 0] 34 (0, 0))) (World.size_alloc _ _) ((Keeps.refl _ w).alloc _)
  replace hin1 := hid hin1; replace hin := hid hin; replace hF := hid hF; replace hR := hid hR
  go_enter_defers Tryz.func178, Tryz.ntmps178
  go_wp2_with fail
  refine hin1.out.mono ?_
  rintro e w2 ⟨rfl, hr2, hk2⟩
  have hb2 := hk2.blk (Blk.new w _) hF.out
  have hc := hb2.cell 0
  have hz := hb2.frz
  simp at hc
  have hr3 := hR.out w2 hr2
  have hk3 : Keeps F w (w2.setCell ⟨w.heap.size, 0, none⟩ (.int .i64 0)) := (((Keeps.refl F w).alloc _).step hk2).setCell (.inr (Nat.le_refl _)) _
  have hb3 := hb2.setCell 0 (.int .i64 0)
  simp at hb3
  have hc3 := hb3.cell 0
  simp at hc3
  replace hr2 := hid hr2; replace hk2 := hid hk2; replace hr3 := hid hr3; replace hk3 := hid hk3; replace hb2 := hid hb2; replace hb3 := hid hb3
  go_wp2
  refine leaves_cons (f := 206) (args := #[.pointer (some ⟨w.heap.size, 0, none⟩)]) (by simp) (by simp [go_sem]) ?_
  refine (guard_idle ⟨w.heap.size, 0, none⟩ _).mono ?_
  rintro e u' w'' ⟨rfl, rfl, rfl⟩
  simp [Leaves, settle, results, Tryz.results178, go_sem, hc3]
  exact ⟨hr3.out, hk3.out⟩

set_option maxRecDepth 20000 in
/-- guarded, of a closure that gives up. -/
theorem guarded_bad (w : World) (k : FuncId) (caps : Array Value) (F : Nat → Prop) (hcf : ∀ w, (callFunc k caps).run Tryz.prog w = .ok (.enter k caps) w)
    (hin : ∀ w1, w1.heap.size = w.heap.size + 1 → Keeps (fun _ => False) w w1 → Calls Tryz.prog k caps w1 fun e w' => e = .panicked [{ v := .iface 256 (.agg #[]), recovered := false }] ∧ Keeps F w1 w')
    (hF : ¬ F w.heap.size) :
    Calls Tryz.prog 178 #[.func (.func k) #[] caps] w fun e w' => e = .returned (.int .i64 6) ∧ Keeps F w w' := by
  have hmf : ∀ (fn : Fn) (first cap : Array Value) (w : World), (Instr.makeFunc fn first cap).run Tryz.prog w = .ok (.func fn first cap) w := fun _ _ _ _ => rfl
  have hin1 := hin (w.alloc (.cells #[.int .i64 0] 34 (0, 0))) (World.size_alloc _ _) ((Keeps.refl _ w).alloc _)
  replace hin1 := hid hin1; replace hin := hid hin; replace hF := hid hF
  go_enter_defers Tryz.func178, Tryz.ntmps178
  go_wp2_with fail
  refine hin1.out.mono ?_
  rintro e w2 ⟨rfl, hk2⟩
  have hb2 := hk2.blk (Blk.new w _) hF.out
  have hk3 : Keeps F w w2 := ((Keeps.refl F w).alloc _).step hk2
  replace hk2 := hid hk2; replace hk3 := hid hk3; replace hb2 := hid hb2
  go_wp2
  refine leaves_cons (f := 206) (args := #[.pointer (some ⟨w.heap.size, 0, none⟩)]) (by simp) (by simp [go_sem]) ?_
  refine (guard_broken w.heap.size 0 _ hb2.out).mono ?_
  rintro e u' w3 ⟨rfl, rfl, hb3, k3⟩
  have hc3 := hb3.cell 0
  simp at hc3
  have hk4 := hk3.out.fresh k3 (by intro i hi; omega)
  simp [Leaves, settle, results, Tryz.results178, go_sem, hc3]
  exact hk4

theorem super_w (w : World) (g : Nat) (bs : List UInt8) (hb : bs.length = 512) (hg : Blk w g (bytesO bs)) (h : SuperOk bs) :
    Calls Tryz.prog 144 #[.slice (some ⟨g, 0, none⟩) 512 512] w fun e w' =>
      e = .returned (.tuple #[.agg #[.int .i64 (supS bs), .int .i64 (supL bs), .int .i64 (supN bs)], .int .i64 0]) ∧ Keeps (fun _ => False) w w' := by
  replace hg := hid hg; replace h := hid h
  go_enter Tryz.func144, Tryz.ntmps144
  go_wp2_with fail
  have hq3 := ((Blk.new w (.cells #[.slice (some ⟨g, 0, none⟩) 512 512] 57 (0, 0))).alloc (superO 0 0 0)).alloc (superO 0 0 0)
  have ht3 := (Blk.new (w.alloc (.cells #[.slice (some ⟨g, 0, none⟩) 512 512] 57 (0, 0))) (superO 0 0 0)).alloc (superO 0 0 0)
  have hv3 := Blk.new ((w.alloc (.cells #[.slice (some ⟨g, 0, none⟩) 512 512] 57 (0, 0))).alloc (superO 0 0 0)) (superO 0 0 0)
  have hg3 := ((hg.out.alloc (.cells #[.slice (some ⟨g, 0, none⟩) 512 512] 57 (0, 0))).alloc (superO 0 0 0)).alloc (superO 0 0 0)
  have hk3 := (((Keeps.refl (fun _ => False) w).alloc (.cells #[.slice (some ⟨g, 0, none⟩) 512 512] 57 (0, 0))).alloc (superO 0 0 0)).alloc (superO 0 0 0)
  have hs3 : (((w.alloc (.cells #[.slice (some ⟨g, 0, none⟩) 512 512] 57 (0, 0))).alloc (superO 0 0 0)).alloc (superO 0 0 0)).heap.size = w.heap.size + 1 + 1 + 1 := by simp only [World.size_alloc]
  simp only [World.size_alloc] at ht3 hv3
  unfold superO at hq3 ht3 hv3 hg3 hk3 hs3
  have hlt := hg.out.lt
  generalize hw3 : ((w.alloc (.cells #[.slice (some ⟨g, 0, none⟩) 512 512] 57 (0, 0))).alloc (.cells #[.int .i64 (0 : Nat), .int .i64 (0 : Nat), .int .i64 (0 : Nat)] 31 (0, 0))).alloc (.cells #[.int .i64 (0 : Nat), .int .i64 (0 : Nat), .int .i64 (0 : Nat)] 31 (0, 0)) = w3 at hq3 ht3 hv3 hg3 hk3 hs3
  clear hw3
  have hne : w.heap.size ≠ w.heap.size + 1 + 1 := by omega
  have hgne : g ≠ w.heap.size + 1 + 1 := by omega
  generalize hqb : w.heap.size = qb at hq3 ht3 hv3 hs3 hne hgne hlt ⊢
  refine (guarded_ok w3 179 #[.pointer (some ⟨qb, 0, none⟩), .pointer (some ⟨qb + 1 + 1, 0, none⟩)] (fun w' => Blk w' (qb + 1 + 1) (superO (supS bs) (supL bs) (supN bs))) (· = qb + 1 + 1) (fun w => by kernel_rfl) ?_ ?_ ?_).mono ?_
  · intro w4 hs4 hk4
    exact decSuper1_ok w4 qb (qb + 1 + 1) g bs hb (hk4.blk hq3 (fun f => f)) (hk4.blk hv3 (fun f => f)) (hk4.blk hg3 (fun f => f)) hne hgne h.out
  · rw [hs3]; omega
  · intro w4 h4; exact h4.setCell_ne (by show qb + 1 + 1 ≠ w3.heap.size; rw [hs3]; omega) _
  rintro e w5 ⟨rfl, hv5, k5⟩
  have ht5 := k5.blk ht3 (by omega)
  have hk5 := hk3.fresh k5 (by intro i hi; omega)
  have x0 := hv5.cell 0
  have x1 := hv5.cell 1
  have x2 := hv5.cell 2
  simp at x0 x1 x2
  have t0 := ht5.cell 0
  have t1 := ht5.cell 1
  have t2 := ht5.cell 2
  have tf := ht5.frz
  simp at t0 t1 t2
  have hk6 := ((hk5.setCell (p := ⟨qb + 1, 0, none⟩) (.inr (by show _ ≤ qb + 1; omega)) (.int .i64 (supS bs))).setCell (p := ⟨qb + 1, 1, none⟩) (.inr (by show _ ≤ qb + 1; omega)) (.int .i64 (supL bs))).setCell (p := ⟨qb + 1, 2, none⟩) (.inr (by show _ ≤ qb + 1; omega)) (.int .i64 (supN bs))
  clear k5 hk3 hk5 hq3 ht3 hv3 hg3 hs3
  clear w3
  replace hv5 := hid hv5; replace ht5 := hid ht5; replace hk6 := hid hk6; replace hqb := hid hqb
  have ht6 := ((ht5.out.setCell 0 (.int .i64 (supS bs))).setCell 1 (.int .i64 (supL bs))).setCell 2 (.int .i64 (supN bs))
  simp at ht6
  replace ht6 := hid ht6
  go_wp2
  generalize ((w5.setCell ⟨qb + 1, 0, none⟩ (.int .i64 (supS bs))).setCell ⟨qb + 1, 1, none⟩ (.int .i64 (supL bs))).setCell ⟨qb + 1, 2, none⟩ (.int .i64 (supN bs)) = w6 at ht6 hk6 ⊢
  have u0 := ht6.out.cell 0
  have u1 := ht6.out.cell 1
  have u2 := ht6.out.cell 2
  simp at u0 u1 u2
  exact bodyPost_ret (v := .tuple #[.agg #[.int .i64 (supS bs), .int .i64 (supL bs), .int .i64 (supN bs)], .int .i64 0]) (by simp [results, Tryz.results144, go_sem, u0, u1, u2]) rfl ⟨rfl, hk6.out⟩
end Go.Vk
