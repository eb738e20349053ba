/- The walk of lay of package seal. The walks of turn and Seal of package seal. The walk of Seal of package seal. The walk of Open of package seal. The walk of read of package seal. The walks of pair and Newest of package seal. The walk of Newest of package seal. The walk of Renew of package seal, without data. -/
import Derived.Test.YtceodjgajkimnaaGreatMA
import Derived.Test.YtceodjgajkimnaaGreatMC
import Derived.Test.YtceodjgajkimnaaGreatMB
import Derived.Deep.RegionHeld3
import Derived.Deep.CutRange
import Derived.Deep.MidRow
set_option linter.unusedVariables false

namespace Go.Vk
open Go.RowKit Go.Proofs

theorem bytesT_some {w : World} {b : Nat} {T : TypeId} {bs : List UInt8} (h : Blk w b (bytesT T bs)) (i : Nat) (hi : i < bs.length) : ∃ v, w.cell? ⟨b, i, none⟩ = some v := ⟨_, bytesT_cell h i hi⟩
theorem zc253 : Tryz.zeroCells238 = ((zeros 512).map B).toArray := by kernel_rfl
theorem alloc253 (w : World) : (Instr.alloc 238 true (.tuple #[])).run Tryz.prog w = .ok (.pointer (some ⟨w.heap.size, 0, none⟩)) (w.alloc (bytesT 238 (zeros 512))) := by kernel_rfl
theorem und253 : Tryz.prog.underlying 238 = some (.array 512 5) := by kernel_rfl
theorem size253 : (Tryz.prog.info? 238).map (·.size) = some 512 := by kernel_rfl

/-- The sector before its sum. -/
def layRow (t : UInt8) (body : List UInt8) : List UInt8 :=
  lay (((((zeros 512).set 0 t).set 511 t).set 1 (UInt8.ofNat body.length)).set 2 (UInt8.ofNat (body.length / 256))) 7 (body.take 504)
/-- The sector with that turn and body. -/
def layB (t : UInt8) (body : List UInt8) : List UInt8 :=
  lay (layRow t body) 3 (leBytes (crc (((layRow t body).drop 1).take 2 ++ ((layRow t body).drop 7).take 504)) 4)

set_option maxRecDepth 100000 in
theorem slay_w (w : World) (t : UInt8) (g off c : Nat) (T : TypeId) (src : List UInt8) (hg : Blk w g (bytesT T src)) (n : Nat) (hlen : off + n ≤ src.length) (hn : n ≤ 504) :
    Calls Tryz.prog 191 #[B t, .slice (some ⟨g, off, none⟩) n c] w fun e w' => e = .returned (.agg (((layB t ((src.drop off).take n)).map B).toArray)) ∧ Keeps (fun _ => False) w w' := by
  obtain ⟨i5, hi5, hz5, hs5, hb5⟩ := info_parts info5
  replace hg := hid hg; replace hi5 := hid hi5; replace hz5 := hid hz5; replace hs5 := hid hs5; replace hb5 := hid hb5
  unfold B
  go_enter Tryz.func191, Tryz.ntmps191
  go_upto_region 2 with fail
  have hr1 := (Blk.new w (.cells Tryz.zeroCells238 238 (0, 0))).alloc (.cells Tryz.zeroCells238 238 (0, 0))
  have hb1 := Blk.new (w.alloc (.cells Tryz.zeroCells238 238 (0, 0))) (.cells Tryz.zeroCells238 238 (0, 0))
  have hg1 := (hg.out.alloc (.cells Tryz.zeroCells238 238 (0, 0))).alloc (.cells Tryz.zeroCells238 238 (0, 0))
  have hk1 := ((Keeps.refl (fun _ => False) w).alloc (.cells Tryz.zeroCells238 238 (0, 0))).alloc (.cells Tryz.zeroCells238 238 (0, 0))
  have hlt := hg.out.lt
  simp only [World.size_alloc] at hb1
  generalize (w.alloc (.cells Tryz.zeroCells238 238 (0, 0))).alloc (.cells Tryz.zeroCells238 238 (0, 0)) = w1 at hr1 hb1 hg1 hk1 ⊢
  rw [zc253] at hr1 hb1
  replace hr1 : Blk w1 _ (bytesT 238 (zeros 512)) := hr1
  replace hb1 : Blk w1 _ (bytesT 238 (zeros 512)) := hb1
  have hF : ∀ i, i = w.heap.size + 1 → w.heap.size ≤ i := by intro i hi; omega
  have hF0 : ∀ i, i = w.heap.size → w.heap.size ≤ i := by intro i hi; omega
  have hgb : g ≠ w.heap.size + 1 := by omega
  have hrb : w.heap.size ≠ w.heap.size + 1 := by omega
  generalize w.heap.size + 1 = bb at hb1 hF hgb hrb ⊢
  generalize hrbq : w.heap.size = rb at hr1 hF hF0 hlt hrb ⊢
  have hz := length_zeros 512
  obtain ⟨v0, c0⟩ := bytesT_some hb1 0 (by omega)
  obtain ⟨v1, c1⟩ := bytesT_some hb1 1 (by omega)
  obtain ⟨v2, c2⟩ := bytesT_some hb1 2 (by omega)
  obtain ⟨v511, c511⟩ := bytesT_some hb1 511 (by omega)
  have cf := hb1.frz
  replace hr1 := hid hr1; replace hb1 := hid hb1; replace hg1 := hid hg1; replace hk1 := hid hk1; replace hF := hid hF; replace hF0 := hid hF0; replace hrbq := hid hrbq; replace hlt := hid hlt
  go_upto_region 4 with fail
  have hbody : ((src.drop off).take n).length = n := by simp; omega
  have f1 : Value.int .u8 ((n : Int) % 256) = B (UInt8.ofNat n) := by simp [B]
  have f2 : Value.int .u8 ((n : Int) / 256) = B (UInt8.ofNat (n / 256)) := by
    unfold B
    rw [UInt8.toNat_ofNat', Nat.mod_eq_of_lt (by omega)]; simp
  rw [f1, f2]
  have hb2 := (((hb1.out.setCell 0 (B t)).setCell 511 (B t)).setCell 1 (B (UInt8.ofNat n))).setCell 2 (B (UInt8.ofNat (n / 256)))
  have hg2 := (((hg1.out.setCell_ne (p := ⟨bb, 0, none⟩) hgb (B t)).setCell_ne (p := ⟨bb, 511, none⟩) hgb (B t)).setCell_ne (p := ⟨bb, 1, none⟩) hgb (B (UInt8.ofNat n))).setCell_ne (p := ⟨bb, 2, none⟩) hgb (B (UInt8.ofNat (n / 256)))
  have hr2 := (((hr1.out.setCell_ne (p := ⟨bb, 0, none⟩) hrb (B t)).setCell_ne (p := ⟨bb, 511, none⟩) hrb (B t)).setCell_ne (p := ⟨bb, 1, none⟩) hrb (B (UInt8.ofNat n))).setCell_ne (p := ⟨bb, 2, none⟩) hrb (B (UInt8.ofNat (n / 256)))
  have hin : ∀ i, w.heap.size ≤ (⟨bb, i, none⟩ : Addr).block := by intro i; have := hF.out bb rfl; rw [hrbq.out]; exact this
  have hk2 := (((hk1.out.setCell (p := ⟨bb, 0, none⟩) (.inr (hin _)) (B t)).setCell (p := ⟨bb, 511, none⟩) (.inr (hin _)) (B t)).setCell (p := ⟨bb, 1, none⟩) (.inr (hin _)) (B (UInt8.ofNat n))).setCell (p := ⟨bb, 2, none⟩) (.inr (hin _)) (B (UInt8.ofNat (n / 256)))
  have e2 : Obj.cells ((((((zeros 512).map B).toArray.setIfInBounds 0 (B t)).setIfInBounds 511 (B t)).setIfInBounds 1 (B (UInt8.ofNat n))).setIfInBounds 2 (B (UInt8.ofNat (n / 256)))) 238 (0, 0) = bytesT 238 (((((zeros 512).set 0 t).set 511 t).set 1 (UInt8.ofNat n)).set 2 (UInt8.ofNat (n / 256))) := by
    simp only [bytesT, List.setIfInBounds_toArray, List.map_set]
  replace hb2 : Blk _ bb _ := e2 ▸ hb2
  have e3 : ((((w1.setCell ⟨bb, 0, none⟩ (B t)).setCell ⟨bb, 511, none⟩ (B t)).setCell ⟨bb, 1, none⟩ (B (UInt8.ofNat n))).setCell ⟨bb, 2, none⟩ (B (UInt8.ofNat (n / 256)))) = ((((w1.setCell ⟨bb, 0, none⟩ (Value.int .u8 t.toNat)).setCell ⟨bb, 511, none⟩ (Value.int .u8 t.toNat)).setCell ⟨bb, 1, none⟩ (B (UInt8.ofNat n))).setCell ⟨bb, 2, none⟩ (B (UInt8.ofNat (n / 256)))) := rfl
  rw [← e3]
  generalize ((((w1.setCell ⟨bb, 0, none⟩ (B t)).setCell ⟨bb, 511, none⟩ (B t)).setCell ⟨bb, 1, none⟩ (B (UInt8.ofNat n))).setCell ⟨bb, 2, none⟩ (B (UInt8.ofNat (n / 256)))) = w2 at hb2 hg2 hr2 hk2 ⊢
  have hl2 : (((((zeros 512).set 0 t).set 511 t).set 1 (UInt8.ofNat n)).set 2 (UInt8.ofNat (n / 256))).length = 512 := by simp only [List.length_set, length_zeros]
  have hlr : layRow t ((src.drop off).take n) = lay (((((zeros 512).set 0 t).set 511 t).set 1 (UInt8.ofNat n)).set 2 (UInt8.ofNat (n / 256))) 7 ((src.drop off).take n) := by
    unfold layRow
    rw [hbody, List.take_of_length_le (by omega)]
  generalize ((((zeros 512).set 0 t).set 511 t).set 1 (UInt8.ofNat n)).set 2 (UInt8.ofNat (n / 256)) = row0 at hb2 hl2 hlr
  clear c0 c1 c2 c511 cf hr1 hb1 hg1 hk1 f1 f2 e2 e3 hin hz
  clear w1
  replace hb2 := hid hb2; replace hg2 := hid hg2; replace hr2 := hid hr2; replace hk2 := hid hk2; replace hl2 := hid hl2; replace hlr := hid hlr
  go_step
  iterate 2 (refine wpList_exec rfl _ _ (by go_simp; exact ⟨rfl, rfl⟩) ?_; simp only [Act.put, List.setIfInBounds_toArray, List.set_cons_zero, List.set_cons_succ])
  refine wpList_copyT rfl (.tmp 21) (.tmp 22) 57 57 rfl 5 und22 size5 238 T bb 7 504 505 g off n c rfl rfl row0 src hb2.out hg2.out (by rw [hl2.out]; decide) hlen ?_
  intro w3 hb3 k3 hs3
  rw [show Nat.min n 504 = n from Nat.min_eq_left hn] at hb3 ⊢
  rw [← hlr.out] at hb3
  have hr3 := k3.blk hr2.out hrb
  have hk3 := hk2.out.fresh k3 (by intro i hi; rw [hrbq.out]; exact hF.out i hi)
  have hl3 : (layRow t ((src.drop off).take n)).length = 512 := by rw [hlr.out, length_lay (by rw [hbody, hl2.out]; omega), hl2.out]
  have hB : layB t ((src.drop off).take n) = lay (layRow t ((src.drop off).take n)) 3 (leBytes (crc (((layRow t ((src.drop off).take n)).drop 1).take 2 ++ ((layRow t ((src.drop off).take n)).drop 7).take 504)) 4) := rfl
  generalize hRow : layB t ((src.drop off).take n) = row2 at hB
  replace hRow := hid hRow
  generalize layRow t ((src.drop off).take n) = row1 at hb3 hl3 hB
  have hcl := crc_lt ((row1.drop 1).take 2 ++ (row1.drop 7).take 504)
  generalize hcr : crc ((row1.drop 1).take 2 ++ (row1.drop 7).take 504) = cs at hB hcl
  clear hs3 k3 hb2 hg2 hr2 hk2 hl2 hlr
  clear w2
  clear row0
  replace hb3 := hid hb3; replace hr3 := hid hr3; replace hk3 := hid hk3; replace hl3 := hid hl3; replace hB := hid hB; replace hcr := hid hcr
  have hXl : ((row1.drop 1).take 2 ++ (row1.drop 7).take 504).length = 506 := by simp [hl3.out]
  have hX1 : ∀ k, 0 + 506 ≤ ((row1.drop 1).take 2 ++ (row1.drop 7).take 504 ++ zeros k).length := by intro k; rw [List.length_append, hXl]; omega
  have hX2 : ∀ k, ((row1.drop 1).take 2 ++ (row1.drop 7).take 504 ++ zeros k).take 506 = (row1.drop 1).take 2 ++ (row1.drop 7).take 504 := by intro k; rw [← hXl]; exact List.take_left
  clear hXl
  replace hX1 := hid hX1; replace hX2 := hid hX2
  go_upto_region 5 with fail
  go_region_held3 (fun _ => True) (trivial) (first
    | ((fail_if_success (clear hnew)); rw [if_pos (by rfl)]; refine wp_appendG (.tmp 24) (.tmp 25) 57 rfl 5 i5 und22 rfl hi5.out hz5.out hs5.out hb5.out 238 238 bb 1 2 2 bb 7 504 505 rfl rfl row1 row1 (by first | exact hb3.out | exact hb3.out.drew) (by first | exact hb3.out | exact hb3.out.drew) (by rw [hl3.out]; decide) (by rw [hl3.out]; decide) (by decide) (by decide) (by decide) ?_; intro cap k w5 hcap hnew k5 hsz5; clear hcap; have hb5 := k5.blk hb3.out.drew (fun f => f); have hr5 := k5.blk hr3.out.drew (fun f => f); have hk5 := hk3.out.drew.step k5; replace hb5 := hid hb5; replace hr5 := hid hr5; replace hk5 := hid hk5; replace hnew := hid hnew; clear k5 hsz5)
    | (go_at_call 189; refine (sum_w _ _ 0 cap _ hnew.out 506 (hX1.out k) (by decide)).mono ?_; rintro e w6 ⟨rfl, k6⟩; rw [List.drop_zero, hX2.out, hcr.out]; have hb6 := k6.blk hb5.out (fun f => f); have hr6 := k6.blk hr5.out (fun f => f); have hk6 := hk5.out.step k6; replace hb6 := hid hb6; replace hr6 := hid hr6; replace hk6 := hid hk6; clear k6 hb5 hr5 hk5 hnew))
  clear hb3 hr3 hk3 hX1 hX2 hcr
  go_wp2
  go_loopw [7, 28] (fun _ i wr => ∃ k : Nat, k ≤ 4 ∧ i = .int .i64 k ∧ Blk wr bb (bytesT 238 (lay row1 3 (leBytes cs k))) ∧ Blk wr rb (bytesT 238 (zeros 512)) ∧ Keeps (fun _ => False) w wr) (fun _ i _ => 4 - (intOf i).toNat)
  case atStart => exact ⟨0, by omega, rfl, by simpa [leBytes, lay] using hb6.out, hr6.out, hk6.out⟩
  case round =>
    obtain ⟨j, hj, rfl, hb7, hr7, hk7⟩ := hrel
    clear hb6 hr6 hk6
    have hl7 : (lay row1 3 (leBytes cs j)).length = 512 := by rw [length_lay (by rw [length_leBytes, hl3.out]; omega), hl3.out]
    by_cases hlt4 : j < 4
    · obtain ⟨v, hc⟩ := bytesT_some hb7 (3 + j) (by omega)
      have hz := hb7.frz
      replace hb7 := hid hb7; replace hr7 := hid hr7; replace hk7 := hid hk7; replace hl7 := hid hl7
      go_wp2
      have hBj : Value.int .u8 ((cs : Int) / 2 ^ (8 * j) % 256) = B (leByte cs j) := by
        unfold B
        rw [leByte_toNat]; simp
      rw [hBj]
      have hb8 := hb7.out.setCell (3 + j) (B (leByte cs j))
      rw [bytesT_set, ← lay_snoc cs j (by rw [hl3.out]; omega)] at hb8
      have hr8 := hr7.out.setCell_ne (p := ⟨bb, 3 + j, none⟩) hrb (B (leByte cs j))
      have hk8 := hk7.out.setCell (p := ⟨bb, 3 + j, none⟩) (.inr (by rw [hrbq.out]; exact hF.out bb rfl)) (B (leByte cs j))
      refine ⟨⟨j + 1, by omega, by go_num, hb8, hr8, hk8⟩, ?_⟩
      simp [intOf]; omega
    · obtain rfl : j = 4 := by omega
      rw [← hB.out] at hb7 hl7
      replace hb7 := hid hb7; replace hr7 := hid hr7; replace hk7 := hid hk7; replace hl7 := hid hl7
      go_upto_region 11 with fail
      go_step
      refine wpList_loadA rfl 238 (.tmp 5) rfl bb 0 238 (row2.map B) 512 _ rfl hb7.out (by rw [length_B, hl7.out]; decide) und253 rfl size253 ?_
      rw [List.drop_zero, List.take_of_length_le (by rw [length_B, hl7.out]; decide)]
      refine wpList_storeA rfl 238 (.tmp 4) (.tmp 40) rfl rb 0 238 ((zeros 512).map B) (row2.map B) rfl rfl hr7.out (by rw [length_B, length_B, hl7.out, length_zeros]; decide) (by rw [length_B, hl7.out]; exact size253) (B_one _) ?_
      intro w9 hr9 k9 hs9
      rw [layV_all (by rw [length_B, length_B, hl7.out, length_zeros])] at hr9
      have hk9 := hk7.out.fresh k9 (by intro i hi; rw [hrbq.out]; exact hF0.out i hi)
      clear hs9 k9
      replace hr9 := hid hr9; replace hk9 := hid hk9
      go_wp2
      exact bodyPost_ret (v := .agg (row2.map B).toArray) (results_blk rfl _ _ rb 238 (row2.map B) _ rfl hr9.out und253 rfl (by rw [length_B, hl7.out]; exact size253)) rfl ⟨by rw [← hRow.out]; rfl, hk9.out⟩
end Go.Vk

namespace Go.Vk
open Go.RowKit Go.Proofs

/-- The least turn that is neither. -/
def turnOf (a b : UInt8) : UInt8 := if a.toNat ≠ 0 ∧ b.toNat ≠ 0 then 0 else if a.toNat ≠ 1 ∧ b.toNat ≠ 1 then 1 else if a.toNat ≠ 2 ∧ b.toNat ≠ 2 then 2 else 3

theorem turn_at (a b : UInt8) (k : Nat) (hk : k < 3) (h : ∀ m, m < k → ¬ (a.toNat ≠ m ∧ b.toNat ≠ m)) (hf : a.toNat ≠ k ∧ b.toNat ≠ k) : B (turnOf a b) = .int .u8 k := by
  have : k = 0 ∨ k = 1 ∨ k = 2 := by omega
  unfold turnOf
  rcases this with rfl | rfl | rfl
  · rw [if_pos hf]; rfl
  · rw [if_neg (h 0 (by omega)), if_pos hf]; rfl
  · rw [if_neg (h 0 (by omega)), if_neg (h 1 (by omega)), if_pos hf]; rfl
theorem turn_none {a b : UInt8} (h : ∀ m, m < 3 → ¬ (a.toNat ≠ m ∧ b.toNat ≠ m)) : B (turnOf a b) = .int .u8 3 := by
  unfold turnOf
  rw [if_neg (h 0 (by omega)), if_neg (h 1 (by omega)), if_neg (h 2 (by omega))]; rfl

theorem turn_w (w : World) (a b : UInt8) : Calls Tryz.prog 192 #[B a, B b] w fun e w' => e = .returned (B (turnOf a b)) ∧ w' = w := by
  have hat := turn_at a b
  have hno := @turn_none a b
  generalize B (turnOf a b) = R at hat hno ⊢
  unfold B
  generalize a.toNat = x at hat hno ⊢
  generalize b.toNat = y at hat hno ⊢
  replace hat := hid hat; replace hno := hid hno
  go_enter Tryz.func192, Tryz.ntmps192
  go_wp2
  go_loop [6] (fun i => ∃ k : Nat, k ≤ 3 ∧ i = .int .u8 k ∧ Hid (∀ m, m < k → ¬ (x ≠ m ∧ y ≠ m))) (fun i => 3 - (intOf i).toNat)
  case atStart => exact ⟨0, by omega, rfl, fun m hm => by omega⟩
  case round =>
    obtain ⟨k, hk, rfl, hm⟩ := hrel
    by_cases hlt : k < 3
    · by_cases h1 : x = k
      · have hm2 : Hid (∀ m, m < k + 1 → ¬ (x ≠ m ∧ y ≠ m)) := fun m h => by
          by_cases e : m = k
          · subst e; omega
          · exact hm m (by omega)
        subst h1
        go_wp2
        exact ⟨⟨x + 1, by omega, by go_num, hm2⟩, by simp [intOf]; omega⟩
      · by_cases h2 : y = k
        · have hm2 : Hid (∀ m, m < k + 1 → ¬ (x ≠ m ∧ y ≠ m)) := fun m h => by
            by_cases e : m = k
            · subst e; omega
            · exact hm m (by omega)
          subst h2
          have e1 : ((y : Int) != (x : Int)) = true := by simp; omega
          go_wp2
          exact ⟨⟨y + 1, by omega, by go_num, hm2⟩, by simp [intOf]; omega⟩
        · have hR := hat.out k hlt hm.out ⟨h1, h2⟩
          have e1 : ((k : Int) != (x : Int)) = true := by simp; omega
          have e2 : ((k : Int) != (y : Int)) = true := by simp; omega
          replace hR := hid hR
          go_wp2
          go_ret
          exact ⟨by rw [hR.out]; rfl, rfl⟩
    · obtain rfl : k = 3 := by omega
      have hR := hno.out hm.out
      replace hR := hid hR
      go_wp2
      go_ret
      exact ⟨by rw [hR.out]; rfl, rfl⟩
end Go.Vk

namespace Go.Vk
open Go.RowKit Go.Proofs

theorem Keeps.cell {w w' : World} (k : Keeps (fun _ => False) w w') {a : Addr} {v : Value} (h : w.cell? a = some v) : w'.cell? a = some v := by
  have hb := World.block_lt_of_cell? w a h
  have := k.block a.block hb (fun f => f)
  unfold World.cell? at *
  rw [this]; exact h
theorem Keeps.there {w w' : World} (k : Keeps (fun _ => False) w w') {b n : Nat} (hn : 0 < n) (h : w.there b 0 n) : w'.there b 0 n := by
  have h0 := (h 0 hn).1
  obtain ⟨v, hv⟩ := Option.isSome_iff_exists.1 h0
  have hb := World.block_lt_of_cell? w _ hv
  have he := k.block b hb (fun f => f)
  intro j hj
  have := h j hj
  unfold World.cell? World.frozen? at *
  dsimp only at *
  rw [he]; exact this
theorem exit_gen {K : Act → World → Prop} {Q : Exit → Act → World → Prop} {e : Exit} {a : Act} {w : World} (S : World → Prop) (hS : S w) (h : ∀ w', S w' → Exit.then K Q e a w') : Exit.then K Q e a w := h w hS
theorem wp_gen {P : Program} {c : Code} {Q : Exit → Act → World → Prop} {a : Act} {w : World} (S : World → Prop) (hS : S w) (h : ∀ w', S w' → c.wp P Q a w') : c.wp P Q a w := h w hS
theorem there_blk {w : World} {b n : Nat} {T : TypeId} {cs : List Value} (h : Blk w b (.cells cs.toArray T (0, 0))) (hn : n = cs.length) : w.there b 0 n := by
  intro j hj
  refine ⟨?_, h.frz _⟩
  rw [h.cell]
  have : 0 + j < cs.length := by omega
  simp [show j < cs.length by omega]

theorem length_layRow (t : UInt8) (body : List UInt8) : (layRow t body).length = 512 := by
  unfold layRow
  rw [length_lay]
  · simp only [List.length_set, length_zeros]
  · simp only [List.length_set, length_zeros, List.length_take]; omega
theorem length_layB (t : UInt8) (body : List UInt8) : (layB t body).length = 512 := by
  unfold layB
  rw [length_lay (by rw [length_leBytes, length_layRow]; omega), length_layRow]

set_option maxHeartbeats 2000000 in
set_option maxRecDepth 100000 in
theorem seal_w (w : World) (g1 c1 : Nat) (T1 : TypeId) (old : List UInt8) (h1 : Blk w g1 (bytesT T1 old)) (hl1 : old.length = 512)
    (g2 off n c2 : Nat) (T2 : TypeId) (src : List UInt8) (h2 : Blk w g2 (bytesT T2 src)) (hlen : off + n ≤ src.length) (hn : n ≤ 504) :
    Calls Tryz.prog 160 #[.slice (some ⟨g1, 0, none⟩) 512 c1, .slice (some ⟨g2, off, none⟩) n c2] w fun e w' =>
      ∃ g, w.heap.size ≤ g ∧ e = .returned (.tuple #[.slice (some ⟨g, 0, none⟩) 512 512, .int .i64 0]) ∧ Blk w' g (bytesT 238 (layB (turnOf (old.getD 0 0) (old.getD 511 0)) ((src.drop off).take n))) ∧ Keeps (fun _ => False) w w' := by
  have o0 := bytesT_cell h1 0 (by omega)
  have o511 := bytesT_cell h1 511 (by omega)
  have d0 : old.getD 0 0 = old[0]'(by omega) := by rw [List.getD_eq_getElem?_getD, List.getElem?_eq_getElem (by omega)]; rfl
  have d511 : old.getD 511 0 = old[511]'(by omega) := by rw [List.getD_eq_getElem?_getD, List.getElem?_eq_getElem (by omega)]; rfl
  rw [d0, d511]
  generalize old[0]'(by omega) = a at o0
  generalize old[511]'(by omega) = b at o511
  clear d0 d511
  have hT := fun w => turn_w w a b
  generalize turnOf a b = t at hT ⊢
  unfold B at o0 o511 hT
  have hL := fun w3 h => slay_w w3 t g2 off c2 T2 src h n hlen hn
  generalize hrow : layB t ((src.drop off).take n) = row at hL ⊢
  have hone : ∀ v ∈ row.map B, v.oneCell' = true := B_one _
  replace h1 := hid h1; replace h2 := hid h2; replace hT := hid hT; replace hL := hid hL; replace hrow := hid hrow
  go_enter Tryz.func160, Tryz.ntmps160
  go_upto_region 5 with fail
  have hrl : (row.map B).length = 512 := by rw [length_B, ← hrow.out, length_layB]
  have hth : ∀ W : World, (W.alloc (.cells Tryz.zeroCells238 238 (0, 0))).there W.heap.size 0 512 := by
    intro W
    have := Blk.new W (.cells Tryz.zeroCells238 238 (0, 0))
    rw [zc253] at this ⊢
    exact there_blk this (by rw [length_B, length_zeros])
  have hsi := size253
  have hg1 := h1.out.lt
  have hg2 := h2.out.lt
  have sc : ∀ (W : World) (b : Nat) (x : Addr) (v : Value), w.heap.size ≤ b → x.block < w.heap.size → W.cell? x = some v → (W.setCells b 0 (row.map B)).cell? x = some v := by
    intro W b x v hb hx h
    rw [World.cell?_setCells_out b (row.map B) 0 W x (fun e => by omega)]; exact h
  have sb : ∀ (vs : List Value) (W : World) (b o : Nat), w.heap.size ≤ b → Blk W g2 (bytesT T2 src) → Blk (W.setCells b o vs) g2 (bytesT T2 src) := by
    intro vs
    induction vs with
    | nil => intro W b o hb h; exact h
    | cons v vs ih =>
      intro W b o hb h
      exact ih _ b (o + 1) hb (h.setCell_ne (p := ⟨b, o, none⟩) (by show g2 ≠ b; omega) v)
  have o0d : w.drew.cell? ⟨g1, 0, none⟩ = some (.int .u8 a.toNat) := o0
  have o511d : w.drew.cell? ⟨g1, 511, none⟩ = some (.int .u8 b.toNat) := o511
  have h2d : Blk w.drew g2 (bytesT T2 src) := h2.out
  have o0a := cell_alloc o0 (.cells Tryz.zeroCells238 238 (0, 0))
  have o511a := cell_alloc o511 (.cells Tryz.zeroCells238 238 (0, 0))
  have h2a := h2.out.alloc (.cells Tryz.zeroCells238 238 (0, 0))
  have o0e : (w.alloc (.cells Tryz.zeroCells238 238 (0, 0))).drew.cell? ⟨g1, 0, none⟩ = some (.int .u8 a.toNat) := o0a
  have o511e : (w.alloc (.cells Tryz.zeroCells238 238 (0, 0))).drew.cell? ⟨g1, 511, none⟩ = some (.int .u8 b.toNat) := o511a
  have h2e : Blk (w.alloc (.cells Tryz.zeroCells238 238 (0, 0))).drew g2 (bytesT T2 src) := h2a
  have hz0 : Blk (w.alloc (.cells Tryz.zeroCells238 238 (0, 0))).drew w.heap.size (.cells Tryz.zeroCells238 238 (0, 0)) := Blk.new w _
  have fin : ∀ (W : World) (b : Nat), w.heap.size ≤ b → Keeps (fun _ => False) w W → Blk W b (.cells Tryz.zeroCells238 238 (0, 0)) →
      Blk (W.setCells b 0 (row.map B)) b (bytesT 238 row) ∧ Keeps (fun _ => False) w (W.setCells b 0 (row.map B)) := by
    intro W b hb hk h
    rw [zc253] at h
    have := blk_setCells b 238 (row.map B) 0 W ((zeros 512).map B) h (by rw [hrl, length_B, length_zeros]; decide)
    rw [layV_all (by rw [hrl, length_B, length_zeros])] at this
    exact ⟨this.1, hk.fresh this.2.1 (by intro i hi; omega)⟩
  replace fin := hid fin
  go_region_held3 (fun W => W.cell? ⟨g1, 0, none⟩ = some (.int .u8 a.toNat) ∧ W.cell? ⟨g1, 511, none⟩ = some (.int .u8 b.toNat) ∧ Blk W g2 (bytesT T2 src)) (first
    | with_reducible exact ⟨o0d, o511d, h2d⟩ | with_reducible exact ⟨o0e, o511e, h2e⟩ | with_reducible exact ⟨q0, q511, q2⟩ | with_reducible exact ⟨cell_alloc q0 _, cell_alloc q511 _, q2.alloc _⟩ | with_reducible exact ⟨sc _ _ _ _ z6 hg1 (cell_alloc q0 _), sc _ _ _ _ z6 hg1 (cell_alloc q511 _), sb _ _ _ _ z6 (q2.alloc _)⟩ | with_reducible exact ⟨sc _ _ _ _ (Nat.le_refl _) hg1 q0, sc _ _ _ _ (Nat.le_refl _) hg1 q511, sb _ _ _ _ (Nat.le_refl _) q2⟩) (first
    | (go_at_call 192; refine (hT.out _).mono ?_; rintro e w5 ⟨rfl, rfl⟩)
    | (go_at_call 191; refine (hL.out _ (by first | with_reducible exact h2d | with_reducible exact h2e)).mono ?_; rintro e w6 ⟨rfl, k6⟩; have z6 : w.heap.size ≤ w6.heap.size := (by have := k6.size; simp at this; omega); (try have th6 := Keeps.there (w := (w.alloc (.cells Tryz.zeroCells238 238 (0, 0))).drew) (by with_reducible exact k6) (by decide) (hth w)); (try have bz6 := k6.blk (b := w.heap.size) (by with_reducible exact hz0) (fun f => f)); have q0 := k6.cell (a := ⟨g1, 0, none⟩) (by first | with_reducible exact o0d | with_reducible exact o0e); have q511 := k6.cell (a := ⟨g1, 511, none⟩) (by first | with_reducible exact o511d | with_reducible exact o511e); have q2 := k6.blk (b := g2) (by first | with_reducible exact h2d | with_reducible exact h2e) (fun f => f)))
  all_goals
    have hkw : Keeps (fun _ => False) w w6 := ⟨k6.os, k6.tape, k6.output, z6, fun i hi _ => by
      rw [k6.block i (by first | exact hi | (show i < (w.alloc _).heap.size; rw [World.size_alloc]; omega)) (fun f => f)]
      first | rfl | exact ((Keeps.refl (fun _ => False) w).alloc _).block i hi (fun f => f)⟩
    first
      | refine exit_gen (fun W => Blk W w.heap.size (bytesT 238 row) ∧ Keeps (fun _ => False) w W) (by with_reducible exact fin.out _ _ (Nat.le_refl _) hkw bz6) ?_
      | refine exit_gen (fun W => Blk W w6.heap.size (bytesT 238 row) ∧ Keeps (fun _ => False) w W) (by with_reducible exact fin.out _ _ z6 (hkw.alloc _) (Blk.new w6 _)) ?_
    clear sc sb hth hone hrl hsi o0d o511d h2d o0a o511a h2a o0e o511e h2e hz0 hkw q0 q511 q2
    rintro w9 ⟨hb9, hk9⟩
    replace hb9 := hid hb9; replace hk9 := hid hk9
    go_wp2
    go_ret2
    exact ⟨_, by first | exact Nat.le_refl _ | exact z6, rfl, hb9.out, hk9.out⟩
end Go.Vk

namespace Go.Vk
open Go.RowKit Go.Proofs

theorem i64_or_add {v : Nat} (k : Nat) (h : v < 2 ^ k) (x : Nat) (h1 : v < 2 ^ 62) (h2 : x * 2 ^ k < 2 ^ 62) : bits .or .i64 (v : Int) ((x * 2 ^ k : Nat) : Int) = ((v + 2 ^ k * x : Nat) : Int) := by
  rw [(bits_nat .i64 62 (by decide) (fun n a b => wrap_small (by omega) (by omega)) v (x * 2 ^ k) h1 h2).2, or_add k h x]
theorem wrap64_small {n : Int} (h1 : -9223372036854775808 ≤ n) (h2 : n ≤ 9223372036854775807) : wrap64 n = n := by unfold wrap64; omega

theorem Blk.drewN {w : World} {b : Nat} {o : Obj} (h : Blk w b o) (n : Nat) : Blk (w.drewN n) b o := h
theorem Keeps.drewN {F : Nat → Prop} {a b : World} (h : Keeps F a b) (n : Nat) : Keeps F a (b.drewN n) := ⟨h.os, h.tape, h.output, h.size, h.block⟩
theorem rangeAt_blk {w : World} {b : Nat} {T : TypeId} {cs : List Value} (h : Blk w b (.cells cs.toArray T (0, 0))) : w.rangeAt b 0 cs := by
  intro j v hv
  rw [h.cell, Nat.zero_add]
  simpa using hv
theorem guard253 : Tryz.prog.eqGuardType Tryz.prog.depth 238 = false := by kernel_rfl
theorem und5 : Tryz.prog.underlying 5 = some (.int .u8) := by kernel_rfl

/-- The length that a sealed sector tells. -/
def bodyLen (s : List UInt8) : Nat := (s.getD 1 0).toNat + 256 * (s.getD 2 0).toNat
/-- The body of a sealed sector. -/
def openS (s : List UInt8) : Option (List UInt8) :=
  if 3 ≤ (s.getD 0 0).toNat ∨ 504 < bodyLen s ∨ s ≠ layB (s.getD 0 0) ((s.drop 7).take (bodyLen s)) then none else some ((s.drop 7).take (bodyLen s))
def openV (s : List UInt8) (b : Nat) : Value :=
  match openS s with
  | none => .tuple #[.slice none 0 0, .int .i64 30]
  | some body => .tuple #[.slice (some ⟨b, if body.length = 0 then 0 else 7, none⟩) body.length body.length, .int .i64 0]

set_option maxRecDepth 100000 in
theorem open_w (w : World) (g c : Nat) (T1 : TypeId) (s : List UInt8) (hg : Blk w g (bytesT T1 s)) (hs : s.length = 512) :
    Calls Tryz.prog 208 #[.slice (some ⟨g, 0, none⟩) 512 c] w fun e w' =>
      ∃ b, w.heap.size ≤ b ∧ Blk w' b (bytesT 238 s) ∧ Keeps (fun _ => False) w w' ∧ e = .returned (openV s b) := by
  have hat : ∀ w, (Instr.arrayAt 238 (.slice (some ⟨g, 0, none⟩) 512 c)).run Tryz.prog w = .ok (.pointer (some ⟨g, 0, none⟩)) w := fun w => run_arrayAt w _ _ 512 _ 512 c und253 (Nat.le_refl _)
  replace hg := hid hg
  go_enter Tryz.func208, Tryz.ntmps208
  go_upto_region 3 with fail
  go_step
  iterate 2 (refine wpList_exec rfl _ _ (by go_simp; exact ⟨rfl, rfl⟩) ?_; simp only [Act.put, List.setIfInBounds_toArray, List.set_cons_zero, List.set_cons_succ])
  refine wpList_loadA rfl 238 (.tmp 10) rfl g 0 T1 (s.map B) 512 _ rfl hg.out (by rw [length_B, hs]; decide) und253 rfl size253 ?_
  rw [List.drop_zero, List.take_of_length_le (by rw [length_B, hs]; decide)]
  refine wpList_allocV rfl _ rfl _ _ (alloc253 _) ?_
  simp only [Act.put, List.setIfInBounds_toArray, List.set_cons_zero, List.set_cons_succ]
  refine wpList_storeA rfl 238 (.tmp 4) (.tmp 11) rfl w.heap.size 0 238 ((zeros 512).map B) (s.map B) rfl rfl (Blk.new w _) (by rw [length_B, length_B, hs, length_zeros]; decide) (by rw [length_B, hs]; exact size253) (B_one _) ?_
  intro w1 hb1 k1 hs1
  rw [layV_all (by rw [length_B, length_B, hs, length_zeros])] at hb1
  have hk1 : Keeps (fun _ => False) w w1 := ((Keeps.refl (fun _ => False) w).alloc _).fresh k1 (by intro i hi; omega)
  clear hs1 k1
  replace hb1 : Blk w1 w.heap.size (bytesT 238 s) := hb1
  have c0 := bytesT_cell hb1 0 (by omega)
  have c1 := bytesT_cell hb1 1 (by omega)
  have c2 := bytesT_cell hb1 2 (by omega)
  have d0 : s.getD 0 0 = s[0]'(by omega) := by rw [List.getD_eq_getElem?_getD, List.getElem?_eq_getElem (by omega)]; rfl
  have d1 : s.getD 1 0 = s[1]'(by omega) := by rw [List.getD_eq_getElem?_getD, List.getElem?_eq_getElem (by omega)]; rfl
  have d2 : s.getD 2 0 = s[2]'(by omega) := by rw [List.getD_eq_getElem?_getD, List.getElem?_eq_getElem (by omega)]; rfl
  have hO : openS s = if 3 ≤ (s[0]'(by omega)).toNat ∨ 504 < (s[1]'(by omega)).toNat + 256 * (s[2]'(by omega)).toNat ∨ s ≠ layB (s[0]'(by omega)) ((s.drop 7).take ((s[1]'(by omega)).toNat + 256 * (s[2]'(by omega)).toNat)) then none else some ((s.drop 7).take ((s[1]'(by omega)).toNat + 256 * (s[2]'(by omega)).toNat)) := by
    unfold openS bodyLen
    rw [d0, d1, d2]
  have hV : openV s w.heap.size = (match openS s with
    | none => .tuple #[.slice none 0 0, .int .i64 30]
    | some body => .tuple #[.slice (some ⟨w.heap.size, if body.length = 0 then 0 else 7, none⟩) body.length body.length, .int .i64 0]) := rfl
  rw [hO] at hV
  clear hO d0 d1 d2
  generalize s[0]'(by omega) = x0 at *
  generalize s[1]'(by omega) = x1 at *
  generalize s[2]'(by omega) = x2 at *
  unfold B at c0 c1 c2
  have hx1 := x1.toNat_lt
  have hx2 := x2.toNat_lt
  have hx0 := x0.toNat_lt
  have hor : bits .or .i64 (x1.toNat : Int) ((x2.toNat : Int) * 256) = ((x1.toNat + 256 * x2.toNat : Nat) : Int) := by
    have := i64_or_add 8 hx1 x2.toNat (by omega) (by omega)
    exact_mod_cast this
  have hn1 : x1.toNat + 256 * x2.toNat < 65536 := by omega
  generalize x1.toNat + 256 * x2.toNat = n at hV hn1 hor
  replace hb1 := hid hb1; replace hk1 := hid hk1; replace hV := hid hV
  go_upto_region 5 with fail
  clear hor c1 c2 hx1 hx2
  have hn0 : (0 : Int) ≤ (n : Int) := by omega
  generalize hbb : w.heap.size = b at hb1 hV c0 ⊢
  by_cases hA : 3 ≤ x0.toNat
  · have hA' : (3 : Int) ≤ (x0.toNat : Int) := by omega
    rw [if_pos (.inl hA)] at hV
    replace hbb := hid hbb; replace hA := hid hA
    go_quiet (fail)
    go_wp2
    go_ret2
    exact ⟨b, by rw [hbb.out]; exact Nat.le_refl _, hb1.out.drewN _, hk1.out.drewN _, by rw [hV.out]; rfl⟩
  · by_cases hB : 504 < n
    · have hA' : ¬ (3 : Int) ≤ (x0.toNat : Int) := by omega
      have hB' : (504 : Int) < (n : Int) := by omega
      rw [if_pos (.inr (.inl hB))] at hV
      replace hbb := hid hbb; replace hA := hid hA; replace hB := hid hB
      go_quiet (fail)
      go_wp2
      go_ret2
      exact ⟨b, by rw [hbb.out]; exact Nat.le_refl _, hb1.out.drewN _, hk1.out.drewN _, by rw [hV.out]; rfl⟩
    · have hA' : ¬ (3 : Int) ≤ (x0.toNat : Int) := by omega
      have hB' : ¬ (504 : Int) < (n : Int) := by omega
      have hL := fun w3 h => slay_w w3 x0 b 7 505 238 s h n (by omega) (by omega)
      have hne := fun w => run_neq_bytes (P := Tryz.prog) w und253 und5 size5 s (layB x0 ((s.drop 7).take n)) hs (length_layB _ _)
      have hbl : ((s.drop 7).take n).length = n := by rw [List.length_take, List.length_drop, hs]; omega
      have hVt : s ≠ layB x0 ((s.drop 7).take n) → openV s b = .tuple #[.slice none 0 0, .int .i64 30] := fun h => by rw [hV.out, if_pos (.inr (.inr h))]
      have hVf : s = layB x0 ((s.drop 7).take n) → openV s b = .tuple #[.slice (some ⟨b, if n = 0 then 0 else 7, none⟩) n n, .int .i64 0] := fun h => by
        rw [hV.out, if_neg (by intro e; rcases e with e | e | e; exact hA e; exact hB e; exact e h)]
        simp only [hbl]
      clear hV
      generalize layB x0 ((s.drop 7).take n) = row at hL hne hVt hVf
      have hV1 : decide (s = row) = false → openV s b = .tuple #[.slice none 0 0, .int .i64 30] := fun h => hVt (of_decide_eq_false h)
      have hV2 : decide (s = row) = true → openV s b = .tuple #[.slice (some ⟨b, if n = 0 then 0 else 7, none⟩) n n, .int .i64 0] := fun h => hVf (of_decide_eq_true h)
      clear hVt hVf
      generalize decide (s = row) = r at hne hV1 hV2
      have hgt := guard253
      have hu := und253
      have hsi : (Tryz.prog.info? 238).map (·.size) = some (s.map B).length := by rw [length_B, hs]; exact size253
      have r0 : w1.rangeAt b 0 (s.map B) := rangeAt_blk hb1.out
      have r0d : w1.drew.rangeAt b 0 (s.map B) := r0
      have c0d : w1.drew.cell? ⟨b, 0, none⟩ = some (.int .u8 x0.toNat) := c0
      have b0 : Blk w1 b (bytesT 238 s) := hb1.out
      have b0d : Blk w1.drew b (bytesT 238 s) := hb1.out
      have hn2 : (n : Int) ≤ 504 := by omega
      have hp1 : IntKind.i64.wrap (7 + (n : Int)) = 7 + (n : Int) := wrap_small (by omega) (by omega)
      have hp2 : (7 : Int) ≤ 7 + (n : Int) := by omega
      have hp3 : 7 + (n : Int) ≤ 512 := by omega
      have hp4 : (7 + (n : Int)).toNat - 7 = n := by omega
      replace hbb := hid hbb; replace hA := hid hA; replace hB := hid hB; replace hL := hid hL; replace hV1 := hid hV1; replace hV2 := hid hV2; replace hs := hid hs; replace hbl := hid hbl
      go_region_held3 (fun W => W.rangeAt b 0 (s.map B) ∧ W.cell? ⟨b, 0, none⟩ = some (.int .u8 x0.toNat) ∧ Blk W b (bytesT 238 s)) (first
        | with_reducible exact ⟨r0d, c0d, b0d⟩ | with_reducible exact ⟨r6, c6, b6⟩) (first
        | (go_at_call 191; refine (hL.out _ (by with_reducible exact b0d)).mono ?_; rintro e w6 ⟨rfl, k6⟩; have b6 := k6.blk b0d (fun f => f); have c6 := k6.cell c0d; have r6 := rangeAt_blk b6))
      have hk6 := hk1.out.drew.step k6
      clear r0 r0d c0d b0 b0d c6 r6 hne k6 hL c0 hgt hu hsi
      replace b6 := hid b6; replace hk6 := hid hk6
      cases r
      · have hv := hV1.out rfl
        clear hV1 hV2
        replace hv := hid hv
        go_wp2
        go_ret2
        exact ⟨b, by rw [hbb.out]; exact Nat.le_refl _, b6.out, hk6.out, by rw [hv.out]; rfl⟩
      · have hv := hV2.out rfl
        clear hV1 hV2
        by_cases hn00 : n = 0
        · rw [if_pos hn00] at hv
          subst hn00
          replace hv := hid hv
          go_wp2
          go_ret2
          exact ⟨b, by rw [hbb.out]; exact Nat.le_refl _, b6.out, hk6.out, by rw [hv.out]; rfl⟩
        · rw [if_neg hn00] at hv
          replace hv := hid hv
          go_wp2
          go_ret2
          exact ⟨b, by rw [hbb.out]; exact Nat.le_refl _, b6.out, hk6.out, by rw [hv.out]; rfl⟩
end Go.Vk

namespace Go.Vk
open Go.RowKit Go.Proofs

theorem or_low (v x : Nat) (hx : x < 256) : v * 256 ||| x = x + 256 * v := by
  rw [Nat.or_comm]
  exact or_add 8 hx v
/-- The anchor that a sector says. -/
def anchorOf (s : List UInt8) : Option (Nat × List UInt8) :=
  match openS s with
  | none => none
  | some body => if body.length < 8 ∨ leVal (body.take 8) = 0 ∨ 9223372036854775807 < leVal (body.take 8) then none else some (leVal (body.take 8), body.drop 8)
def anchorV (s : List UInt8) (b : Nat) : Value :=
  match anchorOf s with
  | none => .agg #[.int .i64 0, .slice none 0 0]
  | some (n, d) => .agg #[.int .i64 n, .slice (some ⟨b, if d.length = 0 then 7 else 15, none⟩) d.length d.length]
theorem openS_length {s body : List UInt8} (hs : s.length = 512) (h : openS s = some body) : body.length ≤ 504 ∧ body = (s.drop 7).take body.length := by
  unfold openS at h
  split at h
  · cases h
  · rename_i hn
    have e := Option.some.inj h
    have hl : body.length = bodyLen s := by rw [← e, List.length_take, List.length_drop, hs]; omega
    exact ⟨by omega, by rw [hl, e]⟩

theorem sread_w (w : World) (g c : Nat) (T1 : TypeId) (s : List UInt8) (hg : Blk w g (bytesT T1 s)) (hs : s.length = 512) :
    Calls Tryz.prog 218 #[.slice (some ⟨g, 0, none⟩) 512 c] w fun e w' =>
      ∃ b, w.heap.size ≤ b ∧ Blk w' b (bytesT 238 s) ∧ Keeps (fun _ => False) w w' ∧ e = .returned (anchorV s b) := by
  have hO := fun w h => open_w w g c T1 s h hs
  have hlen := fun body h => openS_length (body := body) hs h
  replace hg := hid hg; replace hO := hid hO; replace hlen := hid hlen
  go_enter Tryz.func218, Tryz.ntmps218
  go_wp2_with fail
  have hg1 := hg.out.alloc (.cells #[.int .i64 0, .slice none 0 0] 258 (0, 0))
  have hr1 := Blk.new w (.cells #[.int .i64 0, .slice none 0 0] 258 (0, 0))
  have hk1 := (Keeps.refl (fun _ => False) w).alloc (.cells #[.int .i64 0, .slice none 0 0] 258 (0, 0))
  refine (hO.out _ hg1).mono ?_
  rintro e w2 ⟨b, hb, hb2, k2, rfl⟩
  have hr2 := k2.blk hr1 (fun f => f)
  have hk2 := hk1.step k2
  rw [World.size_alloc] at hb
  have hne : w.heap.size ≠ b := by omega
  have hge : w.heap.size ≤ b := by omega
  clear hg1 hr1 hk1 k2 hb
  have r0 := hr2.cell 0
  have r1 := hr2.cell 1
  have rf := hr2.frz
  simp at r0 r1
  have e0 : ∀ v1 v2, Blk ((w2.setCell ⟨w.heap.size, 0, none⟩ v1).setCell ⟨w.heap.size, 1, none⟩ v2) w.heap.size (.cells #[v1, v2] 258 (0, 0)) := fun v1 v2 => by
    have := (hr2.setCell 0 v1).setCell 1 v2
    simpa using this
  have eb : ∀ v1 v2, Blk ((w2.setCell ⟨w.heap.size, 0, none⟩ v1).setCell ⟨w.heap.size, 1, none⟩ v2) b (bytesT 238 s) := fun v1 v2 => (hb2.setCell_ne (p := ⟨w.heap.size, 0, none⟩) (Ne.symm hne) v1).setCell_ne (p := ⟨w.heap.size, 1, none⟩) (Ne.symm hne) v2
  have ek : ∀ v1 v2, Keeps (fun _ => False) w ((w2.setCell ⟨w.heap.size, 0, none⟩ v1).setCell ⟨w.heap.size, 1, none⟩ v2) := fun v1 v2 => (hk2.setCell (p := ⟨w.heap.size, 0, none⟩) (.inr (Nat.le_refl _)) v1).setCell (p := ⟨w.heap.size, 1, none⟩) (.inr (Nat.le_refl _)) v2
  have hA : anchorV s b = (match anchorOf s with
    | none => .agg #[.int .i64 0, .slice none 0 0]
    | some (n, d) => .agg #[.int .i64 n, .slice (some ⟨b, if d.length = 0 then 7 else 15, none⟩) d.length d.length]) := rfl
  unfold anchorOf at hA
  unfold openV
  cases hopen : openS s with
  | none =>
    rw [hopen] at hA
    dsimp only at hA ⊢
    replace hb2 := hid hb2; replace hr2 := hid hr2; replace hk2 := hid hk2; replace hA := hid hA; replace e0 := hid e0; replace eb := hid eb; replace ek := hid ek; replace hge := hid hge; replace hne := hid hne; replace hopen := hid hopen
    go_wp2
    have f0 := (e0.out (.int .i64 0) (.slice none 0 0)).cell 0
    have f1 := (e0.out (.int .i64 0) (.slice none 0 0)).cell 1
    simp at f0 f1
    exact bodyPost_ret (v := .agg #[.int .i64 0, .slice none 0 0]) (by simp [results, Tryz.results218, go_sem, f0, f1]) rfl ⟨b, hge.out, eb.out _ _, ek.out _ _, by rw [hA.out]⟩
  | some body =>
    rw [hopen] at hA
    obtain ⟨hl1, hl2⟩ := hlen.out body hopen
    dsimp only at hA ⊢
    by_cases h8 : body.length < 8
    · rw [if_pos (.inl h8)] at hA
      have h8' : (body.length : Int) < 8 := by omega
      generalize (if body.length = 0 then 0 else 7) = off0
      replace hb2 := hid hb2; replace hr2 := hid hr2; replace hk2 := hid hk2; replace hA := hid hA; replace e0 := hid e0; replace eb := hid eb; replace ek := hid ek; replace hge := hid hge; replace hne := hid hne; replace hopen := hid hopen; replace hl2 := hid hl2; replace h8 := hid h8
      go_wp2
      have f0 := (e0.out (.int .i64 0) (.slice none 0 0)).cell 0
      have f1 := (e0.out (.int .i64 0) (.slice none 0 0)).cell 1
      simp at f0 f1
      exact bodyPost_ret (v := .agg #[.int .i64 0, .slice none 0 0]) (by simp [results, Tryz.results218, go_sem, f0, f1]) rfl ⟨b, hge.out, eb.out _ _, ek.out _ _, by rw [hA.out]⟩
    · have h8' : ¬ (body.length : Int) < 8 := by omega
      rw [if_neg (show ¬ body.length = 0 by omega)]
      replace hb2 := hid hb2; replace hr2 := hid hr2; replace hk2 := hid hk2; replace hA := hid hA; replace e0 := hid e0; replace eb := hid eb; replace ek := hid ek; replace hge := hid hge; replace hne := hid hne; replace hopen := hid hopen; replace hl2 := hid hl2; replace h8 := hid h8
      have hS : (body.take 8).length = 8 := by rw [List.length_take]; omega
      have hcell : ∀ m (hm : m < 8), w2.cell? ⟨b, 7 + m, none⟩ = some (.int .u8 (((body.take 8).getD m 0).toNat : Nat)) := fun m hm => by
        have hlm : m < ((s.drop 7).take body.length).length := by rw [← hl2.out]; have := h8.out; omega
        have e1 : (body.take 8).getD m 0 = s[7 + m]'(by rw [hs]; omega) := by
          rw [List.getD_eq_getElem?_getD, List.getElem?_eq_getElem (by omega), Option.getD_some, List.getElem_take]
          rw [List.getElem_of_eq hl2.out (by have := h8.out; omega), List.getElem_take, List.getElem_drop]
        rw [e1]
        exact bytesT_cell hb2.out (7 + m) (by rw [hs]; omega)
      generalize body.take 8 = S at hS hcell hA
      replace hS := hid hS; replace hcell := hid hcell
      go_wp2
      go_loop [5, 6] (fun v i => ∃ j : Nat, j ≤ 8 ∧ i = .int .i64 ((j : Int) - 1) ∧ v = .int .u64 (leVal (S.drop j) : Nat)) (fun _ i => (intOf i + 1).toNat)
      case atStart => exact ⟨8, by omega, rfl, by rw [List.drop_of_length_le (by rw [hS.out]; omega)]; rfl⟩
      case round =>
        obtain ⟨j, hj, rfl, rfl⟩ := hrel
        cases j with
        | zero =>
          rw [List.drop_zero]
          have hq64 : leVal S < 18446744073709551616 := by have := leVal_lt S; rw [hS.out] at this; exact this
          generalize leVal S = q at hA hq64 ⊢
          by_cases hz : q = 0
          · subst hz
            rw [if_pos (.inr (.inl rfl))] at hA
            replace hA := hid hA
            go_wp2
            have f0 := (e0.out (.int .i64 0) (.slice none 0 0)).cell 0
            have f1 := (e0.out (.int .i64 0) (.slice none 0 0)).cell 1
            simp at f0 f1
            exact bodyPost_ret (v := .agg #[.int .i64 0, .slice none 0 0]) (by simp [results, Tryz.results218, go_sem, f0, f1]) rfl ⟨b, hge.out, eb.out _ _, ek.out _ _, by rw [hA.out]⟩
          · by_cases hz2 : 9223372036854775807 < q
            · rw [if_pos (.inr (.inr hz2))] at hA
              have hq1 : ¬ (q : Int) = 0 := by omega
              have hq2 : (9223372036854775807 : Int) < (q : Int) := by omega
              replace hA := hid hA; replace hz := hid hz; replace hz2 := hid hz2
              go_wp2
              have f0 := (e0.out (.int .i64 0) (.slice none 0 0)).cell 0
              have f1 := (e0.out (.int .i64 0) (.slice none 0 0)).cell 1
              simp at f0 f1
              exact bodyPost_ret (v := .agg #[.int .i64 0, .slice none 0 0]) (by simp [results, Tryz.results218, go_sem, f0, f1]) rfl ⟨b, hge.out, eb.out _ _, ek.out _ _, by rw [hA.out]⟩
            · rw [if_neg (by rintro (e | e | e); exact h8.out e; exact hz e; exact hz2 e)] at hA
              have hq1 : ¬ (q : Int) = 0 := by omega
              have hq2 : ¬ (9223372036854775807 : Int) < (q : Int) := by omega
              have hdl : (body.drop 8).length = body.length - 8 := by rw [List.length_drop]
              dsimp only at hA
              rw [hdl] at hA
              have hw := wrap64_small (n := (q : Int)) (by omega) (by omega)
              have h8n := h8.out
              by_cases hL8 : body.length = 8
              · rw [hL8, if_pos (Nat.sub_self 8), Nat.sub_self] at hA
                rw [hL8]
                replace hA := hid hA; replace hz := hid hz; replace hz2 := hid hz2; replace hL8 := hid hL8; replace h8n := hid h8n
                go_wp2
                have f0 := (e0.out (.int .i64 q) (.slice (some ⟨b, 7, none⟩) 0 0)).cell 0
                have f1 := (e0.out (.int .i64 q) (.slice (some ⟨b, 7, none⟩) 0 0)).cell 1
                simp at f0 f1
                exact bodyPost_ret (v := .agg #[.int .i64 q, .slice (some ⟨b, 7, none⟩) 0 0]) (by simp [results, Tryz.results218, go_sem, f0, f1]) rfl ⟨b, hge.out, eb.out _ _, ek.out _ _, by rw [hA.out]⟩
              · rw [if_neg (by omega)] at hA
                generalize hL : body.length - 8 = L at hA
                generalize body.length = N at *
                obtain rfl : N = L + 8 := by omega
                have hL0 : L ≠ 0 := by omega
                replace hA := hid hA; replace hz := hid hz; replace hz2 := hid hz2; replace hL8 := hid hL8; replace h8n := hid h8n; replace hL := hid hL
                go_wp2
                have f0 := (e0.out (.int .i64 q) (.slice (some ⟨b, 15, none⟩) L L)).cell 0
                have f1 := (e0.out (.int .i64 q) (.slice (some ⟨b, 15, none⟩) L L)).cell 1
                simp at f0 f1
                exact bodyPost_ret (v := .agg #[.int .i64 q, .slice (some ⟨b, 15, none⟩) L L]) (by simp [results, Tryz.results218, go_sem, f0, f1]) rfl ⟨b, hge.out, eb.out _ _, ek.out _ _, by rw [hA.out]⟩
        | succ m =>
          have e1 : ((m + 1 : Nat) : Int) - 1 = (m : Int) := by omega
          rw [e1]
          have hc := hcell.out m (by omega)
          have hv : leVal (S.drop m) = (S.getD m 0).toNat + 256 * leVal (S.drop (m + 1)) := by
            have hm : m < S.length := by rw [hS.out]; omega
            rw [List.drop_eq_getElem_cons hm, List.getD_eq_getElem?_getD, List.getElem?_eq_getElem hm]; rfl
          have hlt := leVal_lt (S.drop (m + 1))
          have hlt2 : leVal (S.drop (m + 1)) < 2 ^ 56 := Nat.lt_of_lt_of_le hlt (Nat.pow_le_pow_right (by decide) (by rw [List.length_drop, hS.out]; omega))
          have hx : (S.getD m 0).toNat < 256 := (S.getD m 0).toNat_lt
          replace hlt2 : leVal (S.drop (m + 1)) < 72057594037927936 := hlt2
          clear hlt e1
          generalize (S.getD m 0).toNat = x at hc hv hx
          generalize hv2 : leVal (S.drop (m + 1)) = v at hv hlt2 ⊢
          have hor : bits .or .u64 ((v : Int) * 256) (x : Int) = (leVal (S.drop m) : Nat) := by
            have := u64_or_nat (v * 256) x (by omega) (by omega)
            have hm : ((v * 256 : Nat) : Int) = (v : Int) * 256 := by omega
            rw [or_low v x (by omega), hm] at this
            rw [hv]
            exact this
          generalize hv3 : leVal (S.drop m) = v3 at hor
          replace hv := hid hv; replace hv2 := hid hv2; replace hv3 := hid hv3
          go_wp2
          exact ⟨⟨m, by omega, rfl, by rw [hv3.out]⟩, by simp [intOf]⟩
end Go.Vk

namespace Go.Vk
open Go.RowKit Go.Proofs

theorem set_cells {w : World} {b : Nat} {T : TypeId} {cur : List Value} (h : Blk w b (.cells cur.toArray T (0, 0))) (vs : List Value) (hl : vs.length = cur.length) :
    Blk (w.setCells b 0 vs) b (.cells vs.toArray T (0, 0)) ∧ Keeps (· = b) w (w.setCells b 0 vs) := by
  have := blk_setCells b T vs 0 w cur h (by omega)
  rw [layV_all hl] at this
  exact ⟨this.1, this.2.1⟩

/-- The number that a sector says as an anchor; 0: it is none. -/
def anchorN (s : List UInt8) : Nat := match anchorOf s with | none => 0 | some (n, _) => n
def anchorData (s : List UInt8) : List UInt8 := match anchorOf s with | none => [] | some (_, d) => d
def anchorD (s : List UInt8) (b : Nat) : Value := match anchorOf s with
  | none => .slice none 0 0
  | some (_, d) => .slice (some ⟨b, if d.length = 0 then 7 else 15, none⟩) d.length d.length
theorem anchorV_eq (s : List UInt8) (b : Nat) : anchorV s b = .agg #[.int .i64 (anchorN s), anchorD s b] := by
  unfold anchorV anchorN anchorD
  cases anchorOf s with
  | none => rfl
  | some x => rfl
theorem anchorD_slice (s : List UInt8) (b : Nat) : ∃ a, anchorD s b = .slice a (anchorData s).length (anchorData s).length := by
  unfold anchorD anchorData
  cases anchorOf s with
  | none => exact ⟨_, rfl⟩
  | some x => exact ⟨_, rfl⟩
theorem anchorN_lt (s : List UInt8) : anchorN s ≤ 9223372036854775807 := by
  unfold anchorN anchorOf
  cases openS s with
  | none => simp
  | some body =>
    dsimp only
    split
    · rename_i h
      split at h
      · simp
      · simp at h
    · rename_i n d h
      split at h
      · simp at h
      · rename_i hn
        have := (Prod.mk.inj (Option.some.inj h)).1
        omega
/-- The slot of the newest of a pair; -1: there is none. -/
def slotOf (n0 n1 : Nat) : Int := if n0 = 0 ∧ n1 = 0 then -1 else if n0 < n1 then 1 else 0

def PairS (w : World) (rb b1 b2 : Nat) (s1 s2 : List UInt8) (vs : List Value) (W : World) : Prop :=
  Blk W rb (.cells vs.toArray 259 (0, 0)) ∧ Keeps (fun _ => False) w W ∧ Blk W b1 (bytesT 238 s1) ∧ Blk W b2 (bytesT 238 s2)
theorem PairS.set {w W : World} {rb b1 b2 : Nat} {s1 s2 : List UInt8} {cur : List Value} (h : PairS w rb b1 b2 s1 s2 cur W) (vs : List Value) (hl : vs.length = cur.length) (hr : w.heap.size ≤ rb) (h1 : b1 ≠ rb) (h2 : b2 ≠ rb) : PairS w rb b1 b2 s1 s2 vs (W.setCells rb 0 vs) :=
  ⟨(set_cells h.1 vs hl).1, h.2.1.fresh (set_cells h.1 vs hl).2 (by intro i hi; omega), (set_cells h.1 vs hl).2.blk h.2.2.1 h1, (set_cells h.1 vs hl).2.blk h.2.2.2 h2⟩

def PairPost (w : World) (s1 s2 : List UInt8) (e : Ending) (w' : World) : Prop :=
  ∃ b1 b2, w.heap.size ≤ b1 ∧ w.heap.size ≤ b2 ∧ Blk w' b1 (bytesT 238 s1) ∧ Blk w' b2 (bytesT 238 s2) ∧ Keeps (fun _ => False) w w' ∧
    e = .returned (.tuple #[.agg #[.int .i64 (anchorN s1), anchorD s1 b1, .int .i64 (anchorN s2), anchorD s2 b2], .int .i64 (slotOf (anchorN s1) (anchorN s2)), .int .i64 0])

theorem pair_w (w : World) (g1 c1 : Nat) (T1 : TypeId) (s1 : List UInt8) (h1 : Blk w g1 (bytesT T1 s1)) (hs1 : s1.length = 512)
    (g2 c2 : Nat) (T2 : TypeId) (s2 : List UInt8) (h2 : Blk w g2 (bytesT T2 s2)) (hs2 : s2.length = 512) :
    Calls Tryz.prog 207 #[.slice (some ⟨g1, 0, none⟩) 512 c1, .slice (some ⟨g2, 0, none⟩) 512 c2] w (PairPost w s1 s2) := by
  have hR1 := fun w h => sread_w w g1 c1 T1 s1 h hs1
  have hR2 := fun w h => sread_w w g2 c2 T2 s2 h hs2
  have hD1 := anchorD_slice s1
  have hD2 := anchorD_slice s2
  have hn1 := anchorN_lt s1
  have hn2 := anchorN_lt s2
  have hP : ∀ b1 b2 W, w.heap.size ≤ b1 → w.heap.size ≤ b2 → Blk W b1 (bytesT 238 s1) → Blk W b2 (bytesT 238 s2) → Keeps (fun _ => False) w W → 
      PairPost w s1 s2 (.returned (.tuple #[.agg #[.int .i64 (anchorN s1), anchorD s1 b1, .int .i64 (anchorN s2), anchorD s2 b2], .int .i64 (slotOf (anchorN s1) (anchorN s2)), .int .i64 0])) W :=
    fun b1 b2 W x1 x2 x3 x4 x5 => ⟨b1, b2, x1, x2, x3, x4, x5, rfl⟩
  generalize PairPost w s1 s2 = Post at hP ⊢
  simp only [anchorV_eq] at hR1 hR2
  generalize anchorN s1 = n1 at *
  generalize anchorN s2 = n2 at *
  replace h1 := hid h1; replace h2 := hid h2; replace hR1 := hid hR1; replace hR2 := hid hR2; replace hD1 := hid hD1; replace hD2 := hid hD2; replace hP := hid hP
  go_enter Tryz.func207, Tryz.ntmps207
  go_wp2_with fail
  have h1a := h1.out.alloc (.cells #[.int .i64 0, .slice none 0 0, .int .i64 0, .slice none 0 0] 259 (0, 0))
  have h2a := h2.out.alloc (.cells #[.int .i64 0, .slice none 0 0, .int .i64 0, .slice none 0 0] 259 (0, 0))
  have hra := Blk.new w (.cells #[.int .i64 0, .slice none 0 0, .int .i64 0, .slice none 0 0] 259 (0, 0))
  have hka := (Keeps.refl (fun _ => False) w).alloc (.cells #[.int .i64 0, .slice none 0 0, .int .i64 0, .slice none 0 0] 259 (0, 0))
  refine (hR1.out _ h1a).mono ?_
  rintro e w2 ⟨b1, hb1, hB1, k2, rfl⟩
  obtain ⟨a1, ha1⟩ := hD1.out b1
  rw [World.size_alloc] at hb1
  have h2b := k2.blk h2a (fun f => f)
  have hrb := k2.blk hra (fun f => f)
  have hkb := hka.step k2
  clear h1a h2a hra hka k2
  replace h2b := hid h2b; replace hrb := hid hrb; replace hkb := hid hkb; replace hB1 := hid hB1; replace ha1 := hid ha1; replace hb1 := hid hb1
  go_wp2_with fail
  refine (hR2.out _ h2b.out).mono ?_
  rintro e w3 ⟨b2, hb2, hB2, k3, rfl⟩
  obtain ⟨a2, ha2⟩ := hD2.out b2
  have hrc := k3.blk hrb.out (fun f => f)
  have hkc := hkb.out.step k3
  have hBc := k3.blk hB1.out (fun f => f)
  have hz2 := hrb.out.lt
  rw [ha1.out, ha2]
  replace hb2 : w.heap.size < b2 := by omega
  clear k3 h2b hrb hkb hB1 hz2
  clear w2
  have r0 := hrc.cell 0
  have r1 := hrc.cell 1
  have r2 := hrc.cell 2
  have r3 := hrc.cell 3
  have rf := hrc.frz
  simp at r0 r1 r2 r3
  have hb1' : b1 ≠ w.heap.size := by have := hb1.out; omega
  have hb2' : b2 ≠ w.heap.size := by omega
  have hge1 : w.heap.size ≤ b1 := by have := hb1.out; omega
  have hge2 : w.heap.size ≤ b2 := by omega
  have hS := PairS.set (cur := [.int .i64 0, .slice none 0 0, .int .i64 0, .slice none 0 0]) ⟨hrc, hkc, hBc, hB2⟩ [.int .i64 n1, .slice a1 (anchorData s1).length (anchorData s1).length, .int .i64 n2, .slice a2 (anchorData s2).length (anchorData s2).length] rfl (Nat.le_refl _) hb1' hb2'
  simp only [World.setCells, Nat.zero_add, Nat.reduceAdd] at hS
  replace hrc := hid hrc; replace hkc := hid hkc; replace hBc := hid hBc; replace hB2 := hid hB2; replace ha2 := hid ha2; replace hb2 := hid hb2; replace hS := hid hS; replace hge1 := hid hge1; replace hge2 := hid hge2; replace hb1' := hid hb1'; replace hb2' := hid hb2'
  go_upto_region 4 with fail
  refine wp_gen (PairS w w.heap.size b1 b2 s1 s2 [.int .i64 n1, .slice a1 (anchorData s1).length (anchorData s1).length, .int .i64 n2, .slice a2 (anchorData s2).length (anchorData s2).length]) hS.out ?_
  clear hS hrc hkc hBc hB2 r0 r1 r2 r3 rf
  clear w3
  rintro w4 hd
  have hS := hd.set [.int .i64 n1, .slice a1 (anchorData s1).length (anchorData s1).length, .int .i64 n2, .slice a2 (anchorData s2).length (anchorData s2).length] rfl (Nat.le_refl _) hb1'.out hb2'.out
  simp only [World.setCells, Nat.zero_add, Nat.reduceAdd] at hS
  obtain ⟨hrd, hkd, hBd, hB2d⟩ := hd
  have r0 := hrd.cell 0
  have r1 := hrd.cell 1
  have r2 := hrd.cell 2
  have r3 := hrd.cell 3
  have rf := hrd.frz
  simp at r0 r1 r2 r3
  have hfin : ∀ (W : World) (sl : Int), sl = slotOf n1 n2 → PairS w w.heap.size b1 b2 s1 s2 [.int .i64 n1, .slice a1 (anchorData s1).length (anchorData s1).length, .int .i64 n2, .slice a2 (anchorData s2).length (anchorData s2).length] W →
      Post (.returned (.tuple #[.agg #[.int .i64 n1, .slice a1 (anchorData s1).length (anchorData s1).length, .int .i64 n2, .slice a2 (anchorData s2).length (anchorData s2).length], .int .i64 sl, .int .i64 0])) W := by
    rintro W sl rfl ⟨x1, x2, x3, x4⟩
    have := hP.out b1 b2 W hge1.out hge2.out x3 x4 x2
    rwa [ha1.out, ha2.out] at this
  replace hrd := hid hrd; replace hkd := hid hkd; replace hBd := hid hBd; replace hB2d := hid hB2d; replace hS := hid hS; replace hfin := hid hfin
  have hs1' : n1 = 0 → n2 = 0 → (-1 : Int) = slotOf n1 n2 := fun a b => by unfold slotOf; rw [if_pos ⟨a, b⟩]
  have hs2' : ¬ (n1 = 0 ∧ n2 = 0) → n1 < n2 → (1 : Int) = slotOf n1 n2 := fun a b => by unfold slotOf; rw [if_neg a, if_pos b]
  have hs3' : ¬ (n1 = 0 ∧ n2 = 0) → ¬ n1 < n2 → (0 : Int) = slotOf n1 n2 := fun a b => by unfold slotOf; rw [if_neg a, if_neg b]
  clear hR1 hR2
  replace hs1' := hid hs1'; replace hs2' := hid hs2'; replace hs3' := hid hs3'; replace hn1 := hid hn1; replace hn2 := hid hn2
  by_cases hz1 : n1 = 0
  · have q1 : ((n1 : Int) == 0) = true := by simp; omega
    by_cases hz2 : n2 = 0
    · have q2 : ((n2 : Int) == 0) = true := by simp; omega
      replace hz1 := hid hz1; replace hz2 := hid hz2
      go_wp2
      have hx := hS.out.1
      have f0 := hx.cell 0
      have f1 := hx.cell 1
      have f2 := hx.cell 2
      have f3 := hx.cell 3
      simp at f0 f1 f2 f3
      clear hx
      exact bodyPost_ret (v := .tuple #[.agg #[.int .i64 n1, .slice a1 (anchorData s1).length (anchorData s1).length, .int .i64 n2, .slice a2 (anchorData s2).length (anchorData s2).length], .int .i64 (-1), .int .i64 0]) (by simp [results, Tryz.results207, go_sem, f0, f1, f2, f3]) rfl (hfin.out _ _ (hs1'.out hz1.out hz2.out) hS.out)
    · have q2 : ¬ (n2 : Int) = 0 := by omega
      have q3 : (n1 : Int) < (n2 : Int) := by omega
      replace hz1 := hid hz1; replace hz2 := hid hz2
      go_wp2
      have hx := hS.out.1
      have f0 := hx.cell 0
      have f1 := hx.cell 1
      have f2 := hx.cell 2
      have f3 := hx.cell 3
      simp at f0 f1 f2 f3
      clear hx
      exact bodyPost_ret (v := .tuple #[.agg #[.int .i64 n1, .slice a1 (anchorData s1).length (anchorData s1).length, .int .i64 n2, .slice a2 (anchorData s2).length (anchorData s2).length], .int .i64 (1), .int .i64 0]) (by simp [results, Tryz.results207, go_sem, f0, f1, f2, f3]) rfl (hfin.out _ _ (hs2'.out (fun e => hz2.out e.2) (by have := hz1.out; have := hz2.out; omega)) hS.out)
  · have q1 : ¬ (n1 : Int) = 0 := by omega
    by_cases hlt : n1 < n2
    · have q3 : (n1 : Int) < (n2 : Int) := by omega
      replace hz1 := hid hz1; replace hlt := hid hlt
      go_wp2
      have hx := hS.out.1
      have f0 := hx.cell 0
      have f1 := hx.cell 1
      have f2 := hx.cell 2
      have f3 := hx.cell 3
      simp at f0 f1 f2 f3
      clear hx
      exact bodyPost_ret (v := .tuple #[.agg #[.int .i64 n1, .slice a1 (anchorData s1).length (anchorData s1).length, .int .i64 n2, .slice a2 (anchorData s2).length (anchorData s2).length], .int .i64 (1), .int .i64 0]) (by simp [results, Tryz.results207, go_sem, f0, f1, f2, f3]) rfl (hfin.out _ _ (hs2'.out (fun e => hz1.out e.1) hlt.out) hS.out)
    · have q3 : ¬ (n1 : Int) < (n2 : Int) := by omega
      replace hz1 := hid hz1; replace hlt := hid hlt
      go_wp2
      have hx := hS.out.1
      have f0 := hx.cell 0
      have f1 := hx.cell 1
      have f2 := hx.cell 2
      have f3 := hx.cell 3
      simp at f0 f1 f2 f3
      clear hx
      exact bodyPost_ret (v := .tuple #[.agg #[.int .i64 n1, .slice a1 (anchorData s1).length (anchorData s1).length, .int .i64 n2, .slice a2 (anchorData s2).length (anchorData s2).length], .int .i64 (0), .int .i64 0]) (by simp [results, Tryz.results207, go_sem, f0, f1, f2, f3]) rfl (hfin.out _ _ (hs3'.out (fun e => hz1.out e.1) hlt.out) hS.out)
end Go.Vk

namespace Go.Vk
open Go.RowKit Go.Proofs

/-- What Newest tells: of the slot, the number, the data. -/
def newestV (s1 s2 : List UInt8) (b1 b2 : Nat) : Value :=
  if slotOf (anchorN s1) (anchorN s2) < 0 then .tuple #[.int .i64 0, .int .i64 0, .slice none 0 0, .int .i64 30]
  else if slotOf (anchorN s1) (anchorN s2) = 0 then .tuple #[.int .i64 0, .int .i64 (anchorN s1), anchorD s1 b1, .int .i64 0]
  else .tuple #[.int .i64 1, .int .i64 (anchorN s2), anchorD s2 b2, .int .i64 0]
def NewestPost (w : World) (s1 s2 : List UInt8) (e : Ending) (w' : World) : Prop :=
  ∃ b1 b2, w.heap.size ≤ b1 ∧ w.heap.size ≤ b2 ∧ Blk w' b1 (bytesT 238 s1) ∧ Blk w' b2 (bytesT 238 s2) ∧ Keeps (fun _ => False) w w' ∧ e = .returned (newestV s1 s2 b1 b2)
theorem slotOf_cases (n1 n2 : Nat) : slotOf n1 n2 = -1 ∨ slotOf n1 n2 = 0 ∨ slotOf n1 n2 = 1 := by
  unfold slotOf
  split
  · exact .inl rfl
  · split
    · exact .inr (.inr rfl)
    · exact .inr (.inl rfl)

theorem newest_w (w : World) (g1 c1 : Nat) (T1 : TypeId) (s1 : List UInt8) (h1 : Blk w g1 (bytesT T1 s1)) (hs1 : s1.length = 512)
    (g2 c2 : Nat) (T2 : TypeId) (s2 : List UInt8) (h2 : Blk w g2 (bytesT T2 s2)) (hs2 : s2.length = 512) :
    Calls Tryz.prog 184 #[.slice (some ⟨g1, 0, none⟩) 512 c1, .slice (some ⟨g2, 0, none⟩) 512 c2] w (NewestPost w s1 s2) := by
  have hPr := pair_w w g1 c1 T1 s1 h1 hs1 g2 c2 T2 s2 h2 hs2
  have hD1 := anchorD_slice s1
  have hD2 := anchorD_slice s2
  have hP : ∀ b1 b2 W, w.heap.size ≤ b1 → w.heap.size ≤ b2 → Blk W b1 (bytesT 238 s1) → Blk W b2 (bytesT 238 s2) → Keeps (fun _ => False) w W → 
      NewestPost w s1 s2 (.returned (newestV s1 s2 b1 b2)) W :=
    fun b1 b2 W x1 x2 x3 x4 x5 => ⟨b1, b2, x1, x2, x3, x4, x5, rfl⟩
  generalize NewestPost w s1 s2 = Post at hP ⊢
  unfold newestV at hP
  unfold PairPost at hPr
  have hc := slotOf_cases (anchorN s1) (anchorN s2)
  generalize slotOf (anchorN s1) (anchorN s2) = sl at *
  generalize anchorN s1 = n1 at *
  generalize anchorN s2 = n2 at *
  replace h1 := hid h1; replace h2 := hid h2; replace hPr := hid hPr; replace hD1 := hid hD1; replace hD2 := hid hD2; replace hP := hid hP; replace hc := hid hc
  go_enter Tryz.func184, Tryz.ntmps184
  go_wp2_with fail
  refine hPr.out.mono ?_
  rintro e w2 ⟨b1, b2, hb1, hb2, hB1, hB2, k2, rfl⟩
  obtain ⟨a1, ha1⟩ := hD1.out b1
  obtain ⟨a2, ha2⟩ := hD2.out b2
  rw [ha1, ha2]
  generalize (anchorData s1).length = d1 at ha1 hD1 ⊢
  generalize (anchorData s2).length = d2 at ha2 hD2 ⊢
  have hF := fun W x3 x4 x5 => hP.out b1 b2 W hb1 hb2 x3 x4 x5
  rw [ha1, ha2] at hF
  clear hP ha1 ha2 hD1 hD2
  have hB1a := hB1.alloc (.cells #[.int .i64 n1, .slice a1 d1 d1, .int .i64 n2, .slice a2 d2 d2] 259 (0, 0))
  have hB2a := hB2.alloc (.cells #[.int .i64 n1, .slice a1 d1 d1, .int .i64 n2, .slice a2 d2 d2] 259 (0, 0))
  have hra := Blk.new w2 (.cells #[.int .i64 n1, .slice a1 d1 d1, .int .i64 n2, .slice a2 d2 d2] 259 (0, 0))
  have hka := k2.alloc (.cells #[.int .i64 n1, .slice a1 d1 d1, .int .i64 n2, .slice a2 d2 d2] 259 (0, 0))
  clear hPr
  replace hb1 := hid hb1; replace hb2 := hid hb2; replace hB1 := hid hB1; replace hB2 := hid hB2; replace k2 := hid k2; replace hF := hid hF; replace hB1a := hid hB1a; replace hB2a := hid hB2a; replace hka := hid hka
  replace hra := hid hra
  rcases hc.out with rfl | rfl | rfl
  · have hX := hF.out _ hB1a.out hB2a.out hka.out
    simp only [Int.reduceNeg, Int.reduceLT, if_true] at hX
    replace hX := hid hX
    go_wp2
    exact bodyPost_ret (v := .tuple #[.int .i64 0, .int .i64 0, .slice none 0 0, .int .i64 30]) (by simp [results, Tryz.results184, go_sem]) rfl hX.out
  · go_upto_region 6 with fail
    go_quiet (fail)
    have hX := hF.out _ (hB1a.out.drewN nq) (hB2a.out.drewN nq) (hka.out.drewN nq)
    rw [if_neg (by decide), if_pos (by decide)] at hX
    replace hX := hid hX
    go_wp2
    exact bodyPost_ret (v := .tuple #[.int .i64 0, .int .i64 n1, .slice a1 d1 d1, .int .i64 0]) (by simp [results, Tryz.results184, go_sem]) rfl hX.out
  · go_upto_region 6 with fail
    go_quiet (fail)
    have hX := hF.out _ (hB1a.out.drewN nq) (hB2a.out.drewN nq) (hka.out.drewN nq)
    rw [if_neg (by decide), if_neg (by decide)] at hX
    replace hX := hid hX
    go_wp2
    exact bodyPost_ret (v := .tuple #[.int .i64 1, .int .i64 n2, .slice a2 d2 d2, .int .i64 0]) (by simp [results, Tryz.results184, go_sem]) rfl hX.out
end Go.Vk

namespace Go.Vk
open Go.RowKit Go.Proofs

section
variable {P : Program} {w : World} {ops : Array Oper} {rest : List Oper} {o : Oper} {a : Act} {Q : Exit → Act → World → Prop}
/-- Nothing is appended. -/
theorem wpList_appendNil (hgd : o.guard = none) (s x : Operand) (t : TypeId) (ho : o.op = .call { callee := .builtin .append, args := #[s, x], argTypes := #[t, t] })
    (e : TypeId) (i : TypeInfo) (ht : P.underlying t = some (.slice e)) (hi : P.info? e = some i) (base : Option Addr) (n c : Nat) (hle : n ≤ c) (hs : a.eval s = .slice base n c) (hx : a.eval x = .slice none 0 0)
    (h : wpList P ops Q rest (a.put o.dst (.slice base n c)) w) : wpList P ops Q (o :: rest) a w := by
  refine wpList_plain hgd fun K hK => ?_
  have hf := run_firstCells_none (P := P) w i.size 0 0 0
  have hr : (Builtin.append_ #[t, t] o.type #[.slice base n c, .slice none 0 0]).run P w = .ok (.slice base n c) w := by
    cases base <;> simp [Builtin.append_, run_underlying ht, sizeOf, typeInfo, hi, Builtin.lenOf, hle, hf, storeCells]
  unfold Oper.wp execOp
  simp only [ho, resolve, invoke, builtin, Sem.run_bind, Sem.run_pure, Result.andThen_ok, List.map_toArray, List.map_cons, List.map_nil, hs, hx, hr]
  exact hK _ _ h
end

def renewTo (s1 s2 : List UInt8) : Nat := if slotOf (anchorN s1) (anchorN s2) = 0 then 1 else 0
def renewOld (s1 s2 : List UInt8) : List UInt8 := if slotOf (anchorN s1) (anchorN s2) = 0 then s2 else s1
/-- The sector of the pair's next anchor. -/
def renewS (s1 s2 : List UInt8) (no : Nat) : List UInt8 := layB (turnOf ((renewOld s1 s2).getD 0 0) ((renewOld s1 s2).getD 511 0)) (leBytes no 8)
def RenewPost (w : World) (s1 s2 : List UInt8) (no : Nat) (e : Ending) (w' : World) : Prop :=
  ∃ g, w.heap.size ≤ g ∧ Keeps (fun _ => False) w w' ∧
    if no ≤ max (anchorN s1) (anchorN s2) then e = .returned (.tuple #[.int .i64 0, .slice none 0 0, .int .i64 31])
    else e = .returned (.tuple #[.int .i64 (renewTo s1 s2), .slice (some ⟨g, 0, none⟩) 512 512, .int .i64 0]) ∧ Blk w' g (bytesT 238 (renewS s1 s2 no))

theorem renew_w (w : World) (g1 c1 : Nat) (T1 : TypeId) (s1 : List UInt8) (h1 : Blk w g1 (bytesT T1 s1)) (hs1 : s1.length = 512)
    (g2 c2 : Nat) (T2 : TypeId) (s2 : List UInt8) (h2 : Blk w g2 (bytesT T2 s2)) (hs2 : s2.length = 512) (no : Nat) (hn1 : 1 ≤ no) (hn2 : no < 9223372036854775808) :
    Calls Tryz.prog 190 #[.slice (some ⟨g1, 0, none⟩) 512 c1, .slice (some ⟨g2, 0, none⟩) 512 c2, .int .i64 no, .slice none 0 0] w (RenewPost w s1 s2 no) := by
  have hPr := pair_w w g1 c1 T1 s1 h1 hs1 g2 c2 T2 s2 h2 hs2
  have hD1 := anchorD_slice s1
  have hD2 := anchorD_slice s2
  have hPe : ∀ W, Keeps (fun _ => False) w W → no ≤ max (anchorN s1) (anchorN s2) → RenewPost w s1 s2 no (.returned (.tuple #[.int .i64 0, .slice none 0 0, .int .i64 31])) W :=
    fun W x1 x2 => ⟨w.heap.size, Nat.le_refl _, x1, by rw [if_pos x2]⟩
  have hPo : ∀ W g, Keeps (fun _ => False) w W → w.heap.size ≤ g → ¬ no ≤ max (anchorN s1) (anchorN s2) → Blk W g (bytesT 238 (renewS s1 s2 no)) →
      RenewPost w s1 s2 no (.returned (.tuple #[.int .i64 (renewTo s1 s2), .slice (some ⟨g, 0, none⟩) 512 512, .int .i64 0])) W :=
    fun W g x1 x2 x3 x4 => ⟨g, x2, x1, by rw [if_neg x3]; exact ⟨rfl, x4⟩⟩
  generalize RenewPost w s1 s2 no = Post at hPe hPo ⊢
  unfold PairPost at hPr
  have hc : slotOf (anchorN s1) (anchorN s2) = -1 ∧ max (anchorN s1) (anchorN s2) = 0 ∨ slotOf (anchorN s1) (anchorN s2) = 0 ∧ max (anchorN s1) (anchorN s2) = anchorN s1 ∨ slotOf (anchorN s1) (anchorN s2) = 1 ∧ max (anchorN s1) (anchorN s2) = anchorN s2 := by
    unfold slotOf
    split
    · rename_i h; left; exact ⟨rfl, by rw [h.1, h.2]; rfl⟩
    · split
      · rename_i h h'; right; right; exact ⟨rfl, by omega⟩
      · rename_i h h'; right; left; exact ⟨rfl, by omega⟩
  have hRS : ∀ (old : List UInt8), old = renewOld s1 s2 → renewS s1 s2 no = layB (turnOf (old.getD 0 0) (old.getD 511 0)) (leBytes no 8) := fun old h => by rw [h]; rfl
  unfold renewOld renewTo at *
  generalize slotOf (anchorN s1) (anchorN s2) = sl at *
  generalize max (anchorN s1) (anchorN s2) = mx at *
  generalize anchorN s1 = n1 at *
  generalize anchorN s2 = n2 at *
  have hn3 : (1 : Int) ≤ (no : Int) := by omega
  replace h1 := hid h1; replace h2 := hid h2; replace hPr := hid hPr; replace hD1 := hid hD1; replace hD2 := hid hD2; replace hPe := hid hPe; replace hPo := hid hPo; replace hc := hid hc; replace hRS := hid hRS; replace hn1 := hid hn1
  go_enter Tryz.func190, Tryz.ntmps190
  go_wp2_with fail
  refine hPr.out.mono ?_
  rintro e w2 ⟨b1, b2, hb1, hb2, hB1, hB2, k2, rfl⟩
  obtain ⟨a1, ha1⟩ := hD1.out b1
  obtain ⟨a2, ha2⟩ := hD2.out b2
  rw [ha1, ha2]
  generalize (anchorData s1).length = d1 at ha1 hD1 ⊢
  generalize (anchorData s2).length = d2 at ha2 hD2 ⊢
  clear ha1 ha2 hD1 hD2 hb1 hb2 hB1 hB2
  have h1a := k2.blk h1.out (fun f => f)
  have h2a := k2.blk h2.out (fun f => f)
  have h1b := h1a.alloc (.cells #[.int .i64 n1, .slice a1 d1 d1, .int .i64 n2, .slice a2 d2 d2] 259 (0, 0))
  have h2b := h2a.alloc (.cells #[.int .i64 n1, .slice a1 d1 d1, .int .i64 n2, .slice a2 d2 d2] 259 (0, 0))
  have hka := k2.alloc (.cells #[.int .i64 n1, .slice a1 d1 d1, .int .i64 n2, .slice a2 d2 d2] 259 (0, 0))
  clear hPr h1a h2a k2
  replace h1b := hid h1b; replace h2b := hid h2b; replace hka := hid hka
  rcases hc.out with ⟨rfl, hmx⟩ | ⟨rfl, hmx⟩ | ⟨rfl, hmx⟩
  · have hno : ¬ no ≤ mx := by have := hn1.out; omega
    replace hmx := hid hmx; replace hno := hid hno; replace hPo := hid hPo; replace hRS := hid hRS; replace hc := hid hc
    have hmk : ∀ w, (Instr.makeSlice 57 (.int .i64 8) (.int .i64 8)).run Tryz.prog w = .ok (.slice (some ⟨w.heap.size, 0, none⟩) 8 8) (w.alloc (bytesO (zeros 8))) := mkB 8 (by omega)
    have hW : Blk ((w2.alloc (.cells #[.int .i64 n1, .slice a1 d1 d1, .int .i64 n2, .slice a2 d2 d2] 259 (0, 0))).alloc (bytesO (zeros 8))) (w2.heap.size + 1) (bytesO (zeros 8)) := by
      have := Blk.new (w2.alloc (.cells #[.int .i64 n1, .slice a1 d1 d1, .int .i64 n2, .slice a2 d2 d2] 259 (0, 0))) (bytesO (zeros 8))
      rwa [World.size_alloc] at this
    have hgA : g1 ≠ w2.heap.size + 1 := by have := h1b.out.lt; rw [World.size_alloc] at this; omega
    have hgB : g2 ≠ w2.heap.size + 1 := by have := h2b.out.lt; rw [World.size_alloc] at this; omega
    have hge : w.heap.size ≤ w2.heap.size + 1 := by have := hka.out.size; rw [World.size_alloc] at this; exact this
    have h5 := And.intro hW (And.intro (h1b.out.alloc (bytesO (zeros 8))) (And.intro (h2b.out.alloc (bytesO (zeros 8))) (hka.out.alloc (bytesO (zeros 8)))))
    replace h5 := hid h5; replace hgA := hid hgA; replace hgB := hid hgB; replace hge := hid hge
    clear hW h1b h2b hka
    go_upto_region 11 with fail
    refine wp_gen (fun W => Blk W (w2.heap.size + 1) (bytesO (zeros 8)) ∧ Blk W g1 (bytesT T1 s1) ∧ Blk W g2 (bytesT T2 s2) ∧ Keeps (fun _ => False) w W) h5.out ?_
    clear h5
    rintro w5 ⟨hbb, h1c, h2c, hkc⟩
    generalize w2.heap.size + 1 = bb at hbb hgA hgB hge ⊢
    replace hbb := hid hbb; replace h1c := hid h1c; replace h2c := hid h2c; replace hkc := hid hkc
    go_wp2
    go_loopw [15, 54] (fun _ i wr => ∃ k : Nat, k ≤ 8 ∧ i = .int .i64 k ∧ Blk wr bb (bytesO (lay (zeros 8) 0 (leBytes no k))) ∧ Blk wr g1 (bytesT T1 s1) ∧ Blk wr g2 (bytesT T2 s2) ∧ Keeps (fun _ => False) w wr) (fun _ i _ => 8 - (intOf i).toNat)
    case atStart => exact ⟨0, by omega, rfl, by simpa [leBytes, lay] using hbb.out, h1c.out, h2c.out, hkc.out⟩
    case round =>
      obtain ⟨j, hj, rfl, hb7, h17, h27, hk7⟩ := hrel
      clear hbb h1c h2c hkc
      have hl7 : (lay (zeros 8) 0 (leBytes no j)).length = 8 := by rw [length_lay (by rw [length_leBytes, length_zeros]; omega), length_zeros]
      by_cases hlt8 : j < 8
      · have hc7 := bytes_cell hb7 j (by omega)
        have hz := hb7.frz
        replace hb7 := hid hb7; replace h17 := hid h17; replace h27 := hid h27; replace hk7 := hid hk7; replace hl7 := hid hl7
        go_wp2
        have hBj : Value.int .u8 ((no : Int) / 2 ^ (8 * j) % 256) = B (leByte no j) := by
          unfold B
          rw [leByte_toNat]; simp
        rw [hBj]
        have hb8 := hb7.out.setCell j (B (leByte no j))
        rw [bytes_set] at hb8
        have hsn := lay_snoc (bs := zeros 8) (at_ := 0) no j (by rw [length_zeros]; omega)
        rw [Nat.zero_add] at hsn
        rw [← hsn] at hb8
        have h18 := h17.out.setCell_ne (p := ⟨bb, j, none⟩) hgA.out (B (leByte no j))
        have h28 := h27.out.setCell_ne (p := ⟨bb, j, none⟩) hgB.out (B (leByte no j))
        have hk8 := hk7.out.setCell (p := ⟨bb, j, none⟩) (.inr hge.out) (B (leByte no j))
        refine ⟨⟨j + 1, by omega, by go_num, hb8, h18, h28, hk8⟩, ?_⟩
        simp [intOf]; omega
      · obtain rfl : j = 8 := by omega
        rw [lay_all (by rw [length_leBytes, length_zeros])] at hb7
        replace hb7 := hid hb7; replace h17 := hid h17; replace h27 := hid h27; replace hk7 := hid hk7; replace hl7 := hid hl7
        go_upto_region 19 with fail
        go_step
        iterate 3 (refine wpList_exec rfl _ _ (by go_simp; exact ⟨rfl, rfl⟩) ?_; simp only [Act.put, List.setIfInBounds_toArray, List.set_cons_zero, List.set_cons_succ])
        obtain ⟨i5, hi5, -, -, -⟩ := info_parts info5
        refine wpList_appendNil rfl (.tmp 72) (.tmp 73) 57 rfl 5 i5 und22 hi5 (some ⟨bb, 0, none⟩) 8 8 (Nat.le_refl _) rfl rfl ?_
        simp only [Act.put, List.setIfInBounds_toArray, List.set_cons_zero, List.set_cons_succ]
        clear hi5
        clear i5
        have hSe := seal_w _ g1 c1 T1 s1 h17.out hs1 bb 0 8 8 5 (leBytes no 8) hb7.out (by rw [length_leBytes]; decide) (by decide)
        rw [List.drop_zero, List.take_of_length_le (by rw [length_leBytes]; decide), ← hRS.out s1 (by simp)] at hSe
        replace hSe := hid hSe
        go_wp2_with fail
        refine hSe.out.mono ?_
        rintro e w8 ⟨g, hg, rfl, hB8, k8⟩
        have hX := hPo.out w8 g (hk7.out.step k8) (Nat.le_trans hk7.out.size hg) hno.out hB8
        replace hX := hid hX
        go_wp2
        exact bodyPost_ret (v := .tuple #[.int .i64 0, .slice (some ⟨g, 0, none⟩) 512 512, .int .i64 0]) (by simp [results, Tryz.results190, go_sem]) rfl hX.out
  · by_cases hno : no ≤ mx
    · have hX := hPe.out _ hka.out hno
      have hni : (no : Int) ≤ (n1 : Int) := by omega
      replace hX := hid hX; replace hmx := hid hmx; replace hno := hid hno; replace hPo := hid hPo; replace hRS := hid hRS; replace hc := hid hc
      go_wp2
      exact bodyPost_ret (v := .tuple #[.int .i64 0, .slice none 0 0, .int .i64 31]) (by simp [results, Tryz.results190, go_sem]) rfl hX.out
    · have hni : ¬ (no : Int) ≤ (n1 : Int) := by omega
      replace hmx := hid hmx; replace hno := hid hno; replace hPo := hid hPo; replace hRS := hid hRS; replace hc := hid hc
      have hmk : ∀ w, (Instr.makeSlice 57 (.int .i64 8) (.int .i64 8)).run Tryz.prog w = .ok (.slice (some ⟨w.heap.size, 0, none⟩) 8 8) (w.alloc (bytesO (zeros 8))) := mkB 8 (by omega)
      have hW : Blk ((w2.alloc (.cells #[.int .i64 n1, .slice a1 d1 d1, .int .i64 n2, .slice a2 d2 d2] 259 (0, 0))).alloc (bytesO (zeros 8))) (w2.heap.size + 1) (bytesO (zeros 8)) := by
        have := Blk.new (w2.alloc (.cells #[.int .i64 n1, .slice a1 d1 d1, .int .i64 n2, .slice a2 d2 d2] 259 (0, 0))) (bytesO (zeros 8))
        rwa [World.size_alloc] at this
      have hgA : g1 ≠ w2.heap.size + 1 := by have := h1b.out.lt; rw [World.size_alloc] at this; omega
      have hgB : g2 ≠ w2.heap.size + 1 := by have := h2b.out.lt; rw [World.size_alloc] at this; omega
      have hge : w.heap.size ≤ w2.heap.size + 1 := by have := hka.out.size; rw [World.size_alloc] at this; exact this
      have h5 := And.intro hW (And.intro (h1b.out.alloc (bytesO (zeros 8))) (And.intro (h2b.out.alloc (bytesO (zeros 8))) (hka.out.alloc (bytesO (zeros 8)))))
      replace h5 := hid h5; replace hgA := hid hgA; replace hgB := hid hgB; replace hge := hid hge
      clear hW h1b h2b hka
      go_upto_region 11 with fail
      refine wp_gen (fun W => Blk W (w2.heap.size + 1) (bytesO (zeros 8)) ∧ Blk W g1 (bytesT T1 s1) ∧ Blk W g2 (bytesT T2 s2) ∧ Keeps (fun _ => False) w W) h5.out ?_
      clear h5
      rintro w5 ⟨hbb, h1c, h2c, hkc⟩
      generalize w2.heap.size + 1 = bb at hbb hgA hgB hge ⊢
      replace hbb := hid hbb; replace h1c := hid h1c; replace h2c := hid h2c; replace hkc := hid hkc
      go_wp2
      go_loopw [15, 54] (fun _ i wr => ∃ k : Nat, k ≤ 8 ∧ i = .int .i64 k ∧ Blk wr bb (bytesO (lay (zeros 8) 0 (leBytes no k))) ∧ Blk wr g1 (bytesT T1 s1) ∧ Blk wr g2 (bytesT T2 s2) ∧ Keeps (fun _ => False) w wr) (fun _ i _ => 8 - (intOf i).toNat)
      case atStart => exact ⟨0, by omega, rfl, by simpa [leBytes, lay] using hbb.out, h1c.out, h2c.out, hkc.out⟩
      case round =>
        obtain ⟨j, hj, rfl, hb7, h17, h27, hk7⟩ := hrel
        clear hbb h1c h2c hkc
        have hl7 : (lay (zeros 8) 0 (leBytes no j)).length = 8 := by rw [length_lay (by rw [length_leBytes, length_zeros]; omega), length_zeros]
        by_cases hlt8 : j < 8
        · have hc7 := bytes_cell hb7 j (by omega)
          have hz := hb7.frz
          replace hb7 := hid hb7; replace h17 := hid h17; replace h27 := hid h27; replace hk7 := hid hk7; replace hl7 := hid hl7
          go_wp2
          have hBj : Value.int .u8 ((no : Int) / 2 ^ (8 * j) % 256) = B (leByte no j) := by
            unfold B
            rw [leByte_toNat]; simp
          rw [hBj]
          have hb8 := hb7.out.setCell j (B (leByte no j))
          rw [bytes_set] at hb8
          have hsn := lay_snoc (bs := zeros 8) (at_ := 0) no j (by rw [length_zeros]; omega)
          rw [Nat.zero_add] at hsn
          rw [← hsn] at hb8
          have h18 := h17.out.setCell_ne (p := ⟨bb, j, none⟩) hgA.out (B (leByte no j))
          have h28 := h27.out.setCell_ne (p := ⟨bb, j, none⟩) hgB.out (B (leByte no j))
          have hk8 := hk7.out.setCell (p := ⟨bb, j, none⟩) (.inr hge.out) (B (leByte no j))
          refine ⟨⟨j + 1, by omega, by go_num, hb8, h18, h28, hk8⟩, ?_⟩
          simp [intOf]; omega
        · obtain rfl : j = 8 := by omega
          rw [lay_all (by rw [length_leBytes, length_zeros])] at hb7
          replace hb7 := hid hb7; replace h17 := hid h17; replace h27 := hid h27; replace hk7 := hid hk7; replace hl7 := hid hl7
          go_upto_region 19 with fail
          go_step
          iterate 3 (refine wpList_exec rfl _ _ (by go_simp; exact ⟨rfl, rfl⟩) ?_; simp only [Act.put, List.setIfInBounds_toArray, List.set_cons_zero, List.set_cons_succ])
          obtain ⟨i5, hi5, -, -, -⟩ := info_parts info5
          refine wpList_appendNil rfl (.tmp 72) (.tmp 73) 57 rfl 5 i5 und22 hi5 (some ⟨bb, 0, none⟩) 8 8 (Nat.le_refl _) rfl rfl ?_
          simp only [Act.put, List.setIfInBounds_toArray, List.set_cons_zero, List.set_cons_succ]
          clear hi5
          clear i5
          have hSe := seal_w _ g2 c2 T2 s2 h27.out hs2 bb 0 8 8 5 (leBytes no 8) hb7.out (by rw [length_leBytes]; decide) (by decide)
          rw [List.drop_zero, List.take_of_length_le (by rw [length_leBytes]; decide), ← hRS.out s2 (by simp)] at hSe
          replace hSe := hid hSe
          go_wp2_with fail
          refine hSe.out.mono ?_
          rintro e w8 ⟨g, hg, rfl, hB8, k8⟩
          have hX := hPo.out w8 g (hk7.out.step k8) (Nat.le_trans hk7.out.size hg) hno.out hB8
          replace hX := hid hX
          go_wp2
          exact bodyPost_ret (v := .tuple #[.int .i64 1, .slice (some ⟨g, 0, none⟩) 512 512, .int .i64 0]) (by simp [results, Tryz.results190, go_sem]) rfl hX.out
  · by_cases hno : no ≤ mx
    · have hX := hPe.out _ hka.out hno
      have hni : (no : Int) ≤ (n2 : Int) := by omega
      replace hX := hid hX; replace hmx := hid hmx; replace hno := hid hno; replace hPo := hid hPo; replace hRS := hid hRS; replace hc := hid hc
      go_wp2
      exact bodyPost_ret (v := .tuple #[.int .i64 0, .slice none 0 0, .int .i64 31]) (by simp [results, Tryz.results190, go_sem]) rfl hX.out
    · have hni : ¬ (no : Int) ≤ (n2 : Int) := by omega
      replace hmx := hid hmx; replace hno := hid hno; replace hPo := hid hPo; replace hRS := hid hRS; replace hc := hid hc
      have hmk : ∀ w, (Instr.makeSlice 57 (.int .i64 8) (.int .i64 8)).run Tryz.prog w = .ok (.slice (some ⟨w.heap.size, 0, none⟩) 8 8) (w.alloc (bytesO (zeros 8))) := mkB 8 (by omega)
      have hW : Blk ((w2.alloc (.cells #[.int .i64 n1, .slice a1 d1 d1, .int .i64 n2, .slice a2 d2 d2] 259 (0, 0))).alloc (bytesO (zeros 8))) (w2.heap.size + 1) (bytesO (zeros 8)) := by
        have := Blk.new (w2.alloc (.cells #[.int .i64 n1, .slice a1 d1 d1, .int .i64 n2, .slice a2 d2 d2] 259 (0, 0))) (bytesO (zeros 8))
        rwa [World.size_alloc] at this
      have hgA : g1 ≠ w2.heap.size + 1 := by have := h1b.out.lt; rw [World.size_alloc] at this; omega
      have hgB : g2 ≠ w2.heap.size + 1 := by have := h2b.out.lt; rw [World.size_alloc] at this; omega
      have hge : w.heap.size ≤ w2.heap.size + 1 := by have := hka.out.size; rw [World.size_alloc] at this; exact this
      have h5 := And.intro hW (And.intro (h1b.out.alloc (bytesO (zeros 8))) (And.intro (h2b.out.alloc (bytesO (zeros 8))) (hka.out.alloc (bytesO (zeros 8)))))
      replace h5 := hid h5; replace hgA := hid hgA; replace hgB := hid hgB; replace hge := hid hge
      clear hW h1b h2b hka
      go_upto_region 11 with fail
      refine wp_gen (fun W => Blk W (w2.heap.size + 1) (bytesO (zeros 8)) ∧ Blk W g1 (bytesT T1 s1) ∧ Blk W g2 (bytesT T2 s2) ∧ Keeps (fun _ => False) w W) h5.out ?_
      clear h5
      rintro w5 ⟨hbb, h1c, h2c, hkc⟩
      generalize w2.heap.size + 1 = bb at hbb hgA hgB hge ⊢
      replace hbb := hid hbb; replace h1c := hid h1c; replace h2c := hid h2c; replace hkc := hid hkc
      go_wp2
      go_loopw [15, 54] (fun _ i wr => ∃ k : Nat, k ≤ 8 ∧ i = .int .i64 k ∧ Blk wr bb (bytesO (lay (zeros 8) 0 (leBytes no k))) ∧ Blk wr g1 (bytesT T1 s1) ∧ Blk wr g2 (bytesT T2 s2) ∧ Keeps (fun _ => False) w wr) (fun _ i _ => 8 - (intOf i).toNat)
      case atStart => exact ⟨0, by omega, rfl, by simpa [leBytes, lay] using hbb.out, h1c.out, h2c.out, hkc.out⟩
      case round =>
        obtain ⟨j, hj, rfl, hb7, h17, h27, hk7⟩ := hrel
        clear hbb h1c h2c hkc
        have hl7 : (lay (zeros 8) 0 (leBytes no j)).length = 8 := by rw [length_lay (by rw [length_leBytes, length_zeros]; omega), length_zeros]
        by_cases hlt8 : j < 8
        · have hc7 := bytes_cell hb7 j (by omega)
          have hz := hb7.frz
          replace hb7 := hid hb7; replace h17 := hid h17; replace h27 := hid h27; replace hk7 := hid hk7; replace hl7 := hid hl7
          go_wp2
          have hBj : Value.int .u8 ((no : Int) / 2 ^ (8 * j) % 256) = B (leByte no j) := by
            unfold B
            rw [leByte_toNat]; simp
          rw [hBj]
          have hb8 := hb7.out.setCell j (B (leByte no j))
          rw [bytes_set] at hb8
          have hsn := lay_snoc (bs := zeros 8) (at_ := 0) no j (by rw [length_zeros]; omega)
          rw [Nat.zero_add] at hsn
          rw [← hsn] at hb8
          have h18 := h17.out.setCell_ne (p := ⟨bb, j, none⟩) hgA.out (B (leByte no j))
          have h28 := h27.out.setCell_ne (p := ⟨bb, j, none⟩) hgB.out (B (leByte no j))
          have hk8 := hk7.out.setCell (p := ⟨bb, j, none⟩) (.inr hge.out) (B (leByte no j))
          refine ⟨⟨j + 1, by omega, by go_num, hb8, h18, h28, hk8⟩, ?_⟩
          simp [intOf]; omega
        · obtain rfl : j = 8 := by omega
          rw [lay_all (by rw [length_leBytes, length_zeros])] at hb7
          replace hb7 := hid hb7; replace h17 := hid h17; replace h27 := hid h27; replace hk7 := hid hk7; replace hl7 := hid hl7
          go_upto_region 19 with fail
          go_step
          iterate 3 (refine wpList_exec rfl _ _ (by go_simp; exact ⟨rfl, rfl⟩) ?_; simp only [Act.put, List.setIfInBounds_toArray, List.set_cons_zero, List.set_cons_succ])
          obtain ⟨i5, hi5, -, -, -⟩ := info_parts info5
          refine wpList_appendNil rfl (.tmp 72) (.tmp 73) 57 rfl 5 i5 und22 hi5 (some ⟨bb, 0, none⟩) 8 8 (Nat.le_refl _) rfl rfl ?_
          simp only [Act.put, List.setIfInBounds_toArray, List.set_cons_zero, List.set_cons_succ]
          clear hi5
          clear i5
          have hSe := seal_w _ g1 c1 T1 s1 h17.out hs1 bb 0 8 8 5 (leBytes no 8) hb7.out (by rw [length_leBytes]; decide) (by decide)
          rw [List.drop_zero, List.take_of_length_le (by rw [length_leBytes]; decide), ← hRS.out s1 (by simp)] at hSe
          replace hSe := hid hSe
          go_wp2_with fail
          refine hSe.out.mono ?_
          rintro e w8 ⟨g, hg, rfl, hB8, k8⟩
          have hX := hPo.out w8 g (hk7.out.step k8) (Nat.le_trans hk7.out.size hg) hno.out hB8
          replace hX := hid hX
          go_wp2
          exact bodyPost_ret (v := .tuple #[.int .i64 0, .slice (some ⟨g, 0, none⟩) 512 512, .int .i64 0]) (by simp [results, Tryz.results190, go_sem]) rfl hX.out
end Go.Vk
