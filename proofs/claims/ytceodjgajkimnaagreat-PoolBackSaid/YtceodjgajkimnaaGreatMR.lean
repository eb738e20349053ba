/- PoolBack: the walk, of nodes. PoolBack: the walk. The orders of the argument, as the reading of the argument tells them. -/
import Derived.Test.YtceodjgajkimnaaGreatMP
import Derived.Test.YtceodjgajkimnaaGreatMQ
import Derived.Test.YtceodjgajkimnaaGreatMO
import Derived.ChangeSlices
set_option linter.unusedVariables false

namespace Go.Vk
open Go.RowKit Go.Proofs

set_option maxRecDepth 100000 in
set_option maxHeartbeats 4000000 in
theorem poolBack_ts (w : World) (a b c : Int) (va : Value) (acts : List ActR) (hva : ArgActs w va acts) (vo : Value) (os : List Int) (hvo : ArgInts w vo os) (hsm : acts.length ≤ 200) : Calls Tryz.prog 5 #[.agg #[.int .i64 a, .int .i64 b, .int .i64 c], va, vo, .bool true] w fun e w' => e = .returned (.bool true) ∧ Keeps (fun _ => False) w w' := by
  have hS := fun w => lsuper_w w a b c
  have hF := fun w => fresh_w w a b c
  have hkA : Keeps (fun _ => False) w (w.alloc (.cells #[.int .i64 a, .int .i64 b, .int .i64 c] 23 (0, 0))) := (Keeps.refl _ w).alloc _
  have hg4 := gLog_b b
  have hg5 := gSecs_b a b c
  unfold gLeast at hg5
  obtain ⟨aA, cA, rfl, hcA⟩ := hva
  obtain ⟨n, hn⟩ : ∃ n, acts.length = n := ⟨_, rfl⟩
  rw [hn] at hsm ⊢
  obtain ⟨aO, cO, rfl, hcO⟩ := hvo
  obtain ⟨N, hN⟩ : ∃ n, os.length = n := ⟨_, rfl⟩
  rw [hN]
  replace hS := hid hS; replace hF := hid hF; replace hkA := hid hkA; replace hg4 := hid hg4; replace hg5 := hid hg5; replace hcA := hid hcA; replace hn := hid hn; replace hcO := hid hcO; replace hN := hid hN
  go_enter Tryz.func5, Tryz.ntmps5
  go_upto_region 4 with (go_at_call 14; refine (hF.out _).mono ?_; rintro e w1 ⟨C, r, p, q, m, X, rfl, g1, g2, g3, hR, hlo, k1⟩; have gA := k1.blk (Blk.new w _) (fun f => f); replace gA := hid gA; replace hR := hid hR; replace hlo := hid hlo; replace k1 := hid (hkA.out.step k1))
  have hsz : ∀ i, X i ∨ KF C i → w.heap.size ≤ i := fun i hi => by have := hlo.out i hi; rw [World.size_alloc] at this; omega
  have a0 := gA.out.cell 0
  have a1 := gA.out.cell 1
  have a2 := gA.out.cell 2
  simp at a0 a1 a2
  have hgeo := hR.out.st.geo
  have hSu : ∀ w, Calls Tryz.prog 16 #[.agg #[.int .i64 a, .int .i64 b, .int .i64 c]] w fun e w' => e = .returned (.agg #[.int .i64 C.G.s, .int .i64 C.G.lg, .int .i64 C.G.n]) ∧ Keeps (fun _ => False) w w' := fun w => by rw [g1, g2, g3]; exact hS.out w
  have hss : 3 + C.G.lg ≤ C.G.s ∧ C.G.s ≤ 4096 := by have := hg5.out; have := hg4.out; rw [g1, g2]; omega
  clear hS g1 g2 g3 hg4 hg5 hF hlo
  replace hsz := hid hsz; replace hgeo := hid hgeo; replace hSu := hid hSu; replace hss := hid hss
  go_upto_region 6 with (go_at_call 16; refine (hSu.out _).mono ?_; rintro e w2 ⟨rfl, k2⟩; replace k2 := hid k2)
  have k22 : Keeps (fun _ => False) w2 ((w2.alloc (.cells #[.int .i64 C.G.s, .int .i64 C.G.lg, .int .i64 C.G.n] 31 (0, 0))).alloc (.cells #[.slice none 0 0, .slice none 0 0] 51 (0, 0))) := ((Keeps.refl _ w2).alloc _).alloc _
  have e9 : ((w2.alloc (.cells #[.int .i64 C.G.s, .int .i64 C.G.lg, .int .i64 C.G.n] 31 (0, 0))).alloc (.cells #[.slice none 0 0, .slice none 0 0] 51 (0, 0))).heap.size = w2.heap.size + 2 := by simp only [World.size_alloc]
  have hR2 := hR.out.quiet k2.out
  have A2 := (Ap.start hR2).grow k22 (fun _ _ f => f.elim) (Y := fun i => (X i ∨ i = w2.heap.size) ∨ i = w2.heap.size + 1) (fun i h => .inl (.inl h)) (fun i h => by
    rcases h with (h | h) | h
    · have := hR2.st.lt i h; exact ⟨by omega, .inl h⟩
    · exact ⟨by omega, .inr (by omega)⟩
    · exact ⟨by omega, .inr (by omega)⟩)
  have b2 : Blk ((w2.alloc (.cells #[.int .i64 C.G.s, .int .i64 C.G.lg, .int .i64 C.G.n] 31 (0, 0))).alloc (.cells #[.slice none 0 0, .slice none 0 0] 51 (0, 0))) w2.heap.size (.cells #[.int .i64 C.G.s, .int .i64 C.G.lg, .int .i64 C.G.n] 31 (0, 0)) := (Blk.new w2 _).alloc _
  have b3 : Blk ((w2.alloc (.cells #[.int .i64 C.G.s, .int .i64 C.G.lg, .int .i64 C.G.n] 31 (0, 0))).alloc (.cells #[.slice none 0 0, .slice none 0 0] 51 (0, 0))) (w2.heap.size + 1) (.cells #[.slice none 0 0, .slice none 0 0] 51 (0, 0)) := by
    have := Blk.new (w2.alloc (.cells #[.int .i64 C.G.s, .int .i64 C.G.lg, .int .i64 C.G.n] 31 (0, 0))) (.cells #[.slice none 0 0, .slice none 0 0] 51 (0, 0))
    simpa only [World.size_alloc] using this
  have hsz2 : w.heap.size ≤ w2.heap.size := (k1.out.step k2.out).size
  have hI : PaInv w C r p q m w2.heap.size (w2.heap.size + 1) (onesB C.G.data) (zeros 512) 0 (fun i => (X i ∨ i = w2.heap.size) ∨ i = w2.heap.size + 1) (.slice none 0 0) (.slice none 0 0) [] [] ((w2.alloc (.cells #[.int .i64 C.G.s, .int .i64 C.G.lg, .int .i64 C.G.n] 31 (0, 0))).alloc (.cells #[.slice none 0 0, .slice none 0 0] 51 (0, 0))) :=
    ⟨A2, .inl (.inr rfl), .inr rfl, b2, b3, k1.out.step (k2.out.step k22), fun i hi => by
      rcases hi with ((hi | hi) | hi) | hi
      · exact hsz.out i (.inl hi)
      · omega
      · omega
      · exact hsz.out i (.inr hi)⟩
  have hne7 : w2.heap.size ≠ w2.heap.size + 1 := by omega
  have hr13 : w2.heap.size + 1 ≠ r ∧ w2.heap.size + 1 ≠ p ∧ w2.heap.size + 1 ≠ q := by
    have h1 := hR2.hr.lt
    have h2 := hR2.hp.lt
    have h3 := hR2.hq.lt
    omega
  refine wp_gen (fun W => ∃ X', PaInv w C r p q m w2.heap.size (w2.heap.size + 1) (onesB C.G.data) (zeros 512) 0 X' (.slice none 0 0) (.slice none 0 0) [] [] W) ⟨_, hI⟩ ?_
  clear hI A2 b3 b2 hR2 k22 e9 hR k1 k2 gA a0 a1 a2 hSu hkA hsz hsz2
  generalize w2.heap.size + 1 = s13 at *
  generalize w2.heap.size = s7 at *
  clear w2 w1 X
  rintro w6 ⟨X0, hI⟩
  replace hI := hid hI; replace hr13 := hid hr13
  go_wp2
  go_loopw [13] (fun i wr => ∃ k bs ns sp X vB vN tB tN, k ≤ n ∧ k ≤ 200 ∧ i = .int .i64 (k : Nat) ∧ PaInv w C r p q m s7 s13 bs ns sp X vB vN tB tN wr) (fun i _ => n - (intOf i).toNat)
  case atStart => exact ⟨0, _, _, _, _, _, _, _, _, by omega, by omega, rfl, hI.out⟩
  case round =>
    obtain ⟨k, bs, ns, sp, X, vB, vN, tB, tN, hk1, hk200, rfl, hP⟩ := hrel
    clear hI
    have p0 := hP.ap.rig.hp.cell 0
    simp at p0
    by_cases hlt2 : k < n ∧ k < 200
    · have hkl : k < acts.length := by have := hn.out; omega
      have hki : (k : Int) < n := by omega
      have hk4 : (k : Int) < 200 := by omega
      have hix : 0 ≤ (k : Int) ∧ (k : Int) < (n : Nat) := by omega
      have hSt : Calls Tryz.prog 18 #[.pointer (some ⟨C.t, 0, none⟩)] wr fun e w' => e = .returned (.int .i64 (sp : Nat)) ∧ PaInv w C r p q m s7 s13 bs ns sp X vB vN tB tN w' := hP.ap.state.mono fun e w' y => ⟨y.1, hP.calm y.2.2 y.2.1⟩
      by_cases hsp : sp = 0
      · subst hsp
        obtain ⟨g, o, eA, hcel⟩ : ∃ g o, aA = some ⟨g, o, none⟩ ∧ w.cell? ⟨g, o + k * 4, none⟩ = some (.bool acts[k].dr) ∧ w.cell? ⟨g, o + k * 4 + 1, none⟩ = some (.bool acts[k].nd) ∧ w.cell? ⟨g, o + k * 4 + 2, none⟩ = some (.bool acts[k].who) ∧ w.cell? ⟨g, o + k * 4 + 3, none⟩ = some (.int .i64 acts[k].at_) := by
          rcases hcA.out with h | ⟨g, o, h1, h2⟩
          · rw [h] at hkl; cases hkl
          · exact ⟨g, o, h1, h2 k hkl⟩
        subst eA
        generalize acts[k] = ak at hcel
        obtain ⟨dr, nd, who, at_⟩ := ak
        dsimp only at hcel
        replace hP := hid hP; replace hSt := hid hSt; replace hcel := hid hcel
        go_upto_region 11 with (first
          | (go_at_call 18; refine hSt.out.mono ?_; rintro e w3 ⟨rfl, hP3⟩; replace hP3 := hid hP3)
          | (go_at_call 19; refine (num_w _ _).mono ?_; rintro e w' ⟨rfl, rfl⟩))
        have hPd : PaInv w C r p q m s7 s13 bs ns 0 X vB vN tB tN w3.drew := hP3.out.calm (Keeps.refl _ _).drew (hP3.out.ap.quiet (Keeps.refl _ _).drew)
        have c0 := hPd.k.cellF hcel.out.1 (fun f => f)
        have c1 := hPd.k.cellF hcel.out.2.1 (fun f => f)
        have c2 := hPd.k.cellF hcel.out.2.2.1 (fun f => f)
        have c3 := hPd.k.cellF hcel.out.2.2.2 (fun f => f)
        have hAc := act_w hPd.ap hss.out.1 hss.out.2 p hPd.ap.rig.hp hPd.ap.rig.xp dr nd who at_
        have e70 := hPd.b7.cell 0
        have e71 := hPd.b7.cell 1
        have e72 := hPd.b7.cell 2
        have e130 := hPd.b13.cell 0
        have e131 := hPd.b13.cell 1
        simp at e70 e71 e72 e130 e131
        clear hcel
        replace hPd := hid hPd; replace hAc := hid hAc
        go_region_with (first | (go_at_call 21; refine hAc.out.mono ?_; intro e w2 hx; obtain ⟨vB', vN', tB', tN', bs', ns', sp', X', rfl, ⟨a', b', c', d', rfl, rfl⟩, b13, b7, klow, hP2⟩ := PaInv.act hPd.out hne7 hr13.out hx; clear hx; have d0 := b13.cell 0; have d1 := b13.cell 1; have df := b13.frz; simp at d0 d1; replace b13 := hid b13; replace b7 := hid b7; replace klow := hid klow; replace hP2 := hid hP2))
        all_goals
          clear b13 b7 klow d0 d1 df hPd hAc e70 e71 e72 e130 e131 hP c0 c1 c2 c3 p0
          go_wp2
          exact ⟨⟨k + 1, bs', ns', sp', X', _, _, tB', tN', by omega, by omega, by go_num, hP2.out⟩, by simp [intOf]; omega⟩
      · have hspi : ¬ (sp : Int) = 0 := by omega
        replace hP := hid hP; replace hSt := hid hSt
        go_wp2_with (first
          | (go_at_call 18; refine hSt.out.mono ?_; rintro e w3 ⟨rfl, hP3⟩; replace hP3 := hid hP3)
          | (go_at_call 19; refine (num_w _ _).mono ?_; rintro e w' ⟨rfl, rfl⟩))
        exact ⟨⟨k + 1, bs, ns, sp, X, _, _, tB, tN, by omega, by omega, by go_num, hP3.out⟩, by simp [intOf]; omega⟩
    · have hcut : n ≤ 200 := hsm
      have hkn : k = n := by omega
      have hki : ¬ (k : Int) < n := by omega
      clear hkn
      by_cases hsp : sp ≠ 0
      · have hL := hP.ap.left_bad hsp
        have hfu := hP.ap.full hsp
        have hL2 : Calls Tryz.prog 20 #[.pointer (some ⟨p, 0, none⟩)] wr fun e w' => e = .returned (.tuple #[.int .i64 0, .int .i64 0, .int .i64 (sp : Nat)]) ∧ Keeps (fun _ => False) w w' := hL.mono fun e w' y => ⟨y.1, (hP.calm y.2.2 y.2.1).k⟩
        have hsp3 : sp = 60 ∨ sp = 61 := by rcases hfu with ⟨h, _⟩ | ⟨h, _⟩ <;> omega
        clear hL hfu hsp
        rcases hsp3 with rfl | rfl
        all_goals
          replace hP := hid hP; replace hL2 := hid hL2
          go_wp2_with (first
            | (go_at_call 20; refine hL2.out.mono ?_; rintro e w3 ⟨rfl, hP3⟩; replace hP3 := hid hP3)
            | (go_at_call 19; refine (num_w _ _).mono ?_; rintro e w' ⟨rfl, rfl⟩))
          go_ret
          exact ⟨rfl, hP3.out⟩
      · have hsp0 : sp = 0 := by omega
        subst hsp0
        have hps : Pst wr C p bs ns X := ⟨hP.ap.rig.st, hP.ap.rig.hp, hP.ap.rig.xp⟩
        have hlo := hP.lo
        have hkw := hP.k
        have hL : Calls Tryz.prog 20 #[.pointer (some ⟨p, 0, none⟩)] wr fun e w' => e = .returned (.tuple #[.int .i64 (leftN bs C.G.data C.G.blocks : Nat), .int .i64 (leftN ns 0 C.G.n : Nat), .int .i64 0]) ∧ Pst w' C p bs ns X ∧ Keeps (fun _ => False) w w' :=
          (hps.st.left hps.hp hps.xp).mono fun e w' y => ⟨y.1, hps.call y.2.2 y.2.1, hkw.trans y.2.2 (fun i hi e => by have := hlo i (.inr e); omega)⟩
        have hl1 : leftN bs C.G.data C.G.blocks ≤ 2048 := Nat.le_trans (left_le ..) (by have := hgeo.out.b2; omega)
        have hl2 : leftN ns 0 C.G.n ≤ 2048 := Nat.le_trans (left_le ..) (by have := hgeo.out.n2; omega)
        have hfr1 : leftN (kB bs ns false) (kLo C.G false) (kHi C.G false) = leftN bs C.G.data C.G.blocks := rfl
        have hfr2 : leftN (kB bs ns true) (kLo C.G true) (kHi C.G true) = leftN ns 0 C.G.n := rfl
        have lb1 := hps.st.len0
        have lb2 := hps.st.len1
        have hBm : ∀ W, Pst W C p bs ns X → Keeps (fun _ => False) w W → Calls Tryz.prog 22 #[.pointer (some ⟨p, 0, none⟩)] W fun e w' => ∃ (a : Option Addr) (cap : Nat) (X' : Nat → Prop), e = .returned (.slice a 1024 cap) ∧ Bk w w' C p bs ns bs ns true X' (.slice a 1024 cap) (.slice none 0 0) [] [] := fun W h k => Bk.start h k hlo true
        generalize leftN bs C.G.data C.G.blocks = f1 at *
        generalize leftN ns 0 C.G.n = f2 at *
        clear hP hps hlo hkw hcA
        replace hL := hid hL; replace hBm := hid hBm; replace lb1 := hid lb1; replace lb2 := hid lb2; replace hfr1 := hid hfr1; replace hfr2 := hid hfr2
        go_upto_region 15 with (first
          | (go_at_call 20; refine hL.out.mono ?_; rintro e w3 ⟨rfl, hP3, hk3⟩; replace hP3 := hid hP3; replace hk3 := hid hk3)
          | (go_at_call 19; refine (num_w _ _).mono ?_; rintro e w' ⟨rfl, rfl⟩))
        go_upto_region 20 with (first
          | (go_at_call 22; refine (hBm.out _ hP3.out hk3.out).mono ?_; rintro e w4 ⟨aw, cw, X4, rfl, hK⟩; replace hK := hid hK))
        have hfr := hfr2.out
        have hfl := hl2
        generalize f2 = fr at *
        clear hL hBm hP3 hk3 hfr1 hfr2 hl1 hl2 p0
        replace hfr := hid hfr
        go_wp2
        obtain ⟨i0, hi0, hz0, hz1, hz2⟩ := info_parts infoInt
        replace hi0 := hid hi0; replace hz0 := hid hz0; replace hz1 := hid hz1; replace hz2 := hid hz2
        go_loopw [19, 20] (fun v i wr => ∃ k bs' ns' X l, k ≤ N ∧ k ≤ fr ∧ i = .int .i64 (k : Nat) ∧ l.length = k ∧ Bk w wr C p bs ns bs' ns' true X (.slice aw 1024 cw) v l l) (fun _ i _ => N - (intOf i).toNat)
        case atStart => exact ⟨0, bs, ns, X4, [], by omega, by omega, rfl, rfl, hK.out⟩
        case round =>
          obtain ⟨k, bs', ns', X', l, hk1, hk2, rfl, hll, hB⟩ := hrel
          clear hK
          obtain ⟨am, cm, rfl⟩ := own_shape hB.row
          rw [hll] at hB ⊢
          by_cases hlt3 : k < N ∧ k < fr
          · have hki : (k : Int) < N := by omega
            have hk4 : (k : Int) < fr := by omega
            have hT := hB.take (by rw [hfr.out, hll]; omega)
            have hll2 := hll
            replace hT := hid hT; replace hB := hid hB; replace hll := hid hll
            go_upto_region 27 with (go_at_call 17; refine hT.out.mono ?_; rintro e w5 ⟨x, bs5, ns5, rfl, hB5⟩; replace hB5 := hid hB5)
            have hrw := hB5.out.row
            unfold IntRow at hrw
            rw [hll2] at hrw
            clear hT hB
            replace hll2 := hid hll2
            go_wp2_with (at_builtin; refine wpList_appendV rfl _ _ 49 rfl 3 i0 (.int .i64 0) 1 8 undInts hi0.out hz0.out hz1.out hz2.out rfl (by decide) _ _ _ rfl (hrw.alloc _) ⟨w5.heap.size, 0, none⟩ 1 1 [.int .i64 x] rfl rfl ?c1 ?c2 (by omega) ?c3 ?c4 ?_)
            case c1 =>
              intro j u hj
              match j, hj with
              | 0, hj => simp at hj; subst hj; simp [Addr.add]
            case c2 => intro u hu; simp at hu; subst hu; rfl
            case c3 => unfold maxLen; omega
            case c4 => omega
            · intro g' cap' w6 hrow6 hgr6 hor6
              obtain ⟨X6, hB6⟩ := hB5.out.push hgr6 (by rw [hll2.out]; exact hrow6) (by rw [World.size_alloc]; exact hor6)
              rw [hll2.out] at hB6
              clear hrw hrow6 hgr6 hor6
              replace hB6 := hid hB6
              go_wp2
              exact ⟨⟨k + 1, bs5, ns5, X6, l ++ [x], by omega, by omega, by go_num, by rw [List.length_append, hll2.out]; rfl, hB6.out⟩, by simp [intOf]; omega⟩
          · by_cases hkn : k < N
            · have hki : (k : Int) < N := by omega
              have hk4 : ¬ (k : Int) < fr := by omega
              clear hi0 hz0 hz1 hz2 hfr
              have hll2 : l.length + 0 = k := hll
              by_cases hk0 : k = 0
              · have hki0 : ¬ 0 < (k : Int) := by omega
                clear hk0
                have hBt := hB.bitmaps
                replace hBt := hid hBt; replace hB := hid hB; replace hll := hid hll; replace hll2 := hid hll2
                go_wp2_with (go_at_call 22; refine hBt.out.mono ?_; rintro e w5 ⟨v5, X5, rfl, _, hB6⟩; replace hB6 := hid hB6)
                go_loopw [19, 24] (fun v i wr => ∃ j bs' ns' X l, i = .int .i64 (j : Nat) ∧ l.length + j = k ∧ Bk w wr C p bs ns bs' ns' true X (.slice aw 1024 cw) v l l) (fun _ i _ => N - (intOf i).toNat)
                case atStart => exact ⟨0, _, _, _, l, rfl, hll2.out, hB6.out⟩
                case round =>
                  obtain ⟨j, bs7, ns7, X7, l7, rfl, hlj, hB7⟩ := hrel
                  clear hB6
                  obtain ⟨am7, cm7, rfl⟩ := own_shape hB7.row
                  obtain ⟨z, hz⟩ : ∃ z, l7.length = z := ⟨_, rfl⟩
                  have hzb : z ≤ 2048 := by omega
                  have hjb : j ≤ 2048 := by omega
                  by_cases hlt4 : j < N ∧ 0 < z
                  · have hji : (j : Int) < N := by omega
                    have hz0 : 0 < (z : Int) := by omega
                    have hix : 0 ≤ (j : Int) ∧ (j : Int) < (N : Nat) := by omega
                    have hjo : j < os.length := by have := hN.out; omega
                    obtain ⟨go, oo, eO, co⟩ : ∃ g o, aO = some ⟨g, o, none⟩ ∧ wr.cell? ⟨g, o + j, none⟩ = some (.int .i64 os[j]) := by
                      rcases hcO.out with h | ⟨g, o, h1, h2⟩
                      · rw [h] at hjo; cases hjo
                      · exact ⟨g, o, h1, hB7.k.cellF (h2 j hjo) (fun f => f)⟩
                    subst eO
                    generalize os[j] = x at co
                    obtain ⟨at', hat⟩ : ∃ y, withinN x 0 (z - 1) = y := ⟨_, rfl⟩
                    have hatl : at' < z := by have := withinN_le x (show 0 ≤ z - 1 by omega); omega
                    have hW : ∀ W (y : Int), y = ((z - 1 : Nat) : Int) → Calls Tryz.prog 24 #[.int .i64 x, .int .i64 0, .int .i64 y] W fun e w' => e = .returned (.int .i64 (at' : Nat)) ∧ W = w' := fun W y hy => by
                      subst hy; rw [← hat]; exact within_w W x 0 (z - 1) (by omega) (by omega)
                    obtain ⟨gm, eM, cm⟩ : ∃ gm, am7 = some ⟨gm, 0, none⟩ ∧ wr.cell? ⟨gm, at', none⟩ = some (.int .i64 (l7[at']'(by omega) : Nat)) := by
                      rcases hB7.row.shape with ⟨h, h2⟩ | ⟨g, cap, h, _, _, h2⟩
                      · rw [h2] at hz; simp at hz; omega
                      · injection h with h3 h4 h5
                        exact ⟨g, h3, h2 at' (by omega)⟩
                    subst eM
                    have hD := hB7.drop (j := at') (by omega)
                    generalize l7[at']'(by omega) = y7 at hD cm
                    have hel : (l7.eraseIdx at').length = z - 1 := by rw [List.length_eraseIdx_of_lt (by omega), hz]
                    have hWo : ∀ (W : World) (bs8 ns8 : List UInt8), Bk w W C p bs ns bs8 ns8 true X7 (.slice aw 1024 cw) (.slice (some ⟨gm, 0, none⟩) z cm7) (l7.eraseIdx at') l7 → Calls Tryz.prog 26 #[.slice (some ⟨gm, 0, none⟩) z cm7, .int .i64 at'] W fun e w' =>
                        ∃ (a : Option Addr) (cap : Nat) (X' : Nat → Prop), e = .returned (.slice a (z - 1) cap) ∧ Bk w w' C p bs ns bs8 ns8 true X' (.slice aw 1024 cw) (.slice a (z - 1) cap) (l7.eraseIdx at') (l7.eraseIdx at') := fun W bs8 ns8 h => by
                      have := h.without (by omega) at'
                      rw [hel] at this; exact this
                    rw [hz] at hD ⊢
                    have hzi : 0 ≤ (at' : Int) ∧ (at' : Int) < (z : Nat) := by omega
                    replace hB7 := hid hB7; replace hW := hid hW; replace hD := hid hD; replace hel := hid hel; replace hWo := hid hWo; replace hz := hid hz; replace hat := hid hat; replace hlj := hid hlj
                    go_wp2_with (first
                      | (go_at_call 24; refine (hW.out _ _ (by omega)).mono ?_; rintro e w8 ⟨rfl, rfl⟩)
                      | (go_at_call 25; refine hD.out.mono ?_; rintro e w8 ⟨rfl, bs8, ns8, hB8⟩; replace hB8 := hid hB8)
                      | (go_at_call 26; refine (hWo.out _ _ _ hB8.out).mono ?_; rintro e w9 ⟨a9, c9, X9, rfl, hB9⟩; replace hB9 := hid hB9))
                    exact ⟨⟨j + 1, _, _, _, l7.eraseIdx at', by go_num, by have := hel.out; have := hlj.out; have := hz.out; omega, hB9.out⟩, by simp [intOf]; omega⟩
                  · obtain rfl : z = 0 := by omega
                    obtain rfl : l7 = [] := List.eq_nil_of_length_eq_zero hz
                    have hBt := hB7.bitmaps
                    clear hz hlj
                    replace hBt := hid hBt; replace hB7 := hid hB7
                    by_cases hjN : j < N
                    · have hji : (j : Int) < N := by omega
                      go_wp2_with (first
                        | (go_at_call 22; refine hBt.out.mono ?_; rintro e w8 ⟨v8, X8, rfl, hv8, hB8⟩; have hSm := hB8.same lb1.out lb2.out hv8; rw [show decide (([] : List Nat) = []) = true from rfl] at hSm; replace hSm := hid hSm; replace hB8 := hid hB8; clear hv8)
                        | (go_at_call 23; refine hSm.out.mono ?_; rintro e w9 ⟨rfl, hB9⟩; replace hB9 := hid hB9))
                      go_ret
                      exact ⟨rfl, hB9.out.k⟩
                    · have hji : ¬ (j : Int) < N := by omega
                      go_wp2_with (first
                        | (go_at_call 22; refine hBt.out.mono ?_; rintro e w8 ⟨v8, X8, rfl, hv8, hB8⟩; have hSm := hB8.same lb1.out lb2.out hv8; rw [show decide (([] : List Nat) = []) = true from rfl] at hSm; replace hSm := hid hSm; replace hB8 := hid hB8; clear hv8)
                        | (go_at_call 23; refine hSm.out.mono ?_; rintro e w9 ⟨rfl, hB9⟩; replace hB9 := hid hB9))
                      go_ret
                      exact ⟨rfl, hB9.out.k⟩
              · have hkp : 0 < (k : Int) := by omega
                have hBt := hB.bitmaps
                replace hBt := hid hBt; replace hB := hid hB; replace hll := hid hll; replace hll2 := hid hll2
                go_wp2_with (first
                  | (go_at_call 22; refine hBt.out.mono ?_; rintro e w5 ⟨v5, X5, rfl, hv5, hB5⟩; have hSm := hB5.same lb1.out lb2.out hv5; rw [show decide (l = []) = false by (have := hll.out; cases l; simp at this; omega; rfl)] at hSm; replace hSm := hid hSm; replace hB5 := hid hB5; clear hv5)
                  | (go_at_call 23; refine hSm.out.mono ?_; rintro e w6 ⟨rfl, hB6⟩; replace hB6 := hid hB6))
                go_loopw [19, 24] (fun v i wr => ∃ j bs' ns' X l, i = .int .i64 (j : Nat) ∧ l.length + j = k ∧ Bk w wr C p bs ns bs' ns' true X (.slice aw 1024 cw) v l l) (fun _ i _ => N - (intOf i).toNat)
                case atStart => exact ⟨0, _, _, _, l, rfl, hll2.out, hB6.out⟩
                case round =>
                  obtain ⟨j, bs7, ns7, X7, l7, rfl, hlj, hB7⟩ := hrel
                  clear hB6
                  obtain ⟨am7, cm7, rfl⟩ := own_shape hB7.row
                  obtain ⟨z, hz⟩ : ∃ z, l7.length = z := ⟨_, rfl⟩
                  have hzb : z ≤ 2048 := by omega
                  have hjb : j ≤ 2048 := by omega
                  by_cases hlt4 : j < N ∧ 0 < z
                  · have hji : (j : Int) < N := by omega
                    have hz0 : 0 < (z : Int) := by omega
                    have hix : 0 ≤ (j : Int) ∧ (j : Int) < (N : Nat) := by omega
                    have hjo : j < os.length := by have := hN.out; omega
                    obtain ⟨go, oo, eO, co⟩ : ∃ g o, aO = some ⟨g, o, none⟩ ∧ wr.cell? ⟨g, o + j, none⟩ = some (.int .i64 os[j]) := by
                      rcases hcO.out with h | ⟨g, o, h1, h2⟩
                      · rw [h] at hjo; cases hjo
                      · exact ⟨g, o, h1, hB7.k.cellF (h2 j hjo) (fun f => f)⟩
                    subst eO
                    generalize os[j] = x at co
                    obtain ⟨at', hat⟩ : ∃ y, withinN x 0 (z - 1) = y := ⟨_, rfl⟩
                    have hatl : at' < z := by have := withinN_le x (show 0 ≤ z - 1 by omega); omega
                    have hW : ∀ W (y : Int), y = ((z - 1 : Nat) : Int) → Calls Tryz.prog 24 #[.int .i64 x, .int .i64 0, .int .i64 y] W fun e w' => e = .returned (.int .i64 (at' : Nat)) ∧ W = w' := fun W y hy => by
                      subst hy; rw [← hat]; exact within_w W x 0 (z - 1) (by omega) (by omega)
                    obtain ⟨gm, eM, cm⟩ : ∃ gm, am7 = some ⟨gm, 0, none⟩ ∧ wr.cell? ⟨gm, at', none⟩ = some (.int .i64 (l7[at']'(by omega) : Nat)) := by
                      rcases hB7.row.shape with ⟨h, h2⟩ | ⟨g, cap, h, _, _, h2⟩
                      · rw [h2] at hz; simp at hz; omega
                      · injection h with h3 h4 h5
                        exact ⟨g, h3, h2 at' (by omega)⟩
                    subst eM
                    have hD := hB7.drop (j := at') (by omega)
                    generalize l7[at']'(by omega) = y7 at hD cm
                    have hel : (l7.eraseIdx at').length = z - 1 := by rw [List.length_eraseIdx_of_lt (by omega), hz]
                    have hWo : ∀ (W : World) (bs8 ns8 : List UInt8), Bk w W C p bs ns bs8 ns8 true X7 (.slice aw 1024 cw) (.slice (some ⟨gm, 0, none⟩) z cm7) (l7.eraseIdx at') l7 → Calls Tryz.prog 26 #[.slice (some ⟨gm, 0, none⟩) z cm7, .int .i64 at'] W fun e w' =>
                        ∃ (a : Option Addr) (cap : Nat) (X' : Nat → Prop), e = .returned (.slice a (z - 1) cap) ∧ Bk w w' C p bs ns bs8 ns8 true X' (.slice aw 1024 cw) (.slice a (z - 1) cap) (l7.eraseIdx at') (l7.eraseIdx at') := fun W bs8 ns8 h => by
                      have := h.without (by omega) at'
                      rw [hel] at this; exact this
                    rw [hz] at hD ⊢
                    have hzi : 0 ≤ (at' : Int) ∧ (at' : Int) < (z : Nat) := by omega
                    replace hB7 := hid hB7; replace hW := hid hW; replace hD := hid hD; replace hel := hid hel; replace hWo := hid hWo; replace hz := hid hz; replace hat := hid hat; replace hlj := hid hlj
                    go_wp2_with (first
                      | (go_at_call 24; refine (hW.out _ _ (by omega)).mono ?_; rintro e w8 ⟨rfl, rfl⟩)
                      | (go_at_call 25; refine hD.out.mono ?_; rintro e w8 ⟨rfl, bs8, ns8, hB8⟩; replace hB8 := hid hB8)
                      | (go_at_call 26; refine (hWo.out _ _ _ hB8.out).mono ?_; rintro e w9 ⟨a9, c9, X9, rfl, hB9⟩; replace hB9 := hid hB9))
                    exact ⟨⟨j + 1, _, _, _, l7.eraseIdx at', by go_num, by have := hel.out; have := hlj.out; have := hz.out; omega, hB9.out⟩, by simp [intOf]; omega⟩
                  · obtain rfl : z = 0 := by omega
                    obtain rfl : l7 = [] := List.eq_nil_of_length_eq_zero hz
                    have hBt := hB7.bitmaps
                    clear hz hlj
                    replace hBt := hid hBt; replace hB7 := hid hB7
                    by_cases hjN : j < N
                    · have hji : (j : Int) < N := by omega
                      go_wp2_with (first
                        | (go_at_call 22; refine hBt.out.mono ?_; rintro e w8 ⟨v8, X8, rfl, hv8, hB8⟩; have hSm := hB8.same lb1.out lb2.out hv8; rw [show decide (([] : List Nat) = []) = true from rfl] at hSm; replace hSm := hid hSm; replace hB8 := hid hB8; clear hv8)
                        | (go_at_call 23; refine hSm.out.mono ?_; rintro e w9 ⟨rfl, hB9⟩; replace hB9 := hid hB9))
                      go_ret
                      exact ⟨rfl, hB9.out.k⟩
                    · have hji : ¬ (j : Int) < N := by omega
                      go_wp2_with (first
                        | (go_at_call 22; refine hBt.out.mono ?_; rintro e w8 ⟨v8, X8, rfl, hv8, hB8⟩; have hSm := hB8.same lb1.out lb2.out hv8; rw [show decide (([] : List Nat) = []) = true from rfl] at hSm; replace hSm := hid hSm; replace hB8 := hid hB8; clear hv8)
                        | (go_at_call 23; refine hSm.out.mono ?_; rintro e w9 ⟨rfl, hB9⟩; replace hB9 := hid hB9))
                      go_ret
                      exact ⟨rfl, hB9.out.k⟩
            · have hki : ¬ (k : Int) < N := by omega
              clear hi0 hz0 hz1 hz2 hfr
              have hll2 : l.length + 0 = k := hll
              by_cases hk0 : k = 0
              · have hki0 : ¬ 0 < (k : Int) := by omega
                clear hk0
                have hBt := hB.bitmaps
                replace hBt := hid hBt; replace hB := hid hB; replace hll := hid hll; replace hll2 := hid hll2
                go_wp2_with (go_at_call 22; refine hBt.out.mono ?_; rintro e w5 ⟨v5, X5, rfl, _, hB6⟩; replace hB6 := hid hB6)
                go_loopw [19, 24] (fun v i wr => ∃ j bs' ns' X l, i = .int .i64 (j : Nat) ∧ l.length + j = k ∧ Bk w wr C p bs ns bs' ns' true X (.slice aw 1024 cw) v l l) (fun _ i _ => N - (intOf i).toNat)
                case atStart => exact ⟨0, _, _, _, l, rfl, hll2.out, hB6.out⟩
                case round =>
                  obtain ⟨j, bs7, ns7, X7, l7, rfl, hlj, hB7⟩ := hrel
                  clear hB6
                  obtain ⟨am7, cm7, rfl⟩ := own_shape hB7.row
                  obtain ⟨z, hz⟩ : ∃ z, l7.length = z := ⟨_, rfl⟩
                  have hzb : z ≤ 2048 := by omega
                  have hjb : j ≤ 2048 := by omega
                  by_cases hlt4 : j < N ∧ 0 < z
                  · have hji : (j : Int) < N := by omega
                    have hz0 : 0 < (z : Int) := by omega
                    have hix : 0 ≤ (j : Int) ∧ (j : Int) < (N : Nat) := by omega
                    have hjo : j < os.length := by have := hN.out; omega
                    obtain ⟨go, oo, eO, co⟩ : ∃ g o, aO = some ⟨g, o, none⟩ ∧ wr.cell? ⟨g, o + j, none⟩ = some (.int .i64 os[j]) := by
                      rcases hcO.out with h | ⟨g, o, h1, h2⟩
                      · rw [h] at hjo; cases hjo
                      · exact ⟨g, o, h1, hB7.k.cellF (h2 j hjo) (fun f => f)⟩
                    subst eO
                    generalize os[j] = x at co
                    obtain ⟨at', hat⟩ : ∃ y, withinN x 0 (z - 1) = y := ⟨_, rfl⟩
                    have hatl : at' < z := by have := withinN_le x (show 0 ≤ z - 1 by omega); omega
                    have hW : ∀ W (y : Int), y = ((z - 1 : Nat) : Int) → Calls Tryz.prog 24 #[.int .i64 x, .int .i64 0, .int .i64 y] W fun e w' => e = .returned (.int .i64 (at' : Nat)) ∧ W = w' := fun W y hy => by
                      subst hy; rw [← hat]; exact within_w W x 0 (z - 1) (by omega) (by omega)
                    obtain ⟨gm, eM, cm⟩ : ∃ gm, am7 = some ⟨gm, 0, none⟩ ∧ wr.cell? ⟨gm, at', none⟩ = some (.int .i64 (l7[at']'(by omega) : Nat)) := by
                      rcases hB7.row.shape with ⟨h, h2⟩ | ⟨g, cap, h, _, _, h2⟩
                      · rw [h2] at hz; simp at hz; omega
                      · injection h with h3 h4 h5
                        exact ⟨g, h3, h2 at' (by omega)⟩
                    subst eM
                    have hD := hB7.drop (j := at') (by omega)
                    generalize l7[at']'(by omega) = y7 at hD cm
                    have hel : (l7.eraseIdx at').length = z - 1 := by rw [List.length_eraseIdx_of_lt (by omega), hz]
                    have hWo : ∀ (W : World) (bs8 ns8 : List UInt8), Bk w W C p bs ns bs8 ns8 true X7 (.slice aw 1024 cw) (.slice (some ⟨gm, 0, none⟩) z cm7) (l7.eraseIdx at') l7 → Calls Tryz.prog 26 #[.slice (some ⟨gm, 0, none⟩) z cm7, .int .i64 at'] W fun e w' =>
                        ∃ (a : Option Addr) (cap : Nat) (X' : Nat → Prop), e = .returned (.slice a (z - 1) cap) ∧ Bk w w' C p bs ns bs8 ns8 true X' (.slice aw 1024 cw) (.slice a (z - 1) cap) (l7.eraseIdx at') (l7.eraseIdx at') := fun W bs8 ns8 h => by
                      have := h.without (by omega) at'
                      rw [hel] at this; exact this
                    rw [hz] at hD ⊢
                    have hzi : 0 ≤ (at' : Int) ∧ (at' : Int) < (z : Nat) := by omega
                    replace hB7 := hid hB7; replace hW := hid hW; replace hD := hid hD; replace hel := hid hel; replace hWo := hid hWo; replace hz := hid hz; replace hat := hid hat; replace hlj := hid hlj
                    go_wp2_with (first
                      | (go_at_call 24; refine (hW.out _ _ (by omega)).mono ?_; rintro e w8 ⟨rfl, rfl⟩)
                      | (go_at_call 25; refine hD.out.mono ?_; rintro e w8 ⟨rfl, bs8, ns8, hB8⟩; replace hB8 := hid hB8)
                      | (go_at_call 26; refine (hWo.out _ _ _ hB8.out).mono ?_; rintro e w9 ⟨a9, c9, X9, rfl, hB9⟩; replace hB9 := hid hB9))
                    exact ⟨⟨j + 1, _, _, _, l7.eraseIdx at', by go_num, by have := hel.out; have := hlj.out; have := hz.out; omega, hB9.out⟩, by simp [intOf]; omega⟩
                  · obtain rfl : z = 0 := by omega
                    obtain rfl : l7 = [] := List.eq_nil_of_length_eq_zero hz
                    have hBt := hB7.bitmaps
                    clear hz hlj
                    replace hBt := hid hBt; replace hB7 := hid hB7
                    by_cases hjN : j < N
                    · have hji : (j : Int) < N := by omega
                      go_wp2_with (first
                        | (go_at_call 22; refine hBt.out.mono ?_; rintro e w8 ⟨v8, X8, rfl, hv8, hB8⟩; have hSm := hB8.same lb1.out lb2.out hv8; rw [show decide (([] : List Nat) = []) = true from rfl] at hSm; replace hSm := hid hSm; replace hB8 := hid hB8; clear hv8)
                        | (go_at_call 23; refine hSm.out.mono ?_; rintro e w9 ⟨rfl, hB9⟩; replace hB9 := hid hB9))
                      go_ret
                      exact ⟨rfl, hB9.out.k⟩
                    · have hji : ¬ (j : Int) < N := by omega
                      go_wp2_with (first
                        | (go_at_call 22; refine hBt.out.mono ?_; rintro e w8 ⟨v8, X8, rfl, hv8, hB8⟩; have hSm := hB8.same lb1.out lb2.out hv8; rw [show decide (([] : List Nat) = []) = true from rfl] at hSm; replace hSm := hid hSm; replace hB8 := hid hB8; clear hv8)
                        | (go_at_call 23; refine hSm.out.mono ?_; rintro e w9 ⟨rfl, hB9⟩; replace hB9 := hid hB9))
                      go_ret
                      exact ⟨rfl, hB9.out.k⟩
              · have hkp : 0 < (k : Int) := by omega
                have hBt := hB.bitmaps
                replace hBt := hid hBt; replace hB := hid hB; replace hll := hid hll; replace hll2 := hid hll2
                go_wp2_with (first
                  | (go_at_call 22; refine hBt.out.mono ?_; rintro e w5 ⟨v5, X5, rfl, hv5, hB5⟩; have hSm := hB5.same lb1.out lb2.out hv5; rw [show decide (l = []) = false by (have := hll.out; cases l; simp at this; omega; rfl)] at hSm; replace hSm := hid hSm; replace hB5 := hid hB5; clear hv5)
                  | (go_at_call 23; refine hSm.out.mono ?_; rintro e w6 ⟨rfl, hB6⟩; replace hB6 := hid hB6))
                go_loopw [19, 24] (fun v i wr => ∃ j bs' ns' X l, i = .int .i64 (j : Nat) ∧ l.length + j = k ∧ Bk w wr C p bs ns bs' ns' true X (.slice aw 1024 cw) v l l) (fun _ i _ => N - (intOf i).toNat)
                case atStart => exact ⟨0, _, _, _, l, rfl, hll2.out, hB6.out⟩
                case round =>
                  obtain ⟨j, bs7, ns7, X7, l7, rfl, hlj, hB7⟩ := hrel
                  clear hB6
                  obtain ⟨am7, cm7, rfl⟩ := own_shape hB7.row
                  obtain ⟨z, hz⟩ : ∃ z, l7.length = z := ⟨_, rfl⟩
                  have hzb : z ≤ 2048 := by omega
                  have hjb : j ≤ 2048 := by omega
                  by_cases hlt4 : j < N ∧ 0 < z
                  · have hji : (j : Int) < N := by omega
                    have hz0 : 0 < (z : Int) := by omega
                    have hix : 0 ≤ (j : Int) ∧ (j : Int) < (N : Nat) := by omega
                    have hjo : j < os.length := by have := hN.out; omega
                    obtain ⟨go, oo, eO, co⟩ : ∃ g o, aO = some ⟨g, o, none⟩ ∧ wr.cell? ⟨g, o + j, none⟩ = some (.int .i64 os[j]) := by
                      rcases hcO.out with h | ⟨g, o, h1, h2⟩
                      · rw [h] at hjo; cases hjo
                      · exact ⟨g, o, h1, hB7.k.cellF (h2 j hjo) (fun f => f)⟩
                    subst eO
                    generalize os[j] = x at co
                    obtain ⟨at', hat⟩ : ∃ y, withinN x 0 (z - 1) = y := ⟨_, rfl⟩
                    have hatl : at' < z := by have := withinN_le x (show 0 ≤ z - 1 by omega); omega
                    have hW : ∀ W (y : Int), y = ((z - 1 : Nat) : Int) → Calls Tryz.prog 24 #[.int .i64 x, .int .i64 0, .int .i64 y] W fun e w' => e = .returned (.int .i64 (at' : Nat)) ∧ W = w' := fun W y hy => by
                      subst hy; rw [← hat]; exact within_w W x 0 (z - 1) (by omega) (by omega)
                    obtain ⟨gm, eM, cm⟩ : ∃ gm, am7 = some ⟨gm, 0, none⟩ ∧ wr.cell? ⟨gm, at', none⟩ = some (.int .i64 (l7[at']'(by omega) : Nat)) := by
                      rcases hB7.row.shape with ⟨h, h2⟩ | ⟨g, cap, h, _, _, h2⟩
                      · rw [h2] at hz; simp at hz; omega
                      · injection h with h3 h4 h5
                        exact ⟨g, h3, h2 at' (by omega)⟩
                    subst eM
                    have hD := hB7.drop (j := at') (by omega)
                    generalize l7[at']'(by omega) = y7 at hD cm
                    have hel : (l7.eraseIdx at').length = z - 1 := by rw [List.length_eraseIdx_of_lt (by omega), hz]
                    have hWo : ∀ (W : World) (bs8 ns8 : List UInt8), Bk w W C p bs ns bs8 ns8 true X7 (.slice aw 1024 cw) (.slice (some ⟨gm, 0, none⟩) z cm7) (l7.eraseIdx at') l7 → Calls Tryz.prog 26 #[.slice (some ⟨gm, 0, none⟩) z cm7, .int .i64 at'] W fun e w' =>
                        ∃ (a : Option Addr) (cap : Nat) (X' : Nat → Prop), e = .returned (.slice a (z - 1) cap) ∧ Bk w w' C p bs ns bs8 ns8 true X' (.slice aw 1024 cw) (.slice a (z - 1) cap) (l7.eraseIdx at') (l7.eraseIdx at') := fun W bs8 ns8 h => by
                      have := h.without (by omega) at'
                      rw [hel] at this; exact this
                    rw [hz] at hD ⊢
                    have hzi : 0 ≤ (at' : Int) ∧ (at' : Int) < (z : Nat) := by omega
                    replace hB7 := hid hB7; replace hW := hid hW; replace hD := hid hD; replace hel := hid hel; replace hWo := hid hWo; replace hz := hid hz; replace hat := hid hat; replace hlj := hid hlj
                    go_wp2_with (first
                      | (go_at_call 24; refine (hW.out _ _ (by omega)).mono ?_; rintro e w8 ⟨rfl, rfl⟩)
                      | (go_at_call 25; refine hD.out.mono ?_; rintro e w8 ⟨rfl, bs8, ns8, hB8⟩; replace hB8 := hid hB8)
                      | (go_at_call 26; refine (hWo.out _ _ _ hB8.out).mono ?_; rintro e w9 ⟨a9, c9, X9, rfl, hB9⟩; replace hB9 := hid hB9))
                    exact ⟨⟨j + 1, _, _, _, l7.eraseIdx at', by go_num, by have := hel.out; have := hlj.out; have := hz.out; omega, hB9.out⟩, by simp [intOf]; omega⟩
                  · obtain rfl : z = 0 := by omega
                    obtain rfl : l7 = [] := List.eq_nil_of_length_eq_zero hz
                    have hBt := hB7.bitmaps
                    clear hz hlj
                    replace hBt := hid hBt; replace hB7 := hid hB7
                    by_cases hjN : j < N
                    · have hji : (j : Int) < N := by omega
                      go_wp2_with (first
                        | (go_at_call 22; refine hBt.out.mono ?_; rintro e w8 ⟨v8, X8, rfl, hv8, hB8⟩; have hSm := hB8.same lb1.out lb2.out hv8; rw [show decide (([] : List Nat) = []) = true from rfl] at hSm; replace hSm := hid hSm; replace hB8 := hid hB8; clear hv8)
                        | (go_at_call 23; refine hSm.out.mono ?_; rintro e w9 ⟨rfl, hB9⟩; replace hB9 := hid hB9))
                      go_ret
                      exact ⟨rfl, hB9.out.k⟩
                    · have hji : ¬ (j : Int) < N := by omega
                      go_wp2_with (first
                        | (go_at_call 22; refine hBt.out.mono ?_; rintro e w8 ⟨v8, X8, rfl, hv8, hB8⟩; have hSm := hB8.same lb1.out lb2.out hv8; rw [show decide (([] : List Nat) = []) = true from rfl] at hSm; replace hSm := hid hSm; replace hB8 := hid hB8; clear hv8)
                        | (go_at_call 23; refine hSm.out.mono ?_; rintro e w9 ⟨rfl, hB9⟩; replace hB9 := hid hB9))
                      go_ret
                      exact ⟨rfl, hB9.out.k⟩
set_option maxRecDepth 100000 in
set_option maxHeartbeats 4000000 in
theorem poolBack_tl (w : World) (a b c : Int) (va : Value) (acts : List ActR) (hva : ArgActs w va acts) (vo : Value) (os : List Int) (hvo : ArgInts w vo os) (hsm : ¬ acts.length ≤ 200) : Calls Tryz.prog 5 #[.agg #[.int .i64 a, .int .i64 b, .int .i64 c], va, vo, .bool true] w fun e w' => e = .returned (.bool true) ∧ Keeps (fun _ => False) w w' := by
  have hS := fun w => lsuper_w w a b c
  have hF := fun w => fresh_w w a b c
  have hkA : Keeps (fun _ => False) w (w.alloc (.cells #[.int .i64 a, .int .i64 b, .int .i64 c] 23 (0, 0))) := (Keeps.refl _ w).alloc _
  have hg4 := gLog_b b
  have hg5 := gSecs_b a b c
  unfold gLeast at hg5
  obtain ⟨aA, cA, rfl, hcA⟩ := hva
  obtain ⟨n, hn⟩ : ∃ n, acts.length = n := ⟨_, rfl⟩
  rw [hn] at hsm ⊢
  obtain ⟨aO, cO, rfl, hcO⟩ := hvo
  obtain ⟨N, hN⟩ : ∃ n, os.length = n := ⟨_, rfl⟩
  rw [hN]
  replace hS := hid hS; replace hF := hid hF; replace hkA := hid hkA; replace hg4 := hid hg4; replace hg5 := hid hg5; replace hcA := hid hcA; replace hn := hid hn; replace hcO := hid hcO; replace hN := hid hN
  go_enter Tryz.func5, Tryz.ntmps5
  go_upto_region 4 with (go_at_call 14; refine (hF.out _).mono ?_; rintro e w1 ⟨C, r, p, q, m, X, rfl, g1, g2, g3, hR, hlo, k1⟩; have gA := k1.blk (Blk.new w _) (fun f => f); replace gA := hid gA; replace hR := hid hR; replace hlo := hid hlo; replace k1 := hid (hkA.out.step k1))
  have hsz : ∀ i, X i ∨ KF C i → w.heap.size ≤ i := fun i hi => by have := hlo.out i hi; rw [World.size_alloc] at this; omega
  have a0 := gA.out.cell 0
  have a1 := gA.out.cell 1
  have a2 := gA.out.cell 2
  simp at a0 a1 a2
  have hgeo := hR.out.st.geo
  have hSu : ∀ w, Calls Tryz.prog 16 #[.agg #[.int .i64 a, .int .i64 b, .int .i64 c]] w fun e w' => e = .returned (.agg #[.int .i64 C.G.s, .int .i64 C.G.lg, .int .i64 C.G.n]) ∧ Keeps (fun _ => False) w w' := fun w => by rw [g1, g2, g3]; exact hS.out w
  have hss : 3 + C.G.lg ≤ C.G.s ∧ C.G.s ≤ 4096 := by have := hg5.out; have := hg4.out; rw [g1, g2]; omega
  clear hS g1 g2 g3 hg4 hg5 hF hlo
  replace hsz := hid hsz; replace hgeo := hid hgeo; replace hSu := hid hSu; replace hss := hid hss
  go_upto_region 6 with (go_at_call 16; refine (hSu.out _).mono ?_; rintro e w2 ⟨rfl, k2⟩; replace k2 := hid k2)
  have k22 : Keeps (fun _ => False) w2 ((w2.alloc (.cells #[.int .i64 C.G.s, .int .i64 C.G.lg, .int .i64 C.G.n] 31 (0, 0))).alloc (.cells #[.slice none 0 0, .slice none 0 0] 51 (0, 0))) := ((Keeps.refl _ w2).alloc _).alloc _
  have e9 : ((w2.alloc (.cells #[.int .i64 C.G.s, .int .i64 C.G.lg, .int .i64 C.G.n] 31 (0, 0))).alloc (.cells #[.slice none 0 0, .slice none 0 0] 51 (0, 0))).heap.size = w2.heap.size + 2 := by simp only [World.size_alloc]
  have hR2 := hR.out.quiet k2.out
  have A2 := (Ap.start hR2).grow k22 (fun _ _ f => f.elim) (Y := fun i => (X i ∨ i = w2.heap.size) ∨ i = w2.heap.size + 1) (fun i h => .inl (.inl h)) (fun i h => by
    rcases h with (h | h) | h
    · have := hR2.st.lt i h; exact ⟨by omega, .inl h⟩
    · exact ⟨by omega, .inr (by omega)⟩
    · exact ⟨by omega, .inr (by omega)⟩)
  have b2 : Blk ((w2.alloc (.cells #[.int .i64 C.G.s, .int .i64 C.G.lg, .int .i64 C.G.n] 31 (0, 0))).alloc (.cells #[.slice none 0 0, .slice none 0 0] 51 (0, 0))) w2.heap.size (.cells #[.int .i64 C.G.s, .int .i64 C.G.lg, .int .i64 C.G.n] 31 (0, 0)) := (Blk.new w2 _).alloc _
  have b3 : Blk ((w2.alloc (.cells #[.int .i64 C.G.s, .int .i64 C.G.lg, .int .i64 C.G.n] 31 (0, 0))).alloc (.cells #[.slice none 0 0, .slice none 0 0] 51 (0, 0))) (w2.heap.size + 1) (.cells #[.slice none 0 0, .slice none 0 0] 51 (0, 0)) := by
    have := Blk.new (w2.alloc (.cells #[.int .i64 C.G.s, .int .i64 C.G.lg, .int .i64 C.G.n] 31 (0, 0))) (.cells #[.slice none 0 0, .slice none 0 0] 51 (0, 0))
    simpa only [World.size_alloc] using this
  have hsz2 : w.heap.size ≤ w2.heap.size := (k1.out.step k2.out).size
  have hI : PaInv w C r p q m w2.heap.size (w2.heap.size + 1) (onesB C.G.data) (zeros 512) 0 (fun i => (X i ∨ i = w2.heap.size) ∨ i = w2.heap.size + 1) (.slice none 0 0) (.slice none 0 0) [] [] ((w2.alloc (.cells #[.int .i64 C.G.s, .int .i64 C.G.lg, .int .i64 C.G.n] 31 (0, 0))).alloc (.cells #[.slice none 0 0, .slice none 0 0] 51 (0, 0))) :=
    ⟨A2, .inl (.inr rfl), .inr rfl, b2, b3, k1.out.step (k2.out.step k22), fun i hi => by
      rcases hi with ((hi | hi) | hi) | hi
      · exact hsz.out i (.inl hi)
      · omega
      · omega
      · exact hsz.out i (.inr hi)⟩
  have hne7 : w2.heap.size ≠ w2.heap.size + 1 := by omega
  have hr13 : w2.heap.size + 1 ≠ r ∧ w2.heap.size + 1 ≠ p ∧ w2.heap.size + 1 ≠ q := by
    have h1 := hR2.hr.lt
    have h2 := hR2.hp.lt
    have h3 := hR2.hq.lt
    omega
  refine wp_gen (fun W => ∃ X', PaInv w C r p q m w2.heap.size (w2.heap.size + 1) (onesB C.G.data) (zeros 512) 0 X' (.slice none 0 0) (.slice none 0 0) [] [] W) ⟨_, hI⟩ ?_
  clear hI A2 b3 b2 hR2 k22 e9 hR k1 k2 gA a0 a1 a2 hSu hkA hsz hsz2
  generalize w2.heap.size + 1 = s13 at *
  generalize w2.heap.size = s7 at *
  clear w2 w1 X
  rintro w6 ⟨X0, hI⟩
  replace hI := hid hI; replace hr13 := hid hr13
  go_wp2
  go_loopw [13] (fun i wr => ∃ k bs ns sp X vB vN tB tN, k ≤ n ∧ k ≤ 200 ∧ i = .int .i64 (k : Nat) ∧ PaInv w C r p q m s7 s13 bs ns sp X vB vN tB tN wr) (fun i _ => n - (intOf i).toNat)
  case atStart => exact ⟨0, _, _, _, _, _, _, _, _, by omega, by omega, rfl, hI.out⟩
  case round =>
    obtain ⟨k, bs, ns, sp, X, vB, vN, tB, tN, hk1, hk200, rfl, hP⟩ := hrel
    clear hI
    have p0 := hP.ap.rig.hp.cell 0
    simp at p0
    by_cases hlt2 : k < n ∧ k < 200
    · have hkl : k < acts.length := by have := hn.out; omega
      have hki : (k : Int) < n := by omega
      have hk4 : (k : Int) < 200 := by omega
      have hix : 0 ≤ (k : Int) ∧ (k : Int) < (n : Nat) := by omega
      have hSt : Calls Tryz.prog 18 #[.pointer (some ⟨C.t, 0, none⟩)] wr fun e w' => e = .returned (.int .i64 (sp : Nat)) ∧ PaInv w C r p q m s7 s13 bs ns sp X vB vN tB tN w' := hP.ap.state.mono fun e w' y => ⟨y.1, hP.calm y.2.2 y.2.1⟩
      by_cases hsp : sp = 0
      · subst hsp
        obtain ⟨g, o, eA, hcel⟩ : ∃ g o, aA = some ⟨g, o, none⟩ ∧ w.cell? ⟨g, o + k * 4, none⟩ = some (.bool acts[k].dr) ∧ w.cell? ⟨g, o + k * 4 + 1, none⟩ = some (.bool acts[k].nd) ∧ w.cell? ⟨g, o + k * 4 + 2, none⟩ = some (.bool acts[k].who) ∧ w.cell? ⟨g, o + k * 4 + 3, none⟩ = some (.int .i64 acts[k].at_) := by
          rcases hcA.out with h | ⟨g, o, h1, h2⟩
          · rw [h] at hkl; cases hkl
          · exact ⟨g, o, h1, h2 k hkl⟩
        subst eA
        generalize acts[k] = ak at hcel
        obtain ⟨dr, nd, who, at_⟩ := ak
        dsimp only at hcel
        replace hP := hid hP; replace hSt := hid hSt; replace hcel := hid hcel
        go_upto_region 11 with (first
          | (go_at_call 18; refine hSt.out.mono ?_; rintro e w3 ⟨rfl, hP3⟩; replace hP3 := hid hP3)
          | (go_at_call 19; refine (num_w _ _).mono ?_; rintro e w' ⟨rfl, rfl⟩))
        have hPd : PaInv w C r p q m s7 s13 bs ns 0 X vB vN tB tN w3.drew := hP3.out.calm (Keeps.refl _ _).drew (hP3.out.ap.quiet (Keeps.refl _ _).drew)
        have c0 := hPd.k.cellF hcel.out.1 (fun f => f)
        have c1 := hPd.k.cellF hcel.out.2.1 (fun f => f)
        have c2 := hPd.k.cellF hcel.out.2.2.1 (fun f => f)
        have c3 := hPd.k.cellF hcel.out.2.2.2 (fun f => f)
        have hAc := act_w hPd.ap hss.out.1 hss.out.2 p hPd.ap.rig.hp hPd.ap.rig.xp dr nd who at_
        have e70 := hPd.b7.cell 0
        have e71 := hPd.b7.cell 1
        have e72 := hPd.b7.cell 2
        have e130 := hPd.b13.cell 0
        have e131 := hPd.b13.cell 1
        simp at e70 e71 e72 e130 e131
        clear hcel
        replace hPd := hid hPd; replace hAc := hid hAc
        go_region_with (first | (go_at_call 21; refine hAc.out.mono ?_; intro e w2 hx; obtain ⟨vB', vN', tB', tN', bs', ns', sp', X', rfl, ⟨a', b', c', d', rfl, rfl⟩, b13, b7, klow, hP2⟩ := PaInv.act hPd.out hne7 hr13.out hx; clear hx; have d0 := b13.cell 0; have d1 := b13.cell 1; have df := b13.frz; simp at d0 d1; replace b13 := hid b13; replace b7 := hid b7; replace klow := hid klow; replace hP2 := hid hP2))
        all_goals
          clear b13 b7 klow d0 d1 df hPd hAc e70 e71 e72 e130 e131 hP c0 c1 c2 c3 p0
          go_wp2
          exact ⟨⟨k + 1, bs', ns', sp', X', _, _, tB', tN', by omega, by omega, by go_num, hP2.out⟩, by simp [intOf]; omega⟩
      · have hspi : ¬ (sp : Int) = 0 := by omega
        replace hP := hid hP; replace hSt := hid hSt
        go_wp2_with (first
          | (go_at_call 18; refine hSt.out.mono ?_; rintro e w3 ⟨rfl, hP3⟩; replace hP3 := hid hP3)
          | (go_at_call 19; refine (num_w _ _).mono ?_; rintro e w' ⟨rfl, rfl⟩))
        exact ⟨⟨k + 1, bs, ns, sp, X, _, _, tB, tN, by omega, by omega, by go_num, hP3.out⟩, by simp [intOf]; omega⟩
    · have hcut : 200 < n := by omega
      have hk2 : k = 200 := by omega
      have hki : (k : Int) < n := by omega
      have hk4 : ¬ (k : Int) < 200 := by omega
      clear hk2
      by_cases hsp : sp ≠ 0
      · have hL := hP.ap.left_bad hsp
        have hfu := hP.ap.full hsp
        have hL2 : Calls Tryz.prog 20 #[.pointer (some ⟨p, 0, none⟩)] wr fun e w' => e = .returned (.tuple #[.int .i64 0, .int .i64 0, .int .i64 (sp : Nat)]) ∧ Keeps (fun _ => False) w w' := hL.mono fun e w' y => ⟨y.1, (hP.calm y.2.2 y.2.1).k⟩
        have hsp3 : sp = 60 ∨ sp = 61 := by rcases hfu with ⟨h, _⟩ | ⟨h, _⟩ <;> omega
        clear hL hfu hsp
        rcases hsp3 with rfl | rfl
        all_goals
          replace hP := hid hP; replace hL2 := hid hL2
          go_wp2_with (first
            | (go_at_call 20; refine hL2.out.mono ?_; rintro e w3 ⟨rfl, hP3⟩; replace hP3 := hid hP3)
            | (go_at_call 19; refine (num_w _ _).mono ?_; rintro e w' ⟨rfl, rfl⟩))
          go_ret
          exact ⟨rfl, hP3.out⟩
      · have hsp0 : sp = 0 := by omega
        subst hsp0
        have hps : Pst wr C p bs ns X := ⟨hP.ap.rig.st, hP.ap.rig.hp, hP.ap.rig.xp⟩
        have hlo := hP.lo
        have hkw := hP.k
        have hL : Calls Tryz.prog 20 #[.pointer (some ⟨p, 0, none⟩)] wr fun e w' => e = .returned (.tuple #[.int .i64 (leftN bs C.G.data C.G.blocks : Nat), .int .i64 (leftN ns 0 C.G.n : Nat), .int .i64 0]) ∧ Pst w' C p bs ns X ∧ Keeps (fun _ => False) w w' :=
          (hps.st.left hps.hp hps.xp).mono fun e w' y => ⟨y.1, hps.call y.2.2 y.2.1, hkw.trans y.2.2 (fun i hi e => by have := hlo i (.inr e); omega)⟩
        have hl1 : leftN bs C.G.data C.G.blocks ≤ 2048 := Nat.le_trans (left_le ..) (by have := hgeo.out.b2; omega)
        have hl2 : leftN ns 0 C.G.n ≤ 2048 := Nat.le_trans (left_le ..) (by have := hgeo.out.n2; omega)
        have hfr1 : leftN (kB bs ns false) (kLo C.G false) (kHi C.G false) = leftN bs C.G.data C.G.blocks := rfl
        have hfr2 : leftN (kB bs ns true) (kLo C.G true) (kHi C.G true) = leftN ns 0 C.G.n := rfl
        have lb1 := hps.st.len0
        have lb2 := hps.st.len1
        have hBm : ∀ W, Pst W C p bs ns X → Keeps (fun _ => False) w W → Calls Tryz.prog 22 #[.pointer (some ⟨p, 0, none⟩)] W fun e w' => ∃ (a : Option Addr) (cap : Nat) (X' : Nat → Prop), e = .returned (.slice a 1024 cap) ∧ Bk w w' C p bs ns bs ns true X' (.slice a 1024 cap) (.slice none 0 0) [] [] := fun W h k => Bk.start h k hlo true
        generalize leftN bs C.G.data C.G.blocks = f1 at *
        generalize leftN ns 0 C.G.n = f2 at *
        clear hP hps hlo hkw hcA
        replace hL := hid hL; replace hBm := hid hBm; replace lb1 := hid lb1; replace lb2 := hid lb2; replace hfr1 := hid hfr1; replace hfr2 := hid hfr2
        go_upto_region 15 with (first
          | (go_at_call 20; refine hL.out.mono ?_; rintro e w3 ⟨rfl, hP3, hk3⟩; replace hP3 := hid hP3; replace hk3 := hid hk3)
          | (go_at_call 19; refine (num_w _ _).mono ?_; rintro e w' ⟨rfl, rfl⟩))
        go_upto_region 20 with (first
          | (go_at_call 22; refine (hBm.out _ hP3.out hk3.out).mono ?_; rintro e w4 ⟨aw, cw, X4, rfl, hK⟩; replace hK := hid hK))
        have hfr := hfr2.out
        have hfl := hl2
        generalize f2 = fr at *
        clear hL hBm hP3 hk3 hfr1 hfr2 hl1 hl2 p0
        replace hfr := hid hfr
        go_wp2
        obtain ⟨i0, hi0, hz0, hz1, hz2⟩ := info_parts infoInt
        replace hi0 := hid hi0; replace hz0 := hid hz0; replace hz1 := hid hz1; replace hz2 := hid hz2
        go_loopw [19, 20] (fun v i wr => ∃ k bs' ns' X l, k ≤ N ∧ k ≤ fr ∧ i = .int .i64 (k : Nat) ∧ l.length = k ∧ Bk w wr C p bs ns bs' ns' true X (.slice aw 1024 cw) v l l) (fun _ i _ => N - (intOf i).toNat)
        case atStart => exact ⟨0, bs, ns, X4, [], by omega, by omega, rfl, rfl, hK.out⟩
        case round =>
          obtain ⟨k, bs', ns', X', l, hk1, hk2, rfl, hll, hB⟩ := hrel
          clear hK
          obtain ⟨am, cm, rfl⟩ := own_shape hB.row
          rw [hll] at hB ⊢
          by_cases hlt3 : k < N ∧ k < fr
          · have hki : (k : Int) < N := by omega
            have hk4 : (k : Int) < fr := by omega
            have hT := hB.take (by rw [hfr.out, hll]; omega)
            have hll2 := hll
            replace hT := hid hT; replace hB := hid hB; replace hll := hid hll
            go_upto_region 27 with (go_at_call 17; refine hT.out.mono ?_; rintro e w5 ⟨x, bs5, ns5, rfl, hB5⟩; replace hB5 := hid hB5)
            have hrw := hB5.out.row
            unfold IntRow at hrw
            rw [hll2] at hrw
            clear hT hB
            replace hll2 := hid hll2
            go_wp2_with (at_builtin; refine wpList_appendV rfl _ _ 49 rfl 3 i0 (.int .i64 0) 1 8 undInts hi0.out hz0.out hz1.out hz2.out rfl (by decide) _ _ _ rfl (hrw.alloc _) ⟨w5.heap.size, 0, none⟩ 1 1 [.int .i64 x] rfl rfl ?c1 ?c2 (by omega) ?c3 ?c4 ?_)
            case c1 =>
              intro j u hj
              match j, hj with
              | 0, hj => simp at hj; subst hj; simp [Addr.add]
            case c2 => intro u hu; simp at hu; subst hu; rfl
            case c3 => unfold maxLen; omega
            case c4 => omega
            · intro g' cap' w6 hrow6 hgr6 hor6
              obtain ⟨X6, hB6⟩ := hB5.out.push hgr6 (by rw [hll2.out]; exact hrow6) (by rw [World.size_alloc]; exact hor6)
              rw [hll2.out] at hB6
              clear hrw hrow6 hgr6 hor6
              replace hB6 := hid hB6
              go_wp2
              exact ⟨⟨k + 1, bs5, ns5, X6, l ++ [x], by omega, by omega, by go_num, by rw [List.length_append, hll2.out]; rfl, hB6.out⟩, by simp [intOf]; omega⟩
          · by_cases hkn : k < N
            · have hki : (k : Int) < N := by omega
              have hk4 : ¬ (k : Int) < fr := by omega
              clear hi0 hz0 hz1 hz2 hfr
              have hll2 : l.length + 0 = k := hll
              by_cases hk0 : k = 0
              · have hki0 : ¬ 0 < (k : Int) := by omega
                clear hk0
                have hBt := hB.bitmaps
                replace hBt := hid hBt; replace hB := hid hB; replace hll := hid hll; replace hll2 := hid hll2
                go_wp2_with (go_at_call 22; refine hBt.out.mono ?_; rintro e w5 ⟨v5, X5, rfl, _, hB6⟩; replace hB6 := hid hB6)
                go_loopw [19, 24] (fun v i wr => ∃ j bs' ns' X l, i = .int .i64 (j : Nat) ∧ l.length + j = k ∧ Bk w wr C p bs ns bs' ns' true X (.slice aw 1024 cw) v l l) (fun _ i _ => N - (intOf i).toNat)
                case atStart => exact ⟨0, _, _, _, l, rfl, hll2.out, hB6.out⟩
                case round =>
                  obtain ⟨j, bs7, ns7, X7, l7, rfl, hlj, hB7⟩ := hrel
                  clear hB6
                  obtain ⟨am7, cm7, rfl⟩ := own_shape hB7.row
                  obtain ⟨z, hz⟩ : ∃ z, l7.length = z := ⟨_, rfl⟩
                  have hzb : z ≤ 2048 := by omega
                  have hjb : j ≤ 2048 := by omega
                  by_cases hlt4 : j < N ∧ 0 < z
                  · have hji : (j : Int) < N := by omega
                    have hz0 : 0 < (z : Int) := by omega
                    have hix : 0 ≤ (j : Int) ∧ (j : Int) < (N : Nat) := by omega
                    have hjo : j < os.length := by have := hN.out; omega
                    obtain ⟨go, oo, eO, co⟩ : ∃ g o, aO = some ⟨g, o, none⟩ ∧ wr.cell? ⟨g, o + j, none⟩ = some (.int .i64 os[j]) := by
                      rcases hcO.out with h | ⟨g, o, h1, h2⟩
                      · rw [h] at hjo; cases hjo
                      · exact ⟨g, o, h1, hB7.k.cellF (h2 j hjo) (fun f => f)⟩
                    subst eO
                    generalize os[j] = x at co
                    obtain ⟨at', hat⟩ : ∃ y, withinN x 0 (z - 1) = y := ⟨_, rfl⟩
                    have hatl : at' < z := by have := withinN_le x (show 0 ≤ z - 1 by omega); omega
                    have hW : ∀ W (y : Int), y = ((z - 1 : Nat) : Int) → Calls Tryz.prog 24 #[.int .i64 x, .int .i64 0, .int .i64 y] W fun e w' => e = .returned (.int .i64 (at' : Nat)) ∧ W = w' := fun W y hy => by
                      subst hy; rw [← hat]; exact within_w W x 0 (z - 1) (by omega) (by omega)
                    obtain ⟨gm, eM, cm⟩ : ∃ gm, am7 = some ⟨gm, 0, none⟩ ∧ wr.cell? ⟨gm, at', none⟩ = some (.int .i64 (l7[at']'(by omega) : Nat)) := by
                      rcases hB7.row.shape with ⟨h, h2⟩ | ⟨g, cap, h, _, _, h2⟩
                      · rw [h2] at hz; simp at hz; omega
                      · injection h with h3 h4 h5
                        exact ⟨g, h3, h2 at' (by omega)⟩
                    subst eM
                    have hD := hB7.drop (j := at') (by omega)
                    generalize l7[at']'(by omega) = y7 at hD cm
                    have hel : (l7.eraseIdx at').length = z - 1 := by rw [List.length_eraseIdx_of_lt (by omega), hz]
                    have hWo : ∀ (W : World) (bs8 ns8 : List UInt8), Bk w W C p bs ns bs8 ns8 true X7 (.slice aw 1024 cw) (.slice (some ⟨gm, 0, none⟩) z cm7) (l7.eraseIdx at') l7 → Calls Tryz.prog 26 #[.slice (some ⟨gm, 0, none⟩) z cm7, .int .i64 at'] W fun e w' =>
                        ∃ (a : Option Addr) (cap : Nat) (X' : Nat → Prop), e = .returned (.slice a (z - 1) cap) ∧ Bk w w' C p bs ns bs8 ns8 true X' (.slice aw 1024 cw) (.slice a (z - 1) cap) (l7.eraseIdx at') (l7.eraseIdx at') := fun W bs8 ns8 h => by
                      have := h.without (by omega) at'
                      rw [hel] at this; exact this
                    rw [hz] at hD ⊢
                    have hzi : 0 ≤ (at' : Int) ∧ (at' : Int) < (z : Nat) := by omega
                    replace hB7 := hid hB7; replace hW := hid hW; replace hD := hid hD; replace hel := hid hel; replace hWo := hid hWo; replace hz := hid hz; replace hat := hid hat; replace hlj := hid hlj
                    go_wp2_with (first
                      | (go_at_call 24; refine (hW.out _ _ (by omega)).mono ?_; rintro e w8 ⟨rfl, rfl⟩)
                      | (go_at_call 25; refine hD.out.mono ?_; rintro e w8 ⟨rfl, bs8, ns8, hB8⟩; replace hB8 := hid hB8)
                      | (go_at_call 26; refine (hWo.out _ _ _ hB8.out).mono ?_; rintro e w9 ⟨a9, c9, X9, rfl, hB9⟩; replace hB9 := hid hB9))
                    exact ⟨⟨j + 1, _, _, _, l7.eraseIdx at', by go_num, by have := hel.out; have := hlj.out; have := hz.out; omega, hB9.out⟩, by simp [intOf]; omega⟩
                  · obtain rfl : z = 0 := by omega
                    obtain rfl : l7 = [] := List.eq_nil_of_length_eq_zero hz
                    have hBt := hB7.bitmaps
                    clear hz hlj
                    replace hBt := hid hBt; replace hB7 := hid hB7
                    by_cases hjN : j < N
                    · have hji : (j : Int) < N := by omega
                      go_wp2_with (first
                        | (go_at_call 22; refine hBt.out.mono ?_; rintro e w8 ⟨v8, X8, rfl, hv8, hB8⟩; have hSm := hB8.same lb1.out lb2.out hv8; rw [show decide (([] : List Nat) = []) = true from rfl] at hSm; replace hSm := hid hSm; replace hB8 := hid hB8; clear hv8)
                        | (go_at_call 23; refine hSm.out.mono ?_; rintro e w9 ⟨rfl, hB9⟩; replace hB9 := hid hB9))
                      go_ret
                      exact ⟨rfl, hB9.out.k⟩
                    · have hji : ¬ (j : Int) < N := by omega
                      go_wp2_with (first
                        | (go_at_call 22; refine hBt.out.mono ?_; rintro e w8 ⟨v8, X8, rfl, hv8, hB8⟩; have hSm := hB8.same lb1.out lb2.out hv8; rw [show decide (([] : List Nat) = []) = true from rfl] at hSm; replace hSm := hid hSm; replace hB8 := hid hB8; clear hv8)
                        | (go_at_call 23; refine hSm.out.mono ?_; rintro e w9 ⟨rfl, hB9⟩; replace hB9 := hid hB9))
                      go_ret
                      exact ⟨rfl, hB9.out.k⟩
              · have hkp : 0 < (k : Int) := by omega
                have hBt := hB.bitmaps
                replace hBt := hid hBt; replace hB := hid hB; replace hll := hid hll; replace hll2 := hid hll2
                go_wp2_with (first
                  | (go_at_call 22; refine hBt.out.mono ?_; rintro e w5 ⟨v5, X5, rfl, hv5, hB5⟩; have hSm := hB5.same lb1.out lb2.out hv5; rw [show decide (l = []) = false by (have := hll.out; cases l; simp at this; omega; rfl)] at hSm; replace hSm := hid hSm; replace hB5 := hid hB5; clear hv5)
                  | (go_at_call 23; refine hSm.out.mono ?_; rintro e w6 ⟨rfl, hB6⟩; replace hB6 := hid hB6))
                go_loopw [19, 24] (fun v i wr => ∃ j bs' ns' X l, i = .int .i64 (j : Nat) ∧ l.length + j = k ∧ Bk w wr C p bs ns bs' ns' true X (.slice aw 1024 cw) v l l) (fun _ i _ => N - (intOf i).toNat)
                case atStart => exact ⟨0, _, _, _, l, rfl, hll2.out, hB6.out⟩
                case round =>
                  obtain ⟨j, bs7, ns7, X7, l7, rfl, hlj, hB7⟩ := hrel
                  clear hB6
                  obtain ⟨am7, cm7, rfl⟩ := own_shape hB7.row
                  obtain ⟨z, hz⟩ : ∃ z, l7.length = z := ⟨_, rfl⟩
                  have hzb : z ≤ 2048 := by omega
                  have hjb : j ≤ 2048 := by omega
                  by_cases hlt4 : j < N ∧ 0 < z
                  · have hji : (j : Int) < N := by omega
                    have hz0 : 0 < (z : Int) := by omega
                    have hix : 0 ≤ (j : Int) ∧ (j : Int) < (N : Nat) := by omega
                    have hjo : j < os.length := by have := hN.out; omega
                    obtain ⟨go, oo, eO, co⟩ : ∃ g o, aO = some ⟨g, o, none⟩ ∧ wr.cell? ⟨g, o + j, none⟩ = some (.int .i64 os[j]) := by
                      rcases hcO.out with h | ⟨g, o, h1, h2⟩
                      · rw [h] at hjo; cases hjo
                      · exact ⟨g, o, h1, hB7.k.cellF (h2 j hjo) (fun f => f)⟩
                    subst eO
                    generalize os[j] = x at co
                    obtain ⟨at', hat⟩ : ∃ y, withinN x 0 (z - 1) = y := ⟨_, rfl⟩
                    have hatl : at' < z := by have := withinN_le x (show 0 ≤ z - 1 by omega); omega
                    have hW : ∀ W (y : Int), y = ((z - 1 : Nat) : Int) → Calls Tryz.prog 24 #[.int .i64 x, .int .i64 0, .int .i64 y] W fun e w' => e = .returned (.int .i64 (at' : Nat)) ∧ W = w' := fun W y hy => by
                      subst hy; rw [← hat]; exact within_w W x 0 (z - 1) (by omega) (by omega)
                    obtain ⟨gm, eM, cm⟩ : ∃ gm, am7 = some ⟨gm, 0, none⟩ ∧ wr.cell? ⟨gm, at', none⟩ = some (.int .i64 (l7[at']'(by omega) : Nat)) := by
                      rcases hB7.row.shape with ⟨h, h2⟩ | ⟨g, cap, h, _, _, h2⟩
                      · rw [h2] at hz; simp at hz; omega
                      · injection h with h3 h4 h5
                        exact ⟨g, h3, h2 at' (by omega)⟩
                    subst eM
                    have hD := hB7.drop (j := at') (by omega)
                    generalize l7[at']'(by omega) = y7 at hD cm
                    have hel : (l7.eraseIdx at').length = z - 1 := by rw [List.length_eraseIdx_of_lt (by omega), hz]
                    have hWo : ∀ (W : World) (bs8 ns8 : List UInt8), Bk w W C p bs ns bs8 ns8 true X7 (.slice aw 1024 cw) (.slice (some ⟨gm, 0, none⟩) z cm7) (l7.eraseIdx at') l7 → Calls Tryz.prog 26 #[.slice (some ⟨gm, 0, none⟩) z cm7, .int .i64 at'] W fun e w' =>
                        ∃ (a : Option Addr) (cap : Nat) (X' : Nat → Prop), e = .returned (.slice a (z - 1) cap) ∧ Bk w w' C p bs ns bs8 ns8 true X' (.slice aw 1024 cw) (.slice a (z - 1) cap) (l7.eraseIdx at') (l7.eraseIdx at') := fun W bs8 ns8 h => by
                      have := h.without (by omega) at'
                      rw [hel] at this; exact this
                    rw [hz] at hD ⊢
                    have hzi : 0 ≤ (at' : Int) ∧ (at' : Int) < (z : Nat) := by omega
                    replace hB7 := hid hB7; replace hW := hid hW; replace hD := hid hD; replace hel := hid hel; replace hWo := hid hWo; replace hz := hid hz; replace hat := hid hat; replace hlj := hid hlj
                    go_wp2_with (first
                      | (go_at_call 24; refine (hW.out _ _ (by omega)).mono ?_; rintro e w8 ⟨rfl, rfl⟩)
                      | (go_at_call 25; refine hD.out.mono ?_; rintro e w8 ⟨rfl, bs8, ns8, hB8⟩; replace hB8 := hid hB8)
                      | (go_at_call 26; refine (hWo.out _ _ _ hB8.out).mono ?_; rintro e w9 ⟨a9, c9, X9, rfl, hB9⟩; replace hB9 := hid hB9))
                    exact ⟨⟨j + 1, _, _, _, l7.eraseIdx at', by go_num, by have := hel.out; have := hlj.out; have := hz.out; omega, hB9.out⟩, by simp [intOf]; omega⟩
                  · obtain rfl : z = 0 := by omega
                    obtain rfl : l7 = [] := List.eq_nil_of_length_eq_zero hz
                    have hBt := hB7.bitmaps
                    clear hz hlj
                    replace hBt := hid hBt; replace hB7 := hid hB7
                    by_cases hjN : j < N
                    · have hji : (j : Int) < N := by omega
                      go_wp2_with (first
                        | (go_at_call 22; refine hBt.out.mono ?_; rintro e w8 ⟨v8, X8, rfl, hv8, hB8⟩; have hSm := hB8.same lb1.out lb2.out hv8; rw [show decide (([] : List Nat) = []) = true from rfl] at hSm; replace hSm := hid hSm; replace hB8 := hid hB8; clear hv8)
                        | (go_at_call 23; refine hSm.out.mono ?_; rintro e w9 ⟨rfl, hB9⟩; replace hB9 := hid hB9))
                      go_ret
                      exact ⟨rfl, hB9.out.k⟩
                    · have hji : ¬ (j : Int) < N := by omega
                      go_wp2_with (first
                        | (go_at_call 22; refine hBt.out.mono ?_; rintro e w8 ⟨v8, X8, rfl, hv8, hB8⟩; have hSm := hB8.same lb1.out lb2.out hv8; rw [show decide (([] : List Nat) = []) = true from rfl] at hSm; replace hSm := hid hSm; replace hB8 := hid hB8; clear hv8)
                        | (go_at_call 23; refine hSm.out.mono ?_; rintro e w9 ⟨rfl, hB9⟩; replace hB9 := hid hB9))
                      go_ret
                      exact ⟨rfl, hB9.out.k⟩
            · have hki : ¬ (k : Int) < N := by omega
              clear hi0 hz0 hz1 hz2 hfr
              have hll2 : l.length + 0 = k := hll
              by_cases hk0 : k = 0
              · have hki0 : ¬ 0 < (k : Int) := by omega
                clear hk0
                have hBt := hB.bitmaps
                replace hBt := hid hBt; replace hB := hid hB; replace hll := hid hll; replace hll2 := hid hll2
                go_wp2_with (go_at_call 22; refine hBt.out.mono ?_; rintro e w5 ⟨v5, X5, rfl, _, hB6⟩; replace hB6 := hid hB6)
                go_loopw [19, 24] (fun v i wr => ∃ j bs' ns' X l, i = .int .i64 (j : Nat) ∧ l.length + j = k ∧ Bk w wr C p bs ns bs' ns' true X (.slice aw 1024 cw) v l l) (fun _ i _ => N - (intOf i).toNat)
                case atStart => exact ⟨0, _, _, _, l, rfl, hll2.out, hB6.out⟩
                case round =>
                  obtain ⟨j, bs7, ns7, X7, l7, rfl, hlj, hB7⟩ := hrel
                  clear hB6
                  obtain ⟨am7, cm7, rfl⟩ := own_shape hB7.row
                  obtain ⟨z, hz⟩ : ∃ z, l7.length = z := ⟨_, rfl⟩
                  have hzb : z ≤ 2048 := by omega
                  have hjb : j ≤ 2048 := by omega
                  by_cases hlt4 : j < N ∧ 0 < z
                  · have hji : (j : Int) < N := by omega
                    have hz0 : 0 < (z : Int) := by omega
                    have hix : 0 ≤ (j : Int) ∧ (j : Int) < (N : Nat) := by omega
                    have hjo : j < os.length := by have := hN.out; omega
                    obtain ⟨go, oo, eO, co⟩ : ∃ g o, aO = some ⟨g, o, none⟩ ∧ wr.cell? ⟨g, o + j, none⟩ = some (.int .i64 os[j]) := by
                      rcases hcO.out with h | ⟨g, o, h1, h2⟩
                      · rw [h] at hjo; cases hjo
                      · exact ⟨g, o, h1, hB7.k.cellF (h2 j hjo) (fun f => f)⟩
                    subst eO
                    generalize os[j] = x at co
                    obtain ⟨at', hat⟩ : ∃ y, withinN x 0 (z - 1) = y := ⟨_, rfl⟩
                    have hatl : at' < z := by have := withinN_le x (show 0 ≤ z - 1 by omega); omega
                    have hW : ∀ W (y : Int), y = ((z - 1 : Nat) : Int) → Calls Tryz.prog 24 #[.int .i64 x, .int .i64 0, .int .i64 y] W fun e w' => e = .returned (.int .i64 (at' : Nat)) ∧ W = w' := fun W y hy => by
                      subst hy; rw [← hat]; exact within_w W x 0 (z - 1) (by omega) (by omega)
                    obtain ⟨gm, eM, cm⟩ : ∃ gm, am7 = some ⟨gm, 0, none⟩ ∧ wr.cell? ⟨gm, at', none⟩ = some (.int .i64 (l7[at']'(by omega) : Nat)) := by
                      rcases hB7.row.shape with ⟨h, h2⟩ | ⟨g, cap, h, _, _, h2⟩
                      · rw [h2] at hz; simp at hz; omega
                      · injection h with h3 h4 h5
                        exact ⟨g, h3, h2 at' (by omega)⟩
                    subst eM
                    have hD := hB7.drop (j := at') (by omega)
                    generalize l7[at']'(by omega) = y7 at hD cm
                    have hel : (l7.eraseIdx at').length = z - 1 := by rw [List.length_eraseIdx_of_lt (by omega), hz]
                    have hWo : ∀ (W : World) (bs8 ns8 : List UInt8), Bk w W C p bs ns bs8 ns8 true X7 (.slice aw 1024 cw) (.slice (some ⟨gm, 0, none⟩) z cm7) (l7.eraseIdx at') l7 → Calls Tryz.prog 26 #[.slice (some ⟨gm, 0, none⟩) z cm7, .int .i64 at'] W fun e w' =>
                        ∃ (a : Option Addr) (cap : Nat) (X' : Nat → Prop), e = .returned (.slice a (z - 1) cap) ∧ Bk w w' C p bs ns bs8 ns8 true X' (.slice aw 1024 cw) (.slice a (z - 1) cap) (l7.eraseIdx at') (l7.eraseIdx at') := fun W bs8 ns8 h => by
                      have := h.without (by omega) at'
                      rw [hel] at this; exact this
                    rw [hz] at hD ⊢
                    have hzi : 0 ≤ (at' : Int) ∧ (at' : Int) < (z : Nat) := by omega
                    replace hB7 := hid hB7; replace hW := hid hW; replace hD := hid hD; replace hel := hid hel; replace hWo := hid hWo; replace hz := hid hz; replace hat := hid hat; replace hlj := hid hlj
                    go_wp2_with (first
                      | (go_at_call 24; refine (hW.out _ _ (by omega)).mono ?_; rintro e w8 ⟨rfl, rfl⟩)
                      | (go_at_call 25; refine hD.out.mono ?_; rintro e w8 ⟨rfl, bs8, ns8, hB8⟩; replace hB8 := hid hB8)
                      | (go_at_call 26; refine (hWo.out _ _ _ hB8.out).mono ?_; rintro e w9 ⟨a9, c9, X9, rfl, hB9⟩; replace hB9 := hid hB9))
                    exact ⟨⟨j + 1, _, _, _, l7.eraseIdx at', by go_num, by have := hel.out; have := hlj.out; have := hz.out; omega, hB9.out⟩, by simp [intOf]; omega⟩
                  · obtain rfl : z = 0 := by omega
                    obtain rfl : l7 = [] := List.eq_nil_of_length_eq_zero hz
                    have hBt := hB7.bitmaps
                    clear hz hlj
                    replace hBt := hid hBt; replace hB7 := hid hB7
                    by_cases hjN : j < N
                    · have hji : (j : Int) < N := by omega
                      go_wp2_with (first
                        | (go_at_call 22; refine hBt.out.mono ?_; rintro e w8 ⟨v8, X8, rfl, hv8, hB8⟩; have hSm := hB8.same lb1.out lb2.out hv8; rw [show decide (([] : List Nat) = []) = true from rfl] at hSm; replace hSm := hid hSm; replace hB8 := hid hB8; clear hv8)
                        | (go_at_call 23; refine hSm.out.mono ?_; rintro e w9 ⟨rfl, hB9⟩; replace hB9 := hid hB9))
                      go_ret
                      exact ⟨rfl, hB9.out.k⟩
                    · have hji : ¬ (j : Int) < N := by omega
                      go_wp2_with (first
                        | (go_at_call 22; refine hBt.out.mono ?_; rintro e w8 ⟨v8, X8, rfl, hv8, hB8⟩; have hSm := hB8.same lb1.out lb2.out hv8; rw [show decide (([] : List Nat) = []) = true from rfl] at hSm; replace hSm := hid hSm; replace hB8 := hid hB8; clear hv8)
                        | (go_at_call 23; refine hSm.out.mono ?_; rintro e w9 ⟨rfl, hB9⟩; replace hB9 := hid hB9))
                      go_ret
                      exact ⟨rfl, hB9.out.k⟩
              · have hkp : 0 < (k : Int) := by omega
                have hBt := hB.bitmaps
                replace hBt := hid hBt; replace hB := hid hB; replace hll := hid hll; replace hll2 := hid hll2
                go_wp2_with (first
                  | (go_at_call 22; refine hBt.out.mono ?_; rintro e w5 ⟨v5, X5, rfl, hv5, hB5⟩; have hSm := hB5.same lb1.out lb2.out hv5; rw [show decide (l = []) = false by (have := hll.out; cases l; simp at this; omega; rfl)] at hSm; replace hSm := hid hSm; replace hB5 := hid hB5; clear hv5)
                  | (go_at_call 23; refine hSm.out.mono ?_; rintro e w6 ⟨rfl, hB6⟩; replace hB6 := hid hB6))
                go_loopw [19, 24] (fun v i wr => ∃ j bs' ns' X l, i = .int .i64 (j : Nat) ∧ l.length + j = k ∧ Bk w wr C p bs ns bs' ns' true X (.slice aw 1024 cw) v l l) (fun _ i _ => N - (intOf i).toNat)
                case atStart => exact ⟨0, _, _, _, l, rfl, hll2.out, hB6.out⟩
                case round =>
                  obtain ⟨j, bs7, ns7, X7, l7, rfl, hlj, hB7⟩ := hrel
                  clear hB6
                  obtain ⟨am7, cm7, rfl⟩ := own_shape hB7.row
                  obtain ⟨z, hz⟩ : ∃ z, l7.length = z := ⟨_, rfl⟩
                  have hzb : z ≤ 2048 := by omega
                  have hjb : j ≤ 2048 := by omega
                  by_cases hlt4 : j < N ∧ 0 < z
                  · have hji : (j : Int) < N := by omega
                    have hz0 : 0 < (z : Int) := by omega
                    have hix : 0 ≤ (j : Int) ∧ (j : Int) < (N : Nat) := by omega
                    have hjo : j < os.length := by have := hN.out; omega
                    obtain ⟨go, oo, eO, co⟩ : ∃ g o, aO = some ⟨g, o, none⟩ ∧ wr.cell? ⟨g, o + j, none⟩ = some (.int .i64 os[j]) := by
                      rcases hcO.out with h | ⟨g, o, h1, h2⟩
                      · rw [h] at hjo; cases hjo
                      · exact ⟨g, o, h1, hB7.k.cellF (h2 j hjo) (fun f => f)⟩
                    subst eO
                    generalize os[j] = x at co
                    obtain ⟨at', hat⟩ : ∃ y, withinN x 0 (z - 1) = y := ⟨_, rfl⟩
                    have hatl : at' < z := by have := withinN_le x (show 0 ≤ z - 1 by omega); omega
                    have hW : ∀ W (y : Int), y = ((z - 1 : Nat) : Int) → Calls Tryz.prog 24 #[.int .i64 x, .int .i64 0, .int .i64 y] W fun e w' => e = .returned (.int .i64 (at' : Nat)) ∧ W = w' := fun W y hy => by
                      subst hy; rw [← hat]; exact within_w W x 0 (z - 1) (by omega) (by omega)
                    obtain ⟨gm, eM, cm⟩ : ∃ gm, am7 = some ⟨gm, 0, none⟩ ∧ wr.cell? ⟨gm, at', none⟩ = some (.int .i64 (l7[at']'(by omega) : Nat)) := by
                      rcases hB7.row.shape with ⟨h, h2⟩ | ⟨g, cap, h, _, _, h2⟩
                      · rw [h2] at hz; simp at hz; omega
                      · injection h with h3 h4 h5
                        exact ⟨g, h3, h2 at' (by omega)⟩
                    subst eM
                    have hD := hB7.drop (j := at') (by omega)
                    generalize l7[at']'(by omega) = y7 at hD cm
                    have hel : (l7.eraseIdx at').length = z - 1 := by rw [List.length_eraseIdx_of_lt (by omega), hz]
                    have hWo : ∀ (W : World) (bs8 ns8 : List UInt8), Bk w W C p bs ns bs8 ns8 true X7 (.slice aw 1024 cw) (.slice (some ⟨gm, 0, none⟩) z cm7) (l7.eraseIdx at') l7 → Calls Tryz.prog 26 #[.slice (some ⟨gm, 0, none⟩) z cm7, .int .i64 at'] W fun e w' =>
                        ∃ (a : Option Addr) (cap : Nat) (X' : Nat → Prop), e = .returned (.slice a (z - 1) cap) ∧ Bk w w' C p bs ns bs8 ns8 true X' (.slice aw 1024 cw) (.slice a (z - 1) cap) (l7.eraseIdx at') (l7.eraseIdx at') := fun W bs8 ns8 h => by
                      have := h.without (by omega) at'
                      rw [hel] at this; exact this
                    rw [hz] at hD ⊢
                    have hzi : 0 ≤ (at' : Int) ∧ (at' : Int) < (z : Nat) := by omega
                    replace hB7 := hid hB7; replace hW := hid hW; replace hD := hid hD; replace hel := hid hel; replace hWo := hid hWo; replace hz := hid hz; replace hat := hid hat; replace hlj := hid hlj
                    go_wp2_with (first
                      | (go_at_call 24; refine (hW.out _ _ (by omega)).mono ?_; rintro e w8 ⟨rfl, rfl⟩)
                      | (go_at_call 25; refine hD.out.mono ?_; rintro e w8 ⟨rfl, bs8, ns8, hB8⟩; replace hB8 := hid hB8)
                      | (go_at_call 26; refine (hWo.out _ _ _ hB8.out).mono ?_; rintro e w9 ⟨a9, c9, X9, rfl, hB9⟩; replace hB9 := hid hB9))
                    exact ⟨⟨j + 1, _, _, _, l7.eraseIdx at', by go_num, by have := hel.out; have := hlj.out; have := hz.out; omega, hB9.out⟩, by simp [intOf]; omega⟩
                  · obtain rfl : z = 0 := by omega
                    obtain rfl : l7 = [] := List.eq_nil_of_length_eq_zero hz
                    have hBt := hB7.bitmaps
                    clear hz hlj
                    replace hBt := hid hBt; replace hB7 := hid hB7
                    by_cases hjN : j < N
                    · have hji : (j : Int) < N := by omega
                      go_wp2_with (first
                        | (go_at_call 22; refine hBt.out.mono ?_; rintro e w8 ⟨v8, X8, rfl, hv8, hB8⟩; have hSm := hB8.same lb1.out lb2.out hv8; rw [show decide (([] : List Nat) = []) = true from rfl] at hSm; replace hSm := hid hSm; replace hB8 := hid hB8; clear hv8)
                        | (go_at_call 23; refine hSm.out.mono ?_; rintro e w9 ⟨rfl, hB9⟩; replace hB9 := hid hB9))
                      go_ret
                      exact ⟨rfl, hB9.out.k⟩
                    · have hji : ¬ (j : Int) < N := by omega
                      go_wp2_with (first
                        | (go_at_call 22; refine hBt.out.mono ?_; rintro e w8 ⟨v8, X8, rfl, hv8, hB8⟩; have hSm := hB8.same lb1.out lb2.out hv8; rw [show decide (([] : List Nat) = []) = true from rfl] at hSm; replace hSm := hid hSm; replace hB8 := hid hB8; clear hv8)
                        | (go_at_call 23; refine hSm.out.mono ?_; rintro e w9 ⟨rfl, hB9⟩; replace hB9 := hid hB9))
                      go_ret
                      exact ⟨rfl, hB9.out.k⟩
end Go.Vk

namespace Go.Vk
open Go.RowKit Go.Proofs

theorem poolBack_w (w : World) (a b c : Int) (va : Value) (acts : List ActR) (hva : ArgActs w va acts) (vo : Value) (os : List Int) (hvo : ArgInts w vo os) (nodes : Bool) : Calls Tryz.prog 5 #[.agg #[.int .i64 a, .int .i64 b, .int .i64 c], va, vo, .bool nodes] w fun e w' => e = .returned (.bool true) ∧ Keeps (fun _ => False) w w' := by
  by_cases h : acts.length ≤ 200
  · cases nodes
    · exact poolBack_fs w a b c va acts hva vo os hvo h
    · exact poolBack_ts w a b c va acts hva vo os hvo h
  · cases nodes
    · exact poolBack_fl w a b c va acts hva vo os hvo h
    · exact poolBack_tl w a b c va acts hva vo os hvo h
end Go.Vk

namespace Go.Vk
open Go.ChangeShapes Go.WideShapes Go.RowKit Go.Proofs

theorem add_none (b off i : Nat) : (⟨b, off, none⟩ : Addr).add i = ⟨b, off + i, none⟩ := by
  unfold Addr.add
  split <;> simp_all
set_option maxRecDepth 100000 in
theorem open_orders {H : Type} {enc : TypeId × Value → H} {W : World} {base b0 : Nat} {r : Reach} {spare : Nat → Bool} {held : Bool} {v : Value} {d : DataW H} {ps : List MemPlace} (hval : Value.okWide Tryz.prog W r b0 49 v) (h : DataW.Trod enc Tryz.prog W base spare held 49 v d ps) :
    ∃ l, ArgInts W v l := by
  obtain ⟨a0, len, cap, rfl⟩ := okWide_slice Tryz.underlying49 hval
  obtain ⟨fuel, hf⟩ := h
  have hc1 : Tryz.prog.cellsOf 3 = 1 := by kernel_rfl
  rcases open_ints Tryz.underlying49 Tryz.underlying3 hc1 hf with ⟨hcs, _⟩ | ⟨a, len', cap', zs, hcs, hb, hl, hm, hzl, _, hx, _⟩
  · simp [Value.cells] at hcs
    obtain ⟨rfl, rfl, rfl⟩ := hcs
    exact ⟨[], none, 0, rfl, .inl rfl⟩
  · simp [Value.cells] at hcs
    obtain ⟨rfl, rfl, rfl⟩ := hcs
    have hlz : len ≤ zs.length := by rw [hzl]; split <;> omega
    refine ⟨zs.take len, some a, cap, by rw [List.length_take, Nat.min_eq_left hlz], ?_⟩
    by_cases hz : len = 0
    · left; rw [hz]; rfl
    · right
      obtain ⟨b, off, spot⟩ := a
      have h0 := hx 0 (by omega)
      have hsp : spot = none := by
        have := World.cell?_spot h0
        simpa [Addr.add] using this
      subst hsp
      refine ⟨b, off, rfl, fun i hi => ?_⟩
      rw [List.length_take, Nat.min_eq_left hlz] at hi
      have q := hx i (by omega)
      rw [add_none] at q
      rw [q, List.getElem_take, List.getD_eq_getElem?_getD, List.getElem?_eq_getElem (by omega)]
      rfl
end Go.Vk
