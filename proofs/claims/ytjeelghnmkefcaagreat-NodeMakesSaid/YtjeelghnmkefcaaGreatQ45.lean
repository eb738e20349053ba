/- Part of the proof: No3 No8 NoA No9 NtA. -/
import Derived.Test.YtjeelghnmkefcaaGreatQ42
import Derived.Test.YtjeelghnmkefcaaGreatQ43
import Derived.Test.YtjeelghnmkefcaaGreatQ44
import Derived.Deep.RegionHeld2
import Derived.StillTailTactics
set_option linter.unusedVariables false
set_option maxHeartbeats 16000000
set_option maxRecDepth 100000
namespace Go.Vk
open Go.RowKit Go.Proofs
open Tryz (prog)
def TS.freeC (T:TS) (G:Geom) (k:Int):Nat × TS:=
 if outN G k then (11,T)
 else if (rdN (T.slot k.toNat)).1=0 then
  (if (rdN (T.slot k.toNat)).2.owned=0 then (if (T.drop G true k).1=0 then (T.drop G true k).2.laySl k.toNat (aaD 128) else T.drop G true k) else (71,T))
 else ((rdN (T.slot k.toNat)).1,T)
theorem auX (T:TS) (b:Nat) (d:List UInt8) {k:Nat} (h:k≠b):(T.puts b d).2.raw k=T.raw k:=by
 have:(T.lay b d).raw k=T.raw k:=by show (if k=b then d else T.raw k)=_;rw [if_neg h]
 unfold TS.puts
 repeat' split
 all_goals first|rfl|exact this
theorem av4 {T:TS} {G:Geom} {k:Int} (h0:T.st=0) (hz:(T.drop G true k).1=0):(T.drop G true k).2.st=0/\∀ b,b≠1->(T.drop G true k).2.raw b=T.raw b:=by
 unfold TS.drop at hz ⊢
 simp only [if_pos h0] at hz ⊢
 by_cases ho:xOut G true k
 ·rw [if_pos ho] at hz;cases hz
 ·simp only [if_neg ho] at hz ⊢
  unfold TS.dropX at hz ⊢
  by_cases hb:abP (T.raw true.toNat) (k.toNat - true.toNat)=true
  ·simp only [if_pos hb] at hz ⊢
   exact ⟨by rw [auW hz];exact h0,λ b a0=>auX T _ _ (by exact a0)⟩
  ·simp only [if_neg hb] at hz;cases hz
section
variable {w w':World} {C:TxC} {T T':TS} {X Y:Nat->Prop} {tab p:Nat} {bk bt:Nat} {q:Nat} {k:Int}
theorem aB0 (h:Ab4 w C T X tab p) (ct:w.cell? ↑bt=some ↑tab) (ck:w.cell? ↑bk=some (I k)) (ho:outN C.G k) :
  Calls prog 107 #[↑bt,↑bk] w (AcI w C (T.freeC C.G k).1 (T.freeC C.G k).2 X NoF (λ _=>True)):=by
 have hK:=aiV h k
 have hc:T.freeC C.G k=(11,T):=if_pos ho
 rw [hc]
 have hP:∀ w',AaA NoF w w'->AcI w C 11 T X NoF (λ _=>True) (thrE 11) w':=λ w' kk=>⟨adE (by decide),h.pl.quiet kk,trivial,kk.mono λ _ _ f=>f.elim⟩
 dsimp only
 generalize AcI w C 11 T X NoF (λ _=>True)=Post at *
 replace ⟨hK,hP,ho⟩:=yh3 hK hP ho;clear h hc
 go_enter Tryz.func107,Tryz.ntmps107
 go_wp2_with fail
 refine hK.out.mono ?_
 rintro e w1 ⟨k1,hX⟩
 rcases hX with ⟨x,_⟩|⟨_,rfl⟩
 ·exact absurd ho.out x
 ·exact ⟨rfl,hP.out _ k1⟩
theorem ayR (h:Ab4 w C T X tab p) (h0:T.st=0) (ct:w.cell? ↑bt=some ↑tab) (ck:w.cell? ↑bk=some (I q))
  (xt:X bt) (xk:X bk) (ho:¬ outN C.G q) :
  Calls prog 107 #[↑bt,↑bk] w (AcI w C (T.freeC C.G q).1 (T.freeC C.G q).2 X NoF (λ _=>True)):=by
 have hK:=aiV h q
 have ho':=ho
 unfold outN at ho'
 have a3:T.freeC C.G q=if (rdN (T.slot q)).1=0 then (if (rdN (T.slot q)).2.owned=0 then (if (T.drop C.G true q).1=0 then (T.drop C.G true q).2.laySl q (aaD 128) else T.drop C.G true q) else (71,T)) else ((rdN (T.slot q)).1,T):=by unfold TS.freeC;rw [if_neg ho];rfl
 have hP:∀ w' e,endE (T.freeC C.G q).1 e->Aa6 w' C (T.freeC C.G q).2 X->AaA (KF C) w w'->AcI w C (T.freeC C.G q).1 (T.freeC C.G q).2 X NoF (λ _=>True) e w':=λ w' e a b c=>⟨a,b,trivial,c.mono λ _ _ x=>.inl x⟩
 generalize AcI w C (T.freeC C.G q).1 (T.freeC C.G q).2 X NoF (λ _=>True)=Post at *
 have hS:=λ (w:World) (h:Ab4 w C T X tab p)=>alY h h0 q (by omega) (by omega)
 have a5:=h.pl.len (nblk q) (aiU h.pl.geo (by omega))
 have af:=h.pl.geo.n2
 have hH:=λ (w:World) (g c:Nat) (h:Blk w g (aaE (T.raw (nblk q)++aaD c)))=>aqC w q (nblk q) g c _ h (by rw [aEH,a5];omega) (by omega) (by omega)
 have hsl:∀ c,acD (T.raw (nblk q)++aaD c) (nix q)=T.slot q:=λ c=>ai8 a5 (agS q)
 have ac:=avF (rdN (T.slot q)).2
 have a6:=λ (i:Nat) (hi:X i)=>h.pl.notF hi
 replace ⟨h,hK,hP,a3,ho,hS,hH,hsl⟩:=yh8 h hK hP a3 ho hS hH hsl;replace ⟨a6,h0,ho'⟩:=yh3 a6 h0 ho';clear a5
 go_enter Tryz.func107,Tryz.ntmps107
 go_wp2_with fail
 refine hK.out.mono ?_
 rintro e w1 ⟨k1,hX⟩
 rcases hX with ⟨_,rfl⟩|⟨x,_⟩
 rotate_left
 ·exact absurd x ho.out
 replace ct:=k1.cellF ct (λ f=>f)
 replace ck:=k1.cellF ck (λ f=>f)
 have N2:=h.out.quiet k1
 replace ⟨k1,N2⟩:=yh2 k1 N2
 clear hK
 go_wp2_with fail
 refine (hS.out _ N2.out).mono ?_
 rintro e w3 ⟨g,c,rfl,aa,hg,N3,k3⟩
 replace ct:=k3.cellF ct (a6.out bt xt)
 replace ck:=k3.cellF ck (a6.out bk xk)
 have kA:AaA (KF C) w w3:=(k1.out.mono (F:=λ _=>False) (G:=KF C) (λ _ _ f=>f.elim)).step k3
 have l3:=k3.size
 have lg:=hg.lt
 clear k3 hS
 replace ⟨hg,N3,kA,aa,lg⟩:=yh5 hg N3 kA aa lg
 unfold afX
 go_upto_region 2 with fail
 have s4:=Blk.new w3 (ac5 q (nblk q) g (512+c))
 have kz4:AaA NoF w3 (w3.alloc (ac5 q (nblk q) g (512+c))):=(AaA.refl _ w3).alloc _
 have N4:=N3.out.wide kz4
 have g4:=hg.out.alloc (ac5 q (nblk q) g (512+c))
 have ct4:=aaU ct (ac5 q (nblk q) g (512+c))
 have ck4:=aaU ck (ac5 q (nblk q) g (512+c))
 have kB:=kA.out.alloc (ac5 q (nblk q) g (512+c))
 have ad:=N3.out.pl.lt
 change Code.wp _ _ _ _ (w3.alloc (ac5 q (nblk q) g (512+c)))
 generalize w3.alloc (ac5 q (nblk q) g (512+c))=w4 at *
 clear kz4 hg kA N3 ct ck
 have d0:w4.cell? ↑w3.heap.size=some (I q):=by have:=s4.cell 0;simpa using this
 have d1:w4.cell? ⟨w3.heap.size,1,none⟩=some (I (nblk q:Nat)):=by have:=s4.cell 1;simpa using this
 have d2:w4.cell? ⟨w3.heap.size,2,none⟩=some (.slice ↑g 512 (512+c)):=by have:=s4.cell 2;simpa using this
 have a7:=hH.out w4 g c g4
 rw [hsl.out c] at a7
 have nf4:=N4.pl.notF (i:=w3.heap.size) (.inr ⟨aEK _,s4.lt⟩)
 have nfg:=N4.pl.notF (i:=g) (.inl (.inr ⟨aa.out,lg.out⟩))
 replace ⟨s4,N4,g4,kB,a7,nf4,nfg⟩:=yh7 s4 N4 g4 kB a7 nf4 nfg;clear ad
 go_wp2_with fail
 refine a7.out.mono ?_
 rintro e w5 ⟨k5,hX⟩
 have N5:=N4.out.quiet k5
 have g5:=k5.blk g4.out (λ f=>f)
 have s5:=k5.blk s4.out (λ f=>f)
 have kC:=kB.out.step (k5.mono (F:=λ _=>False) (G:=KF C) λ _ _ f=>f.elim)
 have ct5:=k5.cellF ct4 (λ f=>f)
 have ck5:=k5.cellF ck4 (λ f=>f)
 have l5:=k5.size
 have l4:=s4.out.lt
 clear d0 d1 d2 ct4 ck4 k5 a7 N4 g4 kB s4 hH
 rcases hX with ⟨hz,rfl⟩|⟨hz,rfl⟩
 rotate_left
 ·exact ⟨rfl,hP.out w5 _ (by rw [a3.out,if_neg hz];exact adE hz) (by rw [a3.out,if_neg hz];exact N5.pl.less (λ i hi=>.inl (.inl hi))) kC⟩
 by_cases a2:(rdN (T.slot q)).2.owned=0
 ·have a8:((rdN (T.slot q)).2.owned != 0)=false:=by simpa using a2
  replace ⟨N5,g5,s5,kC,hz,a2⟩:=yh6 N5 g5 s5 kC hz a2
  go_upto_region 4 with fail
  clear ac a8
  have N6:=N5.out.quiet ((AaA.refl NoF w5).drew)
  obtain ⟨a0,b0⟩:=N6.cells
  have hD:=N6.pl.dropN N6.hp N6.xp (q:Int)
  have ct6:w5.drew.cell? ↑bt=some ↑tab:=ct5
  have ck6:w5.drew.cell? ↑bk=some (I q):=ck5
  replace ⟨N6,hD⟩:=yh2 N6 hD
  clear ct5 ck5
  go_still_tail 5,(by kernel_rfl)
  change wpList _ _ _ _ _ w5.drew
  go_wp2_with fail
  refine hD.out.mono ?_
  rintro e w6 ⟨rfl,P7,k7⟩
  have N7:=N6.out.step k7 (λ i x=>.inl x) P7
  have g7:=k7.blk g5.out.drew nfg.out
  have s7:=k7.blk s5.out.drew nf4.out
  have ct7:=k7.cellF ct6 (a6.out bt xt)
  have kD:=kC.out.drew.step k7
  have l7:=k7.size
  clear k7 P7 a0 b0 ct6 ck6 hD g5 s5 kC N6 N5
  by_cases a4:(T.drop C.G true (q:Int)).1=0
  ·obtain ⟨t1,t2⟩:=av4 h0.out a4
   have a1:T.freeC C.G q=(T.drop C.G true q).2.laySl q (aaD 128):=by rw [a3.out,if_pos hz.out,if_pos a2.out,if_pos a4]
   rw [← t2 (nblk q) (by unfold nblk;omega)] at g7
   rw [a4]
   generalize (T.drop C.G true (q:Int)).2=T6 at *
   have ae:=ho'.out
   have a9:=aa.out
   have hL:=avD N7 t1 q g c (by omega) (by omega) g7 (.inl (.inr ⟨a9,lg.out⟩)) (λ e=>by have:=N2.out.pl.lt tab h.out.xt;omega) (λ e=>by have:=N2.out.pl.lt p h.out.xp;omega) (n:=Nd.zero) rfl (.inl rfl)
   rw [show encN Nd.zero=aaD 128 from rfl] at hL
   have hPP:∀ e w8,AnM w6 C (T6.laySl q (aaD 128)) (Wid (Wid X w1 w3) w3 w4) g e w8->Post e w8:=λ e w8 ⟨x1,x2,x3⟩=>by
    refine hP.out w8 e ?_ ?_ ?_
    ·rw [a1];exact x1
    ·rw [a1];exact x2.less (λ i hi=>.inl (.inl hi))
    ·exact kD.trans x3 (λ i hi x=>x.elim id (λ e=>by have:=k1.out.size;omega))
   have d0:w6.cell? ↑w3.heap.size=some (I q):=by have:=s7.cell 0;simpa using this
   have d1:w6.cell? ⟨w3.heap.size,1,none⟩=some (I (nblk q:Nat)):=by have:=s7.cell 1;simpa using this
   have d2:w6.cell? ⟨w3.heap.size,2,none⟩=some (.slice ↑g 512 (512+c)):=by have:=s7.cell 2;simpa using this
   unfold afX ndV at hL
   replace ⟨N7,g7,s7,kD,a4,a1,hL,hPP⟩:=yh8 N7 g7 s7 kD a4 a1 hL hPP;clear ae a9 t1 t2
   go_wp2_with (go_at_call 103;refine (akF _).mono ?_;rintro e w8 ⟨rfl,rfl⟩)
   refine hL.out.mono ?_
   intro e w8 hx
   have hp8:=hPP.out e w8 hx
   obtain ⟨ab,_,_⟩:=hx
   rcases ab with ⟨hc,rfl⟩|⟨hc,rfl⟩
   ·replace hp8:=hid hp8
    clear hc
    go_wp2_with fail
    go_end0
    exact hp8.out
   ·exact ⟨rfl,hp8⟩
  ·have a1:T.freeC C.G q=T.drop C.G true q:=by rw [a3.out,if_pos hz.out,if_pos a2.out,if_neg a4]
   have hPP:=hP.out w6 (thrE (T.drop C.G true q).1) (by rw [a1];exact adE a4) (by rw [a1];exact N7.pl.less (λ i hi=>.inl (.inl hi))) kD
   generalize (T.drop C.G true (q:Int)).1=cd at *
   replace hPP:=hid hPP;clear N7 g7 s7 kD a1
   go_wp2_with (go_at_call 103;refine (ajH _ cd a4).mono ?_;rintro e w8 ⟨rfl,rfl⟩)
   exact ⟨rfl,hPP.out⟩
 ·have a8:((rdN (T.slot q)).2.owned != 0)=true:=by simpa using a2
  have hPP:=hP.out w5 (thrE 71) (by rw [a3.out,if_pos hz,if_neg a2];exact adE (c:=71) (by decide)) (by rw [a3.out,if_pos hz,if_neg a2];exact N5.pl.less (λ i hi=>.inl (.inl hi))) kC
  replace hPP:=hid hPP;clear N5 g5 s5 kC hz a2
  go_wp2_with fail
  exact ⟨rfl,hPP.out⟩
end
theorem aqO (T:TS) (b:Nat) (d:List UInt8):(T.puts b d).1≠6:=by
 unfold TS.puts
 repeat' split
 all_goals (dsimp only;decide)
theorem an1 (T:TS) (k:Nat) (b:List UInt8):(T.laySl k b).1≠6:=aqO _ _ _
theorem aB6 {T:TS} {G:Geom} (h0:T.st=0) (nd:Bool) (n:Int):(T.drop G nd n).1≠6:=by
 unfold TS.drop
 rw [if_pos h0]
 split
 ·dsimp only;decide
 ·unfold TS.dropX
  split
  ·exact aqO _ _ _
  ·dsimp only;decide
theorem aAE {T:TS} {G:Geom} (h0:T.st=0):(T.take G true).1.2≠6:=by
 unfold TS.take
 rw [if_pos h0]
 unfold TS.takeX
 split
 ·exact aqO _ _ _
 ·dsimp only;decide
theorem aCB (n:Nat) (kind parent:Int):argE n kind parent≠6:=by
 unfold argE
 repeat' split
 all_goals decide
theorem aBY {T:TS} (G:Geom) (h0:T.st=0) (k:Int):T.free G k=((T.freeC G k).1,(T.freeC G k).2.thrown (T.freeC G k).1):=by
 unfold TS.free TS.ranged TS.freeC
 rw [if_pos h0]
 by_cases ho:outN G k
 ·have ho':k<1∨(G.n:Int)<k:=ho
  rw [if_pos ho',if_pos ho]
  rfl
 ·have ho':¬ (k<1∨(G.n:Int)<k):=ho
  rw [if_neg ho',if_neg ho,if_pos rfl]
  by_cases h1:(rdN (T.slot k.toNat)).1=0
  ·rw [if_pos h1,if_pos h1]
   by_cases h2:(rdN (T.slot k.toNat)).2.owned=0
   ·rw [if_pos h2]
    by_cases h3:(T.drop G true k).1=0
    ·rw [if_pos h3,agL (an1 _ _ _)]
    ·rw [if_neg h3,agL (aB6 h0 _ _)]
   ·rw [if_neg h2];rfl
  ·rw [if_neg h1,if_neg h1]
theorem ayQ {T:TS} (G:Geom) (h0:T.st≠0) (k:Int):T.free G k=(T.st,T):=by
 unfold TS.free TS.ranged
 rw [if_neg h0,if_neg h0]
theorem aAQ {T:TS} (G:Geom) (h0:T.st=0) (k:Int) (n:Nd):T.save G k n=((T.saveC G k n).1,(T.saveC G k n).2.thrown (T.saveC G k n).1):=by
 unfold TS.save TS.ranged TS.saveC
 rw [if_pos h0]
 by_cases ho:outN G k
 ·have ho':k<1∨(G.n:Int)<k:=ho
  rw [if_pos ho',if_pos ho]
  rfl
 ·have ho':¬ (k<1∨(G.n:Int)<k):=ho
  rw [if_neg ho',if_neg ho,if_pos rfl]
  by_cases hf:Ac4 n/\n.kind≠0
  ·rw [if_pos hf,if_pos hf]
   by_cases h1:(rdN (T.slot k.toNat)).1=0
   ·rw [if_pos h1,if_pos h1]
    by_cases h2:(rdN (T.slot k.toNat)).2.kind=n.kind
    ·rw [if_pos h2,agL (an1 _ _ _)]
    ·rw [if_neg h2];rfl
   ·rw [if_neg h1,if_neg h1]
  ·rw [if_neg hf,if_neg hf];rfl
theorem axO {T:TS} (G:Geom) (h0:T.st≠0) (k:Int) (n:Nd):T.save G k n=(T.st,T):=by
 unfold TS.save TS.ranged
 rw [if_neg h0,if_neg h0]
theorem aoY {P:Program} {fn:Func} {p:Tmp} {ty:TypeId} (h:fn.results=#[.cell p ty]) (tmps:Array Value) (w:World) (g:Nat) (v:Value)
  (hp:tmps.getD p undef=↑g) (h1:(loadVar ty ⟨g,0,none⟩).run P w=.ok v w) :
  (results fn tmps).run P w=.ok v w:=by
 have a0:tmps[p]?.getD undef=↑g:=by simpa using hp
 simp [results,h,a0,asAddr,h1]
section
variable {w w':World} {C:TxC} {T T':TS} {X Y:Nat->Prop} {tab p:Nat}
def AkU (w:World) (C:TxC) (X:Nat->Prop) (tab p:Nat) (r:Nat × TS) (e:Ending) (w':World):Prop:=
 e=U (I (r.1:Nat))/\Ab4 w' C r.2 X tab p/\AaA (KF C) w w'
theorem aBZ (h:Ab4 w C T X tab p) (h0:T.st=0) {bt bk:Nat} {k:Int} (ct:w.cell? ↑bt=some ↑tab) (ck:w.cell? ↑bk=some (I k)) (xt:X bt) (xk:X bk) :
  Calls prog 107 #[↑bt,↑bk] w (AcI w C (T.freeC C.G k).1 (T.freeC C.G k).2 X NoF (λ _=>True)):=by
 by_cases ho:outN C.G k
 ·exact aB0 h ct ck ho
 ·obtain ⟨q,rfl⟩:∃ q:Nat,k=q:=⟨k.toNat,by unfold outN at ho;omega⟩
  exact ayR h h0 ct ck xt xk ho
theorem aAR (h:Ab4 w C T X tab p) (h0:T.st=0) {bt bk bn:Nat} {k:Int} {n:Nd} (ct:w.cell? ↑bt=some ↑tab) (ck:w.cell? ↑bk=some (I k)) (hb:Blk w bn (ndO n)) (hn:n.ptr.length=12) (xt:X bt) (xk:X bk) (xn:X bn) :
  Calls prog 105 #[↑bt,↑bk,↑bn] w (AcI w C (T.saveC C.G k n).1 (T.saveC C.G k n).2 X NoF (λ _=>True)):=by
 by_cases ho:outN C.G k
 ·exact auL h ct ck hb hn (.inl ho)
 ·by_cases hf:Ac4 n/\n.kind≠0
  ·obtain ⟨q,rfl⟩:∃ q:Nat,k=q:=⟨k.toNat,by unfold outN at ho;omega⟩
   exact axP h h0 ct ck hb hn xt xk xn ho hf.1 hf.2
  ·exact auL h ct ck hb hn (.inr hf)
theorem aBD (h:Ab4 w C T X tab p) (k:Int):Calls prog 45 #[↑tab,I k] w (AkU w C X tab p (T.free C.G k)):=by
 have a3:∀ (fn:Fn) (first cap:Array Value) (w:World),(Instr.makeFunc fn first cap).run prog w=.ok (.func fn first cap) w:=λ _ _ _ _=>rfl
 obtain ⟨wA,a0⟩:∃ wA,((w.alloc (.cells #[↑tab] 27 (0,0))).alloc (.cells #[I k] 3 (0,0))).alloc (errO 0)=wA:=⟨_,rfl⟩
 have hsz:wA.heap.size=w.heap.size+1+1+1:=by rw [← a0];simp only [aEI]
 have kA:AaA NoF w wA:=by rw [← a0];exact (((AaA.refl _ w).alloc _).alloc _).alloc _
 have hT:Blk wA w.heap.size (.cells #[↑tab] 27 (0,0)):=by rw [← a0];exact ((Blk.new w _).alloc _).alloc _
 have hK:Blk wA (w.heap.size+1) (.cells #[I k] 3 (0,0)):=by rw [← a0,← aEI w (.cells #[↑tab] 27 (0,0))];exact (Blk.new _ _).alloc _
 have hE:Blk wA (w.heap.size+1+1) (errO 0):=by
  rw [← a0,show w.heap.size+1+1=((w.alloc (.cells #[↑tab] 27 (0,0))).alloc (.cells #[I k] 3 (0,0))).heap.size by simp only [aEI]]
  exact Blk.new _ _
 have NA:=h.wide kA
 have lt1:=h.pl.lt _ h.xt
 have lt2:=h.pl.lt _ h.xp
 have xx:∀ i,w.heap.size<=i->i<w.heap.size+1+1+1->Wid X w wA i:=λ i a b=>.inr ⟨a,by omega⟩
 have a1:Calls prog 61 #[↑tab,↑(w.heap.size+1+1),.func (.func 107) #[] #[↑w.heap.size,↑(w.heap.size+1)]] wA λ e w'=>
   e=U (.tuple #[])/\Blk w' (w.heap.size+1+1) (errO ((T.free C.G k).1:Nat))/\Aa6 w' C (T.free C.G k).2 (Wid X w wA)/\AaA (λ i=>KF C i∨w.heap.size<=i) wA w':=by
  by_cases h0:T.st=0
  ·rw [aBY C.G h0]
   refine (amA (c:=(T.freeC C.G k).1) (T0:=(T.freeC C.G k).2) NA.pl h0 NA.ht NA.hp hE NA.xt NA.xp (xx _ (by omega) (by omega)) (by omega) (by omega) _ _ (λ w=>by kernel_rfl) (G:=λ _=>False) (λ i e=>e.elim) (λ w1 k1 p1=>?_) (R:=λ _=>True) (λ w' w'' a b=>trivial)).mono ?_
   ·have cT:=(k1.blk hT (λ f=>f)).cell 0
    have cK:=(k1.blk hK (λ f=>f)).cell 0
    simp at cT cK
    exact aBZ (NA.wide k1) h0 cT cK (.inl (xx _ (by omega) (by omega))) (.inl (xx _ (by omega) (by omega)))
   ·rintro e w' ⟨x1,x2,x3,x4,x5⟩
    exact ⟨x1,x2,x3,x5.mono λ i _ y=>y.elim .inl (λ y=>.inr (by rcases y with y|y;exact y.elim;omega))⟩
  ·rw [ayQ C.G h0]
   refine (ahX NA.pl h0 NA.ht NA.hp hE NA.xt NA.xp (xx _ (by omega) (by omega)) (by omega) (by omega) _).mono ?_
   rintro e w' ⟨x1,x2,x3,x4,x5⟩
   exact ⟨x1,x2,x3,x5.mono λ i _ y=>y.elim .inl (λ y=>.inr (by rcases y with y|y;exact y.elim;omega))⟩
 have hP:∀ w',Aa6 w' C (T.free C.G k).2 X->AaA (KF C) w w'->AkU w C X tab p (T.free C.G k) (U (I ((T.free C.G k).1:Nat))) w':=λ w' a b=>⟨rfl,h.step b (λ i x=>.inl x) a,b⟩
 generalize AkU w C X tab p (T.free C.G k)=Post at *
 obtain ⟨⟨cz,T'⟩,hr⟩:∃ r,T.free C.G k=r:=⟨_,rfl⟩
 rw [hr] at a1 hP
 dsimp only at a1 hP
 have cT:=hT.cell 0
 simp at cT
 replace ⟨kA,a1,hP⟩:=yh3 kA a1 hP;clear h hsz hT hK hE NA xx hr
 go_enter Tryz.func45,Tryz.ntmps45
 go_upto_region 1 with fail
 change Code.wp _ _ _ _ (((w.alloc (.cells #[↑tab] 27 (0,0))).alloc (.cells #[I k] 3 (0,0))).alloc (errO 0))
 rw [a0]
 clear a0
 go_wp2_with fail
 refine a1.out.mono ?_
 rintro e w1 ⟨rfl,e1,p1,k1⟩
 have kW:AaA (KF C) w w1:=(kA.out.mono (F:=λ _=>False) (G:=KF C) (λ _ _ f=>f.elim)).trans k1 (λ i hi x=>x.elim id (λ x=>by omega))
 have hs:=alB (i:=0) (v:=I (cz:Nat)) e1 rfl
 have hPP:=hP.out _ (p1.less (λ i hi=>.inl hi)) kW
 rw [← hs] at hPP
 have a2:=e1
 rw [← hs] at a2
 have c0:=e1.cell 0
 have ef:=Blk.frz e1
 unfold errO at c0
 simp at c0
 clear a1 cT p1 k1 kW hs e1
 replace ⟨hPP,a2⟩:=yh2 hPP a2
 go_wp2
 exact bodyPost_ret (v:=I (cz:Nat)) (aoY rfl _ _ (w.heap.size+1+1) _ rfl (aeW _ _ _ a2.out)) rfl hPP.out
end
theorem aBI {T:TS} (G:Geom) (h0:T.st=0) (kind parent:Int):T.make G kind parent=(((T.makeC G kind parent).2.1,(T.makeC G kind parent).1),(T.makeC G kind parent).2.2.thrown (T.makeC G kind parent).1):=by
 unfold TS.make TS.makeC
 rw [if_pos h0]
 by_cases h1:argE G.n kind parent=0
 ·rw [if_pos h1,if_pos h1]
  by_cases h2:(T.take G true).1.2=0
  ·rw [if_pos h2,if_pos h2,agL (an1 _ _ _)]
  ·rw [if_neg h2,if_neg h2,agL (aAE h0)]
 ·rw [if_neg h1,if_neg h1,agL (aCB _ _ _)]
theorem ayD {T:TS} (G:Geom) (h0:T.st≠0) (kind parent:Int):T.make G kind parent=((0,T.st),T):=by
 unfold TS.make
 rw [if_neg h0]
theorem aCW (x:Int) (b:Nat) (w:World) (hc:w.cell? ↑b=some (I x)) (hf:w.frozen? ↑b=false):(Instr.storeAt 3 ↑b (I x)).run prog w=.ok () (w.setCell ↑b (I x)):=by
 simp [Instr.storeAt,Instr.sureAddr,storeVar,go_sem,hc,hf]
theorem aqW (w:World) (g:Nat) (x:Int) (hg:Blk w g (intO x)):(loadVar 3 ⟨g,0,none⟩).run prog w=.ok (I x) w:=by
 have c:=hg.cell 0
 unfold intO at c
 simp at c
 simp [loadVar,go_sem,c]
section
variable {w w':World} {C:TxC} {T T':TS} {X Y:Nat->Prop} {tab p bk bp bt bn:Nat} {kind parent:Int}
def AoE (w:World) (C:TxC) (X:Nat->Prop) (tab p:Nat) (r:(Nat × Nat) × TS) (e:Ending) (w':World):Prop:=
 e=U (.tuple #[I (r.1.1:Nat),I (r.1.2:Nat)])/\Ab4 w' C r.2 X tab p/\AaA (KF C) w w'
theorem aBJ (h:Ab4 w C T X tab p) (h0:T.st=0) (he:AjY w X tab bk bp bt bn kind parent) (a0:bn≠tab) (a1:bn≠p) :
  Calls prog 101 #[↑bk,↑bp,↑bt,↑bn] w (AcI w C (T.makeC C.G kind parent).1 (T.makeC C.G kind parent).2.2 X (· = bn) (λ w'=>Blk w' bn (intO ((T.makeC C.G kind parent).2.1:Nat)))):=by
 by_cases hz:argE C.G.n kind parent=0
 ·exact ayE h h0 he hz a0 a1
 ·have hc:T.makeC C.G kind parent=(argE C.G.n kind parent,0,T):=if_neg hz
  rw [hc]
  exact avI h he hz
theorem aA9 (h:Ab4 w C T X tab p) (kind parent:Int):Calls prog 42 #[↑tab,I kind,I parent] w (AoE w C X tab p (T.make C.G kind parent)):=by
 have a2:∀ (fn:Fn) (first cap:Array Value) (w:World),(Instr.makeFunc fn first cap).run prog w=.ok (.func fn first cap) w:=λ _ _ _ _=>rfl
 obtain ⟨wA,a0⟩:∃ wA,(((((w.alloc (.cells #[↑tab] 27 (0,0))).alloc (.cells #[I kind] 3 (0,0))).alloc (intO parent)).alloc (intO 0)).alloc (errO 0))=wA:=⟨_,rfl⟩
 have hsz:wA.heap.size=w.heap.size+1+1+1+1+1:=by rw [← a0];simp only [aEI]
 have kA:AaA NoF w wA:=by rw [← a0];exact (((((AaA.refl _ w).alloc _).alloc _).alloc _).alloc _).alloc _
 have hT:Blk wA w.heap.size (.cells #[↑tab] 27 (0,0)):=by rw [← a0];exact ((((Blk.new w _).alloc _).alloc _).alloc _).alloc _
 have hK:Blk wA (w.heap.size+1) (.cells #[I kind] 3 (0,0)):=by rw [← a0,← aEI w (.cells #[↑tab] 27 (0,0))];exact (((Blk.new _ _).alloc _).alloc _).alloc _
 have hQ:Blk wA (w.heap.size+1+1) (intO parent):=by
  rw [← a0,show w.heap.size+1+1=((w.alloc (.cells #[↑tab] 27 (0,0))).alloc (.cells #[I kind] 3 (0,0))).heap.size by simp only [aEI]]
  exact ((Blk.new _ _).alloc _).alloc _
 have hN:Blk wA (w.heap.size+1+1+1) (intO 0):=by
  rw [← a0,show w.heap.size+1+1+1=(((w.alloc (.cells #[↑tab] 27 (0,0))).alloc (.cells #[I kind] 3 (0,0))).alloc (intO parent)).heap.size by simp only [aEI]]
  exact (Blk.new _ _).alloc _
 have hE:Blk wA (w.heap.size+1+1+1+1) (errO 0):=by
  rw [← a0,show w.heap.size+1+1+1+1=((((w.alloc (.cells #[↑tab] 27 (0,0))).alloc (.cells #[I kind] 3 (0,0))).alloc (intO parent)).alloc (intO 0)).heap.size by simp only [aEI]]
  exact Blk.new _ _
 have NA:=h.wide kA
 have lt1:=h.pl.lt _ h.xt
 have lt2:=h.pl.lt _ h.xp
 have xx:∀ i,w.heap.size<=i->i<w.heap.size+1+1+1+1+1->Wid X w wA i:=λ i a b=>.inr ⟨a,by omega⟩
 have a1:Calls prog 61 #[↑tab,↑(w.heap.size+1+1+1+1),.func (.func 101) #[] #[↑(w.heap.size+1),↑(w.heap.size+1+1),↑w.heap.size,↑(w.heap.size+1+1+1)]] wA λ e w'=>
   e=U (.tuple #[])/\Blk w' (w.heap.size+1+1+1+1) (errO ((T.make C.G kind parent).1.2:Nat))/\Blk w' (w.heap.size+1+1+1) (intO ((T.make C.G kind parent).1.1:Nat))/\Aa6 w' C (T.make C.G kind parent).2 (Wid X w wA)/\AaA (λ i=>KF C i∨w.heap.size<=i) wA w':=by
  by_cases h0:T.st=0
  ·rw [aBI C.G h0]
   refine (amA (c:=(T.makeC C.G kind parent).1) (T0:=(T.makeC C.G kind parent).2.2) NA.pl h0 NA.ht NA.hp hE NA.xt NA.xp (xx _ (by omega) (by omega)) (by omega) (by omega) _ _ (λ w=>by kernel_rfl) (G:=(· = w.heap.size+1+1+1)) (λ i e=>⟨e ▸ xx _ (by omega) (by omega),by omega,by omega,by omega⟩) (λ w1 k1 p1=>?_) (R:=λ w'=>Blk w' (w.heap.size+1+1+1) (intO ((T.makeC C.G kind parent).2.1:Nat))) (λ w' w'' a b=>?_)).mono ?_
   ·have cT:=(k1.blk hT (λ f=>f)).cell 0
    have cK:=(k1.blk hK (λ f=>f)).cell 0
    have cQ:=(k1.blk hQ (λ f=>f)).cell 0
    simp at cT cK cQ
    exact aBJ (NA.wide k1) h0 ⟨cK,cQ,cT,k1.blk hN (λ f=>f),.inl (xx _ (by omega) (by omega)),.inl (xx _ (by omega) (by omega)),.inl (xx _ (by omega) (by omega)),.inl (xx _ (by omega) (by omega)),by omega,by omega,by omega⟩ (by omega) (by omega)
   ·exact b.blk a (λ x=>x.elim (NA.pl.notF (xx _ (by omega) (by omega))) (λ e=>by omega))
   ·rintro e w' ⟨x1,x2,x3,x4,x5⟩
    exact ⟨x1,x2,x4,x3,x5.mono λ i _ y=>y.elim .inl (λ y=>.inr (by rcases y with y|y<;>omega))⟩
  ·rw [ayD C.G h0]
   refine (ahX NA.pl h0 NA.ht NA.hp hE NA.xt NA.xp (xx _ (by omega) (by omega)) (by omega) (by omega) _).mono ?_
   rintro e w' ⟨x1,x2,x3,x4,x5⟩
   exact ⟨x1,x2,x5.blk hN (λ y=>y.elim (NA.pl.notF (xx _ (by omega) (by omega))) (λ y=>y.elim id (λ e=>by omega))),x3,x5.mono λ i _ y=>y.elim .inl (λ y=>.inr (by rcases y with y|y;exact y.elim;omega))⟩
 have hP:∀ w',Aa6 w' C (T.make C.G kind parent).2 X->AaA (KF C) w w'->AoE w C X tab p (T.make C.G kind parent) (U (.tuple #[I ((T.make C.G kind parent).1.1:Nat),I ((T.make C.G kind parent).1.2:Nat)])) w':=λ w' a b=>⟨rfl,h.step b (λ i x=>.inl x) a,b⟩
 generalize AoE w C X tab p (T.make C.G kind parent)=Post at *
 obtain ⟨⟨⟨nd,cz⟩,T'⟩,hr⟩:∃ r,T.make C.G kind parent=r:=⟨_,rfl⟩
 rw [hr] at a1 hP
 dsimp only at a1 hP
 have cT:=hT.cell 0
 simp at cT
 replace ⟨kA,a1,hP⟩:=yh3 kA a1 hP;clear h hsz hT hK hQ hN hE NA xx hr
 go_enter Tryz.func42,Tryz.ntmps42
 go_upto_region 1 with fail
 change Code.wp _ _ _ _ (((((w.alloc (.cells #[↑tab] 27 (0,0))).alloc (.cells #[I kind] 3 (0,0))).alloc (intO parent)).alloc (intO 0)).alloc (errO 0))
 rw [a0]
 clear a0
 go_wp2_with fail
 refine a1.out.mono ?_
 rintro e w1 ⟨rfl,e1,n1,p1,k1⟩
 have kW:AaA (KF C) w w1:=(kA.out.mono (F:=λ _=>False) (G:=KF C) (λ _ _ f=>f.elim)).trans k1 (λ i hi x=>x.elim id (λ x=>by omega))
 have P1:Aa6 w1.drew C T' (Wid X w wA):=p1.quiet ((AaA.refl NoF w1).drew)
 have n2:=n1.drew
 have e2:=e1.drew
 clear n1 e1 p1 k1 a1 cT
 replace ⟨kW,P1,n2,e2⟩:=yh4 kW P1 n2 e2
 go_upto_region 2 with fail
 refine wp_region_still_lit (by kernel_rfl) (by kernel_rfl) ?_
 have c0:=e2.out.cell 0
 have c1:=n2.out.cell 0
 unfold errO at c0
 simp at c0 c1
 iterate 2 still_step
 refine adL rfl 3 (.tmp 6) (.tmp 11) rfl (w.heap.size+1+1+1) 3 (I (nd:Nat)) rfl rfl n2.out (aCW _ _) ?_
 refine adL rfl 63 (.tmp 7) (.tmp 12) rfl (w.heap.size+1+1+1+1) 63 (I (cz:Nat)) rfl rfl e2.out (arI _ _) ?_
 refine wpStill_nil ?_
 simp only [Act.put]
 change Exit.then _ _ _ _ w1.drew
 have hPP:=hP.out _ (P1.out.less (λ i hi=>.inl hi)) kW.out.drew
 clear c0 c1 P1 kW
 replace hPP:=hid hPP
 go_wp2
 exact bodyPost_ret (v:=.tuple #[I (nd:Nat),I (cz:Nat)]) (ajC rfl _ _ (w.heap.size+1+1+1) (w.heap.size+1+1+1+1) _ _ rfl rfl (aqW _ _ _ n2.out) (aeW _ _ _ e2.out)) rfl hPP.out
end
section
variable {w w':World} {C:TxC} {T T':TS} {X Y:Nat->Prop} {tab p:Nat}
theorem aA8 (h:Ab4 w C T X tab p) (k:Int) {n:Nd} (hn:n.ptr.length=12):Calls prog 43 #[↑tab,I k,ndV n] w (AkU w C X tab p (T.save C.G k n)):=by
 have a4:∀ (fn:Fn) (first cap:Array Value) (w:World),(Instr.makeFunc fn first cap).run prog w=.ok (.func fn first cap) w:=λ _ _ _ _=>rfl
 obtain ⟨wA,a0⟩:∃ wA,(((w.alloc (.cells #[↑tab] 27 (0,0))).alloc (.cells #[I k] 3 (0,0))).alloc (ndO n)).alloc (errO 0)=wA:=⟨_,rfl⟩
 have hsz:wA.heap.size=w.heap.size+1+1+1+1:=by rw [← a0];simp only [aEI]
 have kA:AaA NoF w wA:=by rw [← a0];exact ((((AaA.refl _ w).alloc _).alloc _).alloc _).alloc _
 have hT:Blk wA w.heap.size (.cells #[↑tab] 27 (0,0)):=by rw [← a0];exact (((Blk.new w _).alloc _).alloc _).alloc _
 have hK:Blk wA (w.heap.size+1) (.cells #[I k] 3 (0,0)):=by rw [← a0,← aEI w (.cells #[↑tab] 27 (0,0))];exact ((Blk.new _ _).alloc _).alloc _
 have hN:Blk wA (w.heap.size+1+1) (ndO n):=by
  rw [← a0,show w.heap.size+1+1=((w.alloc (.cells #[↑tab] 27 (0,0))).alloc (.cells #[I k] 3 (0,0))).heap.size by simp only [aEI]]
  exact (Blk.new _ _).alloc _
 have hE:Blk wA (w.heap.size+1+1+1) (errO 0):=by
  rw [← a0,show w.heap.size+1+1+1=(((w.alloc (.cells #[↑tab] 27 (0,0))).alloc (.cells #[I k] 3 (0,0))).alloc (ndO n)).heap.size by simp only [aEI]]
  exact Blk.new _ _
 have NA:=h.wide kA
 have lt1:=h.pl.lt _ h.xt
 have lt2:=h.pl.lt _ h.xp
 have xx:∀ i,w.heap.size<=i->i<w.heap.size+1+1+1+1->Wid X w wA i:=λ i a b=>.inr ⟨a,by omega⟩
 have a1:Calls prog 61 #[↑tab,↑(w.heap.size+1+1+1),.func (.func 105) #[] #[↑w.heap.size,↑(w.heap.size+1),↑(w.heap.size+1+1)]] wA λ e w'=>
   e=U (.tuple #[])/\Blk w' (w.heap.size+1+1+1) (errO ((T.save C.G k n).1:Nat))/\Aa6 w' C (T.save C.G k n).2 (Wid X w wA)/\AaA (λ i=>KF C i∨w.heap.size<=i) wA w':=by
  by_cases h0:T.st=0
  ·rw [aAQ C.G h0]
   refine (amA (c:=(T.saveC C.G k n).1) (T0:=(T.saveC C.G k n).2) NA.pl h0 NA.ht NA.hp hE NA.xt NA.xp (xx _ (by omega) (by omega)) (by omega) (by omega) _ _ (λ w=>by kernel_rfl) (G:=λ _=>False) (λ i e=>e.elim) (λ w1 k1 p1=>?_) (R:=λ _=>True) (λ w' w'' a b=>trivial)).mono ?_
   ·have cT:=(k1.blk hT (λ f=>f)).cell 0
    have cK:=(k1.blk hK (λ f=>f)).cell 0
    simp at cT cK
    exact aAR (NA.wide k1) h0 cT cK (k1.blk hN (λ f=>f)) hn (.inl (xx _ (by omega) (by omega))) (.inl (xx _ (by omega) (by omega))) (.inl (xx _ (by omega) (by omega)))
   ·rintro e w' ⟨x1,x2,x3,x4,x5⟩
    exact ⟨x1,x2,x3,x5.mono λ i _ y=>y.elim .inl (λ y=>.inr (by rcases y with y|y;exact y.elim;omega))⟩
  ·rw [axO C.G h0]
   refine (ahX NA.pl h0 NA.ht NA.hp hE NA.xt NA.xp (xx _ (by omega) (by omega)) (by omega) (by omega) _).mono ?_
   rintro e w' ⟨x1,x2,x3,x4,x5⟩
   exact ⟨x1,x2,x3,x5.mono λ i _ y=>y.elim .inl (λ y=>.inr (by rcases y with y|y;exact y.elim;omega))⟩
 have hP:∀ w',Aa6 w' C (T.save C.G k n).2 X->AaA (KF C) w w'->AkU w C X tab p (T.save C.G k n) (U (I ((T.save C.G k n).1:Nat))) w':=λ w' a b=>⟨rfl,h.step b (λ i x=>.inl x) a,b⟩
 generalize AkU w C X tab p (T.save C.G k n)=Post at *
 obtain ⟨⟨cz,T'⟩,hr⟩:∃ r,T.save C.G k n=r:=⟨_,rfl⟩
 rw [hr] at a1 hP
 dsimp only at a1 hP
 have cT:=hT.cell 0
 simp at cT
 have a3:=λ w=>aeL w n
 replace ⟨kA,a1,hP,a3,hn⟩:=yh5 kA a1 hP a3 hn;clear h hsz hT hK hN hE NA xx hr
 go_enter Tryz.func43,Tryz.ntmps43
 go_upto_region 0 with fail
 go_step
 iterate 2
  refine aaR rfl _ _ (by go_simp;exact ⟨rfl,rfl⟩) ?_
  simp only [wz]
 refine aaY rfl 39 (.tmp 2) rfl _ _ (by exact a3.out _) ?_
 simp only [wz]
 go_upto_region 1 with fail
 change Code.wp _ _ _ _ ((((w.alloc (.cells #[↑tab] 27 (0,0))).alloc (.cells #[I k] 3 (0,0))).alloc (ndO n)).alloc (errO 0))
 rw [a0]
 clear a0
 go_wp2_with fail
 refine a1.out.mono ?_
 rintro e w1 ⟨rfl,e1,p1,k1⟩
 have kW:AaA (KF C) w w1:=(kA.out.mono (F:=λ _=>False) (G:=KF C) (λ _ _ f=>f.elim)).trans k1 (λ i hi x=>x.elim id (λ x=>by omega))
 have hs:=alB (i:=0) (v:=I (cz:Nat)) e1 rfl
 have hPP:=hP.out _ (p1.less (λ i hi=>.inl hi)) kW
 rw [← hs] at hPP
 have a2:=e1
 rw [← hs] at a2
 have c0:=e1.cell 0
 have ef:=Blk.frz e1
 unfold errO at c0
 simp at c0
 clear a1 cT p1 k1 kW hs e1
 replace ⟨hPP,a2⟩:=yh2 hPP a2
 go_wp2
 exact bodyPost_ret (v:=I (cz:Nat)) (aoY rfl _ _ (w.heap.size+1+1+1) _ rfl (aeW _ _ _ a2.out)) rfl hPP.out
end
def opC (k a b:Int) (n:Nd) (d:Value) (o:Bool):List Value:=[I k,I a,I b]++ndC n++[d,.bool o]
def opV (k a b:Int) (n:Nd) (d:Value) (o:Bool):Value:=.agg (opC k a b n d o).toArray
def opO (k a b:Int) (n:Nd) (d:Value) (o:Bool):Obj:=.cells (opC k a b n d o).toArray 42 (0,0)
theorem ag5 {n:Nd} (h:n.ptr.length=12) (k a b:Int) (d:Value) (o:Bool):(opC k a b n d o).length=22:=by
 simp [opC,aaM h]
theorem ax8 {n:Nd} (h:n.ptr.length=12) (k a b:Int) (d:Value) (o:Bool):((opC k a b n d o).drop 3).take 17=ndC n:=by
 have e:opC k a b n d o=[I k,I a,I b]++(ndC n++[d,.bool o]):=by simp [opC]
 rw [e,List.drop_left' (by rfl),aE0 (aaM h)]
theorem acV {w:World} {g:Nat} {k a b:Int} {n:Nd} {d:Value} {o:Bool} (hb:Blk w g (opO k a b n d o)) (h:n.ptr.length=12) :
  w.cell? ↑g=some (I k)/\w.cell? ⟨g,1,none⟩=some (I a)/\w.cell? ⟨g,2,none⟩=some (I b)/\w.cell? ⟨g,20,none⟩=some d/\w.cell? ⟨g,21,none⟩=some (.bool o):=by
 have hl:=aaM h
 have e:∀ i,w.cell? ⟨g,i,none⟩=(opC k a b n d o)[i]?:=λ i=>by have:=hb.cell i;simpa [opO] using this
 have e20:(opC k a b n d o)[20]? = some d:=by
  unfold opC
  rw [List.getElem?_append_right (by simp [hl]),aEH,hl];rfl
 have e21:(opC k a b n d o)[21]? = some (.bool o):=by
  unfold opC
  rw [List.getElem?_append_right (by simp [hl]),aEH,hl];rfl
 refine ⟨(e 0).trans rfl,(e 1).trans rfl,(e 2).trans rfl,(e 20).trans e20,(e 21).trans e21⟩
theorem ad4 (w:World) (k a b:Int) (n:Nd) (d:Value) (o:Bool):(Instr.box 42 (opV k a b n d o)).run prog w=.ok ↑w.heap.size (w.alloc (opO k a b n d o)):=by kernel_rfl
def AaG (i:Nat) (w:World) (r:Nat) (F X:Nat->Prop) (e:Ending) (w':World):Prop:=
 e=U ↑true/\∃ F' X',AmV i w' r F' X'/\AaA F w w'/\(∀ j,F' j->Zn w w' F j)/\(∀ j,X j->X' j)
theorem J7.step {i:Nat} {T T':TS} (h:J7 i T) (hL:T.Like T'):J7 (i+1) T':=by
 unfold J7 at *
 rw [hL.1,hL.2.1]
 omega
section
variable {w w' w0 w1 w2:World} {C:TxC} {N:RgN} {T T':TS} {B B':TB} {Z X F:Nat->Prop} {i r:Nat} {e:Ending}
theorem AaG.mv (k:AaA NoF w w1) (h:AaG i w1 r F (Zn w w1 X) e w'):AaG i w r F X e w':=by
 obtain ⟨h1,F',X',h2,h3,h4,h5⟩:=h
 have z:=k.size
 exact ⟨h1,F',X',h2,(k.mono λ _ _ f=>f.elim).step h3,λ i hi=>(h4 i hi).elim .inl (λ x=>.inr ⟨by omega,x.2⟩),λ i hi=>h5 i (.inl hi)⟩
theorem NX.done (h:NX w C N T B Z X) (hs:Aa8 B T C.G) (hJ:J7 i T) (k:AaA NoF w w'):AaG (i+1) w N.r (AaX C N Z) X (U ↑true) w':=
 ⟨rfl,_,_,⟨C,N,T,B,Z,rfl,h.calm k,hs,hJ.step (.refl T),rfl⟩,k.mono λ _ _ f=>f.elim,λ j hj=>.inl hj,λ j hj=>hj⟩
theorem NX.two (h:NX w C N T B Z X) (hJ:J7 i T) (k1:AaA (KF C) w w1) (p1:Aa6 w1 C T' X) (hL:T.Like T') (s2:AaS w1 w2 N.tb N.m B' Z) (k3:AaA NoF w2 w') (hs:Aa8 B' T' C.G) :
  AaG (i+1) w N.r (AaX C N Z) X (U ↑true) w':=by
 have z1:=k1.size
 have z2:=s2.k.size
 have z3:=k3.size
 refine ⟨rfl,_,_,⟨C,N,T',B',_,rfl,((h.pool k1 p1 hL).doc s2).calm k3,hs,hJ.step hL,rfl⟩,((k1.mono (G:=AaX C N Z) λ _ _ f=>.inl f).trans s2.k (λ i _ f=>.inr (.inl f))).step (k3.mono λ _ _ f=>f.elim),λ j hj=>?_,λ j hj=>.inl hj⟩
 rcases hj with hj|(hj|hj)|hj
 ·exact .inl (.inl hj)
 ·exact .inl (.inr (.inl hj))
 ·exact .inr ⟨by omega,by omega⟩
 ·exact .inl (.inr (.inr hj))
theorem NX.c4 (h:NX w C N T B Z X):w.cell? ⟨N.r,4,none⟩=some ↑N.tb:=by
 have:=h.bR.1.cell 4
 simpa [agD] using this
theorem NX.c23 (h:NX w C N T B Z X):w.cell? ⟨N.r,2,none⟩=some ↑N.ta/\w.cell? ⟨N.r,3,none⟩=some ↑N.ua:=by
 have a:=h.bR.1.cell 2
 have b:=h.bR.1.cell 3
 exact ⟨by simpa [agD] using a,by simpa [agD] using b⟩
theorem NX.pair (h:NX w C N T B Z X) (hJ:J7 i T) {f1 f2:FuncId} {a1 a2:Array Value} {v1 v2:Value} (hL:T.Like T') (hs:Aa8 B' T' C.G)
  (h1:Calls prog f1 a1 w λ e w1=>e=.returned v1/\Aa6 w1 C T' X/\AaA (KF C) w w1)
  (h2:∀ w1,Aa3 w1 N.tb N.m B Z->(∀ i,Z i->i<w1.heap.size)->Calls prog f2 a2 w1 λ e w2=>e=.returned v2/\AaS w1 w2 N.tb N.m B' Z) :
  Calls prog f1 a1 w λ e w1=>e=.returned v1/\AaA (KF C) w w1/\∀ w1',AaA NoF w1 w1'->Calls prog f2 a2 w1' λ e w2=>e=.returned v2/\AaA Z w1' w2/\∀ w',AaA NoF w2 w'->AaG (i+1) w N.r (AaX C N Z) X (U ↑true) w':=by
 refine h1.mono ?_
 rintro e w1 ⟨rfl,p1,k1⟩
 refine ⟨rfl,k1,λ w1' k1'=>?_⟩
 have hp:=(h.pool k1 p1 hL).calm k1'
 refine (h2 w1' hp.ref (λ i hi=>hp.pl.lt i (hp.zX i hi))).mono ?_
 rintro e w2 ⟨rfl,s2⟩
 exact ⟨rfl,s2.k,λ w' k'=>h.two hJ (k1.step (k1'.mono λ _ _ f=>f.elim)) hp.pl hL s2 k' hs⟩
end
end Go.Vk
