/- Part of the proof: Po7 Po8 Po9. -/
import Derived.Test.YtjeelghnmkefcaaGreatQ16
import Derived.Lib.Tables
set_option linter.unusedVariables false
set_option maxHeartbeats 16000000
set_option maxRecDepth 100000
namespace Go.Vk
open Go.RowKit Go.Proofs
open Tryz (prog)
def TxM.dropR (C:TxC) (M:TxM) (bs:List UInt8) (blk i:Nat):Nat × TxM:=if abP bs i=true then M.put C blk (ab2 bs i) else (62,M)
def TxM.drop (C:TxC) (M:TxM) (blk i:Nat):Nat × TxM:=(M.read C blk).dropR C (M.get C blk) blk i
def AEF (w:World) (C:TxC) (r:Nat × TxM) (X:Nat->Prop) (g:Nat) (e:Ending) (w':World):Prop:=
 (e=if r.1=0 then .returned (.tuple #[]) else .panicked [{ v:=refV r.1,recovered:=false }])/\Aa1 w' C r.2 false X/\AaA (λ i=>i∈C.F∨i=C.t∨i=C.mx∨i=g) w w'
section
variable {w:World} {m p blk lo top first g k:Nat} {bs:List UInt8} {C:TxC} {M:TxM} {X:Nat->Prop}
theorem azW (hm:Blk w m (bmO p blk lo top first g (512+k))) (hp:Blk w p (ab3 C.t)) (hg:Blk w g (aaE (bs++aaD k))) (hl:bs.length=512)
  (hT:Aa1 w C M false X) (h0:aaT M.D C.G.life M.sp false=0) (hX:∀ i,X i->i<w.heap.size) (hb:blk<C.G.blocks) (a1:X m) (a2:X p) (a3:X g) (a4:m≠g) (a5:p≠g)
  (i:Nat) (h3:i<4096) (hf:first<=4096) :
  Calls prog 185 #[↑m,I (i+first:Nat)] w (AEF w C (M.dropR C bs blk i) X g):=by
 unfold TxM.dropR
 by_cases a0:abP bs i=true
 ·rw [if_pos a0]
  refine (ayX hm hp hg hl hT h0 hX hb a1 a2 a3 a4 a5 i h3 hf a0).mono ?_
  rintro e w' ⟨x1,x2,x3,x4⟩
  exact ⟨x1,x2,x4⟩
 ·rw [if_neg a0]
  refine (av6 hm hg hl i h3 hf (by simpa using a0)).mono ?_
  rintro e w' ⟨rfl,n,rfl⟩
  exact ⟨by rw [if_neg (show ¬ ((62:Nat)=0) by decide)],hT.drewN n,(AaA.refl _ w).drewN n⟩
end
section
variable {w:World} {C:TxC} {M:TxM} {X:Nat->Prop} {p:Nat}
theorem ag9 (h:Aa1 w C M false X):Calls prog 86 #[↑C.t] w λ e w'=>e=U (.agg #[I C.G.lg,I (3+C.G.lg:Nat),I C.G.blocks,I C.G.n,I (2+C.G.n / 4:Nat)])/\AaA NoF w w':=by
 obtain ⟨own,xc,h1,_⟩:=h
 exact an0 h1.ht h1.hs
theorem av9 (hp:Blk w p (ab3 C.t)) (hT:Aa1 w C M false X) (h0:aaT M.D C.G.life M.sp false=0) (b:Int) (hb:b<(2+C.G.n / 4:Nat)∨(C.G.blocks:Int)<=b) :
  Calls prog 133 #[↑p,I b] w (AdI w C M false X (I 11)):=by
 have a7:∀ (fn:Fn) (first cap:Array Value) (w:World),(Instr.makeFunc fn first cap).run prog w=.ok (.func fn first cap) w:=λ _ _ _ _=>rfl
 have a8:∀ (a b c d e:Value) (w:World),(Instr.field 53 (.agg #[a,b,c,d,e]) 3).run prog w=.ok d w:=λ a b c d e w=>by kernel_rfl
 obtain ⟨a9,a5,a2,a6,a3,a1,p0,hS⟩:=ad6 hp hT
 rw [h0] at hS
 have hL:=λ n=>ag9 (a1.drewN n)
 unfold errO at *
 have hPost:∀ W,Aa1 W C M false X->AaA (λ i=>i∈C.F∨i=C.t∨i=C.mx) w W->AdI w C M false X (I 11) (U (I 11)) W:=λ W x y=>⟨rfl,x,y⟩
 generalize AdI w C M false X (I 11)=Post at hPost ⊢
 have a0:∀ W,AaA NoF (w.alloc (.cells #[I 0] 63 (0,0))) W->W.cell? ↑w.heap.size=some (I 0)/\(∀ i,W.frozen? ⟨w.heap.size,i,none⟩=false)/\w.heap.size<W.heap.size /\
   ∀ W',AaA NoF (W.setCell ↑w.heap.size (I 11)) W'->Post (U (I 11)) W'/\W'.cell? ↑w.heap.size=some (I 11):=λ W x=>by
  have h1:=x.blk a3 (λ f=>f)
  refine ⟨by have:=h1.cell 0;simpa using this,h1.frz,h1.lt,λ W' y=>?_⟩
  have h2:=y.blk (h1.setCell 0 (I 11)) (λ f=>f)
  refine ⟨hPost _ ?_ ?_,by have:=h2.cell 0;simpa using this⟩
  ·exact ((((a1.quiet x (λ _ f=>f.elim)).quiet ((AaA.refl (· = w.heap.size) W).setCell (p:=⟨w.heap.size,0,none⟩) (.inl rfl) _) (λ i e=>.inr (by omega)))).quiet y (λ _ f=>f.elim)).client (λ i hi=>.inl (.inl hi))
  ·exact (((a2.step x).mono (λ _ _ f=>f.elim)).setCell (p:=⟨w.heap.size,0,none⟩) (.inr (aEK _)) _).step (y.mono λ _ _ f=>f.elim)
 generalize 2+C.G.n / 4=dt at hL hb
 generalize 3+C.G.lg=v1 at hL
 replace ⟨hS,hL,a0⟩:=yh3 hS hL a0;clear hp hT a2 a6 a3 a1 hPost a5 h0
 go_enter_defers Tryz.func133,Tryz.ntmps133
 go_wp2_with (first
  | (go_at_call 85;refine hS.out.mono ?_;rintro e w' ⟨rfl,n,rfl⟩;obtain ⟨j1,j2,j3,j4⟩:=a0.out _ ((AaA.refl NoF _).drewN n);clear j4)
  | (go_at_call 84;refine (abX _).mono ?_;rintro e w3 ⟨rfl,rfl⟩)
  | (go_at_call 86;refine (hL.out _).mono ?_;rintro e w3 ⟨rfl,a4⟩;have hk5:=(((AaA.refl NoF _).drewN n).step a4);obtain ⟨k1,k2,k3,k4⟩:=a0.out w3 hk5;clear a4;replace k4:=hid k4;clear hk5))
 all_goals
  refine leaves_cons (f:=199) (args:=#[↑w.heap.size]) (by simp) (by simp [go_sem]) ?_
  refine (anE ⟨w.heap.size,0,none⟩ _).mono ?_
  rintro e u' w'' ⟨rfl,rfl,rfl⟩
  obtain ⟨hQ,hc⟩:=k4.out _ ((AaA.refl _ _).alloc (.cells #[I C.G.lg,I v1,I C.G.blocks,I C.G.n,I dt] 53 (0,0)))
  simp [Leaves,settle,results,Tryz.results133,go_sem,hc]
  exact hQ
theorem av7 (hp:Blk w p (ab3 C.t)) (hT:Aa1 w C M false X) (h0:aaT M.D C.G.life M.sp false=0) (b:Int) (hb:b<1∨(C.G.n:Int)<b) :
  Calls prog 108 #[↑p,I b] w (AdI w C M false X (I 11)):=by
 have a7:∀ (fn:Fn) (first cap:Array Value) (w:World),(Instr.makeFunc fn first cap).run prog w=.ok (.func fn first cap) w:=λ _ _ _ _=>rfl
 have a8:∀ (a b c d e:Value) (w:World),(Instr.field 53 (.agg #[a,b,c,d,e]) 3).run prog w=.ok d w:=λ a b c d e w=>by kernel_rfl
 obtain ⟨a9,a5,a3,a6,a4,a2,p0,hS⟩:=ad6 hp hT
 rw [h0] at hS
 have hL:=λ n=>ag9 (a2.drewN n)
 unfold errO at *
 have hPost:∀ W,Aa1 W C M false X->AaA (λ i=>i∈C.F∨i=C.t∨i=C.mx) w W->AdI w C M false X (I 11) (U (I 11)) W:=λ W x y=>⟨rfl,x,y⟩
 generalize AdI w C M false X (I 11)=Post at hPost ⊢
 have a0:∀ W,AaA NoF (w.alloc (.cells #[I 0] 63 (0,0))) W->W.cell? ↑w.heap.size=some (I 0)/\(∀ i,W.frozen? ⟨w.heap.size,i,none⟩=false)/\w.heap.size<W.heap.size /\
   ∀ W',AaA NoF (W.setCell ↑w.heap.size (I 11)) W'->Post (U (I 11)) W'/\W'.cell? ↑w.heap.size=some (I 11):=λ W x=>by
  have h1:=x.blk a4 (λ f=>f)
  refine ⟨by have:=h1.cell 0;simpa using this,h1.frz,h1.lt,λ W' y=>?_⟩
  have h2:=y.blk (h1.setCell 0 (I 11)) (λ f=>f)
  refine ⟨hPost _ ?_ ?_,by have:=h2.cell 0;simpa using this⟩
  ·exact ((((a2.quiet x (λ _ f=>f.elim)).quiet ((AaA.refl (· = w.heap.size) W).setCell (p:=⟨w.heap.size,0,none⟩) (.inl rfl) _) (λ i e=>.inr (by omega)))).quiet y (λ _ f=>f.elim)).client (λ i hi=>.inl (.inl hi))
  ·exact (((a3.step x).mono (λ _ _ f=>f.elim)).setCell (p:=⟨w.heap.size,0,none⟩) (.inr (aEK _)) _).step (y.mono λ _ _ f=>f.elim)
 generalize 2+C.G.n / 4=dt at hL
 generalize 3+C.G.lg=v1 at hL
 replace ⟨hS,hL,a0⟩:=yh3 hS hL a0;clear hp hT a3 a6 a4 a2 hPost a5 h0
 go_enter_defers Tryz.func108,Tryz.ntmps108
 by_cases aa:b<1
 ·
  go_wp2_with (first
   | (go_at_call 85;refine hS.out.mono ?_;rintro e w' ⟨rfl,n,rfl⟩;obtain ⟨j1,j2,j3,j4⟩:=a0.out _ ((AaA.refl NoF _).drewN n);replace j4:=hid j4)
   | (go_at_call 84;refine (abX _).mono ?_;rintro e w3 ⟨rfl,rfl⟩)
   | (go_at_call 86;refine (hL.out _).mono ?_;rintro e w3 ⟨rfl,a1⟩;have hk5:=(((AaA.refl NoF _).drewN n).step a1);obtain ⟨k1,k2,k3,k4⟩:=a0.out w3 hk5;clear a1;replace ⟨k4,hk5⟩:=yh2 k4 hk5))
  refine leaves_cons (f:=184) (args:=#[↑w.heap.size]) (by simp) (by simp [go_sem]) ?_
  refine (akN ⟨w.heap.size,0,none⟩ _).mono ?_
  rintro e u' w'' ⟨rfl,rfl,rfl⟩
  obtain ⟨hQ,hc⟩:=j4.out _ (AaA.refl _ _)
  simp [Leaves,settle,results,Tryz.results108,go_sem,hc]
  exact hQ
 ·
  have ab:(C.G.n:Int)<b:=by omega
  go_wp2_with (first
   | (go_at_call 85;refine hS.out.mono ?_;rintro e w' ⟨rfl,n,rfl⟩;obtain ⟨j1,j2,j3,j4⟩:=a0.out _ ((AaA.refl NoF _).drewN n);clear j4)
   | (go_at_call 84;refine (abX _).mono ?_;rintro e w3 ⟨rfl,rfl⟩)
   | (go_at_call 86;refine (hL.out _).mono ?_;rintro e w3 ⟨rfl,a1⟩;have hk5:=(((AaA.refl NoF _).drewN n).step a1);obtain ⟨k1,k2,k3,k4⟩:=a0.out w3 hk5;clear a1;replace k4:=hid k4;clear hk5))
  refine leaves_cons (f:=184) (args:=#[↑w.heap.size]) (by simp) (by simp [go_sem]) ?_
  refine (akN ⟨w.heap.size,0,none⟩ _).mono ?_
  rintro e u' w'' ⟨rfl,rfl,rfl⟩
  obtain ⟨hQ,hc⟩:=k4.out _ (AaA.refl _ _)
  simp [Leaves,settle,results,Tryz.results108,go_sem,hc]
  exact hQ
theorem ayZ (hp:Blk w p (ab3 C.t)) (a1:X p) (hT:Aa1 w C M false X) (h0:aaT M.D C.G.life M.sp false=0) (hX:∀ i,X i->i<w.heap.size) (hb:0<C.G.blocks) (h3:C.G.blocks<=4096) (i:Nat) (hi:2+C.G.n / 4<=i/\i<C.G.blocks) :
  Calls prog 133 #[↑p,I (i:Nat)] w (AdI w C (M.drop C 0 i).2 false X (I (M.drop C 0 i).1)):=by
 have aj:∀ (fn:Fn) (first cap:Array Value) (w:World),(Instr.makeFunc fn first cap).run prog w=.ok (.func fn first cap) w:=λ _ _ _ _=>rfl
 have ak:∀ (a b c d e:Value) (w:World),(Instr.field 53 (.agg #[a,b,c,d,e]) 3).run prog w=.ok d w:=λ a b c d e w=>by kernel_rfl
 obtain ⟨al,a8,a6,a3,a7,a2,p0,hS⟩:=ad6 hp hT
 rw [h0] at hS
 have hL:=λ n=>ag9 (a2.drewN n)
 unfold errO at *
 have hlen:=(hT.get_len 0 hb)
 have hR:=λ W (x:AaA NoF (w.alloc (.cells #[I 0] 63 (0,0))) W)=>aoA (w:=W) (X:=agG X w.heap.size) (x.blk a3 (λ f=>f)) (.inl a1) (a2.quiet x (λ _ f=>f.elim)) h0 hb
 have hPost:∀ r,M.drop C 0 i=r->∀ W,Aa1 W C r.2 false X->AaA (λ i=>i∈C.F∨i=C.t∨i=C.mx) w W ->
   AdI w C (M.drop C 0 i).2 false X (I (M.drop C 0 i).1) (U (I r.1)) W:=by
  rintro r rfl W x y
  exact ⟨rfl,x,y⟩
 obtain ⟨r,hr⟩:∃ r,M.drop C 0 i=r:=⟨_,rfl⟩
 replace hPost:=hPost r hr
 have a0:∀ W,AaA NoF (w.alloc (.cells #[I 0] 63 (0,0))) W->∀ e w2,AiF W C M (agG X w.heap.size) p 0 (2+C.G.n / 4) (C.G.blocks) 0 e w2->∃ m,e=U (.pointer (some ⟨m,0,none⟩)) /\
   Calls prog 185 #[.pointer (some ⟨m,0,none⟩),I (i+0:Nat)] w2 (λ e w3=>e=(if r.1=0 then .returned (.tuple #[]) else .panicked [{ v:=refV r.1,recovered:=false }])/\Blk w3 w.heap.size (.cells #[I 0] 63 (0,0))/\Aa1 w3 C r.2 false (λ i=>X i∨i=w.heap.size) /\
   AaA (λ i=>i∈C.F∨i=C.t∨i=C.mx) w w3):=by
  rintro W hkW e w2 ⟨m,g,k,rfl,h4,h5,h6,h7,h8,h9,af,a9⟩
  have am:w.heap.size+1<=W.heap.size:=by have:=hkW.size;omega
  have an:=h9.lt
  have ao:=h8.lt
  have hk2:AaA (· ∈ C.F) w w2:=((a6.step hkW).mono (λ _ _ f=>f.elim)).step a9
  have aa:w.heap.size∉C.F:=(a2.notF (.inr (aEK _))).1
  have ag:=a9.blk (hkW.blk a3 (λ f=>f)) (hT.notF a1).1
  have ac:=a9.blk (hkW.blk a7 (λ f=>f)) aa
  have ad:Aa1 w2 C (M.read C 0) false (λ i=>X i∨i=w.heap.size∨i=m∨i=g):=af.client (λ i hi=>by
   rcases hi with x|x|x|x
   ·exact .inl (.inl (.inl x))
   ·exact .inl (.inl (.inr (by omega)))
   ·exact .inl (.inl (.inr (by omega)))
   ·exact .inl (.inl (.inr (by omega))))
  have ah:∀ i,(X i∨i=w.heap.size∨i=m∨i=g)->i<w2.heap.size:=by
   rintro i (x|x|x|x)
   ·have:=hX i x;have:=hk2.size;omega
   ·have:=ac.lt;omega
   ·omega
   ·omega
  refine ⟨m,rfl,?_⟩
  have ae:=azW h8 ag h9 hlen ad (by rw [acU];exact h0) ah hb (.inr (.inr (.inl rfl))) (.inl a1) (.inr (.inr (.inr rfl))) h6 (by omega) i (by omega) (by omega)
  have hr':(M.read C 0).dropR C (M.get C 0) 0 i=r:=hr
  rw [hr'] at ae
  refine ae.mono ?_
  rintro e W ⟨x1,x2,x3⟩
  have ab:=ad.notF (i:=w.heap.size) (.inr (.inl rfl))
  refine ⟨x1,x3.blk ac ?_,x2.client ?_,?_⟩
  ·rintro (x|x|x|x)
   ·exact ab.1 x
   ·exact ab.2.1 x
   ·exact ab.2.2 x
   ·omega
  ·rintro i (x|x)
   ·exact .inl (.inl x)
   ·exact .inl (.inr (.inl x))
  ·exact (hk2.mono (λ i _ hi=>.inl hi)).trans x3 (λ i hi hq=>by
    rcases hq with x|x|x|x
    ·exact .inl x
    ·exact .inr (.inl x)
    ·exact .inr (.inr x)
    ·omega)
 have ai:¬ ((i:Nat):Int)<((2+C.G.n / 4:Nat):Int):=by omega
 have ap:¬ (C.G.blocks:Int)<=((i:Nat):Int):=by omega
 rw [Nat.add_zero] at a0
 generalize 2+C.G.n / 4=dt at hL ai hR a0
 generalize 3+C.G.lg=v1 at hL
 by_cases hz:r.1=0
 ·simp only [if_pos hz] at a0
  rw [hz] at hPost
  replace ⟨hp,a1,hT,hX,hb,h3,hlen,a8⟩:=yh8 hp a1 hT hX hb h3 hlen a8;replace ⟨a6,a3,a7,a2,hS,hR,hPost,hr⟩:=yh8 a6 a3 a7 a2 hS hR hPost hr;replace ⟨h0,hL,a0,hz,hi⟩:=yh5 h0 hL a0 hz hi
  go_enter_defers Tryz.func133,Tryz.ntmps133
  go_wp2_with (first
   | (go_at_call 85;refine hS.out.mono ?_;rintro e w' ⟨rfl,n,rfl⟩)
   | (go_at_call 84;refine (abX _).mono ?_;rintro e w3 ⟨rfl,rfl⟩)
   | (go_at_call 86;refine (hL.out _).mono ?_;rintro e w3 ⟨rfl,a4⟩;have hk5:=(((AaA.refl NoF _).drewN n).step a4);clear a4;have p03:=hk5.cellF p0 (λ f=>f);replace hk5:=hid hk5))
  refine (hR.out _ (by first|exact hk5.out.alloc _|exact hk5.out)).mono ?_
  intro e w4 a5
  obtain ⟨m,rfl,hd⟩:=a0.out _ (by first|exact hk5.out.alloc _|exact hk5.out) _ _ a5
  clear a5
  replace hd:=hid hd
  go_wp2_with (go_at_call 185;refine hd.out.mono ?_;rintro e w5 ⟨rfl,t1,t2,t3⟩;have tc:=t1.cell 0;have tf:=t1.frz 0;simp at tc;replace ⟨t1,t2,t3⟩:=yh3 t1 t2 t3)
  have te:=t1.out.setCell 0 (I 0)
  have tT:=t2.out.quiet ((AaA.refl (· = w.heap.size) w5).setCell (p:=⟨w.heap.size,0,none⟩) (.inl rfl) (I 0)) (λ i e=>.inr e)
  have tK:=t3.out.setCell (p:=⟨w.heap.size,0,none⟩) (.inr (aEK _)) (I 0)
  have tc4:=te.cell 0
  simp at tc4
  refine leaves_cons (f:=199) (args:=#[↑w.heap.size]) (by simp) (by simp [go_sem]) ?_
  refine (anE ⟨w.heap.size,0,none⟩ _).mono ?_
  rintro e u' w'' ⟨rfl,rfl,rfl⟩
  have hQ:=hPost.out _ (tT.client (λ i hi=>.inl (.inl hi))) tK
  simp [Leaves,settle,results,Tryz.results133,go_sem,tc4]
  exact hQ
 ·simp only [if_neg hz] at a0
  replace ⟨hS,hR,hPost,hL,a0,hi⟩:=yh6 hS hR hPost hL a0 hi;clear hp a1 hT hX hb h3 hlen a8 a6 a3 a7 a2 hr h0 hz
  go_enter_defers Tryz.func133,Tryz.ntmps133
  go_wp2_with (first
   | (go_at_call 85;refine hS.out.mono ?_;rintro e w' ⟨rfl,n,rfl⟩)
   | (go_at_call 84;refine (abX _).mono ?_;rintro e w3 ⟨rfl,rfl⟩)
   | (go_at_call 86;refine (hL.out _).mono ?_;rintro e w3 ⟨rfl,a4⟩;have hk5:=(((AaA.refl NoF _).drewN n).step a4);clear a4;have p03:=hk5.cellF p0 (λ f=>f);replace hk5:=hid hk5))
  refine (hR.out _ (by first|exact hk5.out.alloc _|exact hk5.out)).mono ?_
  intro e w4 a5
  obtain ⟨m,rfl,hd⟩:=a0.out _ (by first|exact hk5.out.alloc _|exact hk5.out) _ _ a5
  clear a5
  replace hd:=hid hd
  go_wp2_with (go_at_call 185;refine hd.out.mono ?_;rintro e w5 ⟨rfl,t1,t2,t3⟩;replace ⟨t1,t2,t3⟩:=yh3 t1 t2 t3)
  refine leaves_cons (f:=199) (args:=#[↑w.heap.size]) (by simp) (by simp [go_sem]) ?_
  refine (apQ w.heap.size 0 r.1 _ t1.out).mono ?_
  rintro e u' w6 ⟨rfl,rfl,t5,t6⟩
  have tT:=t2.out.quiet t6 (λ i e=>.inr e)
  have tK:=t3.out.trans t6 (λ i hi e=>by omega)
  have tc4:=t5.cell 0
  simp at tc4
  have hQ:=hPost.out _ (tT.client (λ i hi=>.inl (.inl hi))) tK
  simp [Leaves,settle,results,Tryz.results133,go_sem,tc4]
  exact hQ
theorem ayY (hp:Blk w p (ab3 C.t)) (a1:X p) (hT:Aa1 w C M false X) (h0:aaT M.D C.G.life M.sp false=0) (hX:∀ i,X i->i<w.heap.size) (hb:1<C.G.blocks) (h3:C.G.n<=4096) (i:Nat) (hi:i<C.G.n) :
  Calls prog 108 #[↑p,I (i+1:Nat)] w (AdI w C (M.drop C 1 i).2 false X (I (M.drop C 1 i).1)):=by
 have ak:∀ (fn:Fn) (first cap:Array Value) (w:World),(Instr.makeFunc fn first cap).run prog w=.ok (.func fn first cap) w:=λ _ _ _ _=>rfl
 have al:∀ (a b c d e:Value) (w:World),(Instr.field 53 (.agg #[a,b,c,d,e]) 3).run prog w=.ok d w:=λ a b c d e w=>by kernel_rfl
 obtain ⟨am,a8,a6,a3,a7,a2,p0,hS⟩:=ad6 hp hT
 rw [h0] at hS
 have hL:=λ n=>ag9 (a2.drewN n)
 unfold errO at *
 have hlen:=(hT.get_len 1 hb)
 have hR:=λ W (x:AaA NoF (w.alloc (.cells #[I 0] 63 (0,0))) W)=>aqT (w:=W) (X:=agG X w.heap.size) (x.blk a3 (λ f=>f)) (.inl a1) (a2.quiet x (λ _ f=>f.elim)) h0 hb
 have hPost:∀ r,M.drop C 1 i=r->∀ W,Aa1 W C r.2 false X->AaA (λ i=>i∈C.F∨i=C.t∨i=C.mx) w W ->
   AdI w C (M.drop C 1 i).2 false X (I (M.drop C 1 i).1) (U (I r.1)) W:=by
  rintro r rfl W x y
  exact ⟨rfl,x,y⟩
 obtain ⟨r,hr⟩:∃ r,M.drop C 1 i=r:=⟨_,rfl⟩
 replace hPost:=hPost r hr
 have a0:∀ W,AaA NoF (w.alloc (.cells #[I 0] 63 (0,0))) W->∀ e w2,AiF W C M (agG X w.heap.size) p 1 (0) (C.G.n) 1 e w2->∃ m,e=U (.pointer (some ⟨m,0,none⟩)) /\
   Calls prog 185 #[.pointer (some ⟨m,0,none⟩),I (i+1:Nat)] w2 (λ e w3=>e=(if r.1=0 then .returned (.tuple #[]) else .panicked [{ v:=refV r.1,recovered:=false }])/\Blk w3 w.heap.size (.cells #[I 0] 63 (0,0))/\Aa1 w3 C r.2 false (λ i=>X i∨i=w.heap.size) /\
   AaA (λ i=>i∈C.F∨i=C.t∨i=C.mx) w w3):=by
  rintro W hkW e w2 ⟨m,g,k,rfl,h4,h5,h6,h7,h8,h9,af,a9⟩
  have an:w.heap.size+1<=W.heap.size:=by have:=hkW.size;omega
  have ao:=h9.lt
  have ap:=h8.lt
  have hk2:AaA (· ∈ C.F) w w2:=((a6.step hkW).mono (λ _ _ f=>f.elim)).step a9
  have aa:w.heap.size∉C.F:=(a2.notF (.inr (aEK _))).1
  have ag:=a9.blk (hkW.blk a3 (λ f=>f)) (hT.notF a1).1
  have ac:=a9.blk (hkW.blk a7 (λ f=>f)) aa
  have ad:Aa1 w2 C (M.read C 1) false (λ i=>X i∨i=w.heap.size∨i=m∨i=g):=af.client (λ i hi=>by
   rcases hi with x|x|x|x
   ·exact .inl (.inl (.inl x))
   ·exact .inl (.inl (.inr (by omega)))
   ·exact .inl (.inl (.inr (by omega)))
   ·exact .inl (.inl (.inr (by omega))))
  have ah:∀ i,(X i∨i=w.heap.size∨i=m∨i=g)->i<w2.heap.size:=by
   rintro i (x|x|x|x)
   ·have:=hX i x;have:=hk2.size;omega
   ·have:=ac.lt;omega
   ·omega
   ·omega
  refine ⟨m,rfl,?_⟩
  have ae:=azW h8 ag h9 hlen ad (by rw [acU];exact h0) ah hb (.inr (.inr (.inl rfl))) (.inl a1) (.inr (.inr (.inr rfl))) h6 (by omega) i (by omega) (by omega)
  have hr':(M.read C 1).dropR C (M.get C 1) 1 i=r:=hr
  rw [hr'] at ae
  refine ae.mono ?_
  rintro e W ⟨x1,x2,x3⟩
  have ab:=ad.notF (i:=w.heap.size) (.inr (.inl rfl))
  refine ⟨x1,x3.blk ac ?_,x2.client ?_,?_⟩
  ·rintro (x|x|x|x)
   ·exact ab.1 x
   ·exact ab.2.1 x
   ·exact ab.2.2 x
   ·omega
  ·rintro i (x|x)
   ·exact .inl (.inl x)
   ·exact .inl (.inr (.inl x))
  ·exact (hk2.mono (λ i _ hi=>.inl hi)).trans x3 (λ i hi hq=>by
    rcases hq with x|x|x|x
    ·exact .inl x
    ·exact .inr (.inl x)
    ·exact .inr (.inr x)
    ·omega)
 have ai:¬ ((i+1:Nat):Int)<1:=by omega
 have aj:¬ (C.G.n:Int)<((i+1:Nat):Int):=by omega
 generalize 2+C.G.n / 4=dt at hL
 generalize 3+C.G.lg=v1 at hL
 generalize i+1=i1 at ai aj a0 ⊢
 by_cases hz:r.1=0
 ·simp only [if_pos hz] at a0
  rw [hz] at hPost
  replace ⟨hp,a1,hT,hX,hb,h3,hlen,a8⟩:=yh8 hp a1 hT hX hb h3 hlen a8;replace ⟨a6,a3,a7,a2,hS,hR,hPost,hr⟩:=yh8 a6 a3 a7 a2 hS hR hPost hr;replace ⟨h0,hL,a0,hz,hi⟩:=yh5 h0 hL a0 hz hi
  go_enter_defers Tryz.func108,Tryz.ntmps108
  go_wp2_with (first
   | (go_at_call 85;refine hS.out.mono ?_;rintro e w' ⟨rfl,n,rfl⟩)
   | (go_at_call 84;refine (abX _).mono ?_;rintro e w3 ⟨rfl,rfl⟩)
   | (go_at_call 86;refine (hL.out _).mono ?_;rintro e w3 ⟨rfl,a4⟩;have hk5:=(((AaA.refl NoF _).drewN n).step a4);clear a4;have p03:=hk5.cellF p0 (λ f=>f);replace hk5:=hid hk5))
  refine (hR.out _ (by first|exact hk5.out.alloc _|exact hk5.out)).mono ?_
  intro e w4 a5
  obtain ⟨m,rfl,hd⟩:=a0.out _ (by first|exact hk5.out.alloc _|exact hk5.out) _ _ a5
  clear a5
  replace hd:=hid hd
  go_wp2_with (go_at_call 185;refine hd.out.mono ?_;rintro e w5 ⟨rfl,t1,t2,t3⟩;have tc:=t1.cell 0;have tf:=t1.frz 0;simp at tc;replace ⟨t1,t2,t3⟩:=yh3 t1 t2 t3)
  have te:=t1.out.setCell 0 (I 0)
  have tT:=t2.out.quiet ((AaA.refl (· = w.heap.size) w5).setCell (p:=⟨w.heap.size,0,none⟩) (.inl rfl) (I 0)) (λ i e=>.inr e)
  have tK:=t3.out.setCell (p:=⟨w.heap.size,0,none⟩) (.inr (aEK _)) (I 0)
  have tc4:=te.cell 0
  simp at tc4
  refine leaves_cons (f:=184) (args:=#[↑w.heap.size]) (by simp) (by simp [go_sem]) ?_
  refine (akN ⟨w.heap.size,0,none⟩ _).mono ?_
  rintro e u' w'' ⟨rfl,rfl,rfl⟩
  have hQ:=hPost.out _ (tT.client (λ i hi=>.inl (.inl hi))) tK
  simp [Leaves,settle,results,Tryz.results108,go_sem,tc4]
  exact hQ
 ·simp only [if_neg hz] at a0
  replace ⟨hS,hR,hPost,hL,a0,hi⟩:=yh6 hS hR hPost hL a0 hi;clear hp a1 hT hX hb h3 hlen a8 a6 a3 a7 a2 hr h0 hz
  go_enter_defers Tryz.func108,Tryz.ntmps108
  go_wp2_with (first
   | (go_at_call 85;refine hS.out.mono ?_;rintro e w' ⟨rfl,n,rfl⟩)
   | (go_at_call 84;refine (abX _).mono ?_;rintro e w3 ⟨rfl,rfl⟩)
   | (go_at_call 86;refine (hL.out _).mono ?_;rintro e w3 ⟨rfl,a4⟩;have hk5:=(((AaA.refl NoF _).drewN n).step a4);clear a4;have p03:=hk5.cellF p0 (λ f=>f);replace hk5:=hid hk5))
  refine (hR.out _ (by first|exact hk5.out.alloc _|exact hk5.out)).mono ?_
  intro e w4 a5
  obtain ⟨m,rfl,hd⟩:=a0.out _ (by first|exact hk5.out.alloc _|exact hk5.out) _ _ a5
  clear a5
  replace hd:=hid hd
  go_wp2_with (go_at_call 185;refine hd.out.mono ?_;rintro e w5 ⟨rfl,t1,t2,t3⟩;replace ⟨t1,t2,t3⟩:=yh3 t1 t2 t3)
  refine leaves_cons (f:=184) (args:=#[↑w.heap.size]) (by simp) (by simp [go_sem]) ?_
  refine (apP w.heap.size 0 r.1 _ t1.out).mono ?_
  rintro e u' w6 ⟨rfl,rfl,t5,t6⟩
  have tT:=t2.out.quiet t6 (λ i e=>.inr e)
  have tK:=t3.out.trans t6 (λ i hi e=>by omega)
  have tc4:=t5.cell 0
  simp at tc4
  have hQ:=hPost.out _ (tT.client (λ i hi=>.inl (.inl hi))) tK
  simp [Leaves,settle,results,Tryz.results108,go_sem,tc4]
  exact hQ
end
def popc (a:Nat):Nat:=(List.range 8).countP λ j=>a.testBit j
theorem aA2:∀ a:Nat,a<256->Lib.pop8 (a:Int)=(popc a:Nat):=by
 have h:(List.range 256).all (λ a:Nat=>Lib.pop8 (a:Int) == (popc a:Nat))=true:=by decide +kernel
 intro a ha
 have:=List.all_eq_true.1 h a (List.mem_range.2 ha)
 exact eq_of_beq this
theorem aC7 (a:Nat) (ha:a<256) (w:World):Calls prog 176 #[.int .u8 a] w λ e w'=>e=U (I (popc a))/\w=w':=by
 have a1:0<=(a:Int)/\(a:Int)<256:=by omega
 have hp:=aA2 a ha
 have a2:popc a<=8:=by unfold popc;exact aE4 List.countP_le_length (by simp)
 have a0:∀ w,(Instr.index 9 (.string Lib.pop8tab) (.int .u8 a)).run prog w=.ok (.int .u8 (popc a)) w:=λ w=>by
  rw [← hp]
  exact Lib.run_index_pop8tab (P:=prog) w _ _ _ (by kernel_rfl) (by omega) (by omega)
 generalize popc a=pc at *
 go_enter Tryz.func176,Tryz.ntmps176
 go_upto_region 1 with fail
 go_step
 refine aaR rfl _ _ (by go_simp;exact ⟨rfl,rfl⟩) ?_
 simp only [wz]
 generalize hc:(ByteArray.mk (List.toArray _))=c
 obtain rfl:c=Lib.pop8tab:=hc.symm.trans (by kernel_rfl)
 clear hc
 refine aaR rfl _ _ (by go_simp;exact ⟨rfl,rfl⟩) ?_
 simp only [wz]
 go_wp2
 go_ret
 exact ⟨rfl,rfl⟩
def adO (bs:List UInt8) (lo n:Nat):Nat:=(List.range' lo n).countP (abP bs)
theorem alM (bs:List UInt8) (lo n:Nat):adO bs lo n<=n:=by
 unfold adO;exact aE4 List.countP_le_length (by simp)
theorem aj6 (bs:List UInt8) (lo n k:Nat):adO bs lo (n+k)=adO bs lo n+adO bs (lo+n) k:=by
 unfold adO
 rw [← List.range'_append_1,List.countP_append]
theorem aj5 (bs:List UInt8) (i:Nat):adO bs i 1=if abP bs i=true then 1 else 0:=by
 unfold adO
 simp [List.range'_one,List.countP_singleton]
theorem aqD (bs:List UInt8) (i:Nat) (h:i % 8=0):adO bs i 8=popc (abQ bs (i / 8)):=by
 unfold adO popc
 rw [List.range'_eq_map_range,List.countP_map]
 apply List.countP_congr
 intro j hj
 rw [List.mem_range] at hj
 simp only [Function.comp,abP]
 rw [show (i+j) / 8=i / 8 by omega,show (i+j) % 8=j by omega]
def ad3 (bs:List UInt8) (lo top:Nat):Nat:=top - lo - adO bs lo (top - lo)
section
variable {w:World} {m p blk lo top first g k:Nat} {bs:List UInt8}
theorem azR (hm:Blk w m (bmO p blk lo top first g (512+k))) (hg:Blk w g (aaE (bs++aaD k))) (hl:bs.length=512) (h1:lo<=top) (h3:top<=4096) :
  Calls prog 99 #[↑m] w λ e w'=>e=U (I (ad3 bs lo top:Nat))/\∃ n,w'=w.drewN n:=by
 have hH:=λ n i hi=>avT (hm.drewN n) (hg.drewN n) hl i hi
 have a7:=λ j hj=>ahZ hg j hj
 have c2:=hm.cell 2
 have c3:=hm.cell 3
 have c5:=hm.cell 5
 simp at c2 c3 c5
 have af:IntKind.i64.wrap ((top:Int) - (lo:Int))=((top - lo:Nat):Int):=by rw [aaO (by omega) (by omega)];omega
 have a3:ad3 bs lo top=top - lo - adO bs lo (top - lo):=rfl
 generalize ad3 bs lo top=res at a3 ⊢
 replace ⟨hH,a7,a3⟩:=yh3 hH a7 a3;clear hm hg
 go_enter Tryz.func99,Tryz.ntmps99
 go_upto_region 1 with fail
 go_quiet (fail)
 go_wp2
 go_loopw [3,4] (λ c i wr=>∃ k n:Nat,lo<=k/\k<=top/\c=I (top - lo - adO bs lo (k - lo):Nat)/\i=I k/\wr=w.drewN n) (λ _ i _=>top - (intOf i).toNat)
 case atStart=>exact ⟨lo,nq,by omega,by omega,by simp [adO],rfl,rfl⟩
 case round=>
  obtain ⟨k1,n,hk1,hk2,rfl,rfl,rfl⟩:=hrel
  have ac:=alM bs lo (k1 - lo)
  by_cases ad:k1<top
  ·have ae:(k1:Int)<(top:Int):=by omega
   have a8:(k1:Int).tmod 8=((k1 % 8:Nat):Int):=rfl
   have a1:adO bs lo (k1+1 - lo)=adO bs lo (k1 - lo)+adO bs k1 1:=by rw [show k1+1 - lo=(k1 - lo)+1 by omega,aj6,show lo+(k1 - lo)=k1 by omega]
   have a4:IntKind.i64.wrap (((top - lo - adO bs lo (k1 - lo):Nat):Int) - 1)=((top - lo - (adO bs lo (k1 - lo)+1):Nat):Int):=by rw [aaO (by omega) (by omega)];omega
   by_cases a9:k1 % 8=0
   ·rw [a9] at a8
    have ag:IntKind.i64.wrap ((k1:Int)+8)=(k1:Int)+8:=aaO (by omega) (by omega)
    by_cases h8:k1+8<=top
    ·have h8':(k1:Int)+8<=(top:Int):=by omega
     have hq:=at7 k1
     have cb:=a7.out (k1 / 8) (by omega)
     have ah:0<=((k1 / 8:Nat):Int)/\((k1 / 8:Nat):Int)<(512:Nat):=by omega
     have aa:=aqD bs k1 a9
     have ab:=aC7 (abQ bs (k1 / 8)) (acN _ _)
     have a2:adO bs lo (k1+8 - lo)=adO bs lo (k1 - lo)+adO bs k1 8:=by rw [show k1+8 - lo=(k1 - lo)+8 by omega,aj6,show lo+(k1 - lo)=k1 by omega]
     have a5:=alM bs lo (k1+8 - lo)
     rw [a2,aa] at a5
     have ai:IntKind.i64.wrap (((top - lo - adO bs lo (k1 - lo):Nat):Int) - (popc (abQ bs (k1 / 8)):Nat))=((top - lo - (adO bs lo (k1 - lo)+popc (abQ bs (k1 / 8))):Nat):Int):=by rw [aaO (by omega) (by omega)];omega
     rw [aa] at a2
     generalize abQ bs (k1 / 8)=ba at *
     generalize popc ba=pc at *
     replace ⟨ab,a2,a1,a4⟩:=yh4 ab a2 a1 a4;clear aa a5 ac a9
     go_wp2_with (go_at_call 176;refine (ab.out _).mono ?_;rintro e w' ⟨rfl,rfl⟩)
     exact ⟨⟨k1+8,n,by omega,by omega,by rw [a2.out],by go_num,rfl⟩,by simp [intOf];omega⟩
    ·have h8':¬ (k1:Int)+8<=(top:Int):=by omega
     have hHk:=hH.out n k1 (by omega)
     have a0:=aj5 bs k1
     cases a6:abP bs k1 with
     | true=>
      rw [a6] at hHk a0
      rw [if_pos rfl] at a0
      replace ⟨a0,a1,hHk,a4⟩:=yh4 a0 a1 hHk a4
      go_wp2_with (go_at_call 177;refine hHk.out.mono ?_;rintro e w' ⟨rfl,n2,rfl⟩)
      refine ⟨⟨k1+1,n+n2,by omega,by omega,?_,by go_num,rfl⟩,by simp [intOf];omega⟩
      rw [a1.out,a0.out];congr 1;omega
     | false=>
      rw [a6] at hHk a0
      rw [if_neg (by decide)] at a0
      replace ⟨a0,a1,hHk,a4⟩:=yh4 a0 a1 hHk a4
      go_wp2_with (go_at_call 177;refine hHk.out.mono ?_;rintro e w' ⟨rfl,n2,rfl⟩)
      refine ⟨⟨k1+1,n+n2,by omega,by omega,?_,by go_num,rfl⟩,by simp [intOf];omega⟩
      rw [a1.out,a0.out,Nat.add_zero]
   ·have hrem':¬ ((k1 % 8:Nat):Int)=0:=by omega
    have hHk:=hH.out n k1 (by omega)
    have a0:=aj5 bs k1
    cases a6:abP bs k1 with
    | true=>
     rw [a6] at hHk a0
     rw [if_pos rfl] at a0
     replace ⟨a0,a1,hHk,a4⟩:=yh4 a0 a1 hHk a4
     go_wp2_with (go_at_call 177;refine hHk.out.mono ?_;rintro e w' ⟨rfl,n2,rfl⟩)
     refine ⟨⟨k1+1,n+n2,by omega,by omega,?_,by go_num,rfl⟩,by simp [intOf];omega⟩
     rw [a1.out,a0.out];congr 1;omega
    | false=>
     rw [a6] at hHk a0
     rw [if_neg (by decide)] at a0
     replace ⟨a0,a1,hHk⟩:=yh3 a0 a1 hHk;clear a4
     go_wp2_with (go_at_call 177;refine hHk.out.mono ?_;rintro e w' ⟨rfl,n2,rfl⟩)
     refine ⟨⟨k1+1,n+n2,by omega,by omega,?_,by go_num,rfl⟩,by simp [intOf];omega⟩
     rw [a1.out,a0.out,Nat.add_zero]
  ·have ae:¬ (k1:Int)<(top:Int):=by omega
   obtain rfl:k1=top:=by omega
   go_wp2
   go_ret
   exact ⟨by rw [a3.out];rfl,n,rfl⟩
end
theorem TxM.get_read (C:TxC) (M:TxM) (a b:Nat):(M.read C a).get C b=M.get C b:=by
 unfold TxM.get TxM.read getB cmtB ajJ cmtD
 dsimp only
 split
 ·rfl
 ·split<;>rfl
section
variable {w:World} {C:TxC} {M:TxM} {X:Nat->Prop} {p:Nat}
theorem aBO (hp:Blk w p (ab3 C.t)) (aa:X p) (hT:Aa1 w C M false X) (h0:aaT M.D C.G.life M.sp false=0) (hb:1<C.G.blocks) (h1:2+C.G.n / 4<=C.G.blocks) (h3:C.G.blocks<=4096) (h4:C.G.n<=4096) :
  Calls prog 40 #[↑p] w (AdI w C ((M.read C 0).read C 1) false X (.tuple #[I (ad3 (M.get C 0) (2+C.G.n / 4) C.G.blocks),I (ad3 ((M.read C 0).get C 1) 0 C.G.n),I 0])):=by
 have ao:∀ (fn:Fn) (first cap:Array Value) (w:World),(Instr.makeFunc fn first cap).run prog w=.ok (.func fn first cap) w:=λ _ _ _ _=>rfl
 obtain ⟨ap,ah,ad,ae,af,ab,p0,hS⟩:=ad6 hp hT
 rw [h0] at hS
 have hR:=λ n=>aoA (w:=(w.alloc (errO 0)).drewN n) (X:=agG X w.heap.size) (ae.drewN n) (.inl aa) (ab.drewN n) h0 (by omega)
 have ag:=(hT.notF aa).1
 have a0:w.heap.size∉C.F:=(ab.notF (.inr (aEK _))).1
 have hA:∀ n e w2,AiF ((w.alloc (errO 0)).drewN n) C M (agG X w.heap.size) p 0 (2+C.G.n / 4) C.G.blocks 0 e w2->∃ m,e=U (.pointer (some ⟨m,0,none⟩)) /\
   (Calls prog 99 #[.pointer (some ⟨m,0,none⟩)] w2 λ e w'=>e=U (I (ad3 (M.get C 0) (2+C.G.n / 4) C.G.blocks:Nat))/\∃ n,w'=w2.drewN n) /\
   (∀ n,Calls prog 100 #[↑p] (w2.drewN n) (AiF (w2.drewN n) C (M.read C 0) (agG X w.heap.size) p 1 0 C.G.n 1))/\AaA (· ∈ C.F) w w2/\Blk w2 w.heap.size (errO 0):=by
  rintro n e w2 ⟨m,g,k,rfl,a4,a5,a6,a7,a8,a9,a10,a11⟩
  have hk2:AaA (· ∈ C.F) w w2:=((ad.mono (λ _ _ f=>f.elim)).drewN n).step a11
  refine ⟨m,rfl,azR a8 a9 (hT.get_len 0 (by omega)) h1 h3,λ n2=>?_,hk2,a11.blk (af.drewN n) a0⟩
  have ai:=a10.client (Y:=agG X w.heap.size) (λ i hi=>.inl (.inl hi))
  exact aqT ((hk2.blk hp ag).drewN n2) (.inl aa) (ai.drewN n2) (by rw [acU];exact h0) hb
 have hB:∀ w2 n e w3,AaA (· ∈ C.F) w w2->Blk w2 w.heap.size (errO 0)->AiF (w2.drewN n) C (M.read C 0) (agG X w.heap.size) p 1 0 C.G.n 1 e w3->∃ m,e=U (.pointer (some ⟨m,0,none⟩)) /\
   (Calls prog 99 #[.pointer (some ⟨m,0,none⟩)] w3 λ e w'=>e=U (I (ad3 ((M.read C 0).get C 1) 0 C.G.n:Nat))/\∃ n,w'=w3.drewN n) /\
   w3.cell? ↑w.heap.size=some (I 0)/\(∀ i,w3.frozen? ⟨w.heap.size,i,none⟩=false) /\
   (∀ n,((w3.drewN n).setCell ↑w.heap.size (I 0)).cell? ↑w.heap.size=some (I 0)/\Aa1 ((w3.drewN n).setCell ↑w.heap.size (I 0)) C ((M.read C 0).read C 1) false X/\AaA (λ i=>i∈C.F∨i=C.t∨i=C.mx) w ((w3.drewN n).setCell ↑w.heap.size (I 0))):=by
  rintro w2 n e w3 hk2 aj ⟨m,g,k,rfl,a4,a5,a6,a7,a8,a9,a10,a11⟩
  have ak:AaA (· ∈ C.F) w w3:=(hk2.drewN n).step a11
  have ac:=a11.blk (aj.drewN n) a0
  have al:((M.read C 0).get C 1).length=512:=by rw [TxM.get_read];exact hT.get_len 1 hb
  refine ⟨m,rfl,azR a8 a9 al (aEY _) h4,by have:=ac.cell 0;simpa using this,ac.frz,λ n2=>?_⟩
  have am:=(ac.drewN n2).setCell 0 (I 0)
  have an:=a10.client (Y:=agG X w.heap.size) (λ i hi=>.inl (.inl hi))
  refine ⟨by have:=am.cell 0;simpa using this,?_,?_⟩
  ·exact (((an.drewN n2).quiet ((AaA.refl (· = w.heap.size) _).setCell (p:=⟨w.heap.size,0,none⟩) (.inl rfl) _) (λ i e=>.inr (by omega)))).client (λ i hi=>.inl (.inl hi))
  ·exact ((ak.mono (λ _ _ h=>.inl h)).drewN n2).setCell (p:=⟨w.heap.size,0,none⟩) (.inr (aEK _)) _
 have hPost:∀ W,Aa1 W C ((M.read C 0).read C 1) false X->AaA (λ i=>i∈C.F∨i=C.t∨i=C.mx) w W ->
   AdI w C ((M.read C 0).read C 1) false X (.tuple #[I (ad3 (M.get C 0) (2+C.G.n / 4) C.G.blocks),I (ad3 ((M.read C 0).get C 1) 0 C.G.n),I 0]) (U (.tuple #[I (ad3 (M.get C 0) (2+C.G.n / 4) C.G.blocks),I (ad3 ((M.read C 0).get C 1) 0 C.G.n),I 0])) W:=λ W x y=>⟨rfl,x,y⟩
 unfold errO at *
 generalize ad3 (M.get C 0) (2+C.G.n / 4) C.G.blocks=l1 at hA hPost ⊢
 generalize ad3 ((M.read C 0).get C 1) 0 C.G.n=l2 at hB hPost ⊢
 replace ⟨hS,hR,hPost,hA,hB⟩:=yh5 hS hR hPost hA hB;clear hp aa hT hb h1 h3 h4 ah ad ae af ab h0 ag a0
 go_enter_defers Tryz.func40,Tryz.ntmps40
 go_wp2_with (first
  | (go_at_call 85;refine hS.out.mono ?_;rintro e w' ⟨rfl,n,rfl⟩)
  | (go_at_call 84;refine (abX _).mono ?_;rintro e w3 ⟨rfl,rfl⟩))
 refine (hR.out n).mono ?_
 intro e w2 hr
 obtain ⟨m,rfl,a1,a2,a3,a4⟩:=hA.out _ _ _ hr
 clear hr
 replace ⟨a1,a2,a3,a4⟩:=yh4 a1 a2 a3 a4
 go_wp2_with (go_at_call 99;refine a1.out.mono ?_;rintro e w' ⟨rfl,n2,rfl⟩)
 refine (a2.out n2).mono ?_
 intro e w3 hr
 obtain ⟨m2,rfl,b1,b2,b3,b4⟩:=hB.out _ _ _ _ a3.out a4.out hr
 clear hr
 replace ⟨b1,b4⟩:=yh2 b1 b4
 go_wp2_with (go_at_call 99;refine b1.out.mono ?_;rintro e w' ⟨rfl,n3,rfl⟩)
 obtain ⟨c1,c2,c3⟩:=b4.out n3
 refine leaves_cons (f:=97) (args:=#[↑w.heap.size]) (by simp) (by simp [go_sem]) ?_
 refine (avM ⟨w.heap.size,0,none⟩ _).mono ?_
 rintro e u' w'' ⟨rfl,rfl,rfl⟩
 have hQ:=hPost.out _ c2 c3
 simp [Leaves,settle,results,Tryz.results40,go_sem,c1]
 exact hQ
end
end Go.Vk
