/- Part of the proof: Po6. -/
import Derived.Test.YtjeelghnmkefcaaGreatQ15
set_option linter.unusedVariables false
set_option maxHeartbeats 16000000
set_option maxRecDepth 100000
namespace Go.Vk
open Go.RowKit Go.Proofs
open Tryz (prog)
section
variable {w:World} {C:TxC} {M:TxM} {X:Nat->Prop} {en:Bool}
theorem Aa1.get_len (h:Aa1 w C M en X) (b:Nat) (hb:b<C.G.blocks):(M.get C b).length=512:=by
 obtain ⟨own,xc,h1,h2,h3⟩:=h
 have a0:ovOf own=M.own:=funext h2
 unfold TxM.get getB cmtB
 rw [← a0]
 unfold ovOf
 cases hf:own.find? (·.key == b) with
 | some e=>exact (h1.hx.ok e (aEN hf)).len
 | none=>
  cases hf':C.ov.find? (·.key == b) with
  | some e=>exact (h1.ho.ok e (aEN hf')).len
  | none=>exact h1.hd.now_length _ (by have:=h1.gn;omega)
theorem acU (C:TxC) (M:TxM) (b:Nat) (en:Bool):aaT (M.read C b).D C.G.life (M.read C b).sp en=aaT M.D C.G.life M.sp en:=by
 unfold aaT afD TxM.read
 dsimp only
 rw [aiY,aiC]
theorem anU (h:Aa1 w C M en X):Calls prog 85 #[↑C.t] w λ e w'=>e=U (I (aaT M.D C.G.life M.sp en:Nat))/\∃ m,w'=w.drewN m:=by
 obtain ⟨own,xc,h1,h2,h3⟩:=h
 exact aiP h1.ht h1.hs h1.hd
theorem Aa1.notF (h:Aa1 w C M en X) {i:Nat} (hi:X i):i∉C.F/\i≠C.t/\i≠C.mx:=by
 obtain ⟨own,xc,h1,_⟩:=h
 obtain ⟨a1,_,a3,_,a5⟩:=h1.xX i hi
 exact ⟨a3,a1,λ e=>a5 (by simp [aaH,e])⟩
end
def TxM.take (C:TxC) (M:TxM) (blk lo top first no:Nat):(Nat × Nat) × TxM:=(M.read C blk).takeR C (M.get C blk) blk lo top first no
def AdI (w:World) (C:TxC) (M:TxM) (en:Bool) (X:Nat->Prop) (v:Value) (e:Ending) (w':World):Prop:=
 e=.returned v/\Aa1 w' C M en X/\AaA (λ i=>i∈C.F∨i=C.t∨i=C.mx) w w'
section
variable {w:World} {C:TxC} {M:TxM} {X:Nat->Prop} {p:Nat}
theorem ad6 {en:Bool} (hp:Blk w p (ab3 C.t)) (hT:Aa1 w C M en X):p<w.heap.size/\(w.alloc (errO 0)).heap.size=w.heap.size+1/\AaA NoF w (w.alloc (errO 0))/\Blk (w.alloc (errO 0)) p (ab3 C.t)/\Blk (w.alloc (errO 0)) w.heap.size (errO 0) /\
  Aa1 (w.alloc (errO 0)) C M en (agG X w.heap.size)/\(w.alloc (errO 0)).cell? ↑p=some ↑C.t /\
  Calls prog 85 #[↑C.t] (w.alloc (errO 0)) λ e w'=>e=U (I (aaT M.D C.G.life M.sp en:Nat))/\∃ m,w'=(w.alloc (errO 0)).drewN m:=by
 have a0:AaA NoF w (w.alloc (errO 0)):=(AaA.refl _ w).alloc _
 have a1:=a0.blk hp (λ f=>f)
 have a2:Aa1 (w.alloc (errO 0)) C M en (agG X w.heap.size):=(hT.client (Y:=agG X w.heap.size) (λ _ hi=>hi)).quiet a0 (λ _ f=>f.elim)
 have p0:=a1.cell 0
 exact ⟨hp.lt,aEI ..,a0,a1,Blk.new w _,a2,by simpa using p0,anU a2⟩
theorem axG (hp:Blk w p (ab3 C.t)) (a2:X p) (hT:Aa1 w C M false X) (h0:aaT M.D C.G.life M.sp false=0) (hX:∀ i,X i->i<w.heap.size) (hb:0<C.G.blocks) (h1:(2+C.G.n / 4)<=C.G.blocks) (h3:C.G.blocks<=4096) :
  Calls prog 131 #[↑p] w (AdI w C (M.take C 0 (2+C.G.n / 4) C.G.blocks 0 60).2 false X (.tuple #[I (M.take C 0 (2+C.G.n / 4) C.G.blocks 0 60).1.1,I (M.take C 0 (2+C.G.n / 4) C.G.blocks 0 60).1.2])):=by
 have ai:∀ (fn:Fn) (first cap:Array Value) (w:World),(Instr.makeFunc fn first cap).run prog w=.ok (.func fn first cap) w:=λ _ _ _ _=>rfl
 have hlen:=(hT.get_len 0 hb)
 obtain ⟨aj,a6,a7,a3,a8,a4,p0,hS⟩:=ad6 hp hT
 rw [h0] at hS
 have hR:=λ n=>aoA (w:=(w.alloc (errO 0)).drewN n) (X:=agG X w.heap.size) (a3.drewN n) (.inl a2) (a4.drewN n) h0 hb
 have hPost:∀ r,M.take C 0 (2+C.G.n / 4) C.G.blocks 0 60=r->∀ W,Aa1 W C r.2 false X->AaA (λ i=>i∈C.F∨i=C.t∨i=C.mx) w W ->
   AdI w C (M.take C 0 (2+C.G.n / 4) C.G.blocks 0 60).2 false X (.tuple #[I (M.take C 0 (2+C.G.n / 4) C.G.blocks 0 60).1.1,I (M.take C 0 (2+C.G.n / 4) C.G.blocks 0 60).1.2]) (U (.tuple #[I r.1.1,I r.1.2])) W:=by
  rintro r rfl W x y
  exact ⟨rfl,x,y⟩
 obtain ⟨r,hr⟩:∃ r,M.take C 0 (2+C.G.n / 4) C.G.blocks 0 60=r:=⟨_,rfl⟩
 replace hPost:=hPost r hr
 unfold errO at *
 replace ⟨a2,hT,hX,hb,h1,h3,hlen,a6⟩:=yh8 a2 hT hX hb h1 h3 hlen a6;replace ⟨a7,a3,a8,a4,hS,hR,hPost,hr⟩:=yh8 a7 a3 a8 a4 hS hR hPost hr;replace h0:=hid h0;clear hp
 go_enter_defers Tryz.func131,Tryz.ntmps131
 go_wp2_with (first
  | (go_at_call 85;refine hS.out.mono ?_;rintro e w' ⟨rfl,n,rfl⟩)
  | (go_at_call 84;refine (abX _).mono ?_;rintro e w3 ⟨rfl,rfl⟩))
 refine (hR.out n).mono ?_
 rintro e w2 ⟨m,g,k,rfl,h4,h5,h6,h7,h8,h9,ad,a5⟩
 have a9:((w.alloc (.cells #[I 0] 63 (0,0))).drewN n).heap.size=w.heap.size+1:=a6.out
 have ag:=h9.lt
 have ah:=h8.lt
 have hk2:AaA (· ∈ C.F) w w2:=((a7.out.mono (λ _ _ f=>f.elim)).drewN n).step a5
 have a0:w.heap.size∉C.F:=(a4.out.notF (.inr (aEK _))).1
 have ae:=a5.blk (a3.out.drewN n) (hT.out.notF a2.out).1
 have aa:=a5.blk (a8.out.drewN n) a0
 have ab:Aa1 w2 C (M.read C 0) false (λ i=>X i∨i=w.heap.size∨i=m∨i=g):=ad.client (λ i hi=>by
  rcases hi with x|x|x|x
  ·exact .inl (.inl (.inl x))
  ·exact .inl (.inl (.inr (by omega)))
  ·exact .inl (.inl (.inr (by omega)))
  ·exact .inl (.inl (.inr (by omega))))
 have af:∀ i,(X i∨i=w.heap.size∨i=m∨i=g)->i<w2.heap.size:=by
  rintro i (x|x|x|x)
  ·have:=hX.out i x;have:=hk2.size;omega
  ·have:=aa.lt;omega
  ·omega
  ·omega
 have a1:=azF h8 ae h9 hlen.out 60 (by decide) ab (by rw [acU];exact h0.out) af hb.out (.inr (.inr (.inl rfl))) (.inl a2.out) (.inr (.inr (.inr rfl))) h6 (by omega) (by omega) h1.out h3.out
 have hr':(M.read C 0).takeR C (M.get C 0) 0 (2+C.G.n / 4) C.G.blocks 0 60=r:=hr.out
 rw [hr'] at a1
 have hFin:∀ (e:Ending) (W:World),ACG w2 C r (λ i=>X i∨i=w.heap.size∨i=m∨i=g) g e W->e=(if r.1.2=0 then .returned (I r.1.1) else .panicked [{ v:=refV r.1.2,recovered:=false }])/\Blk W w.heap.size (.cells #[I 0] 63 (0,0))/\Aa1 W C r.2 false (λ i=>X i∨i=w.heap.size) /\
   AaA (λ i=>i∈C.F∨i=C.t∨i=C.mx) w W/\(r.1.2≠0->r.1.1=0):=by
  rintro e W ⟨x1,x2,x3,x4⟩
  have ac:=ab.notF (i:=w.heap.size) (.inr (.inl rfl))
  refine ⟨x1,x3.blk aa ?_,x2.client ?_,?_,x4⟩
  ·rintro (x|x|x|x)
   ·exact ac.1 x
   ·exact ac.2.1 x
   ·exact ac.2.2 x
   ·omega
  ·rintro i (x|x)
   ·exact .inl (.inl x)
   ·exact .inl (.inr (.inl x))
  ·exact (hk2.mono (λ i _ hi=>.inl hi)).trans x3 (λ i hi hq=>by
    rcases hq with x|x|x|x
    ·exact .inl x
    ·exact .inr (.inl x)
    ·exact .inr (.inr x)
    ·omega)
 clear h6 h7 h8 h9 ad a5 ag ah ae aa ab af hr' hk2
 by_cases hz:r.1.2=0
 ·simp only [if_pos hz] at hFin
  rw [hz] at hPost
  replace ⟨hFin,a1,hz,a0,a9⟩:=yh5 hFin a1 hz a0 a9
  go_wp2_with (go_at_call 179;refine a1.out.mono ?_;intro e w3 ht;obtain ⟨rfl,t1,t2,t3,t4⟩:=hFin.out _ _ ht;clear ht;have tc:=t1.cell 0;have tf:=t1.frz 0;simp at tc;replace ⟨t1,t2,t3,t4⟩:=yh4 t1 t2 t3 t4)
  have te:=t1.out.setCell 0 (I 0)
  have tT:=t2.out.quiet ((AaA.refl (· = w.heap.size) w3).setCell (p:=⟨w.heap.size,0,none⟩) (.inl rfl) (I 0)) (λ i e=>.inr e)
  have tK:=t3.out.setCell (p:=⟨w.heap.size,0,none⟩) (.inr (aEK _)) (I 0)
  have tc4:=te.cell 0
  simp at tc4
  refine leaves_cons (f:=198) (args:=#[↑w.heap.size]) (by simp) (by simp [go_sem]) ?_
  refine (asK ⟨w.heap.size,0,none⟩ _).mono ?_
  rintro e u' w'' ⟨rfl,rfl,rfl⟩
  have hQ:=hPost.out _ (tT.client (λ i hi=>.inl (.inl hi))) tK
  simp [Leaves,settle,results,Tryz.results131,go_sem,tc4]
  exact hQ
 ·simp only [if_neg hz] at hFin
  replace ⟨hFin,a1,hz⟩:=yh3 hFin a1 hz;clear a0 a9
  go_wp2_with (go_at_call 179;refine a1.out.mono ?_;intro e w3 ht;obtain ⟨rfl,t1,t2,t3,t4⟩:=hFin.out _ _ ht;clear ht;replace ⟨t1,t2,t3,t4⟩:=yh4 t1 t2 t3 t4)
  refine leaves_cons (f:=198) (args:=#[↑w.heap.size]) (by simp) (by simp [go_sem]) ?_
  refine (aoQ w.heap.size 0 r.1.2 _ t1.out).mono ?_
  rintro e u' w4 ⟨rfl,rfl,t5,t6⟩
  have tT:=t2.out.quiet t6 (λ i e=>.inr e)
  have tK:=t3.out.trans t6 (λ i hi e=>by omega)
  have tc4:=t5.cell 0
  simp at tc4
  have hQ:=hPost.out _ (tT.client (λ i hi=>.inl (.inl hi))) tK
  rw [t4.out hz.out] at hQ
  simp [Leaves,settle,results,Tryz.results131,go_sem,tc4]
  exact hQ
theorem axF (hp:Blk w p (ab3 C.t)) (a2:X p) (hT:Aa1 w C M false X) (h0:aaT M.D C.G.life M.sp false=0) (hX:∀ i,X i->i<w.heap.size) (hb:1<C.G.blocks) (h1:0<=C.G.n) (h3:C.G.n<=4096) :
  Calls prog 102 #[↑p] w (AdI w C (M.take C 1 0 C.G.n 1 61).2 false X (.tuple #[I (M.take C 1 0 C.G.n 1 61).1.1,I (M.take C 1 0 C.G.n 1 61).1.2])):=by
 have ai:∀ (fn:Fn) (first cap:Array Value) (w:World),(Instr.makeFunc fn first cap).run prog w=.ok (.func fn first cap) w:=λ _ _ _ _=>rfl
 have hlen:=(hT.get_len 1 hb)
 obtain ⟨aj,a6,a7,a3,a8,a4,p0,hS⟩:=ad6 hp hT
 rw [h0] at hS
 have hR:=λ n=>aqT (w:=(w.alloc (errO 0)).drewN n) (X:=agG X w.heap.size) (a3.drewN n) (.inl a2) (a4.drewN n) h0 hb
 have hPost:∀ r,M.take C 1 0 C.G.n 1 61=r->∀ W,Aa1 W C r.2 false X->AaA (λ i=>i∈C.F∨i=C.t∨i=C.mx) w W ->
   AdI w C (M.take C 1 0 C.G.n 1 61).2 false X (.tuple #[I (M.take C 1 0 C.G.n 1 61).1.1,I (M.take C 1 0 C.G.n 1 61).1.2]) (U (.tuple #[I r.1.1,I r.1.2])) W:=by
  rintro r rfl W x y
  exact ⟨rfl,x,y⟩
 obtain ⟨r,hr⟩:∃ r,M.take C 1 0 C.G.n 1 61=r:=⟨_,rfl⟩
 replace hPost:=hPost r hr
 unfold errO at *
 replace ⟨a2,hT,hX,hb,h1,h3,hlen,a6⟩:=yh8 a2 hT hX hb h1 h3 hlen a6;replace ⟨a7,a3,a8,a4,hS,hR,hPost,hr⟩:=yh8 a7 a3 a8 a4 hS hR hPost hr;replace h0:=hid h0;clear hp
 go_enter_defers Tryz.func102,Tryz.ntmps102
 go_wp2_with (first
  | (go_at_call 85;refine hS.out.mono ?_;rintro e w' ⟨rfl,n,rfl⟩)
  | (go_at_call 84;refine (abX _).mono ?_;rintro e w3 ⟨rfl,rfl⟩))
 refine (hR.out n).mono ?_
 rintro e w2 ⟨m,g,k,rfl,h4,h5,h6,h7,h8,h9,ad,a5⟩
 have a9:((w.alloc (.cells #[I 0] 63 (0,0))).drewN n).heap.size=w.heap.size+1:=a6.out
 have ag:=h9.lt
 have ah:=h8.lt
 have hk2:AaA (· ∈ C.F) w w2:=((a7.out.mono (λ _ _ f=>f.elim)).drewN n).step a5
 have a0:w.heap.size∉C.F:=(a4.out.notF (.inr (aEK _))).1
 have ae:=a5.blk (a3.out.drewN n) (hT.out.notF a2.out).1
 have aa:=a5.blk (a8.out.drewN n) a0
 have ab:Aa1 w2 C (M.read C 1) false (λ i=>X i∨i=w.heap.size∨i=m∨i=g):=ad.client (λ i hi=>by
  rcases hi with x|x|x|x
  ·exact .inl (.inl (.inl x))
  ·exact .inl (.inl (.inr (by omega)))
  ·exact .inl (.inl (.inr (by omega)))
  ·exact .inl (.inl (.inr (by omega))))
 have af:∀ i,(X i∨i=w.heap.size∨i=m∨i=g)->i<w2.heap.size:=by
  rintro i (x|x|x|x)
  ·have:=hX.out i x;have:=hk2.size;omega
  ·have:=aa.lt;omega
  ·omega
  ·omega
 have a1:=azF h8 ae h9 hlen.out 61 (by decide) ab (by rw [acU];exact h0.out) af hb.out (.inr (.inr (.inl rfl))) (.inl a2.out) (.inr (.inr (.inr rfl))) h6 (by omega) (by omega) h1.out h3.out
 have hr':(M.read C 1).takeR C (M.get C 1) 1 0 C.G.n 1 61=r:=hr.out
 rw [hr'] at a1
 have hFin:∀ (e:Ending) (W:World),ACG w2 C r (λ i=>X i∨i=w.heap.size∨i=m∨i=g) g e W->e=(if r.1.2=0 then .returned (I r.1.1) else .panicked [{ v:=refV r.1.2,recovered:=false }])/\Blk W w.heap.size (.cells #[I 0] 63 (0,0))/\Aa1 W C r.2 false (λ i=>X i∨i=w.heap.size) /\
   AaA (λ i=>i∈C.F∨i=C.t∨i=C.mx) w W/\(r.1.2≠0->r.1.1=0):=by
  rintro e W ⟨x1,x2,x3,x4⟩
  have ac:=ab.notF (i:=w.heap.size) (.inr (.inl rfl))
  refine ⟨x1,x3.blk aa ?_,x2.client ?_,?_,x4⟩
  ·rintro (x|x|x|x)
   ·exact ac.1 x
   ·exact ac.2.1 x
   ·exact ac.2.2 x
   ·omega
  ·rintro i (x|x)
   ·exact .inl (.inl x)
   ·exact .inl (.inr (.inl x))
  ·exact (hk2.mono (λ i _ hi=>.inl hi)).trans x3 (λ i hi hq=>by
    rcases hq with x|x|x|x
    ·exact .inl x
    ·exact .inr (.inl x)
    ·exact .inr (.inr x)
    ·omega)
 clear h6 h7 h8 h9 ad a5 ag ah ae aa ab af hr' hk2
 by_cases hz:r.1.2=0
 ·simp only [if_pos hz] at hFin
  rw [hz] at hPost
  replace ⟨hFin,a1,hz,a0,a9⟩:=yh5 hFin a1 hz a0 a9
  go_wp2_with (go_at_call 179;refine a1.out.mono ?_;intro e w3 ht;obtain ⟨rfl,t1,t2,t3,t4⟩:=hFin.out _ _ ht;clear ht;have tc:=t1.cell 0;have tf:=t1.frz 0;simp at tc;replace ⟨t1,t2,t3,t4⟩:=yh4 t1 t2 t3 t4)
  have te:=t1.out.setCell 0 (I 0)
  have tT:=t2.out.quiet ((AaA.refl (· = w.heap.size) w3).setCell (p:=⟨w.heap.size,0,none⟩) (.inl rfl) (I 0)) (λ i e=>.inr e)
  have tK:=t3.out.setCell (p:=⟨w.heap.size,0,none⟩) (.inr (aEK _)) (I 0)
  have tc4:=te.cell 0
  simp at tc4
  refine leaves_cons (f:=178) (args:=#[↑w.heap.size]) (by simp) (by simp [go_sem]) ?_
  refine (asJ ⟨w.heap.size,0,none⟩ _).mono ?_
  rintro e u' w'' ⟨rfl,rfl,rfl⟩
  have hQ:=hPost.out _ (tT.client (λ i hi=>.inl (.inl hi))) tK
  simp [Leaves,settle,results,Tryz.results102,go_sem,tc4]
  exact hQ
 ·simp only [if_neg hz] at hFin
  replace ⟨hFin,a1,hz⟩:=yh3 hFin a1 hz;clear a0 a9
  go_wp2_with (go_at_call 179;refine a1.out.mono ?_;intro e w3 ht;obtain ⟨rfl,t1,t2,t3,t4⟩:=hFin.out _ _ ht;clear ht;replace ⟨t1,t2,t3,t4⟩:=yh4 t1 t2 t3 t4)
  refine leaves_cons (f:=178) (args:=#[↑w.heap.size]) (by simp) (by simp [go_sem]) ?_
  refine (aoP w.heap.size 0 r.1.2 _ t1.out).mono ?_
  rintro e u' w4 ⟨rfl,rfl,t5,t6⟩
  have tT:=t2.out.quiet t6 (λ i e=>.inr e)
  have tK:=t3.out.trans t6 (λ i hi e=>by omega)
  have tc4:=t5.cell 0
  simp at tc4
  have hQ:=hPost.out _ (tT.client (λ i hi=>.inl (.inl hi))) tK
  rw [t4.out hz.out] at hQ
  simp [Leaves,settle,results,Tryz.results102,go_sem,tc4]
  exact hQ
variable {en:Bool}
theorem auC (hp:Blk w p (ab3 C.t)) (hT:Aa1 w C M en X) (a0:aaT M.D C.G.life M.sp en≠0) :
  Calls prog 131 #[↑p] w (AdI w C M en X (.tuple #[I 0,I (aaT M.D C.G.life M.sp en:Nat)])):=by
 have a5:∀ (fn:Fn) (first cap:Array Value) (w:World),(Instr.makeFunc fn first cap).run prog w=.ok (.func fn first cap) w:=λ _ _ _ _=>rfl
 obtain ⟨a6,-,a1,a4,a2,a3,p0,hS⟩:=ad6 hp hT
 generalize hst:aaT M.D C.G.life M.sp en=st at hS a0
 have hPost:∀ W,Aa1 W C M en X->AaA (λ i=>i∈C.F∨i=C.t∨i=C.mx) w W->AdI w C M en X (.tuple #[I 0,I st]) (U (.tuple #[I 0,I st])) W:=λ W x y=>⟨rfl,x,y⟩
 generalize AdI w C M en X (.tuple #[I 0,I st])=Post at hPost ⊢
 unfold errO at *
 replace ⟨a1,a2,a3,hS,hPost,a0⟩:=yh6 a1 a2 a3 hS hPost a0;clear hp hT a4 hst
 go_enter_defers Tryz.func131,Tryz.ntmps131
 go_wp2_with (first
  | (go_at_call 85;refine hS.out.mono ?_;rintro e w' ⟨rfl,n,rfl⟩)
  | (go_at_call 84;refine (adD _ st a0.out).mono ?_;rintro e w3 ⟨rfl,rfl⟩))
 refine leaves_cons (f:=198) (args:=#[↑w.heap.size]) (by simp) (by simp [go_sem]) ?_
 refine (aoQ w.heap.size 0 st _ (a2.out.drewN n)).mono ?_
 rintro e u' w4 ⟨rfl,rfl,t5,t6⟩
 have tT:=(a3.out.drewN n).quiet t6 (λ i e=>.inr (by omega))
 have tK:AaA (λ i=>i∈C.F∨i=C.t∨i=C.mx) w w4:=((a1.out.mono (λ _ _ f=>f.elim)).drewN n).trans t6 (λ i hi e=>by omega)
 have tc4:=t5.cell 0
 simp at tc4
 have hQ:=hPost.out _ (tT.client (λ i hi=>.inl (.inl hi))) tK
 simp [Leaves,settle,results,Tryz.results131,go_sem,tc4]
 exact hQ
theorem auB (hp:Blk w p (ab3 C.t)) (hT:Aa1 w C M en X) (a0:aaT M.D C.G.life M.sp en≠0) :
  Calls prog 102 #[↑p] w (AdI w C M en X (.tuple #[I 0,I (aaT M.D C.G.life M.sp en:Nat)])):=by
 have a5:∀ (fn:Fn) (first cap:Array Value) (w:World),(Instr.makeFunc fn first cap).run prog w=.ok (.func fn first cap) w:=λ _ _ _ _=>rfl
 obtain ⟨a6,-,a1,a4,a2,a3,p0,hS⟩:=ad6 hp hT
 generalize hst:aaT M.D C.G.life M.sp en=st at hS a0
 have hPost:∀ W,Aa1 W C M en X->AaA (λ i=>i∈C.F∨i=C.t∨i=C.mx) w W->AdI w C M en X (.tuple #[I 0,I st]) (U (.tuple #[I 0,I st])) W:=λ W x y=>⟨rfl,x,y⟩
 generalize AdI w C M en X (.tuple #[I 0,I st])=Post at hPost ⊢
 unfold errO at *
 replace ⟨a1,a2,a3,hS,hPost,a0⟩:=yh6 a1 a2 a3 hS hPost a0;clear hp hT a4 hst
 go_enter_defers Tryz.func102,Tryz.ntmps102
 go_wp2_with (first
  | (go_at_call 85;refine hS.out.mono ?_;rintro e w' ⟨rfl,n,rfl⟩)
  | (go_at_call 84;refine (adD _ st a0.out).mono ?_;rintro e w3 ⟨rfl,rfl⟩))
 refine leaves_cons (f:=178) (args:=#[↑w.heap.size]) (by simp) (by simp [go_sem]) ?_
 refine (aoP w.heap.size 0 st _ (a2.out.drewN n)).mono ?_
 rintro e u' w4 ⟨rfl,rfl,t5,t6⟩
 have tT:=(a3.out.drewN n).quiet t6 (λ i e=>.inr (by omega))
 have tK:AaA (λ i=>i∈C.F∨i=C.t∨i=C.mx) w w4:=((a1.out.mono (λ _ _ f=>f.elim)).drewN n).trans t6 (λ i hi e=>by omega)
 have tc4:=t5.cell 0
 simp at tc4
 have hQ:=hPost.out _ (tT.client (λ i hi=>.inl (.inl hi))) tK
 simp [Leaves,settle,results,Tryz.results102,go_sem,tc4]
 exact hQ
theorem awA (hp:Blk w p (ab3 C.t)) (hT:Aa1 w C M en X) (a0:aaT M.D C.G.life M.sp en≠0) (b:Int) :
  Calls prog 133 #[↑p,I b] w (AdI w C M en X (I (aaT M.D C.G.life M.sp en:Nat))):=by
 have a5:∀ (fn:Fn) (first cap:Array Value) (w:World),(Instr.makeFunc fn first cap).run prog w=.ok (.func fn first cap) w:=λ _ _ _ _=>rfl
 obtain ⟨a6,-,a1,a4,a2,a3,p0,hS⟩:=ad6 hp hT
 generalize hst:aaT M.D C.G.life M.sp en=st at hS a0
 have hPost:∀ W,Aa1 W C M en X->AaA (λ i=>i∈C.F∨i=C.t∨i=C.mx) w W->AdI w C M en X (I st) (U (I st)) W:=λ W x y=>⟨rfl,x,y⟩
 generalize AdI w C M en X (I st)=Post at hPost ⊢
 unfold errO at *
 replace ⟨a1,a2,a3,hS,hPost,a0⟩:=yh6 a1 a2 a3 hS hPost a0;clear hp hT a4 hst
 go_enter_defers Tryz.func133,Tryz.ntmps133
 go_wp2_with (first
  | (go_at_call 85;refine hS.out.mono ?_;rintro e w' ⟨rfl,n,rfl⟩)
  | (go_at_call 84;refine (adD _ st a0.out).mono ?_;rintro e w3 ⟨rfl,rfl⟩))
 refine leaves_cons (f:=199) (args:=#[↑w.heap.size]) (by simp) (by simp [go_sem]) ?_
 refine (apQ w.heap.size 0 st _ (a2.out.drewN n)).mono ?_
 rintro e u' w4 ⟨rfl,rfl,t5,t6⟩
 have tT:=(a3.out.drewN n).quiet t6 (λ i e=>.inr (by omega))
 have tK:AaA (λ i=>i∈C.F∨i=C.t∨i=C.mx) w w4:=((a1.out.mono (λ _ _ f=>f.elim)).drewN n).trans t6 (λ i hi e=>by omega)
 have tc4:=t5.cell 0
 simp at tc4
 have hQ:=hPost.out _ (tT.client (λ i hi=>.inl (.inl hi))) tK
 simp [Leaves,settle,results,Tryz.results133,go_sem,tc4]
 exact hQ
theorem av8 (hp:Blk w p (ab3 C.t)) (hT:Aa1 w C M en X) (a0:aaT M.D C.G.life M.sp en≠0) (b:Int) :
  Calls prog 108 #[↑p,I b] w (AdI w C M en X (I (aaT M.D C.G.life M.sp en:Nat))):=by
 have a5:∀ (fn:Fn) (first cap:Array Value) (w:World),(Instr.makeFunc fn first cap).run prog w=.ok (.func fn first cap) w:=λ _ _ _ _=>rfl
 obtain ⟨a6,-,a1,a4,a2,a3,p0,hS⟩:=ad6 hp hT
 generalize hst:aaT M.D C.G.life M.sp en=st at hS a0
 have hPost:∀ W,Aa1 W C M en X->AaA (λ i=>i∈C.F∨i=C.t∨i=C.mx) w W->AdI w C M en X (I st) (U (I st)) W:=λ W x y=>⟨rfl,x,y⟩
 generalize AdI w C M en X (I st)=Post at hPost ⊢
 unfold errO at *
 replace ⟨a1,a2,a3,hS,hPost,a0⟩:=yh6 a1 a2 a3 hS hPost a0;clear hp hT a4 hst
 go_enter_defers Tryz.func108,Tryz.ntmps108
 go_wp2_with (first
  | (go_at_call 85;refine hS.out.mono ?_;rintro e w' ⟨rfl,n,rfl⟩)
  | (go_at_call 84;refine (adD _ st a0.out).mono ?_;rintro e w3 ⟨rfl,rfl⟩))
 refine leaves_cons (f:=184) (args:=#[↑w.heap.size]) (by simp) (by simp [go_sem]) ?_
 refine (apP w.heap.size 0 st _ (a2.out.drewN n)).mono ?_
 rintro e u' w4 ⟨rfl,rfl,t5,t6⟩
 have tT:=(a3.out.drewN n).quiet t6 (λ i e=>.inr (by omega))
 have tK:AaA (λ i=>i∈C.F∨i=C.t∨i=C.mx) w w4:=((a1.out.mono (λ _ _ f=>f.elim)).drewN n).trans t6 (λ i hi e=>by omega)
 have tc4:=t5.cell 0
 simp at tc4
 have hQ:=hPost.out _ (tT.client (λ i hi=>.inl (.inl hi))) tK
 simp [Leaves,settle,results,Tryz.results108,go_sem,tc4]
 exact hQ
theorem ayI (hp:Blk w p (ab3 C.t)) (hT:Aa1 w C M en X) (a0:aaT M.D C.G.life M.sp en≠0) :
  Calls prog 40 #[↑p] w (AdI w C M en X (.tuple #[I 0,I 0,I (aaT M.D C.G.life M.sp en:Nat)])):=by
 have a5:∀ (fn:Fn) (first cap:Array Value) (w:World),(Instr.makeFunc fn first cap).run prog w=.ok (.func fn first cap) w:=λ _ _ _ _=>rfl
 obtain ⟨a6,-,a1,a4,a2,a3,p0,hS⟩:=ad6 hp hT
 generalize hst:aaT M.D C.G.life M.sp en=st at hS a0
 have hPost:∀ W,Aa1 W C M en X->AaA (λ i=>i∈C.F∨i=C.t∨i=C.mx) w W->AdI w C M en X (.tuple #[I 0,I 0,I st]) (U (.tuple #[I 0,I 0,I st])) W:=λ W x y=>⟨rfl,x,y⟩
 generalize AdI w C M en X (.tuple #[I 0,I 0,I st])=Post at hPost ⊢
 unfold errO at *
 replace ⟨a1,a2,a3,hS,hPost,a0⟩:=yh6 a1 a2 a3 hS hPost a0;clear hp hT a4 hst
 go_enter_defers Tryz.func40,Tryz.ntmps40
 go_wp2_with (first
  | (go_at_call 85;refine hS.out.mono ?_;rintro e w' ⟨rfl,n,rfl⟩)
  | (go_at_call 84;refine (adD _ st a0.out).mono ?_;rintro e w3 ⟨rfl,rfl⟩))
 refine leaves_cons (f:=97) (args:=#[↑w.heap.size]) (by simp) (by simp [go_sem]) ?_
 refine (ayH w.heap.size 0 st _ (a2.out.drewN n)).mono ?_
 rintro e u' w4 ⟨rfl,rfl,t5,t6⟩
 have tT:=(a3.out.drewN n).quiet t6 (λ i e=>.inr (by omega))
 have tK:AaA (λ i=>i∈C.F∨i=C.t∨i=C.mx) w w4:=((a1.out.mono (λ _ _ f=>f.elim)).drewN n).trans t6 (λ i hi e=>by omega)
 have tc4:=t5.cell 0
 simp at tc4
 have hQ:=hPost.out _ (tT.client (λ i hi=>.inl (.inl hi))) tK
 simp [Leaves,settle,results,Tryz.results40,go_sem,tc4]
 exact hQ
theorem awJ (hp:Blk w p (ab3 C.t)) (hT:Aa1 w C M en X) (a0:aaT M.D C.G.life M.sp en≠0) :
  Calls prog 35 #[↑p] w (AdI w C M en X (I (aaT M.D C.G.life M.sp en:Nat))):=by
 have a5:∀ (fn:Fn) (first cap:Array Value) (w:World),(Instr.makeFunc fn first cap).run prog w=.ok (.func fn first cap) w:=λ _ _ _ _=>rfl
 obtain ⟨a6,-,a1,a4,a2,a3,p0,hS⟩:=ad6 hp hT
 generalize hst:aaT M.D C.G.life M.sp en=st at hS a0
 have hPost:∀ W,Aa1 W C M en X->AaA (λ i=>i∈C.F∨i=C.t∨i=C.mx) w W->AdI w C M en X (I st) (U (I st)) W:=λ W x y=>⟨rfl,x,y⟩
 generalize AdI w C M en X (I st)=Post at hPost ⊢
 unfold errO at *
 replace ⟨a1,a2,a3,hS,hPost,a0⟩:=yh6 a1 a2 a3 hS hPost a0;clear hp hT a4 hst
 go_enter_defers Tryz.func35,Tryz.ntmps35
 go_wp2_with (first
  | (go_at_call 85;refine hS.out.mono ?_;rintro e w' ⟨rfl,n,rfl⟩)
  | (go_at_call 84;refine (adD _ st a0.out).mono ?_;rintro e w3 ⟨rfl,rfl⟩))
 refine leaves_cons (f:=82) (args:=#[↑w.heap.size]) (by simp) (by simp [go_sem]) ?_
 refine (amF w.heap.size 0 st _ (a2.out.drewN n)).mono ?_
 rintro e u' w4 ⟨rfl,rfl,t5,t6⟩
 have tT:=(a3.out.drewN n).quiet t6 (λ i e=>.inr (by omega))
 have tK:AaA (λ i=>i∈C.F∨i=C.t∨i=C.mx) w w4:=((a1.out.mono (λ _ _ f=>f.elim)).drewN n).trans t6 (λ i hi e=>by omega)
 have tc4:=t5.cell 0
 simp at tc4
 have hQ:=hPost.out _ (tT.client (λ i hi=>.inl (.inl hi))) tK
 simp [Leaves,settle,results,Tryz.results35,go_sem,tc4]
 exact hQ
end
end Go.Vk
