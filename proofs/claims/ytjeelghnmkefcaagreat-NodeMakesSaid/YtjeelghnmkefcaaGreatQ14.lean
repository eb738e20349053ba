/- Part of the proof: Tx5 Po1 Po2. -/
import Derived.Test.YtjeelghnmkefcaaGreatQ13
import Derived.Laws.BitsAllLaws
set_option linter.unusedVariables false
set_option maxHeartbeats 16000000
set_option maxRecDepth 100000
namespace Go.Vk
open Go.RowKit Go.Proofs
open Tryz (prog)
structure TxM where
 D:DM
 own:Nat->Option (List UInt8)
 cnt:Nat
 sp:Nat
def TxM.get (C:TxC) (M:TxM) (b:Nat):List UInt8:=getB M.D (ovOf C.ov) M.own C.G.home b
def TxM.read (C:TxC) (M:TxM) (b:Nat):TxM:={ M with D:=ajJ M.D (ovOf C.ov) M.own b }
def TxM.putC (M:TxM) (b:Nat) (data:List UInt8):TxM:={ M with own:=λ k=>if k=b then some data else M.own k,cnt:=if (M.own b).isSome then M.cnt else M.cnt+1 }
def TxM.put (C:TxC) (M:TxM) (b:Nat) (data:List UInt8):Nat × TxM:=
 if M.get C b=data then (0,M.read C b)
 else if M.own b=none/\16<=M.cnt then (50,{ M.read C b with sp:=50 })
 else (0,(M.read C b).putC b data)
def Aa1 (w:World) (C:TxC) (M:TxM) (en:Bool) (X:Nat->Prop):Prop:=
 ∃ own xc,TxAt w C M.D own xc M.sp en X/\(∀ k,ovOf own k=M.own k)/\own.length=M.cnt
theorem aBX (D:DM) (ov own:Nat->Option (List UInt8)) (b:Nat):(ajJ D ov own b).n=D.n:=by
 unfold ajJ cmtD;split
 ·rfl
 ·split<;>rfl
theorem aiC (D:DM) (ov own:Nat->Option (List UInt8)) (b:Nat):(ajJ D ov own b).life=D.life:=by
 unfold ajJ cmtD;split
 ·rfl
 ·split<;>rfl
theorem aiY (D:DM) (ov own:Nat->Option (List UInt8)) (b:Nat):(ajJ D ov own b).burnt=D.burnt:=by
 unfold ajJ cmtD;split
 ·rfl
 ·split<;>rfl
section
variable {w w':World} {C:TxC} {M:TxM} {X:Nat->Prop} {en:Bool}
theorem Aa1.client (h:Aa1 w C M en X) {Y:Nat->Prop} (hY:∀ i,Y i->X i∨w.heap.size<=i):Aa1 w C M en Y:=by
 obtain ⟨own,xc,h1,h2,h3⟩:=h
 exact ⟨own,xc,h1.client hY,h2,h3⟩
theorem Aa1.quiet (h:Aa1 w C M en X) {Gf:Nat->Prop} (k:AaA Gf w w') (hG:∀ i,Gf i->X i):Aa1 w' C M en X:=by
 obtain ⟨own,xc,h1,h2,h3⟩:=h
 exact ⟨own,xc,h1.quiet k hG (λ i hi=>(h1.xX i hi).2.2.1),h2,h3⟩
theorem Aa1.drewN (h:Aa1 w C M en X) (n:Nat):Aa1 (w.drewN n) C M en X:=h.quiet (((AaA.refl NoF w)).drewN n) (λ _ f=>f.elim)
def GetM (w:World) (C:TxC) (M:TxM) (b:Nat) (en:Bool) (X:Nat->Prop) (e:Ending) (w':World):Prop:=
 ∃ g k,e=U (.tuple #[.slice (some ⟨g,0,none⟩) 512 (512+k),I 0])/\w.heap.size<=g/\Blk w' g (aaE (M.get C b++aaD k))/\Aa1 w' C (M.read C b) en (λ i=>X i∨w.heap.size<=i)/\AaA (· ∈ C.F) w w'
theorem aBW (h:Aa1 w C M en X) (h0:aaT M.D C.G.life M.sp en=0) (b:Nat) (hb:b<C.G.blocks):Calls prog 122 #[↑C.t,I b] w (GetM w C M b en X):=by
 obtain ⟨own,xc,h1,h2,h3⟩:=h
 have a0:ovOf own=M.own:=funext h2
 have:=aDL h1.ht h1.hs h1.hd h1.ho h1.hx h0 b hb (by have:=h1.gn;omega) h1.n2 h1.sF
 rw [a0] at this
 refine this.mono ?_
 rintro e w2 ⟨g,k,x1,x2,x3,x4,x5⟩
 refine ⟨g,k,x1,x2,x3,⟨own,xc,?_,h2,h3⟩,x5⟩
 have h1':=h1.client (Y:=λ i=>X i∨w.heap.size<=i) (λ i hi=>hi)
 exact h1'.keep x5 (λ i g=>.inl g) x4 (aBX _ _ _ _)
def PutM (w:World) (C:TxC) (r:Nat × TxM) (X:Nat->Prop) (e:Ending) (w':World):Prop:=
 e=U (I r.1)/\Aa1 w' C r.2 false X/\AaA (λ i=>i∈C.F∨i=C.t∨i=C.mx) w w'
theorem asT (h:Aa1 w C M false X) (h0:aaT M.D C.G.life M.sp false=0) (hX:∀ i,X i->i<w.heap.size) (b:Nat) (hb:b<C.G.blocks) (g0 o0 c0:Nat) (bs data:List UInt8) (a3:Blk w g0 (aaE bs)) (a4:X g0)
  (hl:o0+512<=bs.length) (a0:(bs.drop o0).take 512=data) :
  Calls prog 87 #[↑C.t,I b,.slice (some ⟨g0,o0,none⟩) 512 c0] w (PutM w C (M.put C b data) X):=by
 have a5:data.length=512:=by rw [← a0,aEM,aET];omega
 have hA:Calls prog 168 #[↑C.t,I b] w λ e w'=>e=U (I 0)/\∃ m,w'=w.drewN m:=by
  obtain ⟨own,xc,h1,h2,h3⟩:=h
  have:=axC h1.ht h1.hs h1.hd b
  rw [atX h0 b hb] at this
  exact this
 have hG:=λ n=>aBW (h.drewN n) h0 b hb
 have a6:g0∉C.F:=by
  obtain ⟨own,xc,h1,_⟩:=h
  exact (h1.xX _ a4).2.2.1
 have hsz:∀ n,(w.drewN n).heap.size=w.heap.size:=λ _=>rfl
 have a1:∀ n e w2,GetM (w.drewN n) C M b false X e w2->∃ g k,e=U (.tuple #[.slice (some ⟨g,0,none⟩) 512 (512+k),I 0])/\w2.heap.size=w2.heap.size /\
   (Calls prog 169 #[.slice (some ⟨g,0,none⟩) 512 (512+k),.slice (some ⟨g0,o0,none⟩) 512 c0] w2 λ e w'=>e=U (.bool (decide (M.get C b=data)))/\w2=w') /\
   Blk w2 g0 (aaE bs)/\Aa1 w2 C (M.read C b) false X/\AaA (· ∈ C.F) w w2:=by
  rintro n e w2 ⟨g,k,x1,x2,x3,x4,x5⟩
  have hB:Blk w2 g0 (aaE bs):=x5.blk (a3.drewN n) a6
  have ah:(M.get C b).length=512:=by
   obtain ⟨own,xc,h1,h2,h3⟩:=h
   have ai:ovOf own=M.own:=funext h2
   unfold TxM.get getB cmtB
   rw [← ai]
   unfold ovOf
   cases hf:own.find? (·.key == b) with
   | some e=>exact (h1.hx.ok e (aEN hf)).len
   | none=>
    cases hf':C.ov.find? (·.key == b) with
    | some e=>exact (h1.ho.ok e (aEN hf')).len
    | none=>exact h1.hd.now_length _ (by have:=h1.gn;omega)
  refine ⟨g,k,x1,rfl,?_,hB,x4.client (λ i hi=>.inl (.inl hi)),((AaA.refl (· ∈ C.F) w).drewN n).step x5⟩
  refine (an6 w2 g 0 512 (512+k) g0 o0 512 c0 _ _ x3 hB (by rw [aEH];omega) hl).mono ?_
  rintro e w' ⟨rfl,rfl⟩
  rw [aER,aE0 ah,a0]
  exact ⟨rfl,rfl⟩
 unfold TxM.put
 by_cases hq:M.get C b=data
 ·rw [if_pos hq]
  have hP:∀ W,Aa1 W C (M.read C b) false X->AaA (· ∈ C.F) w W->PutM w C (0,M.read C b) X (U (I 0)) W:=λ W x y=>⟨rfl,x,y.mono λ i _ hi=>.inl hi⟩
  rw [decide_eq_true hq] at a1
  generalize PutM w C (0,M.read C b) X=Post at hP ⊢
  replace ⟨h,h0,hX,hb,a3,a4,hl,a0⟩:=yh8 h h0 hX hb a3 a4 hl a0;replace ⟨a5,hA,hG,a6,a1,hP,hq,hsz⟩:=yh8 a5 hA hG a6 a1 hP hq hsz
  go_enter Tryz.func87,Tryz.ntmps87
  go_wp2_with (first
   | (go_at_call 168;refine hA.out.mono ?_;rintro e w' ⟨rfl,m,rfl⟩)
   | (go_at_call 122;refine (hG.out _).mono ?_;intro e w2 hr;obtain ⟨g,k,rfl,hz,he,hB,hR,hk⟩:=a1.out _ _ _ hr;clear hr;replace ⟨he,hB,hR,hk⟩:=yh4 he hB hR hk)
   | (go_at_call 169;refine he.out.mono ?_;rintro e w' ⟨rfl,rfl⟩))
  exact hP.out w2 hR.out hk.out
 ·rw [if_neg hq]
  rw [decide_eq_false hq] at a1
  have ac:aaT (M.read C b).D C.G.life M.sp false=0:=by
   rw [← h0];unfold aaT afD TxM.read;rw [aiY,aiC]
  by_cases hs:M.own b=none/\16<=M.cnt
  ·rw [if_pos hs]
   have hP:∀ W,Aa1 W C { M.read C b with sp:=50 } false X->AaA (λ i=>i∈C.F∨i=C.t∨i=C.mx) w W->PutM w C (50,{ M.read C b with sp:=50 }) X (U (I 50)) W:=λ W x y=>⟨rfl,x,y⟩
   have a2:∀ W,Aa1 W C (M.read C b) false X->AaA (· ∈ C.F) w W->W.cell? ⟨C.t,1,none⟩=some (.map (some C.mx)) /\
     (Instr.lookup 135 (.map (some C.mx)) (I b) true).run prog W=.ok (.tuple #[.slice none 0 0,↑false]) W /\
     (∃ n:Nat,(Builtin.len_ #[135] 3 #[.map (some C.mx)]).run prog W=.ok (I n) W/\(16:Int)<=n) /\
     Calls prog 137 #[↑C.t,I 50] W (λ e w'=>e=U (I 50)/\PutM w C (50,{ M.read C b with sp:=50 }) X e w'):=by
    rintro W ⟨own,xc,h1,h2,h3⟩ y
    have hn:own.find? (·.key == b)=none:=by
     have:=h2 b
     rw [show (M.read C b).own b=M.own b from rfl,hs.1] at this
     unfold ovOf at this
     simpa using this
    refine ⟨by have:=h1.ht.cell 1;simpa using this,h1.hx.look_none hn,⟨own.length,?_,by have:=hs.2;have:own.length=M.cnt:=h3;omega⟩,?_⟩
    ·have:=run_len_map (P:=prog) W 135 3 C.mx _ _ (by kernel_rfl) h1.hx.hm
     simpa [mapO,goInt] using this
    ·refine (axJ h1 ac).mono ?_
     rintro e w' ⟨m,rfl,rfl⟩
     have aj:TxAt (W.drewN m) C (M.read C b).D own xc M.sp false X:=h1.quiet ((AaA.refl NoF W).drewN m) (λ _ f=>f.elim) (λ i hi=>(h1.xX i hi).2.2.1)
     exact ⟨rfl,hP _ ⟨own,xc,aj.spoil 50,h2,h3⟩ (((y.mono (λ i _ hi=>.inl hi)).drewN m).setCell (p:=⟨C.t,2,none⟩) (.inl (.inr (.inl rfl))) _)⟩
   generalize PutM w C (50,{ M.read C b with sp:=50 }) X=Post at hP a2 ⊢
   replace ⟨h,h0,hX,hb,a3,a4,hl,a0⟩:=yh8 h h0 hX hb a3 a4 hl a0;replace ⟨a5,hA,hG,a6,a1,hP,hq,hsz⟩:=yh8 a5 hA hG a6 a1 hP hq hsz;replace ⟨ac,hs,a2⟩:=yh3 ac hs a2
   go_enter Tryz.func87,Tryz.ntmps87
   go_wp2_with (first
    | (go_at_call 168;refine hA.out.mono ?_;rintro e w' ⟨rfl,m,rfl⟩)
    | (go_at_call 122;refine (hG.out _).mono ?_;intro e w2 hr;obtain ⟨g,k,rfl,hz,he,hB,hR,hk⟩:=a1.out _ _ _ hr;clear hr;obtain ⟨q1,q2,⟨n,q3,q6⟩,q4⟩:=a2.out w2 hR hk;replace ⟨he,hB,hR,hk,q4⟩:=yh5 he hB hR hk q4)
    | (go_at_call 169;refine he.out.mono ?_;rintro e w' ⟨rfl,rfl⟩)
    | (go_at_call 137;refine q4.out.mono ?_;rintro e w3 ⟨rfl,q5⟩;replace q5:=hid q5))
   exact q5.out
  ·rw [if_neg hs]
   have hP:∀ W,Aa1 W C ((M.read C b).putC b data) false X->AaA (λ i=>i∈C.F∨i=C.t∨i=C.mx) w W->PutM w C (0,(M.read C b).putC b data) X (U (I 0)) W:=λ W x y=>⟨rfl,x,y⟩
   have a2:∀ W,Aa1 W C (M.read C b) false X->AaA (· ∈ C.F) w W->∃ own xc,TxAt W C (M.read C b).D own xc M.sp false X/\W.cell? ⟨C.t,1,none⟩=some (.map (some C.mx)) /\
     (∃ v ok,(Instr.lookup 135 (.map (some C.mx)) (I b) true).run prog W=.ok (.tuple #[v,.bool ok]) W /\
     (∃ n:Nat,(Builtin.len_ #[135] 3 #[.map (some C.mx)]).run prog W=.ok (I n) W/\(ok=(M.own b).isSome/\(M.own b=none->¬ (16:Int)<=n)))) /\
     (∀ W' g' k',AaA NoF W W'->W.heap.size<=g'->Blk W' g' (aaE (data++aaD k')) ->
       ∃ W3,(Instr.mapUpdate 135 (.map (some C.mx)) (I b) (.slice ↑g' 512 (512+k'))).run prog W'=.ok () W3/\W3.cell? ⟨C.t,1,none⟩=some (.map (some C.mx))/\PutM w C (0,(M.read C b).putC b data) X (U (I 0)) W3):=by
    rintro W ⟨own,xc,h1,h2,h3⟩ y
    have ag:ovOf own b=M.own b:=h2 b
    refine ⟨own,xc,h1,by have:=h1.ht.cell 1;simpa using this,?_,?_⟩
    ·have hlen:=run_len_map (P:=prog) W 135 3 C.mx _ _ (by kernel_rfl) h1.hx.hm
     cases hn:own.find? (·.key == b) with
     | none=>
      refine ⟨_,_,h1.hx.look_none hn,own.length,by simpa [mapO,goInt] using hlen,by rw [← ag,agR hn];rfl,?_⟩
      intro ak
      have:own.length=M.cnt:=h3
      have:¬ 16<=M.cnt:=λ c=>hs ⟨ak,c⟩
      omega
     | some e=>exact ⟨_,_,h1.hx.look_some hn,own.length,by simpa [mapO,goInt] using hlen,by rw [← ag,adJ hn];rfl,λ c=>by rw [← ag,adJ hn] at c;cases c⟩
    ·intro W' g' k' kk am hB
     refine ⟨_,aqG (h1.hx.keeps kk (λ _ _ f=>f)).hm h1.hx.keys b g' (512+k') data,ae2 (kk.cellF (by have:=h1.ht.cell 1;simpa using this) (λ f=>f)) (λ e=>h1.tX (by simp [aaH];exact .inl e)) _,?_⟩
     have h1':=h1.quiet kk (λ _ f=>f.elim) (λ i hi=>(h1.xX i hi).2.2.1)
     have af:∀ k,k<W.heap.size->k≠g':=λ k hk=>by omega
     refine hP _ ⟨_,_,h1'.put hb a5 (Nat.le_add_right _ _) (by rw [Nat.add_sub_cancel_left];exact hB) ?_ ?_ ?_ ?_ ?_ ?_,?_,?_⟩ ?_
     ·exact λ e=>af _ h1.ht.lt e.symm
     ·exact λ e=>af _ h1.hs.lt e.symm
     ·exact λ e=>af _ (h1.hd.lt _ e) rfl
     ·exact λ e=>af _ (h1.ho.lt _ e) rfl
     ·exact λ e=>af _ (h1.hx.lt _ e) rfl
     ·exact λ e=>by have:=hX _ e;have:=y.size;omega
     ·intro k
      rw [anX]
      have:ovOf own k=M.own k:=h2 k
      rw [this]
      rfl
     ·rw [alT]
      unfold arP
      rw [ag,h3]
      rfl
     ·exact ((y.mono (λ i _ hi=>.inl hi)).step (kk.mono λ _ _ f=>f.elim)).step ((abM _ _ _).mono λ i _ e=>.inr (.inr e))
   generalize PutM w C (0,(M.read C b).putC b data) X=Post at hP a2 ⊢
   have ad:∀ W W':World,AaA NoF W W'->Blk W g0 (aaE bs)->Calls prog 170 #[.slice (some ⟨g0,o0,none⟩) 512 c0] W' λ e w'=>∃ b k,e=U (.slice (some ⟨b,0,none⟩) 512 (512+k))/\W.heap.size<=b/\Blk w' b (aaE (data++aaD k))/\AaA NoF W w':=λ W W' kk hB=>by
    refine (awH W' 5 g0 o0 512 c0 bs (kk.blk hB (λ f=>f)) hl (by decide) (by decide)).mono ?_
    rintro e w' ⟨g',k,x1,rfl,x2,x3⟩
    rw [a0] at x2
    exact ⟨g',k,rfl,aE4 kk.size x1,x2,kk.step x3⟩
   have ae:∀ W:World,AaA NoF W W.drew:=λ W=>(AaA.refl _ _).drew
   cases hown:M.own b with
   | none=>
    rw [hown] at a2
    replace ⟨h,h0,hX,hb,a3,a4,hl,a0⟩:=yh8 h h0 hX hb a3 a4 hl a0;replace ⟨a5,hA,hG,a6,a1,hP,hq,hsz⟩:=yh8 a5 hA hG a6 a1 hP hq hsz;replace ⟨ac,hs,a2,ad,ae,hown⟩:=yh6 ac hs a2 ad ae hown
    go_enter Tryz.func87,Tryz.ntmps87
    go_wp2_with (first
     | (go_at_call 168;refine hA.out.mono ?_;rintro e w' ⟨rfl,m,rfl⟩)
     | (go_at_call 122;refine (hG.out _).mono ?_;intro e w2 hr;obtain ⟨g,k,rfl,hz,he,hB,hR,hk⟩:=a1.out _ _ _ hr;clear hr;obtain ⟨own,xc,hT,q1,⟨v,ok,qlk,n,qln,qok⟩,q4⟩:=a2.out w2 hR hk;obtain ⟨qo,qn⟩:=qok;replace qo:ok=false:=qo;subst qo;replace qn:=qn (by first|rfl|trivial);replace ⟨he,hB,hR,hk,q4,hT⟩:=yh6 he hB hR hk q4 hT)
     | (go_at_call 169;refine he.out.mono ?_;rintro e w' ⟨rfl,rfl⟩))
    have q1d:w2.drew.cell? ⟨C.t,1,none⟩=some (.map (some C.mx)):=q1
    have aa:=ad.out w2 w2.drew (ae.out w2) hB.out
    have ab:∀ W g' k',AaA NoF w2 W->w2.heap.size<=g'->Blk W g' (aaE (data++aaD k'))->W.cell? ⟨C.t,1,none⟩=some (.map (some C.mx)):=λ W g' k' x _ _=>x.cellF q1 (λ f=>f)
    replace ⟨aa,ab⟩:=yh2 aa ab
    go_region_held3 (λ W=>W.cell? ⟨C.t,1,none⟩=some (.map (some C.mx))) (first|with_reducible exact q1d|with_reducible exact q1e|with_reducible exact q1f) (first
     | (go_at_call 170;refine aa.out.mono ?_;rintro e w3 ⟨g',k',rfl,a7,a8,a9⟩;have q1e:=ab.out _ _ _ a9 a7 a8;obtain ⟨W3,al,q1f,hpo⟩:=q4.out _ _ _ a9 a7 a8;replace ⟨hpo,a7,a8,a9⟩:=yh4 hpo a7 a8 a9))
    all_goals
     go_wp2
     exact hpo.out
   | some dd=>
    rw [hown] at a2
    replace ⟨hA,hG,a1,a2,ad,ae⟩:=yh6 hA hG a1 a2 ad ae;clear h h0 hX hb a3 a4 hl a0 a5 a6 hP hq hsz ac hs hown
    go_enter Tryz.func87,Tryz.ntmps87
    go_wp2_with (first
     | (go_at_call 168;refine hA.out.mono ?_;rintro e w' ⟨rfl,m,rfl⟩)
     | (go_at_call 122;refine (hG.out _).mono ?_;intro e w2 hr;obtain ⟨g,k,rfl,hz,he,hB,hR,hk⟩:=a1.out _ _ _ hr;clear hr;obtain ⟨own,xc,hT,q1,⟨v,ok,qlk,n,qln,qok⟩,q4⟩:=a2.out w2 hR hk;obtain ⟨qo,qn⟩:=qok;replace qo:ok=true:=qo;subst qo;clear qn;replace ⟨he,hB,q4⟩:=yh3 he hB q4;clear hR hk hT)
     | (go_at_call 169;refine he.out.mono ?_;rintro e w' ⟨rfl,rfl⟩))
    have q1d:w2.drew.cell? ⟨C.t,1,none⟩=some (.map (some C.mx)):=q1
    have aa:=ad.out w2 w2.drew (ae.out w2) hB.out
    have ab:∀ W g' k',AaA NoF w2 W->w2.heap.size<=g'->Blk W g' (aaE (data++aaD k'))->W.cell? ⟨C.t,1,none⟩=some (.map (some C.mx)):=λ W g' k' x _ _=>x.cellF q1 (λ f=>f)
    replace ⟨aa,ab⟩:=yh2 aa ab
    go_region_held3 (λ W=>W.cell? ⟨C.t,1,none⟩=some (.map (some C.mx))) (first|with_reducible exact q1d|with_reducible exact q1e|with_reducible exact q1f) (first
     | (go_at_call 170;refine aa.out.mono ?_;rintro e w3 ⟨g',k',rfl,a7,a8,a9⟩;have q1e:=ab.out _ _ _ a9 a7 a8;obtain ⟨W3,al,q1f,hpo⟩:=q4.out _ _ _ a9 a7 a8;replace hpo:=hid hpo;clear a7 a8 a9))
    all_goals
     go_wp2
     exact hpo.out
end
def refV (c:Nat):Value:=.iface 203 (.agg #[I c])
def errO (x:Int):Obj:=.cells #[I x] 63 (0,0)
theorem afJ (p:Addr) (w:World):Calls prog 83 #[.nilIface,.pointer (some p)] w λ e w'=>e=U (.tuple #[])/\w'=w:=by
 have a0:(binOp BinOp.eql 20 .nilIface .nilIface).run prog w=.ok ↑true w:=by kernel_rfl
 go_enter Tryz.func83,Tryz.ntmps83
 go_wp2
 go_end0
 exact ⟨rfl,rfl⟩
theorem afI (b:Nat) (x:Int) (c:Nat) (w:World) (hb:Blk w b (errO x)):Calls prog 83 #[refV c,↑b] w λ e w'=>
  e=U (.tuple #[])/\Blk w' b (errO c)/\AaA (· = b) w w':=by
 have a3:∀ w,(binOp BinOp.eql 20 (.iface 203 (.agg #[I (c:Int)])) .nilIface).run prog w=.ok ↑false w:=λ w=>by kernel_rfl
 have a4:∀ w,(Instr.typeAssert (.iface 203 (.agg #[I (c:Int)])) 20 203 true).run prog w=.ok (.tuple #[.agg #[I (c:Int)],↑true]) w:=by intro w;kernel_rfl
 unfold errO at hb ⊢
 unfold refV
 have a1:=hb.alloc (.cells #[I c] 203 (0,0))
 have a0:=(hb.setCell 0 (I c)).alloc (.cells #[I c] 203 (0,0))
 have a2:=((AaA.refl (· = b) w).setCell (p:=⟨b,0,none⟩) (.inl rfl) (I c)).alloc (.cells #[I c] 203 (0,0))
 have hc:=a1.cell 0
 have hz:=a1.frz 0
 simp at hc a0
 clear a1
 have hlt:=hb.lt
 replace ⟨a0,a2⟩:=yh2 a0 a2;clear hb
 go_enter Tryz.func83,Tryz.ntmps83
 go_wp2
 go_end0
 exact ⟨rfl,a0.out,a2.out⟩
theorem abX (w:World):Calls prog 84 #[I 0] w λ e w'=>e=U (.tuple #[])/\w=w':=by
 go_enter Tryz.func84,Tryz.ntmps84
 go_wp2
 go_end0
 exact ⟨rfl,rfl⟩
theorem adD (w:World) (c:Nat) (h:c≠0):Calls prog 84 #[I c] w λ e w'=>e=.panicked [{ v:=refV c,recovered:=false }]/\w=w':=by
 have hi:((c:Int) != 0)=true:=by simp;exact h
 unfold refV
 go_enter Tryz.func84,Tryz.ntmps84
 go_wp2
 exact ⟨rfl,rfl,rfl⟩
theorem on_w (w:World) (t:Nat):Calls prog 59 #[↑t] w λ e w'=>∃ p,e=U (.pointer (some ⟨p,0,none⟩))/\w.heap.size<=p/\Blk w' p (.cells #[↑t] 91 (0,0))/\AaA NoF w w':=by
 go_enter Tryz.func59,Tryz.ntmps59
 go_wp2
 go_ret
 exact ⟨_,rfl,aEK _,Blk.new _ _,(AaA.refl _ _).alloc _⟩
theorem avM (p:Addr) (w:World):CallsD prog 97 #[.pointer (some p)] .returning w λ e u' w'=>e=U (.tuple #[])/\u'=.returning/\w'=w:=by
 refine callsD_of_wpS Tryz.func97 rfl λ c₀ cs hu=>?_
 apply wpS_region
 simp [wpOpsS,go_sem,recoverD,hu,Tryz.ntmps97]
 refine (afJ p w).mono ?_
 rintro e w' ⟨rfl,rfl⟩
 cases c₀
 simp_all [bodyPostS,results,Tryz.results97]
theorem ayH (b:Nat) (x:Int) (c:Nat) (w:World) (hb:Blk w b (errO x)):CallsD prog 97 #[↑b] (.panicking [{ v:=refV c,recovered:=false }]) w λ e u' w'=>
  e=U (.tuple #[])/\u'=.panicking [{ v:=refV c,recovered:=true }]/\Blk w' b (errO c)/\AaA (· = b) w w':=by
 refine callsD_of_wpS Tryz.func97 rfl λ c₀ cs hu=>?_
 apply wpS_region
 simp [wpOpsS,go_sem,recoverD,hu,Tryz.ntmps97]
 refine (afI b x c w hb).mono ?_
 rintro e w' ⟨rfl,h1,h2⟩
 simp [bodyPostS,results,Tryz.results97]
 exact ⟨h1,h2⟩
theorem atI (p:Addr) (w:World):CallsD prog 82 #[.pointer (some p)] .returning w λ e u' w'=>e=U (.tuple #[])/\u'=.returning/\w'=w:=by
 refine callsD_of_wpS Tryz.func82 rfl λ c₀ cs hu=>?_
 apply wpS_region
 simp [wpOpsS,go_sem,recoverD,hu,Tryz.ntmps82]
 refine (afJ p w).mono ?_
 rintro e w' ⟨rfl,rfl⟩
 cases c₀
 simp_all [bodyPostS,results,Tryz.results82]
theorem amF (b:Nat) (x:Int) (c:Nat) (w:World) (hb:Blk w b (errO x)):CallsD prog 82 #[↑b] (.panicking [{ v:=refV c,recovered:=false }]) w λ e u' w'=>
  e=U (.tuple #[])/\u'=.panicking [{ v:=refV c,recovered:=true }]/\Blk w' b (errO c)/\AaA (· = b) w w':=by
 refine callsD_of_wpS Tryz.func82 rfl λ c₀ cs hu=>?_
 apply wpS_region
 simp [wpOpsS,go_sem,recoverD,hu,Tryz.ntmps82]
 refine (afI b x c w hb).mono ?_
 rintro e w' ⟨rfl,h1,h2⟩
 simp [bodyPostS,results,Tryz.results82]
 exact ⟨h1,h2⟩
theorem asJ (p:Addr) (w:World):CallsD prog 178 #[.pointer (some p)] .returning w λ e u' w'=>e=U (.tuple #[])/\u'=.returning/\w'=w:=by
 refine callsD_of_wpS Tryz.func178 rfl λ c₀ cs hu=>?_
 apply wpS_region
 simp [wpOpsS,go_sem,recoverD,hu,Tryz.ntmps178]
 refine (afJ p w).mono ?_
 rintro e w' ⟨rfl,rfl⟩
 cases c₀
 simp_all [bodyPostS,results,Tryz.results178]
theorem aoP (b:Nat) (x:Int) (c:Nat) (w:World) (hb:Blk w b (errO x)):CallsD prog 178 #[↑b] (.panicking [{ v:=refV c,recovered:=false }]) w λ e u' w'=>
  e=U (.tuple #[])/\u'=.panicking [{ v:=refV c,recovered:=true }]/\Blk w' b (errO c)/\AaA (· = b) w w':=by
 refine callsD_of_wpS Tryz.func178 rfl λ c₀ cs hu=>?_
 apply wpS_region
 simp [wpOpsS,go_sem,recoverD,hu,Tryz.ntmps178]
 refine (afI b x c w hb).mono ?_
 rintro e w' ⟨rfl,h1,h2⟩
 simp [bodyPostS,results,Tryz.results178]
 exact ⟨h1,h2⟩
theorem asK (p:Addr) (w:World):CallsD prog 198 #[.pointer (some p)] .returning w λ e u' w'=>e=U (.tuple #[])/\u'=.returning/\w'=w:=by
 refine callsD_of_wpS Tryz.func198 rfl λ c₀ cs hu=>?_
 apply wpS_region
 simp [wpOpsS,go_sem,recoverD,hu,Tryz.ntmps198]
 refine (afJ p w).mono ?_
 rintro e w' ⟨rfl,rfl⟩
 cases c₀
 simp_all [bodyPostS,results,Tryz.results198]
theorem aoQ (b:Nat) (x:Int) (c:Nat) (w:World) (hb:Blk w b (errO x)):CallsD prog 198 #[↑b] (.panicking [{ v:=refV c,recovered:=false }]) w λ e u' w'=>
  e=U (.tuple #[])/\u'=.panicking [{ v:=refV c,recovered:=true }]/\Blk w' b (errO c)/\AaA (· = b) w w':=by
 refine callsD_of_wpS Tryz.func198 rfl λ c₀ cs hu=>?_
 apply wpS_region
 simp [wpOpsS,go_sem,recoverD,hu,Tryz.ntmps198]
 refine (afI b x c w hb).mono ?_
 rintro e w' ⟨rfl,h1,h2⟩
 simp [bodyPostS,results,Tryz.results198]
 exact ⟨h1,h2⟩
theorem akN (p:Addr) (w:World):CallsD prog 184 #[.pointer (some p)] .returning w λ e u' w'=>e=U (.tuple #[])/\u'=.returning/\w'=w:=by
 refine callsD_of_wpS Tryz.func184 rfl λ c₀ cs hu=>?_
 apply wpS_region
 simp [wpOpsS,go_sem,recoverD,hu,Tryz.ntmps184]
 refine (afJ p w).mono ?_
 rintro e w' ⟨rfl,rfl⟩
 cases c₀
 simp_all [bodyPostS,results,Tryz.results184]
theorem apP (b:Nat) (x:Int) (c:Nat) (w:World) (hb:Blk w b (errO x)):CallsD prog 184 #[↑b] (.panicking [{ v:=refV c,recovered:=false }]) w λ e u' w'=>
  e=U (.tuple #[])/\u'=.panicking [{ v:=refV c,recovered:=true }]/\Blk w' b (errO c)/\AaA (· = b) w w':=by
 refine callsD_of_wpS Tryz.func184 rfl λ c₀ cs hu=>?_
 apply wpS_region
 simp [wpOpsS,go_sem,recoverD,hu,Tryz.ntmps184]
 refine (afI b x c w hb).mono ?_
 rintro e w' ⟨rfl,h1,h2⟩
 simp [bodyPostS,results,Tryz.results184]
 exact ⟨h1,h2⟩
theorem anE (p:Addr) (w:World):CallsD prog 199 #[.pointer (some p)] .returning w λ e u' w'=>e=U (.tuple #[])/\u'=.returning/\w'=w:=by
 refine callsD_of_wpS Tryz.func199 rfl λ c₀ cs hu=>?_
 apply wpS_region
 simp [wpOpsS,go_sem,recoverD,hu,Tryz.ntmps199]
 refine (afJ p w).mono ?_
 rintro e w' ⟨rfl,rfl⟩
 cases c₀
 simp_all [bodyPostS,results,Tryz.results199]
theorem apQ (b:Nat) (x:Int) (c:Nat) (w:World) (hb:Blk w b (errO x)):CallsD prog 199 #[↑b] (.panicking [{ v:=refV c,recovered:=false }]) w λ e u' w'=>
  e=U (.tuple #[])/\u'=.panicking [{ v:=refV c,recovered:=true }]/\Blk w' b (errO c)/\AaA (· = b) w w':=by
 refine callsD_of_wpS Tryz.func199 rfl λ c₀ cs hu=>?_
 apply wpS_region
 simp [wpOpsS,go_sem,recoverD,hu,Tryz.ntmps199]
 refine (afI b x c w hb).mono ?_
 rintro e w' ⟨rfl,h1,h2⟩
 simp [bodyPostS,results,Tryz.results199]
 exact ⟨h1,h2⟩
def bmO (p blk lo hi first g cap:Nat):Obj:=.cells #[↑p,I blk,I lo,I hi,I first,.slice ↑g 512 cap] 212 (0,0)
def abQ (bs:List UInt8) (j:Nat):Nat:=(bs.getD j 0).toNat
def abP (bs:List UInt8) (i:Nat):Bool:=(abQ bs (i / 8)).testBit (i % 8)
theorem acN (bs:List UInt8) (j:Nat):abQ bs j<256:=(bs.getD j 0).toNat_lt
theorem pow8 (r:Nat) (hr:r<8):(2 ^ min r 8 % 256:Int)=((2 ^ r:Nat):Int):=by
 have h2:2 ^ r<256:=aEJ (Nat.pow_lt_pow_right (by omega) hr) (by decide)
 rw [Nat.min_eq_left (by omega)]
 have:(2 ^ r:Int)=((2 ^ r:Nat):Int):=by simp
 rw [this]
 clear this
 generalize (2 ^ r:Nat)=x at h2 ⊢
 omega
theorem at7 (i:Nat):(i:Int).tdiv 8=((i / 8:Nat):Int):=rfl
theorem aw8 (i:Nat):(i:Int).tmod 8=((i % 8:Nat):Int):=rfl
theorem aCC (a r:Nat) (ha:a<256) (hr:r<8):(bits .and .u8 (a:Int) ((2 ^ r:Nat):Int) != 0)=a.testBit r:=by
 have h2:2 ^ r<256:=aEJ (Nat.pow_lt_pow_right (by omega) hr) (by decide)
 rw [u8_and_nat a (2 ^ r) ha h2]
 cases hb:a.testBit r with
 | true=>
  have:(a &&& 2 ^ r).testBit r=true:=by rw [Nat.testBit_and,hb,Nat.testBit_two_pow_self];rfl
  have:a &&& 2 ^ r≠0:=λ e=>by rw [e,Nat.zero_testBit] at this;cases this
  simp;exact this
 | false=>
  have:a &&& 2 ^ r=0:=by
   apply Nat.eq_of_testBit_eq
   intro i
   rw [Nat.testBit_and,Nat.zero_testBit]
   by_cases hi:r=i
   ·subst hi;rw [hb];rfl
   ·rw [Nat.testBit_two_pow_of_ne hi,Bool.and_false]
  rw [this];rfl
theorem ahZ {w:World} {g k:Nat} {bs:List UInt8} (hg:Blk w g (aaE (bs++aaD k))) (j:Nat) (hj:j<bs.length):w.cell? ⟨g,j,none⟩=some (.int .u8 (abQ bs j:Nat)):=by
 have:=adU hg j (by rw [aEH];omega)
 rw [this,List.getElem_append_left hj]
 unfold abQ B
 rw [aEL,aEG hj]
 rfl
section
variable {w:World} {m p blk lo top first g cap:Nat} {bs:List UInt8} {k:Nat}
theorem avT (hm:Blk w m (bmO p blk lo top first g cap)) (hg:Blk w g (aaE (bs++aaD k))) (hl:bs.length=512) (i:Nat) (hi:i<4096) :
  Calls prog 177 #[↑m,I i] w λ e w'=>e=U (.bool (abP bs i))/\∃ n,w'=w.drewN n:=by
 have c5:=hm.cell 5
 simp at c5
 have cb:=ahZ hg (i / 8) (by omega)
 have hq:=at7 i
 have hr:=aw8 i
 have hE:abP bs i=(abQ bs (i / 8)).testBit (i % 8):=rfl
 have hand:=aCC (abQ bs (i / 8)) (i % 8) (acN _ _) (by omega)
 rw [← pow8 _ (by omega),← hE] at hand
 have a0:0<=((i / 8:Nat):Int)/\((i / 8:Nat):Int)<(512:Nat):=by omega
 generalize abQ bs (i / 8)=a at *
 generalize i / 8=q at *
 generalize i % 8=r at *
 replace hand:=hid hand;clear hm hg hE hl hi
 go_enter Tryz.func177,Tryz.ntmps177
 go_upto_region 1 with fail
 go_quiet (fail)
 go_wp2
 go_ret
 exact ⟨by rw [← hand.out];rfl,_,rfl⟩
theorem aiR (r:Nat) (hr:r<8):2 ^ r<256:=aEJ (Nat.pow_lt_pow_right (by omega) hr) (by decide)
theorem az1 (a r:Nat) (ha:a<256) (hr:r<8):bits .xor .u8 (a:Int) (2 ^ min r 8 % 256)=((a ^^^ 2 ^ r:Nat):Int):=by
 rw [pow8 r hr,u8_xor_nat a (2 ^ r) ha (aiR r hr)]
def ab2 (bs:List UInt8) (i:Nat):List UInt8:=bs.set (i / 8) (UInt8.ofNat (abQ bs (i / 8) ^^^ 2 ^ (i % 8)))
theorem akZ (bs:List UInt8) (i:Nat):(ab2 bs i).length=bs.length:=by unfold ab2;simp
theorem anG (bs:List UInt8) (j:Nat) (x:UInt8) (hj:j<bs.length) (q:Nat):abQ (bs.set j x) q=if q=j then x.toNat else abQ bs q:=by
 unfold abQ
 rw [aEL,List.getElem?_set,aEL]
 by_cases h:j=q
 ·subst h;rw [if_pos rfl,if_pos rfl,if_pos hj];rfl
 ·rw [if_neg h,if_neg (λ e=>h e.symm)]
theorem anI (bs:List UInt8) (i j:Nat) (hi:i / 8<bs.length):abP (ab2 bs i) j=if j=i then !abP bs i else abP bs j:=by
 unfold abP ab2
 rw [anG _ _ _ hi]
 have hx:abQ bs (i / 8) ^^^ 2 ^ (i % 8)<256:=Nat.xor_lt_two_pow (n:=8) (acN _ _) (aiR _ (by omega))
 have a1:(UInt8.ofNat (abQ bs (i / 8) ^^^ 2 ^ (i % 8))).toNat=abQ bs (i / 8) ^^^ 2 ^ (i % 8):=by
  rw [UInt8.toNat_ofNat'];exact Nat.mod_eq_of_lt hx
 by_cases hq:j / 8=i / 8
 ·rw [if_pos hq,a1,Nat.testBit_xor]
  by_cases a0:j=i
  ·subst a0
   rw [if_pos rfl,Nat.testBit_two_pow_self]
   simp
  ·rw [if_neg a0,Nat.testBit_two_pow_of_ne (by omega),Bool.xor_false,hq]
 ·rw [if_neg hq,if_neg (λ e=>hq (by rw [e]))]
theorem an9 {w:World} {g k:Nat} {bs:List UInt8} (hg:Blk w g (aaE (bs++aaD k))) (j:Nat) (hj:j<bs.length) (x:Nat) (hx:x<256) :
  Blk (w.setCell ⟨g,j,none⟩ (.int .u8 (x:Nat))) g (aaE (bs.set j (UInt8.ofNat x)++aaD k)):=by
 have:=hg.setCell j (.int .u8 (x:Nat))
 unfold aaE at this
 have e:(.int .u8 (x:Nat):Value)=B (UInt8.ofNat x):=by
  unfold B
  rw [show (UInt8.ofNat x).toNat=x from by rw [UInt8.toNat_ofNat'];exact Nat.mod_eq_of_lt hx]
 rw [e,agW,List.set_append_left _ _ hj] at this
 rw [e]
 exact this
def AmN (w:World) (C:TxC) (r:Nat × TxM) (X:Nat->Prop) (g:Nat) (bs:List UInt8) (k:Nat) (e:Ending) (w':World):Prop:=
 (e=if r.1=0 then .returned (.tuple #[]) else .panicked [{ v:=refV r.1,recovered:=false }])/\Aa1 w' C r.2 false X/\Blk w' g (aaE (bs++aaD k)) /\
  AaA (λ i=>i∈C.F∨i=C.t∨i=C.mx∨i=g) w w'
variable {C:TxC} {M:TxM} {X:Nat->Prop}
theorem ar7 {p:Prop} {w0:World} (h:p) (_x:wpAny prog .any #[] (λ _ _ _=>True) 0 #[] { tmps:=#[],defers:=[] } w0):p:=h
theorem Aa1.drewN1 {w:World} {C:TxC} {M:TxM} {X:Nat->Prop} {en:Bool} (h:Aa1 w C M en X):Aa1 w.drew C M en X:=h.quiet (AaA.refl NoF w).drew (λ _ f=>f.elim)
theorem awM (hm:Blk w m (bmO p blk lo top first g (512+k))) (hp:Blk w p (.cells #[↑C.t] 91 (0,0))) (hg:Blk w g (aaE (bs++aaD k))) (hl:bs.length=512) (i:Nat) (hi:i<4096)
  (hT:Aa1 w C M false X) (h0:aaT M.D C.G.life M.sp false=0) (hX:∀ i,X i->i<w.heap.size) (hb:blk<C.G.blocks) (ae:X m) (af:X p) (a9:X g) (ag:m≠g) (ah:p≠g) :
  Calls prog 227 #[↑m,I i] w (AmN w C (M.put C blk (ab2 bs i)) X g (ab2 bs i) k):=by
 have c5:=hm.cell 5
 simp at c5
 have cb:=ahZ hg (i / 8) (by omega)
 have hq:=at7 i
 have hr:=aw8 i
 have ai:=az1 (abQ bs (i / 8)) (i % 8) (acN _ _) (by omega)
 have am:0<=((i / 8:Nat):Int)/\((i / 8:Nat):Int)<(512:Nat):=by omega
 have ab:Blk (w.setCell ⟨g,i / 8,none⟩ (.int .u8 (abQ bs (i / 8) ^^^ 2 ^ (i % 8):Nat))) g (aaE (ab2 bs i++aaD k)):=an9 hg _ (by omega) _ (Nat.xor_lt_two_pow (n:=8) (acN _ _) (aiR _ (by omega)))
 have fz:=hg.frz (i / 8)
 have al:∀ W:World,True:=λ _=>trivial
 generalize abQ bs (i / 8)=a at *
 generalize i / 8=q at *
 generalize i % 8=r at *
 have ac:(ab2 bs i).length=512:=by rw [akZ];exact hl
 have hk1:AaA (λ i=>i∈C.F∨i=C.t∨i=C.mx∨i=g) w (w.setCell ⟨g,q,none⟩ (.int .u8 (a ^^^ 2 ^ r:Nat))).drew:=((AaA.refl _ w).setCell (p:=⟨g,q,none⟩) (.inl (.inr (.inr (.inr rfl)))) _).drew
 have a8:AaA (· = g) w (w.setCell ⟨g,q,none⟩ (.int .u8 (a ^^^ 2 ^ r:Nat))).drew:=((AaA.refl (· = g) w).setCell (p:=⟨g,q,none⟩) (.inl rfl) _).drew
 have hsz:(w.setCell ⟨g,q,none⟩ (.int .u8 (a ^^^ 2 ^ r:Nat))).drew.heap.size=w.heap.size:=aES ..
 have aj:∀ i,X i->i∉C.F/\i≠C.t/\i≠C.mx:=λ i hi=>by
  obtain ⟨own,xc,h1,_⟩:=hT
  obtain ⟨a1,_,a3,_,a5⟩:=h1.xX i hi
  exact ⟨a3,a1,λ e=>a5 (by simp [aaH,e])⟩
 replace ⟨hm,hg,hi,hp,hT,hX,hb,ae⟩:=yh8 hm hg hi hp hT hX hb ae;replace ⟨af,a9,ab,ac,hk1,a8,hsz,aj⟩:=yh8 af a9 ab ac hk1 a8 hsz aj;replace ⟨ag,ah⟩:=yh2 ag ah;clear hl
 go_enter Tryz.func227,Tryz.ntmps227
 go_upto_region 0 with fail
 go_region
 have aa:=And.intro (a8.out.blk hm.out ag.out) (And.intro (a8.out.blk hp.out ah.out) (And.intro ab.out.drew (And.intro (hT.out.quiet a8.out (λ _ e=>e ▸ a9.out)) (And.intro hk1.out hsz.out))))
 refine ahC (λ W=>Blk W m (bmO p blk lo top first g (512+k))/\Blk W p (.cells #[↑C.t] 91 (0,0))/\Blk W g (aaE (ab2 bs i++aaD k))/\Aa1 W C M false X/\AaA (λ i=>i∈C.F∨i=C.t∨i=C.mx∨i=g) w W/\W.heap.size=w.heap.size) aa ?_
 clear aa hm hp hg ab hT hk1 a8 hsz c5 cb fz ai
 rintro w1 ⟨hm,hp,hg,hT,hk,hsz⟩
 have ad:∀ i,X i->i<w1.heap.size:=λ i hi=>by rw [hsz];exact hX.out i hi
 have a4:=asT hT.drewN1 h0 ad blk hb.out g 0 (512+k) _ _ hg.drew a9.out (by rw [aEH,ac.out];omega) (by rw [aER,aE0 ac.out])
 have a7:∀ e W,PutM w1.drew C (M.put C blk (ab2 bs i)) X e W->e=U (I (M.put C blk (ab2 bs i)).1)/\Blk W m (bmO p blk lo top first g (512+k))/\Blk W p (.cells #[↑C.t] 91 (0,0))/\Blk W g (aaE (ab2 bs i++aaD k))/\Aa1 W C (M.put C blk (ab2 bs i)).2 false X/\AaA (λ i=>i∈C.F∨i=C.t∨i=C.mx∨i=g) w W:=by
  rintro e W ⟨h1,h2,h3⟩
  have ak:∀ i,X i->¬ (i∈C.F∨i=C.t∨i=C.mx):=λ i hi=>by
   obtain ⟨a1,a2,a3⟩:=aj.out i hi
   rintro (x|x|x)
   ·exact a1 x
   ·exact a2 x
   ·exact a3 x
  exact ⟨h1,h3.blk hm.drew (ak _ ae.out),h3.blk hp.drew (ak _ af.out),h3.blk hg.drew (ak _ a9.out),h2,hk.drew.step (h3.mono λ i _ hi=>hi.elim (λ x=>.inl x) (λ x=>x.elim (λ x=>.inr (.inl x)) (λ x=>.inr (.inr (.inl x)))))⟩
 have c0:=hm.cell 0
 have c1:=hm.cell 1
 have c5:=hm.cell 5
 have p0:=hp.cell 0
 simp at c0 c1 c5 p0
 have d0:w1.drew.cell? ↑m=some ↑p:=c0
 have d1:w1.drew.cell? ⟨m,1,none⟩=some (I blk):=c1
 have d5:w1.drew.cell? ⟨m,5,none⟩=some (.slice ↑g 512 (512+k)):=c5
 have dp:w1.drew.cell? ↑p=some ↑C.t:=p0
 have hPost:∀ c M2,M.put C blk (ab2 bs i)=(c,M2)->∀ W,Aa1 W C M2 false X->Blk W g (aaE (ab2 bs i++aaD k))->AaA (λ i=>i∈C.F∨i=C.t∨i=C.mx∨i=g) w W ->
   AmN w C (M.put C blk (ab2 bs i)) X g (ab2 bs i) k (if c=0 then .returned (.tuple #[]) else .panicked [{ v:=refV c,recovered:=false }]) W:=λ c M2 h W x y z=>by
  rw [h]
  exact ⟨rfl,x,y,z⟩
 obtain ⟨⟨c,M2⟩,a6⟩:∃ r,M.put C blk (ab2 bs i)=r:=⟨_,rfl⟩
 replace hPost:=hPost c M2 a6
 rw [a6] at a4 a7
 dsimp only at a4 a7
 have a0:∀ W,Blk W m (bmO p blk lo top first g (512+k))->Blk W p (.cells #[↑C.t] 91 (0,0))->W.cell? ↑m=some ↑p/\W.cell? ⟨m,1,none⟩=some (I blk)/\W.cell? ⟨m,5,none⟩=some (.slice ↑g 512 (512+k))/\W.cell? ↑p=some ↑C.t:=λ W x y=>by
  have c0:=x.cell 0
  have c1:=x.cell 1
  have c5:=x.cell 5
  have p0:=y.cell 0
  simp at c0 c1 c5 p0
  exact ⟨c0,c1,c5,p0⟩
 by_cases hz:c=0
 ·subst hz
  rw [if_pos rfl] at hPost
  replace ⟨hm,hp,hg,hT,hk,hsz,ad,a4⟩:=yh8 hm hp hg hT hk hsz ad a4;replace ⟨a7,hPost,a0,a6⟩:=yh4 a7 hPost a0 a6
  clear hq hr al
  go_wp2_with fail
  go_region_held3 (λ W=>W.cell? ↑m=some ↑p/\W.cell? ⟨m,1,none⟩=some (I blk)/\W.cell? ⟨m,5,none⟩=some (.slice ↑g 512 (512+k))/\W.cell? ↑p=some ↑C.t) (first|with_reducible exact ⟨d0,d1,d5,dp⟩|with_reducible exact q4) (first
   | (go_at_call 87;refine a4.out.mono ?_;intro e w2 hr;obtain ⟨rfl,q1,q2,q3,q5,q6⟩:=a7.out _ _ hr;clear hr;have q4:=a0.out _ q1 q2;replace ⟨q1,q2,q3,q5,q6⟩:=yh5 q1 q2 q3 q5 q6)
   | (go_at_call 84;refine (abX _).mono ?_;rintro e w3 ⟨rfl,rfl⟩))
  all_goals
   go_end0
   exact hPost.out w2 q5.out q3.out q6.out
 ·
  rw [if_neg hz] at hPost
  replace ⟨a4,a7,hPost,a0⟩:=yh4 a4 a7 hPost a0;clear hm hp hg hT hk hsz ad a6
  clear hq hr al
  have hz':=hid hz
  clear hz
  go_wp2_with fail
  go_region_with (first
   | (go_at_call 87;refine a4.out.mono ?_;intro e w2 hr;obtain ⟨rfl,q1,q2,q3,q5,q6⟩:=a7.out _ _ hr;clear hr;obtain ⟨q40,q41,q42,q43⟩:=a0.out _ q1 q2;replace ⟨q3,q5,q6⟩:=yh3 q3 q5 q6;clear q1 q2)
   | (go_at_call 84;refine (adD _ c hz'.out).mono ?_;rintro e w3 ⟨rfl,rfl⟩;refine ar7 (w0:=w) (And.intro rfl (hPost.out w2 q5.out q3.out q6.out)) ?_))
  all_goals
   trivial
end
end Go.Vk
