/- Part of the proof: Cm3 Cm4 Ns0 Ns2. -/
import Derived.Test.YtjeelghnmkefcaaGreatQ21
import Derived.Test.YtjeelghnmkefcaaGreatQ22
import Derived.Test.YtjeelghnmkefcaaGreatQ24
import Derived.Test.YtjeelghnmkefcaaGreatQ25
import Derived.Test.YtjeelghnmkefcaaGreatQ26
import Derived.Test.YtjeelghnmkefcaaGreatQ29
import Derived.Test.YtjeelghnmkefcaaGreatQ31
import Derived.Test.YtjeelghnmkefcaaGreatQ32
import Derived.Test.YtjeelghnmkefcaaGreatQ34
set_option linter.unusedVariables false
set_option maxHeartbeats 16000000
set_option maxRecDepth 100000
namespace Go.Vk
open Go.RowKit Go.Proofs
open Tryz (prog)
def AnP (w:World) (C:TxC) (D:DM) (own:List OEnt) (xc:Nat) (X:Nat->Prop) (L:LM) (N:Nat) (e:Ending) (w':World):Prop:=
 e=U (I 0)/\∃ F' ov' oc' D' L' g',Both w' { C with F:=F',ov:=ov',oc:=oc',op:=false } D' [] xc 0 true X L' N g'/\(∀ i∈F',i∈C.F∨w.heap.size<=i)/\(∀ i∈aaH C.mo ov',i∈aaH C.mo C.ov∨i∈aaH C.mx own) /\
  AaA (λ i=>i∈C.F∨i=C.t∨i=C.sb∨i=C.mx∨i=C.mo∨i=C.l) w w'/\L'.head<=L.head+17/\D'.writes<=D.writes+2100/\∀ b,b<C.G.blocks->cmtB D' (ovOf ov') C.G.home b=(ovOf own b).getD (cmtB D (ovOf C.ov) C.G.home b)
structure Mid (w:World) (C:TxC) (D:DM) (own:List OEnt) (xc:Nat) (X:Nat->Prop) (L:LM) (N:Nat) (W:World) (F1:List Nat) (ov1:List OEnt) (D1:DM) (L1:LM) (g1:Nat->List UInt8) (ml:Nat) (lst:List OEnt) (lc hB wB:Nat):Prop where
 B:Both W { C with F:=F1,ov:=ov1 } D1 own xc 0 false X L1 N g1
 X:∀ i,X i->i<W.heap.size
 M:AcH W ml lst lc
 mlo:w.heap.size<=ml
 fr:Ai4 own lst
 val:∀ k,ovOf lst k=chOv D (ovOf C.ov) (ovOf own) C.G.home k
 len:lst.length<=own.length
 F:∀ i∈F1,i∈C.F∨w.heap.size<=i
 mF:ml∉F1
 ovs:∀ e∈ov1,e∈C.ov
 old:C.l<w.heap.size/\C.mo<w.heap.size/\C.t<w.heap.size/\C.sb<w.heap.size/\C.mx<w.heap.size/\∀ i∈C.F,i<w.heap.size
 k:AaA (λ i=>i∈C.F∨i=C.l∨i=C.mo) w W
 hd:L1.head<=L.head+hB
 wr:D1.writes<=D.writes+wB
 cm:∀ b,b<C.G.blocks->cmtB D1 (ovOf ov1) C.G.home b=cmtB D (ovOf C.ov) C.G.home b
section
variable {w W W':World} {C:TxC} {D D1:DM} {own ov1 lst:List OEnt} {xc lc ml hB wB:Nat} {X:Nat->Prop} {L L1:LM} {N:Nat} {g g1:Nat->List UInt8} {F1:List Nat}
theorem Mid.start (h:Both w C D own xc 0 false X L N g) (hX:∀ i,X i->i<w.heap.size) {n:Nat} {e:Ending} (hc:Ap2 (w.drewN n) C D own e W):∃ ml lst lc j,e=U (.tuple #[.map (some ml),I 0])/\Mid w C D own xc X L N W C.F C.ov (D.readedN j) L g ml lst lc 0 0:=by
 obtain ⟨ml,lst,lc,j,rfl,h1,h2,h3,h4,h5,h6,h7⟩:=hc
 have k0:AaA (· ∈ C.F) w W:=(((AaA.refl NoF w).drewN n).mono λ _ _ f=>f.elim).step h7
 have hsz:(w.drewN n).heap.size=w.heap.size:=rfl
 rw [hsz] at h1
 refine ⟨ml,lst,lc,j,rfl,?_⟩
 exact
  {B:=h.reads hX k0 j h6
   X:=λ i hi=>aEJ (hX i hi) k0.size
   M:=h2,mlo:=h1,fr:=h4,val:=h3,len:=h5
   F:=λ i hi=>.inl hi
   mF:=λ x=>by have:=h.tx.hd.lt _ x;omega
   ovs:=λ e he=>he
   old:=⟨h.st.hl.lt,h.tx.ho.hm.lt,h.tx.ht.lt,h.tx.hs.lt,h.tx.hx.hm.lt,h.tx.hd.lt⟩
   k:=k0.mono λ _ _ f=>.inl f
   hd:=aEK _
   wr:=by rw [ad0];exact aEK _
   cm:=λ b _=>ak0 _ _ _ _ _ }
theorem Mid.ovfoot (h:Mid w C D own xc X L N W F1 ov1 D1 L1 g1 ml lst lc hB wB):∀ i∈aaH C.mo ov1,i∈aaH C.mo C.ov:=λ i hi=>by
 simp only [aaH,List.mem_cons,List.mem_map] at hi ⊢
 rcases hi with rfl|⟨e,he,rfl⟩
 ·exact .inl rfl
 ·exact .inr ⟨e,h.ovs e he,rfl⟩
theorem Mid.foot (h:Mid w C D own xc X L N W F1 ov1 D1 L1 g1 ml lst lc hB wB):∀ i∈aaH ml lst,i∉F1/\i≠C.l/\i≠C.mo:=λ i hi=>by
 obtain ⟨o1,o2,o3,o4,o5,o6⟩:=h.old
 have hm:=h.mlo
 simp only [aaH,List.mem_cons,List.mem_map] at hi
 rcases hi with rfl|⟨e,he,rfl⟩
 ·exact ⟨h.mF,by omega,by omega⟩
 ·obtain ⟨p,hp,_,a0,_⟩:=h.fr e he
  have hx:p.blk∈aaH C.mx own:=by simp [aaH];exact .inr ⟨p,hp,rfl⟩
  rw [a0] at hx
  exact ⟨h.B.tx.xF _ hx,λ x=>h.B.xl (x ▸ hx),λ x=>h.B.tx.xO _ hx (by rw [x];simp [aaH])⟩
theorem Mid.calm (h:Mid w C D own xc X L N W F1 ov1 D1 L1 g1 ml lst lc hB wB) (kk:AaA NoF W W'):Mid w C D own xc X L N W' F1 ov1 D1 L1 g1 ml lst lc hB wB:=
 { h with
  B:=h.B.calm h.X kk
  X:=λ i hi=>aEJ (h.X i hi) kk.size
  M:=h.M.keeps kk (λ _ _ f=>f)
  k:=h.k.step (kk.mono λ _ _ f=>f.elim) }
theorem ao6 {ov:List OEnt} (b:Nat):b∈ov.map (·.key)↔∃ x,ovOf ov b=some x:=by
 constructor
 ·intro hb
  obtain ⟨e,he,hk⟩:=List.mem_map.1 hb
  cases hf:ov.find? (·.key == b) with
  | none=>have:=List.find?_eq_none.1 hf e he;simp [hk] at this
  | some q=>exact ⟨_,adJ hf⟩
 ·rintro ⟨x,hx⟩
  cases hf:ov.find? (·.key == b) with
  | none=>rw [agR hf] at hx;cases hx
  | some q=>exact List.mem_map.2 ⟨q,aEN hf,by simpa using List.find?_some hf⟩
theorem Mid.ck (h:Mid w C D own xc X L N W F1 ov1 D1 L1 g1 ml lst lc hB wB) (hc:AsE W C.sb C.d C.l C.mo F1 C.G D1 ov1 C.oc C.op L1 N g1 W'):∃ F2 D2 g2,Mid w C D own xc X L N W' F2 [] D2 (aeE L1) g2 ml lst lc hB (wB+2049)/\∀ i∈F2,i∈F1∨W.heap.size<=i:=by
 obtain ⟨F2,D2,g2,S,h2,h3,h4,h5⟩:=hc
 have a6:ov1.length<=2048:=h.B.st.ol
 have a4:=h.M.hm.lt
 have a0:∀ k∈aaH C.mo [],k∈aaH C.mo ov1:=λ k hk=>by
  have:k=C.mo:=by simpa [aaH] using hk
  simp [aaH,this]
 have hn:D2.n=D1.n:=by rw [S.is.n,h.B.st.is.n]
 have hw:=h.wr
 have a5:=h.k.size
 refine ⟨F2,D2,g2,?_,h2⟩
 exact
  { h with
   B:=h.B.moved h.X h3 (λ i f=>f) h2 a0 hn S
   X:=λ i hi=>aEJ (h.X i hi) h3.size
   M:=h.M.keeps h3 (λ i hi f=>by
    obtain ⟨a1,a2,a3⟩:=h.foot i hi
    rcases f with f|f|f
    ·exact a1 f
    ·exact a2 f
    ·exact a3 f)
   F:=λ i hi=>(h2 i hi).elim (h.F i) (λ x=>.inr (by omega))
   mF:=λ x=>(h2 _ x).elim h.mF (λ y=>by omega)
   ovs:=λ e he=>by cases he
   k:=h.k.trans h3 (λ i hi f=>by
    rcases f with f|f|f
    ·exact (h.F i f).elim .inl (λ x=>by omega)
    ·exact .inr (.inl f)
    ·exact .inr (.inr f))
   hd:=by
    have:(aeE L1).head=L1.head:=by unfold aeE;split<;>rfl
    rw [this];exact h.hd
   wr:=by omega
   cm:=λ b hb=>by
    rw [← h.cm b hb]
    have a7:C.G.home+C.G.blocks<=N:=h.B.st.gb
    have e1:D2.now (C.G.home+b)=g2 (C.G.home+b):=S.is.now _ (by omega)
    have e2:D1.now (C.G.home+b)=g1 (C.G.home+b):=h.B.st.is.now _ (by omega)
    have e3:=h5 (C.G.home+b) (by omega) (by omega)
    unfold cmtB
    rw [show ovOf [] b=none from rfl,Option.getD_none,e1,e3,e2]
    unfold agF
    rw [Nat.add_sub_cancel_left]
    by_cases hk:b∈ov1.map (·.key)
    ·rw [if_pos ⟨by omega,hk⟩]
    ·rw [if_neg (λ x=>hk x.2)]
     have:ovOf ov1 b=none:=by
      cases hq:ovOf ov1 b with
      | none=>rfl
      | some x=>exact absurd ((ao6 b).2 ⟨x,hq⟩) hk
     rw [this];rfl }
theorem Mid.app (h:Mid w C D own xc X L N W F1 ov1 D1 L1 g1 ml lst lc hB wB) (gr cd:Nat) (data:List UInt8) (hd:∀ j (hj:j<data.length),W.cell? ⟨gr,j,none⟩=some (Go.Vk.B data[j])) (a4:gr∉F1) (ab:w.heap.size<=gr) (a5:0<data.length) (a6:data.length<=8364) (a7:data.length<=cd)
  (a0:aeP data+(L1.head - L1.tail)<=L1.n) (hh:L.head+hB+57<=1073741824) (hw:D.writes+wB+10017<1099511627776) :
  Calls prog 92 #[↑C.l,.slice ↑gr data.length cd] W λ e w'=>e=U (I 0)/\∃ F2 D2 L2 g2,Mid w C D own xc X L N w' F2 ov1 D2 L2 g2 ml lst lc (hB+17) (wB+17):=by
 obtain ⟨o1,o2,o3,o4,o5,o6⟩:=h.old
 have ac:=h.hd
 have ad:=h.wr
 have a8:aeP data<=17:=by unfold aeP;omega
 have a9:=h.k.size
 have aa:=h.M.hm.lt
 refine (h.B.st.append gr cd data hd a4 (λ e=>by dsimp only at e;omega) (λ e=>by dsimp only at e;omega) a5 a6 a7 a0 (by omega) (by omega)).mono ?_
 rintro e w' ⟨rfl,F2,D2,g2,S,h2,h3,h4,h5,h6⟩
 refine ⟨rfl,F2,D2,{ L1 with head:=L1.head+aeP data },g2,?_⟩
 exact
  { h with
   B:=h.B.moved h.X h3 (λ i f=>f.elim .inl (λ x=>.inr (.inl x))) h2 (λ k hk=>hk) h5 S
   X:=λ i hi=>aEJ (h.X i hi) h3.size
   M:=h.M.keeps h3 (λ i hi f=>by
    obtain ⟨a1,a2,a3⟩:=h.foot i hi
    rcases f with f|f
    ·exact a1 f
    ·exact a2 f)
   F:=λ i hi=>(h2 i hi).elim (h.F i) (λ x=>.inr (by omega))
   mF:=λ x=>(h2 _ x).elim h.mF (λ y=>by omega)
   k:=h.k.trans h3 (λ i hi f=>by
    rcases f with f|f
    ·exact (h.F i f).elim .inl (λ x=>by omega)
    ·exact .inr (.inl f))
   hd:=by show L1.head+aeP data<=_;omega
   wr:=by omega
   cm:=λ b hb=>by
    rw [← h.cm b hb]
    have ae:C.G.home+C.G.blocks<=N:=h.B.st.gb
    have e1:D2.now (C.G.home+b)=g2 (C.G.home+b):=S.is.now _ (by omega)
    have e2:D1.now (C.G.home+b)=g1 (C.G.home+b):=h.B.st.is.now _ (by omega)
    unfold cmtB
    rw [e1,e2,h6 _ (by show C.G.home<=_;omega)] }
theorem Mid.lp (h:Mid w C D own xc X L N W F1 ov1 D1 L1 g1 ml lst lc hB wB):AoF W { C with F:=F1,ov:=ov1 } own lst ml lc W.heap.size ov1 C.oc #[] (W.alloc (agE ml lc #[])) where
 hr:=Blk.new _ _
 ho:=h.B.tx.ho.keeps ((AaA.refl NoF W).alloc _) (λ _ _ f=>f)
 k:=(AaA.refl _ _).alloc _
 sub:=λ e he=>.inl ⟨e,he,rfl,rfl⟩
 val:=λ b=>by
  have e0:abD (lst.map OEnt.ent) #[]=lst.map OEnt.ent:=by simp [abD]
  rw [e0]
  split
  ·rfl
  ·rename_i hn
   have:ovOf lst b=none:=by
    cases hq:ovOf lst b with
    | none=>rfl
    | some x=>
     obtain ⟨e,he,hk⟩:=List.mem_map.1 ((ao6 b).2 ⟨x,hq⟩)
     exact absurd (List.mem_map.2 ⟨e.ent,List.mem_map.2 ⟨e,he,rfl⟩,hk⟩) hn
   rw [this];rfl
theorem Mid.post (h:Mid w C D own xc X L N W F1 ov1 D1 L1 g1 ml lst lc hB wB) (hb:hB<=17) (a2:wB<=2100) {wr w':World} (kl:AaA (· = C.mo) W wr) {ovk:List OEnt} {ock:Nat} (sub:ApY ov1 own ovk) (hv:∀ b,ovOf ovk b=(ovOf lst b).or (ovOf ov1 b))
  (hF:Both w' { C with F:=F1,ov:=ovk,oc:=ock,op:=false } D1 [] xc 0 true X L1 N g1) (hk:AaA (λ i=>i=C.t∨i=C.sb∨i=C.mx) wr w'):AnP w C D own xc X L N (U (I 0)) w':=by
 have a3:=h.hd
 have a4:=h.wr
 have hG:∀ i,i<w.heap.size->i∈C.F∨i=C.l∨i=C.mo->i∈C.F∨i=C.t∨i=C.sb∨i=C.mx∨i=C.mo∨i=C.l:=λ i _ f=>by
  rcases f with f|f|f
  ·exact .inl f
  ·exact .inr (.inr (.inr (.inr (.inr f))))
  ·exact .inr (.inr (.inr (.inr (.inl f))))
 refine ⟨rfl,F1,ovk,ock,D1,L1,g1,hF,h.F,λ i hi=>?_,((h.k.mono hG).step (kl.mono λ i _ f=>.inr (.inr (.inr (.inr (.inl f)))))).step (hk.mono λ i _ f=>?_),by omega,by omega,λ b hb=>?_⟩
 ·rcases sub.foot (mx:=C.mx) hi with x|⟨x,_⟩
  ·exact .inl (h.ovfoot i x)
  ·exact .inr x
 ·rcases f with f|f|f
  ·exact .inr (.inl f)
  ·exact .inr (.inr (.inl f))
  ·exact .inr (.inr (.inr (.inl f)))
 ·have a1:=h.cm b hb
  rw [← a1]
  have a0:=hv b
  rw [h.val b] at a0
  unfold chOv at a0
  rw [← a1] at a0
  cases ho:ovOf own b with
  | none=>
   rw [ho] at a0
   have:ovOf ovk b=ovOf ov1 b:=a0
   unfold cmtB
   rw [this];rfl
  | some x=>
   rw [ho] at a0
   replace a0:ovOf ovk b=(if cmtB D1 (ovOf ov1) C.G.home b=x then none else some x).or (ovOf ov1 b):=a0
   by_cases hx:cmtB D1 (ovOf ov1) C.G.home b=x
   ·rw [if_pos hx] at a0
    have hv3:ovOf ovk b=ovOf ov1 b:=a0
    have:cmtB D1 (ovOf ovk) C.G.home b=cmtB D1 (ovOf ov1) C.G.home b:=by unfold cmtB;rw [hv3]
    rw [this,hx];rfl
   ·rw [if_neg hx] at a0
    have hv3:ovOf ovk b=some x:=a0
    unfold cmtB
    rw [hv3];rfl
end
structure Aq7 (w W:World) (F1:List Nat) (gr cap n:Nat) (data:List UInt8):Prop where
 cells:∀ j (hj:j<data.length),W.cell? ⟨gr,j,none⟩=some (B data[j])
 gF:gr∉F1
 lo:w.heap.size<=gr
 hi:gr<W.heap.size
 len:data.length=n
 cap:n<=cap
section
variable {w W W':World} {C:TxC} {D D1:DM} {own ov1 lst:List OEnt} {xc lc ml hB wB:Nat} {X:Nat->Prop} {L L1:LM} {N:Nat} {g g1:Nat->List UInt8} {F1:List Nat}
theorem Aq7.calm {gr cap n:Nat} {data:List UInt8} (h:Aq7 w W F1 gr cap n data) (kk:AaA NoF W W'):Aq7 w W' F1 gr cap n data:=
 { h with
  cells:=λ j hj=>kk.cellF (h.cells j hj) (λ f=>f)
  hi:=aEJ h.hi kk.size }
theorem Mid.cells (h:Mid w C D own xc X L N W F1 ov1 D1 L1 g1 ml lst lc hB wB):W.cell? ↑C.t=some ↑C.sb/\W.cell? ⟨C.sb,1,none⟩=some ↑C.l/\∀ ty,(Builtin.len_ #[135] ty #[.map (some ml)]).run prog W=.ok (I lst.length) W:=by
 have c0:=h.B.tx.ht.cell 0
 have c1:=h.B.st.hs.cell 1
 simp at c0 c1
 refine ⟨c0,c1,λ ty=>?_⟩
 have:=run_len_map (P:=prog) W 135 ty ml _ _ (by kernel_rfl) h.M.hm
 rw [this];simp [goInt]
theorem Mid.end0 (h:Mid w C D own xc X L N W F1 ov1 D1 L1 g1 ml lst lc hB wB) (hb:hB<=17) (a0:wB<=2100) (h0:lst=[]):Calls prog 89 #[↑C.t] W λ e w'=>e=U (.tuple #[])/\AnP w C D own xc X L N (U (I 0)) w':=by
 refine (h.B.finish (wr:=W) (AaA.refl _ _) h.B.tx.ho (λ e he=>.inl ⟨e,he,rfl,rfl⟩)).mono ?_
 rintro e w' ⟨rfl,hF,hk⟩
 exact ⟨rfl,h.post hb a0 (AaA.refl _ _) (λ e he=>.inl ⟨e,he,rfl,rfl⟩) (λ b=>by rw [h0];rfl) hF hk⟩
theorem Mid.pack (h:Mid w C D own xc X L N W F1 ov1 D1 L1 g1 ml lst lc hB wB) (h1:1<=lst.length) (hl:own.length<=16):Calls prog 90 #[.map (some ml)] W λ e W'=>∃ gr cap n data,e=U (.slice (some ⟨gr,0,none⟩) n cap)/\n=2+516*lst.length/\Aq7 w W' F1 gr cap n data/\Mid w C D own xc X L N W' F1 ov1 D1 L1 g1 ml lst lc hB wB:=by
 have hlen:=h.len
 have a0:=h.B.st.gb
 have a1:=h.B.st.N2
 refine (aC6 h.M h1 (by omega) (λ e he=>?_)).mono ?_
 ·obtain ⟨p,hp,hk,_⟩:=h.fr e he
  have:=h.B.tx.kb p hp
  rw [hk] at this
  omega
 ·rintro e W' ⟨gr,cap,ks,rfl,y1,y2,y3,y4,y5,y6,y7⟩
  have a2:=h.k.size
  refine ⟨gr,cap,_,amR ks (ovOf lst),rfl,y3,⟨y6,λ x=>?_,by omega,y5,rfl,y1⟩,h.calm y7⟩
  have:=h.B.st.hd.lt _ x
  omega
theorem Mid.room (h:Mid w C D own xc X L N W F1 ov1 D1 L1 g1 ml lst lc hB wB):Calls prog 91 #[↑C.l] W λ e W'=>e=U (.tuple #[I ((L1.n:Int) - ((L1.head:Int) - (L1.tail:Int))),I 0])/\∃ m,W'=W.drewN m:=by
 have S:=h.B.st
 have h1:=S.Ln
 have h2:=S.lg
 have h3:=S.hb
 exact aBL S.hl S.hd S.is S.li S.st (by omega) S.th.1 (by omega)
theorem Mid.check (h:Mid w C D own xc X L N W F1 ov1 D1 L1 g1 ml lst lc hB wB) (hw:D.writes+wB+20000<1099511627776) {gr cap n:Nat} {data:List UInt8} (hr:Aq7 w W F1 gr cap n data):Calls prog 78 #[↑C.sb] W λ e W'=>e=U (I 0)/\∃ F2 D2 g2,Mid w C D own xc X L N W' F2 [] D2 (aeE L1) g2 ml lst lc hB (wB+2049)/\Aq7 w W' F2 gr cap n data:=by
 have a1:=h.wr
 obtain ⟨o1,o2,o3,o4,o5,o6⟩:=h.old
 have a2:=hr.lo
 have a3:=hr.hi
 refine (an8 h.B.st (by omega)).mono ?_
 rintro e W' ⟨rfl,hc⟩
 obtain ⟨F2,D2,g2,S,h2,h3,h4,h5⟩:=id hc
 obtain ⟨F3,D3,g3,hM,a0⟩:=h.ck hc
 exact ⟨rfl,F3,D3,g3,hM,{ hr with
  cells:=λ j hj=>h3.cellG (hr.cells j hj) (λ f=>by
   rcases f with f|f|f
   ·exact hr.gF f
   ·dsimp only at f;omega
   ·dsimp only at f;omega)
  gF:=λ x=>(a0 _ x).elim hr.gF (λ y=>by omega)
  hi:=aEJ hr.hi h3.size }⟩
theorem Mid.appd (h:Mid w C D own xc X L N W F1 ov1 D1 L1 g1 ml lst lc hB wB) {gr cap n:Nat} {data:List UInt8} (hr:Aq7 w W F1 gr cap n data) (hn:0<n/\n<=8364) (a0:(n+491) / 492+(L1.head - L1.tail)<=L1.n) (hh:L.head+hB+57<=1073741824) (hw:D.writes+wB+10017<1099511627776) :
  Calls prog 92 #[↑C.l,.slice ↑gr n cap] W λ e w'=>e=U (I 0)/\∃ F2 D2 L2 g2,Mid w C D own xc X L N w' F2 ov1 D2 L2 g2 ml lst lc (hB+17) (wB+17):=by
 have hl:=hr.len
 subst hl
 exact h.app gr cap data hr.cells hr.gF hr.lo hn.1 hn.2 hr.cap (by unfold aeP;exact a0) hh hw
theorem Mid.done (h:Mid w C D own xc X L N W F1 ov1 D1 L1 g1 ml lst lc hB wB) (hb:hB<=17) (a0:wB<=2100) {ovk:List OEnt} {ock:Nat} {seen:Array Nat} {wr:World} (hR:AoF W { C with F:=F1,ov:=ov1 } own lst ml lc W.heap.size ovk ock seen wr) (hd:abD (lst.map OEnt.ent) seen=[]):Calls prog 89 #[↑C.t] wr λ e w'=>e=U (.tuple #[])/\AnP w C D own xc X L N (U (I 0)) w':=by
 refine (h.B.finish hR.k hR.ho hR.sub).mono ?_
 rintro e w' ⟨rfl,hF,hk⟩
 exact ⟨rfl,h.post hb a0 hR.k hR.sub (λ b=>by rw [hR.val b,hd];rfl) hF hk⟩
theorem ay0 (h:Both w C D own xc 0 false X L N g) (hX:∀ i,X i->i<w.heap.size) (aq:own.length<=16) (hh:L.head+100<=1073741824) (hw:D.writes+40000<1099511627776) :
  Calls prog 37 #[↑C.t] w (AnP w C D own xc X L N):=by
 have hSt:=aiP h.tx.ht h.tx.hs h.tx.hd
 have hE:aaT D C.G.life 0 false=0:=by unfold aaT;rw [h.live];rfl
 rw [hE] at hSt
 have an:∀ n,Calls prog 88 #[↑C.t] (w.drewN n) λ e W=>∃ ml lst lc j,e=U (.tuple #[.map (some ml),I 0])/\Mid w C D own xc X L N W C.F C.ov (D.readedN j) L g ml lst lc 0 0:=λ n=>(awK (h.calm hX ((AaA.refl _ _).drewN n)).tx h.st.is.burnt).mono (λ e W hc=>Mid.start h hX hc)
 have aC:L.n=C.G.lg:=h.st.Ln
 have aK:=h.st.lg
 have aL:=h.st.th
 generalize hPost:AnP w C D own xc X L N=Post at *
 have ak:∀ e w',AnP w C D own xc X L N e w'->Post e w':=λ e w' x=>by rw [← hPost];exact x
 replace ⟨hSt,an,ak⟩:=yh3 hSt an ak;clear h hX hE hPost
 go_enter Tryz.func37,Tryz.ntmps37
 go_upto_region 5 with (first
  | (go_at_call 85;refine hSt.out.mono ?_;rintro e w1 ⟨rfl,m,rfl⟩)
  | (go_at_call 88;refine (an.out _).mono ?_;rintro e W ⟨ml,lst,lc,j,rfl,hM⟩;replace hM:=hid hM))
 clear an hSt
 obtain ⟨c0,c1,clen⟩:=hM.out.cells
 have hlen:=hM.out.len
 obtain ⟨ln,ah⟩:∃ ln,lst.length=ln:=⟨_,rfl⟩
 rw [ah] at clen hlen
 by_cases aA:ln=0
 ·have a1:=hM.out.end0 (by omega) (by omega) (List.eq_nil_of_length_eq_zero (ah.trans aA))
  subst aA
  replace ⟨a1,ah⟩:=yh2 a1 ah
  go_wp2_with (go_at_call 89;refine a1.out.mono ?_;rintro e w4 ⟨rfl,hF⟩;replace hF:=hid (ak.out _ _ hF))
  exact hF.out
 ·have al:=hM.out.pack (by omega) aq
  rw [ah] at al
  have aM:¬ (ln:Int)=0:=by omega
  replace ⟨al,c0,c1⟩:=yh3 al c0 c1;clear ah
  go_upto_region 11 with (go_at_call 90;refine al.out.mono ?_;rintro e W2 ⟨gr,cap,n,data,rfl,hn,aa,am⟩;replace ⟨hn,aa,am⟩:=yh3 hn aa am)
  clear al clen c0 c1 hM
  obtain ⟨c0,c1,_⟩:=am.out.cells
  have hRm:=am.out.room
  have hnb:0<n/\n<=8364:=by have:=hn.out;omega
  obtain ⟨c,hc⟩:∃ c,(n+491) / 492=c:=⟨_,rfl⟩
  have ar:((n:Int)+491) / 492=(c:Int):=by omega
  have aD:((n:Int)+492 - 1) / 492=(c:Int):=by omega
  have aE:c<=17:=by omega
  have au:∃ rm:Int,(L.n:Int) - ((L.head:Int) - (L.tail:Int))=rm/\-1073741824<=rm/\rm<=4096/\(¬ rm<(c:Int)->c+(L.head - L.tail)<=L.n):=⟨_,rfl,by omega,by omega,by omega⟩
  obtain ⟨rm,aB,aN,aF,a6⟩:=au
  rw [aB] at hRm
  replace ⟨hRm,ar,hc,hn,a6⟩:=yh5 hRm ar hc hn a6;clear aD aB
  go_upto_region 12 with (go_at_call 91;refine hRm.out.mono ?_;rintro e W3 ⟨rfl,m,rfl⟩)
  have a8:=am.out.calm ((AaA.refl _ _).drewN m)
  have ai:=aa.out.calm ((AaA.refl NoF _).drewN m)
  generalize W2.drewN m=W3 at *
  clear hRm c0 c1
  obtain ⟨c0,c1,_⟩:=a8.cells
  have hq1:((n:Int)+491) / 492=(c:Int):=ar.out
  by_cases hlt:rm<(c:Int)
  ·have av:=a8.check (by omega) ai
   have aw:(aeE L).n=L.n/\(aeE L).tail=(aeE L).head:=by
    unfold aeE
    split
    ·exact ⟨rfl,by assumption⟩
    ·exact ⟨rfl,rfl⟩
   have a0:c+((aeE L).head - (aeE L).tail)<=(aeE L).n:=by rw [aw.1,aw.2,aC];omega
   replace ⟨a8,ai,av,a0⟩:=yh4 a8 ai av a0;clear aw
   go_upto_region 18 with (go_at_call 78;refine av.out.mono ?_;rintro e W4 ⟨rfl,F4,D4,g4,ao,ax⟩;replace ⟨ao,ax⟩:=yh2 ao ax)
   clear c0 c1
   obtain ⟨c0,c1,_⟩:=(ao.out).cells
   have hAp:=(ao.out).appd (ax.out) hnb (by rw [hc.out];exact a0.out) (by omega) (by omega)
   replace hAp:=hid hAp
   go_upto_region 21 with (go_at_call 92;refine hAp.out.mono ?_;rintro e W5 ⟨rfl,F5,D5,L5,g5,hM5⟩;replace hM5:=hid hM5)
   have aG:=ahN ahE hM5.out.M.hm
   have hst:=hM5.out.lp
   have ab:=hM5.out.B
   have ac:((lst.map OEnt.ent).map (·.2.2)).Nodup:=by simpa [List.map_map,Function.comp_def,OEnt.ent] using hM5.out.M.borns
   have ad:∀ x∈lst.map OEnt.ent,x.2.2<lc:=λ x hx=>by obtain ⟨e,he,rfl⟩:=List.mem_map.1 hx;exact hM5.out.M.clk e he
   have ay:=hM5.out.M.hm.lt
   have a3:=(hM5.out.foot ml (by simp [aaH])).2.2
   have ae:=λ ovk ock seen wr=>hM5.out.done (by omega) (by omega) (ovk:=ovk) (ock:=ock) (seen:=seen) (wr:=wr)
   replace ⟨hst,ab,ac,ad,a3,ae⟩:=yh6 hst ab ac ad a3 ae
   go_wp2
   go_loopw [10] (λ _ wr=>∃ ovk ock seen,AoF W5 _ own lst ml lc W5.heap.size ovk ock seen wr) (λ _ wr=>adT (lst.map OEnt.ent) W5.heap.size wr)
   case atStart=>exact ⟨_,_,_,hst.out⟩
   case round=>
    obtain ⟨ovk,ock,seen,hR⟩:=hrel
    clear hst
    have a5:=hR.k.blk hM5.out.M.hm a3.out
    go_wp2_with (at_next;refine ae3 rfl (.tmp 74) rfl W5.heap.size ml lc (lst.map OEnt.ent) seen rfl hR.hr a5 ad.out ?_ ?_)
    ·intro a2
     have a1:=ae.out _ _ _ _ hR a2
     replace ⟨hR,a1,a2,a5⟩:=yh4 hR a1 a2 a5
     go_wp2_with (go_at_call 89;refine a1.out.mono ?_;rintro e w4 ⟨rfl,hF⟩;replace hF:=hid (ak.out _ _ hF))
     exact hF.out
    ·rintro ka va ba hx w' hr' a9 ap
     obtain ⟨q,hq,a7⟩:=List.mem_map.1 (acE hx).1
     have ha:q.key=ka:=congrArg (·.1) a7
     have hv:q.val=va:=congrArg (·.2.1) a7
     have az:q.born=ba:=congrArg (·.2.2) a7
     subst ha hv az
     have aj:=a9.blk a5 (λ e=>by omega)
     have af:=agO (P:=prog) (x:=q.ent) hr' aj (acE hx).1 ac.out
     replace af:(Instr.entry ↑W5.heap.size).run prog w'=.ok (.tuple #[I q.key,q.val]) w':=af
     obtain ⟨aH,aI,w3,o3,c3,aJ,hF⟩:=AoF.step ab.out hM5.out.M hM5.out.fr (aEK _) hR hx hq hr' a9
     have a4:=agP hx
     have ag:adT (lst.map OEnt.ent) W5.heap.size w3<adT (lst.map OEnt.ent) W5.heap.size wr:=by rw [ac3 hF.hr,ac3 hR.hr];exact a4
     unfold OEnt.val at af
     generalize q.blk=qb at *
     generalize q.cap=qc at *
     replace ⟨hR,hx,hq,hr',a9,ap,aj,a5⟩:=yh8 hR hx hq hr' a9 ap aj a5;replace ⟨a4,ag,a7,hF⟩:=yh4 a4 ag a7 hF
     go_wp2
     exact ⟨⟨_,_,_,hF.out⟩,ag.out⟩
  ·have a0:=a6.out (by omega)
   replace ⟨a8,ai,a0⟩:=yh3 a8 ai a0
   go_upto_region 18 with fail
   clear c0 c1
   obtain ⟨c0,c1,_⟩:=(a8.out).cells
   have hAp:=(a8.out).appd (ai.out) hnb (by rw [hc.out];exact a0.out) (by omega) (by omega)
   replace hAp:=hid hAp
   go_upto_region 21 with (go_at_call 92;refine hAp.out.mono ?_;rintro e W5 ⟨rfl,F5,D5,L5,g5,hM5⟩;replace hM5:=hid hM5)
   have aG:=ahN ahE hM5.out.M.hm
   have hst:=hM5.out.lp
   have ab:=hM5.out.B
   have ac:((lst.map OEnt.ent).map (·.2.2)).Nodup:=by simpa [List.map_map,Function.comp_def,OEnt.ent] using hM5.out.M.borns
   have ad:∀ x∈lst.map OEnt.ent,x.2.2<lc:=λ x hx=>by obtain ⟨e,he,rfl⟩:=List.mem_map.1 hx;exact hM5.out.M.clk e he
   have ay:=hM5.out.M.hm.lt
   have a3:=(hM5.out.foot ml (by simp [aaH])).2.2
   have ae:=λ ovk ock seen wr=>hM5.out.done (by omega) (by omega) (ovk:=ovk) (ock:=ock) (seen:=seen) (wr:=wr)
   replace ⟨hst,ab,ac,ad,a3,ae⟩:=yh6 hst ab ac ad a3 ae
   go_wp2
   go_loopw [10] (λ _ wr=>∃ ovk ock seen,AoF W5 _ own lst ml lc W5.heap.size ovk ock seen wr) (λ _ wr=>adT (lst.map OEnt.ent) W5.heap.size wr)
   case atStart=>exact ⟨_,_,_,hst.out⟩
   case round=>
    obtain ⟨ovk,ock,seen,hR⟩:=hrel
    clear hst
    have a5:=hR.k.blk hM5.out.M.hm a3.out
    go_wp2_with (at_next;refine ae3 rfl (.tmp 74) rfl W5.heap.size ml lc (lst.map OEnt.ent) seen rfl hR.hr a5 ad.out ?_ ?_)
    ·intro a2
     have a1:=ae.out _ _ _ _ hR a2
     replace ⟨hR,a1,a5⟩:=yh3 hR a1 a5;clear a2
     go_wp2_with (go_at_call 89;refine a1.out.mono ?_;rintro e w4 ⟨rfl,hF⟩;replace hF:=hid (ak.out _ _ hF))
     exact hF.out
    ·rintro ka va ba hx w' hr' a9 ap
     obtain ⟨q,hq,a7⟩:=List.mem_map.1 (acE hx).1
     have ha:q.key=ka:=congrArg (·.1) a7
     have hv:q.val=va:=congrArg (·.2.1) a7
     have az:q.born=ba:=congrArg (·.2.2) a7
     subst ha hv az
     have aj:=a9.blk a5 (λ e=>by omega)
     have af:=agO (P:=prog) (x:=q.ent) hr' aj (acE hx).1 ac.out
     replace af:(Instr.entry ↑W5.heap.size).run prog w'=.ok (.tuple #[I q.key,q.val]) w':=af
     obtain ⟨aH,aI,w3,o3,c3,aJ,hF⟩:=AoF.step ab.out hM5.out.M hM5.out.fr (aEK _) hR hx hq hr' a9
     have a4:=agP hx
     have ag:adT (lst.map OEnt.ent) W5.heap.size w3<adT (lst.map OEnt.ent) W5.heap.size wr:=by rw [ac3 hF.hr,ac3 hR.hr];exact a4
     unfold OEnt.val at af
     generalize q.blk=qb at *
     generalize q.cap=qc at *
     replace ⟨ag,hF⟩:=yh2 ag hF;clear hR hx hq hr' a9 ap aj a5 a4 a7
     go_wp2
     exact ⟨⟨_,_,_,hF.out⟩,ag.out⟩
end
def adX (n:Int) (lo hi:Nat):Nat:=lo+(n % ((hi - lo+1:Nat):Int)).toNat
theorem aeR (n:Int) (lo hi:Nat):lo<=adX n lo hi:=Nat.le_add_right _ _
theorem aeA (n:Int) {lo hi:Nat} (h:lo<=hi):adX n lo hi<=hi:=by
 unfold adX
 have h1:=Int.emod_lt_of_pos n (show (0:Int)<((hi - lo+1:Nat):Int) by omega)
 have h2:=Int.emod_nonneg n (show ((hi - lo+1:Nat):Int)≠0 by omega)
 omega
theorem aw7 (n:Int) (m:Nat) (hm:0<m):(n.tmod m<0->n % (m:Int)=n.tmod m+m)/\(¬ n.tmod m<0->n % (m:Int)=n.tmod m)/\-(m:Int)<n.tmod m/\n.tmod m<m:=by
 have h1:=Int.emod_lt_of_pos n (show (0:Int)<(m:Int) by omega)
 have h2:=Int.emod_nonneg n (show (m:Int)≠0 by omega)
 have h3:=Int.tmod_eq_emod (a:=n) (b:=(m:Int))
 have h5:((m:Int).natAbs:Int)=m:=by omega
 by_cases hc:0<=n∨(m:Int) ∣ n
 ·rw [if_pos hc] at h3
  omega
 ·rw [if_neg hc] at h3
  have h4:n % (m:Int)≠0:=λ e=>hc (.inr (Int.dvd_of_emod_eq_zero e))
  omega
def aiM (c:Int):Nat:=4*adX c 1 256
def gLog (b:Int):Nat:=adX b 18 256
def ahY (b c:Int):Nat:=3+gLog b+2+aiM c / 4+1
def apH (a b c:Int):Nat:=adX a (ahY b c) 2048
theorem an4 (c:Int):4<=aiM c/\aiM c<=1024/\aiM c % 4=0:=by
 have h1:=aeR c 1 256
 have h2:=aeA c (show 1<=256 by decide)
 unfold aiM
 omega
theorem ar3 (b:Int):18<=gLog b/\gLog b<=256:=⟨aeR _ _ _,aeA _ (by decide)⟩
theorem ar4 (b c:Int):ahY b c<=2048:=by
 have:=an4 c
 have:=ar3 b
 unfold ahY
 omega
theorem aq1 (a b c:Int):ahY b c<=apH a b c/\apH a b c<=2048:=⟨aeR _ _ _,aeA _ (ar4 b c)⟩
theorem asU (a b c:Int):AbY (apH a b c) (gLog b) (aiM c):=by
 have h1:=an4 c
 have h2:=ar3 b
 have h3:=aq1 a b c
 unfold ahY at h3
 unfold AbY
 omega
structure StAt (w:World) (sb d l mo:Nat) (F:List Nat) (G:Geom) (D:DM) (ov:List OEnt) (oc:Nat) (op:Bool):Prop where
 hs:Blk w sb (acQ d l mo G.s G.lg G.n G.life op)
 hd:AaI w d D F
 ho:AcH w mo ov oc
 sF:sb∉F
 oF:∀ k∈aaH mo ov,k∉F
 sO:sb∉aaH mo ov
 gn:G.home+G.blocks<=D.n
 n2:D.n<=2048
 live:afD D G.life=false
def TxM.new (D:DM):TxM:=⟨D,λ _=>none,0,0⟩
section
variable {w:World} {sb d l mo:Nat} {F:List Nat} {G:Geom} {D:DM} {ov:List OEnt} {oc:Nat}
theorem StAt.begin (h:StAt w sb d l mo F G D ov oc false) (X:Nat->Prop) (hX:∀ i,X i->i<w.heap.size/\i≠sb/\i∉F/\i∉aaH mo ov):Calls prog 57 #[↑sb] w λ e w'=>
  ∃ t mx,e=U (.tuple #[.pointer (some ⟨t,0,none⟩),I 0])/\w.heap.size<=t/\w.heap.size<=mx/\t<w'.heap.size/\Aa1 w' ⟨t,sb,d,l,mo,mx,F,G,true,ov,oc⟩ (TxM.new D) false (agG X w'.heap.size)/\AaA (· = sb) w w':=by
 refine (ay7 h.hs h.hd h.live).mono ?_
 rintro e w' ⟨t,mx,rfl,a1,a2,a3,a4,a5,a6,a7⟩
 have hs:=h.hs.lt
 have a0:=h.hd.lt
 have a8:=h.ho.lt
 have hT:TxAt w' ⟨t,sb,d,l,mo,mx,F,G,true,ov,oc⟩ D [] 0 0 false X:=
  {ht:=a4
   hs:=a6
   hd:=h.hd.keeps a7 λ i hi e=>h.sF (e ▸ hi)
   ho:=h.ho.keeps a7 λ i hi e=>h.sO (e ▸ hi)
   hx:=a5
   tF:=λ hm=>by have:=a0 t hm;omega
   sF:=h.sF
   oF:=h.oF
   xF:=λ k hk hm=>by
    have:=a0 k hm
    simp [aaH] at hk
    omega
   ts:=by show t≠sb;omega
   tO:=λ hm=>by have:=a8 t hm;omega
   tX:=λ hm=>by simp [aaH] at hm;exact a3 hm
   sO:=h.sO
   sX:=λ hm=>by simp [aaH] at hm;omega
   xO:=λ k hk hm=>by
    have:=a8 k hm
    simp [aaH] at hk
    omega
   mb:=λ e he=>by cases he
   kb:=λ e he=>by cases he
   gn:=h.gn
   n2:=h.n2
   xX:=λ k hk=>by
    obtain ⟨b1,b2,b3,b4⟩:=hX k hk
    refine ⟨by show k≠t;omega,b2,b3,b4,λ hm=>?_⟩
    simp [aaH] at hm
    omega }
 exact ⟨t,mx,rfl,a1,a2,a4.lt,⟨[],0,hT.client (λ i hi=>hi),λ k=>rfl,rfl⟩,a7⟩
end
section
variable {w:World} {C:TxC} {X:Nat->Prop} {L:LM}
theorem Aa1.mxLt {M:TxM} {en:Bool} (h:Aa1 w C M en X):C.mx<w.heap.size:=by
 obtain ⟨own,xc,h1,_⟩:=h
 exact h1.hx.lt _ (by simp [aaH])
theorem alZ {M:TxM} {en:Bool} (h:Aa1 w C M en X) {d:Nat} (hl:Blk w C.l (logO d L)) (lF:C.l∉C.F):¬ KF C C.l/\C.l≠C.sb:=by
 obtain ⟨own,xc,y1,_⟩:=h
 refine ⟨λ x=>?_,λ x=>?_⟩
 ·rcases x with x|x|x
  ·exact lF x
  ·have ht:=y1.ht
   rw [x] at hl
   unfold Blk at hl ht
   rw [hl] at ht
   simp [logO,txO] at ht
  ·have ht:=y1.hx.hm
   rw [x] at hl
   unfold Blk at hl ht
   rw [hl] at ht
   simp [logO,mapO] at ht
 ·have ht:=y1.hs
  rw [x] at hl
  unfold Blk at hl ht
  rw [hl] at ht
  simp [logO,acQ] at ht
end
theorem avK {w:World} {l d mo clock:Nat} {L:LM} {es:List OEnt} (hl:Blk w l (logO d L)) (h:AcH w mo es clock):l∉aaH mo es:=λ hi=>by
 simp only [aaH,List.mem_cons,List.mem_map] at hi
 rcases hi with rfl|⟨e,he,rfl⟩
 ·have h2:=h.hm
  unfold Blk at hl h2
  rw [hl] at h2
  simp [logO,mapO] at h2
 ·have h2:=(h.ok e he).blk
  unfold Blk at hl h2
  rw [hl] at h2
  simp [logO,aaE] at h2
theorem auH {w:World} {d:Nat} {F:List Nat} {s lg n:Nat} (hp:AbY s lg n) (h2:s<=2048) (h:AaI w d (fmtD s lg n) F) :
  Calls prog 75 #[↑d] w (AlH w d F (newD s lg n) s lg n (wrap64 ((fmtD s lg n).life+1)) 1):=by
 obtain ⟨life,g,e1,_⟩:=al1 hp h2
 have ht:=aB1 hp h2
 have:=axM h s lg n 1 0 (avV hp h2) (by rw [ht];rw [e1])
 rw [ht] at this
 exact this
theorem atF {w:World} {d:Nat} {F:List Nat} {s lg n:Nat} (hp:AbY s lg n) (h2:s<=2048) (h:AaI w d (DM.new s) F) :
  Calls prog 81 #[↑d,.agg #[I s,I lg,I n]] w λ e w'=>e=U (I (0:Nat))/\AeN w d F (fmtD s lg n) w':=by
 obtain ⟨life,e,_⟩:=apI hp h2
 have h1:1<=s:=by unfold AbY at hp;omega
 refine (avU h rfl s lg n hp (Is.new s h1 h2).n.symm (by show (0:Nat)<_;decide)).mono ?_
 rintro e' w' ⟨rfl,x⟩
 rw [e] at x ⊢
 exact ⟨rfl,x⟩
theorem TS.laySl_like (T:TS) (k:Nat) (b:List UInt8):T.Like (T.laySl k b).2:=T.puts_like _ _
theorem TS.thrown_like (T:TS) (c:Nat):T.Like (T.thrown c):=by
 unfold TS.thrown
 split
 ·exact T.spoilN_like 6
 ·exact .refl T
theorem TS.load_like (T:TS) (G:Geom) (k:Int):T.Like (T.load G k).2:=by
 unfold TS.load
 split
 ·exact T.thrown_like _
 ·exact .refl T
theorem TS.save_like (T:TS) (G:Geom) (k:Int) (n:Nd):T.Like (T.save G k n).2:=by
 unfold TS.save
 repeat' split
 all_goals first|exact .refl T|exact T.laySl_like _ _|exact T.thrown_like _
theorem TS.free_like (T:TS) (G:Geom) (k:Int):T.Like (T.free G k).2:=by
 unfold TS.free
 repeat' split
 all_goals first|exact .refl T|exact (T.drop_like G true k).trans (TS.laySl_like _ _ _)|exact T.drop_like G true k|exact T.thrown_like _
theorem TS.make_like (T:TS) (G:Geom) (kind parent:Int):T.Like (T.make G kind parent).2:=by
 unfold TS.make
 repeat' split
 all_goals first|exact .refl T|exact (T.take_like G true).trans (TS.laySl_like _ _ _)|exact T.take_like G true
theorem TS.all_like (T:TS) (G:Geom) (kind:Int):T.Like (T.all G kind).2:=by
 unfold TS.all
 repeat' split
 all_goals first|exact .refl T|exact T.thrown_like _
def agD (d sb:Nat) (vt vu:Value) (tb:Nat) (G:Geom) (ok:Bool):Obj:=
 .cells #[↑d,↑sb,vt,vu,↑tb,I G.lg,I (3+G.lg:Nat),I G.blocks,I G.n,I (2+G.n / 4:Nat),.bool ok] 55 (0,0)
structure RgN where
 r:Nat
 ta:Nat
 ua:Nat
 p:Nat
 q:Nat
 tb:Nat
 m:Nat
def RgN.bl (N:RgN) (C:TxC):List (Nat × Obj):=[(N.r,agD C.d C.sb ↑N.ta ↑N.ua N.tb C.G true),(N.ta,tabO N.p),(N.ua,tabO N.q),(N.p,ab3 C.t),(N.q,ab3 C.t)]
def RgN.tab (N:RgN) (o:Bool):Nat:=if o then N.ua else N.ta
def RgN.pool (N:RgN) (o:Bool):Nat:=if o then N.q else N.p
structure NX (w:World) (C:TxC) (N:RgN) (T:TS) (B:TB) (Z X:Nat->Prop):Prop where
 pl:Aa6 w C T X
 hb:∀ x∈N.bl C,Blk w x.1 x.2/\X x.1/\¬ Z x.1
 ref:Aa3 w N.tb N.m B Z
 zX:∀ i,Z i->X i
 hl:Blk w C.l (logO C.d T.lm)
 lF:C.l∉C.F
 xl:∀ i,X i->i≠C.l
 lok:LOk C.G T.lm
 ovk:∀ e∈C.ov,e.key<C.G.blocks
 n4:C.G.n % 4=0
 n0:4<=C.G.n
 dd:T.dd=false
def AaX (C:TxC) (N:RgN) (Z:Nat->Prop) (i:Nat):Prop:=KF C i∨Z i∨(∃ x∈N.bl C,i=x.1)∨i=C.sb∨i=C.l∨i=C.mo
section
variable {w w':World} {C:TxC} {N:RgN} {T T':TS} {B B':TB} {Z X:Nat->Prop}
theorem NX.bR (h:NX w C N T B Z X):Blk w N.r (agD C.d C.sb ↑N.ta ↑N.ua N.tb C.G true)/\X N.r/\¬ Z N.r:=h.hb _ (List.mem_cons_self ..)
theorem NX.node (h:NX w C N T B Z X) (o:Bool):Ab4 w C T X (N.tab o) (N.pool o):=by
 have b1:=h.hb (N.ta,tabO N.p) (by simp [RgN.bl])
 have b2:=h.hb (N.ua,tabO N.q) (by simp [RgN.bl])
 have b3:=h.hb (N.p,ab3 C.t) (by simp [RgN.bl])
 have b4:=h.hb (N.q,ab3 C.t) (by simp [RgN.bl])
 cases o
 ·exact ⟨h.pl,b1.1,b3.1,b1.2.1,b3.2.1,h.n4⟩
 ·exact ⟨h.pl,b2.1,b4.1,b2.2.1,b4.2.1,h.n4⟩
theorem NX.len (h:NX w C N T B Z X) (k:Nat) (hk:k<=C.G.n):(T.raw (nblk k)).length=512:=h.pl.len _ (aiU h.pl.geo hk)
theorem NX.other (h:NX w C N T B Z X) {Gf:Nat->Prop} (k:AaA Gf w w') (hG:∀ i,i<w.heap.size->Gf i->X i/\¬ Z i/\∀ x∈N.bl C,i≠x.1):NX w' C N T B Z (Zn w w' X):=
 { h with
  pl:=h.pl.grow k (λ i hi f=>(hG i hi f).1) (λ i hi=>hi.elim (λ x=>⟨aEJ (h.pl.lt i x) k.size,.inl x⟩) (λ x=>⟨x.2,.inr x.1⟩))
  hb:=λ x hx=>by
   obtain ⟨a,b,c⟩:=h.hb x hx
   exact ⟨k.blk a (λ f=>(hG _ a.lt f).2.2 x hx rfl),.inl b,c⟩
  ref:=h.ref.keeps k (λ i hi f=>(hG i (h.pl.lt i (h.zX i hi)) f).2.1 hi)
  zX:=λ i hi=>.inl (h.zX i hi)
  hl:=k.blk h.hl (λ f=>h.xl _ (hG _ h.hl.lt f).1 rfl)
  xl:=λ i hi e=>hi.elim (λ x=>h.xl i x e) (λ x=>by have:=h.hl.lt;omega) }
theorem NX.calm (h:NX w C N T B Z X) (k:AaA NoF w w'):NX w' C N T B Z X:=
 { h with
  pl:=h.pl.quiet k
  hb:=λ x hx=>by
   obtain ⟨a,b,c⟩:=h.hb x hx
   exact ⟨k.blk a (λ f=>f),b,c⟩
  ref:=h.ref.keeps k (λ i hi f=>f)
  hl:=k.blk h.hl (λ f=>f) }
theorem NX.lKF (h:NX w C N T B Z X):¬ KF C C.l:=by
 obtain ⟨M,⟨own,xc,y1,_⟩,_⟩:=h.pl.rep
 have hl:=h.hl
 rintro (x|x|x)
 ·exact h.lF x
 ·have ht:=y1.ht
  rw [x] at hl
  unfold Blk at hl ht
  rw [hl] at ht
  simp [logO,txO] at ht
 ·have ht:=y1.hx.hm
  rw [x] at hl
  unfold Blk at hl ht
  rw [hl] at ht
  simp [logO,mapO] at ht
theorem NX.pool (h:NX w C N T B Z X) (k:AaA (KF C) w w') (h':Aa6 w' C T' X) (hL:T.Like T'):NX w' C N T' B Z X:=
 { h with
  hl:=by rw [hL.1];exact k.blk h.hl h.lKF
  lok:=by rw [hL.1];exact h.lok
  pl:=h'
  hb:=λ x hx=>by
   obtain ⟨a,b,c⟩:=h.hb x hx
   exact ⟨h.pl.blk k a b,b,c⟩
  ref:=h.ref.keeps k (λ i hi f=>h.pl.notF (h.zX i hi) f)
  dd:=hL.2.2.2.1.trans h.dd }
theorem NX.doc (h:NX w C N T B Z X) (s:AaS w w' N.tb N.m B' Z):NX w' C N T B' (Zn w w' Z) (Zn w w' X):=
 { h with
  pl:=h.pl.grow s.k (λ i _ f=>h.zX i f) (λ i hi=>hi.elim (λ x=>⟨aEJ (h.pl.lt i x) s.k.size,.inl x⟩) (λ x=>⟨x.2,.inr x.1⟩))
  hb:=λ x hx=>by
   obtain ⟨a,b,c⟩:=h.hb x hx
   have:=a.lt
   exact ⟨s.k.blk a c,.inl b,λ z=>z.elim c (λ z=>by omega)⟩
  ref:=s.rep
  zX:=λ i hi=>hi.elim (λ x=>.inl (h.zX i x)) .inr
  hl:=s.k.blk h.hl (λ f=>h.xl _ (h.zX _ f) rfl)
  xl:=λ i hi e=>hi.elim (λ x=>h.xl i x e) (λ x=>by have:=h.hl.lt;omega) }
end
end Go.Vk
