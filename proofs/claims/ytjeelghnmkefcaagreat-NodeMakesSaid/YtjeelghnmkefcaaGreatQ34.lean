/- Part of the proof: Ck1 Cm1 Cm2. -/
import Derived.Test.YtjeelghnmkefcaaGreatQ32
import Derived.Test.YtjeelghnmkefcaaGreatQ33
set_option linter.unusedVariables false
set_option maxHeartbeats 16000000
set_option maxRecDepth 100000
namespace Go.Vk
open Go.RowKit Go.Proofs
open Tryz (prog)
structure StO (w:World) (sb d l mo:Nat) (F:List Nat) (G:Geom) (D:DM) (ov:List OEnt) (oc:Nat) (op:Bool) (L:LM) (N:Nat) (g:Nat->List UInt8):Prop where
 hs:Blk w sb (acQ d l mo G.s G.lg G.n G.life op)
 hl:Blk w l (logO d L)
 hd:AaI w d D F
 ho:AcH w mo ov oc
 sF:sb∉F
 lF:l∉F
 oF:∀ k∈aaH mo ov,k∉F
 ls:l≠sb
 lO:l∉aaH mo ov
 sO:sb∉aaH mo ov
 is:Is D N G.life g
 li:L.life=G.life
 st:L.started=true
 Lf:L.first=1
 Ln:L.n=G.lg
 lg:18<=G.lg/\G.lg<=256
 gb:G.home+G.blocks<=N
 N2:N<=2048
 kb:∀ e∈ov,e.key<G.blocks
 ol:ov.length<=2048
 an:Ae0 g L
 th:L.tail<=L.head/\L.head - L.tail<=L.n
 ep:1<=L.epoch/\L.epoch<2147483648
 hb:L.head+40<=1073741824
 wb:D.writes+10000<1099511627776
def AsE (w:World) (sb d l mo:Nat) (F:List Nat) (G:Geom) (D:DM) (ov:List OEnt) (oc:Nat) (op:Bool) (L:LM) (N:Nat) (g:Nat->List UInt8) (w':World):Prop:=
 ∃ F' D' g',StO w' sb d l mo F' G D' [] oc op (aeE L) N g'/\(∀ k∈F',k∈F∨w.heap.size<=k)/\AaA (λ i=>i∈F∨i=l∨i=mo) w w'/\D'.writes<=D.writes+ov.length+1/\∀ j,G.home<=j->j<N->g' j=agF g G.home (ovOf ov) (ov.map (·.key)) j
def ckG (g:Nat->List UInt8) (home:Nat) (ov:List OEnt) (k:Nat) (j:Nat):List UInt8:=if k<=1 then g j else agF g home (ovOf ov) (ov.map (·.key)) j
def AiG (w:World) (sb d l mo:Nat) (F:List Nat) (G:Geom) (D:DM) (ov:List OEnt) (oc:Nat) (op:Bool) (L:LM) (N:Nat) (g:Nat->List UInt8) (k:Nat) (W:World):Prop:=
 ∃ F' D' g',StO W sb d l mo F' G D' ov oc op (if k<=2 then L else aeE L) N g'/\(∀ i∈F',i∈F∨w.heap.size<=i)/\AaA (λ i=>i∈F∨i=l) w W/\D'.writes<=D.writes+(if k<=1 then 0 else ov.length)+(if k<=2 then 0 else 1)/\∀ j,G.home<=j->j<N->g' j=ckG g G.home ov k j
theorem ar0 (g:Nat->List UInt8) (a0:Nat) (ov:Nat->Option (List UInt8)) (done:List Nat) (j:Nat) (h:j<a0):agF g a0 ov done j=g j:=by
 unfold agF;rw [if_neg (λ x=>by omega)]
theorem Ae0.congr {g g':Nat->List UInt8} {L:LM} (h:Ae0 g L) (h1:g' L.first=g L.first) (h2:g' (L.first+1)=g (L.first+1)):Ae0 g' L:=by
 unfold Ae0 at *
 rw [h1,h2];exact h
section
variable {w W W':World} {sb d l mo:Nat} {F F':List Nat} {G:Geom} {D D':DM} {ov:List OEnt} {oc:Nat} {op:Bool} {L:LM} {N:Nat} {g g':Nat->List UInt8}
theorem StO.disk (h:StO w sb d l mo F G D ov oc op L N g) (hD:DAt w d F D' F' W) (hI:Is D' N G.life g') (ha:Ae0 g' L) (hw:D'.writes+10000<1099511627776):StO W sb d l mo F' G D' ov oc op L N g':=
 { h with
  hs:=hD.blk h.hs h.sF
  hl:=hD.blk h.hl h.lF
  hd:=hD.rep
  ho:=h.ho.keeps hD.keeps h.oF
  sF:=hD.out_of h.sF h.hs.lt
  lF:=hD.out_of h.lF h.hl.lt
  oF:=λ k hk=>hD.out_of (h.oF k hk) (h.ho.lt k hk)
  is:=hI
  an:=ha
  wb:=hw }
theorem AiG.sync (h0:StO w sb d l mo F G D ov oc op L N g) (hw:D.writes+20000<1099511627776) (h:AiG w sb d l mo F G D ov oc op L N g 0 W):Calls prog 70 #[↑l] W λ e w'=>e=U (I 0)/\AiG w sb d l mo F G D ov oc op L N g 1 w':=by
 obtain ⟨F',D',g',hS,h2,h3,h4,h5⟩:=h
 simp only [aEY,if_true] at hS h4
 refine (avJ hS.hl hS.hd hS.is hS.li hS.st).mono ?_
 rintro e w' ⟨rfl,F2,hD⟩
 refine ⟨rfl,F2,D'.flushed,g',?_,λ i hi=>(hD.sub i hi).elim (h2 i) (λ x=>.inr (by have:=h3.size;omega)),h3.trans hD.keeps (λ i hi e=>(h2 i e).elim .inl (λ x=>by omega)),?_,λ j hj a0=>by have:=h5 j hj a0;unfold ckG at *;simpa using this⟩
 ·rw [if_pos (by decide)]
  exact hS.disk hD hS.is.flushed hS.an (by rw [acB];exact hS.wb)
 ·rw [acB];exact h4
theorem AiG.home (h0:StO w sb d l mo F G D ov oc op L N g) (hw:D.writes+20000<1099511627776) (h:AiG w sb d l mo F G D ov oc op L N g 1 W):Calls prog 156 #[↑sb] W λ e w'=>e=U (I 0)/\AiG w sb d l mo F G D ov oc op L N g 2 w':=by
 obtain ⟨F',D',g',hS,h2,h3,h4,h5⟩:=h
 rw [if_pos (by decide)] at hS
 have h4':D'.writes<=D.writes:=by simpa using h4
 refine (aBU hS.hs hS.hd hS.ho hS.sF hS.oF hS.is hS.N2 (by omega) hS.kb hS.gb hS.ol).mono ?_
 rintro e w' ⟨rfl,F2,D2,hD,a0,hw2⟩
 have a2:=hS.ol
 have hf:=hS.Lf
 refine ⟨rfl,F2,D2,agF g' G.home (ovOf ov) (ov.map (·.key)),?_,λ i hi=>(hD.sub i hi).elim (h2 i) (λ x=>.inr (by have:=h3.size;omega)),h3.trans hD.keeps (λ i hi e=>(h2 i e).elim .inl (λ x=>by omega)),?_,λ j hj a1=>?_⟩
 ·rw [if_pos (by decide)]
  refine hS.disk hD a0 (hS.an.congr (ar0 _ _ _ _ _ ?_) (ar0 _ _ _ _ _ ?_)) (by omega)
  ·unfold Geom.home;omega
  ·unfold Geom.home;omega
 ·rw [if_neg (by decide),if_pos (by decide)];omega
 ·have:=h5 j hj a1
  unfold ckG at *
  rw [if_pos (by decide)] at this
  rw [if_neg (by decide)]
  unfold agF
  rw [this]
theorem AiG.trim (h0:StO w sb d l mo F G D ov oc op L N g) (hw:D.writes+20000<1099511627776) (h:AiG w sb d l mo F G D ov oc op L N g 2 W):Calls prog 158 #[↑l] W λ e w'=>e=U (I 0)/\AiG w sb d l mo F G D ov oc op L N g 3 w':=by
 obtain ⟨F',D',g',hS,h2,h3,h4,h5⟩:=h
 rw [if_pos (by decide)] at hS
 rw [if_neg (by decide),if_pos (by decide)] at h4
 have ac:=hS.ol
 have a9:=hS.gb
 have hf:=hS.Lf
 have ad:=hS.Ln
 have ae:=hS.lg
 have a8:=hS.ep
 have aa:=hS.th
 have af:=hS.hb
 have ab:L.first+1<N:=by unfold Geom.home at a9;omega
 obtain ⟨g2,i1,i2,i3,i4⟩:=hS.is.trimD L ab hS.an aa.1 a8.1 a8.2 (by omega)
 refine (aBK hS.hl hS.hd hS.lF hS.is hS.li hS.st ab hS.N2 (by omega) hS.an aa.1 a8.1 a8.2 (by omega)).mono ?_
 rintro e w' ⟨rfl,F2,y1,y2,y3,y4⟩
 have hsz:=h3.size
 have e1:(aeE L).first=L.first/\(aeE L).n=L.n/\(aeE L).life=L.life/\(aeE L).started=L.started/\(aeE L).head=L.head/\(aeE L).epoch=L.epoch/\(aeE L).tail=L.head:=by
  unfold aeE
  split
  ·exact ⟨rfl,rfl,rfl,rfl,rfl,rfl,by assumption⟩
  ·exact ⟨rfl,rfl,rfl,rfl,rfl,rfl,rfl⟩
 obtain ⟨a1,a2,a3,a4,a5,a6,a7⟩:=e1
 have a0:∀ i,i<W.heap.size->i∉F'->i∉F2:=λ i hi hn hm=>(y2 i hm).elim hn (λ x=>by omega)
 refine ⟨rfl,F2,Go.Vk.ap5 D' L,g2,?_,λ i hi=>(y2 i hi).elim (h2 i) (λ x=>.inr (by omega)),h3.trans y4 (λ i hi e=>e.elim (λ x=>(h2 i x).elim .inl (λ z=>by omega)) .inr),?_,λ j hj ag=>?_⟩
 ·rw [if_neg (by decide)]
  exact
   {hs:=y4.blk hS.hs (λ f=>f.elim hS.sF (λ e=>hS.ls e.symm))
    hl:=y3
    hd:=y1
    ho:=hS.ho.keeps y4 (λ i hi f=>f.elim (hS.oF i hi) (λ e=>hS.lO (e ▸ hi)))
    sF:=a0 sb hS.hs.lt hS.sF
    lF:=a0 l hS.hl.lt hS.lF
    oF:=λ k hk=>a0 k (hS.ho.lt k hk) (hS.oF k hk)
    ls:=hS.ls,lO:=hS.lO,sO:=hS.sO
    is:=i1
    li:=by rw [a3];exact hS.li
    st:=by rw [a4];exact hS.st
    Lf:=by rw [a1];exact hf
    Ln:=by rw [a2];exact ad
    lg:=ae,gb:=a9,N2:=hS.N2,kb:=hS.kb,ol:=ac
    an:=i3
    th:=by rw [a7,a5,a2];omega
    ep:=by rw [a6];exact a8
    hb:=by rw [a5];exact af
    wb:=by omega }
 ·rw [if_neg (by decide),if_neg (by decide)];omega
 ·have:=h5 j hj ag
  unfold ckG at *
  rw [if_neg (by decide)] at this ⊢
  rw [← this]
  unfold Geom.home at hj
  exact i2 j (by omega) (by omega)
theorem StO.ov0 (h:StO w sb d l mo F G D ov oc op L N g) (hm:Blk W mo (mapO [] oc)) (k:AaA (· = mo) w W):StO W sb d l mo F G D [] oc op L N g:=
 { h with
  hs:=k.blk h.hs (λ e=>h.sO (by simp [aaH,e]))
  hl:=k.blk h.hl (λ e=>h.lO (by simp [aaH,e]))
  hd:=h.hd.keeps k (λ i hi e=>h.oF mo (by simp [aaH]) (e ▸ hi))
  ho:=⟨hm,(λ _ he=>by cases he),List.nodup_nil,List.nodup_nil,(λ _ he=>by cases he)⟩
  oF:=λ k hk=>h.oF k (by
                 have:k=mo:=by simpa [aaH] using hk
                 simp [aaH,this])
  lO:=λ hk=>h.lO (by
               have:l=mo:=by simpa [aaH] using hk
               simp [aaH,this])
  sO:=λ hk=>h.sO (by
               have:sb=mo:=by simpa [aaH] using hk
               simp [aaH,this])
  kb:=λ e he=>by cases he
  ol:=by simp }
def amG (l sb:Nat):List Value:=[.func (.func 70) #[↑l] #[],.func (.func 156) #[↑sb] #[],.func (.func 158) #[↑l] #[]]
theorem an8 (h:StO w sb d l mo F G D ov oc op L N g) (hw:D.writes+20000<1099511627776):Calls prog 78 #[↑sb] w λ e w'=>e=U (I 0)/\AsE w sb d l mo F G D ov oc op L N g w':=by
 have a9:∀ (fn:Fn) (first cap:Array Value) (w:World),(Instr.makeFunc fn first cap).run prog w=.ok (.func fn first cap) w:=λ _ _ _ _=>rfl
 have c1:=h.hs.cell 1
 simp at c1
 have a1:=ar1 h.hs h.hd
 have a7:afD D G.life=false:=by unfold afD;rw [h.is.burnt,h.is.lf];simp
 rw [a7] at a1
 have a2:=h.hd.lt
 replace ⟨h,hw,a1,a2⟩:=yh4 h hw a1 a2;clear a7
 go_enter Tryz.func78,Tryz.ntmps78
 go_upto_region 3 with (go_at_call 69;refine a1.out.mono ?_;rintro e w1 ⟨rfl,m,rfl⟩)
 have c1d:(w.drewN m).drew.cell? ⟨sb,1,none⟩=some ↑l:=c1
 have c1e:(w.drewN (m+1)).cell? ⟨sb,1,none⟩=some ↑l:=c1
 go_region_held3 (λ W=>W.cell? ⟨sb,1,none⟩=some ↑l) (first|with_reducible exact c1d|with_reducible exact c1e|exact aaU c1e _|exact aaU c1 _) (fail)
 all_goals
  have kA:AaA NoF w ((w.drewN (m+1)).alloc (.cells (amG l sb).toArray 73 (0,0))):=((AaA.refl NoF w).drewN (m+1)).alloc _
  have bA:=Blk.new (w.drewN (m+1)) (.cells (amG l sb).toArray 73 (0,0))
  refine ahC (λ W=>AaA NoF w W/\Blk W w.heap.size (.cells (amG l sb).toArray 73 (0,0))) ⟨kA,bA⟩ ?_
  clear c1 c1d c1e kA bA
  rintro w2 ⟨k2,b2⟩
  have a0:w.heap.size∉F:=λ e=>by have:=a2.out _ e;omega
  have hlt:=h.out.hl.lt
  have a8:w.heap.size≠l:=by omega
  have h2:StO w2 sb d l mo F G D ov oc op L N g:=h.out.disk ⟨h.out.hd.keeps k2 (λ _ _ f=>f),λ _ hk=>.inl hk,k2.mono λ _ _ f=>f.elim⟩ h.out.is h.out.an h.out.wb
  have r0:AiG w2 sb d l mo F G D ov oc op L N g 0 w2:=⟨F,D,g,by rw [if_pos (by decide)];exact h2,λ _ hk=>.inl hk,AaA.refl _ _,by simp,λ j _ _=>by simp [ckG]⟩
  have a3:=λ W hW=>AiG.sync (W:=W) h2 hw.out hW
  have a4:=λ W hW=>AiG.home (W:=W) h2 hw.out hW
  have a5:=λ W hW=>AiG.trim (W:=W) h2 hw.out hW
  have a6:∀ k W,AiG w2 sb d l mo F G D ov oc op L N g k W->Blk W w.heap.size (.cells (amG l sb).toArray 73 (0,0)):=λ k W hW=>by
   obtain ⟨F',D',g',_,_,k3,_⟩:=hW
   exact k3.blk b2 (λ f=>f.elim a0 (λ e=>a8 e))
  have hfin:∀ W,AiG w2 sb d l mo F G D ov oc op L N g 3 W->W.cell? ⟨sb,8,none⟩=some (.map (some mo))/\(∀ ty,(Builtin.clear_ #[135] ty #[.map (some mo)]).run prog W=.ok (.tuple #[]) (W.setBlk mo (mapO [] oc)))/\AsE w sb d l mo F G D ov oc op L N g (W.setBlk mo (mapO [] oc)):=by
   rintro W ⟨F',D',g',hS,q2,q3,q4,q5⟩
   rw [if_neg (by decide)] at hS
   have c8:=hS.hs.cell 8
   simp at c8
   have kc:=abM W mo (mapO [] oc)
   have hsz:=k2.size
   refine ⟨c8,λ ty=>ajB ahE hS.ho.hm ty,F',D',g',hS.ov0 (hS.ho.hm.setBlk _) kc,λ i hi=>(q2 i hi).elim .inl (λ x=>.inr (by omega)),((k2.mono λ _ _ f=>f.elim).step (q3.mono λ _ _ f=>f.elim .inl (λ x=>.inr (.inl x)))).step (kc.mono λ _ _ e=>.inr (.inr e)),?_,λ j hj aa=>?_⟩
   ·rw [if_neg (by decide),if_neg (by decide)] at q4;exact q4
   ·have:=q5 j hj aa
    unfold ckG at this
    rw [if_neg (by decide)] at this
    exact this
  have ab:∀ w0,(callFunc 70 #[↑l]).run prog w0=.ok (.enter 70 #[↑l]) w0:=λ w0=>by kernel_rfl
  have ac:∀ w0,(callFunc 156 #[↑sb]).run prog w0=.ok (.enter 156 #[↑sb]) w0:=λ w0=>by kernel_rfl
  have ad:∀ w0,(callFunc 158 #[↑l]).run prog w0=.ok (.enter 158 #[↑l]) w0:=λ w0=>by kernel_rfl
  clear a9
  generalize hPost:AsE w sb d l mo F G D ov oc op L N g=Post at *
  generalize w.heap.size=fb at *
  clear hlt
  replace ⟨r0,a3,a4,a5,a6,hfin,hPost⟩:=yh7 r0 a3 a4 a5 a6 hfin hPost;clear k2 b2 a0 a8 h2
  go_wp2
  go_loopw [22] (λ i wr=>∃ k:Nat,k<=3/\i=I k/\AiG w2 sb d l mo F G D ov oc op L N g k wr) (λ i _=>3 - (RowKit.intOf i).toNat)
  case atStart=>exact ⟨0,by omega,rfl,r0.out⟩
  case round=>
   obtain ⟨k,hk,rfl,hR⟩:=hrel
   have hB:=a6.out k wr hR
   clear r0
   have h4:k=0∨k=1∨k=2∨k=3:=by omega
   rcases h4 with rfl|rfl|rfl|rfl
   ·have hv:=hB.cell 0
    simp [amG] at hv
    have hC:=a3.out wr hR
    replace ⟨hR,hB,hC⟩:=yh3 hR hB hC
    go_wp2_with (go_at_call 70;refine hC.out.mono ?_;rintro e w8 ⟨rfl,hp8⟩;replace hp8:=hid hp8)
    exact ⟨⟨1,by omega,by go_num,hp8.out⟩,by simp [RowKit.intOf]⟩
   ·have hv:=hB.cell 1
    simp [amG] at hv
    have hC:=a4.out wr hR
    replace ⟨hR,hB,hC⟩:=yh3 hR hB hC
    go_wp2_with (go_at_call 156;refine hC.out.mono ?_;rintro e w8 ⟨rfl,hp8⟩;replace hp8:=hid hp8)
    exact ⟨⟨2,by omega,by go_num,hp8.out⟩,by simp [RowKit.intOf]⟩
   ·have hv:=hB.cell 2
    simp [amG] at hv
    have hC:=a5.out wr hR
    replace ⟨hR,hB,hC⟩:=yh3 hR hB hC
    go_wp2_with (go_at_call 158;refine hC.out.mono ?_;rintro e w8 ⟨rfl,hp8⟩;replace hp8:=hid hp8)
    exact ⟨⟨3,by omega,by go_num,hp8.out⟩,by simp [RowKit.intOf]⟩
   ·obtain ⟨d8,ae,hF⟩:=hfin.out wr hR
    replace hF:=hid hF;clear hR hB
    go_wp2
    go_ret
    exact ⟨rfl,by rw [hPost.out];exact hF.out⟩
end
theorem ajF:∀ (n:Nat) (l:List Nat),l.Nodup->(∀ x∈l,x<n)->l.length<=n
 | 0,l,_,h=>by
  cases l with
  | nil=>simp
  | cons a l=>exact absurd (h a (by simp)) (by omega)
 | n+1,l,hd,h=>by
  by_cases hn:n∈l
  ·have h1:=ajF n (l.erase n) (hd.erase n) (λ x hx=>by
    obtain ⟨h2,h3⟩:=hd.mem_erase_iff.1 hx
    have:=h x h3
    omega)
   rw [List.length_erase_of_mem hn] at h1
   omega
  ·exact Nat.le_succ_of_le (ajF n l hd (λ x hx=>by
    have:=h x hx
    have:x≠n:=λ e=>hn (e ▸ hx)
    omega))
structure Both (w:World) (C:TxC) (D:DM) (own:List OEnt) (xc sp:Nat) (en:Bool) (X:Nat->Prop) (L:LM) (N:Nat) (g:Nat->List UInt8):Prop where
 tx:TxAt w C D own xc sp en X
 st:StO w C.sb C.d C.l C.mo C.F C.G D C.ov C.oc C.op L N g
 tl:C.t≠C.l
 xl:C.l∉aaH C.mx own
 Xl:∀ k,X k->k≠C.l
section
variable {w w' W:World} {C:TxC} {D D':DM} {own:List OEnt} {xc sp:Nat} {en:Bool} {X:Nat->Prop} {L L':LM} {N:Nat} {g g':Nat->List UInt8}
theorem Both.moved (h:Both w C D own xc sp en X L N g) (hX:∀ i,X i->i<w.heap.size) {Gf:Nat->Prop} (kk:AaA Gf w w') (a2:∀ i,Gf i->i∈C.F∨i=C.l∨i=C.mo) {F':List Nat} (hF:∀ i∈F',i∈C.F∨w.heap.size<=i) {ov':List OEnt} {oc':Nat}
  (a0:∀ k∈aaH C.mo ov',k∈aaH C.mo C.ov) (hn:D'.n=D.n) (S:StO w' C.sb C.d C.l C.mo F' C.G D' ov' oc' C.op L' N g'):Both w' { C with F:=F',ov:=ov',oc:=oc' } D' own xc sp en X L' N g':=by
 have hT:=h.tx
 have a1:∀ k,k<w.heap.size->k∉C.F->k∉F':=λ k h1 h2 h3=>(hF k h3).elim h2 (λ x=>by omega)
 have mo_in:C.mo∈aaH C.mo C.ov:=by simp [aaH]
 exact
  {st:=S
   tl:=h.tl,xl:=h.xl,Xl:=h.Xl
   tx:=
    {ht:=kk.blk hT.ht (λ f=>by rcases a2 _ f with x|x|x;exact hT.tF x;exact h.tl x;exact hT.tO (x ▸ mo_in))
     hs:=S.hs,hd:=S.hd,ho:=S.ho
     hx:=hT.hx.keeps kk (λ i hi f=>by rcases a2 _ f with x|x|x;exact hT.xF i hi x;exact h.xl (x ▸ hi);exact hT.xO i hi (x ▸ mo_in))
     tF:=a1 _ hT.ht.lt hT.tF
     sF:=S.sF,oF:=S.oF
     xF:=λ k hk=>a1 k (hT.hx.lt k hk) (hT.xF k hk)
     ts:=hT.ts
     tO:=λ x=>hT.tO (a0 _ x)
     tX:=hT.tX
     sO:=S.sO
     sX:=hT.sX
     xO:=λ k hk x=>hT.xO k hk (a0 _ x)
     mb:=hT.mb,kb:=hT.kb
     gn:=by rw [hn];exact hT.gn
     n2:=by rw [hn];exact hT.n2
     xX:=λ k hk=>by
      obtain ⟨x1,x2,x3,x4,x5⟩:=hT.xX k hk
      exact ⟨x1,x2,a1 k (hX k hk) x3,λ x=>x4 (a0 _ x),x5⟩ } }
theorem Both.reads (h:Both w C D own xc sp en X L N g) (hX:∀ i,X i->i<w.heap.size) (kk:AaA (· ∈ C.F) w w') (j:Nat) (hd:AaI w' C.d (D.readedN j) C.F):Both w' C (D.readedN j) own xc sp en X L N g:=by
 have S:=h.st.disk (W:=w') (D':=D.readedN j) (F':=C.F) (g':=g) ⟨hd,λ _ hk=>.inl hk,kk⟩ (h.st.is.readedN j) h.st.an (by rw [ad0];exact h.st.wb)
 exact h.moved hX kk (λ i f=>.inl f) (λ i hi=>.inl hi) (λ k hk=>hk) (afQ _ _) S
theorem Both.calm (h:Both w C D own xc sp en X L N g) (hX:∀ i,X i->i<w.heap.size) (kk:AaA NoF w w'):Both w' C D own xc sp en X L N g:=by
 have S:=h.st.disk (W:=w') (D':=D) (F':=C.F) (g':=g) ⟨h.st.hd.keeps kk (λ _ _ f=>f),λ _ hk=>.inl hk,kk.mono λ _ _ f=>f.elim⟩ h.st.is h.st.an h.st.wb
 exact h.moved hX kk (λ i f=>f.elim) (λ i hi=>.inl hi) (λ k hk=>hk) rfl S
theorem Both.live (h:Both w C D own xc sp en X L N g):afD D C.G.life=false:=by unfold afD;rw [h.st.is.burnt,h.st.is.lf];simp
end
section
variable {w:World} {sb d l mo:Nat} {F:List Nat} {G:Geom} {D:DM} {ov:List OEnt} {oc:Nat} {op:Bool} {L:LM} {N:Nat} {g:Nat->List UInt8}
theorem StO.append (h:StO w sb d l mo F G D ov oc op L N g) (gr cd:Nat) (data:List UInt8) (hd:∀ j (hj:j<data.length),w.cell? ⟨gr,j,none⟩=some (B data[j])) (a2:gr∉F) (a3:gr≠l) (aa:gr≠sb) (a4:0<data.length) (a5:data.length<=8364) (a6:data.length<=cd)
  (a1:aeP data+(L.head - L.tail)<=L.n) (hh:L.head+57<=1073741824) (hw:D.writes+10017<1099511627776) :
  Calls prog 92 #[↑l,.slice ↑gr data.length cd] w λ e w'=>e=U (I 0)/\∃ F' D' g',StO w' sb d l mo F' G D' ov oc op { L with head:=L.head+aeP data } N g'/\(∀ k∈F',k∈F∨w.heap.size<=k)/\AaA (λ k=>k∈F∨k=l) w w'/\D'.writes<=D.writes+17/\D'.n=D.n/\∀ j,G.home<=j->g' j=g j:=by
 have ab:=h.lg
 have ac:=h.Ln
 have ad:=h.Lf
 have a7:=h.gb
 have a8:=h.th
 have ae:=h.ep
 have a9:aeP data<=17:=by unfold aeP;omega
 unfold Geom.home at a7
 refine (avQ h.hl h.hd h.lF h.is h.li h.st (by omega) (by omega) h.N2 (by omega) (by omega) a8.1 (by omega) gr cd data hd a2 a3 a4 a5 a6 a1).mono ?_
 rintro e w' ⟨rfl,F',y1,y2,y3,y4⟩
 obtain ⟨g',i1,i2,i3⟩:=h.is.appD L (by omega) data (aeP data)
 have a0:∀ k,k<w.heap.size->k∉F->k∉F':=λ k h1 h2 h3=>(y2 k h3).elim h2 (λ x=>by omega)
 refine ⟨rfl,F',_,g',?_,y2,y4,by rw [i2];omega,by rw [i1.n,h.is.n],λ j hj=>i3 j (by unfold Geom.home at hj;omega)⟩
 exact
  {hs:=y4.blk h.hs (λ f=>f.elim h.sF (λ e=>h.ls e.symm))
   hl:=y3
   hd:=y1
   ho:=h.ho.keeps y4 (λ i hi f=>f.elim (h.oF i hi) (λ e=>h.lO (e ▸ hi)))
   sF:=a0 _ h.hs.lt h.sF
   lF:=a0 _ h.hl.lt h.lF
   oF:=λ k hk=>a0 k (h.ho.lt k hk) (h.oF k hk)
   ls:=h.ls,lO:=h.lO,sO:=h.sO
   is:=i1
   li:=h.li,st:=h.st,Lf:=h.Lf,Ln:=h.Ln,lg:=h.lg,gb:=h.gb,N2:=h.N2,kb:=h.kb,ol:=h.ol
   an:=by
    have:=h.an
    unfold Ae0 at this ⊢
    rw [show ({ L with head:=L.head+aeP data }:LM).first=L.first from rfl,i3 L.first (by omega),i3 (L.first+1) (by omega)]
    exact this
   th:=⟨by show L.tail<=L.head+_;omega,by show L.head+_ - L.tail<=L.n;omega⟩
   ep:=h.ep
   hb:=by show L.head+_+40<=_;omega
   wb:=by rw [i2];omega }
end
section
variable {w:World} {t sb mx d l mo s lg n xc sp:Nat} {life:Int} {op:Bool} {es:List Ent}
theorem aAC (ht:Blk w t (txO sb mx sp false)) (hs:Blk w sb (acQ d l mo s lg n life op)) (hm:Blk w mx (mapO es xc)) (mt:mx≠t) (ms:mx≠sb) (ts:t≠sb):Calls prog 89 #[↑t] w λ e w'=>e=U (.tuple #[])/\w'=endW w t sb mx xc:=by
 have b1:Blk (w.setCell ⟨t,3,none⟩ ↑true) t (txO sb mx sp true):=by simpa [txO] using ht.setCell 3 ↑true
 have s1:=hs.setCell_ne (p:=⟨t,3,none⟩) (λ e=>ts e.symm) ↑true
 have b2:=b1.setCell_ne (p:=⟨sb,9,none⟩) ts ↑false
 have m2:=(hm.setCell_ne (p:=⟨t,3,none⟩) mt ↑true).setCell_ne (p:=⟨sb,9,none⟩) ms ↑false
 have a2:=λ ty=>ajB ahE m2 ty
 have c0:=b1.cell 0
 have c1:=b2.cell 1
 have f3:=ht.frz 3
 have f9:=s1.frz 9
 have a0:=ht.cell 0
 have a1:=ht.cell 1
 have a3:=ht.cell 3
 have a9:=hs.cell 9
 have f9':=hs.frz 9
 simp at c0 c1 a0 a1 a3 a9
 clear b1 b2 m2
 clear ht hs hm mt ms s1
 go_enter Tryz.func89,Tryz.ntmps89
 go_wp2
 go_end0
 exact ⟨rfl,rfl⟩
theorem av2 (ht:Blk w t (txO sb mx sp false)) (hs:Blk w sb (acQ d l mo s lg n life op)) (hm:Blk w mx (mapO es xc)) (mt:mx≠t) (ms:mx≠sb) (ts:t≠sb) :
  Blk (endW w t sb mx xc) t (txO sb mx sp true)/\Blk (endW w t sb mx xc) sb (acQ d l mo s lg n life false)/\Blk (endW w t sb mx xc) mx (mapO ([].map OEnt.ent) xc):=by
 refine ⟨?_,?_,?_⟩
 ·have:=((ht.setCell 3 ↑true).setCell_ne (p:=⟨sb,9,none⟩) ts ↑false)
  exact (abM _ mx (mapO [] xc)).blk (by simpa [txO] using this) (λ e=>mt e.symm)
 ·have:=(hs.setCell_ne (p:=⟨t,3,none⟩) (λ e=>ts e.symm) ↑true).setCell 9 ↑false
  exact (abM _ mx (mapO [] xc)).blk (by simpa [acQ] using this) (λ e=>ms e.symm)
 ·have:=((hm.setCell_ne (p:=⟨t,3,none⟩) mt ↑true).setCell_ne (p:=⟨sb,9,none⟩) ms ↑false)
  exact this.setBlk (mapO [] xc)
end
def ApY (ov own ovk:List OEnt):Prop:=∀ e∈ovk,(∃ q∈ov,q.key=e.key/\q.blk=e.blk)∨∃ q∈own,q.key=e.key/\q.blk=e.blk
theorem ApY.foot {ov own ovk:List OEnt} (h:ApY ov own ovk) {mo mx k:Nat} (hk:k∈aaH mo ovk):k∈aaH mo ov∨(k∈aaH mx own/\∃ q∈own,q.blk=k):=by
 simp only [aaH,List.mem_cons,List.mem_map] at hk ⊢
 rcases hk with rfl|⟨e,he,rfl⟩
 ·exact .inl (.inl rfl)
 ·rcases h e he with ⟨q,hq,_,h2⟩|⟨q,hq,_,h2⟩
  ·exact .inl (.inr ⟨q,hq,h2⟩)
  ·exact .inr ⟨.inr ⟨q,hq,h2⟩,q,hq,h2⟩
section
variable {w w' W:World} {C:TxC} {D D':DM} {own:List OEnt} {xc sp:Nat} {X:Nat->Prop} {L L':LM} {N:Nat} {g g':Nat->List UInt8}
theorem Both.finish (h:Both W C D own xc sp false X L N g) {wr:World} (k:AaA (· = C.mo) W wr) {ovk:List OEnt} {ock:Nat} (ho:AcH wr C.mo ovk ock) (a5:ApY C.ov own ovk) :
  Calls prog 89 #[↑C.t] wr λ e w'=>e=U (.tuple #[])/\Both w' { C with ov:=ovk,oc:=ock,op:=false } D [] xc sp true X L N g/\AaA (λ i=>i=C.t∨i=C.sb∨i=C.mx) wr w':=by
 have hT:=h.tx
 have hS:=h.st
 have mo_in:C.mo∈aaH C.mo C.ov:=by simp [aaH]
 have mx_in:C.mx∈aaH C.mx own:=by simp [aaH]
 have mt:C.mx≠C.t:=λ e=>hT.tX (e ▸ mx_in)
 have ms:C.mx≠C.sb:=λ e=>hT.sX (e ▸ mx_in)
 have mF:C.mx∉C.F:=hT.xF _ mx_in
 have tmo:C.t≠C.mo:=λ e=>hT.tO (e ▸ mo_in)
 have smo:C.sb≠C.mo:=λ e=>hT.sO (e ▸ mo_in)
 have xmo:C.mx≠C.mo:=λ e=>hT.xO _ mx_in (e ▸ mo_in)
 have lmo:C.l≠C.mo:=λ e=>hS.lO (e ▸ mo_in)
 have ht:=k.blk hT.ht tmo
 have hs:=k.blk hT.hs smo
 have hm:=k.blk hT.hx.hm xmo
 refine (aAC ht hs hm mt ms hT.ts).mono ?_
 rintro e w' ⟨rfl,rfl⟩
 obtain ⟨e1,e2,e3⟩:=av2 ht hs hm mt ms hT.ts
 have hk:=azV wr C.t C.sb C.mx xc
 have a4:∀ i∈aaH C.mo ovk,i≠C.t/\i≠C.sb/\i≠C.mx/\i∉C.F/\i≠C.l:=λ i hi=>by
  rcases a5.foot (mx:=C.mx) hi with x|⟨x,q,hq,hb⟩
  ·exact ⟨λ e=>hT.tO (e ▸ x),λ e=>hT.sO (e ▸ x),λ e=>hT.xO _ mx_in (e ▸ x),hS.oF i x,λ e=>hS.lO (e ▸ x)⟩
  ·exact ⟨λ e=>hT.tX (e ▸ x),λ e=>hT.sX (e ▸ x),λ e=>hT.mb q hq (hb.trans e),hT.xF i x,λ e=>h.xl (e ▸ x)⟩
 have a0:∀ k∈aaH C.mx [],k=C.mx:=λ k hk=>by simpa [aaH] using hk
 have a6:AcH (endW wr C.t C.sb C.mx xc) C.mo ovk ock:=ho.keeps hk (λ i hi e=>by
  obtain ⟨a1,a2,a3,_,_⟩:=a4 i hi
  rcases e with e|e|e
  ·exact a1 e
  ·exact a2 e
  ·exact a3 e)
 have a7:AaI (endW wr C.t C.sb C.mx xc) C.d D C.F:=(hT.hd.keeps k (λ i hi e=>hT.oF _ mo_in (e ▸ hi))).keeps hk (λ i hi e=>by
  rcases e with rfl|rfl|rfl
  ·exact hT.tF hi
  ·exact hT.sF hi
  ·exact mF hi)
 have a9:Blk (endW wr C.t C.sb C.mx xc) C.l (logO C.d L):=hk.blk (k.blk hS.hl lmo) (λ e=>by
  rcases e with e|e|e
  ·exact h.tl e.symm
  ·exact hS.ls e
  ·exact h.xl (e ▸ mx_in))
 have a8:∀ e∈ovk,e.key<C.G.blocks:=λ e he=>by
  rcases a5 e he with ⟨q,hq,h1,_⟩|⟨q,hq,h1,_⟩
  ·rw [← h1];exact hS.kb q hq
  ·rw [← h1];exact hT.kb q hq
 refine ⟨rfl,?_,hk⟩
 exact
  {tl:=h.tl
   xl:=λ x=>h.xl (by rw [a0 _ x];exact mx_in)
   Xl:=h.Xl
   tx:=
    {ht:=e1,hs:=e2,hd:=a7,ho:=a6
     hx:=⟨e3,(λ _ he=>by cases he),List.nodup_nil,List.nodup_nil,(λ _ he=>by cases he)⟩
     tF:=hT.tF,sF:=hT.sF
     oF:=λ i hi=>(a4 i hi).2.2.2.1
     xF:=λ i hi=>by rw [a0 i hi];exact mF
     ts:=hT.ts
     tO:=λ x=>(a4 _ x).1 rfl
     tX:=λ x=>mt (a0 _ x).symm
     sO:=λ x=>(a4 _ x).2.1 rfl
     sX:=λ x=>ms (a0 _ x).symm
     xO:=λ i hi x=>(a4 _ x).2.2.1 (a0 i hi)
     mb:=λ e he=>by cases he
     kb:=λ e he=>by cases he
     gn:=hT.gn,n2:=hT.n2
     xX:=λ i hi=>by
      obtain ⟨x1,x2,x3,x4,x5⟩:=hT.xX i hi
      refine ⟨x1,x2,x3,λ x=>?_,λ x=>x5 (by rw [a0 i x];exact mx_in)⟩
      rcases a5.foot (mx:=C.mx) x with y|⟨y,_⟩
      ·exact x4 y
      ·exact x5 y }
   st:=
    { hS with
     hs:=e2,hl:=a9,hd:=a7,ho:=a6
     oF:=λ i hi=>(a4 i hi).2.2.2.1
     lO:=λ x=>(a4 _ x).2.2.2.2 rfl
     sO:=λ x=>(a4 _ x).2.1 rfl
     kb:=a8
     ol:=by
      have:=ajF C.G.blocks (ovk.map (·.key)) ho.keys (λ x hx=>by obtain ⟨e,he,rfl⟩:=List.mem_map.1 hx;exact a8 e he)
      rw [aEU] at this
      have h1:=hS.gb
      have h2:=hS.N2
      show ovk.length<=2048
      omega } }
structure AoF (W:World) (C:TxC) (own lst:List OEnt) (ml lc r:Nat) (ovk:List OEnt) (ock:Nat) (seen:Array Nat) (wr:World):Prop where
 hr:Blk wr r (agE ml lc seen)
 ho:AcH wr C.mo ovk ock
 k:AaA (· = C.mo) W wr
 sub:ApY C.ov own ovk
 val:∀ b,ovOf ovk b=if b∈(abD (lst.map OEnt.ent) seen).map (·.1) then ovOf C.ov b else (ovOf lst b).or (ovOf C.ov b)
theorem AoF.step (h:Both W C D own xc sp false X L N g) {lst:List OEnt} {ml lc r:Nat} (hM:AcH W ml lst lc) (hF:Ai4 own lst) (hr:W.heap.size<=r) {ovk:List OEnt} {ock:Nat} {seen:Array Nat} {wr:World} (hR:AoF W C own lst ml lc r ovk ock seen wr)
  {q:OEnt} (hq:q.ent∈abD (lst.map OEnt.ent) seen) (a3:q∈lst) {w':World} (hr':Blk w' r (agE ml lc (seen.push q.born))) (a8:AaA (· = r) wr w') :
  w'.cell? ↑C.t=some ↑C.sb/\w'.cell? ⟨C.sb,8,none⟩=some (.map (some C.mo)) /\
  ∃ w3 o3 c3,(Instr.mapUpdate 135 (.map (some C.mo)) (I q.key) (.slice ↑q.blk 512 q.cap)).run prog w'=.ok () w3/\AoF W C own lst ml lc r o3 c3 (seen.push q.born) w3:=by
 have hT:=h.tx
 have hmo:C.mo<W.heap.size:=hT.ho.hm.lt
 have mo_in:C.mo∈aaH C.mo C.ov:=by simp [aaH]
 have K:AaA (· = C.mo) W w':=hR.k.trans a8 (λ i hi e=>by subst e;omega)
 have ht:=K.blk hT.ht (λ e=>hT.tO (e ▸ mo_in))
 have hs:=K.blk hT.hs (λ e=>hT.sO (e ▸ mo_in))
 have c0:=ht.cell 0
 have c8:=hs.cell 8
 simp at c0 c8
 obtain ⟨p,hp,p1,p2,p3,p4⟩:=hF q a3
 have a5:p.blk∈aaH C.mx own:=by simp [aaH];exact .inr ⟨p,hp,rfl⟩
 have a0:q.blk≠C.mo:=λ e=>hT.xO _ a5 (by rw [p2,e];exact mo_in)
 have a6:q.ok w':=by
  have h1:=hM.ok q a3
  exact ⟨h1.len,K.blk h1.blk a0,h1.cap⟩
 have a1:∀ i∈aaH C.mo ovk,i<W.heap.size:=λ i hi=>by
  rcases hR.sub.foot (mx:=C.mx) hi with x|⟨x,_⟩
  ·exact hT.ho.lt i x
  ·exact hT.hx.lt i x
 have ho:AcH w' C.mo ovk ock:=hR.ho.keeps a8 (λ i hi e=>by have:=a1 i hi;omega)
 have aa:∀ e∈ovk,e.blk≠C.mo:=λ e he x=>by
  have h1:=(ho.ok e he).blk
  have h2:=ho.hm
  rw [x] at h1
  unfold Blk at h1 h2
  rw [h1] at h2
  simp [aaE,mapO] at h2
 have ab:=aqG (C:={ C with mx:=C.mo }) ho.hm ho.keys q.key q.blk q.cap q.data
 have a9:=abM w' C.mo (mapO ((putE ovk ock q.key q.blk q.cap q.data).map OEnt.ent) (putC ovk ock q.key))
 have ac:r≠C.mo:=by omega
 have ad:((lst.map OEnt.ent).map (·.1)).Nodup:=by simpa [List.map_map,Function.comp_def,OEnt.ent] using hM.keys
 have ae:((lst.map OEnt.ent).map (·.2.2)).Nodup:=by simpa [List.map_map,Function.comp_def,OEnt.ent] using hM.borns
 have a2:∀ k,k∈(abD (lst.map OEnt.ent) (seen.push q.born)).map (·.1)↔k∈(abD (lst.map OEnt.ent) seen).map (·.1)/\k≠q.key:=aoZ hq ad ae
 have af:ovOf lst q.key=some q.data:=by
  refine adJ (e:=q) ?_
  cases hf:lst.find? (·.key == q.key) with
  | none=>have:=List.find?_eq_none.1 hf q a3;simp at this
  | some p=>rw [acX hM.keys (aEN hf) a3 (by simpa using List.find?_some hf)]
 refine ⟨c0,c8,_,_,_,ab,a9.blk hr' ac,ho.put a6.len a6.cap a6.blk a0 aa,K.trans a9 (λ i hi e=>e),λ e he=>?_,λ b=>?_⟩
 ·rcases ag1 he with h1|⟨h1,h2,_⟩
  ·exact hR.sub e h1
  ·exact .inr ⟨p,hp,p1.trans h1.symm,p2.trans h2.symm⟩
 ·rw [anX,hR.val b]
  have h2:=a2 b
  by_cases a7:b=q.key
  ·subst a7
   rw [if_pos rfl,if_neg (λ x=>(h2.1 x).2 rfl),af];rfl
  ·rw [if_neg a7]
   by_cases a4:b∈(abD (lst.map OEnt.ent) seen).map (·.1)
   ·rw [if_pos a4,if_pos (h2.2 ⟨a4,a7⟩)]
   ·rw [if_neg a4,if_neg (λ x=>a4 (h2.1 x).1)]
end
end Go.Vk
