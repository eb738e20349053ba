/- Part of the proof: Wc3 Wc4 Px1 Ps2. -/
import Derived.Test.YtjeelghnmkefcaaGreatQ12
import Derived.Test.YtjeelghnmkefcaaGreatQ18
set_option linter.unusedVariables false
set_option maxHeartbeats 16000000
set_option maxRecDepth 100000
namespace Go.Vk
open Go.RowKit Go.Proofs
open Tryz (prog)
def amQ (data:List UInt8) (k:Nat):List UInt8:=(data.drop (k*492)).take 492
def aeP (data:List UInt8):Nat:=(data.length+491) / 492
def appD (D:DM) (L:LM) (data:List UInt8):Nat->DM
 | 0=>D
 | k+1=>layD (appD D L data k) L L.epoch (L.head+k) k (aeP data) (amQ data k)
theorem ao4 (data:List UInt8) (k:Nat):(amQ data k).length=min 492 (data.length - k*492):=by
 unfold amQ;rw [aEM,aET]
theorem AaA.cellG {w w':World} {Gf:Nat->Prop} (k:AaA Gf w w') {a:Addr} {v:Value} (h:w.cell? a=some v) (hG:¬ Gf a.block):w'.cell? a=some v:=by
 have hlt:=World.block_lt_of_cell? w _ h
 rw [← h]
 unfold World.cell?
 rw [k.block a.block hlt hG]
theorem apC (old body:List UInt8):(aBS old body).length=512:=aeY _ _
theorem Is.layD {D:DM} {N:Nat} {life:Int} {g:Nat->List UInt8} (h:Is D N life g) (L:LM) (e pos i c:Nat) (data:List UInt8):∃ s,Is (layD D L e pos i c data) N life (λ j=>if j=L.first+2+pos % L.n then s else g j)/\(Go.Vk.layD D L e pos i c data).writes=D.writes+1:=by
 refine ⟨_,h.readed.wrote _ (apC _ _),?_⟩
 unfold Go.Vk.layD
 rw [af3];rfl
theorem Is.appD {D:DM} {N:Nat} {life:Int} {g:Nat->List UInt8} (h:Is D N life g) (L:LM) (h1:1<=L.n) (data:List UInt8):∀ k,∃ g',Is (appD D L data k) N life g'/\(appD D L data k).writes=D.writes+k/\∀ j,¬ (L.first+2<=j/\j<L.first+2+L.n)->g' j=g j
 | 0=>⟨g,h,rfl,λ _ _=>rfl⟩
 | k+1=>by
  obtain ⟨g',h2,h3,h4⟩:=Is.appD h L h1 data k
  obtain ⟨s,h5,h6⟩:=h2.layD L L.epoch (L.head+k) k (aeP data) (amQ data k)
  refine ⟨_,h5,by show (Go.Vk.layD _ _ _ _ _ _ _).writes=_;rw [h6,h3];omega,λ j hj=>?_⟩
  have:¬ j=L.first+2+(L.head+k) % L.n:=λ e=>hj (by have:=Nat.mod_lt (L.head+k) (show L.n > 0 by omega);omega)
  rw [if_neg this]
  exact h4 j hj
section
variable {w:World} {d l:Nat} {D:DM} {F:List Nat} {L:LM} {N:Nat} {life:Int} {g:Nat->List UInt8}
theorem avQ (hl:Blk w l (logO d L)) (h:AaI w d D F) (a6:l∉F) (hI:Is D N life g) (ad:L.life=life) (hs:L.started=true) (h1:1<=L.n) (hf:L.first+2+L.n<=N) (hN:N<=2048) (hw:D.writes+20<1099511627776)
  (ae:L.epoch<4294967296) (ht:L.tail<=L.head) (hh:L.head+20<=1073741824) (gr cd:Nat) (data:List UInt8) (hd:∀ j (hj:j<data.length),w.cell? ⟨gr,j,none⟩=some (B data[j])) (ab:gr∉F) (au:gr≠l) (af:0<data.length) (ag:data.length<=8364) (ah:data.length<=cd)
  (a1:aeP data+(L.head - L.tail)<=L.n) :
  Calls prog 92 #[↑l,.slice ↑gr data.length cd] w (AhF w d l F 0 (appD D L data (aeP data)) { L with head:=L.head+aeP data }):=by
 have hR:=aqM hl h
 have ai:am3 D L=0:=by
  unfold am3 agB
  rw [if_neg (show ¬ (D.burnt=true∨D.life≠L.life) by rw [hI.burnt,hI.lf,ad];simp)]
  simp [hs]
 rw [ai] at hR
 have a7:=λ m=>azT (w:=w.drewN m) (hl.drewN m) ht (by omega) (by omega)
 obtain ⟨n,hn⟩:∃ n,data.length=n:=⟨_,rfl⟩
 obtain ⟨c,hc⟩:∃ c,aeP data=c:=⟨_,rfl⟩
 have aj:c=(n+491) / 492:=by rw [← hc,← hn];rfl
 have ak:1<=c/\c<=17/\c*492<=n+491/\n<=c*492:=by omega
 rw [hc] at a1 ⊢
 rw [hn] at af ag ah ⊢
 have ac:=hl.lt
 have al:=h.lt
 have am:gr<w.heap.size:=World.block_lt_of_cell? w _ (hd 0 (by omega))
 have hq1:((n:Int)+491) / 492=(c:Int):=by omega
 have hq2:((n:Int)+492 - 1) / 492=(c:Int):=by omega
 have av:(c:Int)<=(L.n:Int) - ((L.head:Int) - (L.tail:Int)):=by omega
 have hA:=hI.appD L h1 data
 have a0:∀ k F' W,k<c->DAt w d F (appD D L data k) F' W->Blk W l (logO d L)->∀ cap,Calls prog 174 #[↑l,anY L.epoch (L.head+k) k c (.slice (some ⟨gr,k*492,none⟩) (min n ((k+1)*492) - k*492) cap)] W λ e w'=>e=U (I 0)/\(∃ F',DAt w d F (appD D L data (k+1)) F' w')/\Blk w' l (logO d L):=by
  intro k F' W hk hD hB cap
  obtain ⟨g',b1,b2,b3⟩:=hA k
  have a4:=ao4 data k
  rw [hn] at a4
  have an:min n ((k+1)*492) - k*492=(amQ data k).length:=by rw [a4];omega
  rw [an]
  have hlF':l∉F':=hD.out_of a6 ac
  have a2:∀ j (hj:j<(amQ data k).length),W.cell? ((⟨gr,k*492,none⟩:Addr).add j)=some (B (amQ data k)[j]):=λ j hj=>by
   rw [show (⟨gr,k*492,none⟩:Addr).add j=⟨gr,k*492+j,none⟩ by unfold Addr.add;split<;>simp_all]
   rw [a4] at hj
   have ao:k*492+j<data.length:=by omega
   have:=hD.keeps.cellG (hd (k*492+j) ao) ab
   rw [this]
   have e:(amQ data k)[j]=data[k*492+j]:=by simp [amQ]
   rw [e]
  refine (aDH hB hD.rep hlF' b1.burnt h1 (by rw [b1.n];exact hf) (by rw [b1.n];exact hN) (by rw [b2];omega) L.epoch (L.head+k) k c ae (by omega) (by omega) (by omega) ⟨gr,k*492,none⟩ cap (amQ data k) a2 (by rw [a4];omega)).mono ?_
  rintro e w' ⟨rfl,F2,h2⟩
  refine ⟨rfl,⟨F2,?_⟩,h2.blk hB hlF'⟩
  have:=hD.trans h2
  rw [← hc] at this
  exact this
 have hfin:∀ F' W,DAt w d F (appD D L data c) F' W->Blk W l (logO d L)->AhF w d l F 0 (appD D L data c) { L with head:=L.head+c } (U (I (0:Nat))) (W.setCell ⟨l,7,none⟩ (I (L.head+c:Nat))):=by
  intro F' W hD hB
  have hlF':l∉F':=hD.out_of a6 ac
  have kk:AaA (· = l) W (W.setCell ⟨l,7,none⟩ (I (L.head+c:Nat))):=(AaA.refl (· = l) W).setCell (p:=⟨l,7,none⟩) (.inl rfl) _
  refine ⟨rfl,F',hD.rep.keeps kk (λ i hi e=>hlF' (e ▸ hi)),hD.sub,?_,(hD.keeps.mono λ _ _ f=>.inl f).step (kk.mono λ _ _ f=>.inr f)⟩
  have:=hB.setCell 7 (I (L.head+c:Nat))
  simpa [logO] using this
 have h0:DAt w d F (appD D L data 0) F w:=DAt.refl h
 generalize hPost:AhF w d l F 0 (appD D L data c) { L with head:=L.head+c }=Post at *
 have c7:=hl.cell 7
 simp at c7
 have aw:∀ k,k<c->0<=(k:Int)*492/\(k:Int)*492<=n:=λ k hk=>by omega
 have ax:∀ k,k<c->IntKind.i64.wrap ((k:Int)*492)=(k:Int)*492:=λ k hk=>by rw [IntKind.wrap_i64];omega
 have ap:=λ m=>h.drewN m
 clear aj
 replace ⟨hl,h,hR,a7,hn,a0,hfin,hq1⟩:=yh8 hl h hR a7 hn a0 hfin hq1;replace hq2:=hid hq2;clear a6 hI hd ab hc hA hPost h0 al ap hf hw
 go_enter Tryz.func92,Tryz.ntmps92
 go_upto_region 5 with (first
  | (go_at_call 142;refine hR.out.mono ?_;rintro e w1 ⟨rfl,m,rfl⟩))
 first|rw [hq1.out]|rw [hq2.out]
 go_upto_region 14 with (first
  | (go_at_call 173;refine (a7.out _).mono ?_;rintro e w2 ⟨rfl,m2,rfl⟩))
 have a8:∀ W,AaA NoF w W->DAt w d F (appD D L data 0) F W:=λ W k=>⟨h.out.keeps k (λ _ _ f=>f),λ _ hk=>.inl hk,k.mono λ _ _ f=>f.elim⟩
 have a9:∀ W,AaA NoF w W->Blk W l (logO d L):=λ W k=>k.blk hl.out (λ f=>f)
 clear c7
 replace ⟨a8,a9⟩:=yh2 a8 a9
 go_wp2
 go_loopw [42] (λ i wr=>∃ k:Nat,k<=c/\i=I k/\Blk wr l (logO d L)/\∃ F',DAt w d F (appD D L data k) F' wr) (λ i _=>c - (intOf i).toNat)
 case atStart=>exact ⟨0,by omega,rfl,a9.out _ ((AaA.refl _ _).drewN _),F,a8.out _ ((AaA.refl _ _).drewN _)⟩
 case round=>
  obtain ⟨k,hk1,rfl,hB,F',hD⟩:=hrel
  have d4:=hB.cell 4
  have d7:=hB.cell 7
  have df:=hB.frz 7
  simp at d4 d7
  by_cases aq:k<c
  ·have ar:(k:Int)<c:=by omega
   have ay:(k:Int)*492<=n:=by omega
   have az:IntKind.i64.wrap ((k:Int)*492)=(k:Int)*492:=by rw [IntKind.wrap_i64];omega
   have aA:IntKind.i64.wrap (((k:Int)+1)*492)=((k:Int)+1)*492:=by rw [IntKind.wrap_i64];omega
   have aB:IntKind.i64.wrap ((L.head:Int)+(k:Int))=(L.head:Int)+(k:Int):=by rw [IntKind.wrap_i64];omega
   have hS:=a0.out k F' wr.drew aq (by
    have kd:AaA NoF wr wr.drew:=(AaA.refl _ _).drew
    exact ⟨hD.rep.keeps kd (λ _ _ f=>f),hD.sub,hD.keeps.step (kd.mono λ _ _ f=>f.elim)⟩) hB.drew
   have a5:(if ((k:Int)+1)*492<(n:Int) then ((k:Int)+1)*492 else (n:Int))=((min n ((k+1)*492):Nat):Int):=by split<;>omega
   generalize min n ((k+1)*492)=mx at a5 hS
   have d4d:wr.drew.cell? ⟨l,4,none⟩=some (I L.epoch):=d4
   have d7d:wr.drew.cell? ⟨l,7,none⟩=some (I L.head):=d7
   have hcast:(L.head:Int)+(k:Int)=((L.head+k:Nat):Int):=by omega
   unfold anY at hS
   rw [← hcast] at hS
   replace ⟨hB,hD,hS,a5,hcast⟩:=yh5 hB hD hS a5 hcast
   go_upto_region 17 with fail
   rw [a5.out,Int.toNat_natCast]
   go_region_held3 (λ W=>W.cell? ⟨l,4,none⟩=some (I L.epoch)/\W.cell? ⟨l,7,none⟩=some (I L.head)) (first|with_reducible exact ⟨d4d,d7d⟩|with_reducible exact ⟨e4,e7⟩) (first
    | (go_at_call 174;refine (hS.out (cd - k*492)).mono ?_;rintro e w3 ⟨rfl,⟨F3,aa⟩,a3⟩;have e4:=a3.cell 4;have e7:=a3.cell 7;simp at e4 e7;replace ⟨aa,a3⟩:=yh2 aa a3))
   rename_i hHeld
   clear hHeld
   go_wp2
   exact ⟨⟨k+1,by omega,by go_num,a3.out,F3,aa.out⟩,by simp [intOf];omega⟩
  ·have ar:¬ (k:Int)<c:=by omega
   obtain rfl:k=c:=by omega
   have hF:=hfin.out F' wr hD hB
   have aC:IntKind.i64.wrap ((L.head:Int)+(k:Int))=(L.head:Int)+(k:Int):=by rw [IntKind.wrap_i64];omega
   have hcast:((L.head+k:Nat):Int)=(L.head:Int)+(k:Int):=by omega
   rw [hcast] at hF
   replace hF:=hid hF;clear hB hD hcast
   go_wp2
   exact hF.out
end
def Ae0 (g:Nat->List UInt8) (L:LM):Prop:=max (aaJ (g L.first)) (aaJ (g (L.first+1)))<=L.epoch*4294967296+L.tail
def ap5 (D:DM) (L:LM):DM:=if L.tail=L.head then D.flushed else (ab0 D.flushed L.first L.epoch L.head).2
def aeE (L:LM):LM:=if L.tail=L.head then L else { L with tail:=L.head }
theorem atZ (a b:UInt8):(agK a b).toNat<3:=by
 unfold agK
 by_cases h0:a.toNat≠0/\b.toNat≠0
 ·rw [if_pos h0];decide
 ·rw [if_neg h0]
  by_cases h1:a.toNat≠1/\b.toNat≠1
  ·rw [if_pos h1];decide
  ·rw [if_neg h1]
   by_cases h2:a.toNat≠2/\b.toNat≠2
   ·rw [if_pos h2];decide
   ·exfalso;omega
theorem ajS (s1 s2:List UInt8) (no:Nat) (h1:1<=no) (h2:no<9223372036854775808):aaJ (afB s1 s2 no)=no:=by
 unfold afB aaJ
 rw [afE _ no (atZ _ _) h1 h2]
theorem Is.trimD {D:DM} {N:Nat} {life:Int} {g:Nat->List UInt8} (h:Is D N life g) (L:LM) (hf:L.first+1<N) (hi:Ae0 g L) (ht:L.tail<=L.head) (he:1<=L.epoch) (a3:L.epoch<2147483648) (hh:L.head<4294967296) :
  ∃ g',Is (ap5 D L) N life g'/\(∀ j,j≠L.first->j≠L.first+1->g' j=g j)/\Ae0 g' (aeE L)/\(Go.Vk.ap5 D L).writes<=D.writes+1:=by
 unfold Go.Vk.ap5 aeE
 by_cases e:L.tail=L.head
 ·rw [if_pos e,if_pos e]
  exact ⟨g,h.flushed,λ _ _ _=>rfl,hi,by rw [acB];omega⟩
 ·rw [if_neg e,if_neg e]
  have hlt:L.tail<L.head:=by omega
  obtain ⟨i1,i2⟩:=Nat.max_le.1 hi
  have hE:∃ E,L.epoch*4294967296=E:=⟨_,rfl⟩
  have hb:1<=L.epoch*4294967296+L.head/\L.epoch*4294967296+L.head<9223372036854775808:=by omega
  obtain ⟨E,hE⟩:=hE
  have a0:=ajS (g L.first) (g (L.first+1)) (L.epoch*4294967296+L.head) hb.1 hb.2
  have a2:¬ L.epoch*4294967296+L.head<=max (aaJ (g L.first)) (aaJ (g (L.first+1))):=by
   rw [hE] at i1 i2 ⊢
   omega
  obtain ⟨D',e1,e2⟩:=h.flushed.anchorM L.first L.epoch L.head hf a2
  have hst:=(h.flushed.wf.anchorM L.first L.epoch L.head).writes
  rw [acB,e1] at hst
  rw [e1]
  have a4:=ah6 (g L.first) (g (L.first+1))
  have a1:∀ s,aaJ s<=L.epoch*4294967296+L.tail->aaJ s<=L.epoch*4294967296+L.head:=λ s hs=>by
   rw [hE] at hs ⊢
   omega
  refine ⟨_,e2,λ j h1 h2=>if_neg (by omega),?_,hst⟩
  show max (aaJ (if L.first=L.first+ac6 (g L.first) (g (L.first+1)) then afB (g L.first) (g (L.first+1)) (L.epoch*4294967296+L.head) else g L.first)) (aaJ (if L.first+1=L.first+ac6 (g L.first) (g (L.first+1)) then afB (g L.first) (g (L.first+1)) (L.epoch*4294967296+L.head) else g (L.first+1)))<=L.epoch*4294967296+L.head
  by_cases hz:ac6 (g L.first) (g (L.first+1))=0
  ·rw [if_pos (by rw [hz];rfl),if_neg (by omega),a0]
   exact Nat.max_le.2 ⟨aEK _,a1 _ i2⟩
  ·rw [if_neg (by omega),if_pos (by omega),a0]
   exact Nat.max_le.2 ⟨a1 _ i1,aEK _⟩
section
variable {w:World} {d l:Nat} {D:DM} {F:List Nat} {L:LM} {N:Nat} {life:Int} {g:Nat->List UInt8}
theorem Is.ready (hI:Is D N life g) (a0:L.life=life) (hs:L.started=true):am3 D L=0:=by
 unfold am3 agB
 rw [if_neg (show ¬ (D.burnt=true∨D.life≠L.life) by rw [hI.burnt,hI.lf,a0];simp)]
 simp [hs]
theorem aBL (hl:Blk w l (logO d L)) (h:AaI w d D F) (hI:Is D N life g) (a1:L.life=life) (hs:L.started=true) (hn:L.n<=2048) (ht:L.tail<=L.head) (hh:L.head<=4294967295) :
  Calls prog 91 #[↑l] w λ e w'=>e=U (.tuple #[I ((L.n:Int) - ((L.head:Int) - (L.tail:Int))),I 0])/\∃ m,w'=w.drewN m:=by
 have hR:=aqM hl h
 rw [hI.ready a1 hs] at hR
 have a0:=λ m=>azT (w:=w.drewN m) (hl.drewN m) ht hh hn
 replace ⟨hR,a0⟩:=yh2 hR a0;clear hl h hI
 go_enter Tryz.func91,Tryz.ntmps91
 go_wp2_with (first
  | (go_at_call 142;refine hR.out.mono ?_;rintro e w1 ⟨rfl,m,rfl⟩)
  | (go_at_call 173;refine (a0.out _).mono ?_;rintro e w2 ⟨rfl,m2,rfl⟩))
 go_ret2
 exact ⟨rfl,_,rfl⟩
theorem avJ (hl:Blk w l (logO d L)) (h:AaI w d D F) (hI:Is D N life g) (a1:L.life=life) (hs:L.started=true) :
  Calls prog 70 #[↑l] w λ e w'=>e=U (I 0)/\∃ F',DAt w d F D.flushed F' w':=by
 have hR:=aqM hl h
 rw [hI.ready a1 hs] at hR
 have c0:=hl.cell 0
 simp at c0
 have a0:∀ m,Calls prog 143 #[↑d] (w.drewN m) λ e w'=>e=U (I 0)/\∃ F',DAt w d F D.flushed F' w':=λ m=>by
  refine (ajK (h.drewN m) hI.burnt).mono ?_
  rintro e w' ⟨rfl,F',y1,y2,y3⟩
  exact ⟨rfl,F',y1,y3,((AaA.refl (· ∈ F) w).drewN m).step y2⟩
 replace ⟨hR,a0⟩:=yh2 hR a0;clear hl h hI
 go_enter Tryz.func70,Tryz.ntmps70
 go_wp2_with (first
  | (go_at_call 142;refine hR.out.mono ?_;rintro e w1 ⟨rfl,m,rfl⟩)
  | (go_at_call 143;refine (a0.out _).mono ?_;rintro e w2 ⟨rfl,hF⟩;replace hF:=hid hF))
 go_ret
 exact ⟨rfl,hF.out⟩
theorem aBK (hl:Blk w l (logO d L)) (h:AaI w d D F) (a4:l∉F) (hI:Is D N life g) (a8:L.life=life) (hs:L.started=true) (hf:L.first+1<N) (hN:N<=2048) (hw:D.writes<1099511627776) (hi:Ae0 g L) (ht:L.tail<=L.head) (he:1<=L.epoch) (a9:L.epoch<2147483648) (hh:L.head<4294967296) :
  Calls prog 158 #[↑l] w (AhF w d l F 0 (ap5 D L) (aeE L)):=by
 have hS:=avJ hl h hI a8 hs
 have aa:=hl.lt
 have hA:∀ F' W,DAt w d F D.flushed F' W->Blk W l (logO d L)->¬ L.tail=L.head->Calls prog 223 #[↑l,I L.epoch,I L.head] W λ e w'=>e=U (I 0)/\(w'.cell? ⟨l,4,none⟩=some (I L.epoch)/\w'.cell? ⟨l,7,none⟩=some (I L.head))/\AhF w d l F 0 (ap5 D L) (aeE L) (U (I 0)) w':=by
  intro F' W hD hB a6
  obtain ⟨D',e1,e2⟩:=hI.flushed.anchorM L.first L.epoch L.head hf (by unfold Ae0 at hi;omega)
  have a7:D.flushed.n=N:=hI.flushed.n
  have:=aoB hB hD.rep (hD.out_of a4 aa) (by rw [a7];exact hf) (by rw [a7];exact hN) (by rw [acB];exact hw) L.epoch L.head he a9 hh
  rw [e1,if_pos rfl] at this
  refine this.mono ?_
  rintro e w' ⟨rfl,F2,y1,y2,y3,y4⟩
  refine ⟨rfl,⟨by have:=y3.cell 4;simpa using this,by have:=y3.cell 7;simpa using this⟩,rfl,F2,?_,λ k hk=>(y2 k hk).elim (λ x=>hD.sub k x) (λ x=>.inr (by have:=hD.keeps.size;omega)),?_,?_⟩
  ·unfold ap5
   rw [if_neg a6,e1]
   exact y1
  ·unfold aeE
   rw [if_neg a6]
   exact y3
  ·exact (hD.keeps.mono λ _ _ f=>.inl f).trans y4 (λ i hi' f=>f.elim (λ x=>(hD.sub i x).elim .inl (λ z=>by omega)) .inr)
 have hE:∀ F' W,DAt w d F D.flushed F' W->Blk W l (logO d L)->L.tail=L.head->AhF w d l F 0 (ap5 D L) (aeE L) (U (I 0)) W:=by
  intro F' W hD hB he
  unfold ap5 aeE
  rw [if_pos he,if_pos he]
  exact ⟨rfl,F',hD.rep,hD.sub,hB,hD.keeps.mono λ _ _ f=>.inl f⟩
 have a1:∀ F' W k,DAt w d F D.flushed F' W->DAt w d F D.flushed F' (W.drewN k):=λ F' W k hD=>by
  have kd:AaA NoF W (W.drewN k):=(AaA.refl _ _).drewN k
  exact ⟨hD.rep.keeps kd (λ _ _ f=>f),hD.sub,hD.keeps.step (kd.mono λ _ _ f=>f.elim)⟩
 generalize AhF w d l F 0 (ap5 D L) (aeE L)=Post at *
 have a0:∀ F' W,DAt w d F D.flushed F' W->Blk W l (logO d L):=λ F' W hD=>hD.blk hl a4
 have a2:∀ F' W,DAt w d F D.flushed F' W->W.cell? ⟨l,4,none⟩=some (I L.epoch)/\W.cell? ⟨l,6,none⟩=some (I L.tail)/\W.cell? ⟨l,7,none⟩=some (I L.head):=λ F' W hD=>by
  have hB:=a0 F' W hD
  have q4:=hB.cell 4
  have q6:=hB.cell 6
  have q7:=hB.cell 7
  simp at q4 q6 q7
  exact ⟨q4,q6,q7⟩
 by_cases a3:L.tail=L.head
 ·have ab:(L.tail:Int)=L.head:=by omega
  replace ⟨hl,h,a4,hI,hi,hS,hA,hE⟩:=yh8 hl h a4 hI hi hS hA hE;replace ⟨a1,a0,a2,a3,ht⟩:=yh5 a1 a0 a2 a3 ht
  go_enter Tryz.func158,Tryz.ntmps158
  go_upto_region 2 with (go_at_call 70;refine hS.out.mono ?_;rintro e w2 ⟨rfl,F',hD⟩;obtain ⟨q4,q6,q7⟩:=a2.out _ _ hD;replace hD:=hid hD)
  go_quiet (fail)
  go_wp2
  exact (hE.out F' _ (a1.out _ _ _ hD.out) (a0.out _ _ (a1.out _ _ _ hD.out)) a3.out)
 ·have ab:¬ (L.tail:Int)=L.head:=by omega
  replace ⟨hS,hA,a1,a0,a2,a3⟩:=yh6 hS hA a1 a0 a2 a3;clear hl h a4 hI hi hE ht
  go_enter Tryz.func158,Tryz.ntmps158
  go_upto_region 2 with (go_at_call 70;refine hS.out.mono ?_;rintro e w2 ⟨rfl,F',hD⟩;obtain ⟨q4,q6,q7⟩:=a2.out _ _ hD;replace hD:=hid hD)
  go_quiet (fail)
  have hD2:=a1.out _ _ nq hD.out
  have a5:=a1.out _ _ 1 hD2
  obtain ⟨q4,q6,q7⟩:=a2.out _ _ hD2
  have hAn:=hA.out F' (w2.drewN nq).drew a5 (a0.out _ _ a5) a3.out
  have q4d:(w2.drewN nq).drew.cell? ⟨l,4,none⟩=some (I L.epoch):=q4
  have q7d:(w2.drewN nq).drew.cell? ⟨l,7,none⟩=some (I L.head):=q7
  replace hAn:=hid hAn;clear hD2 a5
  go_upto_region 4 with fail
  go_region_held3 (λ W=>W.cell? ⟨l,4,none⟩=some (I L.epoch)/\W.cell? ⟨l,7,none⟩=some (I L.head)) (first|with_reducible exact ⟨q4d,q7d⟩|with_reducible exact ac) (first
   | (go_at_call 223;refine hAn.out.mono ?_;rintro e w3 ⟨rfl,ac,hF⟩;replace hF:=hid hF))
  rename_i hHeld
  clear hHeld
  go_wp2
  exact hF.out
end
end Go.Vk
namespace Go.Vk
structure TS where
 raw:Nat->List UInt8
 put:List Nat
 sp:Nat
 old:Nat->List UInt8
 lm:LM
 wr:Nat
 dd:Bool
 tk:Nat
def TS.st (T:TS):Nat:=if T.dd then 3 else T.sp
theorem TS.st_zero {T:TS} (h:T.st=0):T.dd=false/\T.sp=0:=by
 unfold TS.st at h
 cases hd:T.dd with
 | true=>rw [hd,if_pos rfl] at h;cases h
 | false=>rw [hd] at h;exact ⟨rfl,h⟩
def TS.lay (T:TS) (b:Nat) (data:List UInt8):TS:={ T with raw:=λ k=>if k=b then data else T.raw k }
def TS.puts (T:TS) (b:Nat) (data:List UInt8):Nat × TS:=
 if T.raw b=data then (0,T) else if b∈T.put then (0,T.lay b data) else if T.put.length=16 then (50,{ T with sp:=50 }) else (0,{ T.lay b data with put:=T.put++[b] })
def TS.takeX (T:TS) (blk lo top first no:Nat):(Nat × Nat) × TS:=
 match abA (T.raw blk) lo top with
 | some i=>((if (T.puts blk (ab2 (T.raw blk) i)).1=0 then i+first else 0,(T.puts blk (ab2 (T.raw blk) i)).1),(T.puts blk (ab2 (T.raw blk) i)).2)
 | none=>((0,no),{ T with sp:=no })
def TS.dropX (T:TS) (blk i:Nat):Nat × TS:=if abP (T.raw blk) i=true then T.puts blk (ab2 (T.raw blk) i) else (62,T)
def TS.clearX (T:TS) (data:Nat):Nat × TS:=if (T.puts 0 (abC data)).1=0 then (T.puts 0 (abC data)).2.puts 1 (aaD 512) else T.puts 0 (abC data)
def TS.Like (T T':TS):Prop:=T'.lm=T.lm/\T'.wr=T.wr/\T'.old=T.old/\T'.dd=T.dd/\T'.tk=T.tk
theorem TS.Like.refl (T:TS):T.Like T:=⟨rfl,rfl,rfl,rfl,rfl⟩
theorem TS.Like.trans {T T' T2:TS} (h:T.Like T') (k:T'.Like T2):T.Like T2:=⟨k.1.trans h.1,k.2.1.trans h.2.1,k.2.2.1.trans h.2.2.1,k.2.2.2.1.trans h.2.2.2.1,k.2.2.2.2.trans h.2.2.2.2⟩
theorem TS.puts_like (T:TS) (b:Nat) (data:List UInt8):T.Like (T.puts b data).2:=by
 unfold TS.puts
 split
 ·exact .refl T
 ·split
  ·exact ⟨rfl,rfl,rfl,rfl,rfl⟩
  ·split<;>exact ⟨rfl,rfl,rfl,rfl,rfl⟩
theorem TS.takeX_like (T:TS) (blk lo top first no:Nat):T.Like (T.takeX blk lo top first no).2:=by
 unfold TS.takeX
 split
 ·exact T.puts_like _ _
 ·exact ⟨rfl,rfl,rfl,rfl,rfl⟩
theorem TS.dropX_like (T:TS) (blk i:Nat):T.Like (T.dropX blk i).2:=by
 unfold TS.dropX
 split
 ·exact T.puts_like _ _
 ·exact .refl T
theorem TS.clearX_like (T:TS) (data:Nat):T.Like (T.clearX data).2:=by
 unfold TS.clearX
 split
 ·exact (T.puts_like _ _).trans (TS.puts_like _ _ _)
 ·exact T.puts_like _ _
def Calm (G:Geom) (L:LM) (wr:Nat) (D:DM):Prop:=(∃ N g,Is D N G.life g/\Ae0 g L/\G.home+G.blocks<=N/\N<=2048)/\D.writes<=wr
theorem Calm.readed {G:Geom} {L:LM} {wr:Nat} {D:DM} (h:Calm G L wr D):Calm G L wr D.readed:=by
 obtain ⟨⟨N,g,h1,h2⟩,h3⟩:=h
 exact ⟨⟨N,g,h1.readed,h2⟩,h3⟩
theorem Calm.got {G:Geom} {L:LM} {wr:Nat} {D:DM} (h:Calm G L wr D) (ov own:Nat->Option (List UInt8)) (b:Nat):Calm G L wr (ajJ D ov own b):=by
 unfold ajJ cmtD
 split
 ·exact h
 ·split
  ·exact h
  ·exact h.readed
def Dsk (G:Geom) (T:TS) (D:DM):Prop:=(T.dd=false->Calm G T.lm T.wr D)/\(T.dd=true->∃ k:Nat,1<=k/\k<=T.tk/\D.life=Go.RowKit.wrap64 (G.life+k))
theorem Dsk.got {G:Geom} {T:TS} {D:DM} (h:Dsk G T D) (ov own:Nat->Option (List UInt8)) (b:Nat):Dsk G T (ajJ D ov own b):=
 ⟨λ e=>(h.1 e).got ov own b,λ e=>by rw [aiC];exact h.2 e⟩
structure PX (C:TxC) (M:TxM) (T:TS):Prop where
 g:∀ b,b<C.G.blocks->M.get C b=T.raw b
 own:∀ b,M.own b=none↔b∉T.put
 cnt:M.cnt=T.put.length
 nd:T.put.Nodup
 le:T.put.length<=16
 live:afD M.D C.G.life=T.dd
 sp:M.sp=T.sp
 o:∀ b,b<C.G.blocks->cmtB M.D (ovOf C.ov) C.G.home b=T.old b
 dk:Dsk C.G T M.D
theorem awG (C:TxC) (M:TxM) (b k:Nat):cmtB (M.read C b).D (ovOf C.ov) C.G.home k=cmtB M.D (ovOf C.ov) C.G.home k:=by
 unfold TxM.read ajJ cmtD
 dsimp only
 split
 ·rfl
 ·split<;>rfl
section
variable {C:TxC} {M:TxM} {T:TS}
theorem PX.read (h:PX C M T) (b:Nat):PX C (M.read C b) T:=
 ⟨λ k hk=>by rw [TxM.get_read];exact h.g k hk,h.own,h.cnt,h.nd,h.le,by rw [akJ];exact h.live,h.sp,λ k hk=>by rw [awG];exact h.o k hk,h.dk.got _ _ _⟩
theorem PX.spoil (h:PX C M T) (s:Nat):PX C { M with sp:=s } { T with sp:=s }:=⟨h.g,h.own,h.cnt,h.nd,h.le,h.live,rfl,h.o,h.dk⟩
theorem PX.stsp (h:PX C M T):aaT M.D C.G.life M.sp false=T.st:=by
 unfold aaT TS.st;rw [h.live,h.sp];rfl
theorem PX.st (h:PX C M T) (h0:T.st=0):aaT M.D C.G.life M.sp false=0:=h.stsp.trans h0
theorem PX.puts (h:PX C M T) {b:Nat} (hb:b<C.G.blocks) (data:List UInt8):(M.put C b data).1=(T.puts b data).1/\PX C (M.put C b data).2 (T.puts b data).2:=by
 unfold TxM.put TS.puts
 rw [h.g b hb]
 by_cases hq:T.raw b=data
 ·rw [if_pos hq,if_pos hq]
  exact ⟨rfl,h.read b⟩
 ·rw [if_neg hq,if_neg hq]
  by_cases hm:b∈T.put
  ·have a0:¬ (M.own b=none/\16<=M.cnt):=λ x=>(h.own b).1 x.1 hm
   rw [if_neg a0,if_pos hm]
   have a1:(M.own b).isSome=true:=by
    cases ho:M.own b with
    | none=>exact absurd hm ((h.own b).1 ho)
    | some x=>rfl
   refine ⟨rfl,⟨λ k hk=>?_,λ k=>?_,?_,h.nd,h.le,(akJ C M b).trans h.live,h.sp,(h.read b).o,(h.read b).dk⟩⟩
   ·rw [TxM.get_putC,TxM.get_read]
    show _=if k=b then data else T.raw k
    rw [h.g k hk]
   ·have:((M.read C b).putC b data).own k=if k=b then some data else M.own k:=rfl
    rw [this]
    by_cases e:k=b
    ·subst e;rw [if_pos rfl];exact ⟨λ x=>(by cases x),λ x=>absurd hm x⟩
    ·rw [if_neg e];exact h.own k
   ·have:((M.read C b).putC b data).cnt=if (M.own b).isSome then M.cnt else M.cnt+1:=rfl
    rw [this,if_pos a1];exact h.cnt
  ·rw [if_neg hm]
   by_cases hl:T.put.length=16
   ·have a0:M.own b=none/\16<=M.cnt:=⟨(h.own b).2 hm,by rw [h.cnt];omega⟩
    rw [if_pos a0,if_pos hl]
    exact ⟨rfl,(h.read b).spoil 50⟩
   ·have a3:=h.le
    have a0:¬ (M.own b=none/\16<=M.cnt):=λ x=>by have:=x.2;rw [h.cnt] at this;omega
    rw [if_neg a0,if_neg hl]
    have a2:=(h.own b).2 hm
    refine ⟨rfl,⟨λ k hk=>?_,λ k=>?_,?_,?_,?_,(akJ C M b).trans h.live,h.sp,(h.read b).o,(h.read b).dk⟩⟩
    ·rw [TxM.get_putC,TxM.get_read]
     show _=if k=b then data else T.raw k
     rw [h.g k hk]
    ·have:((M.read C b).putC b data).own k=if k=b then some data else M.own k:=rfl
     rw [this]
     show _↔k∉T.put++[b]
     by_cases e:k=b
     ·subst e;rw [if_pos rfl];exact ⟨λ x=>(by cases x),λ x=>absurd (List.mem_append_right _ (List.mem_singleton.2 rfl)) x⟩
     ·rw [if_neg e,h.own k,List.mem_append,List.mem_singleton]
      exact ⟨λ x y=>y.elim x e,λ x y=>x (.inl y)⟩
    ·have:((M.read C b).putC b data).cnt=if (M.own b).isSome then M.cnt else M.cnt+1:=rfl
     rw [this,a2]
     show _=(T.put++[b]).length
     rw [aEH,h.cnt];rfl
    ·show (T.put++[b]).Nodup
     rw [List.nodup_append]
     refine ⟨h.nd,by simp,λ x hx y hy e=>?_⟩
     rw [List.mem_singleton] at hy
     subst hy e
     exact hm hx
    ·show (T.put++[b]).length<=16
     rw [aEH,List.length_singleton];omega
theorem PX.take (h:PX C M T) {blk:Nat} (hb:blk<C.G.blocks) (lo top first no:Nat):(M.take C blk lo top first no).1=(T.takeX blk lo top first no).1/\PX C (M.take C blk lo top first no).2 (T.takeX blk lo top first no).2:=by
 unfold TxM.take TxM.takeR TS.takeX
 rw [h.g blk hb]
 cases hf:abA (T.raw blk) lo top with
 | some i=>
  obtain ⟨a1,a2⟩:=(h.read blk).puts hb (ab2 (T.raw blk) i)
  dsimp only
  rw [a1]
  exact ⟨rfl,a2⟩
 | none=>exact ⟨rfl,(h.read blk).spoil no⟩
theorem PX.drop (h:PX C M T) {blk:Nat} (hb:blk<C.G.blocks) (i:Nat):(M.drop C blk i).1=(T.dropX blk i).1/\PX C (M.drop C blk i).2 (T.dropX blk i).2:=by
 unfold TxM.drop TxM.dropR TS.dropX
 rw [h.g blk hb]
 by_cases a0:abP (T.raw blk) i=true
 ·rw [if_pos a0,if_pos a0]
  exact (h.read blk).puts hb _
 ·rw [if_neg a0,if_neg a0]
  exact ⟨rfl,h.read blk⟩
theorem PX.clear (h:PX C M T) (hb:1<C.G.blocks):(M.clear C).1=(T.clearX (2+C.G.n / 4)).1/\PX C (M.clear C).2 (T.clearX (2+C.G.n / 4)).2:=by
 obtain ⟨a1,a2⟩:=h.puts (b:=0) (by omega) (abC (2+C.G.n / 4))
 unfold TxM.clear TS.clearX
 rw [a1]
 by_cases hq:(T.puts 0 (abC (2+C.G.n / 4))).1=0
 ·rw [if_pos hq,if_pos hq]
  exact a2.puts hb (aaD 512)
 ·rw [if_neg hq,if_neg hq]
  exact ⟨a1,a2⟩
end
end Go.Vk
namespace Go.Vk
open Go.RowKit Go.Proofs
open Tryz (prog)
def KF (C:TxC) (i:Nat):Prop:=i∈C.F∨i=C.t∨i=C.mx
structure AtR (G:Geom):Prop where
 b1:2+G.n / 4<G.blocks
 b2:G.blocks<=2048
 n1:4<=G.n
 n2:G.n<=1024
section
variable {w w':World} {C:TxC} {bs ns:List UInt8} {sp:Nat} {X:Nat->Prop} {p:Nat}
def noE (nd:Bool):Nat:=if nd then 61 else 60
end
end Go.Vk
