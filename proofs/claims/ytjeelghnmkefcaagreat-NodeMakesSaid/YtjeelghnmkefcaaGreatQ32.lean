/- Part of the proof: Lw4 Px4a Tx6 Sh1 Nm1 Hm1. -/
import Derived.Test.YtjeelghnmkefcaaGreatQ14
import Derived.Test.YtjeelghnmkefcaaGreatQ18
import Derived.Test.YtjeelghnmkefcaaGreatQ19
import Derived.Test.YtjeelghnmkefcaaGreatQ21
import Derived.Test.YtjeelghnmkefcaaGreatQ22
import Derived.Test.YtjeelghnmkefcaaGreatQ24
import Derived.Test.YtjeelghnmkefcaaGreatQ31
import Derived.Shelf.Sort.Plain
import Derived.Shelf.Slices.In.SortNone
import Derived.Sort.OwnSortedInts
set_option linter.unusedVariables false
set_option maxHeartbeats 16000000
set_option maxRecDepth 100000
namespace Go.Vk
open Go.RowKit Go.Proofs
open Tryz (prog)
def newL (l:Nat) (life:Int):LM:=⟨1,l,life,2,1,0,0,true⟩
theorem ayB {s l n:Nat} (hp:AbY s l n) (h2:s<=2048):∃ g,Is (newD s l n) s (wrap64 ((fmtD s l n).life+1)) g/\Ae0 g (newL l (wrap64 ((fmtD s l n).life+1)))/\(newD s l n).writes<=10000:=by
 obtain ⟨life,e,hI⟩:=apI hp h2
 have hp':=hp
 unfold AbY at hp'
 have hO:Is (afS (fmtD s l n) l) s (wrap64 (life+1)) (fmtG s l n):=((hI.readed.took.readed.readed).readedN l).flushed
 have g1:fmtG s l n 1=abW:=rfl
 have g2:fmtG s l n 2=aaD 512:=akK (aEK _)
 have ha:aaJ abW=4294967296:=by
  have:adG abW=some (4294967296,[]):=afE 1 4294967296 (by decide) (by decide) (by decide)
  unfold aaJ;rw [this]
 obtain ⟨D',e2,h3⟩:=hO.anchorM 1 2 0 (by omega) (by rw [g1,g2,adH,ha];decide)
 have ed:newD s l n=D':=by unfold newD;rw [e2]
 have hw:D'.writes<=10000:=by
  have hst:=(hO.wf.anchorM 1 2 0).writes
  rw [e2] at hst
  have hs:=ahR (Is.new s (by omega) h2).took.wf s l n
  have hw:=hs.writes
  have hn:(DM.new s).took.n=s:=(Is.new s (by omega) h2).took.n
  rw [hn] at hw
  have h0:(DM.new s).took.writes=0:=rfl
  rw [h0] at hw
  have h4:(afS (fmtD s l n) l).writes=(fmtD s l n).writes:=by
   unfold afS
   rw [acB,ad0];rfl
  rw [h4] at hst
  have h5:(fmtD s l n).writes=(ad2 (ad5 s l n) (DM.new s).took).2.writes:=rfl
  rw [← h5] at hw
  replace hst:D'.writes<=(fmtD s l n).writes+1:=hst
  omega
 rw [ed]
 have a3:(fmtD s l n).life=life:=hI.lf
 refine ⟨_,by rw [a3];exact h3,?_,hw⟩
 have a0:=ajS (fmtG s l n 1) (fmtG s l n (1+1)) (2*4294967296+0) (by decide) (by decide)
 have hr:=ah6 (fmtG s l n 1) (fmtG s l n (1+1))
 have a1:aaJ (fmtG s l n 1)<=2*4294967296+0:=by rw [g1,ha];decide
 have a2:aaJ (fmtG s l n (1+1))<=2*4294967296+0:=by
  show aaJ (fmtG s l n 2)<=_
  rw [g2,adH];decide
 show max (aaJ (if 1=1+ac6 (fmtG s l n 1) (fmtG s l n (1+1)) then afB (fmtG s l n 1) (fmtG s l n (1+1)) (2*4294967296+0) else fmtG s l n 1)) (aaJ (if 1+1=1+ac6 (fmtG s l n 1) (fmtG s l n (1+1)) then afB (fmtG s l n 1) (fmtG s l n (1+1)) (2*4294967296+0) else fmtG s l n (1+1)))<=2*4294967296+0
 by_cases hz:ac6 (fmtG s l n 1) (fmtG s l n (1+1))=0
 ·rw [if_pos (by rw [hz]),if_neg (by omega),a0]
  exact Nat.max_le.2 ⟨aEK _,a2⟩
 ·rw [if_neg (by omega),if_pos (by omega),a0]
  exact Nat.max_le.2 ⟨a1,aEK _⟩
structure LOk (G:Geom) (L:LM):Prop where
 li:L.life=G.life
 st:L.started=true
 Lf:L.first=1
 Ln:L.n=G.lg
 lg:18<=G.lg/\G.lg<=256
 th:L.tail<=L.head/\L.head - L.tail<=L.n
 ep:1<=L.epoch/\L.epoch<2147483648
section
variable {w:World} {C:TxC} {D:DM} {own:List OEnt} {xc sp:Nat} {X:Nat->Prop}
def endW (w:World) (t sb mx xc:Nat):World:=((w.setCell ⟨t,3,none⟩ ↑true).setCell ⟨sb,9,none⟩ ↑false).setBlk mx (mapO [] xc)
theorem azV (w:World) (t sb mx xc:Nat):AaA (λ i=>i=t∨i=sb∨i=mx) w (endW w t sb mx xc):=
 ((((AaA.refl (λ i=>i=t∨i=sb∨i=mx) w).setCell (p:=⟨t,3,none⟩) (.inl (.inl rfl)) ↑true).setCell (p:=⟨sb,9,none⟩) (.inl (.inr (.inl rfl))) ↑false)).step ((abM _ mx (mapO [] xc)).mono λ _ _ e=>.inr (.inr e))
theorem aCR (h:TxAt w C D own xc sp false X):Calls prog 89 #[↑C.t] w λ e w'=>e=U (.tuple #[])/\w'=endW w C.t C.sb C.mx xc:=by
 have ht:=h.ht
 have hs:=h.hs
 have hm:=h.hx.hm
 have mt:C.mx≠C.t:=λ e=>h.tX (by simp [aaH,e])
 have ms:C.mx≠C.sb:=λ e=>h.sX (by simp [aaH,e])
 have b1:Blk (w.setCell ⟨C.t,3,none⟩ ↑true) C.t (txO C.sb C.mx sp true):=by simpa [txO] using ht.setCell 3 ↑true
 have s1:=hs.setCell_ne (p:=⟨C.t,3,none⟩) (λ e=>h.ts e.symm) ↑true
 have b2:=b1.setCell_ne (p:=⟨C.sb,9,none⟩) h.ts ↑false
 have m2:=(hm.setCell_ne (p:=⟨C.t,3,none⟩) mt ↑true).setCell_ne (p:=⟨C.sb,9,none⟩) ms ↑false
 have a2:=λ ty=>ajB ahE m2 ty
 have c0:=b1.cell 0
 have c1:=b2.cell 1
 have f3:=ht.frz 3
 have f9:=s1.frz 9
 have a0:=ht.cell 0
 have a1:=ht.cell 1
 have a3:=ht.cell 3
 have a9:=hs.cell 9
 have f9':=hs.frz 9
 simp at c0 c1 a0 a1 a3 a9
 clear b1 b2 m2
 clear h ht hs hm mt ms s1
 go_enter Tryz.func89,Tryz.ntmps89
 go_wp2
 go_end0
 exact ⟨rfl,rfl⟩
theorem axH (h:TxAt w C D own xc sp false X) (hl:afD D C.G.life=false):Calls prog 38 #[↑C.t] w λ e w'=>e=U (I 0)/\TxAt w' { C with op:=false } D [] xc sp true X/\AaA (λ i=>i=C.t∨i=C.sb∨i=C.mx) w w':=by
 have a1:=ar1 h.hs h.hd
 rw [hl] at a1
 have mt:C.mx≠C.t:=λ e=>h.tX (by simp [aaH,e])
 have ms:C.mx≠C.sb:=λ e=>h.sX (by simp [aaH,e])
 have mF:C.mx∉C.F:=h.xF C.mx (by simp [aaH])
 have mO:C.mx∉aaH C.mo C.ov:=h.xO C.mx (by simp [aaH])
 have hE:∀ n,Calls prog 89 #[↑C.t] (w.drewN n) λ e w'=>e=U (.tuple #[])/\TxAt w' { C with op:=false } D [] xc sp true X/\AaA (λ i=>i=C.t∨i=C.sb∨i=C.mx) w w':=λ n=>by
  have hn:=h.quiet ((AaA.refl NoF w).drewN n) (λ _ f=>f.elim) (λ i hi=>(h.xX i hi).2.2.1)
  refine (aCR hn).mono ?_
  rintro e w' ⟨rfl,rfl⟩
  have hk:=azV (w.drewN n) C.t C.sb C.mx xc
  refine ⟨rfl,?_,(((AaA.refl NoF w).drewN n).mono λ _ _ f=>f.elim).step hk⟩
  have e1:Blk (endW (w.drewN n) C.t C.sb C.mx xc) C.t (txO C.sb C.mx sp true):=by
   have:=((hn.ht.setCell 3 ↑true).setCell_ne (p:=⟨C.sb,9,none⟩) h.ts ↑false)
   exact (abM _ C.mx (mapO [] xc)).blk (by simpa [txO] using this) (λ e=>mt e.symm)
  have e2:Blk (endW (w.drewN n) C.t C.sb C.mx xc) C.sb (acQ C.d C.l C.mo C.G.s C.G.lg C.G.n C.G.life false):=by
   have:=(hn.hs.setCell_ne (p:=⟨C.t,3,none⟩) (λ e=>h.ts e.symm) ↑true).setCell 9 ↑false
   exact (abM _ C.mx (mapO [] xc)).blk (by simpa [acQ] using this) (λ e=>ms e.symm)
  have e3:Blk (endW (w.drewN n) C.t C.sb C.mx xc) C.mx (mapO ([].map OEnt.ent) xc):=by
   have:=((hn.hx.hm.setCell_ne (p:=⟨C.t,3,none⟩) mt ↑true).setCell_ne (p:=⟨C.sb,9,none⟩) ms ↑false)
   exact this.setBlk (mapO [] xc)
  have a0:∀ k∈aaH C.mx [],k=C.mx:=λ k hk=>by simpa [aaH] using hk
  exact
   {ht:=e1
    hs:=e2
    hd:=hn.hd.keeps hk (λ i hi e=>by
     rcases e with rfl|rfl|rfl
     ·exact h.tF hi
     ·exact h.sF hi
     ·exact mF hi)
    ho:=hn.ho.keeps hk (λ i hi e=>by
     rcases e with rfl|rfl|rfl
     ·exact h.tO hi
     ·exact h.sO hi
     ·exact mO hi)
    hx:=⟨e3,(λ _ he=>by cases he),List.nodup_nil,List.nodup_nil,(λ _ he=>by cases he)⟩
    tF:=h.tF
    sF:=h.sF
    oF:=h.oF
    xF:=λ k hk=>by rw [a0 k hk];exact mF
    ts:=h.ts
    tO:=h.tO
    tX:=λ hk=>mt (a0 _ hk).symm
    sO:=h.sO
    sX:=λ hk=>ms (a0 _ hk).symm
    xO:=λ k hk=>by rw [a0 k hk];exact mO
    mb:=λ e he=>by cases he
    kb:=λ e he=>by cases he
    gn:=h.gn
    n2:=h.n2
    xX:=λ k hk=>by
     obtain ⟨x1,x2,x3,x4,x5⟩:=h.xX k hk
     exact ⟨x1,x2,x3,x4,λ hm=>x5 (by rw [a0 k hm];simp [aaH])⟩ }
 have c0:=h.ht.cell 0
 have c3:=h.ht.cell 3
 simp at c0 c3
 replace ⟨a1,hE⟩:=yh2 a1 hE;clear h hl mt ms mF mO
 go_enter Tryz.func38,Tryz.ntmps38
 go_wp2_with (first
  | (go_at_call 69;refine a1.out.mono ?_;rintro e w' ⟨rfl,m,rfl⟩;have hEm:=hE.out m;replace hEm:=hid hEm)
  | (go_at_call 89;refine hEm.out.mono ?_;rintro e w' ⟨rfl,x1,x2⟩;replace ⟨x1,x2⟩:=yh2 x1 x2))
 go_ret
 exact ⟨rfl,x1.out,x2.out⟩
end
end Go.Vk
namespace Go.Proofs
open Go.Shelf
def Vk.lays189_ren:Go.Shelf.Ren:=⟨fun|189=>144|125=>208|257=>207|128=>241|129=>242|294=>232|295=>233|296=>234|297=>235|298=>236|299=>237|216=>238|300=>239|301=>240|328=>253|329=>254|330=>255|331=>256|332=>257|215=>258|343=>261|n=>n,fun|28=>48|3=>3|46=>206|0=>0|51=>259|53=>261|4=>4|183=>252|182=>251|131=>256|5=>5|9=>9|218=>282|222=>286|228=>290|229=>108|n=>n,fun|n=>n⟩
theorem Vk.lays189:Go.Proofs.Lays.n189 Tryz.prog Vk.lays189_ren:={
 mixed:=by kernel_rfl
 f125:=Tryz.func208.trans (congrArg some (by kernel_rfl))
 f128:=Tryz.func241.trans (congrArg some (by kernel_rfl))
 f129:=Tryz.func242.trans (congrArg some (by kernel_rfl))
 f189:=Tryz.func144.trans (congrArg some (by kernel_rfl))
 f215:=Tryz.func258.trans (congrArg some (by kernel_rfl))
 f216:=Tryz.func238.trans (congrArg some (by kernel_rfl))
 f257:=Tryz.func207.trans (congrArg some (by kernel_rfl))
 f294:=Tryz.func232.trans (congrArg some (by kernel_rfl))
 f295:=Tryz.func233.trans (congrArg some (by kernel_rfl))
 f296:=Tryz.func234.trans (congrArg some (by kernel_rfl))
 f297:=Tryz.func235.trans (congrArg some (by kernel_rfl))
 f298:=Tryz.func236.trans (congrArg some (by kernel_rfl))
 f299:=Tryz.func237.trans (congrArg some (by kernel_rfl))
 f300:=Tryz.func239.trans (congrArg some (by kernel_rfl))
 f301:=Tryz.func240.trans (congrArg some (by kernel_rfl))
 f328:=Tryz.func253.trans (congrArg some (by kernel_rfl))
 f329:=Tryz.func254.trans (congrArg some (by kernel_rfl))
 f330:=Tryz.func255.trans (congrArg some (by kernel_rfl))
 f331:=Tryz.func256.trans (congrArg some (by kernel_rfl))
 f332:=Tryz.func257.trans (congrArg some (by kernel_rfl))
 f343:=Tryz.func261.trans (congrArg some (by kernel_rfl))
 t0:=Tryz.underlying0
 a0:=Tryz.isAgg0
 z0:=Tryz.sizeOf0
 v0:=Tryz.zeroValue0
 t3:=Tryz.underlying3
 a3:=Tryz.isAgg3
 z3:=Tryz.sizeOf3
 v3:=Tryz.zeroValue3
 t4:=Tryz.underlying4
 a4:=Tryz.isAgg4
 z4:=Tryz.sizeOf4
 v4:=Tryz.zeroValue4
 t5:=Tryz.underlying5
 a5:=Tryz.isAgg5
 z5:=Tryz.sizeOf5
 v5:=Tryz.zeroValue5
 t9:=Tryz.underlying9
 a9:=Tryz.isAgg9
 z9:=Tryz.sizeOf9
 v9:=Tryz.zeroValue9
 t28:=Tryz.underlying48
 a28:=Tryz.isAgg48
 z28:=Tryz.sizeOf48
 v28:=Tryz.zeroValue48
 t46:=Tryz.underlying206
 a46:=Tryz.isAgg206
 z46:=Tryz.sizeOf206
 v46:=Tryz.zeroValue206
 t51:=Tryz.underlying259
 a51:=Tryz.isAgg259
 z51:=Tryz.sizeOf259
 v51:=Tryz.zeroValue259
 t53:=Tryz.underlying261
 a53:=Tryz.isAgg261
 z53:=Tryz.sizeOf261
 v53:=Tryz.zeroValue261
 t131:=Tryz.underlying256
 a131:=Tryz.isAgg256
 z131:=Tryz.sizeOf256
 v131:=Tryz.zeroValue256
 t182:=Tryz.underlying251
 a182:=Tryz.isAgg251
 z182:=Tryz.sizeOf251
 v182:=Tryz.zeroValue251
 t183:=Tryz.underlying252
 a183:=Tryz.isAgg252
 z183:=Tryz.sizeOf252
 v183:=Tryz.zeroValue252
 t218:=Tryz.underlying282
 a218:=Tryz.isAgg282
 z218:=Tryz.sizeOf282
 v218:=Tryz.zeroValue282
 t222:=Tryz.underlying286
 a222:=Tryz.isAgg286
 z222:=Tryz.sizeOf286
 v222:=Tryz.zeroValue286
 t228:=Tryz.underlying290
 a228:=Tryz.isAgg290
 z228:=Tryz.sizeOf290
 v228:=Tryz.zeroValue290
 t229:=Tryz.underlying108
 a229:=Tryz.isAgg108
 z229:=Tryz.sizeOf108
 v229:=Tryz.zeroValue108 }
open Go.Sort Go.RowKit in
theorem Vk.slices_Sort_int (blk off cap:Nat) (zs:List Int) (w:World) (hH:Holds (Value.int .i64) w blk off zs.toArray) (a0:blk<w.heap.size) (hsz:zs.length<4611686018427387904) :
  Calls Tryz.prog 144 #[.slice (some ⟨blk,off,none⟩) zs.length cap] w λ e w'=>
   e=.returned (.tuple #[])/\∃ n os,w'=grow (putRow (Value.int .i64) (Sort.ahead w n) blk off (zs.mergeSort λ x y=>decide (x<=y)).toArray) os:=Any.slices_Sort_int Vk.lays189 blk off cap zs w hH a0 hsz
open Go.RowKit Go.Sort in
theorem Vk.slices_Sort_int_none (p:Option Addr) (cap:Nat) (w:World) :
  Calls Tryz.prog 144 #[.slice p 0 cap] w λ e w'=>e=.returned (.tuple #[])/\w'=w:=Any.slices_Sort_int_none Vk.lays189 p cap w
end Go.Proofs
namespace Go.Vk
open Go.RowKit Go.Proofs
open Tryz (prog)
theorem ao3 {x:Ent}:∀ {l:List Ent},(l.map (·.2.2)).Nodup->x∈l->l.Perm (x :: l.filter λ y=>!(y.2.2 == x.2.2))
 | [],_,h=>by cases h
 | y :: l,hn,h=>by
  rw [List.map_cons,List.nodup_cons] at hn
  rcases List.mem_cons.1 h with e|e
  ·subst e
   have:(x :: l).filter (λ y=>!(y.2.2 == x.2.2))=l:=by
    rw [List.filter_cons_of_neg (by simp)]
    rw [List.filter_eq_self]
    intro y hy
    have:y.2.2≠x.2.2:=λ e=>hn.1 (e ▸ List.mem_map.2 ⟨y,hy,rfl⟩)
    simp [this]
   rw [this]
  ·have a0:y.2.2≠x.2.2:=λ e'=>hn.1 (e' ▸ List.mem_map.2 ⟨x,e,rfl⟩)
   rw [List.filter_cons_of_pos (by simp [a0])]
   exact ((ao3 hn.2 e).cons y).trans (List.Perm.swap _ _ _)
theorem alN (l:List Ent) (seen:Array Nat) (b:Nat):abD l (seen.push b)=(abD l seen).filter λ y=>!(y.2.2 == b):=by
 simp only [abD,List.filter_filter]
 refine List.filter_congr λ y _=>?_
 rw [Bool.eq_iff_iff]
 simp
 exact And.comm
structure Ap0 (w:World) (m clock r:Nat) (es:List OEnt) (v:Value) (ks:List Nat) (seen:Array Nat) (wr:World):Prop where
 hm:Blk wr m (mapO (es.map OEnt.ent) clock)
 hr:Blk wr r (agE m clock seen)
 row:AbV wr 0 v ks
 lo:∀ g,v.ownBlock=some g->w.heap.size<g
 k:AaA NoF w wr
 p:(ks++(abD (es.map OEnt.ent) seen).map (·.1)).Perm (es.map (·.key))
section
variable {w:World} {m clock:Nat} {es:List OEnt}
theorem apD {W:World} {g n cap:Nat} {ks:List Nat} (h:AbV W 0 (.slice ↑g n cap) ks) (hn:n=ks.length):Sort.Holds (Value.int .i64) W g 0 (ks.map Int.ofNat).toArray/\g<W.heap.size /\
  ∀ n' os (ts:List Int),ts.length=ks.length->(Sort.grow (Sort.putRow (Value.int .i64) (Sort.ahead W n') g 0 ts.toArray) os).ownsRow 0 3 1 (.slice ↑g n cap) n (ts.map (Value.int .i64)):=by
 subst hn
 unfold AbV at h
 rcases h.2 with ⟨h1,_⟩|⟨g',cap',cur,e,_,hb,h1,h2,h3,h4⟩
 ·cases h1
 ·injection e with e1 _ e3
  injection e1 with e1
  injection e1 with e1
  subst e1 e3
  have ht:cur.toList.take (ks.map Int.ofNat).length=(ks.map Int.ofNat).map (Value.int .i64):=by
   rw [aEU,List.map_map]
   rw [Nat.mul_one] at h4
   rw [h4]
   exact List.map_congr_left λ _ _=>rfl
  refine ⟨holds_of_blockI hb ht,?_,λ n' os ts hl=>?_⟩
  ·exact (Array.getElem?_eq_some_iff.1 hb).1
  ·have:=ownsRow_sortedI (w:=W) (n:=n') (os:=os) (ss:=ks.map Int.ofNat) (ts:=ts) (base:=0) (e:=3) (by rw [aEU];exact hl) (aEY _) hb (by rw [aEU];exact h1) h2 h3
   rw [aEU] at this
   exact this
def Ai3 (w:World) (es:List OEnt) (e:Ending) (w':World):Prop:=∃ v ks,e=.returned v/\AbV w' 0 v ks/\(∀ g,v.ownBlock=some g->w.heap.size<=g)/\ks.Perm (es.map (·.key))/\AaA NoF w w'
theorem aCX {r:Nat} {v:Value} {ks:List Nat} {seen:Array Nat} {wr:World} (h:Ap0 w m clock r es v ks seen wr) (hd:abD (es.map OEnt.ent) seen=[]) (hl:es.length<=4096):∃ a n cap,v=.slice a n cap/\Calls prog 144 #[v] wr λ e w'=>e=U (.tuple #[])/\Ai3 w es (.returned v) w':=by
 have hp:=h.p
 rw [hd,List.map_nil,aE3] at hp
 have hk:=hp.length_eq
 rw [aEU] at hk
 rcases h.row.shape with ⟨rfl,rfl⟩|⟨g,cap,rfl,h1,h2,h3⟩
 ·refine ⟨none,0,0,rfl,(Go.Proofs.Vk.slices_Sort_int_none none 0 wr).mono ?_⟩
  rintro e w' ⟨rfl,rfl⟩
  exact ⟨rfl,_,_,rfl,h.row,(λ g e=>by cases e),hp,h.k⟩
 ·obtain ⟨a1,a2,a3⟩:=apD h.row rfl
  refine ⟨_,_,_,rfl,?_⟩
  have:=Go.Proofs.Vk.slices_Sort_int g 0 cap (ks.map Int.ofNat) wr a1 a2 (by rw [aEU];omega)
  rw [aEU] at this
  refine this.mono ?_
  rintro e w' ⟨rfl,n,os,rfl⟩
  have a4:((ks.map Int.ofNat).mergeSort λ x y=>decide (x<=y)).Perm (ks.map Int.ofNat):=List.mergeSort_perm _ _
  have a0:=a3 n os ((ks.map Int.ofNat).mergeSort λ x y=>decide (x<=y)) (by rw [a4.length_eq,aEU])
  obtain ⟨ts,a5⟩:∃ ts:List Nat,((ks.map Int.ofNat).mergeSort λ x y=>decide (x<=y))=ts.map Int.ofNat:=by
   refine ⟨((ks.map Int.ofNat).mergeSort λ x y=>decide (x<=y)).map Int.toNat,?_⟩
   rw [List.map_map]
   symm
   have:∀ z∈((ks.map Int.ofNat).mergeSort λ x y=>decide (x<=y)),(Int.ofNat ∘ Int.toNat) z=z:=λ z hz=>by
    obtain ⟨k,_,rfl⟩:=List.mem_map.1 (a4.mem_iff.1 hz)
    simp
   calc _=((ks.map Int.ofNat).mergeSort λ x y=>decide (x<=y)).map id:=List.map_congr_left this
    _=_:=List.map_id _
  rw [a5] at a4 a0
  have a6:ts.Perm ks:=by
   have:=a4.map Int.toNat
   simpa [List.map_map,Function.comp_def] using this
  refine ⟨rfl,_,ts,rfl,?_,(λ g' e=>Nat.le_of_lt (h.lo g' e)),a6.trans hp,h.k.grown (grownBy_sortedI (n:=n) (os:=os) _) (λ k e=>.inr (by have:=h.lo g rfl;have:g=k:=aEP e;omega))⟩
  unfold AbV
  rw [a6.length_eq,a5]
  rw [List.map_map] at a0
  exact a0
theorem ao7 (h:AcH w m es clock) (hl:es.length<=4096):Calls prog 172 #[.map (some m)] w (Ai3 w es):=by
 obtain ⟨i0,a8,a9,aa,hz2⟩:=info_parts akI
 have aj:=ahN ahE h.hm
 have a6:((es.map OEnt.ent).map (·.2.2)).Nodup:=by
  have:=h.borns
  simpa [List.map_map,Function.comp_def,OEnt.ent] using this
 have ab:∀ x∈es.map OEnt.ent,x.2.2<clock:=λ x hx=>by obtain ⟨e,he,rfl⟩:=List.mem_map.1 hx;exact h.clk e he
 have ac:(es.map OEnt.ent).map (·.1)=es.map (·.key):=by simp [List.map_map,Function.comp_def,OEnt.ent]
 have hst:Ap0 w m clock w.heap.size es (.slice none 0 0) [] #[] (w.alloc (agE m clock #[])):=
  ⟨h.hm.alloc _,Blk.new _ _,World.ownsRow_nil _ _ _ _,(λ g e=>by cases e),(AaA.refl _ _).alloc _,by
   have:abD (es.map OEnt.ent) #[]=es.map OEnt.ent:=by simp [abD]
   rw [this,List.nil_append,ac]⟩
 have a2:=λ r v ks seen wr (hR:Ap0 w m clock r es v ks seen wr) hd=>aCX hR hd hl
 generalize hr:w.heap.size=r at hst
 have hnum:∀ W v,Ai3 w es (.returned v) W->Ai3 w es (.returned v) W:=λ _ _ x=>x
 generalize Ai3 w es=Post at *
 replace ⟨h,hl,a8,a9,aa,hz2,a6,ab⟩:=yh8 h hl a8 a9 aa hz2 a6 ab;replace ⟨hst,a2,hr⟩:=yh3 hst a2 hr;clear ac hnum
 go_enter Tryz.func172,Tryz.ntmps172
 go_wp2
 rw [hr.out]
 go_loopw [3] (λ v' wr=>∃ v ks seen,v=v'/\Ap0 w m clock r es v ks seen wr) (λ _ wr=>adT (es.map OEnt.ent) r wr)
 case atStart=>exact ⟨_,_,_,rfl,hst.out⟩
 case round=>
  obtain ⟨v,ks,seen,rfl,hR⟩:=hrel
  clear hst
  go_wp2_with (at_next;refine ae3 rfl (.tmp 6) rfl r m clock (es.map OEnt.ent) seen rfl hR.hr hR.hm ab.out ?_ ?_)
  ·intro a4
   obtain ⟨a,n,cap,rfl,hS⟩:=a2.out _ _ _ _ _ hR a4
   replace ⟨hR,hS⟩:=yh2 hR hS;clear a4
   go_wp2_with (go_at_call 144;refine hS.out.mono ?_;rintro e w5 ⟨rfl,hF⟩;replace hF:=hid hF)
   exact hF.out
  ·rintro ka va ba hx w' hr' hk' hs'
   obtain ⟨q,hq,ad⟩:=List.mem_map.1 (acE hx).1
   have ha:q.key=ka:=congrArg (·.1) ad
   have hm':=hk'.blk hR.hm (λ e=>by have h1:=hR.hm;have h2:=hR.hr;rw [e] at h1;unfold Blk at h1 h2;rw [h2] at h1;cases h1)
   have ak:=agO (P:=prog) (x:=(ka,va,ba)) hr' hm' (acE hx).1 a6.out
   have hrow':AbV w' 0 v ks:=hR.row.keeps hk' (λ g e=>by have:=hR.lo g e;have:=hr.out;omega)
   have ae:ks.length<=4096:=by
    have h1:=hR.p.length_eq
    simp only [aEH,aEU] at h1
    have:=hl.out
    omega
   have hfin:∀ g' cap' w3,w3.ownsRow 0 3 1 (.slice (some ⟨g',0,none⟩) (ks.length+1) cap') (ks.length+1) (ks.map natV++[I ka])->(w'.alloc (.cells #[I ka] 3 (0,0))).grownBy w3 v.ownBlock->(v.ownBlock=some g'/\w3.heap.size=(w'.alloc (.cells #[I ka] 3 (0,0))).heap.size∨g'=(w'.alloc (.cells #[I ka] 3 (0,0))).heap.size) ->
     Ap0 w m clock r es (.slice ↑g' (ks.length+1) cap') (ks++[ka]) (seen.push ba) w3:=by
    intro g' cap' w3 a0 a3 a7
    have hA:AaA (· = r) wr (w'.alloc (.cells #[I ka] 3 (0,0))):=hk'.alloc _
    have al:=hA.size
    have am:=hR.k.size
    have k3:AaA (λ i=>i=r∨v.ownBlock=some i) wr w3:=(hA.mono λ _ _ e=>.inl e).grown a3 (λ k e=>.inl (.inr e))
    have an:m≠r:=λ e=>by have h1:=hR.hm;have h2:=hR.hr;rw [e] at h1;unfold Blk at h1 h2;rw [h2] at h1;cases h1
    have af:=h.out.hm.lt
    have ao:=hr.out
    have kg:AaA (λ i=>v.ownBlock=some i) w' w3:=((AaA.refl (λ i=>v.ownBlock=some i) w').alloc _).grown a3 (λ k e=>.inl e)
    refine ⟨kg.blk hm' (λ e=>by have:=hR.lo m e;omega),kg.blk hr' (λ e=>by have:=hR.lo r e;omega),?_,λ g e=>?_,hR.k.trans k3 (λ i hi e=>?_),?_⟩
    ·unfold AbV
     rw [ahU,aEH,List.length_singleton]
     exact a0
    ·have ag:g'=g:=aEP e
     rcases a7 with ⟨x,_⟩|x
     ·have:=hR.lo g' x;omega
     ·rw [← ag,x,aEI];omega
    ·rcases e with e|e
     ·have:=hi;omega
     ·have:=hR.lo i e;omega
    ·rw [alN,aEQ]
     have ah:((abD (es.map OEnt.ent) seen).map (·.2.2)).Nodup:=a6.out.sublist ((List.filter_sublist).map _)
     have ai:=(ao3 ah hx).map (·.1)
     exact (ai.symm.append_left ks).trans hR.p
   have a5:=agP hx
   have a1:=hrow'
   unfold AbV at a1
   generalize ks.length=nk at a1 hfin ae
   replace ⟨hR,hfin,a5⟩:=yh3 hR hfin a5;clear hx hr' hk' hs' hm' hrow'
   go_wp2_with (at_builtin;refine ae1 rfl _ _ 48 rfl 3 i0 (I 0) 1 8 aj4 a8.out a9.out aa.out hz2.out rfl (by decide) _ _ _ rfl (a1.alloc _) ⟨w'.heap.size,0,none⟩ 1 1 [I ka] rfl rfl ?c1 ?c2 (by omega) ?c3 ?c4 ?_)
   case c2=>rfl
   case c3=>unfold maxLen;omega
   case c4=>omega
   intro g' cap' w3 a0 a3 a7
   have hF:=hfin.out g' cap' w3 a0 a3 (by rw [aEI];exact a7)
   clear a0 a3 a7 a1
   replace hF:=hid hF
   go_wp2
   exact ⟨⟨_,_,_,rfl,hF.out⟩,by rw [ac3 hF.out.hr,ac3 hR.out.hr];exact a5.out⟩
end
theorem AcH.look1 {w:World} {m:Nat} {es:List OEnt} {clock k:Nat} {e:OEnt} (h:AcH w m es clock) (hf:es.find? (·.key == k)=some e) :
  (Instr.lookup 135 (.map (some m)) (I k) false).run prog w=.ok e.val w:=by
 have:=aj7 (k:=k) ahE ai6 h.hm (atV w)
 rw [agT,hf] at this
 exact this
def agF (g:Nat->List UInt8) (home:Nat) (ov:Nat->Option (List UInt8)) (done:List Nat) (j:Nat):List UInt8:=if home<=j/\j - home∈done then (ov (j - home)).getD (g j) else g j
theorem atB (g:Nat->List UInt8) (a0:Nat) (ov:Nat->Option (List UInt8)) (done:List Nat) (b j:Nat):agF g a0 ov (done++[b]) j=if j=a0+b then (ov b).getD (g j) else agF g a0 ov done j:=by
 unfold agF
 by_cases e:j=a0+b
 ·subst e
  rw [if_pos ⟨by omega,by rw [Nat.add_sub_cancel_left];exact List.mem_append_right _ (List.mem_singleton.2 rfl)⟩,if_pos rfl,Nat.add_sub_cancel_left]
 ·rw [if_neg e]
  have:(a0<=j/\j - a0∈done++[b])↔(a0<=j/\j - a0∈done):=⟨λ x=>⟨x.1,(List.mem_append.1 x.2).elim id (λ y=>absurd (List.mem_singleton.1 y) (by omega))⟩,λ x=>⟨x.1,List.mem_append_left _ x.2⟩⟩
  simp only [this]
theorem atC {g:Nat->List UInt8} {home:Nat} {ov:Nat->Option (List UInt8)} {a b:List Nat} (h:a.Perm b) (j:Nat):agF g home ov a j=agF g home ov b j:=by
 unfold agF
 simp only [h.mem_iff]
def AhD (w:World) (d:Nat) (F:List Nat) (D:DM) (N:Nat) (life:Int) (g:Nat->List UInt8) (home:Nat) (ov:List OEnt) (done:List Nat) (wr:World):Prop:=
 ∃ F' D',DAt w d F D' F' wr/\Is D' N life (agF g home (ovOf ov) done)/\D'.writes<=D.writes+done.length
section
variable {w:World} {sb d l mo:Nat} {F:List Nat} {G:Geom} {D:DM} {ov:List OEnt} {oc:Nat} {N:Nat} {life:Int} {g:Nat->List UInt8} {op:Bool}
theorem avS (hs:Blk w sb (acQ d l mo G.s G.lg G.n G.life op)) (h:AaI w d D F) (ho:AcH w mo ov oc) (sF:sb∉F) (oF:∀ k∈aaH mo ov,k∉F) (hI:Is D N life g) (hN:N<=2048) (hw:D.writes+3000<1099511627776)
  (hk:∀ e∈ov,e.key<G.blocks) (am:G.home+G.blocks<=N) (an:ov.length<=2048) :
  (∀ W,AaA (· ∈ F) w W->W.cell? ↑sb=some ↑d/\W.cell? ⟨sb,3,none⟩=some (I (G.home:Nat))/\W.cell? ⟨sb,8,none⟩=some (.map (some mo))) /\
  (∀ (ks:List Nat),ks.Perm (ov.map (·.key))->∀ k (a4:k<ks.length) W,AhD w d F D N life g G.home ov (ks.take k) W->∃ bk bc,(Instr.lookup 135 (.map (some mo)) (I ks[k]) false).run prog W.drew=.ok (.slice (some ⟨bk,0,none⟩) 512 bc) W.drew/\AaA (· ∈ F) w W/\ks[k]<=2048 /\
   Calls prog 162 #[↑d,I ((G.home+ks[k]:Nat):Int),.slice (some ⟨bk,0,none⟩) 512 bc] W.drew λ e w'=>e=U (I 0)/\AaA (· ∈ F) w w'/\AhD w d F D N life g G.home ov (ks.take (k+1)) w') /\
  (∀ (ks:List Nat),ks.Perm (ov.map (·.key))->∀ W,AhD w d F D N life g G.home ov ks W->∃ F' D',DAt w d F D' F' W/\Is D' N life (agF g G.home (ovOf ov) (ov.map (·.key)))/\D'.writes<=D.writes+ov.length)/\(∀ W (ks:List Nat),AaA NoF w W->AhD w d F D N life g G.home ov (ks.take 0) W):=by
 have a0:∀ W,AaA (· ∈ F) w W->W.cell? ↑sb=some ↑d/\W.cell? ⟨sb,3,none⟩=some (I (G.home:Nat))/\W.cell? ⟨sb,8,none⟩=some (.map (some mo)):=λ W k=>by
  have hB:=k.blk hs sF
  have q0:=hB.cell 0
  have q3:=hB.cell 3
  have q8:=hB.cell 8
  simp at q0 q8
  exact ⟨q0,q3,q8⟩
 have ae:∀ i∈aaH mo ov,¬ i∈F:=oF
 have a1:∀ (ks:List Nat),ks.Perm (ov.map (·.key))->∀ k (a4:k<ks.length) W,AhD w d F D N life g G.home ov (ks.take k) W->∃ bk bc,(Instr.lookup 135 (.map (some mo)) (I ks[k]) false).run prog W.drew=.ok (.slice (some ⟨bk,0,none⟩) 512 bc) W.drew/\AaA (· ∈ F) w W/\ks[k]<=2048 /\
   Calls prog 162 #[↑d,I ((G.home+ks[k]:Nat):Int),.slice (some ⟨bk,0,none⟩) 512 bc] W.drew λ e w'=>e=U (I 0)/\AaA (· ∈ F) w w'/\AhD w d F D N life g G.home ov (ks.take (k+1)) w':=by
  rintro ks hp k a4 W ⟨F',D',hD,a5,af⟩
  have a6:ks[k]∈ov.map (·.key):=hp.mem_iff.1 (List.getElem_mem _)
  obtain ⟨e,hf⟩:∃ e,ov.find? (·.key == ks[k])=some e:=by
   cases hq:ov.find? (·.key == ks[k]) with
   | some e=>exact ⟨e,rfl⟩
   | none=>
    obtain ⟨e,he,ag⟩:=List.mem_map.1 a6
    have:=List.find?_eq_none.1 hq e he
    simp [ag] at this
  have he:=aEN hf
  have ah:e.key=ks[k]:=by simpa using List.find?_some hf
  have a7:AaA NoF W W.drew:=(AaA.refl _ _).drew
  have aa:AcH W.drew mo ov oc:=ho.keeps (hD.keeps.step (a7.mono λ _ _ f=>f.elim)) ae
  have ai:=aa.look1 hf
  have aj:ovOf ov ks[k]=some e.data:=adJ hf
  have a3:=aa.ok e he
  have ak:=hk e he
  rw [ah] at ak
  have a8:(ks.take k).length=k:=List.length_take_of_le (by omega)
  have a9:=hp.length_eq
  rw [aEU] at a9
  rw [a8] at af
  refine ⟨e.blk,e.cap,ai,hD.keeps,by omega,?_⟩
  have ab:AaI W.drew d D' F':=hD.rep.keeps a7 (λ _ _ f=>f)
  have ac:=ah5 ab a5.burnt ((G.home+ks[k]:Nat):Int) (by omega) (by rw [a5.n];omega) (by omega) e.blk 0 e.cap 5 (e.data++aaD (e.cap - 512)) a3.blk (by rw [aEH,a3.len];omega)
  rw [Int.toNat_natCast,aER,aE0 a3.len] at ac
  refine ac.mono ?_
  rintro r w' ⟨rfl,F2,y1,y2,y3⟩
  have hD2:DAt W.drew d F' _ F2 w':=⟨y1,y3,y2⟩
  have al:DAt w d F D' F' W.drew:=⟨ab,hD.sub,hD.keeps.step (a7.mono λ _ _ f=>f.elim)⟩
  have ad:=al.trans hD2
  refine ⟨rfl,ad.keeps,F2,_,ad,?_,?_⟩
  ·have h1:=a5.wrote (G.home+ks[k]) a3.len
   refine h1.congr λ j _=>?_
   rw [List.take_add_one,aEG a4]
   show _=agF g G.home (ovOf ov) (ks.take k++[ks[k]]) j
   rw [atB,aj]
   rfl
  ·rw [af3]
   show D'.writes+1<=_
   rw [List.length_take_of_le (by omega)]
   omega
 have a2:∀ (ks:List Nat),ks.Perm (ov.map (·.key))->∀ W,AhD w d F D N life g G.home ov ks W->∃ F' D',DAt w d F D' F' W/\Is D' N life (agF g G.home (ovOf ov) (ov.map (·.key)))/\D'.writes<=D.writes+ov.length:=by
  rintro ks hp W ⟨F',D',y1,y2,y3⟩
  have a9:=hp.length_eq
  rw [aEU] at a9
  exact ⟨F',D',y1,y2.congr λ j _=>atC hp j,by omega⟩
 have hst:∀ W (ks:List Nat),AaA NoF w W->AhD w d F D N life g G.home ov (ks.take 0) W:=λ W ks k=>⟨F,D,⟨h.keeps k (λ _ _ f=>f),λ _ hk=>.inl hk,k.mono λ _ _ f=>f.elim⟩,by
  refine hI.congr λ j _=>?_
  simp [agF],by simp⟩
 exact ⟨a0,a1,a2,hst⟩
theorem aBU (hs:Blk w sb (acQ d l mo G.s G.lg G.n G.life op)) (h:AaI w d D F) (ho:AcH w mo ov oc) (sF:sb∉F) (oF:∀ k∈aaH mo ov,k∉F) (hI:Is D N life g) (hN:N<=2048) (hw:D.writes+3000<1099511627776)
  (hk:∀ e∈ov,e.key<G.blocks) (aj:G.home+G.blocks<=N) (an:ov.length<=2048) :
  Calls prog 156 #[↑sb] w λ e w'=>e=U (I 0)/\∃ F' D',DAt w d F D' F' w'/\Is D' N life (agF g G.home (ovOf ov) (ov.map (·.key)))/\D'.writes<=D.writes+ov.length:=by
 have c8:=hs.cell 8
 simp at c8
 have a3:=ao7 ho (by omega)
 have ad:=h.lt
 have hh:G.home<=2048:=by omega
 have a4:∀ w2,AaA NoF w w2->_:=λ w2 k2=>avS (k2.blk hs (λ f=>f)) (h.keeps k2 (λ _ _ f=>f)) (ho.keeps k2 (λ _ _ f=>f)) sF oF hI hN hw hk aj an
 have hfin:∀ w2,AaA NoF w w2->∀ W,(∃ F' D',DAt w2 d F D' F' W/\Is D' N life (agF g G.home (ovOf ov) (ov.map (·.key)))/\D'.writes<=D.writes+ov.length)->∃ F' D',DAt w d F D' F' W/\Is D' N life (agF g G.home (ovOf ov) (ov.map (·.key)))/\D'.writes<=D.writes+ov.length:=by
  rintro w2 k2 W ⟨F',D',y1,y2,y3⟩
  have h0:DAt w d F D F w2:=⟨h.keeps k2 (λ _ _ f=>f),λ _ hk=>.inl hk,k2.mono λ _ _ f=>f.elim⟩
  exact ⟨F',D',h0.trans y1,y2,y3⟩
 unfold Ai3 at a3
 generalize G.home=hm at *
 replace ⟨a3,ad,a4,hfin⟩:=yh4 a3 ad a4 hfin;clear hs h ho sF oF hI hw hk aj
 go_enter Tryz.func156,Tryz.ntmps156
 go_upto_region 2 with (go_at_call 172;refine a3.out.mono ?_;rintro e w2 ⟨v,ks,rfl,a5,ae,hp,k2⟩;obtain ⟨av,nv,cv,hv⟩:∃ a n c,v=.slice a n c:=(by obtain ⟨a,c,e⟩:=acG a5;exact ⟨a,_,c,e⟩);replace ⟨a5,ae,hp,k2⟩:=yh4 a5 ae hp k2;subst hv)
 obtain ⟨a0,a2,a1,hst⟩:=a4.out w2 k2.out
 have a9:=hfin.out w2 k2.out
 clear hfin a4
 rcases a5.out.shape with ⟨af,rfl⟩|⟨gk,ck,hsl,_,_,ag⟩
 ·cases af
  have hF:=a9 w2 (a1 [] hp.out w2 (hst w2 [] (AaA.refl _ _)))
  clear c8 a0 a2 a1 hst a9
  replace hF:=hid hF
  go_loopw [12] (λ i wr=>i=I (0:Nat)/\wr=w2) (λ _ _=>0)
  case atStart=>exact ⟨rfl,rfl⟩
  case round=>
   obtain ⟨rfl,rfl⟩:=hrel
   go_wp2
   go_ret
   exact ⟨rfl,hF.out⟩
 ·obtain ⟨ao,hsn,ap⟩:av=some ⟨gk,0,none⟩/\nv=ks.length/\cv=ck:=by injection hsl with e1 e2 e3;exact ⟨e1,e2,e3⟩
  subst ao ap
  obtain ⟨n,hn⟩:∃ n,ks.length=n:=⟨_,rfl⟩
  rw [hn] at hsn
  subst hsn
  have a6:=hst w2 ks (AaA.refl _ _)
  have ah:gk∉F:=λ e=>by have:=ad.out _ e;have:=ae.out gk rfl;omega
  have ak:ks.length<=2048:=by
   have h1:=hp.out.length_eq
   rw [aEU] at h1
   omega
  have aw:nv<=2048:=by rw [← hn];exact ak
  have a7:=λ W hH=>a9 W (a1 ks hp.out W hH)
  have aa:AaA (· ∈ F) w2 w2:=AaA.refl _ _
  have a8:=a2 ks hp.out
  clear c8 hst a2 a9 a1 hsl
  replace ⟨a0,a8,a6,ah,a7,aa,hn,ag⟩:=yh8 a0 a8 a6 ah a7 aa hn ag;clear ak
  go_wp2
  go_loopw [12] (λ i wr=>∃ k:Nat,k<=nv/\i=I k/\AhD w2 d F D N life g hm ov (ks.take k) wr/\AaA (· ∈ F) w2 wr) (λ i _=>nv - (RowKit.intOf i).toNat)
  case atStart=>exact ⟨0,by omega,rfl,a6.out,aa.out⟩
  case round=>
   obtain ⟨k,hk1,rfl,hH,hK⟩:=hrel
   clear a6 aa
   by_cases aq:k<nv
   ·have ar:(k:Int)<nv:=by omega
    have ax:0<=(k:Int)/\(k:Int)<(nv:Nat):=by omega
    have al:k<ks.length:=by rw [hn.out];exact aq
    obtain ⟨bk,bc,ay,_,az,ab⟩:=a8.out k al wr hH
    obtain ⟨q0,q3,q8⟩:=a0.out wr hK
    have aA:=hK.cellF (ag.out k al) ah.out
    generalize ks[k]=b at *
    have au:IntKind.i64.wrap ((hm:Int)+(b:Int))=(hm:Int)+(b:Int):=by rw [IntKind.wrap_i64];omega
    have hcast:((hm+b:Nat):Int)=(hm:Int)+(b:Int):=by omega
    rw [hcast] at ab
    have q0d:wr.drew.cell? ↑sb=some ↑d:=q0
    have q3d:wr.drew.cell? ⟨sb,3,none⟩=some (I hm):=q3
    have q8d:wr.drew.cell? ⟨sb,8,none⟩=some (.map (some mo)):=q8
    replace ⟨hH,hK,ab⟩:=yh3 hH hK ab;clear hcast
    go_upto_region 4 with fail
    go_region_held3 (λ W=>W.cell? ↑sb=some ↑d/\W.cell? ⟨sb,3,none⟩=some (I hm)/\W.cell? ⟨sb,8,none⟩=some (.map (some mo))) (first|with_reducible exact ⟨q0d,q3d,q8d⟩|with_reducible exact hq) (first
     | (go_at_call 162;refine ab.out.mono ?_;rintro e w3 ⟨rfl,ac,ai⟩;have hq:=a0.out w3 ac;replace ⟨ac,ai⟩:=yh2 ac ai))
    have aB:IntKind.i64.wrap ((k:Int)+1)=(k:Int)+1:=by rw [IntKind.wrap_i64];omega
    rename_i hHeld
    clear hHeld
    go_wp2
    exact ⟨⟨k+1,by omega,by go_num,ai.out,ac.out⟩,by simp [RowKit.intOf];omega⟩
   ·have ar:¬ (k:Int)<nv:=by omega
    have am:k=ks.length:=by rw [hn.out];omega
    rw [am,List.take_length] at hH
    have hF:=a7.out wr hH
    clear am
    replace hF:=hid hF;clear hH hK
    go_wp2
    go_ret
    exact ⟨rfl,hF.out⟩
end
end Go.Vk
