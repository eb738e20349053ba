/- Part of the proof: NrB NrC NrE. -/
import Derived.Test.YtjeelghnmkefcaaGreatQ23
import Derived.Test.YtjeelghnmkefcaaGreatQ24
import Derived.Test.YtjeelghnmkefcaaGreatQ25
import Derived.Test.YtjeelghnmkefcaaGreatQ37
set_option linter.unusedVariables false
set_option maxHeartbeats 16000000
set_option maxRecDepth 100000
namespace Go.Vk
open Go.RowKit Go.Proofs
open Tryz (prog)
section
variable {P:Program} {ops:Array Oper} {Q:Exit->Act->World->Prop} {md:Region.Mode} {S:World->Prop} {fuel:Nat} {listed:Array Bool} {a:Act} {w:World}
theorem ahA {i:Nat} {o:Oper} (hr:Region.ready md ops listed=[i]) (ho:ops[i]? = some o) (hw:Region.wanted o (yielded ops a.tmps)=true)
  (h:∀ K':Act->World->Prop,Shut (∀ a w,S w->wpAnyH P md ops Q S fuel (listed.setIfInBounds i true) a w->K' a w)->Oper.wp P o a w K' Q):wpAnyH P md ops Q S (fuel+1) listed a w:=
 wpAnyH_all hr (by simp) λ j hj=>by
  obtain rfl:j=i:=by simpa using hj
  refine wpOp_step ho λ K' hK=>?_
  rw [if_pos hw]
  exact h K' (λ a w hS hW=>hK a w ⟨hS,hW⟩)
end
theorem ahJ {w:World} {b:Nat} {T:TypeId} {cs:List Value} (hb:Blk w b (.cells cs.toArray T (0,0))) (o n:Nat) (hl:o+n<=cs.length):w.there b o n:=by
 intro j hj
 refine ⟨?_,hb.frz _⟩
 rw [hb.cell]
 have:o+j<cs.length:=by omega
 simp [this]
def AtP (w:World) (tb m:Nat) (r:(Nd × Nat) × TB) (Z:Nat->Prop) (e:Ending) (w':World):Prop:=e=U (.tuple #[ndV r.1.1,I (r.1.2:Nat)])/\AaS w w' tb m r.2 Z
section
variable {w:World} {tb m:Nat} {B:TB} {Z:Nat->Prop}
theorem alQ (bs:List UInt8):(rdN bs).2.ptr.length=12:=by
 rcases ac7 bs with ⟨_,_,z⟩|⟨_,_,z⟩|⟨_,z⟩
 ·rw [z];rfl
 ·rw [z];exact abZ bs
 ·rw [z];rfl
theorem auT (bs:List UInt8):(rdN bs).1<=100:=by
 rcases ac7 bs with ⟨_,_,z⟩|⟨_,_,z⟩|⟨_,z⟩
 ·rw [z];decide
 ·rw [z];exact aEY _
 ·rw [z];decide
theorem Aa3.slotAt (h:Aa3 w tb m B Z) {k:Nat} (h1:1<=k) (h2:k<=B.R.nodes):∃ hk:k - 1<B.sl.length,B.slot k=B.sl[k - 1]:=by
 obtain ⟨V,Z1,Z2,a,b⟩:=h
 have:=a.lw.2
 have hk:k - 1<B.sl.length:=by omega
 refine ⟨hk,?_⟩
 unfold TB.slot
 rw [aEL,aEG hk];rfl
theorem TB.ranged_zero {k:Int} (h:B.ranged k=0):B.R.state=0/\1<=k.toNat/\k.toNat<=B.R.nodes/\(k.toNat:Int)=k:=by
 unfold TB.ranged at h
 by_cases hs:B.R.state=0
 ·rw [if_pos hs] at h
  by_cases hk:k<1∨(B.R.nodes:Int)<k
  ·rw [if_pos hk] at h;cases h
  ·exact ⟨hs,by omega,by omega,by omega⟩
 ·rw [if_neg hs] at h;exact absurd h hs
theorem ahI (h:Aa3 w tb m B Z) (hn:B.R.nodes<=1024) {k:Nat} (h1:1<=k) (h2:k<=B.R.nodes):∀ W,AaA NoF w W->Calls prog 66 #[↑tb,I k] W (AjV W (B.slot k)):=λ W kW=>by
 obtain ⟨hk,e⟩:=h.slotAt h1 h2
 obtain ⟨V,Z1,Z2,a,b⟩:=h.keeps kW (λ _ _ f=>f)
 rw [e]
 exact az8 a k h1 (by omega) (by have:=a.lw.2;omega)
theorem aiO (h:Aa3 w tb m B Z) (k:Int):∀ W,AaA NoF w W->Calls prog 117 #[↑tb,I k] W λ e w'=>e=U (I (B.ranged k:Nat))/\W=w':=λ W kW=>by
 obtain ⟨V,Z1,Z2,a,b⟩:=h.keeps kW (λ _ _ f=>f)
 exact at2 a k
theorem AaS.mv {w1 w':World} {B':TB} (k:AaA NoF w w1) (s:AaS w1 w' tb m B' Z):AaS w w' tb m B' Z:=by
 have z:=k.size
 exact ⟨s.rep.up λ i hi=>hi.elim .inl (λ x=>.inr ⟨by omega,x.2⟩),(k.mono (F:=λ _=>False) (G:=Z) λ _ _ f=>f.elim).trans s.k (λ i _ z=>z)⟩
theorem AaS.own {w6 w7 w':World} {B':TB} {b:Nat} (k0:AaA NoF w w6) (s:AaS w6 w7 tb m B' Z) (k:AaA (· = b) w7 w') (hb:¬ Z b) (h1:w.heap.size<=b) (h2:b<w6.heap.size):AaS w w' tb m B' Z:=by
 have z0:=k0.size
 have z1:=s.k.size
 have z2:=k.size
 exact ⟨(s.rep.keeps k (λ i hi e=>hi.elim (λ z=>hb (e ▸ z)) (λ z=>by omega))).up λ i hi=>hi.elim .inl (λ x=>.inr ⟨by omega,by omega⟩),
  ((k0.mono (F:=λ _=>False) (G:=Z) λ _ _ f=>f.elim).trans s.k (λ i _ z=>z)).fresh k (λ i e=>by omega)⟩
theorem afM (h:Aa3 w tb m B Z) (h0:B.R.state=0) (c:Nat) (hc:c<=100):∀ W,AaA NoF w W->Calls prog 67 #[↑tb,I c] W λ e w'=>e=U (I (c:Nat))/\AaS W w' tb m (B.thrown c) Z:=λ W kW=>
 at1 (h.keeps kW (λ _ _ f=>f)) h0 c hc
theorem aAA (h:Aa3 w tb m B Z) (hlt:∀ i,Z i->i<w.heap.size) (hn:B.R.nodes<=1024) (k:Int) :
  Calls prog 51 #[↑tb,I k] w (AtP w tb m (B.load k) Z):=by
 have a1:=aiO h k
 have kA:=(AaA.refl NoF w).alloc (ndO Nd.zero)
 have bA:=Blk.new w (ndO Nd.zero)
 obtain ⟨d,ud,hd⟩:=acJ
 have hq:=λ w' (x:AaA NoF w w')=>AaS.quiet h x
 by_cases hz:B.ranged k=0
 ·obtain ⟨h0,k1,k2,hk⟩:=TB.ranged_zero hz
  rw [hz] at a1
  have a2:=ahI h hn k1 k2
  have a4:=afM h h0 (rdN (B.slot k.toNat)).1 (auT _)
  have a0:=alQ (B.slot k.toNat)
  have a3:B.load k=(((rdN (B.slot k.toNat)).2,(rdN (B.slot k.toNat)).1),B.thrown (rdN (B.slot k.toNat)).1):=if_pos hz
  rw [a3]
  unfold AjV at a2
  rw [hk] at a2
  generalize rdN (B.slot k.toNat)=r at *
  obtain ⟨c,n⟩:=r
  dsimp only at a2 a4 a0 ⊢
  generalize B.thrown c=B' at *
  have hP:∀ w',AaS w w' tb m B' Z->AtP w tb m ((n,c),B') Z (U (.tuple #[ndV n,I (c:Nat)])) w':=λ w' s=>⟨rfl,s⟩
  generalize AtP w tb m ((n,c),B') Z=Post at *
  clear a3
  replace ⟨h,hlt,a1,kA,bA,ud,hd,hq⟩:=yh8 h hlt a1 kA bA ud hd hq;replace ⟨hz,a2,a4,a0,hP⟩:=yh5 hz a2 a4 a0 hP;clear h0 k1 k2 hk
  go_enter Tryz.func51,Tryz.ntmps51
  go_upto_region 1 with fail
  change Code.wp _ _ _ _ (w.alloc (ndO Nd.zero))
  have lA:=bA.out.lt
  generalize w.alloc (ndO Nd.zero)=wA at *
  replace lA:=hid lA
  go_wp2_with fail
  refine (a1.out _ kA.out).mono ?_
  rintro e w5 ⟨rfl,rfl⟩
  clear a1
  go_upto_region 4 with fail
  go_wp2_with fail
  refine (a2.out _ kA.out).mono ?_
  rintro e w5 ⟨k5,rfl⟩
  have kB:=kA.out.step k5
  have bB:=k5.blk bA.out (λ f=>f)
  clear kA bA a2
  go_upto_region 5 with (first
   | (refine aa0 rfl _ rfl _ _ (abI _) ?_;simp only [Act.put,wz])
   | (refine aaL rfl 39 (.tmp 7) (.tmp 20) rfl w5.heap.size 0 39 (ndC Nd.zero) (ndC n) rfl rfl (Blk.new _ _) (by rw [aaM a0.out];decide) (by rw [aaM a0.out];exact aaK) (abJ _) ?_;intro w6 b6 k6 _;rw [aa4 (by rw [aaM a0.out];rfl)] at b6))
  have kz:AaA NoF w5 w6:=((AaA.refl NoF w5).alloc (ndO Nd.zero)).fresh k6 (λ i e=>by omega)
  have kC:=kB.step kz
  have bC:=kz.blk bB (λ f=>f)
  have hnb:w.heap.size<w5.heap.size:=by have:=lA.out;have:=k5.size;omega
  generalize w5.heap.size=nb at *
  clear k6 kz bB kB k5
  have kD:=kC.drew
  refine wp_region_held_drew (S:=λ W=>Blk W nb (.cells (ndC n).toArray 39 (0,0))) (by kernel_rfl) b6.drew (λ hS0=>?_)
  refine wpAnyH_take (i:=1) rfl (by kernel_rfl) (by kernel_rfl) (by kernel_rfl) (λ _ _ _ h=>h) (Or.inl ⟨by rfl,λ w _=>rfl⟩) hS0 ?_
  simp only [Act.put,wz]
  refine wpAnyH_take (i:=2) rfl (by kernel_rfl) (by kernel_rfl) (by kernel_rfl) (λ _ _ _ h=>h) (Or.inl ⟨by rfl,λ w _=>rfl⟩) hS0 ?_
  simp only [Act.put,wz]
  refine wpAnyH_take (i:=0) rfl (by kernel_rfl) (by kernel_rfl) (by kernel_rfl) (λ _ _ _ h=>h) (yieldsIf_load_mid (by rfl) 39 (.tmp 7) rfl nb 0 rfl (ndC n) d (λ W hW=>by have:=af4 hW 0 17;rwa [aER,aEO (by rw [aaM a0.out];decide)] at this) ud.out hd.out (by rw [aaM a0.out];exact aaK)) hS0 ?_
  simp only [Act.put,wz]
  refine ahA (i:=3) (by kernel_rfl) rfl (by rfl) (λ K hK=>?_)
  go_simp
  refine (a4.out _ kD).mono ?_
  rintro e w7 ⟨rfl,s7⟩
  have a6:∀ i,w.heap.size<=i->¬ Z i:=λ i e z=>by have:=hlt.out i z;omega
  have bN:=s7.k.blk b6.drew (a6 nb (by omega))
  have bR:=s7.k.blk bC.drew (a6 _ (aEK _))
  refine hK.out _ _ bN ?_
  clear hK K hS0
  refine ahA (i:=4) (by kernel_rfl) rfl (by rfl) (λ K hK=>?_)
  refine wp_store_mid 39 (.tmp 4) (.tmp 22) rfl w.heap.size 0 (ndC n).toArray rfl rfl (ahJ bR 0 (ndC n).toArray.size (by rw [List.size_toArray,aaM a0.out];decide)) (by rw [List.size_toArray,aaM a0.out];exact aaK) (all_oneCell_toArray (abJ _)) ?_
  obtain ⟨e1,e2,e3⟩:=ac1 w.heap.size 39 (ndC n) 0 w7 (ndC Nd.zero) bR (by rw [aaM a0.out];decide)
  rw [aa4 (by rw [aaM a0.out];rfl)] at e1
  rw [List.toList_toArray]
  generalize w7.setCells w.heap.size 0 (ndC n)=w8 at *
  refine hK.out _ _ (e2.blk bN (by omega)) ?_
  clear hK K
  refine wpAnyH_take (i:=5) rfl (by kernel_rfl) (by kernel_rfl) (by kernel_rfl) (λ _ _ _ h=>h) (Or.inl ⟨by rfl,λ w _=>rfl⟩) (e2.blk bN (by omega)) ?_
  have hPP:=hP.out w8 (AaS.own kD s7 e2 (a6 _ (aEK _)) (aEK _) bC.drew.lt)
  refine wpAnyH_done (by kernel_rfl) ?_ _
  refine ‹∀ (a:Act) (w:World),Code.wp _ _ _ a w->_› _ _ ?_
  refine wp_ret (bodyPost_ret (v:=.tuple #[ndV n,I (c:Nat)]) ?_ ?_ hPP)
  ·exact acK rfl _ _ w.heap.size 39 (ndC n) d _ rfl rfl e1 ud.out hd.out (by rw [aaM a0.out];exact aaK)
  ·rfl
 ·have kb:((B.ranged k:Int) != 0)=true:=by simpa using hz
  have a3:B.load k=((Nd.zero,B.ranged k),B):=if_neg hz
  rw [a3]
  have hP:∀ w',AaA NoF w w'->AtP w tb m ((Nd.zero,B.ranged k),B) Z (U (.tuple #[ndV Nd.zero,I (B.ranged k:Nat)])) w':=λ w' s=>⟨rfl,hq w' s⟩
  generalize AtP w tb m ((Nd.zero,B.ranged k),B) Z=Post at *
  generalize B.ranged k=rg at *
  clear a3 hq h
  replace ⟨a1,kA,bA,ud,hd,hP⟩:=yh6 a1 kA bA ud hd hP;clear hlt hz
  go_enter Tryz.func51,Tryz.ntmps51
  go_upto_region 1 with fail
  change Code.wp _ _ _ _ (w.alloc (ndO Nd.zero))
  generalize w.alloc (ndO Nd.zero)=wA at *
  go_wp2_with fail
  refine (a1.out _ kA.out).mono ?_
  rintro e w5 ⟨rfl,rfl⟩
  clear a1
  go_wp2_with (first
   | (refine abT rfl _ _ rfl (.agg (ndC Nd.zero).toArray) wA (by kernel_rfl) ?_;simp only [Act.put,wz])
   | (refine aaL rfl 39 (.tmp 4) (.tmp 14) rfl w.heap.size 0 39 (ndC Nd.zero) (ndC Nd.zero) rfl rfl bA.out (by decide) aaK (abJ _) ?_;intro w7 a5 hk7 _;rw [aa4 rfl] at a5;have hPP:=hP.out w7 (kA.out.fresh hk7 (λ i hi=>by omega));replace ⟨a5,hPP⟩:=yh2 a5 hPP;clear hk7))
  exact bodyPost_ret (v:=.tuple #[ndV Nd.zero,I (rg:Nat)]) (acK rfl _ _ w.heap.size 39 (ndC Nd.zero) d _ rfl rfl a5.out ud.out hd.out aaK) rfl hPP.out
end
section
variable {w:World} {tb m:Nat} {B:TB} {Z:Nat->Prop}
theorem Aa3.slLen (h:Aa3 w tb m B Z):B.sl.length=B.R.nodes:=by
 obtain ⟨V,Z1,Z2,a,b⟩:=h
 exact a.lw.2
theorem arE (h:Aa3 w tb m B Z) (a0:B.R.put.length<=16) (hn:B.R.nodes<=1024) {k:Nat} (h1:1<=k) (h2:k<=B.R.nodes) {n:Nd} (hp:n.ptr.length=12) (hf:Ac4 n):∀ W,AaA NoF w W ->
  Calls prog 116 #[↑tb,I k,ndV n] W λ e w'=>e=U (I ((B.put k (encN n)).1:Nat))/\AaS W w' tb m (B.put k (encN n)).2 Z:=λ W kW=>by
 have:=h.slLen
 exact aCQ (h.keeps kW (λ _ _ f=>f)) a0 k h1 (by omega) (by omega) hp hf
theorem az7 (h:Aa3 w tb m B Z) (aa:B.R.put.length<=16) (hn:B.R.nodes<=1024) (k:Int) {n:Nd} (hp:n.ptr.length=12) :
  Calls prog 52 #[↑tb,I k,ndV n] w (AjT w tb m (B.save k n) Z):=by
 have ac:=aiO h k
 have hE:=λ w=>auV w hp
 have a5:=aeL w n
 have a7:Blk (w.alloc (ndO n)) w.heap.size (ndO n):=Blk.new w _
 obtain ⟨d,ud,hd⟩:=acJ
 have ad:=abR hp
 have hl:=aaM hp
 have hk:=(AaA.refl NoF w).alloc (ndO n)
 have hq:=λ w' (x:AaA NoF w w')=>AaS.quiet h x
 have x0:=(abF hp).1
 have a0:=λ (hz:B.ranged k=0)=>by
  obtain ⟨h0,k1,k2,a2⟩:=TB.ranged_zero hz
  have a:=ahI h hn k1 k2
  have b:=afM h h0 (rdN (B.slot k.toNat)).1 (auT _)
  have c:=λ hf=>arE h aa hn k1 k2 hp hf
  rw [a2] at a c
  exact And.intro a (And.intro b c)
 have a6:=alQ (B.slot k.toNat)
 have ae:B.save k n=if B.ranged k=0 then
  (if Ac4 n/\n.kind≠0 then
   (if (rdN (B.slot k.toNat)).1=0 then (if (rdN (B.slot k.toNat)).2.kind=n.kind then B.put k.toNat (encN n) else (1,B)) else ((rdN (B.slot k.toNat)).1,B.thrown (rdN (B.slot k.toNat)).1))
   else (20,B))
 else (B.ranged k,B):=rfl
 have hP:∀ c B',B.save k n=(c,B')->∀ w',AaS w w' tb m B' Z->AjT w tb m (B.save k n) Z (U (I (c:Nat))) w':=λ c B' e w' s=>by rw [e];exact ⟨rfl,s⟩
 generalize AjT w tb m (B.save k n) Z=Post at *
 unfold AjV at a0
 rw [ae] at hP
 clear ae
 generalize rdN (B.slot k.toNat)=r at *
 obtain ⟨cr,nr⟩:=r
 dsimp only at a0 hP a6
 generalize B.put k.toNat (encN n)=pr at *
 obtain ⟨cp,Bp⟩:=pr
 generalize B.thrown cr=Bt at *
 generalize B.ranged k=rg at *
 generalize ak:n.kind=kd at *
 generalize ah:nr.kind=kr at *
 unfold ndV at a5 hE
 unfold ndO at a7 a5 hk
 rw [show ndV n=.agg (ndC n).toArray from rfl] at a0 ⊢
 generalize ai:ndC n=cl at *
 clear h
 have af:=(a7.cell 0).trans x0
 generalize aj:w.alloc (.cells cl.toArray 39 (0,0))=w1 at *
 replace ⟨ac,hE,a5,a7,ud,hd,ad,hl⟩:=yh8 ac hE a5 a7 ud hd ad hl;replace ⟨hk,hq,a0,a6,hP,hn⟩:=yh6 hk hq a0 a6 hP hn;clear ai aj hp aa x0
 go_enter Tryz.func52,Tryz.ntmps52
 go_upto_region 0 with fail
 go_step
 refine aaY rfl 39 (.tmp 2) rfl _ _ (by exact a5.out) ?_
 go_wp2_with fail
 refine (ac.out _ hk.out).mono ?_
 rintro e w5 ⟨rfl,rfl⟩
 clear ac
 have sz:=aaK
 by_cases hz:rg=0
 ·subst hz
  obtain ⟨a3,a4,a8⟩:=a0.out rfl
  clear a0
  replace ⟨a3,a4,a8,sz⟩:=yh4 a3 a4 a8 sz
  go_upto_region 4 with fail
  go_step
  refine aaN rfl 39 (.tmp 5) rfl w.heap.size 0 39 cl 17 d rfl a7.out (by rw [hl.out];decide) ud.out hd.out sz.out ?_
  rw [ad.out]
  go_wp2_with fail
  refine (hE.out _).mono ?_
  rintro e w2 ⟨k2,hX⟩
  have kB:=hk.out.step k2
  have bB:=k2.blk a7.out (λ f=>f)
  have y2:=k2.cellF af (λ f=>f)
  clear hE af a5
  rcases hX with ⟨hf,g,hg,rfl,bg⟩|⟨ag,rfl⟩
  ·by_cases a1:kd=0
   ·have hPP:=hP.out 20 B (by simp [a1]) _ (hq.out _ kB)
    have kb:(kd == 0)=true:=by simpa using a1
    clear hP a3 a4 a8 bg
    replace ⟨hPP,a1,kB,bB,hg,hf,k2⟩:=yh7 hPP a1 kB bB hg hf k2
    go_wp2
    exact hPP.out
   ·have kb:(kd == 0)=false:=by simpa using a1
    have a9:=a8.out hf
    clear a8 bg
    replace ⟨a1,kB,bB,hf,k2,a9⟩:=yh6 a1 kB bB hf k2 a9;clear hg
    go_upto_region 7 with fail
    go_wp2_with fail
    refine (a3.out _ kB.out).mono ?_
    rintro e w5 ⟨k5,rfl⟩
    have kC:=kB.out.step k5
    have bC:=k5.blk bB.out (λ f=>f)
    have y5:=k5.cellF y2 (λ f=>f)
    clear y2 kB bB
    go_upto_region 8 with (first
     | (refine aa0 rfl _ rfl _ _ (abI _) ?_;simp only [wz])
     | (refine aaL rfl 39 (.tmp 10) (.tmp 34) rfl w5.heap.size 0 39 (ndC Nd.zero) (ndC nr) rfl rfl (Blk.new _ _) (by rw [aaM a6.out];decide) (by rw [aaM a6.out];exact aaK) (abJ _) ?_;intro w6 b6 k6 _;rw [aa4 (by rw [aaM a6.out];rfl)] at b6))
    have kz:AaA NoF w5 w6:=((AaA.refl NoF w5).alloc (ndO Nd.zero)).fresh k6 (λ i e=>by omega)
    have kD:=kC.step kz
    have bD:=kz.blk bC (λ f=>f)
    have y6:=kz.cellF y5 (λ f=>f)
    have z6:=(b6.cell 0).trans (abF (n:=nr) a6.out).1
    have e6:nr.kind=kr:=ah
    rw [e6] at z6
    have ab:w.heap.size<w5.heap.size:=bC.lt
    generalize w5.heap.size=nb at *
    clear k6 kz bC kC k5 y5
    by_cases hr0:cr=0
    ·subst hr0
     by_cases a2:kr=kd
     ·have kb2:(kr != kd)=false:=by simpa using a2
      have hPP:=hP.out cp Bp (by simp [hf.out,a1.out,a2])
      clear hP a3 a4
      replace ⟨hPP,kD,bD,b6,a2,ab⟩:=yh6 hPP kD bD b6 a2 ab
      go_wp2_with (refine aaN rfl 39 (.tmp 5) rfl w.heap.size 0 39 cl 17 d rfl bD.out (by rw [hl.out];decide) ud.out hd.out sz.out ?_;rw [ad.out])
      refine (a9.out _ kD.out).mono ?_
      rintro e w7 ⟨rfl,s7⟩
      have hQ:=hPP.out _ (s7.mv kD.out)
      clear a9 hPP s7
      replace hQ:=hid hQ
      go_wp2
      exact hQ.out
     ·have kb2:(kr != kd)=true:=by simpa using a2
      have hPP:=hP.out 1 B (by simp [hf.out,a1.out,a2]) _ (hq.out _ kD)
      clear hP a3 a4 a9
      replace ⟨hPP,kD,bD,b6,ab⟩:=yh5 hPP kD bD b6 ab;clear a2
      go_wp2
      exact hPP.out
    ·have kb2:((cr:Int) != 0)=true:=by simpa using hr0
     have hPP:=hP.out cr Bt (by simp [hf.out,a1.out,hr0])
     clear hP a3 a9
     replace ⟨hPP,kD⟩:=yh2 hPP kD;clear bD b6 hr0 ab
     go_wp2_with fail
     refine (a4.out _ kD.out).mono ?_
     rintro e w7 ⟨rfl,s7⟩
     have hQ:=hPP.out _ (s7.mv kD.out)
     clear a4 hPP s7
     replace hQ:=hid hQ
     go_wp2
     exact hQ.out
  ·have hPP:=hP.out 20 B (by simp [ag]) _ (hq.out _ kB)
   clear hP a3 a4 a8
   replace hPP:=hid hPP;clear kB bB ag k2
   go_wp2
   exact hPP.out
 ·have kb:((rg:Int) != 0)=true:=by simpa using hz
  have hPP:=hP.out rg B (if_neg hz) _ (hq.out _ hk.out)
  clear a0 hP a5
  replace hPP:=hid hPP;clear hz sz
  go_wp2
  exact hPP.out
theorem RP.puts_le (R:RP) (b:Nat) (h:R.put.length<=16):(R.puts b).put.length<=16:=by
 unfold RP.puts
 split
 ·exact h
 ·split
  ·exact h
  ·simp;omega
theorem ahH (R:RP) (nd:Bool) (l:List Bool):(R.withK nd l).put=R.put/\(R.withK nd l).nodes=R.nodes:=by
 unfold RP.withK
 cases nd<;>exact ⟨rfl,rfl⟩
theorem RP.drop_le (R:RP) (nd:Bool) (b:List UInt8) (n:Int) (h:R.put.length<=16):(R.drop nd b n).put.length<=16/\(R.drop nd b n).nodes=R.nodes:=by
 have h1:=R.puts_le nd.toNat h
 have h2:=aeU R nd.toNat
 unfold RP.drop
 repeat' split
 all_goals first|exact ⟨h,rfl⟩|exact ⟨h1,h2⟩|exact ⟨by rw [(ahH _ _ _).1];exact h1,by rw [(ahH _ _ _).2];exact h2⟩
theorem RP.take_le (R:RP) (nd:Bool) (b:List UInt8) (h:R.put.length<=16):(R.take nd b).put.length<=16/\(R.take nd b).nodes=R.nodes:=by
 have h1:=R.puts_le nd.toNat h
 have h2:=aeU R nd.toNat
 unfold RP.take
 repeat' split
 all_goals first|exact ⟨h,rfl⟩|exact ⟨h1,h2⟩|exact ⟨by rw [(ahH _ _ _).1];exact h1,by rw [(ahH _ _ _).2];exact h2⟩
theorem azE (h:Aa3 w tb m B Z) (a0:B.R.put.length<=16) (hn:B.R.nodes<=1024) (bs:List UInt8) (hb:B.R.nowN=aaZ bs) (a1:bs.length=512) (k:Int) (a2:IntKind.i64.wrap k=k):∀ W,AaA NoF w W->Calls prog 119 #[↑m,I k] W λ e w'=>e=U (I (B.R.dropE true bs k:Nat))/\AaS W w' tb m { B with R:=B.R.drop true bs k } Z:=λ W kW=>by
 obtain ⟨V,Z1,Z2,a,b⟩:=h.keeps kW (λ _ _ f=>f)
 refine (axU a.rf a0 bs hb a1 (by show B.R.nodes<=2048;omega) k a2).mono ?_
 rintro e w' ⟨rfl,s⟩
 exact ⟨rfl,AaS.doc a b s (B.R.drop_le true bs k a0).2⟩
theorem azC (h:Aa3 w tb m B Z) (a0:B.R.put.length<=16) (hn:B.R.nodes<=1024) (bs:List UInt8) (hb:B.R.nowN=aaZ bs) (a1:bs.length=512):∀ W,AaA NoF w W->Calls prog 115 #[↑m] W λ e w'=>e=U (.tuple #[I ((B.R.takeA true bs).1:Nat),I ((B.R.takeA true bs).2:Nat)])/\AaS W w' tb m { B with R:=B.R.take true bs } Z:=λ W kW=>by
 obtain ⟨V,Z1,Z2,a,b⟩:=h.keeps kW (λ _ _ f=>f)
 refine (axQ a.rf a0 bs hb a1 (aEY _) (by show B.R.nodes<=2048;omega)).mono ?_
 rintro e w' ⟨rfl,s⟩
 exact ⟨rfl,AaS.doc a b s (B.R.take_le true bs a0).2⟩
theorem Aa3.cell0 (h:Aa3 w tb m B Z):w.cell? ↑tb=some ↑m:=by
 obtain ⟨V,Z1,Z2,a,b⟩:=h
 have:=a.hm.cell 0
 simpa using this
theorem aAB (h:Aa3 w tb m B Z) (a4:B.R.put.length<=16) (hn:B.R.nodes<=1024) (bs:List UInt8) (hb:B.R.nowN=aaZ bs) (ad:bs.length=512) (k:Int) (ag:IntKind.i64.wrap k=k) :
  Calls prog 53 #[↑tb,I k] w (AjT w tb m (B.free bs k) Z):=by
 have aa:=aiO h k
 have a8:=AaA.refl NoF w
 have hq:=λ w' (x:AaA NoF w w')=>AaS.quiet h x
 have a5:=azE h a4 hn bs hb ad k ag
 have c0:=h.cell0
 have a0:=λ (hz:B.ranged k=0)=>by
  obtain ⟨h0,k1,k2,a2⟩:=TB.ranged_zero hz
  have a:=ahI h hn k1 k2
  have b:=afM h h0 (rdN (B.slot k.toNat)).1 (auT _)
  rw [a2] at a
  exact And.intro a b
 have a9:=λ (hz:B.ranged k=0) w7 (s:AaS w w7 tb m { B with R:=B.R.drop true bs k } Z)=>by
  obtain ⟨h0,k1,k2,a2⟩:=TB.ranged_zero hz
  have hd:=B.R.drop_le true bs k a4
  have hsl:B.sl.length=B.R.nodes:=h.slLen
  have a:=arD s.rep hd.1 k.toNat k1 (by show k.toNat<=B.sl.length;omega) (by show B.sl.length<=1024;omega) (aaD 128) (aaF _) (w7.alloc (aaE (aaD 128))) (.slice ↑w7.heap.size 128 128) ((AaA.refl _ w7).alloc _) (by
   have:=akQ (data:=aaD 128) (rest:=[]) (k:=0) (n:=128) (by rw [aE3];exact Blk.new w7 (aaE (aaD 128))) (aaF _) rfl (by decide)
   exact this) (λ i e=>by have:w7.heap.size=i:=aEP e;omega)
  rw [a2] at a
  exact a
 have a6:=alQ (B.slot k.toNat)
 have ae:B.free bs k=if B.ranged k=0 then
  (if (rdN (B.slot k.toNat)).1=0 then
   (if (rdN (B.slot k.toNat)).2.owned=0 then (if B.R.dropE true bs k=0 then ({ B with R:=B.R.drop true bs k }:TB).put k.toNat (aaD 128) else (B.R.dropE true bs k,{ B with R:=B.R.drop true bs k })) else (71,B))
   else ((rdN (B.slot k.toNat)).1,B.thrown (rdN (B.slot k.toNat)).1))
 else (B.ranged k,B):=rfl
 have hP:∀ c B',B.free bs k=(c,B')->∀ w',AaS w w' tb m B' Z->AjT w tb m (B.free bs k) Z (U (I (c:Nat))) w':=λ c B' e w' s=>by rw [e];exact ⟨rfl,s⟩
 generalize AjT w tb m (B.free bs k) Z=Post at *
 unfold AjV at a0
 rw [ae] at hP
 clear ae
 generalize rdN (B.slot k.toNat)=r at *
 obtain ⟨cr,nr⟩:=r
 dsimp only at a0 hP a6
 have af:∀ w7 e w',AjT w7 tb m (({ B with R:=B.R.drop true bs k }:TB).put k.toNat (aaD 128)) (Zn w w7 Z) e w'->e=U (I ((({ B with R:=B.R.drop true bs k }:TB).put k.toNat (aaD 128)).1:Nat))/\AaS w7 w' tb m (({ B with R:=B.R.drop true bs k }:TB).put k.toNat (aaD 128)).2 (Zn w w7 Z):=λ _ _ _ x=>x
 have a1:=λ hz w7 s=>(a9 hz w7 s).mono (λ e w' x=>af w7 e w' x)
 clear a9 af
 generalize ({ B with R:=B.R.drop true bs k }:TB).put k.toNat (aaD 128)=pr at *
 obtain ⟨cp,Bp⟩:=pr
 dsimp only at a1
 generalize ({ B with R:=B.R.drop true bs k }:TB)=Bd at *
 generalize B.R.dropE true bs k=de at *
 generalize B.thrown cr=Bt at *
 generalize B.ranged k=rg at *
 generalize ah:nr.owned=kr at *
 clear h
 replace ⟨aa,a8,hq,a5,a0,a1,a6,hP⟩:=yh8 aa a8 hq a5 a0 a1 a6 hP;replace hn:=hid hn;clear a4 hb ad
 go_enter Tryz.func53,Tryz.ntmps53
 go_wp2_with fail
 refine (aa.out _ a8.out).mono ?_
 rintro e w5 ⟨rfl,rfl⟩
 clear aa
 by_cases hz:rg=0
 ·subst hz
  obtain ⟨ab,a7⟩:=a0.out rfl
  have hPu:=a1.out rfl
  clear a0 a1
  replace ⟨ab,a7,hPu⟩:=yh3 ab a7 hPu
  go_upto_region 4 with fail
  go_wp2_with fail
  refine (ab.out _ a8.out).mono ?_
  rintro e w5 ⟨k5,rfl⟩
  clear ab
  go_upto_region 5 with (first
   | (refine aa0 rfl _ rfl _ _ (abI _) ?_;simp only [wz])
   | (refine aaL rfl 39 (.tmp 6) (.tmp 18) rfl w5.heap.size 0 39 (ndC Nd.zero) (ndC nr) rfl rfl (Blk.new _ _) (by rw [aaM a6.out];decide) (by rw [aaM a6.out];exact aaK) (abJ _) ?_;intro w6 b6 k6 _;rw [aa4 (by rw [aaM a6.out];rfl)] at b6))
  have kz:AaA NoF w5 w6:=((AaA.refl NoF w5).alloc (ndO Nd.zero)).fresh k6 (λ i e=>by omega)
  have kD:=k5.step kz
  have z6:=(b6.cell 4).trans (abF (n:=nr) a6.out).2.2.2.2.1
  have e6:nr.owned=kr:=ah
  rw [e6] at z6
  have c6:=kD.cellF c0 (λ f=>f)
  generalize w5.heap.size=nb at *
  clear k6 kz k5 c0
  by_cases hr0:cr=0
  ·subst hr0
   by_cases a2:kr=0
   ·have kb2:(kr != 0)=false:=by simpa using a2
    replace ⟨kD,b6,a2⟩:=yh3 kD b6 a2
    go_wp2_with fail
    refine (a5.out _ kD.out).mono ?_
    rintro e w7 ⟨rfl,s7⟩
    have s8:=s7.mv kD.out
    clear a5 s7
    by_cases ac:de=0
    ·subst ac
     have hPP:=hP.out cp Bp (by simp [a2.out])
     have a3:=hPu.out w7 s8
     clear hP hPu a7
     replace ⟨hPP,a3,s8⟩:=yh3 hPP a3 s8
     go_wp2_with fail
     refine (anT _).mono ?_
     rintro e w9 ⟨rfl,rfl⟩
     go_wp2_with fail
     refine a3.out.mono ?_
     rintro e w9 ⟨rfl,s9⟩
     have hQ:=hPP.out _ (s8.out.trans s9)
     clear hPP a3 s9 s8
     replace hQ:=hid hQ
     go_wp2
     exact hQ.out
    ·have kb3:((de:Int) != 0)=true:=by simpa using ac
     have hPP:=hP.out de Bd (by simp [ac,a2.out]) _ s8
     clear hP hPu a7 s8
     replace hPP:=hid hPP;clear ac
     go_wp2
     exact hPP.out
   ·have kb2:(kr != 0)=true:=by simpa using a2
    have hPP:=hP.out 71 B (by simp [a2]) _ (hq.out _ kD)
    clear hP a7 hPu a5
    replace ⟨hPP,kD,b6⟩:=yh3 hPP kD b6;clear a2
    go_wp2
    exact hPP.out
  ·have kb2:((cr:Int) != 0)=true:=by simpa using hr0
   have hPP:=hP.out cr Bt (by simp [hr0])
   clear hP hPu a5
   replace ⟨hPP,kD⟩:=yh2 hPP kD;clear b6 hr0
   go_wp2_with fail
   refine (a7.out _ kD.out).mono ?_
   rintro e w7 ⟨rfl,s7⟩
   have hQ:=hPP.out _ (s7.mv kD.out)
   clear a7 hPP s7
   replace hQ:=hid hQ
   go_wp2
   exact hQ.out
 ·have kb:((rg:Int) != 0)=true:=by simpa using hz
  have hPP:=hP.out rg B (if_neg hz) _ (hq.out _ a8.out)
  clear a0 hP a1 a5
  replace hPP:=hid hPP;clear hz
  go_wp2
  exact hPP.out
end
section
variable {w w':World} {tb m:Nat} {R:RP} {was sl:List (List UInt8)} {V:TabV} {Z1 Z2:Nat->Prop} {B:TB} {Z:Nat->Prop}
theorem AgX.newS (h:AgX w tb m R was sl V Z1 Z2) (h0:0<was.length) {lo:Nat} (a0:∀ i,Z1 i∨Z2 i->i<lo) (v:Value) (hv:w.ownsRow lo 40 1 v was.length V.uW) :
  AgX (w.setCell ⟨tb,2,none⟩ v) tb m R was was { V with S:=v,uS:=V.uW } Z1 (λ i=>Z2 i∨v.ownBlock=some i)/\AaA (λ i=>Z2 i) w (w.setCell ⟨tb,2,none⟩ v):=by
 have k:AaA (· = tb) w (w.setCell ⟨tb,2,none⟩ v):=(AaA.refl (· = tb) w).setCell (p:=⟨tb,2,none⟩) (.inl rfl) v
 have a1:∀ i,v.ownBlock=some i->lo<=i/\i<w.heap.size:=λ i e=>⟨aaV hv i e,ad1 hv e⟩
 have e1:=h.hm.setCell 2 v
 simp at e1
 have ow:=h.ow.far k (λ i e f=>abG h.ow.1 h.hm (by decide) (f ▸ e)) (λ u hu i e f=>by
  obtain ⟨l,hl⟩:=h.ow.each hu
  exact abG hl h.hm (by decide) (f ▸ e))
 refine ⟨{ hm:=e1,rf:=h.rf.keeps k (λ i z e=>h.dj i z (e ▸ h.zt)),ow:=ow,os:=⟨aeG (abE k (aeG hv (aEY _)) (λ i e f=>abG hv h.hm (by decide) (f ▸ e))) (aEY _),h.ow.2.1,ow.2.2⟩,zt:=.inl h.zt,zw:=λ i e=>.inl (h.zw i e),zs:=λ i e=>.inr e,zuw:=λ u hu i e=>.inl (h.zuw u hu i e),zus:=λ u hu i e=>.inl (h.zuw u hu i e),dj:=λ i z y=>y.elim (h.dj i z) (λ y=>by have:=a0 i (.inl z);have:=(a1 i y).1;omega),lt:=λ i z=>?_,ds:=?_,lw:=⟨h.lw.1,h.lw.1⟩,l8:=⟨h.l8.1,h.l8.1⟩ },k.mono (λ i _ e=>e ▸ h.zt)⟩
 ·rw [aES]
  rcases z with z|z|z
  ·exact h.lt i (.inl z)
  ·exact h.lt i (.inr z)
  ·exact (a1 i z).2
 ·show v.ownBlock≠V.W.ownBlock
  intro e
  obtain ⟨g,cap,hc,h1,_⟩:=ab9 hv h0
  have h2:=a0 g (.inr (h.zw g (by rw [← e,hc];rfl)))
  omega
theorem AgX.newW (h:AgX w tb m R was sl V Z1 Z2) (h0:0<sl.length) {lo:Nat} (a0:∀ i,Z1 i∨Z2 i->i<lo) (v:Value) (hv:w.ownsRow lo 40 1 v sl.length V.uS) :
  AgX (w.setCell ⟨tb,1,none⟩ v) tb m R sl sl { V with W:=v,uW:=V.uS } Z1 (λ i=>Z2 i∨v.ownBlock=some i)/\AaA (λ i=>Z2 i) w (w.setCell ⟨tb,1,none⟩ v):=by
 have k:AaA (· = tb) w (w.setCell ⟨tb,1,none⟩ v):=(AaA.refl (· = tb) w).setCell (p:=⟨tb,1,none⟩) (.inl rfl) v
 have a1:∀ i,v.ownBlock=some i->lo<=i/\i<w.heap.size:=λ i e=>⟨aaV hv i e,ad1 hv e⟩
 have e1:=h.hm.setCell 1 v
 simp at e1
 have os:=h.os.far k (λ i e f=>abG h.os.1 h.hm (by decide) (f ▸ e)) (λ u hu i e f=>by
  obtain ⟨l,hl⟩:=h.os.each hu
  exact abG hl h.hm (by decide) (f ▸ e))
 refine ⟨{ hm:=e1,rf:=h.rf.keeps k (λ i z e=>h.dj i z (e ▸ h.zt)),ow:=⟨aeG (abE k (aeG hv (aEY _)) (λ i e f=>abG hv h.hm (by decide) (f ▸ e))) (aEY _),h.os.2.1,os.2.2⟩,os:=os,zt:=.inl h.zt,zw:=λ i e=>.inr e,zs:=λ i e=>.inl (h.zs i e),zuw:=λ u hu i e=>.inl (h.zus u hu i e),zus:=λ u hu i e=>.inl (h.zus u hu i e),dj:=λ i z y=>y.elim (h.dj i z) (λ y=>by have:=a0 i (.inl z);have:=(a1 i y).1;omega),lt:=λ i z=>?_,ds:=?_,lw:=⟨h.lw.2,h.lw.2⟩,l8:=⟨h.l8.2,h.l8.2⟩ },k.mono (λ i _ e=>e ▸ h.zt)⟩
 ·rw [aES]
  rcases z with z|z|z
  ·exact h.lt i (.inl z)
  ·exact h.lt i (.inr z)
  ·exact (a1 i z).2
 ·show V.S.ownBlock≠v.ownBlock
  intro e
  obtain ⟨g,cap,hc,h1,_⟩:=ab9 hv h0
  have h2:=a0 g (.inr (h.zs g (by rw [e,hc];rfl)))
  omega
theorem axB (h:Aa3 w tb m B Z) (h0:0<B.R.nodes) (hn:B.R.nodes<=1024) :
  Calls prog 112 #[↑tb] w λ e w'=>e=U (.tuple #[])/\AaS w w' tb m ⟨B.R.begin,B.was,B.was⟩ Z:=by
 obtain ⟨V,Z1,Z2,a,b⟩:=h
 have hl:=a.lw.1
 have c0:=a.hm.cell 0
 simp at c0
 have hB:Calls prog 187 #[↑m] w λ e w1=>e=U (.tuple #[])/\w1.cell? ⟨tb,1,none⟩=some V.W /\
   Calls prog 111 #[V.W] w1 λ e w2=>∃ v,e=.returned v/\(∃ a n c,v=.slice a n c)/\w2.cell? ⟨tb,2,none⟩=some V.S/\w2.frozen? ⟨tb,2,none⟩=false/\AaS w (w2.setCell ⟨tb,2,none⟩ v) tb m ⟨B.R.begin,B.was,B.was⟩ Z:=by
  refine (axY a.rf).mono ?_
  rintro e w1 ⟨rfl,r1,k1⟩
  have a0:Z1 m:=by obtain ⟨RV,hr⟩:=a.rf;exact hr.zm
  have s1:AdV w w1 m B.R.begin Z1:=⟨r1,k1.mono λ i _ e=>e ▸ a0⟩
  have a1:=a.doc s1 (by rfl)
  have c1:=a1.hm.cell 1
  simp at c1
  refine ⟨rfl,c1,(alK w1 V.W B.was V.uW a1.ow (by omega) (by omega)).mono ?_⟩
  rintro e w2 ⟨v,rfl,hv,k2⟩
  have a2:=a1.keeps k2 (λ _ _ f=>f)
  have c2:=a2.hm.cell 2
  simp at c2
  obtain ⟨a3,k3⟩:=a2.newS (by omega) (lo:=w1.heap.size) a1.lt v hv
  have z1:=s1.k.size
  have z2:=k2.size
  obtain ⟨pa,pc,a4⟩:=acG hv
  refine ⟨v,rfl,⟨_,_,_,a4⟩,c2,a2.hm.frz 2,⟨⟨_,_,_,a3,λ i z=>?_⟩,(s1.k.mono λ i _ z=>b i (.inl z)).trans ((k2.mono (F:=λ _=>False) (G:=Z) λ _ _ f=>f.elim).trans k3 (λ i _ z=>b i (.inr z))) (λ i _ z=>z)⟩⟩
  rw [Zn,aES]
  rcases z with (z|z)|z|z
  ·exact .inl (b i (.inl z))
  ·exact .inr ⟨z.1,by omega⟩
  ·exact .inl (b i (.inr z))
  ·have:=aaV hv i z;have:=ad1 hv z;exact .inr ⟨by omega,by omega⟩
 replace hB:=hid hB;clear a b hl
 go_enter Tryz.func112,Tryz.ntmps112
 go_wp2_with fail
 refine hB.out.mono ?_
 rintro e w1 ⟨rfl,c1,hC⟩
 clear hB
 replace hC:=hid hC
 go_wp2_with fail
 refine hC.out.mono ?_
 rintro e w2 ⟨v,rfl,⟨pa,pn,pc,rfl⟩,c2,f2,s2⟩
 clear hC
 replace s2:=hid s2
 go_wp2_with fail
 go_end0
 exact ⟨rfl,s2.out⟩
theorem at8 (h:Aa3 w tb m B Z) (h0:0<B.R.nodes) (hn:B.R.nodes<=1024) (hst:B.R.state=0) :
  Calls prog 126 #[↑tb] w λ e w'=>e=U (I 0)/\AaS w w' tb m ⟨B.R.commit,B.sl,B.sl⟩ Z:=by
 obtain ⟨V,Z1,Z2,a,b⟩:=h
 have hl:=a.lw.2
 have c0:=a.hm.cell 0
 simp at c0
 have hB:Calls prog 196 #[↑m] w λ e w1=>e=U (I 0)/\w1.cell? ⟨tb,2,none⟩=some V.S /\
   Calls prog 111 #[V.S] w1 λ e w2=>∃ v,e=.returned v/\(∃ a n c,v=.slice a n c)/\w2.cell? ⟨tb,1,none⟩=some V.W/\w2.frozen? ⟨tb,1,none⟩=false/\AaS w (w2.setCell ⟨tb,1,none⟩ v) tb m ⟨B.R.commit,B.sl,B.sl⟩ Z:=by
  refine (auU a.rf (λ i z=>a.lt i (.inl z)) hst).mono ?_
  rintro e w1 ⟨rfl,s1⟩
  have a1:=a.doc s1 (by rfl)
  have c1:=a1.hm.cell 2
  simp at c1
  refine ⟨rfl,c1,(alK w1 V.S B.sl V.uS a1.os (by omega) (by omega)).mono ?_⟩
  rintro e w2 ⟨v,rfl,hv,k2⟩
  have a2:=a1.keeps k2 (λ _ _ f=>f)
  have c2:=a2.hm.cell 1
  simp at c2
  obtain ⟨a3,k3⟩:=a2.newW (by omega) (lo:=w1.heap.size) a1.lt v hv
  have z1:=s1.k.size
  have z2:=k2.size
  obtain ⟨pa,pc,a0⟩:=acG hv
  refine ⟨v,rfl,⟨_,_,_,a0⟩,c2,a2.hm.frz 1,⟨⟨_,_,_,a3,λ i z=>?_⟩,(s1.k.mono λ i _ z=>b i (.inl z)).trans ((k2.mono (F:=λ _=>False) (G:=Z) λ _ _ f=>f.elim).trans k3 (λ i _ z=>b i (.inr z))) (λ i _ z=>z)⟩⟩
  rw [Zn,aES]
  rcases z with (z|z)|z|z
  ·exact .inl (b i (.inl z))
  ·exact .inr ⟨z.1,by omega⟩
  ·exact .inl (b i (.inr z))
  ·have:=aaV hv i z;have:=ad1 hv z;exact .inr ⟨by omega,by omega⟩
 replace hB:=hid hB;clear a b hl
 go_enter Tryz.func126,Tryz.ntmps126
 go_wp2_with fail
 refine hB.out.mono ?_
 rintro e w1 ⟨rfl,c1,hC⟩
 clear hB
 replace hC:=hid hC
 go_wp2_with fail
 refine hC.out.mono ?_
 rintro e w2 ⟨v,rfl,⟨pa,pn,pc,rfl⟩,c2,f2,s2⟩
 clear hC
 replace s2:=hid s2
 go_wp2_with fail
 go_ret
 exact ⟨rfl,s2.out⟩
theorem ap6 (h:Aa3 w tb m B Z) (hst:B.R.state≠0) :
  Calls prog 126 #[↑tb] w λ e w'=>e=U (I (B.R.state:Nat))/\w=w':=by
 obtain ⟨V,Z1,Z2,a,b⟩:=h
 have c0:=a.hm.cell 0
 simp at c0
 have hC:=aqN a.rf hst
 generalize B.R.state=st at *
 have b0:((st:Int) == 0)=false:=by rw [aE2];simp;omega
 replace hC:=hid hC;clear a b hst
 go_enter Tryz.func126,Tryz.ntmps126
 go_wp2_with fail
 refine hC.out.mono ?_
 rintro e w1 ⟨rfl,rfl⟩
 go_wp2_with fail
 go_ret
 exact ⟨rfl,rfl⟩
end
end Go.Vk
