/- Part of the proof: Nn8 Nn9 No1 No2. -/
import Derived.Test.YtjeelghnmkefcaaGreatQ43
import Derived.Deep.CutBlock
import Derived.Deep.CutRange
import Derived.Deep.RegionHeld2
set_option linter.unusedVariables false
set_option maxHeartbeats 16000000
set_option maxRecDepth 100000
namespace Go.Vk
open Go.RowKit Go.Proofs
open Tryz (prog)
def TS.makeC (T:TS) (G:Geom) (kind parent:Int):Nat × Nat × TS:=
 if argE G.n kind parent=0 then
  (if (T.take G true).1.2=0 then
   (((T.take G true).2.laySl (T.take G true).1.1 (encN (acY kind parent))).1,if ((T.take G true).2.laySl (T.take G true).1.1 (encN (acY kind parent))).1=0 then (T.take G true).1.1 else 0,((T.take G true).2.laySl (T.take G true).1.1 (encN (acY kind parent))).2)
   else ((T.take G true).1.2,0,(T.take G true).2))
 else (argE G.n kind parent,0,T)
def intO (x:Int):Obj:=.cells #[I x] 3 (0,0)
def ajR (kind parent:Int):Nd:=⟨kind,0,parent,0,0,List.replicate 12 0⟩
theorem atK (kind parent:Int) (w:World):(Instr.build 39 #[(0,I kind),(2,I parent)]).run prog w=.ok (ndV (ajR kind parent)) w:=by kernel_rfl
section
variable {w w':World} {C:TxC} {T T':TS} {X Y:Nat->Prop} {tab p:Nat}
structure AjY (w:World) (X:Nat->Prop) (tab bk bp bt bn:Nat) (kind parent:Int):Prop where
 ck:w.cell? ↑bk=some (I kind)
 cp:w.cell? ↑bp=some (I parent)
 ct:w.cell? ↑bt=some ↑tab
 bb:Blk w bn (intO 0)
 xk:X bk
 xp:X bp
 xt:X bt
 xn:X bn
 nk:bk≠bn
 np:bp≠bn
 nt:bt≠bn
variable {bk bp bt bn:Nat} {kind parent:Int}
theorem AjY.step (h:AjY w X tab bk bp bt bn kind parent) {F:Nat->Prop} (k:AaA F w w') (hF:∀ i,X i->¬ F i):AjY w' X tab bk bp bt bn kind parent:=
 ⟨k.cellF h.ck (hF _ h.xk),k.cellF h.cp (hF _ h.xp),k.cellF h.ct (hF _ h.xt),k.blk h.bb (hF _ h.xn),h.xk,h.xp,h.xt,h.xn,h.nk,h.np,h.nt⟩
theorem avI (h:Ab4 w C T X tab p) (he:AjY w X tab bk bp bt bn kind parent) (hz:argE C.G.n kind parent≠0) :
  Calls prog 101 #[↑bk,↑bp,↑bt,↑bn] w (AcI w C (argE C.G.n kind parent) T X (· = bn) (λ w'=>Blk w' bn (intO 0))):=by
 have hP:∀ w',AaA NoF w w'->∀ e,endE (argE C.G.n kind parent) e->AcI w C (argE C.G.n kind parent) T X (· = bn) (λ w'=>Blk w' bn (intO 0)) e w':=λ w' k e x=>⟨x,h.pl.quiet k,k.blk he.bb (λ f=>f),k.mono λ _ _ f=>f.elim⟩
 generalize AcI w C (argE C.G.n kind parent) T X (· = bn) (λ w'=>Blk w' bn (intO 0))=Post at *
 have hK:=λ (w:World) (h:Ab4 w C T X tab p)=>aiV h parent
 have ck:=he.ck
 have cp:=he.cp
 have ct:=he.ct
 have lk:=(h.pl.lt _ he.xk)
 have lp:=(h.pl.lt _ he.xp)
 have lt:=(h.pl.lt _ he.xt)
 have a4:=λ w=>atK kind parent w
 have hst:∀ w3:World,AaA (· = w.heap.size) (w.alloc (ndO Nd.zero)) w3->AaA NoF w w3/\w3.cell? ↑bk=some (I kind)/\w3.cell? ↑bp=some (I parent)/\w3.cell? ↑bt=some ↑tab:=λ w3 k3=>by
  have kk:AaA NoF w w3:=((AaA.refl NoF w).alloc _).fresh k3 (λ i e=>by omega)
  exact ⟨kk,kk.cellF ck (λ f=>f),kk.cellF cp (λ f=>f),kk.cellF ct (λ f=>f)⟩
 replace ⟨h,hP,hK,hst,hz⟩:=yh5 h hP hK hst hz;clear he a4 lk lp lt
 go_enter Tryz.func101,Tryz.ntmps101
 go_upto_region 0 with fail
 go_step
 iterate 2 (refine aaR rfl _ _ (by go_simp;exact ⟨rfl,rfl⟩) ?_;simp only [wz])
 refine abT rfl _ _ rfl (ndV (ajR kind parent)) w (by kernel_rfl) ?_
 simp only [wz]
 refine aa0 rfl _ rfl _ _ (abI _) ?_
 simp only [wz]
 refine aaL rfl 39 (.tmp 4) (.tmp 9) rfl w.heap.size 0 39 (ndC Nd.zero) (ndC (ajR kind parent)) rfl rfl (Blk.new _ _) (Nat.le_of_eq rfl) aaK (abJ _) ?_
 intro w3 b3 k3 _
 obtain ⟨kk,dk,dp,dt⟩:=hst.out w3 k3
 clear b3 k3 ck cp ct
 replace kk:=hid kk
 have a2:=hK.out w3 (h.out.quiet kk.out)
 have a1:=λ c (x:argE C.G.n kind parent=c) (h:c≠0)=>(λ w' (k:AaA NoF w3 w')=>hP.out w' (kk.out.step k) (thrE c) (x.symm ▸ adE h))
 replace ⟨a2,a1⟩:=yh2 a2 a1
 clear hK hP hst h
 by_cases h2:kind=2
 ·have hk1:(kind == 1)=false:=by rw [aE2];simp;omega
  have a3:(kind == 3)=false:=by rw [aE2];simp;omega
  have hk2:(kind == 2)=true:=by simpa using h2
  have ho:parent<1∨(C.G.n:Int)<parent:=aE7 λ x=>hz.out (by unfold argE;rw [if_pos h2,if_neg x])
  have hQ:=a1.out 11 (by unfold argE;rw [if_pos h2,if_pos ho]) (by decide)
  replace ⟨h2,ho,hQ⟩:=yh3 h2 ho hQ
  go_wp2_with fail
  refine a2.out.mono ?_
  rintro e w4 ⟨k4,hX⟩
  rcases hX with ⟨x,_⟩|⟨_,rfl⟩
  ·exact absurd ho.out x
  ·exact ⟨rfl,hQ.out _ k4⟩
 ·have hk2:(kind == 2)=false:=by rw [aE2];simpa using h2
  by_cases h1:kind=1
  ·have hk1:(kind == 1)=true:=by simpa using h1
   have a0:parent≠0:=λ x=>hz.out (by unfold argE;rw [if_neg h2,if_pos (.inl h1),if_pos x])
   have a5:(parent != 0)=true:=by simpa using a0
   have hQ:=a1.out 1 (by unfold argE;rw [if_neg h2,if_pos (.inl h1),if_neg a0]) (by decide) w3 (AaA.refl _ _)
   replace ⟨h2,h1,a0,hQ⟩:=yh4 h2 h1 a0 hQ
   go_wp2_with fail
   exact ⟨rfl,hQ.out⟩
  ·have hk1:(kind == 1)=false:=by rw [aE2];simpa using h1
   by_cases h3:kind=3
   ·have a3:(kind == 3)=true:=by simpa using h3
    have a0:parent≠0:=λ x=>hz.out (by unfold argE;rw [if_neg h2,if_pos (.inr h3),if_pos x])
    have a5:(parent != 0)=true:=by simpa using a0
    have hQ:=a1.out 1 (by unfold argE;rw [if_neg h2,if_pos (.inr h3),if_neg a0]) (by decide) w3 (AaA.refl _ _)
    replace ⟨h2,h1,h3,hQ⟩:=yh4 h2 h1 h3 hQ;clear a0
    go_wp2_with fail
    exact ⟨rfl,hQ.out⟩
   ·have a3:(kind == 3)=false:=by rw [aE2];simpa using h3
    have hQ:=a1.out 1 (by unfold argE;rw [if_neg h2,if_neg (λ x=>x.elim h1 h3)]) (by decide) w3 (AaA.refl _ _)
    replace hQ:=hid hQ;clear h2 h1 h3
    go_wp2_with fail
    exact ⟨rfl,hQ.out⟩
end
theorem as3 {kind:Int} (h:kind≠2) (parent:Int):acY kind parent=ajR kind parent:=by unfold acY ajR;rw [if_neg h]
theorem avE {kind:Int} (h:kind=2) (parent:Int):(ndC (ajR kind parent)).toArray.setIfInBounds 1 (I 2)=(ndC (acY kind parent)).toArray:=by
 unfold acY;rw [if_pos h];rfl
theorem auW {T:TS} {b:Nat} {d:List UInt8} (h:(T.puts b d).1=0):(T.puts b d).2.st=T.st:=by
 unfold TS.puts at h ⊢
 unfold TS.st
 by_cases h1:T.raw b=d
 ·simp only [if_pos h1]
 ·simp only [if_neg h1] at h ⊢
  by_cases h2:b∈T.put
  ·simp only [if_pos h2];rfl
  ·simp only [if_neg h2] at h ⊢
   by_cases h3:T.put.length=16
   ·simp only [if_pos h3] at h;cases h
   ·simp only [if_neg h3];rfl
theorem axE {T:TS} {G:Geom} (h0:T.st=0) (h:(T.take G true).1.2=0):1<=(T.take G true).1.1/\(T.take G true).1.1<=G.n/\(T.take G true).2.st=0:=by
 unfold TS.take at h ⊢
 simp only [if_pos h0] at h ⊢
 unfold TS.takeX at h ⊢
 cases hf:abA (T.raw true.toNat) (xLo G true) (xHi G true) with
 | none=>rw [hf] at h;cases h
 | some i=>
  rw [hf] at h
  dsimp only at h ⊢
  obtain ⟨a1,a2,_,_⟩:=acL hf
  rw [if_pos h]
  have hx:xHi G true=G.n:=rfl
  refine ⟨Nat.le_add_left _ _,?_,by rw [auW h];exact h0⟩
  show i+1<=G.n
  omega
section
variable {w w':World} {C:TxC} {T T':TS} {X Y:Nat->Prop} {tab p:Nat} {bk bp bt bn:Nat} {kind parent:Int}
theorem nd17 {w:World} {b:Nat} {kind links parent:Int} (h:Blk w b (ndO ⟨kind,links,parent,0,0,List.replicate 12 0⟩)):w.cell? ↑b=some (I kind)/\w.cell? ⟨b,1,none⟩=some (I links)/\w.cell? ⟨b,2,none⟩=some (I parent)/\w.cell? ⟨b,3,none⟩=some (I 0)/\w.cell? ⟨b,4,none⟩=some (I 0)/\w.cell? ⟨b,5,none⟩=some (I 0)/\w.cell? ⟨b,6,none⟩=some (I 0)/\w.cell? ⟨b,7,none⟩=some (I 0)/\w.cell? ⟨b,8,none⟩=some (I 0)/\w.cell? ⟨b,9,none⟩=some (I 0)/\w.cell? ⟨b,10,none⟩=some (I 0)/\w.cell? ⟨b,11,none⟩=some (I 0)/\w.cell? ⟨b,12,none⟩=some (I 0)/\w.cell? ⟨b,13,none⟩=some (I 0)/\w.cell? ⟨b,14,none⟩=some (I 0)/\w.cell? ⟨b,15,none⟩=some (I 0)/\w.cell? ⟨b,16,none⟩=some (I 0):=
 ⟨h.cell 0,h.cell 1,h.cell 2,h.cell 3,h.cell 4,h.cell 5,h.cell 6,h.cell 7,h.cell 8,h.cell 9,h.cell 10,h.cell 11,h.cell 12,h.cell 13,h.cell 14,h.cell 15,h.cell 16⟩
def ACI (w:World) (nb:Nat) (n:Nd) (wx:World):Prop:=AaA NoF w wx/\Blk wx nb (ndO n)/\nb<wx.heap.size
theorem AjY.drew (h:AjY w X tab bk bp bt bn kind parent):AjY w.drew X tab bk bp bt bn kind parent:=h.step ((AaA.refl NoF w).drew) (λ _ _ f=>f)
theorem ayE (h:Ab4 w C T X tab p) (h0:T.st=0) (he:AjY w X tab bk bp bt bn kind parent) (hz:argE C.G.n kind parent=0) (ab:bn≠tab) (ac:bn≠p) :
  Calls prog 101 #[↑bk,↑bp,↑bt,↑bn] w (AcI w C (T.makeC C.G kind parent).1 (T.makeC C.G kind parent).2.2 X (· = bn) (λ w'=>Blk w' bn (intO ((T.makeC C.G kind parent).2.1:Nat)))):=by
 obtain ⟨Post,hPost⟩:∃ Post,AcI w C (T.makeC C.G kind parent).1 (T.makeC C.G kind parent).2.2 X (· = bn) (λ w'=>Blk w' bn (intO ((T.makeC C.G kind parent).2.1:Nat)))=Post:=⟨_,rfl⟩
 rw [hPost]
 have hP:∀ e w',AcI w C (T.makeC C.G kind parent).1 (T.makeC C.G kind parent).2.2 X (· = bn) (λ w'=>Blk w' bn (intO ((T.makeC C.G kind parent).2.1:Nat))) e w'->Post e w':=λ e w' x=>hPost ▸ x
 clear hPost
 have hK:=λ (w:World) (h:Ab4 w C T X tab p)=>aiV h parent
 have ck:=he.ck
 have cp:=he.cp
 have ct:=he.ct
 have hst:∀ w3:World,AaA (· = w.heap.size) (w.alloc (ndO Nd.zero)) w3->AaA NoF w w3/\w3.cell? ↑bk=some (I kind)/\w3.cell? ↑bp=some (I parent)/\w3.cell? ↑bt=some ↑tab:=λ w3 k3=>by
  have kk:AaA NoF w w3:=((AaA.refl NoF w).alloc _).fresh k3 (λ i e=>by omega)
  exact ⟨kk,kk.cellF ck (λ f=>f),kk.cellF cp (λ f=>f),kk.cellF ct (λ f=>f)⟩
 replace ⟨h,h0,he,hP,hK,hst,hz⟩:=yh7 h h0 he hP hK hst hz;clear ab ac
 go_enter Tryz.func101,Tryz.ntmps101
 go_upto_region 0 with fail
 go_step
 iterate 2 (refine aaR rfl _ _ (by go_simp;exact ⟨rfl,rfl⟩) ?_;simp only [wz])
 refine abT rfl _ _ rfl (ndV (ajR kind parent)) w (by kernel_rfl) ?_
 simp only [wz]
 refine aa0 rfl _ rfl _ _ (abI _) ?_
 simp only [wz]
 refine aaL rfl 39 (.tmp 4) (.tmp 9) rfl w.heap.size 0 39 (ndC Nd.zero) (ndC (ajR kind parent)) rfl rfl (Blk.new _ _) (Nat.le_of_eq rfl) aaK (abJ _) ?_
 intro w3 b3 k3 _
 rw [aa4 (cs:=ndC Nd.zero) (vs:=ndC (ajR kind parent)) rfl] at b3
 obtain ⟨kk,dk,dp,dt⟩:=hst.out w3 k3
 have aa:=b3.lt
 clear k3 ck cp ct
 have a5:=hK.out w3 (h.out.quiet kk)
 replace ⟨kk,a5,b3⟩:=yh3 kk a5 b3
 clear hK hst
 go_upto_block 0 with fail
 go_cut [] from 11 to 40 (λ wx=>ACI w w.heap.size (acY kind parent) wx)
 case first=>
  by_cases h2:kind=2
  ·have hk1:(kind == 1)=false:=by rw [aE2];simp;omega
   have ad:(kind == 3)=false:=by rw [aE2];simp;omega
   have hk2:(kind == 2)=true:=by simpa using h2
   have ho:¬ (parent<1∨(C.G.n:Int)<parent):=λ x=>by have:=hz.out;unfold argE at this;rw [if_pos h2,if_pos x] at this;cases this
   replace ⟨h2,ho⟩:=yh2 h2 ho
   go_wp2_with fail
   refine a5.out.mono ?_
   rintro e w4 ⟨k4,hX⟩
   rcases hX with ⟨_,rfl⟩|⟨x,_⟩
   rotate_left
   ·exact absurd x ho.out
   have b4:=k4.blk b3.out (λ f=>f)
   have c1:w4.cell? ⟨w.heap.size,1,none⟩=some (I 0):=b4.cell 1
   have cf:=b4.frz 1
   have k5:AaA NoF w (w4.setCell ⟨w.heap.size,1,none⟩ (I 2)):=(kk.out.step k4).setCell (p:=⟨w.heap.size,1,none⟩) (.inr (aEK _)) _
   have b5:=b4.setCell 1 (I 2)
   rw [avE h2.out] at b5
   have hM:ACI w w.heap.size (acY kind parent) (w4.setCell ⟨w.heap.size,1,none⟩ (I 2)):=⟨k5,b5,by rw [aES];exact b4.lt⟩
   clear k5 b5 k4 b4
   replace hM:=hid hM
   go_wp2_with fail
   go_meet
   case rel=>exact hM.out
  ·have hk2:(kind == 2)=false:=by rw [aE2];simpa using h2
   have hM:ACI w w.heap.size (acY kind parent) w3:=⟨kk.out,by rw [as3 h2];exact b3.out,aa⟩
   have a3:kind=1∨kind=3:=aE7 λ x=>by have:=hz.out;unfold argE at this;rw [if_neg h2,if_neg x] at this;cases this
   have a6:parent=0:=aE7 λ x=>by have:=hz.out;unfold argE at this;rw [if_neg h2,if_pos a3,if_neg x] at this;cases this
   have af:(parent != 0)=false:=by simpa using a6
   rcases a3 with h1|h1
   ·have hk1:(kind == 1)=true:=by simpa using h1
    replace ⟨hM,h1,h2,a6⟩:=yh4 hM h1 h2 a6
    go_wp2_with fail
    go_meet
    case rel=>exact hM.out
   ·have hk1:(kind == 1)=false:=by rw [aE2];simp;omega
    have ad:(kind == 3)=true:=by simpa using h1
    replace hM:=hid hM;clear h1 h2 a6
    go_wp2_with fail
    go_meet
    case rel=>exact hM.out
 case rest=>
 obtain ⟨kM,bM,lM⟩:=hcut
 have NM:=h.out.wide kM
 have eM:=he.out.step kM (λ _ _ f=>f)
 have xb:Wid X w wc w.heap.size:=.inr ⟨aEK _,lM⟩
 have hT:=NM.pl.takeN NM.hp NM.xp
 have dt2:=eM.ct
 clear dk dp dt b3 kk a5 aa
 obtain ⟨at0,bt0⟩:=NM.cells
 have a4:=λ (i:Nat) (hi:X i)=>NM.pl.notF (i:=i) (.inl hi)
 have hnb:=NM.pl.notF xb
 have lX:=h.out.pl.lt
 replace ⟨hT,NM,eM,kM,bM,lM,a4,hnb⟩:=yh8 hT NM eM kM bM lM a4 hnb;replace lX:=hid lX;clear xb
 go_wp2_with fail
 refine hT.out.mono ?_
 rintro e w5 ⟨rfl,P5,k5⟩
 have N5:=NM.out.step k5 (λ i x=>.inl x) P5
 have e5:=eM.out.step k5 a4.out
 have b5:=k5.blk bM.out hnb.out
 have kA:AaA (λ i=>KF C i∨i=bn) w w5:=(kM.out.mono (F:=λ _=>False) (G:=λ i=>KF C i∨i=bn) (λ _ _ f=>f.elim)).step (k5.mono λ _ _ x=>.inl x)
 have l5:=k5.size
 clear dt2 hT NM eM bM kM k5 P5 at0 bt0
 have a0:T.makeC C.G kind parent=if (T.take C.G true).1.2=0 then (((T.take C.G true).2.laySl (T.take C.G true).1.1 (encN (acY kind parent))).1,if ((T.take C.G true).2.laySl (T.take C.G true).1.1 (encN (acY kind parent))).1=0 then (T.take C.G true).1.1 else 0,((T.take C.G true).2.laySl (T.take C.G true).1.1 (encN (acY kind parent))).2) else ((T.take C.G true).1.2,0,(T.take C.G true).2):=if_pos hz.out
 by_cases a2:(T.take C.G true).1.2=0
 ·rw [if_pos a2] at a0
  obtain ⟨m1,m2,m3⟩:=axE h0.out a2
  rw [a2]
  have a1:Ac4 (acY kind parent):=.inr (ao9 N5.pl.geo.n2 hz.out)
  generalize (T.take C.G true).1.1=num at *
  generalize (T.take C.G true).2=T5 at *
  have N5d:=N5.quiet ((AaA.refl NoF w5).drew)
  have hS:=alY N5d m3 num m1 m2
  have ct5:=e5.drew.ct
  obtain ⟨links,ae⟩:∃ l:Int,acY kind parent=⟨kind,l,parent,0,0,List.replicate 12 0⟩:=⟨_,rfl⟩
  rw [ae] at a0 a1 b5
  have rg5:=nd17 b5.drew
  have sz5:w5.drew.heap.size=w5.heap.size:=rfl
  have hsl:∀ e w6,AjU w5.drew C T5 (Wid X w wc) tab p num e w6->∃ g c,e=U (afX num (nblk num) g (512+c))/\w5.heap.size<=g/\Blk w6 g (aaE (T5.raw (nblk num)++aaD c))/\Ab4 w6 C T5 (Wid (Wid X w wc) w5.drew w6) tab p/\AjY w6 X tab bk bp bt bn kind parent/\Blk w6 w.heap.size (ndO ⟨kind,links,parent,0,0,List.replicate 12 0⟩)/\AaA (λ i=>KF C i∨i=bn) w w6/\w6.cell? ↑bt=some ↑tab/\(w6.cell? ↑w.heap.size=some (I kind)/\w6.cell? ⟨w.heap.size,1,none⟩=some (I links)/\w6.cell? ⟨w.heap.size,2,none⟩=some (I parent)/\w6.cell? ⟨w.heap.size,3,none⟩=some (I 0)/\w6.cell? ⟨w.heap.size,4,none⟩=some (I 0)/\w6.cell? ⟨w.heap.size,5,none⟩=some (I 0)/\w6.cell? ⟨w.heap.size,6,none⟩=some (I 0)/\w6.cell? ⟨w.heap.size,7,none⟩=some (I 0)/\w6.cell? ⟨w.heap.size,8,none⟩=some (I 0)/\w6.cell? ⟨w.heap.size,9,none⟩=some (I 0)/\w6.cell? ⟨w.heap.size,10,none⟩=some (I 0)/\w6.cell? ⟨w.heap.size,11,none⟩=some (I 0)/\w6.cell? ⟨w.heap.size,12,none⟩=some (I 0)/\w6.cell? ⟨w.heap.size,13,none⟩=some (I 0)/\w6.cell? ⟨w.heap.size,14,none⟩=some (I 0)/\w6.cell? ⟨w.heap.size,15,none⟩=some (I 0)/\w6.cell? ⟨w.heap.size,16,none⟩=some (I 0)):=by
   rintro e w6 ⟨g,c,rfl,y1,y2,y3,y4⟩
   have e6:=e5.drew.step y4 a4.out
   have b6:=y4.blk b5.drew hnb.out
   refine ⟨g,c,rfl,y1,y2,y3,e6,b6,kA.drew.step (y4.mono λ _ _ x=>.inl x),e6.ct,nd17 b6⟩
  have a7:∀ (w6:World) (g c:Nat),w5.heap.size<=g->Blk w6 g (aaE (T5.raw (nblk num)++aaD c))->Ab4 w6 C T5 (Wid (Wid X w wc) w5.drew w6) tab p->Calls prog 104 #[↑tab,afX num (nblk num) g (512+c),.agg #[I kind,I links,I parent,I 0,I 0,I 0,I 0,I 0,I 0,I 0,I 0,I 0,I 0,I 0,I 0,I 0,I 0]] w6 (AnM w6 C (T5.laySl num (encN ⟨kind,links,parent,0,0,List.replicate 12 0⟩)) (Wid (Wid X w wc) w5.drew w6) g):=λ w6 g c y1 y2 y3=>
   avD y3 m3 num g c m1 m2 y2 (.inr ⟨y1,y2.lt⟩) (by have:=N5.pl.lt tab N5.xt;omega) (by have:=N5.pl.lt p N5.xp;omega) (rfl) a1
  have hfin:∀ (w6 w7:World) (g:Nat),w5.heap.size<=g->AjY w6 X tab bk bp bt bn kind parent->Blk w6 w.heap.size (ndO ⟨kind,links,parent,0,0,List.replicate 12 0⟩)->AaA (λ i=>KF C i∨i=bn) w w6->Aa6 w7 C (T5.laySl num (encN ⟨kind,links,parent,0,0,List.replicate 12 0⟩)).2 (Wid (Wid X w wc) w5.drew w6)->AaA (λ i=>KF C i∨i=g) w6 w7 ->
    AjY w7 X tab bk bp bt bn kind parent/\AaA (λ i=>KF C i∨i=bn) w w7/\Aa6 w7 C (T5.laySl num (encN ⟨kind,links,parent,0,0,List.replicate 12 0⟩)).2 X/\w7.cell? ↑bt=some ↑tab/\(w7.cell? ↑w.heap.size=some (I kind)/\w7.cell? ⟨w.heap.size,1,none⟩=some (I links)/\w7.cell? ⟨w.heap.size,2,none⟩=some (I parent)/\w7.cell? ⟨w.heap.size,3,none⟩=some (I 0)/\w7.cell? ⟨w.heap.size,4,none⟩=some (I 0)/\w7.cell? ⟨w.heap.size,5,none⟩=some (I 0)/\w7.cell? ⟨w.heap.size,6,none⟩=some (I 0)/\w7.cell? ⟨w.heap.size,7,none⟩=some (I 0)/\w7.cell? ⟨w.heap.size,8,none⟩=some (I 0)/\w7.cell? ⟨w.heap.size,9,none⟩=some (I 0)/\w7.cell? ⟨w.heap.size,10,none⟩=some (I 0)/\w7.cell? ⟨w.heap.size,11,none⟩=some (I 0)/\w7.cell? ⟨w.heap.size,12,none⟩=some (I 0)/\w7.cell? ⟨w.heap.size,13,none⟩=some (I 0)/\w7.cell? ⟨w.heap.size,14,none⟩=some (I 0)/\w7.cell? ⟨w.heap.size,15,none⟩=some (I 0)/\w7.cell? ⟨w.heap.size,16,none⟩=some (I 0)):=by
   intro w6 w7 g y1 y2 y3 y4 y5 y6
   have e7:=y2.step y6 (λ i hi x=>x.elim (a4.out i hi) (λ e=>by have:=lX.out i hi;have:=lM.out;omega))
   have b7:=y6.blk y3 (λ x=>x.elim hnb.out (λ e=>by have:=lM.out;omega))
   refine ⟨e7,y4.trans y6 (λ i hi x=>x.elim .inl (λ e=>by have:=lM.out;omega)),y5.less (λ i hi=>.inl (.inl hi)),e7.ct,nd17 b7⟩
  have a8:∀ w7,(T5.laySl num (encN ⟨kind,links,parent,0,0,List.replicate 12 0⟩)).1≠0->AjY w7 X tab bk bp bt bn kind parent->Aa6 w7 C (T5.laySl num (encN ⟨kind,links,parent,0,0,List.replicate 12 0⟩)).2 X->AaA (λ i=>KF C i∨i=bn) w w7->Post (thrE (T5.laySl num (encN ⟨kind,links,parent,0,0,List.replicate 12 0⟩)).1) w7:=λ w7 a b c d=>by
   refine hP.out _ w7 ?_
   rw [a0]
   exact ⟨adE a,c,by dsimp only;rw [if_neg a];exact b.bb,d⟩
  have hPr:∀ w7,(T5.laySl num (encN ⟨kind,links,parent,0,0,List.replicate 12 0⟩)).1=0->AjY w7 X tab bk bp bt bn kind parent->Aa6 w7 C (T5.laySl num (encN ⟨kind,links,parent,0,0,List.replicate 12 0⟩)).2 X->AaA (λ i=>KF C i∨i=bn) w w7->Post (U (.tuple #[])) (w7.setCell ↑bn (I num)):=λ w7 a b c d=>by
   refine hP.out _ _ ?_
   rw [a0]
   have k8:=(AaA.refl (· = bn) w7).setCell (p:=⟨bn,0,none⟩) (.inl rfl) (I num)
   refine ⟨.inl ⟨a,rfl⟩,c.grow k8 (λ i _ e=>e ▸ b.xn) (λ i hi=>⟨aEJ (c.lt i hi) k8.size,.inl hi⟩),?_,d.step (k8.mono λ _ _ e=>.inr e)⟩
   dsimp only
   rw [if_pos a]
   have:=b.bb.setCell 0 (I num)
   simpa [intO] using this
  replace ⟨N5,e5,b5,kA,a0,hS,hsl,a7⟩:=yh8 N5 e5 b5 kA a0 hS hsl a7;replace ⟨hfin,a8,hPr⟩:=yh3 hfin a8 hPr;clear a1 N5d
  go_upto_region 12 with (go_at_call 103;refine (akF _).mono ?_;rintro e w6 ⟨rfl,rfl⟩)
  go_region_held2 (λ W=>W.cell? ↑bt=some ↑tab/\W.cell? ↑w.heap.size=some (I kind)/\W.cell? ⟨w.heap.size,1,none⟩=some (I links)/\W.cell? ⟨w.heap.size,2,none⟩=some (I parent)/\W.cell? ⟨w.heap.size,3,none⟩=some (I 0)/\W.cell? ⟨w.heap.size,4,none⟩=some (I 0)/\W.cell? ⟨w.heap.size,5,none⟩=some (I 0)/\W.cell? ⟨w.heap.size,6,none⟩=some (I 0)/\W.cell? ⟨w.heap.size,7,none⟩=some (I 0)/\W.cell? ⟨w.heap.size,8,none⟩=some (I 0)/\W.cell? ⟨w.heap.size,9,none⟩=some (I 0)/\W.cell? ⟨w.heap.size,10,none⟩=some (I 0)/\W.cell? ⟨w.heap.size,11,none⟩=some (I 0)/\W.cell? ⟨w.heap.size,12,none⟩=some (I 0)/\W.cell? ⟨w.heap.size,13,none⟩=some (I 0)/\W.cell? ⟨w.heap.size,14,none⟩=some (I 0)/\W.cell? ⟨w.heap.size,15,none⟩=some (I 0)/\W.cell? ⟨w.heap.size,16,none⟩=some (I 0)) (first|exact ⟨ct5,rg5⟩|exact ⟨y7,y8⟩|exact ⟨r4,r5⟩)
   (first
    | (go_at_call 96;refine hS.out.mono ?_;intro e w6 hx;obtain ⟨g,c,rfl,y1,y2,y3,y4,y5,y6,y7,y8⟩:=hsl.out e w6 hx;clear hx;have hL:=a7.out w6 g c y1 y2 y3;replace ⟨y1,y4,y5,y6,hL⟩:=yh5 y1 y4 y5 y6 hL;clear y2 y3)
    | (go_at_call 104;refine hL.out.mono ?_;intro e w7 hx;obtain ⟨a9,q1,q2⟩:=hx;obtain ⟨r1,r2,r3,r4,r5⟩:=hfin.out w6 w7 g y1.out y4.out y5.out y6.out q1 q2;clear q1 q2;rcases a9 with ⟨hc,rfl⟩|⟨hc,rfl⟩;rotate_left;(exact ⟨rfl,a8.out w7 hc r1 r3 r2⟩);replace ⟨r1,r2,r3,hc⟩:=yh4 r1 r2 r3 hc))
  all_goals
   have hPP:=hPr.out w7 hc.out r1.out r3.out r2.out
   have cn:=r1.out.bb.cell 0
   have cf:=r1.out.bb.frz 0
   unfold intO at cn
   simp at cn
   clear r4 r5 y7 y8 ct5 rg5
   replace hPP:=hid hPP
   go_wp2
   go_end0
   exact hPP.out
 ·rw [if_neg a2] at a0
  have hPP:=hP.out (thrE (T.take C.G true).1.2) w5 (by rw [a0];exact ⟨adE a2,N5.pl.less (λ i hi=>.inl hi),e5.bb,kA⟩)
  generalize (T.take C.G true).1.2=ce at *
  generalize (T.take C.G true).1.1=num at *
  replace hPP:=hid hPP;clear N5 e5 b5 kA a0
  go_wp2_with (go_at_call 103;refine (ajH _ ce a2).mono ?_;rintro e w6 ⟨rfl,rfl⟩)
  exact ⟨rfl,hPP.out⟩
end
def TS.saveC (T:TS) (G:Geom) (k:Int) (n:Nd):Nat × TS:=
 if outN G k then (11,T)
 else if Ac4 n/\n.kind≠0 then
  (if (rdN (T.slot k.toNat)).1=0 then (if (rdN (T.slot k.toNat)).2.kind=n.kind then T.laySl k.toNat (encN n) else (1,T)) else ((rdN (T.slot k.toNat)).1,T))
 else (20,T)
theorem avG (n:Nd) (w:World):(Instr.field 39 (ndV n) 0).run prog w=.ok (I n.kind) w:=by kernel_rfl
theorem avF (n:Nd) (w:World):(Instr.field 39 (ndV n) 4).run prog w=.ok (I n.owned) w:=by kernel_rfl
section
variable {w w':World} {C:TxC} {T T':TS} {X Y:Nat->Prop} {tab p:Nat} {bk bt bn:Nat} {k:Int} {n:Nd}
theorem auL (h:Ab4 w C T X tab p) (ct:w.cell? ↑bt=some ↑tab) (ck:w.cell? ↑bk=some (I k)) (hb:Blk w bn (ndO n)) (hn:n.ptr.length=12)
  (a0:outN C.G k∨¬ (Ac4 n/\n.kind≠0)) :
  Calls prog 105 #[↑bt,↑bk,↑bn] w (AcI w C (T.saveC C.G k n).1 (T.saveC C.G k n).2 X NoF (λ _=>True)):=by
 have hK:=aiV h k
 by_cases ho:outN C.G k
 ·have hc:T.saveC C.G k n=(11,T):=if_pos ho
  rw [hc]
  have hP:∀ w',AaA NoF w w'->AcI w C 11 T X NoF (λ _=>True) (thrE 11) w':=λ w' kk=>⟨adE (by decide),h.pl.quiet kk,trivial,kk.mono λ _ _ f=>f.elim⟩
  dsimp only
  generalize AcI w C 11 T X NoF (λ _=>True)=Post at *
  replace ⟨h,hb,hK,hP,hc,ho,a0,hn⟩:=yh8 h hb hK hP hc ho a0 hn
  go_enter Tryz.func105,Tryz.ntmps105
  go_wp2_with fail
  refine hK.out.mono ?_
  rintro e w1 ⟨k1,hX⟩
  rcases hX with ⟨x,_⟩|⟨_,rfl⟩
  ·exact absurd ho.out x
  ·exact ⟨rfl,hP.out _ k1⟩
 ·have a1:¬ (Ac4 n/\n.kind≠0):=a0.elim (λ x=>absurd x ho) id
  have hc:T.saveC C.G k n=(20,T):=by unfold TS.saveC;rw [if_neg ho,if_neg a1]
  rw [hc]
  have hP:∀ w',AaA NoF w w'->AcI w C 20 T X NoF (λ _=>True) (thrE 20) w':=λ w' kk=>⟨adE (by decide),h.pl.quiet kk,trivial,kk.mono λ _ _ f=>f.elim⟩
  dsimp only
  generalize AcI w C 20 T X NoF (λ _=>True)=Post at *
  have hE:=λ w=>ajM w hn
  obtain ⟨d,ud,hd⟩:=acJ
  unfold ndV at hE
  replace ⟨hb,hK,hP,ho,hn,hE,ud,hd⟩:=yh8 hb hK hP ho hn hE ud hd;clear h hc a0
  go_enter Tryz.func105,Tryz.ntmps105
  go_wp2_with fail
  refine hK.out.mono ?_
  rintro e w1 ⟨k1,hX⟩
  rcases hX with ⟨_,rfl⟩|⟨x,_⟩
  rotate_left
  ·exact absurd x ho.out
  have b1:=k1.blk hb.out (λ f=>f)
  replace ⟨b1,k1⟩:=yh2 b1 k1
  clear hK ct ck
  go_upto_region 1 with fail
  go_step
  refine aaN rfl 39 (.tmp 2) rfl bn 0 39 (ndC n) 17 d rfl b1.out (by rw [aaM hn.out];decide) ud.out hd.out aaK ?_
  rw [abR hn.out]
  simp only [wz]
  go_wp2_with fail
  refine (hE.out _).mono ?_
  rintro e w2 ⟨k2,hX⟩
  have kk:=k1.out.step k2
  have b2:=k2.blk b1.out (λ f=>f)
  have c0:=(b2.cell 0).trans (abF hn.out).1
  have hPP:=hP.out _ kk
  rcases hX with ⟨hf,g,_,rfl,_⟩|⟨hf,rfl⟩
  ·have a2:n.kind=0:=aE7 λ x=>a1 ⟨hf,x⟩
   rw [a2] at c0
   clear b2 kk k2
   replace ⟨hPP,hf,a1⟩:=yh3 hPP hf a1;clear a2
   go_wp2_with fail
   exact ⟨rfl,hPP.out⟩
  ·clear b2 kk k2 c0
   replace hPP:=hid hPP;clear hf a1
   go_wp2_with fail
   exact ⟨rfl,hPP.out⟩
end
section
variable {w w':World} {C:TxC} {T T':TS} {X Y:Nat->Prop} {tab p:Nat} {bk bt bn:Nat} {q:Nat} {n:Nd}
theorem axP (h:Ab4 w C T X tab p) (h0:T.st=0) (ct:w.cell? ↑bt=some ↑tab) (ck:w.cell? ↑bk=some (I q)) (hb:Blk w bn (ndO n)) (hn:n.ptr.length=12)
  (xt:X bt) (xk:X bk) (xn:X bn) (ho:¬ outN C.G q) (hf:Ac4 n) (a9:n.kind≠0) :
  Calls prog 105 #[↑bt,↑bk,↑bn] w (AcI w C (T.saveC C.G q n).1 (T.saveC C.G q n).2 X NoF (λ _=>True)):=by
 have hK:=aiV h q
 have ho':=ho
 unfold outN at ho'
 have a4:T.saveC C.G q n=if (rdN (T.slot q)).1=0 then (if (rdN (T.slot q)).2.kind=n.kind then T.laySl q (encN n) else (1,T)) else ((rdN (T.slot q)).1,T):=by unfold TS.saveC;rw [if_neg ho,if_pos ⟨hf,a9⟩];rfl
 have hP:∀ w' e,endE (T.saveC C.G q n).1 e->Aa6 w' C (T.saveC C.G q n).2 X->AaA (KF C) w w'->AcI w C (T.saveC C.G q n).1 (T.saveC C.G q n).2 X NoF (λ _=>True) e w':=λ w' e a b c=>⟨a,b,trivial,c.mono λ _ _ x=>.inl x⟩
 generalize AcI w C (T.saveC C.G q n).1 (T.saveC C.G q n).2 X NoF (λ _=>True)=Post at *
 have hE:=λ w=>ajM w hn
 have hS:=λ (w:World) (h:Ab4 w C T X tab p)=>alY h h0 q (by omega) (by omega)
 have a2:=h.pl.len (nblk q) (aiU h.pl.geo (by omega))
 have ae:=h.pl.geo.n2
 have hH:=λ (w:World) (g c:Nat) (h:Blk w g (aaE (T.raw (nblk q)++aaD c)))=>aqC w q (nblk q) g c _ h (by rw [aEH,a2];omega) (by omega) (by omega)
 have hsl:∀ c,acD (T.raw (nblk q)++aaD c) (nix q)=T.slot q:=λ c=>ai8 a2 (agS q)
 have ac:=avG (rdN (T.slot q)).2
 have a6:=λ (i:Nat) (hi:X i)=>h.pl.notF hi
 have af:(n.kind == 0)=false:=by rw [aE2];simpa using a9
 obtain ⟨d,ud,hd⟩:=acJ
 unfold ndV at hE
 replace ⟨h,hb,hK,hP,a4,ho,hn,hE⟩:=yh8 h hb hK hP a4 ho hn hE;replace ⟨ud,hd,hS,hH,hsl,a6,hf,h0⟩:=yh8 ud hd hS hH hsl a6 hf h0;replace ho':=hid ho';clear a2 a9
 go_enter Tryz.func105,Tryz.ntmps105
 go_wp2_with fail
 refine hK.out.mono ?_
 rintro e w1 ⟨k1,hX⟩
 rcases hX with ⟨_,rfl⟩|⟨x,_⟩
 rotate_left
 ·exact absurd x ho.out
 have b1:=k1.blk hb.out (λ f=>f)
 replace ct:=k1.cellF ct (λ f=>f)
 replace ck:=k1.cellF ck (λ f=>f)
 replace ⟨b1,k1⟩:=yh2 b1 k1
 clear hK
 go_upto_region 1 with fail
 go_step
 refine aaN rfl 39 (.tmp 2) rfl bn 0 39 (ndC n) 17 d rfl b1.out (by rw [aaM hn.out];decide) ud.out hd.out aaK ?_
 rw [abR hn.out]
 simp only [wz]
 go_wp2_with fail
 refine (hE.out _).mono ?_
 rintro e w2 ⟨k2,hX⟩
 rcases hX with ⟨_,gE,_,rfl,_⟩|⟨x,_⟩
 rotate_left
 ·exact absurd hf.out x
 have kk:=k1.out.step k2
 have b2:=k2.blk b1.out (λ f=>f)
 have c0:=(b2.cell 0).trans (abF hn.out).1
 replace ct:=k2.cellF ct (λ f=>f)
 replace ck:=k2.cellF ck (λ f=>f)
 have N2:=h.out.quiet kk
 clear k2 k1 b1 hE
 replace ⟨b2,kk,N2⟩:=yh3 b2 kk N2
 go_wp2_with fail
 refine (hS.out _ N2.out).mono ?_
 rintro e w3 ⟨g,c,rfl,a5,hg,N3,k3⟩
 replace ct:=k3.cellF ct (a6.out bt xt)
 replace ck:=k3.cellF ck (a6.out bk xk)
 have b3:=k3.blk b2.out (a6.out bn xn)
 have kA:AaA (KF C) w w3:=(kk.out.mono (F:=λ _=>False) (G:=KF C) (λ _ _ f=>f.elim)).step k3
 have l3:=k3.size
 have lg:=hg.lt
 clear k3 c0 b2 hS
 replace ⟨hg,N3,b3,kA,a5,lg⟩:=yh6 hg N3 b3 kA a5 lg
 unfold afX
 go_upto_region 5 with fail
 have s4:=Blk.new w3 (ac5 q (nblk q) g (512+c))
 have kz4:AaA NoF w3 (w3.alloc (ac5 q (nblk q) g (512+c))):=(AaA.refl _ w3).alloc _
 have N4:=N3.out.quiet kz4
 have g4:=hg.out.alloc (ac5 q (nblk q) g (512+c))
 have b4:=b3.out.alloc (ac5 q (nblk q) g (512+c))
 have ct4:=aaU ct (ac5 q (nblk q) g (512+c))
 have kB:=kA.out.alloc (ac5 q (nblk q) g (512+c))
 have aa:=N3.out.pl.lt
 change Code.wp _ _ _ _ (w3.alloc (ac5 q (nblk q) g (512+c)))
 generalize w3.alloc (ac5 q (nblk q) g (512+c))=w4 at *
 clear kz4 hg b3 kA N3 ct ck
 have d0:w4.drew.cell? ↑w3.heap.size=some (I q):=by have:=s4.drew.cell 0;simpa using this
 have d1:w4.drew.cell? ⟨w3.heap.size,1,none⟩=some (I (nblk q:Nat)):=by have:=s4.drew.cell 1;simpa using this
 have d2:w4.drew.cell? ⟨w3.heap.size,2,none⟩=some (.slice ↑g 512 (512+c)):=by have:=s4.drew.cell 2;simpa using this
 have d3:w4.drew.cell? ↑bn=some (I n.kind):=(b4.drew.cell 0).trans (abF hn.out).1
 have a7:=hH.out w4.drew g c g4.drew
 rw [hsl.out c] at a7
 have a1:∀ w5,AaA NoF w4.drew w5->(rdN (T.slot q)).1≠0->Post (thrE (rdN (T.slot q)).1) w5:=λ w5 k5 hz=>by
  refine hP.out w5 _ ?_ ?_ ?_
  ·rw [a4.out,if_neg hz];exact adE hz
  ·rw [a4.out,if_neg hz];exact (N4.pl.less (λ i hi=>.inl hi)).quiet ((AaA.refl NoF w4).drew.step k5)
  ·exact kB.drew.step (k5.mono λ _ _ f=>f.elim)
 have hcel:∀ w5,AaA NoF w4.drew w5->w5.cell? ↑w3.heap.size=some (I q)/\w5.cell? ⟨w3.heap.size,1,none⟩=some (I (nblk q:Nat))/\w5.cell? ⟨w3.heap.size,2,none⟩=some (.slice ↑g 512 (512+c))/\w5.cell? ↑bn=some (I n.kind):=λ w5 k5=>⟨k5.cellF d0 (λ f=>f),k5.cellF d1 (λ f=>f),k5.cellF d2 (λ f=>f),k5.cellF d3 (λ f=>f)⟩
 replace ⟨N4,g4,b4,kB,a7,a1,hcel,aa⟩:=yh8 N4 g4 b4 kB a7 a1 hcel aa;clear s4
 go_region_held2 (λ W=>W.cell? ↑w3.heap.size=some (I q)/\W.cell? ⟨w3.heap.size,1,none⟩=some (I (nblk q:Nat))/\W.cell? ⟨w3.heap.size,2,none⟩=some (.slice ↑g 512 (512+c))/\W.cell? ↑bn=some (I n.kind)) (first|exact ⟨d0,d1,d2,d3⟩|exact y1)
  (first|(go_at_call 95;refine a7.out.mono ?_;intro e w5 hx;obtain ⟨k5,hX⟩:=hx;have y1:=hcel.out w5 k5;rcases hX with ⟨hz,rfl⟩|⟨hz,rfl⟩;rotate_left;(exact ⟨rfl,a1.out w5 k5 hz⟩);replace ⟨k5,hz⟩:=yh2 k5 hz))
 have k45:AaA NoF w4 w5:=(AaA.refl NoF w4).drew.step k5.out
 have N5:=N4.out.quiet k45
 have g5:=k45.blk g4.out (λ f=>f)
 have b5:=k45.blk b4.out (λ f=>f)
 have ct5:=k45.cellF ct4 (λ f=>f)
 have kC:=kB.out.step (k45.mono (F:=λ _=>False) (G:=KF C) λ _ _ f=>f.elim)
 obtain ⟨z0,z1,z2,z3⟩:=y1
 clear d0 d1 d2 d3 ct4 k45 k5 a7 a1 hcel N4 g4 b4 kB hH
 by_cases a3:(rdN (T.slot q)).2.kind=n.kind
 ·have a8:((rdN (T.slot q)).2.kind != n.kind)=false:=by simpa using a3
  have a0:T.saveC C.G q n=T.laySl q (encN n):=by rw [a4.out,if_pos hz.out,if_pos a3]
  have ad:=ho'.out
  have hL:=avD N5 h0.out q g c (by omega) (by omega) g5 (.inr ⟨a5.out,lg.out⟩) (by have:=aa.out tab N5.xt;have:=a5.out;exact λ e=>by have:=N2.out.pl.lt tab h.out.xt;omega) (by have:=a5.out;exact λ e=>by have:=N2.out.pl.lt p h.out.xp;omega) hn.out hf.out
  have hPP:∀ e w6,AnM w5 C (T.laySl q (encN n)) (Wid X w2 w3) g e w6->Post e w6:=λ e w6 ⟨x1,x2,x3⟩=>by
   refine hP.out w6 e ?_ ?_ ?_
   ·rw [a0];exact x1
   ·rw [a0];exact x2.less (λ i hi=>.inl hi)
   ·exact kC.trans x3 (λ i hi x=>x.elim id (λ e=>by have:=kk.out.size;have:=a5.out;omega))
  unfold afX ndV at hL
  replace ⟨N5,g5,b5,kC,a3,a0,hL,hPP⟩:=yh8 N5 g5 b5 kC a3 a0 hL hPP;clear ad
  go_upto_region 7 with fail
  clear ac a8
  go_step
  iterate 2 (refine aaR rfl _ _ (by go_simp;exact ⟨rfl,rfl⟩) ?_;simp only [wz])
  refine aaN rfl 39 (.tmp 2) rfl bn 0 39 (ndC n) 17 d rfl b5.out (by rw [aaM hn.out];decide) ud.out hd.out aaK ?_
  rw [abR hn.out]
  simp only [wz]
  go_wp2_with fail
  refine hL.out.mono ?_
  intro e w6 hx
  have hp6:=hPP.out e w6 hx
  obtain ⟨ab,_,_⟩:=hx
  rcases ab with ⟨hc,rfl⟩|⟨hc,rfl⟩
  ·replace hp6:=hid hp6
   clear hc
   go_wp2_with fail
   go_end0
   exact hp6.out
  ·exact ⟨rfl,hp6⟩
 ·have a8:((rdN (T.slot q)).2.kind != n.kind)=true:=by simpa using a3
  have a0:T.saveC C.G q n=(1,T):=by rw [a4.out,if_pos hz.out,if_neg a3]
  have hPP:=hP.out w5 (thrE 1) (by rw [a0];exact adE (c:=1) (by decide)) (by rw [a0];exact N5.pl.less (λ i hi=>.inl hi)) kC
  replace hPP:=hid hPP;clear N5 g5 b5 kC a3 a0
  go_wp2_with fail
  exact ⟨rfl,hPP.out⟩
end
end Go.Vk
